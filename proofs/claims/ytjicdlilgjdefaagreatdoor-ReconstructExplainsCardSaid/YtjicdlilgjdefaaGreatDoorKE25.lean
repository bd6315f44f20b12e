/- Proof that reconstructed trajectories are explained by their reports (part 25 of 27.) Conditions: those that each statement names. -/
import Derived.Test.YtjicdlilgjdefaaGreatDoorCards
import Derived.Test.YtjicdlilgjdefaaGreatDoorTie
import Derived.WalkKit
import Derived.ProofKit
import Derived.OpenShut
import Derived.SizedLaws
import Derived.Deep.DeepHandedRow
import Derived.Deep.DeepLaidRun
import Derived.Deep.SlicePairs
import Derived.Carry
import Derived.Lib.LaidU8
import Derived.Test.YtjicdlilgjdefaaGreatDoorKE18
import Derived.Test.YtjicdlilgjdefaaGreatDoorKE24
/- The law's check of the chapter's example, walked: exchanges and all. Conditions: none. -/
set_option linter.unusedSimpArgs false
set_option linter.unusedVariables false
set_option maxHeartbeats 2000000
set_option maxRecDepth 100000
namespace Go.Vt
open Go.RowKit Go.Proofs
def exR : List Zb := exL.map (·.Report)
theorem ZnG : chainL (cCp 2 exL) exL.length = [0, 2, 3] := by decide +kernel
def exK : List Zd := [tmd 0 0 0 0, tmd 2 2 4 0, tmd 9 3 4 0]
theorem Zi7 : kpT 2 exL = exK := by decide +kernel
theorem Zth : (gpT 5 exK (exK.length - 1)).length = 1 := by decide +kernel
theorem ZmB : ∀ x ∈ exL, TkOk x := fun x hx => by
 have h1 : M (0 : Rat) ≤ 8 ∧ M (1 : Rat) ≤ 8 ∧ M (2 : Rat) ≤ 8 ∧ M (9 : Rat) ≤ 8 := by decide +kernel
 simp only [exL, List.mem_cons, List.not_mem_nil, or_false] at hx
 rcases hx with rfl | rfl | rfl | rfl
 ·exact ⟨h1.1, by decide, by decide⟩
 ·exact ⟨h1.2.1, by decide, by decide⟩
 ·exact ⟨h1.2.2.1, by decide, by decide⟩
 ·exact ⟨h1.2.2.2, by decide, by decide⟩
theorem ZsH : ∀ x ∈ exK, TkOk x := fun x hx => ZmB x (by
 rw [← Zi7] at hx
 exact Zg5 hx)
theorem Zrk : Inc (spL exK) := fun i hi => by
 have h : i = 0 ∨ i = 1 := by
  have : (spL exK).length = 3 := rfl
  omega
 rcases h with rfl | rfl
 ·decide +kernel
 ·decide +kernel
def exU : List PU := (thrT exK 5 exK.length).1
theorem ZqK : exU.length = 2 ∧ (gi exU 0).In = ⟨⟨0, 0, false⟩, ⟨2, 0, false⟩, false, false⟩ ∧ (gi exU 0).F = ⟨0, 2, 0, 0⟩ ∧ (gi exU 1).In.From = ⟨9, 0, false⟩ := by decide +kernel
theorem Zpz (r : Zb) : corX [] r = ((r.Time : Rat), 0) := by
 have h : r.Device ∉ devL ([] : List Za) := fun h => by
  obtain ⟨x, hx, -⟩ := Zf5.1 h
  cases hx
 unfold corX
 rw [Zd1 (OffR.no (.inr h))]
 simp only [if_true]
 refine Prod.ext ?_ rfl
 show (r.Time : Rat) - Rat.divInt (0 + 0) 2 = (r.Time : Rat)
 rw [show Rat.divInt (0 + 0) 2 = 0 by decide +kernel]
 grind
theorem ZiK : ∀ cs : List Zb, tmXL [] cs = cs.map fun r => ⟨(r.Time : Rat), r⟩
 | [] => rfl
 | r :: cs => by
  have ih := ZiK cs
  unfold tmXL at *
  rw [List.filterMap_cons, List.map_cons, ← ih]
  unfold tmF
  rw [Zpz]
  rfl
theorem Zsy : ofL exR 1 = exR := by decide +kernel
theorem Zrb : repL exR [] 1 = exL := by
 unfold repL
 rw [Zsy, ZiK]
 decide +kernel
theorem ZmG {κ : Type} [DecidableEq κ] {X : List (κ × Bool)} (h : AddOk [] X []) : X = [] := List.length_eq_zero_iff.1 (Nat.le_zero.1 h.len)
theorem ZnV {R : List (Zb × Bool)} (h : AddOk [] R exR) : tmX R [] 1 = exL := by
 rw [ZiG (rs := exR) (es := []) (fun r _ => by have := h.mem r; simpa using this) (fun y => Iff.rfl)]
 exact Zrb
theorem Zk7 : ∀ r ∈ exR, RepV r := fun r hr => by
 simp only [exR, exL, List.map_cons, List.map_nil, List.mem_cons, List.not_mem_nil, or_false] at hr
 rcases hr with rfl | rfl | rfl | rfl <;> (constructor <;> decide)
theorem Zst {R : List (Zb × Bool)} (h : AddOk [] R exR) : KtX 2 R [] := ⟨⟨Nat.le_trans h.len (by decide), by decide, (fun y hy => by cases hy), fun r hr => Zk7 r (by have := (h.mem r).1 hr; simpa using this)⟩, by decide⟩
theorem ZoG {R : List (Zb × Bool)} (h : AddOk [] R exR) : explX 2 R [] (tmd 1 1 9 0).Report = 4 := by
 have hs : statR (sorted (pKR R)) (tmd 1 1 9 0).Report = statR exR (tmd 1 1 9 0).Report := Zh8 fun z => ((ZaG (pKR R)).mem_iff).trans (by have := h.mem z; simpa using this)
 unfold explX
 rw [hs, show (tmd 1 1 9 0).Report.Object = 1 from rfl, ZnV h, Zi7]
 decide +kernel
instance lst3K {α : Type} {enc : α → Array Value} {k : Nat} {x y z : α} {sp : List Value} [he : EncC enc k] (w0 : World) (L : List Blk) (b c : Nat) (T : TypeId) [h : AtC w0 L b (row enc [x, y, z] sp) T] : LstC w0 L (.slice (some ⟨b, 0, none⟩) 3 (c + 3)) α enc [x, y, z] := ⟨fun w hw => by
 obtain ⟨fz, hb⟩ := h.out w hw
 exact Zdq (c := c + 3) hb (Nat.le_add_left 3 c)⟩
instance lst4K {α : Type} {enc : α → Array Value} {k : Nat} {x y z u : α} {sp : List Value} [he : EncC enc k] (w0 : World) (L : List Blk) (b c : Nat) (T : TypeId) [h : AtC w0 L b (row enc [x, y, z, u] sp) T] : LstC w0 L (.slice (some ⟨b, 0, none⟩) 4 (c + 4)) α enc [x, y, z, u] := ⟨fun w hw => by
 obtain ⟨fz, hb⟩ := h.out w hw
 exact Zdq (c := c + 4) hb (Nat.le_add_left 4 c)⟩
abbrev sEx : ZU := ⟨2, 5⟩
set_option maxHeartbeats 8000000 in
theorem ZlG (w : World) : Calls Tryz.prog 10 ([] : List Value).toArray w (Ret (.bool true) w) := by
 refine Zg Tryz.func10 rfl Tryz.ntmps10 rfl ?_
 have hc : exL.length ≤ 4096 ∧ (∀ x ∈ exL, TkOk x) ∧ (-1048576 ≤ sEx.MaxSpeed ∧ sEx.MaxSpeed ≤ 1048576) := ⟨by decide, ZmB, by decide⟩
 have hcl : decide ((((cI (chainL (cCp 2 exL) exL.length)).length : Nat) : Int) = 3) = true := by rw [ZnG]; rfl
 repeat (first | (refine wkM ?_; try intro _) | (refine sC rfl rfl ?_ ?_; focus (first | exact trivial | exact hc)) | (refine sN rfl rfl ?_ ?_; (focus (first | exact trivial | exact hc)); intro _; (try simp only [List.cons_append, List.nil_append, List.append_nil])))
 rename_i b1 s1 c1
 obtain ⟨c, e1, e2⟩ := SlS.turn 3 (show cI (chainL (cCp 2 exL) exL.length) = [0, 2, 3] by rw [ZnG]; rfl) c1
 rw [← e1]
 simp only [← e2, hcl, Bool.not_true]
 clear e1 e2 c1
 rcases c.cases 3 with ⟨y0, -, -⟩ | ⟨bc, cc, sq, hc2, y1, y2, yne⟩
 ·cases y0
 rcases s1.cases 56 with ⟨x0, -, -⟩ | ⟨bs, cb, sp, hc1, x1, x2, xne⟩
 ·cases x0
 simp only [x1, x2, y1, y2, List.cons_append, List.nil_append]
 have hl3 : ([0, 2, 3] : List Int).length = 3 := rfl
 have hl4 : exL.length = 4 := rfl
 repeat (refine wkM ?_; try intro _)
 simp only [decide_eq_true (show gi ([0, 2, 3] : List Int) 0 = 0 from rfl), Bool.not_true]
 repeat (refine wkM ?_; try intro _)
 simp only [decide_eq_true (show gi ([0, 2, 3] : List Int) 1 = 2 from rfl), Bool.not_true]
 repeat (refine wkM ?_; try intro _)
 simp only [decide_eq_true (show gi ([0, 2, 3] : List Int) 2 = 3 from rfl), Bool.not_true]
 repeat (refine wkM ?_; try intro _)
 have hth : exK.length ≤ 19 ∧ (∀ x ∈ exK, TkOk x) ∧ Inc (spL exK) ∧ (-2147483648 ≤ sEx.MaxGap ∧ sEx.MaxGap ≤ 2147483648) := ⟨by decide, ZsH, Zrk, by decide⟩
 refine ZaK (S := SlS rP 36 exU) (fun _ => True) (fun q => [(0, .bool false), (1, .pointer (some ⟨b1, 0, none⟩)), (2, .slice (some ⟨bs, 0, none⟩) exL.length cb), (4, vSl q)]) (fun q => mS 115 q ++ [⟨bs, row Zi exL sp, 56⟩, ⟨b1, Zq sEx, 32⟩]) ?_ (fun u _ => ?_)
 ·(refine Zal (.v [0, 1, 2, 3, 4, 5, 6, 7, 8, 10] (.e1 9 (.e1 11 (.e1 12 (.fin))))) (_) (h := ?_); refine wkX ?_)
  (repeat (refine wkH ?_))
  repeat (first | (refine wkT ?_; try intro _) | (refine tC rfl rfl ?_ ?_; focus (exact hth)) | (refine uC rfl rfl ?_ ?_; focus (exact hth)) | (refine eN rfl rfl ?_ ?_; (focus (exact hth)); intro _; (try simp only [List.cons_append, List.nil_append, List.append_nil])))
  rename_i bq s9
  obtain ⟨u, e1, e2⟩ := SlS.turn 115 (show (thrT [gi exL 0, gi exL 2, gi exL 3] 5 [gi exL 0, gi exL 2, gi exL 3].length).1 = exU from rfl) s9
  exact ZK u trivial (by simp only [e1]; exact sbB) (by simp only [e2]; exact suB)
 clear y1 y2 yne hc2 hcl c x1 x2 s1
 repeat (first | (refine wkM ?_; try intro _) | (refine sC rfl rfl ?_ ?_; focus (exact trivial)) | (refine sN rfl rfl ?_ ?_; (focus (exact trivial)); intro _; (try simp only [List.cons_append, List.nil_append, List.append_nil])))
 rename_i pn
 obtain ⟨px, m1, m2⟩ := pn
 simp only [List.cons_append, List.nil_append]
 refine ZaK (S := { R : List (Zb × Bool) // AddOk [] R exR }) (fun _ => True) (fun q => [(0, .bool false), (1, .pointer (some ⟨b1, 0, none⟩)), (2, .slice (some ⟨bs, 0, none⟩) exL.length cb), (4, vSl u), (5, .pointer (some ⟨px, 0, none⟩)), (7, .int .i64 0)]) (fun q => ⟨m1, .obj (mRp q.1), 177⟩ :: ⟨m2, .obj (mEx []), 178⟩ :: ⟨px, vIn m1 m2, 180⟩ :: (mS 115 u ++ [⟨bs, row Zi exL sp, 56⟩, ⟨b1, Zq sEx, 32⟩])) ?_ (fun q _ => ?_)
 ·(refine Zal (.v [0, 1, 2, 3, 4, 5, 6, 7, 8, 9, 10, 11, 12, 13, 14, 15, 16] (.e1 17 (.v [18] (.e1 19 (.v [20, 21, 22] (.e1 23 (.e1 24 (.fin)))))))) ([⟨bs, row Zi exL sp, 56⟩]) (h := ?_); refine wkX ?_)
  (repeat (refine wkH ?_))
  repeat (refine wkT ?_; try intro _)
  rename_i bt
  have hadd : ([] : List (Zb × Bool)).length + exR.length ≤ 4096 ∧ ([] : List (Za × Bool)).length + ([] : List Za).length ≤ 4096 ∧ SetM ([] : List (Zb × Bool)) ∧ SetM ([] : List (Za × Bool)) ∧ (∀ r ∈ exR, RepV r) ∧ ∀ y ∈ ([] : List Za), ExV y := ⟨by decide, by decide, SetM.nil, SetM.nil, Zk7, (fun y hy => by cases hy)⟩
  refine eZ rfl rfl ?_ ?_ ?_
  ·intro q
   exact suB
  ·exact hadd
  intro q
  repeat (refine wkT ?_; try intro _)
  obtain ⟨⟨⟨R, X⟩, z⟩, k1, k2⟩ := q
  have hX := ZmG k2
  simp only at hX k1 ⊢
  subst hX
  exact ZK ⟨R, k1⟩ trivial sbB suB
 obtain ⟨R, hp⟩ := q
 have hk : KtX sEx.MaxSpeed R [] := Zst hp
 have hkg : KtX sEx.MaxSpeed R [] ∧ (-2147483648 ≤ sEx.MaxGap ∧ sEx.MaxGap ≤ 2147483648) := ⟨hk, by decide⟩
 have hlg : (gpT 5 (kpT 2 (tmX R [] 1)) ((kpT 2 (tmX R [] 1)).length - 1)).length = 1 := by
  rw [ZnV hp, Zi7]
  exact Zth
 obtain ⟨v1, -, -, -⟩ := ZqK
 have w2 : decide ((gi exU 0).In = (⟨ZbJ, ⟨((2 : Int) : Rat), 0, false⟩, false, false⟩ : ZD)) = true := by decide +kernel
 have w3 : decide ((gi exU 0).F = (⟨0, ((2 : Int) : Rat), 0, 0⟩ : ZG)) = true := by decide +kernel
 have w4 : decide ((gi exU 1).In.From = (⟨((9 : Int) : Rat), 0, false⟩ : ZH)) = true := by decide +kernel
 generalize exU = U at *
 rcases u.cases 115 with ⟨z0, -, -⟩ | ⟨bu, cu, su, hc4, z1, z2, zne⟩
 ·rw [z0] at v1
  cases v1
 simp only [z1, z2, List.cons_append, List.nil_append]
 repeat (first | (refine wkM ?_; try intro _) | (refine sC rfl rfl ?_ ?_; focus (exact hkg)) | (refine sN rfl rfl ?_ ?_; (focus (exact hkg)); intro _; (try simp only [List.cons_append, List.nil_append, List.append_nil])))
 rename_i g
 refine ZaK (S := Unit) (fun _ => True) (fun _ => [(0, .bool false), (4, .slice (some ⟨bu, 0, none⟩) U.length cu), (7, .int .i64 0), (8, vSl g), (9, .int .i64 0), (10, .int .i64 4), (11, .int .i64 0)]) (fun _ => mS 111 g ++ [⟨bu, row rP U su, 115⟩]) ?_ (fun _ _ => ?_)
 ·(refine Zal (.v [0, 1, 2, 3, 4, 5, 6, 7, 8, 9] (.e1 10 (.e1 11 (.fin)))) (_) (h := ?_); refine wkX ?_)
  (repeat (first | refine wkH ?_ | (refine tC rfl rfl ?_ ?_; focus (exact hk))))
  rw [show explX 2 R [] (ZA (gi exL 1)).Report = 4 from ZoG hp]
  repeat (refine wkT ?_; try intro _)
  exact ZK () trivial sbB suB
 clear hc hth hk hkg
 generalize gpT 5 (kpT 2 (tmX R [] 1)) ((kpT 2 (tmX R [] 1)).length - 1) = G at *
 repeat (refine wkM ?_; try intro _)
 refine jD 51 51 (h := ?_)
 (repeat (refine wkH ?_))
 simp only [decide_eq_true (show ((U.length : Nat) : Int) = 2 by omega)]
 (repeat (first | refine wkH ?_ | (refine tC rfl rfl ?_ ?_; focus (exact ⟨by decide, by decide⟩))))
 simp only [w2]
 (repeat (first | refine wkH ?_ | (refine tC rfl rfl ?_ ?_; focus (exact ⟨by decide, by decide⟩))))
 simp only [w3]
 (repeat (first | refine wkH ?_ | (refine tC rfl rfl ?_ ?_; focus (exact ⟨by decide, by decide⟩))))
 simp only [w4]
 (repeat (refine wkH ?_))
 simp only [decide_eq_true (show (0 : Int) = 0 from rfl)]
 (repeat (refine wkH ?_))
 simp only [decide_eq_true (show ((G.length : Nat) : Int) = 1 by omega)]
 (repeat (refine wkH ?_))
 try simp only [decide_eq_true (show (0 : Int) = 0 from rfl)]
 (repeat (refine wkH ?_))
 try simp only [decide_eq_true (show (4 : Int) = 4 from rfl)]
 (repeat (refine wkH ?_))
 refine Zo ?_
 refine Zr ?_
 repeat (refine wkM ?_; try intro _)
 exact Zf rfl rfl (fun w hw => Zh hw)
instance ZCl : SpecC Tryz.prog 10 [] (.bool true) True := ⟨fun _ w => ZlG w⟩
end Go.Vt
/- A short world: its batches, its intake, what they say of an object. Conditions: those that each statement names. -/
namespace Go.Vt
open Go.RowKit Go.Proofs
instance (priority := low) batMem {bs : List Bat} (w0 : World) (L : List Blk) (s : BatO bs) [h : SblC s.mem L] : BatC w0 L (vSl s.o) bs := ⟨fun w hw => s.reads (hw.sub h.out)⟩
theorem InkO.ink {rs : List Zb} {es : List Za} (w0 : World) (s : InkO rs es) : InkX w0 s.mem s.px s.R s.X := by
 unfold InkO.mem
 exact inkXOwn w0 _ s.px s.m1 s.m2 s.R s.X 180
instance (priority := low) inkMem {rs : List Zb} {es : List Za} (w0 : World) (L : List Blk) (s : InkO rs es) [h : SblC s.mem L] : InkX w0 L s.px s.R s.X := by
 obtain ⟨m1, m2, Tx, h1, h2, h3⟩ := (s.ink w0).out
 exact ⟨m1, m2, Tx, ⟨fun w hw => h1.out w (hw.sub h.out)⟩, ⟨fun w hw => h2.out w (hw.sub h.out)⟩, ⟨fun w hw => h3.out w (hw.sub h.out)⟩⟩
instance (priority := 50) osAny {α : Type} {enc : α → Array Value} {k : Nat} {xs : List α} (T : TypeId) (s : SlS enc k xs) (A L L1 : List Blk) [h : OwnS T s L L1] : OwnS T s (A ++ L) (A ++ L1) := ⟨by
 refine (h.out.append_left A).trans ?_
 rw [← List.append_assoc, ← List.append_assoc]
 exact List.perm_append_comm.append_right _⟩
class BmC (M L : List Blk) (L1 : outParam (List Blk)) : Prop where
 out : L.Perm (M ++ L1)
instance (priority := high) bmHere (M L : List Blk) : BmC M (M ++ L) L := ⟨.refl _⟩
instance (priority := low) sbpBat0 {bs : List Bat} (s : BatO bs) (L L1 : List Blk) [h : BmC s.mem L L1] : SbpC s.mem L := ⟨L1, h.out⟩
theorem ZnD (ps : List (List Png)) (cs : List (List Cll)) : ∀ i, i ≤ ps.length → (bR (batL ps cs i)).length = tot (ps.take i) ∧ ∀ r ∈ bR (batL ps cs i), ∃ x, r = rptP x
 | 0, _ => ⟨rfl, (fun r h => by cases h)⟩
 | i + 1, h => by
  obtain ⟨h1, h2⟩ := ZnD ps cs i (by omega)
  rw [batL, Zhz, ZnA]
  refine ⟨?_, fun r hr => ?_⟩
  ·rw [List.length_append, h1, List.length_map, ZdA h]
  ·rcases List.mem_append.1 hr with hr | hr
   ·exact h2 r hr
   ·obtain ⟨x, -, rfl⟩ := List.mem_map.1 hr
    exact ⟨x, rfl⟩
theorem Zm3 (ps : List (List Png)) (cs : List (List Cll)) : ∀ i, i ≤ cs.length → (bE (batL ps cs i)).length = tot (cs.take i) ∧ ∀ r ∈ bE (batL ps cs i), ∃ x, r = excC x
 | 0, _ => ⟨rfl, (fun r h => by cases h)⟩
 | i + 1, h => by
  obtain ⟨h1, h2⟩ := Zm3 ps cs i (by omega)
  rw [batL, ZhS, ZmW]
  refine ⟨?_, fun r hr => ?_⟩
  ·rw [List.length_append, h1, List.length_map, ZdA h]
  ·rcases List.mem_append.1 hr with hr | hr
   ·exact h2 r hr
   ·obtain ⟨x, -, rfl⟩ := List.mem_map.1 hr
    exact ⟨x, rfl⟩
structure BsOk (bs : List Bat) : Prop where
 n : bs.length ≤ 4
 r : (bR bs).length ≤ 12
 e : (bE bs).length ≤ 6
 rv : ∀ r ∈ bR bs, RepV r
 ev : ∀ y ∈ bE bs, ExV y
theorem Zti {ps : List (List Png)} {cs : List (List Cll)} (h : shB ps cs = true) (hn : ps.length = cs.length) : BsOk (batL ps cs ps.length) := by
 unfold shB at h
 simp only [Bool.and_eq_true, decide_eq_true_eq] at h
 obtain ⟨⟨h1, h2⟩, h3⟩ := h
 obtain ⟨a1, a2⟩ := ZnD ps cs ps.length (Nat.le_refl _)
 obtain ⟨b1, b2⟩ := Zm3 ps cs ps.length (by omega)
 rw [List.take_length] at a1
 rw [List.take_of_length_le (by omega)] at b1
 refine ⟨by rw [Zgi]; exact h1, by omega, by omega, fun r hr => ?_, fun y hy => ?_⟩
 ·obtain ⟨x, rfl⟩ := a2 r hr
  exact ZsW x
 ·obtain ⟨x, rfl⟩ := b2 y hy
  exact Zsv x
theorem ZsM {ps : List (List Png)} {cs : List (List Cll)} (h : shB ps cs = true) : ps.length ≤ 1048576 ∧ tot ps ≤ 1048576 ∧ tot cs ≤ 1048576 := by
 unfold shB at h
 simp only [Bool.and_eq_true, decide_eq_true_eq] at h
 omega
theorem BsOk.rs {bs : List Bat} (h : BsOk bs) : RsOk (bR bs) (bE bs) := ⟨h.r, h.e, fun y hy => (h.ev y hy).b, h.rv⟩
theorem BsOk.all {bs : List Bat} (h : BsOk bs) : bs.length ≤ 1048576 ∧ (bR bs).length ≤ 1048576 ∧ (bE bs).length ≤ 1048576 := by
 have := h.n; have := h.r; have := h.e; omega
theorem BsOk.ink {bs : List Bat} (h : BsOk bs) : (bs.length ≤ 1048576 ∧ (bR bs).length ≤ 4096 ∧ (bE bs).length ≤ 4096) ∧ (∀ r ∈ bR bs, RepV r) ∧ ∀ y ∈ bE bs, ExV y := by
 have := h.n; have := h.r; have := h.e
 exact ⟨by omega, h.rv, h.ev⟩
theorem InkO.memR {rs : List Zb} {es : List Za} (s : InkO rs es) (r : Zb) : r ∈ pKR s.R ↔ r ∈ rs := by
 have := s.r.mem r
 simpa using this
theorem InkO.memE {rs : List Zb} {es : List Za} (s : InkO rs es) (y : Za) : y ∈ pKE s.X ↔ y ∈ es := by
 have := s.e.mem y
 simpa using this
theorem InkO.xok {rs : List Zb} {es : List Za} (s : InkO rs es) (h : RsOk rs es) : XOk s.R s.X := by
 have h1 := s.r.len
 have h2 := s.e.len
 rw [List.length_nil, Nat.zero_add] at h1 h2
 exact ⟨Nat.le_trans h1 h.n, Nat.le_trans h2 h.en, fun y hy => h.ee y ((s.memE y).1 hy), fun r hr => h.rr r ((s.memR r).1 hr)⟩
theorem InkO.tm {rs : List Zb} {es : List Za} (s : InkO rs es) (o : Int) : tmX s.R s.X o = repL rs es o := ZiG (fun r _ => s.memR r) s.memE
theorem InkO.stat {rs : List Zb} {es : List Za} (s : InkO rs es) (r : Zb) : statR (sorted (pKR s.R)) r = statR rs r := Zh8 fun z => ((ZaG (pKR s.R)).mem_iff).trans (s.memR z)
theorem Zr2 (a b : Int) : -1048576 ≤ (setT a b).MaxSpeed ∧ (setT a b).MaxSpeed ≤ 1048576 := by
 show -1048576 ≤ 1 + a % 24 ∧ 1 + a % 24 ≤ 1048576
 omega
end Go.Vt
/- What the rows over worlds share: the witness's world with its two tables, and the reading of worlds and pings. Conditions: none. -/
namespace Go.Proofs.YtjicdlilgjdefaaGreatDoor
open Go.ChangeShapes Go.WideShapes Go.ChangeAt Go.RowKit Go.Deep Go.Vt
theorem rown : ownKnob Tryz.prog.godebug = none := by kernel_rfl
theorem rlaidOut : laidOutB Tryz.prog = true := by kernel_rfl
theorem ru5 : Tryz.prog.underlying 5 = some (.int .u8) := by kernel_rfl
theorem ru4 : Tryz.prog.underlying 4 = some .bool := by kernel_rfl
theorem rc5 : Tryz.prog.cellsOf 5 = 1 := by kernel_rfl
theorem rc4 : Tryz.prog.cellsOf 4 = 1 := by kernel_rfl
theorem ZbT {n : Int} (h : (Lit.int .u8 n).wf = true) : 0 ≤ n ∧ n ≤ 255 := by
 simp only [Lit.wf, Bool.and_eq_true, decide_eq_true_eq] at h
 exact ⟨h.1, h.2⟩
def LeW {H : Type} (P : Program) (t : TypeId) (d : DataW H) : Prop := ∀ n ∈ d.weights P t, n ≤ reachBytes
theorem ZqE {H : Type} {P : Program} {ts : List TypeId} {ds : List (DataW H)} (h : (DataW.weightsEach P ts ds).all (· ≤ reachBytes) = true) {j : Nat} {t : TypeId} {d : DataW H} (ht : ts[j]? = some t) (hd : ds[j]? = some d) : LeW P t d := fun n hn => by
 have := List.all_eq_true.1 h _ (DataW.weights_mem_each ht hd n hn)
 simpa using this
theorem ZdL {H : Type} {P : Program} {e : TypeId} : ∀ {l : List (DataW H)} {d : DataW H}, d ∈ l → ∀ n ∈ d.weights P e, n ∈ DataW.weightsAll P e l
 | [], _, h, _, _ => by cases h
 | x :: l, d, h, n, hn => by
  simp only [DataW.weightsAll, List.mem_append]
  rcases List.mem_cons.1 h with rfl | h
  ·exact .inl hn
  ·exact .inr (ZdL h n hn)
theorem Zng {H : Type} {P : Program} {t e : TypeId} {elems spare : List (DataW H)} (hu : P.underlying t = some (.slice e)) (h : LeW P t (.slice elems spare)) : (elems.length + spare.length) * P.bytesOf e ≤ reachBytes ∧ ∀ d ∈ elems, LeW P e d := by
 have hw : (DataW.slice elems spare).weights P t = (elems.length + spare.length) * P.bytesOf e :: (DataW.weightsAll P e elems ++ DataW.weightsAll P e spare) := by simp [DataW.weights, hu]
 unfold LeW at h
 rw [hw] at h
 exact ⟨h _ (.head _), fun d hd n hn => h n (.tail _ (List.mem_append_left _ (ZdL hd n hn)))⟩
theorem Zht {H : Type} {P : Program} {t : TypeId} {fs : Array Field} {parts : List (DataW H)} (hu : P.underlying t = some (.struct fs)) (h : LeW P t (.agg parts)) {i : Nat} {f : Field} {d : DataW H} (hf : fs[i]? = some f) (hd : parts[i]? = some d) : LeW P f.type d := fun n hn => by
 have hw : (DataW.agg parts).weights P t = DataW.weightsEach P (fs.toList.map (·.type)) parts := by simp [DataW.weights, hu]
 unfold LeW at h
 rw [hw] at h
 exact h n (DataW.weights_mem_each (by simp [hf]) hd n hn)
theorem ZeO {H : Type} {eH : TypeId × Value → H} {P : Program} {W : World} {base : Nat} {sp : Nat → Bool} {held : Bool} {fuel : Nat} {v : Value} {x : DataW H × List MemPlace} {α : Type} [Inhabited α] {enc : α → Array Value} {k : Nat} [he : EncC enc k] {t e : TypeId} (ht : P.underlying t = some (.slice e)) (hc : P.cellsOf e = k) {Q : α → Prop}
  (hel : ∀ n (cs : List Value) y, DataW.trod eH P W base sp held n e cs = some y → LeW P e y.1 → ∃ x : α, cs = (enc x).toList ∧ Q x)
  (h : DataW.trod eH P W base sp held fuel t [v] = some x) (hw : LeW P t x.1) :
  ∃ (s : Sl) (xs : List α), v = vSlc s ∧ ArgS W (vSlc s) enc xs ∧ (∀ x ∈ xs, Q x) ∧ xs.length * P.bytesOf e ≤ reachBytes := by
 rcases open_slice ht h with ⟨h0, _⟩ | ⟨a, len, cap, m, n, D, Pl, hcs, hb, hl, hm, hmm, hx, hcl⟩
 ·simp at h0
  subst h0
  exact ⟨⟨none, 0, 0⟩, [], rfl, ⟨.inl ⟨rfl, rfl⟩⟩, (fun x hx => by cases hx), by simp⟩
 ·simp at hcs
  subst hcs
  have hlm : len ≤ m := by rw [hmm]; split <;> omega
  have hx1 : x.1 = .slice ((List.range len).map D) ((List.range (m - len)).map fun j => D (len + j)) := by rw [hx]
  rw [hx1] at hw
  obtain ⟨w1, w2⟩ := Zng ht hw
  have each : ∀ i, i < len → ∃ z : α, (∃ cs', W.cells? base (a.add (i * k)) k = some cs' ∧ cs' = (enc z).toList) ∧ Q z := fun i hi => by
   obtain ⟨cs', c1, c2⟩ := hcl i (by omega)
   rw [hc] at c1
   obtain ⟨z, z1, z2⟩ := hel _ _ _ c2 (w2 _ (List.mem_map.2 ⟨i, List.mem_range.2 hi, rfl⟩))
   exact ⟨z, ⟨cs', c1, z1⟩, z2⟩
  obtain ⟨q, hq⟩ := choose_lt each
  refine ⟨⟨some a, len, cap⟩, (List.range len).map q, rfl, ⟨.inr ⟨a, cap, by simp [vSlc], by simpa using hl, fun i f k' u hi hk hu => ?_⟩⟩, fun z hz => ?_, ?_⟩
  ·simp only [List.length_map, List.length_range] at hi
   obtain rfl : k' = k := by rw [← hk default, he.size]
   simp only [List.getElem_map, List.getElem_range] at hu
   obtain ⟨cs', c1, c2⟩ := (hq i hi).1
   obtain ⟨_, hlen, hcell⟩ := World.cells?_some c1
   have hf : f < k' := by
    have := (Array.getElem?_eq_some_iff.1 hu).1
    rw [he.size] at this
    exact this
   have h1 := hcell f (by omega)
   rw [Zfn] at h1
   rw [h1]
   subst c2
   simpa using hu
  ·obtain ⟨i, hi, rfl⟩ := List.mem_map.1 hz
   exact (hq i (List.mem_range.1 hi)).2
  ·simp only [List.length_map, List.length_range] at w1 ⊢
   exact Nat.le_trans (Nat.mul_le_mul_right _ (Nat.le_add_right _ _)) w1
theorem ZkN : ∃ f0 f1 f2 f3 f4 f5 f6 f7, Tryz.prog.underlying 26 = some (.struct #[f0, f1, f2, f3, f4, f5, f6, f7]) ∧ f0.type = 5 ∧ f1.type = 5 ∧ f2.type = 5 ∧ f3.type = 5 ∧ f4.type = 5 ∧ f5.type = 5 ∧ f6.type = 5 ∧ f7.type = 4 ∧ f0.offset = 0 ∧ f1.offset = 1 ∧ f2.offset = 2 ∧ f3.offset = 3 ∧ f4.offset = 4 ∧ f5.offset = 5 ∧ f6.offset = 6 ∧ f7.offset = 7 := ⟨_, _, _, _, _, _, _, _, Tryz.underlying26, rfl, rfl, rfl, rfl, rfl, rfl, rfl, rfl, rfl, rfl, rfl, rfl, rfl, rfl, rfl, rfl⟩
theorem Zh6 {H : Type} {eH : TypeId × Value → H} {W : World} {base : Nat} {sp : Nat → Bool} {held : Bool} (n : Nat) (cs : List Value) (y : DataW H × List MemPlace) (h : DataW.trod eH Tryz.prog W base sp held n 26 cs = some y) : ∃ x : Png, cs = (ePng x).toList ∧ PngOk x := by
 obtain ⟨f0, f1, f2, f3, f4, f5, f6, f7, he, t0, t1, t2, t3, t4, t5, t6, t7, o0, o1, o2, o3, o4, o5, o6, o7⟩ := ZkN
 obtain ⟨xs, k, hk, hxy, hlen, hxl, hf⟩ := DataW.trod_struct he h
 have hc : Tryz.prog.cellsOf 26 = 8 := by kernel_rfl
 rw [hc] at hlen
 match xs, hxl, cs, hlen with
 | [y0, y1, y2, y3, y4, y5, y6, y7], _, [v0, v1, v2, v3, v4, v5, v6, v7], _ =>
  have g0 := hf 0 f0 rfl
  have g1 := hf 1 f1 rfl
  have g2 := hf 2 f2 rfl
  have g3 := hf 3 f3 rfl
  have g4 := hf 4 f4 rfl
  have g5 := hf 5 f5 rfl
  have g6 := hf 6 f6 rfl
  have g7 := hf 7 f7 rfl
  simp [o0, o1, o2, o3, o4, o5, o6, o7, t0, t1, t2, t3, t4, t5, t6, t7, rc5, rc4] at g0 g1 g2 g3 g4 g5 g6 g7
  obtain ⟨n0, p0, _, q0⟩ := DataW.trod_int ru5 g0
  obtain ⟨n1, p1, _, q1⟩ := DataW.trod_int ru5 g1
  obtain ⟨n2, p2, _, q2⟩ := DataW.trod_int ru5 g2
  obtain ⟨n3, p3, _, q3⟩ := DataW.trod_int ru5 g3
  obtain ⟨n4, p4, _, q4⟩ := DataW.trod_int ru5 g4
  obtain ⟨n5, p5, _, q5⟩ := DataW.trod_int ru5 g5
  obtain ⟨n6, p6, _, q6⟩ := DataW.trod_int ru5 g6
  obtain ⟨n7, p7, _⟩ := DataW.trod_bool ru4 g7
  simp only [List.cons.injEq, and_true] at p0 p1 p2 p3 p4 p5 p6 p7
  subst p0 p1 p2 p3 p4 p5 p6 p7
  exact ⟨⟨n0, n1, n2, n3, n4, n5, n6, n7⟩, rfl, ⟨ZbT q0, ZbT q1, ZbT q2, ZbT q3, ZbT q4, ZbT q5, ZbT q6⟩⟩
theorem Zq5 : ∃ f0 f1 f2 f3 f4 f5, Tryz.prog.underlying 125 = some (.struct #[f0, f1, f2, f3, f4, f5]) ∧ f0.type = 5 ∧ f1.type = 5 ∧ f2.type = 5 ∧ f3.type = 5 ∧ f4.type = 5 ∧ f5.type = 4 ∧ f0.offset = 0 ∧ f1.offset = 1 ∧ f2.offset = 2 ∧ f3.offset = 3 ∧ f4.offset = 4 ∧ f5.offset = 5 := ⟨_, _, _, _, _, _, Tryz.underlying125, rfl, rfl, rfl, rfl, rfl, rfl, rfl, rfl, rfl, rfl, rfl, rfl⟩
theorem Zn5 {H : Type} {eH : TypeId × Value → H} {W : World} {base : Nat} {sp : Nat → Bool} {held : Bool} (n : Nat) (cs : List Value) (y : DataW H × List MemPlace) (h : DataW.trod eH Tryz.prog W base sp held n 125 cs = some y) : ∃ x : Cll, cs = (eCll x).toList ∧ CllOk x := by
 obtain ⟨f0, f1, f2, f3, f4, f5, he, t0, t1, t2, t3, t4, t5, o0, o1, o2, o3, o4, o5⟩ := Zq5
 obtain ⟨xs, k, hk, hxy, hlen, hxl, hf⟩ := DataW.trod_struct he h
 have hc : Tryz.prog.cellsOf 125 = 6 := by kernel_rfl
 rw [hc] at hlen
 match xs, hxl, cs, hlen with
 | [y0, y1, y2, y3, y4, y5], _, [v0, v1, v2, v3, v4, v5], _ =>
  have g0 := hf 0 f0 rfl
  have g1 := hf 1 f1 rfl
  have g2 := hf 2 f2 rfl
  have g3 := hf 3 f3 rfl
  have g4 := hf 4 f4 rfl
  have g5 := hf 5 f5 rfl
  simp [o0, o1, o2, o3, o4, o5, t0, t1, t2, t3, t4, t5, rc5, rc4] at g0 g1 g2 g3 g4 g5
  obtain ⟨n0, p0, _, q0⟩ := DataW.trod_int ru5 g0
  obtain ⟨n1, p1, _, q1⟩ := DataW.trod_int ru5 g1
  obtain ⟨n2, p2, _, q2⟩ := DataW.trod_int ru5 g2
  obtain ⟨n3, p3, _, q3⟩ := DataW.trod_int ru5 g3
  obtain ⟨n4, p4, _, q4⟩ := DataW.trod_int ru5 g4
  obtain ⟨n5, p5, _⟩ := DataW.trod_bool ru4 g5
  simp only [List.cons.injEq, and_true] at p0 p1 p2 p3 p4 p5
  subst p0 p1 p2 p3 p4 p5
  exact ⟨⟨n0, n1, n2, n3, n4, n5⟩, rfl, ⟨ZbT q0, ZbT q1, ZbT q2, ZbT q3, ZbT q4⟩⟩
structure LdOk (W : World) (x : ZR) (ps : List Png) (cs : List Cll) : Prop where
 p : ArgS W (vSlc x.Pings) ePng ps
 c : ArgS W (vSlc x.Calls) eCll cs
 pk : ∀ z ∈ ps, PngOk z
 ck : ∀ z ∈ cs, CllOk z
 pl : ps.length ≤ 140737488355328
 cl : cs.length ≤ 140737488355328
theorem ZqA : ∃ f0 f1, Tryz.prog.underlying 120 = some (.struct #[f0, f1]) ∧ f0.type = 117 ∧ f1.type = 118 ∧ f0.offset = 0 ∧ f1.offset = 1 := ⟨_, _, Tryz.underlying120, rfl, rfl, rfl, rfl⟩
theorem ru117 : Tryz.prog.underlying 117 = some (.slice 26) := by kernel_rfl
theorem ru118 : Tryz.prog.underlying 118 = some (.slice 125) := by kernel_rfl
theorem ru22 : Tryz.prog.underlying 22 = some (.slice 120) := by kernel_rfl
theorem rc117 : Tryz.prog.cellsOf 117 = 1 := by kernel_rfl
theorem rc118 : Tryz.prog.cellsOf 118 = 1 := by kernel_rfl
theorem rc22 : Tryz.prog.cellsOf 22 = 1 := by kernel_rfl
theorem rreach {n b : Nat} (h : n * b ≤ reachBytes) (hb : 1 ≤ b) : n ≤ 140737488355328 := by
 have h1 : n * 1 ≤ n * b := Nat.mul_le_mul_left n hb
 have h2 : reachBytes ≤ 140737488355328 := by decide
 omega
theorem ZmI {H : Type} {eH : TypeId × Value → H} {W : World} {base : Nat} {sp : Nat → Bool} {held : Bool} (n : Nat) (cs : List Value) (y : DataW H × List MemPlace) (h : DataW.trod eH Tryz.prog W base sp held n 120 cs = some y) (hw : LeW Tryz.prog 120 y.1) : ∃ x : ZR, cs = (Zah x).toList ∧ ∃ ps qs, LdOk W x ps qs := by
 obtain ⟨f0, f1, he, t0, t1, o0, o1⟩ := ZqA
 obtain ⟨xs, k, hk, hxy, hlen, hxl, hf⟩ := DataW.trod_struct he h
 have hc : Tryz.prog.cellsOf 120 = 2 := by kernel_rfl
 rw [hc] at hlen
 rw [hxy] at hw
 match xs, hxl, cs, hlen, hw with
 | [y0, y1], _, [v0, v1], _, hw =>
  have g0 := hf 0 f0 rfl
  have g1 := hf 1 f1 rfl
  have w0 := Zht he hw (i := 0) (f := f0) (d := y0.1) rfl rfl
  have w1 := Zht he hw (i := 1) (f := f1) (d := y1.1) rfl rfl
  simp [o0, o1, t0, t1, rc117, rc118] at g0 g1
  rw [t0] at w0
  rw [t1] at w1
  obtain ⟨s0, ps, rfl, a0, k0, l0⟩ := ZeO (Q := PngOk) (enc := ePng) (k := 8) ru117 (by kernel_rfl) (fun n cs y h _ => Zh6 n cs y h) g0 w0
  obtain ⟨s1, qs, rfl, a1, k1, l1⟩ := ZeO (Q := CllOk) (enc := eCll) (k := 6) ru118 (by kernel_rfl) (fun n cs y h _ => Zn5 n cs y h) g1 w1
  exact ⟨⟨s0, s1⟩, rfl, ps, qs, a0, a1, k0, k1, rreach l0 (of_decide_eq_true (by kernel_rfl)), rreach l1 (of_decide_eq_true (by kernel_rfl))⟩
theorem ZgD {W : World} : ∀ {xs : List ZR}, (∀ x ∈ xs, ∃ ps qs, LdOk W x ps qs) → ∃ (ps : List (List Png)) (qs : List (List Cll)), xs.length = ps.length ∧ xs.length = qs.length ∧ ∀ i : Nat, i < xs.length → LdOk W (gi xs (i : Int)) (gi ps (i : Int)) (gi qs (i : Int))
 | [], _ => ⟨[], [], rfl, rfl, fun i h => absurd h (Nat.not_lt_zero _)⟩
 | x :: xs, h => by
  obtain ⟨ps, qs, h1, h2, h3⟩ := ZgD (xs := xs) fun z hz => h z (.tail _ hz)
  obtain ⟨p, q, h4⟩ := h x (.head _)
  refine ⟨p :: ps, q :: qs, by simp [h1], by simp [h2], fun i hi => ?_⟩
  cases i with
  | zero =>
   rw [Zl (by simp), Zl (by simp), Zl (by simp)]
   exact h4
  | succ i =>
   have hi' : i < xs.length := by simpa using hi
   have h5 := h3 i hi'
   rw [Zl hi', Zl (by omega), Zl (by omega)] at h5
   rw [Zl hi, Zl (by simp; omega), Zl (by simp; omega)]
   simpa using h5
theorem Zp3 : ∃ f0 f1 f2, Tryz.prog.underlying 24 = some (.struct #[f0, f1, f2]) ∧ f0.type = 22 ∧ f1.type = 5 ∧ f2.type = 5 ∧ f0.offset = 0 ∧ f1.offset = 1 ∧ f2.offset = 2 := ⟨_, _, _, Tryz.underlying24, rfl, rfl, rfl, rfl, rfl, rfl⟩
theorem ZlR {H : Type} {eH : TypeId × Value → H} {W : World} {base b0 : Nat} {r : Reach} {held : Bool} {v : Value} {d : DataW H} {p : List MemPlace} (hv : Value.okWide Tryz.prog W r b0 24 v) (h : DataW.Trod eH Tryz.prog W base (fun _ => true) held 24 v d p) (hw : LeW Tryz.prog 24 d) :
  ∃ (sl : Sl) (a b : Int) (ls : List ZR) (ps : List (List Png)) (cs : List (List Cll)), v = .agg (ZI ⟨sl, a, b⟩) ∧ WldIn W sl ls ps cs ∧ Bt a ∧ Bt b := by
 obtain ⟨f0, f1, f2, he, t0, t1, t2, o0, o1, o2⟩ := Zp3
 simp only [Value.okWide, he] at hv
 obtain ⟨cs, rfl, hs, _⟩ := hv
 have h3 : cs.size = 3 := by rw [hs]; kernel_rfl
 obtain ⟨fuel, hf⟩ := h
 obtain ⟨xs, k, hk, hxy, _, hxl, hg⟩ := DataW.trod_struct he hf
 obtain rfl : d = .agg (xs.map (·.1)) := congrArg Prod.fst hxy
 clear hxy
 match cs, h3, xs, hxl, hg, hw with
 | ⟨[c0, c1, c2]⟩, _, [y0, y1, y2], _, hg, hw =>
  have g0 := hg 0 f0 rfl
  have g1 := hg 1 f1 rfl
  have g2 := hg 2 f2 rfl
  have w0 := Zht he hw (i := 0) (f := f0) (d := y0.1) rfl rfl
  simp [Value.cells, o0, o1, o2, t0, t1, t2, rc5, rc22] at g0 g1 g2
  rw [t0] at w0
  obtain ⟨n1, p1, _, q1⟩ := DataW.trod_int ru5 g1
  obtain ⟨n2, p2, _, q2⟩ := DataW.trod_int ru5 g2
  simp only [List.cons.injEq, and_true] at p1 p2
  subst p1 p2
  obtain ⟨s0, ls, rfl, a0, k0, l0⟩ := ZeO (Q := fun x => ∃ ps qs, LdOk W x ps qs) (enc := Zah) (k := 2) ru22 (by kernel_rfl) (fun n cs y h hw => ZmI n cs y h hw) g0 w0
  obtain ⟨ps, qs, h1, h2, h3⟩ := ZgD k0
  refine ⟨s0, n1, n2, ls, ps, qs, rfl, ⟨a0, h1, h2, fun i hi => (h3 i hi).p, fun i hi => (h3 i hi).c, fun l hl => ?_, fun l hl => ?_, ?_, fun l hl => ?_, fun l hl => ?_⟩, ZbT q1, ZbT q2⟩
  ·obtain ⟨i, hi, rfl⟩ := List.getElem_of_mem hl
   rw [← Zl hi]
   exact (h3 i (by omega)).pk
  ·obtain ⟨i, hi, rfl⟩ := List.getElem_of_mem hl
   rw [← Zl hi]
   exact (h3 i (by omega)).ck
  ·have := rreach l0 (of_decide_eq_true (by kernel_rfl))
   omega
  ·obtain ⟨i, hi, rfl⟩ := List.getElem_of_mem hl
   rw [← Zl hi]
   exact (h3 i (by omega)).pl
  ·obtain ⟨i, hi, rfl⟩ := List.getElem_of_mem hl
   rw [← Zl hi]
   exact (h3 i (by omega)).cl
theorem Zmw {H : Type} {eH : TypeId × Value → H} {W : World} {base b0 : Nat} {r : Reach} {held : Bool} {v : Value} {d : DataW H} {p : List MemPlace} (hv : Value.okWide Tryz.prog W r b0 26 v) (h : DataW.Trod eH Tryz.prog W base (fun _ => true) held 26 v d p) :
  ∃ x : Png, v = .agg (ePng x) ∧ PngOk x := by
 obtain ⟨f0, f1, f2, f3, f4, f5, f6, f7, he, -⟩ := ZkN
 simp only [Value.okWide, he] at hv
 obtain ⟨cs, rfl, hs, _⟩ := hv
 obtain ⟨fuel, hf⟩ := h
 obtain ⟨x, h1, h2⟩ := Zh6 fuel _ _ hf
 refine ⟨x, ?_, h2⟩
 have h3 : cs = ePng x := Array.ext' (by simpa [Value.cells] using h1)
 rw [h3]
def cAcc : Array Value := #[.int .u8 128, .int .u8 191, .int .u8 160, .int .u8 191, .int .u8 128, .int .u8 159, .int .u8 144, .int .u8 191, .int .u8 128, .int .u8 143, .int .u8 0, .int .u8 0, .int .u8 0, .int .u8 0, .int .u8 0, .int .u8 0, .int .u8 0, .int .u8 0, .int .u8 0, .int .u8 0, .int .u8 0, .int .u8 0, .int .u8 0, .int .u8 0, .int .u8 0, .int .u8 0, .int .u8 0, .int .u8 0, .int .u8 0, .int .u8 0, .int .u8 0, .int .u8 0]
def cFirst : Array Value := (Pinned.utf8FirstZ.map fun (n : Nat) => Value.int .u8 (n : Int)).toArray
def putCells (cs : Array Value) : Obj → Obj
 | .cells _ t frozen => .cells cs t frozen
 | o => o
noncomputable def laidWorld (os : Os) : World :=
 { World.holding Tryz.prog os ⟨#[], #[], []⟩ with heap := ((World.holding Tryz.prog os ⟨#[], #[], []⟩).heap.modify 1 (putCells cFirst)).modify 2 (putCells cAcc) }
theorem ZpJ (os : Os) (args : Array Value) : laidMet Tryz.prog Rows.reconstructExplainsRow.laid ((laidWorld os).forCall (fun _ _ => 0) ⟨#[], args, []⟩).memory :=
 laidMet_of_run3 8 (by kernel_rfl) (by kernel_rfl) (by kernel_rfl)
end Go.Proofs.YtjicdlilgjdefaaGreatDoor
/- ReconstructExplains, walked. Conditions: those that each statement names. -/
namespace Go.Vt
open Go.RowKit Go.Proofs
theorem ZmS (rs : List Zb) (r : Zb) : statR rs r = 0 ∨ statR rs r = 1 ∨ statR rs r = 2 ∨ statR rs r = 3 := by
 unfold statR
 split
 ·exact .inl rfl
 ·split
  ·split
   ·exact .inr (.inr (.inr rfl))
   ·exact .inr (.inl rfl)
  ·exact .inr (.inr (.inl rfl))
theorem Zji {α : Type} [Inhabited α] (p : α → Bool) {l : List α} {m : Nat} (h : m < l.length) : (l.take (m + 1)).any p = ((l.take m).any p || p (gi l (m : Int))) := by
 rw [List.take_succ_eq_append_getElem h, List.any_append, Zl h]
 simp
set_option maxHeartbeats 8000000 in
theorem lexpl_spec (sl : Sl) (a b : Int) (p : Png) (ls : List ZR) (ps : List (List Png)) (cs : List (List Cll)) (w : World) (h : WldIn w sl ls ps cs) (ha : Bt a) (hb : Bt b) (hp : PngOk p) :
  Calls Tryz.prog 3 [.agg (ZI ⟨sl, a, b⟩), .agg (ePng p)].toArray w (Ret (.bool true) w) := by
 have hwc := WldC.mk h
 have hn : ps.length = cs.length := by rw [← h.np, h.nc]
 refine Zg Tryz.func3 rfl Tryz.ntmps3 rfl ?_
 repeat (refine wkM ?_; try intro _)
 rename_i b2 b3
 cases hsh : shB ps cs
 ·repeat (refine wkM ?_; try intro _)
  exact Zf rfl rfl (fun w hw => Zh hw)
 have hB := Zti hsh hn
 have hsm := ZsM hsh
 have hab : Bt a ∧ Bt b := ⟨ha, hb⟩
 have hsv := Zr2 a b
 simp only [Bool.not_true]
 repeat (refine wkM ?_; try intro _)
 refine ZaK (S := Nat × Nat × BatO (batL ps cs ps.length)) (fun _ => True) (fun q => [(5, vSl q.2.2.o), (6, .pointer (some ⟨q.1, 0, none⟩)), (7, .pointer (some ⟨q.2.1, 0, none⟩))]) (fun q => ⟨q.1, Zq (setT a b), 32⟩ :: ⟨q.2.1, Zc (rptP p), 35⟩ :: q.2.2.mem) ?_ (fun q _ => ?_)
 ·(refine ZrR (.v [0, 2, 4] (.br 1 (.v [3, 5] (.br 6 (.br 7 (.br 8 (.br 9 (.br 10 (.fin) (.no)) (.no)) (.no)) (.no)) (.br 7 (.br 6 (.br 8 (.br 9 (.br 10 (.fin) (.no)) (.no)) (.no)) (.no)) (.no)))) (.br 6 (.br 1 (.v [3, 5] (.br 7 (.br 8 (.br 9 (.br 10 (.fin) (.no)) (.no)) (.no)) (.no))) (.br 7 (.br 1 (.v [3, 5] (.br 8 (.br 9 (.br 10 (.fin) (.no)) (.no)) (.no))) (.no)) (.no))) (.br 7 (.br 1 (.v [3, 5] (.br 6 (.br 8 (.br 9 (.br 10 (.fin) (.no)) (.no)) (.no)) (.no))) (.br 6 (.br 1 (.v [3, 5] (.br 8 (.br 9 (.br 10 (.fin) (.no)) (.no)) (.no))) (.no)) (.no))) (.no))))) ([⟨b3, ePng p, 26⟩, ⟨b2, ZI ⟨sl, a, b⟩, 24⟩]) (h := ?_); refine wkQ ?_)
  repeat' (first | (with_reducible refine And.intro ?_ ?_) | (with_reducible exact True.intro) | (refine wkT ?_; try intro _) | (refine tC rfl rfl ?_ ?_; focus (first | exact trivial | exact hab | exact hp | exact hsm)) | (refine uC rfl rfl ?_ ?_; focus (first | exact trivial | exact hab | exact hp | exact hsm)) | (refine eN rfl rfl ?_ ?_; (focus (first | exact trivial | exact hab | exact hp | exact hsm)); intro _; (try simp only [List.cons_append, List.nil_append, List.append_nil])) | fail)
  all_goals exact ZfD ⟨_, _, _⟩ trivial sbB inferInstance
 obtain ⟨b6, b7, s0⟩ := q
 simp only
 generalize batL ps cs ps.length = bs at *
 generalize rptP p = r at *
 generalize hS : setT a b = s at *
 have hall := hB.all
 have hink := hB.ink
 have hrs := hB.rs
 repeat (first | (refine wkM ?_; try intro _) | (refine sC rfl rfl ?_ ?_; focus (exact hall)) | (refine sN rfl rfl ?_ ?_; (focus (exact hall)); intro _; (try simp only [List.cons_append, List.nil_append, List.append_nil])))
 rename_i s1 b8
 obtain ⟨r1, e1⟩ := s1
 simp only [List.append_assoc]
 have hkx : ∀ s3 : InkO (bR bs) (bE bs), KtX s.MaxSpeed s3.R s3.X := fun s3 => ⟨s3.xok hrs, hsv⟩
 (refine Zal (.v [0, 2, 3] (.e1 1 (.e1 4 (.v [5, 6, 7] (.e1 8 (.e1 9 (.fin))))))) ([⟨b6, Zq s, 32⟩, ⟨b7, Zc r, 35⟩]) (h := ?_); refine wkX ?_)
 (repeat (refine wkH ?_))
 repeat (first | (refine wkT ?_; try intro _) | (refine tC rfl rfl ?_ ?_; focus (first | exact hink | exact hkx _)) | (refine uC rfl rfl ?_ ?_; focus (first | exact hink | exact hkx _)) | (refine eN rfl rfl ?_ ?_; (focus (first | exact hink | exact hkx _)); intro _; (try simp only [List.cons_append, List.nil_append, List.append_nil])))
 rename_i s3
 have htm := s3.tm r.Object
 have hst := s3.stat r
 have hex : explX s.MaxSpeed s3.R s3.X r = if statR (sorted (pKR s3.R)) r = 0 then 0 else if statR (sorted (pKR s3.R)) r = 2 then 1 else if statR (sorted (pKR s3.R)) r = 3 then 2 else if (tmX s3.R s3.X r.Object).any (isT r) = false then 3 else if (kpT s.MaxSpeed (tmX s3.R s3.X r.Object)).any (isT r) then 5 else 4 := rfl
 rw [htm, hst] at hex
 generalize explX s.MaxSpeed s3.R s3.X r = ex at *
 have hr12 : (bR bs).length ≤ 1048576 := hall.2.1
 repeat (first | (refine wkM ?_; try intro _) | (refine sC rfl rfl ?_ ?_; focus (exact hr12)) | (refine sN rfl rfl ?_ ?_; (focus (exact hr12)); intro _; (try simp only [List.cons_append, List.nil_append, List.append_nil])))
 generalize hsr : statR (bR bs) r = st at *
 by_cases c2 : st = 2
 ·rw [if_neg (by omega), if_pos c2] at hex
  simp only [decide_eq_true c2]
  repeat (refine wkM ?_; try intro _)
  subst hex
  simp only [decide_eq_true (rfl : (0 : Int) = 0), decide_eq_true (rfl : (1 : Int) = 1)]
  repeat (refine wkM ?_; try intro _)
  exact Zf rfl rfl (fun w hw => Zh hw)
 simp only [decide_eq_false c2]
 repeat (refine wkM ?_; try intro _)
 by_cases c3 : st = 3
 ·rw [if_neg (by omega), if_neg c2, if_pos c3] at hex
  simp only [decide_eq_true c3]
  repeat (refine wkM ?_; try intro _)
  subst hex
  simp only [decide_eq_true (rfl : (0 : Int) = 0), decide_eq_true (rfl : (2 : Int) = 2)]
  repeat (refine wkM ?_; try intro _)
  exact Zf rfl rfl (fun w hw => Zh hw)
 simp only [decide_eq_false c3]
 repeat (refine wkM ?_; try intro _)
 by_cases c1 : st = 1
 ·rw [if_neg (by omega), if_neg c2, if_neg c3] at hex
  simp only [decide_eq_true c1]
  have hkk : RsOk (bR bs) (bE bs) ∧ (-1048576 ≤ s.MaxSpeed ∧ s.MaxSpeed ≤ 1048576) := ⟨hrs, hsv⟩
  have hTl := ZiJ (rs := bR bs) (es := bE bs) (o := r.Object)
  have hKl := Zho s.MaxSpeed (repL (bR bs) (bE bs) r.Object)
  have hKf := Zcy (cCp s.MaxSpeed (repL (bR bs) (bE bs) r.Object)) (repL (bR bs) (bE bs) r.Object).length
  have hKm := fun z => Zg5 (v := s.MaxSpeed) (l := repL (bR bs) (bE bs) r.Object) (x := z)
  have h12 := hB.r
  repeat (refine wkM ?_; try intro _)
  refine ZaK (S := SlS Zi 12 (repL (bR bs) (bE bs) r.Object) × SlS Zi 12 (kpT s.MaxSpeed (repL (bR bs) (bE bs) r.Object))) (fun _ => True) (fun q => [(7, .pointer (some ⟨b7, 0, none⟩)), (9, .int .i64 ex), (10, .int .i64 0), (11, .int .i64 3), (12, vSl q.1), (13, vSl q.2)]) (fun q => mS 56 q.2 ++ (mS 56 q.1 ++ [⟨b7, Zc r, 35⟩])) ?_ (fun q _ => ?_)
  ·(refine Zal (.v [0, 1, 2, 4, 5, 6, 7] (.e1 3 (.e1 8 (.e1 9 (.e1 10 (.fin)))))) ([⟨b8, Zs ⟨slH r1, slH e1⟩, 40⟩, ⟨b6, Zq s, 32⟩, ⟨b7, Zc r, 35⟩]) (h := ?_); refine wkX ?_)
   repeat' (first | (with_reducible refine And.intro ?_ ?_) | (with_reducible exact True.intro) | (refine wkT ?_; try intro _) | (refine tC rfl rfl ?_ ?_; focus (first | exact trivial | exact hrs | exact hkk)) | (refine uC rfl rfl ?_ ?_; focus (first | exact trivial | exact hrs | exact hkk)) | (refine eN rfl rfl ?_ ?_; (focus (first | exact trivial | exact hrs | exact hkk)); intro _; (try simp only [List.cons_append, List.nil_append, List.append_nil])) | fail)
   all_goals exact ZK ⟨_, _⟩ trivial sbB suB
  obtain ⟨sT, sK⟩ := q
  simp only
  generalize kpT s.MaxSpeed (repL (bR bs) (bE bs) r.Object) = K at *
  generalize repL (bR bs) (bE bs) r.Object = T at *
  repeat (refine wkM ?_; try intro _)
  refine Zp (S := Nat) (fun m => m ≤ T.length) (fun m => [(7, .pointer (some ⟨b7, 0, none⟩)), (9, .int .i64 ex), (10, .int .i64 0), (11, .int .i64 (if (T.take m).any (isT r) = true then 4 else 3)), (12, vSl sT), (13, vSl sK), (14, .int .i64 (m : Nat))]) (fun _ => mS 56 sK ++ (mS 56 sT ++ [⟨b7, Zc r, 35⟩])) (fun m => T.length - m) 0 (Nat.zero_le _) sbB suB (fun m hm => ?_)
  repeat (refine wkM ?_; try intro _)
  refine Zn rfl (fun h1 => ?_) (fun h1 => ?_)
  ·have hlt : m < T.length := by have := of_decide_eq_true h1; omega
   have ht := Zji (isT r) hlt
   rcases sT.cases 56 with ⟨x0, -, -⟩ | ⟨bt, ct, sp, hc1, x1, x2, -⟩
   ·rw [x0] at hlt
    cases hlt
   simp only [x1, x2, List.cons_append, List.nil_append]
   repeat (refine wkM ?_; try intro _)
   refine jD 7 7 (h := ?_)
   (repeat (refine wkH ?_))
   refine Zo ?_
   refine Zr ?_
   by_cases hc : (ZA (gi T (m : Int))).Report = r
   ·have e2 : (T.take (m + 1)).any (isT r) = true := by rw [ht, show isT r (gi T (m : Int)) = true from decide_eq_true hc, Bool.or_true]
    simp only [decide_eq_true hc]
    repeat (refine wkO ?_; try intro _)
    exact Zj (m + 1) hlt (by simp only [e2, if_true, x1]; exact sbB) suB (by omega)
   ·have e2 : (T.take (m + 1)).any (isT r) = (T.take m).any (isT r) := by rw [ht, show isT r (gi T (m : Int)) = false from decide_eq_false hc, Bool.or_false]
    simp only [decide_eq_false hc]
    repeat (refine wkO ?_; try intro _)
    exact Zj (m + 1) hlt (by simp only [e2, x1]; exact sbB) suB (by omega)
  have hge : m = T.length := by have := of_decide_eq_false h1; omega
  rw [List.take_of_length_le (by omega)]
  generalize hz : (if T.any (isT r) = true then (4 : Int) else 3) = z
  repeat (refine wkM ?_; try intro _)
  refine Zp (S := Nat) (fun m => m ≤ K.length) (fun m => [(7, .pointer (some ⟨b7, 0, none⟩)), (9, .int .i64 ex), (10, .int .i64 0), (11, .int .i64 (if (K.take m).any (isT r) = true then 5 else z)), (13, vSl sK), (15, .int .i64 (m : Nat))]) (fun _ => mS 56 sK ++ [⟨b7, Zc r, 35⟩]) (fun m => K.length - m) 0 (Nat.zero_le _) sbB suB (fun m hm => ?_)
  repeat (refine wkM ?_; try intro _)
  refine Zn rfl (fun h1 => ?_) (fun h1 => ?_)
  ·have hlt : m < K.length := by have := of_decide_eq_true h1; omega
   have ht := Zji (isT r) hlt
   rcases sK.cases 56 with ⟨x0, -, -⟩ | ⟨bt, ct, sp, hc1, x1, x2, -⟩
   ·rw [x0] at hlt
    cases hlt
   simp only [x1, x2, List.cons_append, List.nil_append]
   repeat (refine wkM ?_; try intro _)
   refine jD 7 7 (h := ?_)
   (repeat (refine wkH ?_))
   refine Zo ?_
   refine Zr ?_
   by_cases hc : (ZA (gi K (m : Int))).Report = r
   ·have e2 : (K.take (m + 1)).any (isT r) = true := by rw [ht, show isT r (gi K (m : Int)) = true from decide_eq_true hc, Bool.or_true]
    simp only [decide_eq_true hc]
    repeat (refine wkO ?_; try intro _)
    exact Zj (m + 1) hlt (by simp only [e2, if_true, x1]; exact sbB) suB (by omega)
   ·have e2 : (K.take (m + 1)).any (isT r) = (K.take m).any (isT r) := by rw [ht, show isT r (gi K (m : Int)) = false from decide_eq_false hc, Bool.or_false]
    simp only [decide_eq_false hc]
    repeat (refine wkO ?_; try intro _)
    exact Zj (m + 1) hlt (by simp only [e2, x1]; exact sbB) suB (by omega)
  have hge : m = K.length := by have := of_decide_eq_false h1; omega
  rw [List.take_of_length_le (by omega)]
  have hfin : ex = if K.any (isT r) = true then 5 else z := by
   rw [hex, ← hz]
   cases ht : T.any (isT r)
   ·rw [if_pos rfl, if_neg]
    ·rfl
    ·intro hk
     obtain ⟨y, hy, hyr⟩ := List.any_eq_true.1 hk
     have := List.any_eq_true.2 ⟨y, hKm y hy, hyr⟩
     rw [ht] at this
     cases this
   ·rw [if_neg (by decide), if_pos rfl]
  rw [← hfin]
  repeat (refine wkM ?_; try intro _)
  try simp only [decide_eq_true (rfl : (0 : Int) = 0)]
  repeat (refine wkM ?_; try intro _)
  try simp only [decide_eq_true (rfl : ex = ex)]
  repeat (refine wkM ?_; try intro _)
  exact Zf rfl rfl (fun w hw => Zh hw)
 ·have h0 := ZmS (bR bs) r
  rw [hsr] at h0
  rw [if_pos (by omega)] at hex
  simp only [decide_eq_false c1]
  repeat (refine wkM ?_; try intro _)
  subst hex
  simp only [decide_eq_true (rfl : (0 : Int) = 0)]
  repeat (refine wkM ?_; try intro _)
  exact Zf rfl rfl (fun w hw => Zh hw)
end Go.Vt
/- The card of ReconstructExplains. Conditions: none. -/
namespace Go.Proofs.YtjicdlilgjdefaaGreatDoor
open Go.ChangeShapes Go.WideShapes Go.ChangeAt Go.RowKit Go.Deep
def xplArgs : Array Value := #[.agg #[.slice none 0 0, .int .u8 0, .int .u8 0], .agg #[.int .u8 0, .int .u8 0, .int .u8 0, .int .u8 0, .int .u8 0, .int .u8 0, .int .u8 0, .bool false]]
theorem xpl_reads (os : Os) {H : Type} (enc : TypeId × Value → H) : ∃ places, DataW.whole enc Tryz.prog ((laidWorld os).forCall (fun _ _ => 0) ⟨#[], xplArgs, []⟩).memory Tryz.f3.params.toList Rows.reconstructExplainsSpec.vars false xplArgs.toList 8 = some ([.agg [.nil, .lit (.int .u8 0), .lit (.int .u8 0)], .agg [.lit (.int .u8 0), .lit (.int .u8 0), .lit (.int .u8 0), .lit (.int .u8 0), .lit (.int .u8 0), .lit (.int .u8 0), .lit (.int .u8 0), .lit (.bool false)]], [], places) :=
 ⟨[], by kernel_rfl⟩
theorem xpl_contract (H : Type) (enc : TypeId × Value → H) (W : World) (base : Nat) (args : Array Value) (ds gs : List (DataW H)) (before : List MemPlace)
  (hval : ∀ (j : Nat) t v, Tryz.f3.params[j]? = some t → args[j]? = some v → Value.okWide Tryz.prog W .any base t v)
  (hW : DataW.Whole enc Tryz.prog Tryz.f3.params.toList Rows.reconstructExplainsSpec.vars false W args.toList ds gs before)
  (hwt : (DataW.weightsEach Tryz.prog (Tryz.f3.params.toList ++ (OpenSpec.ofChange Rows.reconstructExplainsSpec).bare.plain.varTypes Tryz.prog) (ds ++ gs)).all (· ≤ reachBytes) = true) :
  Calls Tryz.prog 3 args W fun e W' => ∃ v, e = .returned v ∧ Rows.reconstructExplainsSpec.post enc Tryz.prog Tryz.f3 false true false false W args v W' := by
 have hW' := hW
 obtain ⟨p, q, hA0, hV, rfl, hfz, hnd⟩ := hW
 have hA : DataW.TrodAll enc Tryz.prog W 0 (fun _ => true) true Tryz.f3.params.toList args.toList ds p := hA0
 rw [Tryz.params3] at hA hval hwt
 obtain ⟨v0, vs0, d0, ds0, p0, q0, hargs0, rfl, rfl, h0, r0⟩ := trodAll_cons hA
 obtain ⟨v1, vs1, d1, ds1, p1, q1, hargs1, rfl, rfl, h1, r1⟩ := trodAll_cons r0
 subst hargs1
 obtain ⟨rfl, rfl, rfl⟩ := trodAll_nil r1
 obtain rfl : args = #[v0, v1] := by cases args; simp_all
 obtain ⟨rfl, rfl⟩ := trodVars_none hV
 clear hA0
 simp only [List.append_nil] at hW'
 have hlt : ∀ x ∈ p0 ++ (p1), x.block < W.heap.size := fun x hx => by simpa using hW'.lt x hx
 have h0k := h0
 have hw0 := ZqE hwt (j := 0) (t := 24) (d := d0) rfl rfl
 obtain ⟨sl, a, b, ls, ps, cs, rfl, hwl, ha, hb'⟩ := ZlR (hval 0 24 v0 rfl rfl) h0 hw0
 have h1k := h1
 obtain ⟨pg, rfl, hpg⟩ := Zmw (hval 1 26 v1 rfl rfl) h1
 refine (Go.Vt.lexpl_spec sl a b pg ls ps cs W hwl ha hb' hpg).mono fun e' W' ⟨he', ⟨hb, _⟩⟩ => ?_
 subst he'
 try simp only [List.append_nil] at hlt hW'
 exact ⟨_, rfl, ⟨_, _, _, [], _, [], hW', trodAll_mk1 (shut_bool Tryz.underlying4 _), trodAll_mk2 (Below.trod rlaidOut (by kernel_rfl) (of_decide_eq_true (by kernel_rfl)) h0k hb (fun x hx => hlt x (by simp [hx]))) (Below.trod rlaidOut (by kernel_rfl) (of_decide_eq_true (by kernel_rfl)) h1k hb (fun x hx => hlt x (by simp [hx]))), (by first | rfl | (simp; done)), hb.frame _, fun h => by cases h⟩⟩
theorem xpl_lifted (os : Os) (started : os.Started) (H : Type) (enc : TypeId × Value → H) (F : Stop.Interp) :
  ReturnsInHanded {} Tryz.checked os 3 .any ((OpenSpec.ofChange Rows.reconstructExplainsSpec).preRow enc Tryz.prog Tryz.f3 Rows.reconstructExplainsRow.domain false Rows.reconstructExplainsRow.laid) (((OpenSpec.ofChange Rows.reconstructExplainsSpec).at F).post enc Tryz.prog Tryz.f3 false true false false) := by
 obtain ⟨places, hx⟩ := xpl_reads os enc
 refine returnsInHanded_of_row (C := Tryz.checked) (s := OpenSpec.ofChange Rows.reconstructExplainsSpec) rown started (by kernel_rfl) Tryz.func3
  (witness_row_at (enc := enc) (C := Tryz.checked) false (laidWorld os) xplArgs rfl (by kernel_rfl) (by kernel_rfl) (by kernel_rfl)
   (OpenSpec.preRow_of_cond 8 hx (by kernel_rfl) (fun k hk => by cases hk) (by kernel_rfl) (ZpJ os _))) ?_
 intro W base args ds gs before hval hW _ _ hwt _ _ _
 exact xpl_contract H enc W base args ds gs before hval hW hwt
end Go.Proofs.YtjicdlilgjdefaaGreatDoor
