/- that the order in which batches arrive does not matter (part 14 of 27.) Conditions: those that each statement names. -/
import Derived.Test.YtjicdlilgjdefaaGreatDoorKO10
import Derived.Test.YtjicdlilgjdefaaGreatDoorKO13
/- The sort of few events, walked. Conditions: those that each statement names. -/
set_option linter.unusedSimpArgs false
set_option linter.unusedVariables false
set_option maxHeartbeats 2000000
set_option maxRecDepth 100000
namespace Go.Vt
open Go.RowKit Go.Proofs
theorem Zmo (w0 w : World) (L L1 : List Blk) (xs : List Za) (s : SlS Zd 5 xs) (T : TypeId) (lim : Int) [hd : OwnS T s L L1] (hl : xs.length ≤ 12) (hok : ∀ u ∈ xs, ExOk u) (hw : Own w0 L w) :
  Calls Tryz.prog 303 [vSl s, .int .i64 0, .int .i64 xs.length, .int .i64 lim, vFn 207].toArray w (RetX w0 (SrtSEx xs s) (fun _ => .tuple #[]) (fun s' => mS T s'.1 ++ L1)) := by
 refine Z1 Tryz.func303 rfl Tryz.ntmps303 rfl hw ?_
 repeat (refine wkB ?_; try intro _)
 refine Zq (S := Unit) (fun _ => True) (fun _ => [(0, vSl s), (1, .int .i64 0), (2, .int .i64 xs.length), (3, .int .i64 lim), (4, vFn 207), (10, .bool true), (11, .bool true)]) (fun _ => L) (fun _ => 0) () trivial sbB slB (fun _ _ => ?_)
 repeat (refine wkB ?_; try intro _)
 simp only [decide_eq_true (show (xs.length : Int) - 0 ≤ 12 by omega)]
 repeat (refine wkB ?_; try intro _)
 refine sZ rfl rfl ?_ ?_
 ·exact ⟨by omega, hok⟩
 intro s'
 repeat (refine wkB ?_; try intro _)
 exact Zdi rfl (fun w hw => ⟨s', rfl, hw⟩)
instance ZBg (w0 : World) (L L1 : List Blk) (xs : List Za) (s : SlS Zd 5 xs) (T : TypeId) (lim : Int) [hd : OwnS T s L L1] : SpecX Tryz.prog w0 L 303 [vSl s, .int .i64 0, .int .i64 xs.length, .int .i64 lim, vFn 207] (SrtSEx xs s) (fun _ => .tuple #[]) (fun s' => mS T s'.1 ++ L1) (xs.length ≤ 12 ∧ ∀ u ∈ xs, ExOk u) := ⟨fun hp w hw => Zmo w0 w L L1 xs s T lim hp.1 hp.2 hw⟩
theorem ZjY (w0 w : World) (L L1 : List Blk) (xs : List Za) (s : SlS Zd 5 xs) (T : TypeId) [hd : OwnS T s L L1] (hl : xs.length ≤ 12) (hok : ∀ u ∈ xs, ExOk u) (hw : Own w0 L w) :
  Calls Tryz.prog 258 [vSl s, vFn 207].toArray w (RetX w0 (SrtSEx xs s) (fun _ => .tuple #[]) (fun s' => mS T s'.1 ++ L1)) := by
 refine Z1 Tryz.func258 rfl Tryz.ntmps258 rfl hw ?_
 repeat (first | (refine wkB ?_; try intro _) | (refine sC rfl rfl ?_ ?_; focus (omega)) | (refine sN rfl rfl ?_ ?_; (focus (omega)); intro _; (try simp only [List.cons_append, List.nil_append, List.append_nil])))
 refine sZ rfl rfl ?_ ?_
 ·exact ⟨hl, hok⟩
 intro s'
 repeat (refine wkB ?_; try intro _)
 exact Zam rfl (fun w hw => ⟨s', rfl, hw⟩)
instance ZxQ (w0 : World) (L L1 : List Blk) (xs : List Za) (s : SlS Zd 5 xs) (T : TypeId) [hd : OwnS T s L L1] : SpecX Tryz.prog w0 L 258 [vSl s, vFn 207] (SrtSEx xs s) (fun _ => .tuple #[]) (fun s' => mS T s'.1 ++ L1) (xs.length ≤ 12 ∧ ∀ u ∈ xs, ExOk u) := ⟨fun hp w hw => ZjY w0 w L L1 xs s T hp.1 hp.2 hw⟩
end Go.Vt
/- Units sorted and divided into single instants and open intervals, walked. Conditions: those that each statement names. -/
namespace Go.Vt
open Go.RowKit Go.Proofs
class LstN (w0 : World) (L : List Blk) (v : Value) (α : outParam Type) (enc : outParam (α → Array Value)) (xs : outParam (List α)) : Prop where
 out : ∀ w, Own w0 L w → ArgS w v enc xs
 nil : xs = [] → v = .slice none 0 0
instance lstNOwn {α : Type} {enc : α → Array Value} {k : Nat} {xs : List α} [he : EncC enc k] (w0 : World) (L L1 : List Blk) (T : TypeId) (s : SlS enc k xs) [h : OwnS T s L L1] : LstN w0 L (vSl s) α enc xs := ⟨(lstOwn w0 L L1 T s).out, fun h0 => by
 rcases s.cases T with ⟨-, hv, -⟩ | ⟨b, c, sp, h1, hv, hm, hne⟩
 ·exact hv
 ·exact absurd h0 hne⟩
instance ZzZ : BsC Tryz.prog 157 0 [] (row rU [] []) 224 := ⟨fun w => by kernel_rfl⟩
theorem Zmr (v : Value) (us : List UL) (w : World) (hv : ArgS w v rU us) (hn : us = [] → v = .slice none 0 0) (hl : us.length ≤ 1048576) :
  Calls Tryz.prog 223 [v].toArray w (RetM (SlS rU 36 us) (fun s => vSl s) (fun s => mS 224 s) w) := by
 by_cases h0 : us = []
 ·obtain rfl := hn h0
  subst h0
  refine Zg Tryz.func223 rfl Tryz.ntmps223 rfl ?_
  repeat (refine wkB ?_; try intro _)
  exact Zf rfl rfl (fun w hw => ⟨SlS.no, rfl, hw⟩)
 ·obtain ⟨bw, ow, cw, rfl, hcw, hrow⟩ := hv.blk (k := 35) h0 []
  have hrow' : ∀ L, RowC w L bw ow UL rU us := fun L => ⟨fun w' hw' => hrow.out w' (hw'.sub (List.nil_sublist _))⟩
  refine Zg Tryz.func223 rfl Tryz.ntmps223 rfl ?_
  repeat (refine wkB ?_; try intro _)
  refine sG rfl rfl ?_ h0 ?_ ?_ ?_ ?_ ?_
  ·rfl
  ·rfl
  ·rfl
  ·decide
  ·exact ⟨by omega, by omega⟩
  intro s'
  repeat (refine wkB ?_; try intro _)
  exact Zf rfl rfl (fun w hw => ⟨s', rfl, hw.sub suB⟩)
instance ZAb (w0 : World) (L : List Blk) (v : Value) (us : List UL) [h : LstN w0 L v UL rU us] : SpecR Tryz.prog w0 L 223 [v] (SlS rU 36 us) (fun s => vSl s) (fun s => mS 224 s) (us.length ≤ 1048576) := ⟨fun hl w hw => Zmr v us w (h.out w hw) h.nil hl⟩
instance ZqE : CallC Tryz.prog 224 := ⟨by kernel_rfl⟩
def sor (us : List UL) : List UL := srt us (us.length - 1)
theorem Zj2 (v : Value) (us : List UL) (w : World) (hv : ArgS w v rU us) (hn : us = [] → v = .slice none 0 0) (hl : us.length ≤ 19) (hok : ∀ u ∈ us, IvOk BQ u.In) :
  Calls Tryz.prog 174 [v].toArray w (RetM (SlS rU 36 (sor us)) (fun s => vSl s) (fun s => mS 224 s) w) := by
 have : ∀ L, LstN w L v UL rU us := fun L => ⟨fun w' hw' => hv.to hw'.ext, hn⟩
 refine Zg Tryz.func174 rfl Tryz.ntmps174 rfl ?_
 repeat (first | (refine wkB ?_; try intro _) | (refine sC rfl rfl ?_ ?_; focus (omega)) | (refine sN rfl rfl ?_ ?_; (focus (omega)); intro _; (try simp only [List.cons_append, List.nil_append, List.append_nil])))
 rename_i s
 refine sZ rfl rfl ?_ ?_
 ·exact ⟨hl, hok⟩
 intro s'
 repeat (refine wkB ?_; try intro _)
 exact Zf rfl rfl (fun w hw => ⟨s'.1, by show Ending.returned (vSl s) = Ending.returned (vSl s'.1); rw [s'.2], hw.sub suB⟩)
instance Zyn (w0 : World) (L : List Blk) (v : Value) (us : List UL) [h : LstN w0 L v UL rU us] : SpecR Tryz.prog w0 L 174 [v] (SlS rU 36 (sor us)) (fun s => vSl s) (fun s => mS 224 s) (us.length ≤ 19 ∧ ∀ u ∈ us, IvOk BQ u.In) := ⟨fun hp w hw => Zj2 v us w (h.out w hw) h.nil hp.1 hp.2⟩
end Go.Vt
/- Units divided into single instants and open intervals, walked. Conditions: those that each statement names. -/
namespace Go.Vt
open Go.RowKit Go.Proofs
section
variable {P : Program} {α : Type} {enc : α → Array Value} {k : Nat} {xs ys : List α}
instance ldVS {T e : TypeId} {s : SlS enc k xs} [h : UndC P T (.slice e)] : LdC P T #[vSl s] 0 (vSl s) := ⟨Zy (by simp [oneB, h.out]) rfl⟩
theorem ZdP (s : SlS enc k xs) : (vSl s).cells = #[vSl s] := by
 rcases s.cases 0 with ⟨-, hv, -⟩ | ⟨b, c, sp, -, hv, -, -⟩ <;> rw [hv] <;> rfl
theorem Zsc (s : SlS enc k xs) : (vSl s).oneCell' = true := by
 rcases s.cases 0 with ⟨-, hv, -⟩ | ⟨b, c, sp, -, hv, -, -⟩ <;> rw [hv] <;> rfl
instance stVS {T : TypeId} {v : Value} {s : SlS enc k xs} [h : SizeC P T 1] : StC P T #[v] 0 (vSl s) #[vSl s] := ⟨by rw [ZdP]; exact h.out, by rw [ZdP]; rfl, by rw [ZdP]; simp [Zsc], by rw [ZdP]; rfl⟩
end
theorem Zg4 {P : Program} {w0 : World} {n : Nat} {c : Code} {Q : Exit → Act → World → Prop} {E : Env} {L : List Blk} (L' : List Blk) (p : L.Perm L') (h : J P w0 n c Q E L') : J P w0 n c Q E L := ⟨fun a w ha hw => h.out a w ha (hw.perm p)⟩
def at1 (t : ZH) (f : ZG) : UL := ⟨⟨t, t, false, false⟩, f⟩
theorem ZlO (w0 w : World) (L2 : List Blk) (b : Nat) (xs : List UL) (s : SlS rU 36 xs) (t : ZH) (f : ZG) (hl : xs.length ≤ 1048576) (hw : Own w0 (mS 224 s ++ ⟨b, #[vSl s], 157⟩ :: L2) w) :
  Calls Tryz.prog 227 [vR t, vLn f, .pointer (some ⟨b, 0, none⟩)].toArray w (RetX w0 (SlS rU 36 (xs ++ [at1 t f])) (fun _ => .tuple #[]) (fun s' => mS 224 s' ++ ⟨b, #[vSl s'], 157⟩ :: L2)) := by
 refine Z1 Tryz.func227 rfl Tryz.ntmps227 rfl hw ?_
 repeat (refine wkB ?_; try intro _)
 refine sU rfl rfl ?_ ?_ ?_ ?_
 ·rfl
 ·rfl
 ·exact ⟨by decide, by omega, by omega⟩
 intro s'
 repeat (refine wkB ?_; try intro _)
 exact Zam rfl (fun w hw => ⟨s', rfl, hw.sub suB⟩)
instance ZC7 (w0 : World) (L L1 L2 : List Blk) (b : Nat) {xs : List UL} (s : SlS rU 36 xs) (t : ZH) (f : ZG) [h1 : DelC b L #[vSl s] 157 L1] [h2 : OwnS 224 s L1 L2] : SpecX Tryz.prog w0 L 227 [vR t, vLn f, .pointer (some ⟨b, 0, none⟩)] (SlS rU 36 (xs ++ [at1 t f])) (fun _ => .tuple #[]) (fun s' => mS 224 s' ++ ⟨b, #[vSl s'], 157⟩ :: L2) (xs.length ≤ 1048576) := ⟨fun hl w hw =>
 ZlO w0 w L2 b xs s t f hl (hw.perm ((h1.out.trans (h2.out.cons _)).trans List.perm_middle.symm))⟩
def inn1 (u : UL) : UL := ⟨⟨u.In.From, u.In.To, true, true⟩, u.F⟩
def atU (u : UL) : List UL := (if u.In.OpenFrom = true then [] else [at1 u.In.From u.F]) ++ (if u.In.From = u.In.To then [] else inn1 u :: if u.In.OpenTo = true then [] else [at1 u.In.To u.F])
def atm (us : List UL) : Nat → List UL
 | 0 => []
 | m + 1 => atm us m ++ atU (gi us (m : Int))
theorem ZrJ (u : UL) : (atU u).length ≤ 3 := by
 unfold atU
 split <;> split <;> (try split) <;> simp
theorem ZfK (us : List UL) : ∀ m, (atm us m).length ≤ 3 * m
 | 0 => Nat.le_refl _
 | m + 1 => by
  have := ZfK us m
  have := ZrJ (gi us (m : Int))
  rw [atm, List.length_append]
  omega
theorem Zmk (v : Value) (us : List UL) (w : World) (hv : ArgS w v rU us) (hl : us.length ≤ 65536) :
  Calls Tryz.prog 176 [v].toArray w (RetM (SlS rU 36 (atm us us.length)) (fun s => vSl s) (fun s => mS 224 s) w) := by
 refine Zg Tryz.func176 rfl Tryz.ntmps176 rfl ?_
 obtain ⟨p, cp, rfl⟩ := hv.form
 repeat (refine wkB ?_; try intro _)
 rename_i b3
 refine Zq (S := (xs : List UL) × Nat × SlS rU 36 xs) (fun s => s.2.1 ≤ us.length ∧ s.1 = atm us s.2.1) (fun s => [(3, .pointer (some ⟨b3, 0, none⟩)), (4, .func (.func 227) #[] [.pointer (some ⟨b3, 0, none⟩)].toArray), (8, .slice p us.length cp), (9, .int .i64 us.length), (10, .int .i64 (s.2.1 : Nat))]) (fun s => mS 224 s.2.2 ++ [⟨b3, #[vSl s.2.2], 157⟩]) (fun s => us.length - s.2.1) ⟨[], 0, SlS.no⟩
  ⟨Nat.zero_le _, rfl⟩ sbB slB (fun s hs => ?_)
 obtain ⟨xs, m, s⟩ := s
 obtain ⟨hm, hxs⟩ := hs
 simp only at hm hxs ⊢
 repeat (refine wkB ?_; try intro _)
 refine Zl rfl (fun h => ?_) (fun h => ?_)
 ·have hlt : m < us.length := by have := of_decide_eq_true h; omega
  have hne : us ≠ [] := fun h0 => by rw [h0] at hlt; simp at hlt
  obtain ⟨bw, ow, cw, hvw, hcw, hrow⟩ := hv.blk (k := 35) hne []
  injection hvw with e1 e2 e3
  subst e1
  subst e3
  have hrow' : ∀ L, RowC w L bw ow UL rU us := fun L => ⟨fun w' hw' => hrow.out w' (hw'.sub (List.nil_sublist _))⟩
  have hxl := ZfK us m
  rw [← hxs] at hxl
  obtain ⟨u, hu⟩ : ∃ u, u = gi us (m : Int) := ⟨_, rfl⟩
  have hnx : atm us (m + 1) = xs ++ atU u := by rw [atm, hxs, hu]
  repeat (refine wkB ?_; try intro _)
  simp only [← hu]
  rename_i b6
  refine Zg4 (mS 224 s ++ [⟨b3, #[vSl s], 157⟩, ⟨b6, rU u, 224⟩]) (by
   have h1 := (List.perm_append_singleton (⟨b6, rU u, 224⟩ : Blk) (mS 224 s ++ [⟨b3, #[vSl s], 157⟩])).symm
   rw [List.append_assoc] at h1
   exact h1) ?_
  refine ZaR (S := (ys : List UL) × SlS rU 36 ys) (fun s' => s'.1 = xs ++ (if u.In.OpenFrom = true then [] else [at1 u.In.From u.F])) (fun s' => [(6, .pointer (some ⟨b6, 0, none⟩)), (3, .pointer (some ⟨b3, 0, none⟩)), (4, .func (.func 227) #[] [.pointer (some ⟨b3, 0, none⟩)].toArray), (8, .slice (some ⟨bw, ow, none⟩) us.length cp), (9, .int .i64 us.length), (10, .int .i64 (m : Nat))])
   (fun s' => mS 224 s'.2 ++ [⟨b3, #[vSl s'.2], 157⟩, ⟨b6, rU u, 224⟩]) ?_ (fun s' hs' => ?_)
  ·rcases ho : u.In.OpenFrom with _ | _
   ·repeat (refine wkB ?_; try intro _)
    refine sY rfl rfl ?_ ?_
    ·omega
    intro s'
    repeat (refine wkB ?_; try intro _)
    exact ZT ⟨_, s'⟩ rfl sbB suB
   ·repeat (refine wkB ?_; try intro _)
    exact ZT ⟨_, s⟩ (by rw [if_pos rfl, List.append_nil]) sbB suB
  obtain ⟨ys, s'⟩ := s'
  simp only at hs' ⊢
  have hyl : ys.length ≤ 3 * m + 1 := by rw [hs', List.length_append]; split <;> simp <;> omega
  repeat (refine wkB ?_; try intro _)
  by_cases hi : u.In.From = u.In.To
  ·simp only [decide_eq_true hi]
   repeat (first | (refine wkB ?_; try intro _) | (refine sC rfl rfl ?_ ?_; focus (exact ⟨by omega, by omega⟩)) | (refine sN rfl rfl ?_ ?_; (focus (exact ⟨by omega, by omega⟩)); intro _; (try simp only [List.cons_append, List.nil_append, List.append_nil])))
   exact Zj ⟨ys, m + 1, s'⟩ ⟨hlt, by rw [hnx, atU, if_pos hi, List.append_nil]; exact hs'⟩ sbB suB (by show us.length - (m + 1) < us.length - m; omega)
  ·simp only [decide_eq_false hi]
   repeat (refine wkB ?_; try intro _)
   refine sU rfl rfl ?_ ?_ ?_ ?_
   ·rfl
   ·rfl
   ·exact ⟨by decide, by omega, by omega⟩
   intro s2
   repeat (refine wkB ?_; try intro _)
   rcases hc : u.In.OpenTo with _ | _
   ·have e3 : ys ++ [inn1 u] ++ [at1 u.In.To u.F] = atm us (m + 1) := by
     rw [hnx, hs']
     unfold atU
     rw [if_neg hi, hc]
     simp
    repeat (refine wkB ?_; try intro _)
    refine sY rfl rfl ?_ ?_
    ·simp only [List.length_append, List.length_singleton]; omega
    intro s3
    repeat (first | (refine wkB ?_; try intro _) | (refine sC rfl rfl ?_ ?_; focus (exact ⟨by omega, by omega⟩)) | (refine sN rfl rfl ?_ ?_; (focus (exact ⟨by omega, by omega⟩)); intro _; (try simp only [List.cons_append, List.nil_append, List.append_nil])))
    exact Zj ⟨_, m + 1, s3⟩ ⟨hlt, e3⟩ sbB suB (by show us.length - (m + 1) < us.length - m; omega)
   ·have e3 : ys ++ [inn1 u] = atm us (m + 1) := by
     rw [hnx, hs']
     unfold atU
     rw [if_neg hi, hc]
     simp
    repeat (first | (refine wkB ?_; try intro _) | (refine sC rfl rfl ?_ ?_; focus (exact ⟨by omega, by omega⟩)) | (refine sN rfl rfl ?_ ?_; (focus (exact ⟨by omega, by omega⟩)); intro _; (try simp only [List.cons_append, List.nil_append, List.append_nil])))
    exact Zj ⟨_, m + 1, s2⟩ ⟨hlt, e3⟩ sbB suB (by show us.length - (m + 1) < us.length - m; omega)
 ·have hge : m = us.length := by have := of_decide_eq_false h; omega
  subst hge
  subst hxs
  repeat (refine wkB ?_; try intro _)
  exact Zf rfl rfl (fun w hw => ⟨s, rfl, hw.sub suB⟩)
instance ZBo (w0 : World) (L : List Blk) (v : Value) (us : List UL) [h : LstC w0 L v UL rU us] : SpecR Tryz.prog w0 L 176 [v] (SlS rU 36 (atm us us.length)) (fun s => vSl s) (fun s => mS 224 s) (us.length ≤ 65536) := ⟨fun hl w hw => Zmk v us w (h.out w hw) hl⟩
end Go.Vt
/- Does the last unit hold an instant? Walked. Conditions: those that each statement names. -/
namespace Go.Vt
open Go.RowKit Go.Proofs
abbrev lstU (xs : List UL) : UL := gi xs ((xs.length : Int) - 1)
def hld (xs : List UL) (t : ZH) : Bool := decide (0 < xs.length) && (decide ((lstU xs).In.To = t) && !(lstU xs).In.OpenTo)
theorem ZnL (v : Value) (xs : List UL) (t : ZH) (w : World) (hv : ArgS w v rU xs) (hl : xs.length ≤ 1048576) :
  Calls Tryz.prog 178 [v, vR t].toArray w (Ret (.bool (hld xs t)) w) := by
 refine Zg Tryz.func178 rfl Tryz.ntmps178 rfl ?_
 obtain ⟨p, cp, rfl⟩ := hv.form
 repeat (refine wkB ?_; try intro _)
 by_cases h0 : 0 < xs.length
 ·have hne : xs ≠ [] := fun h => by rw [h] at h0; simp at h0
  obtain ⟨bw, ow, cw, hvw, hcw, hrow⟩ := hv.blk (k := 35) hne []
  injection hvw with e1 e2 e3
  subst e1
  subst e3
  have hrow' : ∀ L, RowC w L bw ow UL rU xs := fun L => ⟨fun w' hw' => hrow.out w' (hw'.sub (List.nil_sublist _))⟩
  (refine Za3 [0, 1, 2, 3, 4, 5, 6, 7, 8, 9, 10, 11, 12, 13, 14, 15, 16, 17, 18, 19, 20, 21, 22] [23] (_) (h := ?_); refine wkI ?_)
  (repeat (refine wkH ?_))
  simp only [decide_eq_true (show (0 : Int) < (xs.length : Int) by omega)]
  (repeat (refine wkH ?_))
  rcases h1 : decide ((lstU xs).In.To = t) with _ | _
  ·repeat (refine wkT ?_; try intro _)
   repeat (refine wkB ?_; try intro _)
   unfold hld
   rw [h1, decide_eq_true h0]
   exact Zf rfl rfl (fun w hw => Zh hw)
  ·repeat (refine wkT ?_; try intro _)
   repeat (refine wkB ?_; try intro _)
   unfold hld
   rw [h1, decide_eq_true h0]
   exact Zf rfl rfl (fun w hw => Zh hw)
 ·(refine Za3 [0, 1, 2, 3, 4, 5, 6, 7, 8, 9, 10, 11, 12, 13, 14, 15, 16, 17, 18, 19, 20, 21, 22] [23] (_) (h := ?_); refine wkI ?_)
  (repeat (refine wkH ?_))
  simp only [decide_eq_false (show ¬ (0 : Int) < (xs.length : Int) by omega)]
  (repeat (refine wkH ?_))
  repeat (refine wkT ?_; try intro _)
  repeat (refine wkB ?_; try intro _)
  unfold hld
  rw [decide_eq_false h0]
  exact Zf rfl rfl (fun w hw => Zh hw)
instance ZFX (w0 : World) (L : List Blk) (v : Value) (xs : List UL) (t : ZH) [h : LstC w0 L v UL rU xs] : SpecM Tryz.prog w0 L 178 [v, vR t] (.bool (hld xs t)) (xs.length ≤ 1048576) := ⟨fun hl w hw => ZnL v xs t w (h.out w hw) hl⟩
abbrev vLines : Value := .iface 211 (.agg #[])
instance Zyx : MethC Tryz.prog 211 (.agg #[]) "Same" 419 (.agg #[]) := ⟨fun w => by kernel_rfl⟩
instance ZvE : MethC Tryz.prog 211 (.agg #[]) "Equal" 417 (.agg #[]) := ⟨fun w => by kernel_rfl⟩
instance Zuw : MethC Tryz.prog 211 (.agg #[]) "Reduce" 418 (.agg #[]) := ⟨fun w => by kernel_rfl⟩
instance ZBu : NahC Tryz.prog 211 (.agg #[]) "Same" := ⟨fun w => by kernel_rfl⟩
instance Zx1 : NahC Tryz.prog 211 (.agg #[]) "Equal" := ⟨fun w => by kernel_rfl⟩
instance Zyz : NifC Tryz.prog 211 := ⟨fun v w => by kernel_rfl⟩
instance ZDv : PtrC Tryz.prog 280 := ⟨by kernel_rfl⟩
end Go.Vt
/- The normal form of units of lines, walked. Conditions: those that each statement names. -/
namespace Go.Vt
open Go.RowKit Go.Proofs
abbrev KN : Nat := 1073741824
structure LnOk (K : Nat) (f : ZG) : Prop where
 x0 : M f.X0 ≤ K
 x1 : M f.X1 ≤ K
 y0 : M f.Y0 ≤ K
 y1 : M f.Y1 ≤ K
structure UOk (u : UL) : Prop where
 i : IvOk KN u.In
 f : LnOk BQ u.F
structure UIn (u : UL) : Prop where
 i : IvOk KN u.In
 f : LnOk KN u.F
def bef (xs : List UL) (t : ZH) : Bool := decide (0 < xs.length) && (decide ((lstU xs).In.To = t) && !decide ((lstU xs).In.From = (lstU xs).In.To))
def smL (f g : ZG) (t : Rat) : Bool := qsame (lnX f) (lnX g) t && qsame (lnY f) (lnY g) t
def turn (xs : List UL) (u : UL) : List UL := xs.set (xs.length - 1) u
def isI (u : UL) : Bool := decide (u.In.From = u.In.To)
def cA (xs : List UL) (x : UL) : Bool := bef xs x.In.From && (!(lstU xs).In.OpenTo && decide ((lstU xs).F = x.F))
def cB (l : List UL) (i : Nat) (xs : List UL) (x : UL) : Bool := decide (0 < i) && (isI (gi l ((i : Int) - 1)) && (decide ((gi l ((i : Int) - 1)).In.From = x.In.From) && !hld xs x.In.From))
def cC (xs : List UL) (x : UL) : Bool := bef xs x.In.From && smL (lstU xs).F x.F x.In.From.P
def cD (l : List UL) (i : Nat) (x : UL) : Bool := decide (i + 1 < l.length) && (decide ((gi l ((i : Int) + 1)).In.From = x.In.From) && smL (gi l ((i : Int) + 1)).F x.F x.In.From.P)
def ext (u x : UL) : UL := ⟨⟨u.In.From, x.In.To, u.In.OpenFrom, true⟩, u.F⟩
def clo (u : UL) : UL := ⟨⟨u.In.From, u.In.To, u.In.OpenFrom, false⟩, u.F⟩
def opF (x : UL) : UL := ⟨⟨x.In.From, x.In.To, false, x.In.OpenTo⟩, x.F⟩
def redU (x : UL) : UL := ⟨x.In, lred x.F x.In.From.P⟩
def nstp (l : List UL) (i : Nat) (xs : List UL) (x : UL) : List UL :=
 if isI x = false then
  if cA xs x = true then turn xs (ext (lstU xs) x) else xs ++ [if cB l i xs x = true then opF x else x]
 else if cC xs x = true then turn xs (clo (lstU xs))
 else if cD l i x = true then xs else xs ++ [redU x]
def nrm (l : List UL) : Nat → List UL
 | 0 => []
 | i + 1 => nstp l i (nrm l i) (gi l (i : Int))
def aprN (l : List UL) : Nat → Bool
 | 0 => true
 | m + 1 => aprN l m && !(decide (0 < m) && !aprt (gi l ((m : Int) - 1)).In (gi l (m : Int)).In)
def allU (us : List UL) : List UL := atm (sor us) (sor us).length
def nrmR (us : List UL) : List UL := if aprN (sor us) (sor us).length = true then nrm (allU us) (allU us).length else []
def nrmE (us : List UL) : Int := if aprN (sor us) (sor us).length = true then 0 else 11
theorem IvOk.at {K : Nat} {I : ZB} (h : IvOk K I) (o c : Bool) : IvOk K ⟨I.From, I.To, o, c⟩ := ⟨h.r1, h.r2, h.n1, h.n2, h.m1, h.m2⟩
theorem Zro {f : ZG} {t : Rat} (h : LnOk KN f) (ht : M t ≤ KN) : LnOk BQ (lred f t) := by
 have := MB.mk h.x0
 have := MB.mk h.x1
 have := MB.mk h.y0
 have := MB.mk h.y1
 have := MB.mk ht
 unfold lred
 exact ⟨MB.lt rfl, MB.lt rfl, MB.lt rfl, MB.lt rfl⟩
theorem LnOk.mono {K K' : Nat} {f : ZG} (h : LnOk K f) (hk : K ≤ K') : LnOk K' f := ⟨Nat.le_trans h.x0 hk, Nat.le_trans h.x1 hk, Nat.le_trans h.y0 hk, Nat.le_trans h.y1 hk⟩
theorem UIn.ok {u : UL} (h : UIn u) : UOk u := ⟨h.i, h.f.mono (by decide)⟩
theorem ZZ {α : Type} [Inhabited α] {xs : List α} {i : Int} (h : i.toNat < xs.length) : gi xs i ∈ xs := by
 rw [ZcV h]
 exact List.getElem_mem _
theorem Zk8 {xs : List UL} {u : UL} (h : ∀ v ∈ xs, UOk v) (hu : UOk u) : ∀ v ∈ turn xs u, UOk v := fun v hv => by
 rcases List.mem_or_eq_of_mem_set hv with h1 | h1
 ·exact h v h1
 ·rw [h1]; exact hu
theorem ZcQ {xs : List UL} {t : ZH} (h : bef xs t = true) : 0 < xs.length := by
 unfold bef at h
 simp only [Bool.and_eq_true, decide_eq_true_eq] at h
 exact h.1
theorem ZjV {xs : List UL} (h : ∀ v ∈ xs, UOk v) (h0 : 0 < xs.length) : UOk (lstU xs) := h _ (ZZ (by omega))
theorem Zrl {l : List UL} {i : Nat} {xs : List UL} {x : UL} (h : ∀ v ∈ xs, UOk v) (hx : UIn x) : ∀ v ∈ nstp l i xs x, UOk v := by
 unfold nstp
 split
 ·split
  ·rename_i hc
   have h0 : 0 < xs.length := by
    unfold cA at hc
    simp only [Bool.and_eq_true] at hc
    exact ZcQ hc.1
   have hl := ZjV h h0
   exact Zk8 h ⟨⟨hl.i.r1, hx.i.r2, hl.i.n1, hx.i.n2, hl.i.m1, hx.i.m2⟩, hl.f⟩
  ·intro v hv
   rcases List.mem_append.1 hv with h1 | h1
   ·exact h v h1
   ·rw [List.mem_singleton] at h1
    subst h1
    split
    ·exact ⟨hx.i.at _ _, hx.ok.f⟩
    ·exact hx.ok
 ·split
  ·rename_i hc
   have h0 : 0 < xs.length := by
    unfold cC at hc
    simp only [Bool.and_eq_true] at hc
    exact ZcQ hc.1
   have hl := ZjV h h0
   exact Zk8 h ⟨hl.i.at _ _, hl.f⟩
  ·split
   ·exact h
   ·intro v hv
    rcases List.mem_append.1 hv with h1 | h1
    ·exact h v h1
    ·rw [List.mem_singleton] at h1
     subst h1
     exact ⟨hx.i, Zro hx.f hx.i.m1⟩
theorem Zgu {l : List UL} (h : ∀ u ∈ l, UIn u) : ∀ m, m ≤ l.length → ∀ v ∈ nrm l m, UOk v
 | 0, _ => fun v hv => by cases hv
 | m + 1, hm => Zrl (Zgu h m (by omega)) (h _ (ZZ (by omega)))
theorem ZpN (l : List UL) (i : Nat) (xs : List UL) (x : UL) : (nstp l i xs x).length ≤ xs.length + 1 := by
 unfold nstp turn
 split
 ·split <;> simp
 ·split
  ·simp
  ·split <;> simp
theorem Zhe (l : List UL) : ∀ m, (nrm l m).length ≤ m
 | 0 => Nat.le_refl _
 | m + 1 => by
  have := Zhe l m
  have := ZpN l m (nrm l m) (gi l (m : Int))
  rw [nrm]
  omega
theorem Zfv (us : List UL) : (sor us).length = us.length := Zef us _
theorem ZfR {us : List UL} {u : UL} (h : u ∈ sor us) : u ∈ us := by
 rcases Nat.eq_zero_or_pos us.length with h0 | h0
 ·have h1 := Zfv us
  rw [h0] at h1
  rw [List.length_eq_zero_iff.1 h1] at h
  cases h
 ·exact Zhu us _ (by omega) u h
theorem Ztg {u v : UL} (h : UIn u) (hv : v ∈ atU u) : UIn v := by
 unfold atU at hv
 have e1 : IvOk KN ⟨u.In.From, u.In.From, false, false⟩ := ⟨h.i.r1, h.i.r1, h.i.n1, h.i.n1, h.i.m1, h.i.m1⟩
 have e2 : IvOk KN ⟨u.In.To, u.In.To, false, false⟩ := ⟨h.i.r2, h.i.r2, h.i.n2, h.i.n2, h.i.m2, h.i.m2⟩
 rcases List.mem_append.1 hv with h1 | h1
 ·split at h1
  ·cases h1
  ·rw [List.mem_singleton] at h1
   subst h1
   exact ⟨e1, h.f⟩
 ·split at h1
  ·cases h1
  ·rcases List.mem_cons.1 h1 with h2 | h2
   ·subst h2
    exact ⟨h.i.at _ _, h.f⟩
   ·split at h2
    ·cases h2
    ·rw [List.mem_singleton] at h2
     subst h2
     exact ⟨e2, h.f⟩
theorem Zfi {us : List UL} (h : ∀ u ∈ us, UIn u) : ∀ m, m ≤ us.length → ∀ v ∈ atm us m, UIn v
 | 0, _, v, hv => by cases hv
 | m + 1, hm, v, hv => by
  rw [atm] at hv
  rcases List.mem_append.1 hv with h1 | h1
  ·exact Zfi h m (by omega) v h1
  ·exact Ztg (h _ (ZZ (by omega))) h1
theorem Zne {l : List UL} {m : Nat} (h : aprN l m = false) : ∀ n, m ≤ n → aprN l n = false := fun n hn => by
 induction n with
 | zero => rw [show m = 0 by omega] at h; exact h
 | succ n ih =>
  rcases (by omega : m = n + 1 ∨ m ≤ n) with h1 | h1
  ·rw [← h1]; exact h
  ·rw [aprN, ih h1]; rfl
theorem SlS.turn {α : Type} {enc : α → Array Value} {k : Nat} {xs ys : List α} (T : TypeId) (h : xs = ys) (s : SlS enc k xs) : ∃ s' : SlS enc k ys, vSl s' = vSl s ∧ mS T s' = mS T s := by
 subst h
 exact ⟨s, rfl, rfl⟩
theorem SlS.put {α : Type} {enc : α → Array Value} {k n b c : Nat} {ys : List α} {sp : List Value} (T : TypeId) (hn : ys.length = n) (h : n ≤ c ∧ sp.length = (c - n) * k) (h0 : 0 < n) : ∃ s' : SlS enc k ys, vSl s' = .slice (some ⟨b, 0, none⟩) n c ∧ mS T s' = [⟨b, row enc ys sp, T⟩] := by
 subst hn
 exact ⟨SlS.at_ b c sp h (fun h1 => by rw [h1] at h0; simp at h0), rfl, rfl⟩
theorem ZjP (xs : List UL) (u : UL) : (turn xs u).length = xs.length := by simp [turn]
set_option maxHeartbeats 2000000 in
theorem Zjw (v : Value) (us : List UL) (w : World) (hv : ArgS w v rU us) (hn : us = [] → v = .slice none 0 0) (hl : us.length ≤ 19) (hok : ∀ u ∈ us, UIn u) :
  Calls Tryz.prog 114 [vLines, v].toArray w (RetM (SlS rU 36 (nrmR us)) (fun s => .tuple #[vSl s, .int .i64 (nrmE us)]) (fun s => mS 224 s) w) := by
 have hN : ∀ L, LstN w L v UL rU us := fun L => ⟨fun w' hw' => hv.to hw'.ext, hn⟩
 have hsl := Zfv us
 have hso : ∀ u ∈ sor us, UIn u := fun u hu => hok u (ZfR hu)
 refine Zg Tryz.func114 rfl Tryz.ntmps114 rfl ?_
 repeat (first | (refine wkB ?_; try intro _) | (refine sC rfl rfl ?_ ?_; focus (exact ⟨hl, fun u hu => (hok u hu).i.mono (by decide)⟩)) | (refine sN rfl rfl ?_ ?_; (focus (exact ⟨hl, fun u hu => (hok u hu).i.mono (by decide)⟩)); intro _; (try simp only [List.cons_append, List.nil_append, List.append_nil])))
 rename_i s1
 refine Zq (S := Nat) (fun m => m ≤ (sor us).length ∧ aprN (sor us) m = true) (fun m => [(0, vLines), (1, vSl s1), (17, .int .i64 (sor us).length), (18, .int .i64 (m : Nat))]) (fun _ => mS 224 s1) (fun m => (sor us).length - m) 0
  ⟨Nat.zero_le _, rfl⟩ sbB suB (fun m hm => ?_)
 obtain ⟨hm, ham⟩ := hm
 repeat (refine wkB ?_; try intro _)
 refine Zl rfl (fun h => ?_) (fun h => ?_)
 ·have hlt : m < (sor us).length := by have := of_decide_eq_true h; omega
  rcases s1.cases 224 with ⟨h0, -, -⟩ | ⟨b1, c1, sp1, h1, hv1, hm1, hne⟩
  ·rw [h0] at hlt; simp at hlt
  rw [hv1, hm1]
  have hap : aprN (sor us) (m + 1) = !(decide (0 < m) && !aprt (gi (sor us) ((m : Int) - 1)).In (gi (sor us) (m : Int)).In) := by rw [aprN, ham, Bool.true_and]
  have o1 := hso _ (ZZ (i := (m : Int)) (by omega))
  repeat (refine wkB ?_; try intro _)
  rcases m with _ | m
  ·(refine jD 17 17 (h := ?_); (repeat (refine wkH ?_)); refine Zr ?_; (repeat (refine Z6 ?_; intro _)); refine Zt ?_)
   repeat (first | (refine wkB ?_; try intro _) | (refine sC rfl rfl ?_ ?_; focus (exact ⟨by omega, by omega⟩)) | (refine sN rfl rfl ?_ ?_; (focus (exact ⟨by omega, by omega⟩)); intro _; (try simp only [List.cons_append, List.nil_append, List.append_nil])))
   exact Zj 1 ⟨hlt, by rw [hap]; rfl⟩ sbB suB (by omega)
  ·have e1 : ((m + 1 : Nat) : Int) - 1 = (m : Int) := by omega
   have o2 := hso _ (ZZ (i := (m : Int)) (by omega))
   rw [e1, decide_eq_true (show 0 < m + 1 by omega), Bool.true_and, Bool.not_not] at hap
   refine jD 17 17 (h := ?_)
   (repeat (refine wkH ?_))
   simp only [decide_eq_true (show (0 : Int) < ((m + 1 : Nat) : Int) by omega), e1]
   (repeat (refine wkH ?_))
   simp only [e1]
   (repeat (first | refine wkH ?_ | (refine tC rfl rfl ?_ ?_; focus (exact ⟨⟨o2.i.r2, o1.i.r1⟩, Nat.le_trans o2.i.m2 (by decide), Nat.le_trans o1.i.m1 (by decide)⟩))))
   refine Zr ?_
   refine Zt ?_
   repeat (refine wkB ?_; try intro _)
   rcases ha : aprt (gi (sor us) (m : Int)).In (gi (sor us) ((m + 1 : Nat) : Int)).In with _ | _
   ·rw [ha] at hap
    repeat (refine wkB ?_; try intro _)
    have hf := Zne hap (sor us).length hlt
    obtain ⟨s0, hs1, hs2⟩ := SlS.turn (enc := rU) (k := 36) 224 (show ([] : List UL) = nrmR us by unfold nrmR; rw [hf, if_neg (by decide)]) SlS.no
    have he : nrmE us = 11 := by unfold nrmE; rw [hf, if_neg (by decide)]
    exact Zv rfl (Zk rfl) (Zk rfl) (fun w hw => ⟨s0, by dsimp only; rw [hs1, he]; rfl, by dsimp only; rw [hs2]; exact hw.sub (List.nil_sublist _)⟩)
   ·rw [ha] at hap
    repeat (first | (refine wkB ?_; try intro _) | (refine sC rfl rfl ?_ ?_; focus (exact ⟨by omega, by omega⟩)) | (refine sN rfl rfl ?_ ?_; (focus (exact ⟨by omega, by omega⟩)); intro _; (try simp only [List.cons_append, List.nil_append, List.append_nil])))
    exact Zj (m + 2) ⟨hlt, hap⟩ sbB suB (by omega)
 ·have hge : m = (sor us).length := by have := of_decide_eq_false h; omega
  subst hge
  repeat (first | (refine wkB ?_; try intro _) | (refine sC rfl rfl ?_ ?_; focus (omega)) | (refine sN rfl rfl ?_ ?_; (focus (omega)); intro _; (try simp only [List.cons_append, List.nil_append, List.append_nil])))
  rename_i s8
  have hao : ∀ u ∈ atm (sor us) (sor us).length, UIn u := Zfi hso _ (Nat.le_refl _)
  have hall := ZfK (sor us) (sor us).length
  have hR : nrmR us = nrm (atm (sor us) (sor us).length) (atm (sor us) (sor us).length).length := by unfold nrmR allU; rw [ham, if_pos rfl]
  have hE : nrmE us = 0 := by unfold nrmE; rw [ham, if_pos rfl]
  generalize atm (sor us) (sor us).length = al at *
  refine Zq (S := (xs : List UL) × Nat × SlS rU 36 xs) (fun s => s.2.1 ≤ al.length ∧ s.1 = nrm al s.2.1) (fun s => [(0, vLines), (7, vSl s.2.2), (8, vSl s8), (41, vSl s8), (42, .int .i64 al.length), (43, .int .i64 (s.2.1 : Nat))]) (fun s => mS 224 s.2.2 ++ mS 224 s8) (fun s => al.length - s.2.1) ⟨[], 0, SlS.no⟩
   ⟨Nat.zero_le _, rfl⟩ sbB suB (fun s hs => ?_)
  obtain ⟨xs, i, s⟩ := s
  obtain ⟨hi, hxs⟩ := hs
  simp only at hi hxs ⊢
  repeat (refine wkB ?_; try intro _)
  refine Zl rfl (fun h => ?_) (fun h => ?_)
  ·have hlt : i < al.length := by have := of_decide_eq_true h; omega
   rcases s8.cases 224 with ⟨h0, -, -⟩ | ⟨b8, c8, sp8, h1, hv8, hm8, hne⟩
   ·rw [h0] at hlt; simp at hlt
   rw [hv8, hm8]
   have hx0 := hao _ (ZZ (i := (i : Int)) (by omega))
   have hnx : nrm al (i + 1) = nstp al i xs (gi al (i : Int)) := by rw [nrm, hxs]
   have hxo := Zgu hao i (by omega)
   have hxl := Zhe al i
   rw [← hxs] at hxo hxl
   repeat (refine wkB ?_; try intro _)
   rename_i b10 b11
   obtain ⟨x, hx⟩ : ∃ x, x = gi al (i : Int) := ⟨_, rfl⟩
   simp only [← hx] at hx0 hnx ⊢
   refine Zg4 (mS 224 s ++ [⟨b11, Zz (ZD x.In.From), 97⟩, ⟨b10, rU x, 224⟩, ⟨b8, row rU al sp8, 224⟩]) ((List.perm_middle.trans (List.perm_middle.cons _)).symm) ?_
   refine ZaR (S := Bool) (fun v => v = bef xs x.In.From) (fun v => [(75, .bool v), (0, vLines), (7, vSl s), (8, .slice (some ⟨b8, 0, none⟩) al.length c8), (9, .int .i64 (i : Nat)), (10, .pointer (some ⟨b10, 0, none⟩)), (11, .pointer (some ⟨b11, 0, none⟩)), (12, .pointer none), (13, .int .i64 xs.length), (41, .slice (some ⟨b8, 0, none⟩) al.length c8), (42, .int .i64 al.length), (43, .int .i64 (i : Nat))]) (fun _ => mS 224 s ++ [⟨b11, Zz (ZD x.In.From), 97⟩, ⟨b10, rU x, 224⟩, ⟨b8, row rU al sp8, 224⟩]) ?_ (fun v hv3 => ?_)
   ·rcases s.cases 224 with ⟨h0, -, -⟩ | ⟨bo, co, so, ho, hvo, hmo, hneo⟩
    ·refine jD 23 23 (h := ?_)
     (repeat (refine wkH ?_))
     simp only [decide_eq_false (show ¬ (0 : Int) < (xs.length : Int) by rw [h0]; simp)]
     (repeat (refine wkH ?_))
     refine Zr ?_
     refine Zt ?_
     repeat (refine wkB ?_; try intro _)
     exact ZT false (by rw [h0]; rfl) sbB suB
    ·have hpo : 0 < xs.length := by rcases xs with _ | ⟨a, xs⟩; exact absurd rfl hneo; simp
     rw [hvo, hmo]
     simp only [List.cons_append, List.nil_append]
     refine jD 23 23 (h := ?_)
     (repeat (refine wkH ?_))
     simp only [decide_eq_true (show (0 : Int) < (xs.length : Int) by omega)]
     (repeat (refine wkH ?_))
     rcases hto : decide ((lstU xs).In.To = x.In.From) with _ | _
     ·(repeat (refine wkH ?_))
      refine Zr ?_
      refine Zt ?_
      repeat (refine wkB ?_; try intro _)
      exact ZT false (by unfold bef; rw [hto, Bool.false_and, Bool.and_false]) sbB suB
     ·(repeat (refine wkH ?_))
      refine Zr ?_
      refine Zt ?_
      repeat (refine wkB ?_; try intro _)
      exact ZT (!decide ((lstU xs).In.From = (lstU xs).In.To)) (by unfold bef; rw [hto, decide_eq_true hpo, Bool.true_and, Bool.true_and]) sbB suB
   refine ZaR (S := Option Addr) (fun p => (bef xs x.In.From = false ∧ p = none) ∨ (bef xs x.In.From = true ∧ ∃ bo co so, (xs.length ≤ co ∧ so.length = (co - xs.length) * 36) ∧ vSl s = .slice (some ⟨bo, 0, none⟩) xs.length co ∧ mS 224 s = [⟨bo, row rU xs so, 224⟩] ∧ p = some ⟨bo, 0 + ((xs.length : Int) - 1).toNat * 36, none⟩)) (fun p => [(0, vLines), (7, vSl s), (8, .slice (some ⟨b8, 0, none⟩) al.length c8), (9, .int .i64 (i : Nat)), (10, .pointer (some ⟨b10, 0, none⟩)), (11, .pointer (some ⟨b11, 0, none⟩)), (12, .pointer p), (13, .int .i64 xs.length), (41, .slice (some ⟨b8, 0, none⟩) al.length c8), (42, .int .i64 al.length), (43, .int .i64 (i : Nat))]) (fun _ => mS 224 s ++ [⟨b11, Zz (ZD x.In.From), 97⟩, ⟨b10, rU x, 224⟩, ⟨b8, row rU al sp8, 224⟩]) ?_ (fun p hp => ?_)
   ·subst hv3
    rcases hb : bef xs x.In.From with _ | _
    ·repeat (refine wkB ?_; try intro _)
     exact ZT none (.inl ⟨rfl, rfl⟩) sbB suB
    ·have hpo := ZcQ hb
     rcases s.cases 224 with ⟨h0, -, -⟩ | ⟨bo, co, so, ho, hvo, hmo, hneo⟩
     ·rw [h0] at hpo; simp at hpo
     rw [hvo, hmo]
     simp only [List.cons_append, List.nil_append]
     repeat (refine wkB ?_; try intro _)
     exact ZT (some ⟨bo, 0 + ((xs.length : Int) - 1).toNat * 36, none⟩) (.inr ⟨trivial, bo, co, so, ho, rfl, rfl, rfl⟩) sbB suB
   repeat (refine wkB ?_; try intro _)
   rcases hI : isI x with _ | _
   ·have hI' : decide (x.In.From = x.In.To) = false := hI
    simp only [hI']
    repeat (refine wkB ?_; try intro _)
    refine ZaR (S := Bool) (fun v => v = cA xs x) (fun v => [(117, .bool v), (0, vLines), (7, vSl s), (8, .slice (some ⟨b8, 0, none⟩) al.length c8), (9, .int .i64 (i : Nat)), (10, .pointer (some ⟨b10, 0, none⟩)), (11, .pointer (some ⟨b11, 0, none⟩)), (12, .pointer p), (13, .int .i64 xs.length), (41, .slice (some ⟨b8, 0, none⟩) al.length c8), (42, .int .i64 al.length), (43, .int .i64 (i : Nat))]) (fun _ => mS 224 s ++ [⟨b11, Zz (ZD x.In.From), 97⟩, ⟨b10, rU x, 224⟩, ⟨b8, row rU al sp8, 224⟩]) ?_ (fun v hv4 => ?_)
    ·rcases hp with ⟨hb, rfl⟩ | ⟨hb, bo, co, so, ho, hvo, hmo, rfl⟩
     ·(refine jD 23 23 (h := ?_); (repeat (refine wkH ?_)); refine Zr ?_; (repeat (refine Z6 ?_; intro _)); refine Zt ?_)
      repeat (refine wkB ?_; try intro _)
      exact ZT false (by unfold cA; rw [hb, Bool.false_and]) sbB suB
     ·have hpo := ZcQ hb
      rw [hvo, hmo]
      simp only [List.cons_append, List.nil_append]
      refine jD 23 23 (h := ?_)
      (repeat (refine wkH ?_))
      rcases hot : (lstU xs).In.OpenTo with _ | _
      ·(repeat (refine wkH ?_))
       refine Zr ?_
       refine Zt ?_
       repeat (refine wkB ?_; try intro _)
       exact ZT (decide ((lstU xs).F = x.F)) (by unfold cA; rw [hb, hot, Bool.true_and, Bool.not_false, Bool.true_and]) sbB suB
      ·(repeat (refine wkH ?_))
       refine Zr ?_
       refine Zt ?_
       repeat (refine wkB ?_; try intro _)
       exact ZT false (by unfold cA; rw [hb, hot, Bool.true_and, Bool.not_true, Bool.false_and]) sbB suB
    subst hv4
    refine ZaR (S := Unit) (fun _ => cA xs x = false) (fun _ => [(0, vLines), (7, vSl s), (8, .slice (some ⟨b8, 0, none⟩) al.length c8), (9, .int .i64 (i : Nat)), (10, .pointer (some ⟨b10, 0, none⟩)), (11, .pointer (some ⟨b11, 0, none⟩)), (13, .int .i64 xs.length), (41, .slice (some ⟨b8, 0, none⟩) al.length c8), (42, .int .i64 al.length), (43, .int .i64 (i : Nat))]) (fun _ => mS 224 s ++ [⟨b11, Zz (ZD x.In.From), 97⟩, ⟨b10, rU x, 224⟩, ⟨b8, row rU al sp8, 224⟩]) ?_ (fun _ hcA => ?_)
    ·rcases hcA : cA xs x with _ | _
     ·repeat (refine wkB ?_; try intro _)
      exact ZT () rfl sbB suB
     ·have hb : bef xs x.In.From = true := by
       unfold cA at hcA
       simp only [Bool.and_eq_true] at hcA
       exact hcA.1
      have hpo := ZcQ hb
      rcases hp with ⟨hb', -⟩ | ⟨-, bo, co, so, ho, hvo, hmo, rfl⟩
      ·rw [hb] at hb'; cases hb'
      rw [hvo, hmo]
      simp only [List.cons_append, List.nil_append]
      have ek : ((xs.length : Int) - 1).toNat = xs.length - 1 := by omega
      repeat (refine wkB ?_; try intro _)
      refine sRF (i := (xs.length : Int) - 1) (f := 9) (⟨⟨(lstU xs).In.From, x.In.To, (lstU xs).In.OpenFrom, (lstU xs).In.OpenTo⟩, (lstU xs).F⟩ : UL) rfl rfl ?_ ?_
      ·omega
      obtain ⟨zs, hzs⟩ : ∃ zs, zs = xs.set ((xs.length : Int) - 1).toNat (⟨⟨(lstU xs).In.From, x.In.To, (lstU xs).In.OpenFrom, (lstU xs).In.OpenTo⟩, (lstU xs).F⟩ : UL) := ⟨_, rfl⟩
      simp only [← hzs]
      have hzl : zs.length = xs.length := by rw [hzs]; simp
      have hg : gi zs ((xs.length : Int) - 1) = ⟨⟨(lstU xs).In.From, x.In.To, (lstU xs).In.OpenFrom, (lstU xs).In.OpenTo⟩, (lstU xs).F⟩ := by
       rw [ZcV (by omega)]
       simp only [hzs, List.getElem_set_self]
      repeat (refine wkB ?_; try intro _)
      refine sRF (i := (xs.length : Int) - 1) (f := 19) (⟨⟨(gi zs ((xs.length : Int) - 1)).In.From, (gi zs ((xs.length : Int) - 1)).In.To, (gi zs ((xs.length : Int) - 1)).In.OpenFrom, true⟩, (gi zs ((xs.length : Int) - 1)).F⟩ : UL) rfl rfl ?_ ?_
      ·omega
      have hfin : zs.set ((xs.length : Int) - 1).toNat (⟨⟨(gi zs ((xs.length : Int) - 1)).In.From, (gi zs ((xs.length : Int) - 1)).In.To, (gi zs ((xs.length : Int) - 1)).In.OpenFrom, true⟩, (gi zs ((xs.length : Int) - 1)).F⟩ : UL) = turn xs (ext (lstU xs) x) := by
       rw [hg, hzs, List.set_set, ek]
       rfl
      rw [hfin]
      obtain ⟨s', hv', hm'⟩ := SlS.put (enc := rU) (k := 36) (b := bo) 224 (ZjP xs (ext (lstU xs) x)) ho hpo
      rw [← hv']
      repeat (first | (refine wkB ?_; try intro _) | (refine sC rfl rfl ?_ ?_; focus (exact ⟨by omega, by omega⟩)) | (refine sN rfl rfl ?_ ?_; (focus (exact ⟨by omega, by omega⟩)); intro _; (try simp only [List.cons_append, List.nil_append, List.append_nil])))
      exact Zj ⟨turn xs (ext (lstU xs) x), i + 1, s'⟩ ⟨hlt, by rw [hnx, nstp, if_pos hI, if_pos hcA]⟩ sbB (by dsimp only; rw [hm']; exact suB) (by show al.length - (i + 1) < al.length - i; omega)
    refine Zem ?_
    refine ZaR (S := UL) (fun y => y = if cB al i xs x = true then opF x else x) (fun _ => [(0, vLines), (7, vSl s), (8, .slice (some ⟨b8, 0, none⟩) al.length c8), (9, .int .i64 (i : Nat)), (10, .pointer (some ⟨b10, 0, none⟩)), (11, .pointer (some ⟨b11, 0, none⟩)), (13, .int .i64 xs.length), (41, .slice (some ⟨b8, 0, none⟩) al.length c8), (42, .int .i64 al.length), (43, .int .i64 (i : Nat))]) (fun y => mS 224 s ++ [⟨b11, Zz (ZD x.In.From), 97⟩, ⟨b10, rU y, 224⟩, ⟨b8, row rU al sp8, 224⟩]) ?_ (fun y hy => ?_)
    ·refine Zem ?_
     refine ZaR (S := Bool) (fun v => v = cB al i xs x) (fun v => [(156, .bool v), (0, vLines), (7, vSl s), (8, .slice (some ⟨b8, 0, none⟩) al.length c8), (9, .int .i64 (i : Nat)), (10, .pointer (some ⟨b10, 0, none⟩)), (11, .pointer (some ⟨b11, 0, none⟩)), (13, .int .i64 xs.length), (41, .slice (some ⟨b8, 0, none⟩) al.length c8), (42, .int .i64 al.length), (43, .int .i64 (i : Nat))]) (fun _ => mS 224 s ++ [⟨b11, Zz (ZD x.In.From), 97⟩, ⟨b10, rU x, 224⟩, ⟨b8, row rU al sp8, 224⟩]) ?_ (fun v hv5 => ?_)
     ·by_cases hi0 : 0 < i
      ·have ep : ((i : Int) - 1).toNat < al.length := by omega
       refine jD 28 28 (h := ?_)
       (repeat (refine wkH ?_))
       simp only [decide_eq_true (show (0 : Int) < (i : Int) by omega)]
       (repeat (refine wkH ?_))
       rcases hi1 : isI (gi al ((i : Int) - 1)) with _ | _
       ·have hi1' : decide ((gi al ((i : Int) - 1)).In.From = (gi al ((i : Int) - 1)).In.To) = false := hi1
        simp only [hi1']
        (repeat (refine wkH ?_))
        refine Zr ?_
        refine Zt ?_
        repeat (refine wkB ?_; try intro _)
        exact ZT false (by unfold cB; rw [hi1, Bool.false_and, Bool.and_false]) sbB suB
       ·have hi1' : decide ((gi al ((i : Int) - 1)).In.From = (gi al ((i : Int) - 1)).In.To) = true := hi1
        simp only [hi1']
        (repeat (refine wkH ?_))
        rcases hft : decide ((gi al ((i : Int) - 1)).In.From = x.In.From) with _ | _
        ·(repeat (refine wkH ?_))
         refine Zr ?_
         refine Zt ?_
         repeat (refine wkB ?_; try intro _)
         exact ZT false (by unfold cB; rw [hft, Bool.false_and, Bool.and_false, Bool.and_false]) sbB suB
        ·(repeat (first | refine wkH ?_ | (refine tC rfl rfl ?_ ?_; focus (omega))))
         refine Zr ?_
         refine Zt ?_
         repeat (refine wkB ?_; try intro _)
         exact ZT (!hld xs x.In.From) (by unfold cB; rw [hi1, hft, decide_eq_true hi0, Bool.true_and, Bool.true_and, Bool.true_and]) sbB suB
      ·refine jD 28 28 (h := ?_)
       (repeat (refine wkH ?_))
       simp only [decide_eq_false (show ¬ (0 : Int) < (i : Int) by omega)]
       (repeat (refine wkH ?_))
       refine Zr ?_
       refine Zt ?_
       repeat (refine wkB ?_; try intro _)
       exact ZT false (by unfold cB; rw [decide_eq_false hi0, Bool.false_and]) sbB suB
     ·subst hv5
      rcases hcB : cB al i xs x with _ | _
      ·repeat (refine wkB ?_; try intro _)
       exact ZT x (by rw [if_neg (by decide)]) sbB suB
      ·repeat (refine wkB ?_; try intro _)
       exact ZT (opF x) (by rw [if_pos rfl]) sbB suB
    repeat (refine wkB ?_; try intro _)
    refine sU rfl rfl ?_ ?_ ?_ ?_
    ·rfl
    ·rfl
    ·exact ⟨by decide, by omega, by omega⟩
    intro s'
    repeat (first | (refine wkB ?_; try intro _) | (refine sC rfl rfl ?_ ?_; focus (exact ⟨by omega, by omega⟩)) | (refine sN rfl rfl ?_ ?_; (focus (exact ⟨by omega, by omega⟩)); intro _; (try simp only [List.cons_append, List.nil_append, List.append_nil])))
    exact Zj ⟨xs ++ [y], i + 1, s'⟩ ⟨hlt, by show xs ++ [y] = nrm al (i + 1); rw [hnx, nstp, if_pos hI, hcA, if_neg (by decide), hy]⟩ sbB suB (by show al.length - (i + 1) < al.length - i; omega)
   ·have hI' : decide (x.In.From = x.In.To) = true := hI
    simp only [hI']
    repeat (refine wkB ?_; try intro _)
    have htM : M x.In.From.P ≤ 8589934592 := Nat.le_trans hx0.i.m1 (by decide)
    have hxf : (M x.F.X0 ≤ 8589934592 ∧ M x.F.X1 ≤ 8589934592) ∧ M x.F.Y0 ≤ 8589934592 ∧ M x.F.Y1 ≤ 8589934592 := ⟨⟨Nat.le_trans hx0.f.x0 (by decide), Nat.le_trans hx0.f.x1 (by decide)⟩, Nat.le_trans hx0.f.y0 (by decide), Nat.le_trans hx0.f.y1 (by decide)⟩
    refine ZaR (S := Bool) (fun v => v = cC xs x) (fun v => [(163, .bool v), (0, vLines), (7, vSl s), (8, .slice (some ⟨b8, 0, none⟩) al.length c8), (9, .int .i64 (i : Nat)), (10, .pointer (some ⟨b10, 0, none⟩)), (11, .pointer (some ⟨b11, 0, none⟩)), (12, .pointer p), (13, .int .i64 xs.length), (41, .slice (some ⟨b8, 0, none⟩) al.length c8), (42, .int .i64 al.length), (43, .int .i64 (i : Nat))]) (fun _ => mS 224 s ++ [⟨b11, Zz (ZD x.In.From), 97⟩, ⟨b10, rU x, 224⟩, ⟨b8, row rU al sp8, 224⟩]) ?_ (fun v hv4 => ?_)
    ·rcases hp with ⟨hb, rfl⟩ | ⟨hb, bo, co, so, ho, hvo, hmo, rfl⟩
     ·(refine Za3 [0, 1, 2, 3, 4, 5, 6, 7, 8, 9, 10, 11, 12, 13, 14, 15] [16] (_) (h := ?_); refine wkI ?_)
      (repeat (refine wkH ?_))
      repeat (refine wkT ?_; try intro _)
      repeat (refine wkB ?_; try intro _)
      exact ZT false (by unfold cC; rw [hb, Bool.false_and]) sbB suB
     ·have hpo := ZcQ hb
      have hlo := (ZjV hxo hpo).f
      rw [hvo, hmo]
      simp only [List.cons_append, List.nil_append]
      (refine Za3 [0, 1, 2, 3, 4, 5, 6, 7, 8, 9, 10, 11, 12, 13, 14, 15] [16] (_) (h := ?_); refine wkI ?_)
      (repeat (first | refine wkH ?_ | (refine tC rfl rfl ?_ ?_; focus (exact ⟨hx0.i.r1, ⟨⟨hlo.x0, hlo.x1⟩, hlo.y0, hlo.y1⟩, hxf, htM⟩))))
      repeat (refine wkT ?_; try intro _)
      repeat (refine wkB ?_; try intro _)
      exact ZT (smL (lstU xs).F x.F x.In.From.P) (by unfold cC; rw [hb, Bool.true_and]) sbB suB
    subst hv4
    rcases hcC : cC xs x with _ | _
    ·refine Zb9 (by rfl) ?_
     (first | refine sX rfl rfl ?_ | (refine sS rfl rfl ?_ ?_; focus omega) | (refine sC rfl rfl ?_ ?_; focus (first | exact trivial | assumption | constructor <;> assumption | exact mb2 rfl rfl | exact mb4 rfl rfl rfl rfl)) | refine cX ?_ | refine cY ?_ | (refine sA rfl rfl ?_; intro _) | refine sT rfl ?_ | refine sF rfl ?_ | (refine sR rfl ?_ ?_; focus omega) | (refine sB rfl rfl ?_; intro _) | (refine sN rfl rfl ?_ ?_; (focus (first | exact trivial | assumption | constructor <;> assumption | exact mb2 rfl rfl | exact mb4 rfl rfl rfl rfl)); intro _; (try simp only [List.cons_append, List.nil_append, List.append_nil])) | refine sW rfl rfl ?_ | refine sK rfl rfl ?_ | refine Zek rfl ?_ | refine Zb9 rfl ?_ | refine pkT rfl rfl rfl rfl ?_ | refine pkF rfl rfl rfl rfl ?_)
     refine ZaR (S := Bool) (fun v => v = cD al i x) (fun v => [(184, .bool v), (0, vLines), (7, vSl s), (8, .slice (some ⟨b8, 0, none⟩) al.length c8), (9, .int .i64 (i : Nat)), (10, .pointer (some ⟨b10, 0, none⟩)), (11, .pointer (some ⟨b11, 0, none⟩)), (13, .int .i64 xs.length), (41, .slice (some ⟨b8, 0, none⟩) al.length c8), (42, .int .i64 al.length), (43, .int .i64 (i : Nat))]) (fun _ => mS 224 s ++ [⟨b11, Zz (ZD x.In.From), 97⟩, ⟨b10, rU x, 224⟩, ⟨b8, row rU al sp8, 224⟩]) ?_ (fun v hv5 => ?_)
     ·by_cases hi1 : i + 1 < al.length
      ·have hya := hao _ (ZZ (i := (i : Int) + 1) (by omega))
       have hyf : (M (gi al ((i : Int) + 1)).F.X0 ≤ 8589934592 ∧ M (gi al ((i : Int) + 1)).F.X1 ≤ 8589934592) ∧ M (gi al ((i : Int) + 1)).F.Y0 ≤ 8589934592 ∧ M (gi al ((i : Int) + 1)).F.Y1 ≤ 8589934592 := ⟨⟨Nat.le_trans hya.f.x0 (by decide), Nat.le_trans hya.f.x1 (by decide)⟩, Nat.le_trans hya.f.y0 (by decide), Nat.le_trans hya.f.y1 (by decide)⟩
       (refine Za3 [0, 1, 2, 3, 4, 5, 6, 7, 8, 9, 10, 11, 12, 13, 14, 15, 16, 17, 18, 19, 20, 21, 22, 23, 24, 25, 26, 27, 28, 29, 30, 31] [32] (_) (h := ?_); refine wkI ?_)
       (repeat (refine wkH ?_))
       simp only [decide_eq_true (show (i : Int) + 1 < (al.length : Int) by omega)]
       (repeat (refine wkH ?_))
       rcases hft : decide ((gi al ((i : Int) + 1)).In.From = x.In.From) with _ | _
       ·(repeat (refine wkH ?_))
        repeat (refine wkT ?_; try intro _)
        repeat (refine wkB ?_; try intro _)
        exact ZT false (by unfold cD; rw [hft, Bool.false_and, Bool.and_false]) sbB suB
       ·(repeat (first | refine wkH ?_ | (refine tC rfl rfl ?_ ?_; focus (exact ⟨hx0.i.r1, hyf, hxf, htM⟩))))
        repeat (refine wkT ?_; try intro _)
        repeat (refine wkB ?_; try intro _)
        exact ZT (smL (gi al ((i : Int) + 1)).F x.F x.In.From.P) (by unfold cD; rw [hft, decide_eq_true hi1, Bool.true_and, Bool.true_and]) sbB suB
      ·(refine Za3 [0, 1, 2, 3, 4, 5, 6, 7, 8, 9, 10, 11, 12, 13, 14, 15, 16, 17, 18, 19, 20, 21, 22, 23, 24, 25, 26, 27, 28, 29, 30, 31] [32] (_) (h := ?_); refine wkI ?_)
       (repeat (refine wkH ?_))
       simp only [decide_eq_false (show ¬ (i : Int) + 1 < (al.length : Int) by omega)]
       (repeat (refine wkH ?_))
       repeat (refine wkT ?_; try intro _)
       repeat (refine wkB ?_; try intro _)
       exact ZT false (by unfold cD; rw [decide_eq_false hi1, Bool.false_and]) sbB suB
     subst hv5
     rcases hcD : cD al i x with _ | _
     ·repeat (first | (refine wkB ?_; try intro _) | (refine sC rfl rfl ?_ ?_; focus (exact ⟨hx0.i.r1, hxf, htM⟩)) | (refine sN rfl rfl ?_ ?_; (focus (exact ⟨hx0.i.r1, hxf, htM⟩)); intro _; (try simp only [List.cons_append, List.nil_append, List.append_nil])))
      refine sU rfl rfl ?_ ?_ ?_ ?_
      ·rfl
      ·rfl
      ·exact ⟨by decide, by omega, by omega⟩
      intro s'
      repeat (first | (refine wkB ?_; try intro _) | (refine sC rfl rfl ?_ ?_; focus (exact ⟨by omega, by omega⟩)) | (refine sN rfl rfl ?_ ?_; (focus (exact ⟨by omega, by omega⟩)); intro _; (try simp only [List.cons_append, List.nil_append, List.append_nil])))
      exact Zj ⟨_, i + 1, s'⟩ ⟨hlt, by show xs ++ [redU x] = nrm al (i + 1); rw [hnx, nstp, hI, if_neg (by decide), hcC, if_neg (by decide), hcD, if_neg (by decide)]⟩ sbB suB (by show al.length - (i + 1) < al.length - i; omega)
     ·repeat (first | (refine wkB ?_; try intro _) | (refine sC rfl rfl ?_ ?_; focus (exact ⟨by omega, by omega⟩)) | (refine sN rfl rfl ?_ ?_; (focus (exact ⟨by omega, by omega⟩)); intro _; (try simp only [List.cons_append, List.nil_append, List.append_nil])))
      exact Zj ⟨xs, i + 1, s⟩ ⟨hlt, by show xs = nrm al (i + 1); rw [hnx, nstp, hI, if_neg (by decide), hcC, if_neg (by decide), hcD, if_pos rfl]⟩ sbB suB (by show al.length - (i + 1) < al.length - i; omega)
    ·have hb : bef xs x.In.From = true := by
      unfold cC at hcC
      simp only [Bool.and_eq_true] at hcC
      exact hcC.1
     have hpo := ZcQ hb
     rcases hp with ⟨hb', -⟩ | ⟨-, bo, co, so, ho, hvo, hmo, rfl⟩
     ·rw [hb] at hb'; cases hb'
     rw [hvo, hmo]
     simp only [List.cons_append, List.nil_append]
     have ek : ((xs.length : Int) - 1).toNat = xs.length - 1 := by omega
     repeat (refine wkB ?_; try intro _)
     refine sRF (i := (xs.length : Int) - 1) (f := 19) (clo (lstU xs)) rfl rfl ?_ ?_
     ·omega
     rw [ek]
     obtain ⟨s', hv', hm'⟩ := SlS.put (enc := rU) (k := 36) (b := bo) 224 (ZjP xs (clo (lstU xs))) ho hpo
     rw [← hv']
     repeat (first | (refine wkB ?_; try intro _) | (refine sC rfl rfl ?_ ?_; focus (exact ⟨by omega, by omega⟩)) | (refine sN rfl rfl ?_ ?_; (focus (exact ⟨by omega, by omega⟩)); intro _; (try simp only [List.cons_append, List.nil_append, List.append_nil])))
     exact Zj ⟨turn xs (clo (lstU xs)), i + 1, s'⟩ ⟨hlt, by show turn xs (clo (lstU xs)) = nrm al (i + 1); rw [hnx, nstp, hI, if_neg (by decide), if_pos hcC]⟩ sbB (by dsimp only; rw [hm']; exact suB) (by show al.length - (i + 1) < al.length - i; omega)
  ·have hge : i = al.length := by have := of_decide_eq_false h; omega
   subst hge
   subst hxs
   repeat (refine wkB ?_; try intro _)
   obtain ⟨s0, hs1, hs2⟩ := SlS.turn 224 hR.symm s
   exact Zv rfl (Zk rfl) (Zk rfl) (fun w hw => ⟨s0, by dsimp only; rw [hs1, hE], by dsimp only; rw [hs2]; exact hw.sub suB⟩)
end Go.Vt
/- The normal form of a moving point; its position at an instant: walked. Conditions: those that each statement names. -/
namespace Go.Vt
open Go.RowKit Go.Proofs
instance Zw3 (w0 : World) (L : List Blk) (v : Value) (us : List UL) [h : LstN w0 L v UL rU us] : SpecR Tryz.prog w0 L 114 [vLines, v] (SlS rU 36 (nrmR us)) (fun s => .tuple #[vSl s, .int .i64 (nrmE us)]) (fun s => mS 224 s) (us.length ≤ 19 ∧ ∀ u ∈ us, UIn u) := ⟨fun hp w hw => Zjw v us w (h.out w hw) h.nil hp.1 hp.2⟩
theorem Zp5 (us : List UL) : (nrmR us).length ≤ 3 * us.length := by
 unfold nrmR
 split
 ·have h1 := Zhe (allU us) (allU us).length
  have h2 := ZfK (sor us) (sor us).length
  have h3 := Zfv us
  unfold allU at h1 ⊢
  omega
 ·simp
instance ZBW : BdC Tryz.prog 211 [] (.agg #[]) := ⟨fun w => by kernel_rfl⟩
def mNorm (us : List PU) : List PU := mpN ofU (nrmR (mpN toU us us.length)) (nrmR (mpN toU us us.length)).length
theorem ZjL (v : Value) (us : List PU) (w : World) (hv : ArgS w v rP us) (hl : us.length ≤ 19) (hok : ∀ u ∈ mpN toU us us.length, UIn u) :
  Calls Tryz.prog 63 [v].toArray w (RetM (SlS rP 36 (mNorm us)) (fun s => .tuple #[vSl s, .int .i64 (nrmE (mpN toU us us.length))]) (fun s => mS 115 s) w) := by
 have := ArgC.mk hv
 have hml := Zea toU us us.length
 have hnl := Zp5 (mpN toU us us.length)
 refine Zg Tryz.func63 rfl Tryz.ntmps63 rfl ?_
 repeat (first | (refine wkB ?_; try intro _) | (refine sC rfl rfl ?_ ?_; focus (first | exact trivial | omega | exact ⟨by omega, hok⟩)) | (refine sN rfl rfl ?_ ?_; (focus (first | exact trivial | omega | exact ⟨by omega, hok⟩)); intro _; (try simp only [List.cons_append, List.nil_append, List.append_nil])))
 rename_i s1 s2 s3
 exact Zv rfl (Zk rfl) (Zk rfl) (fun w hw => ⟨s3, rfl, hw.sub suB⟩)
instance ZvP (w0 : World) (L : List Blk) (v : Value) (us : List PU) [h : LstC w0 L v PU rP us] : SpecR Tryz.prog w0 L 63 [v] (SlS rP 36 (mNorm us)) (fun s => .tuple #[vSl s, .int .i64 (nrmE (mpN toU us us.length))]) (fun s => mS 115 s) (us.length ≤ 19 ∧ ∀ u ∈ mpN toU us us.length, UIn u) := ⟨fun hp w hw => ZjL v us w (h.out w hw) hp.1 hp.2⟩
end Go.Vt
