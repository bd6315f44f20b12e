/- that objects are reconstructed from their reports (part 22 of 29.) Conditions: those that each statement names. -/
import Derived.Test.YtjicdlilgjdefaaGreatDoorKJ17
import Derived.Test.YtjicdlilgjdefaaGreatDoorKJ19
import Derived.Test.YtjicdlilgjdefaaGreatDoorKJ21
set_option linter.unusedSimpArgs false
set_option linter.unusedVariables false
set_option maxHeartbeats 2000000
set_option maxRecDepth 100000
namespace Go.Vt
open Go.RowKit Go.Proofs
open Go.Proofs.Tryz (prog)
section
instance sbpConsO (b : Nat) (o : Obj) (T : TypeId) (A L L1 : List Blk) [h : DelO b L o T L1] [k : SbpC A L1] : SbpC (⟨b, .obj o, T⟩ :: A) L := ⟨by
 obtain ⟨R, hR⟩ := k.out
 exact ⟨R, h.out.trans (hR.cons _)⟩⟩
def PotX (l : List Za) (d : Int) (f : Int → Int) : Prop := ∀ x ∈ l, Con l d x.From → f x.To ≤ f x.From + wgt x
theorem Zi2 {l : List Za} {c : List Int} : ∀ {i : Nat} {k : Int}, k ∈ smI l c i → (gi l k).From ∈ c
 | 0, k, h => by cases h
 | i + 1, k, h => by
  rw [smI] at h
  split at h
  ·rename_i hc
   rcases List.mem_append.1 h with h | h
   ·exact Zi2 h
   ·rw [Wo] at h
    rw [h]; exact hc
  ·exact Zi2 h
theorem ZnK {l : List Za} {c : List Int} : ∀ {i j : Nat}, j < i → (gi l (j : Int)).From ∈ c → (j : Int) ∈ smI l c i
 | i + 1, j, h, hc => by
  rw [smI]
  rcases Nat.lt_or_ge j i with h1 | h1
  ·have ih := ZnK h1 hc
   split
   ·exact List.mem_append_left _ ih
   ·exact ih
  ·have : j = i := by omega
   subst this
   rw [if_pos hc]
   exact List.mem_append_right _ (List.mem_singleton.2 rfl)
theorem ZgX {l : List Za} {c : List Int} : ∀ k ∈ smI l c l.length, 0 ≤ k ∧ k < l.length := fun k hk => Zhv l c _ k hk
theorem Zdr {l : List Za} {d : Int} {c : List Int} (hc : CompL l d c) {e : Ed} (he : e ∈ edL l (smI l c l.length)) : Con l d e.u ∧ Con l d e.v ∧ ∃ x ∈ l, x.From = e.u ∧ x.To = e.v ∧ wgt x = e.w := by
 obtain ⟨k, hk, rfl⟩ := List.mem_map.1 he
 have h1 := (hc.mem _).1 (Zi2 hk)
 have h2 := ZgX k hk
 have hx : gi l k ∈ l := Z0 (by omega)
 exact ⟨h1, .fwd hx h1, gi l k, hx, rfl, rfl, rfl⟩
theorem ZnQ {l : List Za} {d : Int} {c : List Int} (hc : CompL l d c) {x : Za} (hx : x ∈ l) (h : Con l d x.From) : ∃ e ∈ edL l (smI l c l.length), e.u = x.From ∧ e.v = x.To ∧ e.w = wgt x := by
 obtain ⟨j, hj, rfl⟩ := List.getElem_of_mem hx
 have hg : gi l (j : Int) = l[j] := Zk hj
 refine ⟨edI l (j : Int), List.mem_map.2 ⟨_, ZnK hj (by rw [hg]; exact (hc.mem _).2 h), rfl⟩, ?_, ?_, ?_⟩
 ·show (gi l (j : Int)).From = _
  rw [hg]
 ·show (gi l (j : Int)).To = _
  rw [hg]
 ·show wgt (gi l (j : Int)) = _
  rw [hg]
theorem ZeT {l : List Za} {d : Int} {c : List Int} (hc : CompL l d c) {f : Int → Int} : PotX l d f ↔ PotE (edL l (smI l c l.length)) f := by
 constructor
 ·intro h e he
  obtain ⟨h1, h2, x, hx, e1, e2, e3⟩ := Zdr hc he
  rw [← e1, ← e2, ← e3]
  exact h x hx (by rw [e1]; exact h1)
 ·intro h x hx hx2
  obtain ⟨e, he, e1, e2, e3⟩ := ZnQ hc hx hx2
  have := h e he
  rw [e1, e2, e3] at this
  exact this
theorem Zio {E : List Ed} {ds : List Int} {f : Int → Int} (hf : PotE E f) {V : List Int} (hV : ∀ v b, Rch E (· ∈ ds) v b → v ∈ V) {K : Nat} (hK : V.length ≤ K) : ∀ e ∈ E, hit ((sr0 ds).rounds E K).s e = none := by
 obtain ⟨Lb, hLb⟩ := Zfu f ds
 have hall := (Zfp E ds).all (fun t ht => ⟨0, if_pos ht, Int.le_refl _⟩) hf (L := Lb) hLb hV
 have hno := ((Zfp E ds).rounds V.length).noHit hall
 have key : ∀ m, (sr0 ds).rounds E (V.length + m) = (sr0 ds).rounds E V.length := by
  intro m
  induction m with
  | zero => rfl
  | succ m ih =>
   show ((sr0 ds).rounds E (V.length + m)).round E = _
   rw [ih]
   exact Ze3 hno
 have := key (K - V.length)
 rw [show V.length + (K - V.length) = K by omega] at this
 rw [this]
 exact hno
theorem Zk8 {l : List Za} {d : Int} {c ds : List Int} (hc : CompL l d c) (hd : ∀ t ∈ ds, Con l d t) {v b : Int} (h : Rch (edL l (smI l c l.length)) (· ∈ ds) v b) : v ∈ c := by
 rw [hc.mem]
 cases h with
 | src ht => exact hd _ ht
 | stp h1 h2 => exact (Zdr hc h2).2.1
structure CycOk (l : List Za) (d : Int) (bad : Bool) : Prop where
 good : bad = false → ∃ f, PotX l d f
 bad : bad = true → ¬ ∃ f, PotX l d f
abbrev CycS (l : List Za) (d : Int) : Type := (x : { x : List Int × Bool // CycOk l d x.2 }) × SlS (eI .i64) 1 x.1.1
set_option maxHeartbeats 16000000 in
theorem ZmB (p : Option Addr) (n cp : Nat) (l : List Za) (d : Int) (w : World) (hv : ArgS w (.slice p n cp) Ze l) (hl : l.length ≤ 6) (hex : ∀ x ∈ l, ExB x) :
  Calls prog 214 [.slice p n cp, .int .i64 d].toArray w (RetM (CycS l d) (fun x => .tuple #[vSl x.2, .bool x.1.1.2]) (fun x => mS 3 x.2) w) := by
 obtain ⟨p', cp', hf1⟩ := hv.form
 injection hf1 with f1 f2 f3
 subst f1
 subst f2
 subst f3
 have hls := fun L => hv.lstK L
 refine Zg Tryz.func214 rfl Tryz.ntmps214 rfl ?_
 repeat (first | (refine wkM ?_; intros) | (refine wnM ?_ ?_; (focus (exact hl)); intros))
 rename_i ps b6
 obtain ⟨⟨c, hc⟩, s⟩ := ps
 have hcl := hc.few
 have hsl := ZfM l c l.length
 have hrg := ZgX (l := l) (c := c)
 have hfr : ∀ c2 : { c : List Int // CompL l d c }, l.length ≤ 6 ∧ (smI l c l.length).length ≤ 6 ∧ (∀ k ∈ smI l c l.length, 0 ≤ k ∧ k < l.length) ∧ (∀ x ∈ l, ExB x) ∧ c2.1.length ≤ 1048576 ∧ c.length ≤ 12 ∧ ((∀ e ∈ edL l (smI l c l.length), e.v ∈ c2.1) ∨ ((∃ f, PotE (edL l (smI l c l.length)) f) ∧ ∃ V : List Int, V.length ≤ c.length ∧ ∀ v b, Rch (edL l (smI l c l.length)) (· ∈ c2.1) v b → v ∈ V)) := fun c2 => by
  have := c2.2.few
  exact ⟨hl, by omega, hrg, hex, by omega, by omega, .inl fun e he => (c2.2.mem _).2 (Zdr hc he).2.1⟩
 refine ZaO (S := ((c2 : { c : List Int // CompL l d c }) × FrS l (smI l c l.length) c2.1 (c.length + 1)) × Nat) (fun _ => True) (fun q => [(0, .slice p l.length cp), (6, .pointer (some ⟨b6, 0, none⟩)), (7, .pointer (some ⟨q.2, 0, none⟩)), (8, .int .i64 q.1.2.r)]) (fun q => [⟨q.2, vSr (some q.1.2.m1) (some q.1.2.m2), 328⟩, ⟨q.1.2.m2, .obj (mII q.1.2.b), 326⟩, ⟨b6, ZO ⟨⟨p, l.length, cp⟩, slH s, (c.length : Nat)⟩, 324⟩]) ?_ (fun q _ => ?_)
 ·(refine Zao (.v [0, 1, 2] (.e2 3 (.e2 4 (.v [5, 6, 7] (.e1 8 (.e1 9 (.e1 10 (.fin))))) 8 (.e1 4 (.v [5, 6, 7] (.e1 9 (.e1 10 (.fin)))))) 8 (.e1 3 (.e1 4 (.v [5, 6, 7] (.e1 9 (.e1 10 (.fin)))))))) ([⟨b6, ZO ⟨⟨p, l.length, cp⟩, slH s, (c.length : Nat)⟩, 324⟩]) (h := ?_); refine wkX ?_)
  repeat' (first | (with_reducible refine And.intro ?_ ?_) | (with_reducible exact True.intro) | (refine wkT ?_; intros) | (refine tC rfl rfl ?_ ?_; focus (first | exact hl | exact hfr _)) | (refine uC rfl rfl ?_ ?_; focus (first | exact hl | exact hfr _)) | (refine eN rfl rfl ?_ ?_; (focus (first | exact hl | exact hfr _)); intro _; (try simp only [Wf, Wg, Wh])) | fail)
  all_goals first
   | (rename_i a1 a2 a3; exact ZfW ⟨⟨a2.1, a3⟩, a1⟩ trivial sbB inferInstance)
   | (rename_i a1 a2 a3; exact ZfW ⟨⟨a1.1, a3⟩, a2⟩ trivial sbB inferInstance)
   | (rename_i a1 a2 a3; exact ZfW ⟨⟨a1.1, a2⟩, a3⟩ trivial sbB inferInstance)
 obtain ⟨⟨⟨c2, hc2⟩, ⟨q, r, m1, m2, a, b, hok, hmat⟩⟩, b7⟩ := q
 simp only at hok hmat ⊢
 obtain ⟨E, hE⟩ : ∃ E, E = edL l (smI l c l.length) := ⟨_, rfl⟩
 have hEc : ∀ e ∈ E, e.u ∈ c ∧ e.u ∈ c2 ∧ e.v ∈ c2 := fun e he => by
  rw [hE] at he
  obtain ⟨h1, h2, _⟩ := Zdr hc he
  exact ⟨(hc.mem _).2 h1, (hc2.mem _).2 h1, (hc2.mem _).2 h2⟩
 rw [← hE] at hok
 repeat (refine wkM ?_; intros)
 by_cases hr : r = -1
 ·subst hr
  obtain ⟨h1, h2, h3⟩ := hok.good rfl
  have hgood : CycOk l d false := ⟨fun _ => ⟨fun v => (q.s v).getD 0, (ZeT hc).2 fun e he => by
   rw [← hE] at he
   obtain ⟨_, g1, g2⟩ := hEc e he
   obtain ⟨x, x1, _⟩ := h3 _ g1
   obtain ⟨y, y1, _⟩ := h3 _ g2
   have := h2 e he
   unfold hit at this
   rw [x1, y1] at this
   simp only at this
   split at this
   ·cases this
   ·simp only [x1, y1, Option.getD_some]
    omega⟩, fun h => by cases h⟩
  try simp only [Wc (show (-1 : Int) < 0 by decide)]
  repeat (refine wkM ?_; intros)
  exact Zz rfl (Zl rfl) (Zl rfl) (fun w hw => ⟨⟨⟨([], false), hgood⟩, SlS.no⟩, rfl, hw.sub (Wk _)⟩)
 obtain ⟨e0, he0, hre, ⟨z0, hz0⟩, hq⟩ := hok.bad hr
 have hnop : ¬ ∃ f, PotX l d f := by
  rintro ⟨f, hf⟩
  have hp := (ZeT hc).1 hf
  have := Zio (ds := c2) (V := c) (K := c.length + 1) hp (fun v b hb => Zk8 hc (fun t ht => (hc2.mem t).1 ht) hb) (Nat.le_succ _) e0 (by rw [← hE]; exact he0)
  rw [← hE, hz0] at this
  cases this
 have hbad : CycOk l d true := ⟨(fun h => by cases h), fun _ => hnop⟩
 obtain ⟨A, hA0, hAK, hAm⟩ : ∃ A : Nat → Int, A 0 = e0.v ∧ (∃ d', 1 ≤ d' ∧ d' ≤ c.length + 1 ∧ A (c.length + 1 + d') = A (c.length + 1)) ∧ ∀ m, ∃ k, mget b (A m) = some k ∧ 0 ≤ k ∧ k < l.length ∧ (gi l k).From = A (m + 1) := by
  obtain ⟨d', d1, d2, d3, d4⟩ := Zmr (Zfp E c2) (ZrM E c2) (V := c) (fun e he => (hEc e he).1) (Nat.lt_succ_self _) he0 hz0
  refine ⟨fun m => itr (back (upd ((sr0 c2).rounds E (c.length + 1)).by' e0.v (some e0))) m e0.v, rfl, ⟨d', d1, d2, by simp only; rw [Zdq]; exact d3⟩, fun m => ?_⟩
  obtain ⟨e, e1, e2⟩ := d4 m
  obtain ⟨g1, g2, g3, g4, g5⟩ := Zf6 hrg (hE ▸ e1)
  refine ⟨(e.i : Int), ?_, g1, g2, ?_⟩
  ·rw [hmat.b, hq]
   simp only
   rw [e2]
   rfl
  ·dsimp only
   rw [Zgn, Zig e2]
   exact g3
 obtain ⟨d', d1, d2, d3⟩ := hAK
 obtain ⟨g1, g2, g3, g4, g5⟩ := Zf6 hrg (hE ▸ he0)
 rw [← hre] at g1 g2 g3 g4
 have hne : l ≠ [] := fun h0 => by rw [h0] at g2; simp at g2; omega
 obtain ⟨bw, ow, cw, hvw, hcw, hrow⟩ := hv.blk (k := 4) hne []
 injection hvw with e1 e2 e3
 subst e1
 subst e3
 have hrow' : ∀ L, RowC w L bw ow Za Ze l := fun L => ⟨fun w' hw' => hrow.out w' (hw'.sub (Wk _))⟩
 have hwr : IntKind.i64.wrap (((c.length : Nat) : Int) + 1) = ((c.length + 1 : Nat) : Int) := by
  rw [IntWalk.i64_in _ (by omega)]
  omega
 simp only [We (show ¬ r < 0 by omega)]
 repeat (refine wkM ?_; intros)
 dsimp only
 repeat (refine wkO ?_; intros)
 dsimp only
 try simp only [hwr]
 rw [g4, ← hA0]
 refine Zq (S := Nat) (fun m => m ≤ c.length + 1) (fun m => [(6, .pointer (some ⟨b6, 0, none⟩)), (7, .pointer (some ⟨b7, 0, none⟩)), (9, .int .i64 (A m)), (34, .int .i64 ((c.length + 1 : Nat))), (35, .int .i64 (m : Nat))]) (fun _ => [⟨b7, vSr (some m1) (some m2), 328⟩, ⟨m2, .obj (mII b), 326⟩, ⟨b6, ZO ⟨⟨some ⟨bw, ow, none⟩, l.length, cp⟩, slH s, (c.length : Nat)⟩, 324⟩]) (fun m => c.length + 1 - m) 0 (Wm _) sbB slB (fun m hm => ?_)
 repeat (refine wkM ?_; intros)
 refine Zn rfl (fun h => ?_) (fun h => ?_)
 ·have hlt : m < c.length + 1 := by have := Wa h; omega
  clear h
  obtain ⟨k, k1, k2, k3, k4⟩ := hAm m
  repeat (refine wkM ?_; intros)
  simp only [k1, Option.getD_some]
  try dsimp only
  repeat (refine wkO ?_; intros)
  rw [k4]
  exact Zj (m + 1) hlt sbB slB (by omega)
 have hge : m = c.length + 1 := by have := Wb h; omega
 subst hge
 clear h
 repeat (refine wkM ?_; intros)
 refine Zq (S := (i : Nat) × (out : List Int) × SlS (eI .i64) 1 out) (fun q => q.1 < d' ∧ q.2.1.length = q.1 ∧ ∀ i', 1 ≤ i' → i' ≤ q.1 → A (c.length + 1 + i') ≠ A (c.length + 1)) (fun q => [(6, .pointer (some ⟨b6, 0, none⟩)), (7, .pointer (some ⟨b7, 0, none⟩)), (9, .int .i64 (A (c.length + 1))), (10, vSl q.2.2), (11, .int .i64 (A (c.length + 1 + q.1)))]) (fun q => mS 3 q.2.2 ++ [⟨b7, vSr (some m1) (some m2), 328⟩, ⟨m2, .obj (mII b), 326⟩, ⟨b6, ZO ⟨⟨some ⟨bw, ow, none⟩, l.length, cp⟩, slH s, (c.length : Nat)⟩, 324⟩]) (fun q => d' - q.1) ⟨0, [], SlS.no⟩ ⟨d1, rfl, fun i' h1 h2 => absurd h1 (by simp only at h2; omega)⟩ sbB suB (fun q hq => ?_)
 obtain ⟨i, out, o⟩ := q
 obtain ⟨hi, hol, hno⟩ := hq
 simp only at hi hol hno o ⊢
 obtain ⟨k, k1, k2, k3, k4⟩ := hAm (c.length + 1 + i)
 repeat (refine wkM ?_; intros)
 simp only [k1, Option.getD_some]
 (refine Zao (.v [0, 1, 4, 5, 6, 7, 8, 9] (.e1 2 (.e1 3 (.e1 10 (.e1 11 (.fin)))))) ([⟨b6, ZO ⟨⟨some ⟨bw, ow, none⟩, l.length, cp⟩, slH s, (c.length : Nat)⟩, 324⟩]) (h := ?_); refine wkX ?_)
 (repeat (refine wkH ?_))
 dsimp only
 (repeat (refine wkH ?_))
 repeat (refine wkT ?_; intros)
 refine eU rfl rfl ?_ ?_ ?_ ?_
 ·rfl
 ·rfl
 ·exact ⟨by decide, by omega, by omega⟩
 intro o'
 repeat (refine wkT ?_; intros)
 repeat (refine wkM ?_; intros)
 rw [k4]
 by_cases he : A (c.length + 1 + i + 1) = A (c.length + 1)
 ·simp only [Wc he]
  repeat (refine wkM ?_; intros)
  refine sZ rfl rfl (show (out ++ [k]).length ≤ 1048576 by rw [Wp, List.length_singleton]; omega) ?_
  intro o2
  repeat (refine wkM ?_; intros)
  refine Zz rfl (Zl rfl) (Zl rfl) (fun w hw => ⟨⟨⟨((out ++ [k]).reverse, true), hbad⟩, o2.1⟩, ?_, hw.sub suB⟩)
  show Ending.returned (.tuple #[vSl o', .bool true]) = Ending.returned (.tuple #[vSl o2.1, .bool true])
  rw [o2.2]
 ·simp only [We he]
  repeat (refine wkM ?_; intros)
  have hi1 : i + 1 < d' := by
   rcases Nat.lt_or_ge (i + 1) d' with h | h
   ·exact h
   ·have : i + 1 = d' := by omega
    rw [← this] at d3
    exact (he d3).elim
  exact Zj ⟨i + 1, out ++ [k], o'⟩ ⟨hi1, by rw [Wp, List.length_singleton, hol], fun i' h1 h2 => by
   rcases Nat.lt_or_ge i' (i + 1) with h3 | h3
   ·exact hno i' h1 (by omega)
   ·have : i' = i + 1 := by have : i' ≤ i + 1 := h2; omega
    subst this
    exact he⟩ sbB suB (by show d' - (i + 1) < d' - i; omega)
instance ZCX (w0 : World) (L : List Blk) (p : Option Addr) (n cp : Nat) (l : List Za) (d : Int) [h : LstC w0 L (.slice p n cp) Za Ze l] : SpecR prog w0 L 214 [.slice p n cp, .int .i64 d] (CycS l d) (fun x => .tuple #[vSl x.2, .bool x.1.1.2]) (fun x => mS 3 x.2) (l.length ≤ 6 ∧ ∀ x ∈ l, ExB x) := ⟨fun hp w hw => ZmB p n cp l d w (h.out w hw) hp.1 hp.2⟩
end
section
inductive RchX (l : List Za) (d s : Int) : Int → Int → Prop
 | src : RchX l d s s 0
 | stp {x : Za} {a : Int} : RchX l d s x.From a → x ∈ l → Con l d x.From → RchX l d s x.To (a + wgt x)
def DstX (l : List Za) (d s v m : Int) : Prop := RchX l d s v m ∧ ∀ b, RchX l d s v b → m ≤ b
theorem DstX.uniq {l : List Za} {d s v m n : Int} (h : DstX l d s v m) (k : DstX l d s v n) : m = n := by
 have h1 := h.2 n k.1
 have h2 := k.2 m h.1
 omega
theorem ZgH {l : List Za} {d s : Int} {c : List Int} (hc : CompL l d c) {v b : Int} : RchX l d s v b ↔ Rch (edL l (smI l c l.length)) (· ∈ [s]) v b := by
 constructor
 ·intro h
  induction h with
  | src => exact .src (List.mem_singleton.2 rfl)
  | @stp x a h1 h2 h3 ih =>
   obtain ⟨e, he, e1, e2, e3⟩ := ZnQ hc h2 h3
   rw [← e1] at ih
   rw [← e2, ← e3]
   exact .stp ih he
 ·intro h
  induction h with
  | src ht =>
   rw [Wo] at ht
   subst ht
   exact .src
  | @stp e a h1 h2 ih =>
   obtain ⟨g1, g2, x, hx, e1, e2, e3⟩ := Zdr hc h2
   rw [← e1] at ih g1
   rw [← e2, ← e3]
   exact .stp ih hx g1
theorem BkM.uniq {l : List Za} {b : List (Int × Int)} {t0 v : Int} {r r' : List Int} (h : BkM l b t0 v r) (k : BkM l b t0 v r') : r = r' := by
 induction h generalizing r' with
 | nil =>
  cases k with
  | nil => rfl
  | cons h1 => exact (h1 rfl).elim
 | cons h1 h2 h3 h4 h5 h6 ih =>
  cases k with
  | nil => exact (h1 rfl).elim
  | cons k1 k2 k3 k4 k5 k6 =>
   rw [h2] at k2
   injection k2 with k2
   subst k2
   rw [ih k6]
theorem Zje (l : List Za) : ∀ r : List Int, wS l r.reverse = wS l r
 | [] => rfl
 | k :: r => by rw [List.reverse_cons, Zf7, Zje l r, wS]; omega
theorem ZoR {l : List Za} {sm : List Int} (hr : ∀ k ∈ sm, 0 ≤ k ∧ k < l.length) : ∀ {p : List Ed}, (∀ e ∈ p, e ∈ edL l sm) → wS l (p.map fun e => (e.i : Int)) = wSum p
 | [], _ => rfl
 | e :: p, h => by
  rw [List.map_cons, wS, ZoR hr (p := p) fun f hf => h f (.tail _ hf), (Zf6 hr (h e (.head _))).2.2.2.2, wSum]
  omega
instance lst1K {α : Type} {enc : α → Array Value} {k : Nat} {x : α} {sp : List Value} [he : EncC enc k] (w0 : World) (L : List Blk) (b : Nat) (T : TypeId) [h : AtC w0 L b (row enc [x] sp) T] : LstC w0 L (.slice (some ⟨b, 0, none⟩) 1 1) α enc [x] := ⟨fun w hw => by
 obtain ⟨fz, hb⟩ := h.out w hw
 exact ZdN (c := 1) hb (Wl 1)⟩
theorem Zrn {l : List Za} {d : Int} {c : List Int} (hc : CompL l d c) (s : Int) : ∃ V : List Int, V.length ≤ c.length ∧ ∀ v b, Rch (edL l (smI l c l.length)) (· ∈ [s]) v b → v ∈ V := by
 by_cases hs : s ∈ c
 ·exact ⟨c, Wl _, fun v b hb => Zk8 hc (ds := [s]) (fun t ht => by rw [Wo] at ht; rw [ht]; exact (hc.mem s).1 hs) hb⟩
 ·refine ⟨[s], List.length_pos_of_mem ((hc.mem d).2 .base), fun v b hb => ?_⟩
  have key : v = s := by
   induction hb with
   | src ht => exact List.mem_singleton.1 ht
   | @stp e a h1 h2 ih =>
    obtain ⟨g1, _⟩ := Zdr hc h2
    rw [ih] at g1
    exact (hs ((hc.mem s).2 g1)).elim
  rw [key]
  exact List.mem_singleton.2 rfl
structure OneOk (l : List Za) (d s : Int) (a b : List (Int × Int)) : Prop where
 none : ∀ v, mget a v = none → ¬ ∃ m, RchX l d s v m
 some : ∀ v m, mget a v = some m → DstX l d s v m ∧ ∃ r, BkM l b s v r ∧ r.length ≤ 4096 ∧ wS l r = m
theorem ZoC {l : List Za} {d s : Int} {c : List Int} (hc : CompL l d c) {K : Nat} {r : Int} {q : Sr} {a b : List (Int × Int)} (hf : ∃ f, PotX l d f) (hK : c.length ≤ K) (hok : FrOk (edL l (smI l c l.length)) [s] K r q) (hm : MatS q a b) : OneOk l d s a b := by
 obtain ⟨f, hf⟩ := hf
 have hp := (ZeT hc).1 hf
 have hrg := ZgX (l := l) (c := c)
 obtain ⟨E, hE⟩ : ∃ E, E = edL l (smI l c l.length) := ⟨_, rfl⟩
 have hV : ∃ V : List Int, V.length ≤ K ∧ ∀ v b, Rch E (· ∈ [s]) v b → v ∈ V := by
  obtain ⟨V, v1, v2⟩ := Zrn hc s
  exact ⟨V, Wi v1 hK, by rw [hE]; exact v2⟩
 have hr : r = -1 := by
  rcases Int.decEq r (-1) with h | h
  ·obtain ⟨e0, h1, h2, ⟨z, hz⟩, _⟩ := hok.bad h
   obtain ⟨V, v1, v2⟩ := hV
   have := Zio (hE ▸ hp) v2 v1 e0 (hE ▸ h1)
   rw [hE, hz] at this
   cases this
  ·exact h
 obtain ⟨h1, h2, h3⟩ := hok.good hr
 have hS : (fun x : Int => x ∈ [s]) = (fun x => x = s) := by
  funext x
  simp
 obtain ⟨c0, c1, c2⟩ := h3 s (List.mem_singleton.2 rfl)
 have hc0 : c0 = 0 := by
  have h4 := ZlV hp (S := (· ∈ [s])) (L := f s) (fun t ht => by rw [List.mem_singleton.1 ht]; exact Int.le_refl _) (h1.r _ _ c1)
  omega
 subst hc0
 refine ⟨fun v hv ⟨m, hm2⟩ => ?_, fun v m hv => ?_⟩
 ·obtain ⟨m', g1, _⟩ := h1.dst h3 h2 ((ZgH hc).1 hm2)
  rw [← hm.s, hv] at g1
  cases g1
 ·rw [hm.s] at hv
  obtain ⟨m', g1, g2⟩ := h1.dst h3 h2 (h1.r _ _ hv)
  rw [hv] at g1
  injection g1 with g1
  subst g1
  rw [hS] at h1
  obtain ⟨p, p1, p2, p3, p4⟩ := h1.bk h2 c1 (q.t v + 1) v m (Nat.lt_succ_self _) hv
  refine ⟨⟨(ZgH hc).2 g2.1, fun b hb => g2.2 b ((ZgH hc).1 hb)⟩, p.map fun e => (e.i : Int), Zuj hrg hm p1 p4, ?_, ?_⟩
  ·have := h1.le v
   have := hok.n
   rw [Ws]
   omega
  ·rw [ZoR hrg p4]
   omega
inductive ChR (l : List Za) (d : Int) : List Int → List Int → Int → Prop
 | no : d = 0 ∨ d ∉ devL l → ChR l d [] [] 0
 | bad : d ≠ 0 → d ∈ devL l → (¬ ∃ f, PotX l d f) → ChR l d [] [] 32
 | far : d ≠ 0 → d ∈ devL l → (∃ f, PotX l d f) → ((¬ ∃ m, RchX l d 0 d m) ∨ ¬ ∃ m, RchX l d d 0 m) → ChR l d [] [] 31
 | ok {up dn : List Int} : d ≠ 0 → d ∈ devL l → (∃ f, PotX l d f) → FwdM l 0 up d → FwdM l d dn 0 → up ≠ [] → up.length ≤ 4096 → dn.length ≤ 4096 → DstX l d 0 d (wS l up) → DstX l d d 0 (wS l dn) → ChR l d up dn 0
abbrev ChS (l : List Za) (d : Int) : Type := (x : { x : List Int × List Int × Int // ChR l d x.1 x.2.1 x.2.2 }) × SlS (eI .i64) 1 x.1.1 × SlS (eI .i64) 1 x.1.2.1
theorem ZsI (l : List Za) (hl : l.length ≤ 6) : (devL l).Pairwise leI ∧ (devL l).length ≤ 1048576 := ⟨Zd6 _, by
 have := Zhz l l.length (Wl _)
 unfold devL
 rw [Zd1, Ws]
 omega⟩
set_option maxHeartbeats 16000000 in
theorem ZkJ (p : Option Addr) (n cp : Nat) (l : List Za) (d : Int) (w : World) (hv : ArgS w (.slice p n cp) Ze l) (hl : l.length ≤ 6) (hex : ∀ x ∈ l, ExB x) (hd : 0 ≤ d ∧ d ≤ 1073741824) :
  Calls prog 163 [.slice p n cp, .int .i64 d].toArray w (RetM (ChS l d) (fun x => .tuple #[vSl x.2.1, vSl x.2.2, .int .i64 x.1.1.2.2]) (fun x => mS 3 x.2.2 ++ mS 3 x.2.1) w) := by
 obtain ⟨p', cp', hf1⟩ := hv.form
 injection hf1 with f1 f2 f3
 subst f1
 subst f2
 subst f3
 have hls := fun L => hv.lstK L
 have hlx : l.length ≤ 6 ∧ ∀ x ∈ l, ExB x := ⟨hl, hex⟩
 have hdv := ZsI l hl
 refine Zg Tryz.func163 rfl Tryz.ntmps163 rfl ?_
 repeat (refine wkM ?_; intros)
 simp only [We (show ¬ d < 0 by omega)]
 repeat (refine wkM ?_; intros)
 simp only [We (show ¬ (1073741824 : Int) < d by omega)]
 repeat (first | (refine wkM ?_; intros) | (refine wnM ?_ ?_; (focus (first | exact hl | exact hdv)); intros))
 by_cases h0 : d = 0
 ·simp only [Wc h0]
  repeat (refine wkM ?_; intros)
  refine ZaA rfl (Zl rfl) (Zl rfl) (Zl rfl) (fun w hw => ⟨⟨⟨([], [], 0), .no (.inl h0)⟩, SlS.no, SlS.no⟩, rfl, hw.sub (Wk _)⟩)
 simp only [We h0]
 repeat (refine wkM ?_; intros)
 by_cases h1 : d ∈ devL l
 ·simp only [Wc h1, Bool.not_true]
  repeat (first | (refine wkM ?_; intros) | (refine wnM ?_ ?_; (focus (exact hlx)); intros))
  rename_i sd cy
  obtain ⟨⟨⟨cyl, bad⟩, hcy⟩, so⟩ := cy
  dsimp only
  cases bad with
  | true =>
   repeat (refine wkM ?_; intros)
   exact ZaA rfl (Zl rfl) (Zl rfl) (Zl rfl) (fun w hw => ⟨⟨⟨([], [], 32), .bad h0 h1 (hcy.bad rfl)⟩, SlS.no, SlS.no⟩, rfl, hw.sub (Wk _)⟩)
  | false =>
   have hpot := hcy.good rfl
   have hfr : ∀ (cc : { c : List Int // CompL l d c }) (s : Int), l.length ≤ 6 ∧ (smI l cc.1 l.length).length ≤ 6 ∧ (∀ k ∈ smI l cc.1 l.length, 0 ≤ k ∧ k < l.length) ∧ (∀ x ∈ l, ExB x) ∧ [s].length ≤ 1048576 ∧ cc.1.length ≤ 12 ∧ ((∀ e ∈ edL l (smI l cc.1 l.length), e.v ∈ [s]) ∨ ((∃ f, PotE (edL l (smI l cc.1 l.length)) f) ∧ ∃ V : List Int, V.length ≤ cc.1.length ∧ ∀ v b, Rch (edL l (smI l cc.1 l.length)) (· ∈ [s]) v b → v ∈ V)) := fun cc s => by
    have h2 := cc.2.few
    have h3 := ZfM l cc.1 l.length
    obtain ⟨f, hf⟩ := hpot
    exact ⟨hl, by omega, ZgX, hex, by simp, by omega, .inr ⟨⟨f, (ZeT cc.2).1 hf⟩, Zrn cc.2 s⟩⟩
   repeat (first | (refine wkM ?_; intros) | (refine wnM ?_ ?_; (focus (first | exact hl | exact hfr _ _)); intros))
   rename_i pc b11 bx1 q1 b12 bx2 q2 b14
   obtain ⟨⟨c, hc⟩, s⟩ := pc
   obtain ⟨qq1, r1, m11, m12, a1, b1, ok1, mat1⟩ := q1
   obtain ⟨qq2, r2, m21, m22, a2, b2, ok2, mat2⟩ := q2
   dsimp only
   have O1 : OneOk l d 0 a1 b1 := ZoC hc hpot (Nat.le_succ _) ok1 mat1
   have O2 : OneOk l d d a2 b2 := ZoC hc hpot (Nat.le_succ _) ok2 mat2
   cases hA : mget a1 d with
   | none =>
    simp only [Option.isSome_none, Bool.not_false]
    repeat (refine wkM ?_; intros)
    exact ZaA rfl (Zl rfl) (Zl rfl) (Zl rfl) (fun w hw => ⟨⟨⟨([], [], 31), .far h0 h1 hpot (.inl (O1.none d hA))⟩, SlS.no, SlS.no⟩, rfl, hw.sub (Wk _)⟩)
   | some z1 =>
    simp only [Option.isSome_some, Bool.not_true]
    repeat (refine wkM ?_; intros)
    cases hB : mget a2 0 with
    | none =>
     simp only [Option.isSome_none, Bool.not_false]
     repeat (refine wkM ?_; intros)
     exact ZaA rfl (Zl rfl) (Zl rfl) (Zl rfl) (fun w hw => ⟨⟨⟨([], [], 31), .far h0 h1 hpot (.inr (O2.none 0 hB))⟩, SlS.no, SlS.no⟩, rfl, hw.sub (Wk _)⟩)
    | some z2 =>
     simp only [Option.isSome_some, Bool.not_true]
     obtain ⟨D1, R1, B1, N1, W1⟩ := O1.some d z1 hA
     obtain ⟨D2, R2, B2, N2, W2⟩ := O2.some 0 z2 hB
     have hq1 : l.length ≤ 6 ∧ ∃ r, BkM l b1 0 d r ∧ r.length ≤ 4096 := ⟨hl, R1, B1, N1⟩
     have hq2 : l.length ≤ 6 ∧ ∃ r, BkM l b2 d 0 r ∧ r.length ≤ 4096 := ⟨hl, R2, B2, N2⟩
     repeat (refine wkM ?_; intros)
     (refine Zao (.v [0, 1, 2, 4, 5, 6] (.e1 3 (.e1 7 (.e1 8 (.e1 9 (.e1 10 (.fin))))))) (_) (h := ?_); refine wkX ?_)
     (repeat (refine wkH ?_))
     repeat (first | (refine wkT ?_; intros) | (refine tC rfl rfl ?_ ?_; focus (first | exact hq1 | exact hq2)) | (refine uC rfl rfl ?_ ?_; focus (first | exact hq1 | exact hq2)) | (refine eN rfl rfl ?_ ?_; (focus (first | exact hq1 | exact hq2)); intro _; (try simp only [Wf, Wg, Wh])))
     rename_i u1 u2
     obtain ⟨⟨v1, hv1⟩, o1⟩ := u1
     obtain ⟨⟨v2, hv2⟩, o2⟩ := u2
     dsimp only
     have hok : ChR l d v1.reverse v2.reverse 0 := by
      have e1 := hv1.uniq B1
      have e2 := hv2.uniq B2
      refine .ok h0 h1 hpot hv1.fwd hv2.fwd (fun h => h0 (hv1.len0.1 (List.reverse_eq_nil_iff.1 h))) (by rw [List.length_reverse, e1]; exact N1) (by rw [List.length_reverse, e2]; exact N2) ?_ ?_
      ·rw [Zje, e1, W1]; exact D1
      ·rw [Zje, e2, W2]; exact D2
     repeat (refine wkM ?_; intros)
     exact ZaA rfl (Zl rfl) (Zl rfl) (Zl rfl) (fun w hw => ⟨⟨⟨(v1.reverse, v2.reverse, 0), hok⟩, o1, o2⟩, rfl, hw.sub suB⟩)
 ·simp only [We h1, Bool.not_false]
  repeat (refine wkM ?_; intros)
  refine ZaA rfl (Zl rfl) (Zl rfl) (Zl rfl) (fun w hw => ⟨⟨⟨([], [], 0), .no (.inr h1)⟩, SlS.no, SlS.no⟩, rfl, hw.sub (Wk _)⟩)
instance ZAd (w0 : World) (L : List Blk) (p : Option Addr) (n cp : Nat) (l : List Za) (d : Int) [h : LstC w0 L (.slice p n cp) Za Ze l] : SpecR prog w0 L 163 [.slice p n cp, .int .i64 d] (ChS l d) (fun x => .tuple #[vSl x.2.1, vSl x.2.2, .int .i64 x.1.1.2.2]) (fun x => mS 3 x.2.2 ++ mS 3 x.2.1) (l.length ≤ 6 ∧ (∀ x ∈ l, ExB x) ∧ (0 ≤ d ∧ d ≤ 1073741824)) := ⟨fun hp w hw => ZkJ p n cp l d w (h.out w hw) hp.1 hp.2.1 hp.2.2⟩
end
section
inductive OffR (l : List Za) (d : Int) : Int → Int → Int → Prop
 | no : d = 0 ∨ d ∉ devL l → OffR l d 0 0 0
 | bad : d ≠ 0 → d ∈ devL l → (¬ ∃ f, PotX l d f) → OffR l d 0 0 32
 | far : d ≠ 0 → d ∈ devL l → (∃ f, PotX l d f) → ((¬ ∃ m, RchX l d 0 d m) ∨ ¬ ∃ m, RchX l d d 0 m) → OffR l d 0 0 31
 | ok {hi m : Int} : d ≠ 0 → d ∈ devL l → (∃ f, PotX l d f) → DstX l d 0 d hi → DstX l d d 0 m → OffR l d (-m) hi 0
theorem OffR.uniq {l : List Za} {d lo hi e lo' hi' e' : Int} (h : OffR l d lo hi e) (k : OffR l d lo' hi' e') : lo = lo' ∧ hi = hi' ∧ e = e' := by
 cases h with
 | no h1 =>
  cases k with
  | no k1 => exact ⟨rfl, rfl, rfl⟩
  | bad k1 k2 k3 => exact (h1.elim k1 (fun h => h k2)).elim
  | far k1 k2 k3 k4 => exact (h1.elim k1 (fun h => h k2)).elim
  | ok k1 k2 k3 k4 k5 => exact (h1.elim k1 (fun h => h k2)).elim
 | bad h1 h2 h3 =>
  cases k with
  | no k1 => exact (k1.elim h1 (fun h => h h2)).elim
  | bad k1 k2 k3 => exact ⟨rfl, rfl, rfl⟩
  | far k1 k2 k3 k4 => exact (h3 k3).elim
  | ok k1 k2 k3 k4 k5 => exact (h3 k3).elim
 | far h1 h2 h3 h4 =>
  cases k with
  | no k1 => exact (k1.elim h1 (fun h => h h2)).elim
  | bad k1 k2 k3 => exact (k3 h3).elim
  | far k1 k2 k3 k4 => exact ⟨rfl, rfl, rfl⟩
  | ok k1 k2 k3 k4 k5 => exact (h4.elim (fun h => h ⟨_, k4.1⟩) (fun h => h ⟨_, k5.1⟩)).elim
 | ok h1 h2 h3 h4 h5 =>
  cases k with
  | no k1 => exact (k1.elim h1 (fun h => h h2)).elim
  | bad k1 k2 k3 => exact (k3 h3).elim
  | far k1 k2 k3 k4 => exact (k4.elim (fun h => h ⟨_, h4.1⟩) (fun h => h ⟨_, h5.1⟩)).elim
  | ok k1 k2 k3 k4 k5 =>
   have e1 := h4.uniq k4
   have e2 := h5.uniq k5
   exact ⟨by rw [e2], e1, rfl⟩
open Classical in
noncomputable def offX (l : List Za) (d : Int) : Int × Int × Int := if h : ∃ x : Int × Int × Int, OffR l d x.1 x.2.1 x.2.2 then h.choose else (0, 0, 0)
theorem Zev {l : List Za} {d lo hi e : Int} (h : OffR l d lo hi e) : offX l d = (lo, hi, e) := by
 have hx : ∃ x : Int × Int × Int, OffR l d x.1 x.2.1 x.2.2 := ⟨(lo, hi, e), h⟩
 unfold offX
 rw [dif_pos hx]
 obtain ⟨h1, h2, h3⟩ := hx.choose_spec.uniq h
 exact Prod.ext h1 (Prod.ext h2 h3)
instance ZE0 (w0 : World) (L : List Blk) (v : Value) (a c : Int) : SpecM prog w0 L 164 [v, .slice none 0 0, .int .i64 a, .int .i64 c] (.tuple #[.int .i64 0, .int .i64 (if a = c then 0 else 30)]) True := ⟨fun _ w _ => Zo8 v a c w⟩
theorem Zp7 {l : List Za} (hex : ∀ x ∈ l, ExB x) : ∀ {a c : Int} {r : List Int}, FwdM l a r c → -(2147483648 * (r.length : Int)) ≤ wS l r ∧ wS l r ≤ 2147483648 * (r.length : Int)
 | _, _, [], _ => by simp [wS]
 | a, c, k :: r, h => by
  have h1 := Zp7 hex h.2.2
  have h2 := ZrI (hex (gi l k) (Z0 (by have := h.1; omega)))
  rw [wS, Wu]
  omega
abbrev OffS (l : List Za) (d : Int) : Type := { x : Int × Int × Int // OffR l d x.1 x.2.1 x.2.2 ∧ (-17592186044416 ≤ x.1 ∧ x.1 ≤ 17592186044416) ∧ (-17592186044416 ≤ x.2.1 ∧ x.2.1 ≤ 17592186044416) }
set_option maxHeartbeats 8000000 in
theorem Zgd (p : Option Addr) (n cp : Nat) (l : List Za) (d : Int) (w : World) (hv : ArgS w (.slice p n cp) Ze l) (hl : l.length ≤ 6) (hex : ∀ x ∈ l, ExB x) (hd : 0 ≤ d ∧ d ≤ 1073741824) :
  Calls prog 105 [.slice p n cp, .int .i64 d].toArray w (RetM (OffS l d) (fun x => .tuple #[.agg (Zan ⟨x.1.1, x.1.2.1⟩), .int .i64 x.1.2.2]) (fun _ => []) w) := by
 obtain ⟨p', cp', hf1⟩ := hv.form
 injection hf1 with f1 f2 f3
 subst f1
 subst f2
 subst f3
 have hls := fun L => hv.lstK L
 have hlx : l.length ≤ 6 ∧ (∀ x ∈ l, ExB x) ∧ (0 ≤ d ∧ d ≤ 1073741824) := ⟨hl, hex, hd⟩
 refine Zg Tryz.func105 rfl Tryz.ntmps105 rfl ?_
 repeat (first | (refine wkM ?_; intros) | (refine wnM ?_ ?_; (focus (exact hlx)); intros))
 rename_i b4 ch
 obtain ⟨⟨⟨up, dn, e⟩, hch⟩, o1, o2⟩ := ch
 dsimp only at hch o1 o2 ⊢
 cases hch with
 | no h1 =>
  rcases o1.cases 3 with ⟨-, x1, x2⟩ | ⟨_, _, _, _, _, _, xne⟩
  ·rcases o2.cases 3 with ⟨-, y1, y2⟩ | ⟨_, _, _, _, _, _, yne⟩
   ·simp only [x1, x2, y1, y2, Wg]
    repeat (first | (refine wkM ?_; intros) | (refine wnM ?_ ?_; (focus (exact trivial)); intros))
    try simp only [Wc (show (0 : Int) = 0 from rfl), Bool.not_true]
    repeat (first | (refine wkM ?_; intros) | (refine wnM ?_ ?_; (focus (exact trivial)); intros))
    refine Zz rfl (Zae rfl) (Zl rfl) (fun w hw => ⟨⟨(0, 0, 0), .no h1, by dsimp only; omega, by dsimp only; omega⟩, rfl, hw.sub (Wk _)⟩)
   ·exact (yne rfl).elim
  ·exact (xne rfl).elim
 | bad h1 h2 h3 =>
  repeat (refine wkM ?_; intros)
  try simp only [We (show ¬ (32 : Int) = 0 by decide), Bool.not_false]
  repeat (refine wkM ?_; intros)
  refine Zz rfl (Zae rfl) (Zl rfl) (fun w hw => ⟨⟨(0, 0, 32), .bad h1 h2 h3, by dsimp only; omega, by dsimp only; omega⟩, rfl, hw.sub (Wk _)⟩)
 | far h1 h2 h3 h4 =>
  repeat (refine wkM ?_; intros)
  try simp only [We (show ¬ (31 : Int) = 0 by decide), Bool.not_false]
  repeat (refine wkM ?_; intros)
  refine Zz rfl (Zae rfl) (Zl rfl) (fun w hw => ⟨⟨(0, 0, 31), .far h1 h2 h3 h4, by dsimp only; omega, by dsimp only; omega⟩, rfl, hw.sub (Wk _)⟩)
 | ok h1 h2 h3 h4 h5 h6 h7 h8 h9 h10 =>
  have hs1 : l.length ≤ 6 ∧ up.length ≤ 4096 ∧ (∀ x ∈ l, ExB x) ∧ FwdM l 0 up d := ⟨hl, h7, hex, h4⟩
  have hs2 : l.length ≤ 6 ∧ dn.length ≤ 4096 ∧ (∀ x ∈ l, ExB x) ∧ FwdM l d dn 0 := ⟨hl, h8, hex, h5⟩
  have hb1 := Zp7 hex h4
  have hb2 := Zp7 hex h5
  have hul : 0 < up.length := List.length_pos_iff.2 h6
  have hng : IntKind.i64.wrap (-(wS l dn)) = -(wS l dn) := IntWalk.i64_in _ (by omega)
  simp only [List.append_assoc]
  repeat (first | (refine wkM ?_; intros) | (refine wnM ?_ ?_; (focus (first | exact hs1 | exact hs2)); intros))
  try simp only [Wc (show (0 : Int) = 0 from rfl), Bool.not_true]
  repeat (first | (refine wkM ?_; intros) | (refine wnM ?_ ?_; (focus (first | exact hs1 | exact hs2)); intros))
  simp only [We (show ¬ ((up.length : Nat) : Int) = 0 by omega)]
  repeat (refine wkM ?_; intros)
  simp only [hng]
  repeat (refine wkM ?_; intros)
  refine Zz rfl (Zae rfl) (Zl rfl) (fun w hw => ⟨⟨(-(wS l dn), wS l up, 0), .ok h1 h2 h3 h9 h10, by dsimp only; omega, by dsimp only; omega⟩, rfl, hw.sub (Wk _)⟩)
instance ZAm (w0 : World) (L : List Blk) (p : Option Addr) (n cp : Nat) (l : List Za) (d : Int) [h : LstC w0 L (.slice p n cp) Za Ze l] : SpecR prog w0 L 105 [.slice p n cp, .int .i64 d] (OffS l d) (fun x => .tuple #[.agg (Zan ⟨x.1.1, x.1.2.1⟩), .int .i64 x.1.2.2]) (fun _ => []) (l.length ≤ 6 ∧ (∀ x ∈ l, ExB x) ∧ (0 ≤ d ∧ d ≤ 1073741824)) := ⟨fun hp w hw => Zgd p n cp l d w (h.out w hw) hp.1 hp.2.1 hp.2.2⟩
instance Zzo (lo hi : Int) : SpecC prog 106 [.agg (Zan ⟨lo, hi⟩)] (vQ (Rat.divInt (lo + hi) 2)) ((-17592186044416 ≤ lo ∧ lo ≤ 17592186044416) ∧ (-17592186044416 ≤ hi ∧ hi ≤ 17592186044416)) := ⟨fun hp w => by
 obtain ⟨h1, h2⟩ := hp
 refine Zg Tryz.func106 rfl Tryz.ntmps106 rfl ?_
 have hwr : IntKind.i64.wrap (lo + hi) = lo + hi := IntWalk.i64_in _ (by omega)
 repeat (refine wkM ?_; intros)
 dsimp only
 simp only [hwr]
 repeat (refine wkO ?_; intros)
 exact ZV rfl rfl (fun w hw => Zi hw)⟩
noncomputable def corX (l : List Za) (r : Zb) : Rat × Int := if (offX l r.Device).2.2 = 0 then ((r.Time : Rat) - Rat.divInt ((offX l r.Device).1 + (offX l r.Device).2.1) 2, 0) else (0, (offX l r.Device).2.2)
set_option maxHeartbeats 8000000 in
theorem Zjr (p : Option Addr) (n cp : Nat) (l : List Za) (r : Zb) (w : World) (hv : ArgS w (.slice p n cp) Ze l) (hl : l.length ≤ 6) (hex : ∀ x ∈ l, ExB x) (hd : 0 ≤ r.Device ∧ r.Device ≤ 1073741824) (ht : 0 ≤ r.Time ∧ r.Time ≤ 1073741824) :
  Calls prog 55 [.slice p n cp, .agg (Zd r)].toArray w (Ret (.tuple #[vQ (corX l r).1, .int .i64 (corX l r).2]) w) := by
 obtain ⟨p', cp', hf1⟩ := hv.form
 injection hf1 with f1 f2 f3
 subst f1
 subst f2
 subst f3
 have hls := fun L => hv.lstK L
 have hlx : l.length ≤ 6 ∧ (∀ x ∈ l, ExB x) ∧ (0 ≤ r.Device ∧ r.Device ≤ 1073741824) := ⟨hl, hex, hd⟩
 refine Zg Tryz.func55 rfl Tryz.ntmps55 rfl ?_
 repeat (first | (refine wkM ?_; intros) | (refine wnM ?_ ?_; (focus (exact hlx)); intros))
 rename_i b3 b4 xs b6
 obtain ⟨⟨lo, hi, er⟩, h1, h2, h3⟩ := xs
 dsimp only at h1 h2 h3 ⊢
 have hx := Zev h1
 have hc : corX l r = if er = 0 then ((r.Time : Rat) - Rat.divInt (lo + hi) 2, 0) else (0, er) := by
  unfold corX
  rw [hx]
 have hr : -9223372036854775808 ≤ r.Time ∧ r.Time ≤ 9223372036854775807 := by omega
 have hmid : (-17592186044416 ≤ lo ∧ lo ≤ 17592186044416) ∧ (-17592186044416 ≤ hi ∧ hi ≤ 17592186044416) := ⟨h2, h3⟩
 have hm : M (r.Time : Rat) ≤ LQ ∧ M (Rat.divInt (lo + hi) 2) ≤ LQ := ⟨Wi (ZdW (by omega)) (by decide), Wi (ZdG (k := 8) (ZcS (by omega)) (by decide) (by decide)) (by decide)⟩
 by_cases he : er = 0
 ·subst he
  rw [if_pos rfl] at hc
  rw [hc]
  try simp only [Wc (show (0 : Int) = 0 from rfl), Bool.not_true]
  repeat (refine wkM ?_; intros)
  (refine Zao (.v [0, 1, 2, 3, 4, 5] (.e1 6 (.e1 7 (.fin)))) ([⟨b6, Zan ⟨lo, hi⟩, 196⟩, ⟨b3, Zd r, 35⟩]) (h := ?_); refine wkX ?_)
  (repeat (first | refine wkH ?_ | (refine tC rfl rfl ?_ ?_; focus (first | exact hr | exact hmid | exact hm))))
  repeat (refine wkT ?_; intros)
  repeat (refine wkM ?_; intros)
  exact Zz rfl (Zae rfl) (Zl rfl) (fun w hw => Zi hw)
 ·rw [if_neg he] at hc
  rw [hc]
  simp only [We he, Bool.not_false]
  repeat (refine wkM ?_; intros)
  exact Zz rfl (Zae rfl) (Zl rfl) (fun w hw => Zi hw)
end
section
theorem ZkZ {l : List Za} {v : Int} : ∀ i, i ≤ l.length → ((∃ b, mget (dmL l i) v = some b) ↔ ∃ x ∈ l.take i, x.From = v ∨ x.To = v)
 | 0, _ => by simp [dmL, mget]
 | i + 1, h => by
  have hlt : i < l.length := h
  have ih := ZkZ (l := l) (v := v) i (Nat.le_of_lt hlt)
  have htk : l.take (i + 1) = l.take i ++ [gi l (i : Int)] := by rw [Wn hlt, Zk hlt]
  rw [Zgr hlt, htk]
  unfold dmS
  rw [ZaB, ZaB]
  generalize gi l (i : Int) = x
  constructor
  ·rintro ⟨b, hb⟩
   by_cases h1 : v = x.To
   ·exact ⟨x, List.mem_append_right _ (List.mem_singleton.2 rfl), .inr h1.symm⟩
   ·by_cases h2 : v = x.From
    ·exact ⟨x, List.mem_append_right _ (List.mem_singleton.2 rfl), .inl h2.symm⟩
    ·rw [if_neg h1, if_neg h2] at hb
     obtain ⟨y, hy, hv⟩ := ih.1 ⟨b, hb⟩
     exact ⟨y, List.mem_append_left _ hy, hv⟩
  ·rintro ⟨y, hy, hv⟩
   by_cases h1 : v = x.To
   ·exact ⟨true, if_pos h1⟩
   ·rw [if_neg h1]
    by_cases h2 : v = x.From
    ·exact ⟨true, if_pos h2⟩
    ·rw [if_neg h2]
     rcases List.mem_append.1 hy with hy | hy
     ·exact ih.2 ⟨y, hy, hv⟩
     ·rw [Wo] at hy
      subst hy
      rcases hv with hv | hv
      ·exact (h2 hv.symm).elim
      ·exact (h1 hv.symm).elim
theorem Zgq {l : List Za} {v : Int} : v ∈ devL l ↔ ∃ x ∈ l, x.From = v ∨ x.To = v := by
 have h := ZkZ (l := l) (v := v) l.length (Wl _)
 rw [List.take_length, Zda] at h
 unfold devL
 rw [(ZcH _).mem_iff]
 exact h
theorem RchX.mono {l k : List Za} {d s v b : Int} (h : ∀ x ∈ l, x ∈ k) (c : RchX l d s v b) : RchX k d s v b := by
 induction c with
 | src => exact .src
 | stp h1 h2 h3 ih => exact .stp ih (h _ h2) (h3.mono h)
theorem OffR.mono {l k : List Za} {d lo hi e : Int} (h : ∀ x, x ∈ l ↔ x ∈ k) (c : OffR l d lo hi e) : OffR k d lo hi e := by
 have h1 : ∀ x ∈ l, x ∈ k := fun x hx => (h x).1 hx
 have h2 : ∀ x ∈ k, x ∈ l := fun x hx => (h x).2 hx
 have hd : d ∈ devL l ↔ d ∈ devL k := by
  rw [Zgq, Zgq]
  exact ⟨fun ⟨x, hx, hv⟩ => ⟨x, h1 x hx, hv⟩, fun ⟨x, hx, hv⟩ => ⟨x, h2 x hx, hv⟩⟩
 have hp : (∃ f, PotX l d f) ↔ ∃ f, PotX k d f :=
  ⟨fun ⟨f, hf⟩ => ⟨f, fun x hx hc => hf x (h2 x hx) (hc.mono h2)⟩, fun ⟨f, hf⟩ => ⟨f, fun x hx hc => hf x (h1 x hx) (hc.mono h1)⟩⟩
 have hr : ∀ s v b, RchX l d s v b ↔ RchX k d s v b := fun s v b => ⟨RchX.mono h1, RchX.mono h2⟩
 have hD : ∀ s v m, DstX l d s v m → DstX k d s v m := fun s v m hm => ⟨(hr s v m).1 hm.1, fun b hb => hm.2 b ((hr s v b).2 hb)⟩
 cases c with
 | no g1 => exact .no (g1.imp_right fun g hk => g (hd.2 hk))
 | bad g1 g2 g3 => exact .bad g1 (hd.1 g2) fun g => g3 (hp.2 g)
 | far g1 g2 g3 g4 => exact .far g1 (hd.1 g2) (hp.1 g3) (g4.imp (fun g ⟨m, hm⟩ => g ⟨m, (hr _ _ _).2 hm⟩) fun g ⟨m, hm⟩ => g ⟨m, (hr _ _ _).2 hm⟩)
 | ok g1 g2 g3 g4 g5 => exact .ok g1 (hd.1 g2) (hp.1 g3) (hD _ _ _ g4) (hD _ _ _ g5)
theorem Zrl {l k : List Za} {d : Int} (h : ∀ x, x ∈ l ↔ x ∈ k) : offX l d = offX k d := by
 by_cases hx : ∃ x : Int × Int × Int, OffR l d x.1 x.2.1 x.2.2
 ·obtain ⟨x, hx⟩ := hx
  rw [Zev hx, Zev (hx.mono h)]
 ·have hy : ¬ ∃ x : Int × Int × Int, OffR k d x.1 x.2.1 x.2.2 := fun ⟨x, hy⟩ => hx ⟨x, hy.mono fun z => (h z).symm⟩
  unfold offX
  rw [dif_neg hx, dif_neg hy]
theorem ZqD {l k : List Za} {r : Zb} (h : ∀ x, x ∈ l ↔ x ∈ k) : corX l r = corX k r := by
 unfold corX
 rw [Zrl h]
end
section
structure InkX (w0 : World) (L : List Blk) (px : Nat) (l : outParam (List (Zb × Bool))) (x : outParam (List (Za × Bool))) : Prop where
 out : ∃ m1 m2 Tx, AtC w0 L px (vIn m1 m2) Tx ∧ AtO w0 L m1 (mRp l) ∧ AtO w0 L m2 (mEx x)
attribute [class] InkX
theorem InkX.all {w0 w : World} {L : List Blk} {px : Nat} {l : List (Zb × Bool)} {x : List (Za × Bool)} (h : InkX w0 L px l x) (hw : Own w0 L w) : ∀ L', InkX w L' px l x := fun L' => by
 obtain ⟨m1, m2, Tx, h1, h2, h3⟩ := h.out
 have f1 := FoC.mk (h1.out w hw)
 have f2 := FoO.mk (h2.out w hw)
 have f3 := FoO.mk (h3.out w hw)
 exact ⟨m1, m2, Tx, inferInstance, inferInstance, inferInstance⟩
instance (priority := low) inkXOwn (w0 : World) (L : List Blk) (px m1 m2 : Nat) (l : List (Zb × Bool)) (x : List (Za × Bool)) (Tx : TypeId) [h1 : AtC w0 L px (vIn m1 m2) Tx] [h2 : AtO w0 L m1 (mRp l)] [h3 : AtO w0 L m2 (mEx x)] : InkX w0 L px l x := ⟨m1, m2, Tx, h1, h2, h3⟩
instance (priority := low) Zvv (w0 : World) (L : List Blk) (px : Nat) (l : List (Zb × Bool)) (x : List (Za × Bool)) [h : InkX w0 L px l x] : SpecR prog w0 L 47 [.pointer (some ⟨px, 0, none⟩)] (SlS Zd 8 (sorted (pKR l))) (fun s => vSl s) (fun s => mS 35 s) (l.length ≤ 12) := ⟨fun hl w hw => by
 obtain ⟨m1, m2, Tx, h1, h2, h3⟩ := (h.all hw []).out
 refine Zg Tryz.func47 rfl Tryz.ntmps47 rfl ?_
 have g1 := FoC.mk (h1.out w (Own.start w))
 have g2 := FoO.mk (h2.out w (Own.start w))
 repeat (first | (refine wkM ?_; intros) | (refine wnM ?_ ?_; (focus (exact hl)); intros))
 rename_i bm s
 exact Zf rfl rfl (fun w hw => ⟨s, rfl, hw.sub suB⟩)⟩
instance (priority := low) ZBz (w0 : World) (L : List Blk) (px : Nat) (l : List (Zb × Bool)) (x : List (Za × Bool)) [h : InkX w0 L px l x] : SpecR prog w0 L 155 [.pointer (some ⟨px, 0, none⟩)] (SlS Ze 5 (sortedE (pKE x))) (fun s => vSl s) (fun s => mS 122 s) (x.length ≤ 12) := ⟨fun hl w hw => by
 obtain ⟨m1, m2, Tx, h1, h2, h3⟩ := (h.all hw []).out
 refine Zg Tryz.func155 rfl Tryz.ntmps155 rfl ?_
 have g1 := FoC.mk (h1.out w (Own.start w))
 have g2 := FoO.mk (h3.out w (Own.start w))
 repeat (first | (refine wkM ?_; intros) | (refine wnM ?_ ?_; (focus (exact hl)); intros))
 rename_i bm s
 exact Zf rfl rfl (fun w hw => ⟨s, rfl, hw.sub suB⟩)⟩
end
section
structure FlS {α : Type} (enc : α → Array Value) (k : Nat) (xs : List α) where
 s : Option (Nat × Nat × List Value)
 nil : s = none → xs = []
 ok : ∀ t, s = some t → xs.length ≤ t.2.1 ∧ t.2.2.length = (t.2.1 - xs.length) * k
section
variable {α : Type} {enc : α → Array Value} {k : Nat} {xs : List α}
def vF (s : FlS enc k xs) : Value := vO xs.length s.s
def mF (T : TypeId) (s : FlS enc k xs) : List Blk := mO enc T xs s.s
theorem FlS.cases (T : TypeId) (s : FlS enc k xs) : (xs = [] ∧ vF s = .slice none 0 0 ∧ mF T s = []) ∨ ∃ b c sp, (xs.length ≤ c ∧ sp.length = (c - xs.length) * k) ∧ vF s = .slice (some ⟨b, 0, none⟩) xs.length c ∧ mF T s = [⟨b, row enc xs sp, T⟩] := by
 obtain ⟨s, h1, h2⟩ := s
 cases s with
 | none =>
  have h0 := h1 rfl
  subst h0
  exact .inl ⟨rfl, rfl, rfl⟩
 | some t => exact .inr ⟨t.1, t.2.1, t.2.2, h2 t rfl, rfl, rfl⟩
theorem SlS.fl {ys : List α} (s : SlS enc k xs) (h : xs = ys) : ∃ s' : FlS enc k ys, vF s' = vSl s ∧ ∀ T, mF T s' = mS T s := by
 subst h
 exact ⟨⟨s.s, s.nil.1, s.ok⟩, rfl, fun _ => rfl⟩
end
section
variable {P : Program} {w0 : World} {n : Nat} {ops : Array Oper} {L L1 : List Blk} {E : Env}
variable {Q : Exit → Act → World → Prop} {rest : List Oper}
variable {ty : TypeId} {pos : String} {aft : Array Edge} {gd : Option (Nat × Bool)} {t : Tmp} {x y : Operand}
instance ZAa {α : Type} {enc : α → Array Value} {k : Nat} {xs : List α} {S e : TypeId} {s : FlS enc k xs} [hx : IsC (evl E x) (vF s)] [hu : UndC P S (.slice e)] : YlC P w0 n L E (.call ⟨.builtin .len, #[x], #[S]⟩) (.int .i64 xs.length) := ⟨fun d ty pos aft gd => by
 rcases s.cases 0 with ⟨rfl, hv, -⟩ | ⟨b, c, sp, h1, hv, -⟩
 ·have : IsC (evl E x) (.slice none 0 0) := ⟨by rw [hx.out, hv]⟩
  exact (Zd2 (P := P) (w0 := w0) (n := n) (L := L) (E := E) (x := x) (S := S) (e := e) (p := none) (l := 0) (c := 0)).out d ty pos aft gd
 ·have : IsC (evl E x) (.slice (some ⟨b, 0, none⟩) xs.length c) := ⟨by rw [hx.out, hv]⟩
  exact (Zd2 (P := P) (w0 := w0) (n := n) (L := L) (E := E) (x := x) (S := S) (e := e) (p := some ⟨b, 0, none⟩) (l := xs.length) (c := c)).out d ty pos aft gd⟩
instance ZyO {e s b l c i : Nat} {z1 : Operand} [IsC (evl E x) (.slice (some ⟨b, 0, none⟩) l c)] [hy : IsC (evl E z1) (.int .i64 (i : Nat))] {T : TypeId} [h : UndC P T (.slice e)] [hs : SizeC P e s] : YsC P w0 n L E (.slice T x (some z1) none none) (.slice (some ⟨b, i * s, none⟩) (l - i) (c - i)) (i ≤ l ∧ l ≤ c ∧ i < c) := ⟨fun hi d ty pos aft gd =>
 Zay (fun _ => Instr.sliceAt T (.slice (some ⟨b, 0, none⟩) l c) (some (.int .i64 (i : Nat))) none none) (fun a ha => by simp only [execOp, ha.ev (isE (x := x)), Option.map_none, Option.map_some, ha.ev (isE (x := z1))]) (fun a w _ _ => by
  have h3 : ¬ c = i := by omega
  simp [Instr.sliceAt, Instr.slice, run_underlying h.out, Instr.sliceBounds, Instr.sliceBound, asIntOf, ZaD hs.out, hi.1, hi.2.1, h3, ZaE])⟩
instance Zxb {e s b l c i : Nat} {z1 : Operand} [IsC (evl E x) (.slice (some ⟨b, 0, none⟩) l c)] [hy : IsC (evl E z1) (.int .i64 (i : Nat))] {T : TypeId} [h : UndC P T (.slice e)] [hs : SizeC P e s] : YsC P w0 n L E (.slice T x none (some z1) none) (.slice (some ⟨b, 0, none⟩) i c) (i ≤ c ∧ l ≤ c ∧ 0 < c) := ⟨fun hi d ty pos aft gd =>
 Zay (fun _ => Instr.sliceAt T (.slice (some ⟨b, 0, none⟩) l c) none (some (.int .i64 (i : Nat))) none) (fun a ha => by simp only [execOp, ha.ev (isE (x := x)), Option.map_none, Option.map_some, ha.ev (isE (x := z1))]) (fun a w _ _ => by
  have h3 : ¬ c = 0 := by omega
  simp [Instr.sliceAt, Instr.slice, run_underlying h.out, Instr.sliceBounds, Instr.sliceBound, asIntOf, ZaD hs.out, hi.1, hi.2.1, h3, ZaE])⟩
theorem ZiE {zc : Array Value} {m : Nat} (h1 : zc.all (·.oneCell') = true) : ∀ u ∈ (Builtin.zeroCells zc m).toList, u.oneCell' = true := fun u hu => by
 simp only [Builtin.zeroCells, Array.toList_map, List.mem_map] at hu
 obtain ⟨i, hi, rfl⟩ := hu
 have hlt : i < m * zc.size := by simpa using hi
 have h0 : 0 < zc.size := by
  rcases Nat.eq_zero_or_pos zc.size with h | h
  ·rw [h, Nat.mul_zero] at hlt; cases hlt
  ·exact h
 have hm : i % zc.size < zc.size := Nat.mod_lt _ h0
 rw [getElem!_pos zc _ hm]
 exact Array.all_eq_true_iff_forall_mem.1 h1 _ (Array.getElem_mem hm)
theorem sClr {α : Type} {enc : α → Array Value} {S T : TypeId} {b c2 i m k : Nat} {ys : List α} {sp : List Value} {z : Value} {zc : Array Value}
  [hx : IsC (evl E x) (.slice (some ⟨b, i * k, none⟩) m c2)] [hd : DelC b L (row enc ys sp) T L1] [hT : UndC P S (.slice T)] [hz : ZeroC P T z zc] [he : EncC enc k]
  (hg : guardB ops E gd = some true) (hm : i + m = ys.length) (hm0 : 0 < m) (hzk : zc.size = k) (hz1 : zc.all (·.oneCell') = true)
  (h : ∀ zs : List Value, zs.length = m * k → JO P w0 n ops Q rest E (⟨b, row enc (ys.take i) (zs ++ sp), T⟩ :: L1)) : JO P w0 n ops Q (⟨none, .call ⟨.builtin .clear, #[x], #[S]⟩, ty, pos, aft, gd⟩ :: rest) E L := by
 refine Zcs (L' := { zs : List Value // zs.length = m * k }) (o := ⟨none, .call ⟨.builtin .clear, #[x], #[S]⟩, ty, pos, aft, gd⟩) hg rfl (fun _ => .tuple #[]) (fun s => ⟨b, row enc (ys.take i) (s.1 ++ sp), T⟩ :: L1) (fun a w ha hw => ?_) (fun s => h s.1 s.2)
 have hwp := hw.perm hd.out
 have hb := (hwp.mem _ (.head _)).2
 have hzs : (Builtin.zeroCells z.cells m).toList.length = m * k := by rw [Array.length_toList, size_zeroCells, hz.cells, hzk]
 have hrl := Z9 (enc := enc) (k := k) ys
 have hrt := Z9 (enc := enc) (k := k) (ys.take i)
 have htl : (ys.take i).length = i := by rw [Wt]; omega
 rw [htl] at hrt
 have hmk : ys.length * k = i * k + m * k := by rw [← hm, Nat.add_mul]
 have hsz : (row enc ys sp).size = ys.length * k + sp.length := by simp [row, hrl]
 obtain ⟨w', hr, ht⟩ := ZbF (P := P) (b := b) (off := i * k) (Builtin.zeroCells z.cells m).toList 0 _ w hb (by rw [hsz, hzs]; omega) (ZiE (by rw [hz.cells]; exact hz1))
 have hspl : spl (row enc ys sp) (i * k + 0) (Builtin.zeroCells z.cells m).toList = row enc (ys.take i) ((Builtin.zeroCells z.cells m).toList ++ sp) := by
  apply Array.ext_getElem?
  intro j
  rw [ZcZ _ _ _ _ (by rw [hsz, hzs]; omega), Nat.add_zero, hzs]
  have hall : (rowL enc ys) = rowL enc (ys.take i) ++ rowL enc (ys.drop i) := by rw [← Zbi, List.take_append_drop]
  simp only [row, List.getElem?_toArray]
  split
  ·rename_i hj
   rw [List.getElem?_append_right (by omega), hrt, List.getElem?_append_left (by rw [hzs]; omega)]
  ·rename_i hj
   rcases Nat.lt_or_ge j (i * k) with h1 | h1
   ·rw [hall, List.append_assoc, List.getElem?_append_left (by omega), List.getElem?_append_left (by omega)]
   ·rw [List.getElem?_append_right (by omega), List.getElem?_append_right (by omega), hrl, hrt, List.getElem?_append_right (by rw [hzs]; omega), hzs]
    congr 1
    omega
 rw [hspl] at ht
 refine ⟨⟨_, hzs⟩, w', .inl ?_, hwp.turn .here ht⟩
 have h1 : (#[x] : Array Operand).map a.eval = #[.slice (some ⟨b, i * k, none⟩) m c2] := by simp [ha.ev (isE (x := x))]
 obtain ⟨m', rfl⟩ : ∃ m', m = m' + 1 := ⟨m - 1, by omega⟩
 have hr' : (Builtin.clear_ #[S] ty #[.slice (some ⟨b, i * k, none⟩) (m' + 1) c2]).run P w = .ok (.tuple #[]) w' := by
  obtain ⟨ti, hti, hz0⟩ : ∃ i, P.info? T = some i ∧ i.zero = some z := Option.bind_eq_some_iff.1 hz.out
  simp [Builtin.clear_, run_underlying hT.out, zeroValue, typeInfo, hti, hz0, hr, Result.andThen]
 have h2 : ∀ cs : Array Bool, (builtin .clear #[S] ty cs #[.slice (some ⟨b, i * k, none⟩) (m' + 1) c2]).run P w = .ok (.value (.tuple #[])) w' := fun cs => by
  show Sem.run P (do pure (Next.value (← Builtin.clear_ #[S] ty #[.slice (some ⟨b, i * k, none⟩) (m' + 1) c2])) : Sem Next) w = _
  rw [Sem.run_bind, hr']
  rfl
 simp only [execOp, resolve, h1, Sem.run_bind, Sem.run_pure, Result.andThen, invoke]
 exact h2 _
end
theorem Zmu {α : Type} [Inhabited α] (p : α → Bool) (xs : List α) : (idxP p xs = -1 ∧ ∀ x ∈ xs, p x = false) ∨ ∃ m : Nat, m < xs.length ∧ idxP p xs = m ∧ p (gi xs (m : Int)) = true ∧ ∀ j : Nat, j < m → p (gi xs (j : Int)) = false := by
 cases h : xs.any p
 ·refine .inl ⟨?_, fun x hx => ?_⟩
  ·unfold idxP
   rw [if_neg (by rw [h]; decide)]
  ·cases hp : p x
   ·rfl
   ·have := List.any_eq_true.2 ⟨x, hx, hp⟩
    rw [h] at this
    cases this
 ·have hlt : xs.findIdx p < xs.length := List.findIdx_lt_length_of_exists (by simpa using List.any_eq_true.1 h)
  refine .inr ⟨xs.findIdx p, hlt, by unfold idxP; rw [if_pos h], ?_, fun j hj => ?_⟩
  ·rw [Zk hlt]
   exact List.findIdx_getElem
  ·rw [Zk (by omega)]
   simpa using List.not_of_lt_findIdx hj
structure DelI {α : Type} [Inhabited α] (p : α → Bool) (rs : List α) (i j : Nat) (ys : List α) : Prop where
 ij : i < j
 jn : j ≤ rs.length
 len : ys.length = rs.length
 tk : ys.take i = (rs.take j).filter p
 eq : ∀ k : Nat, j ≤ k → k < rs.length → gi ys (k : Int) = gi rs (k : Int)
theorem ZgC {α : Type} [Inhabited α] {p : α → Bool} {rs : List α} : ∀ {m : Nat}, m ≤ rs.length → (∀ j : Nat, j < m → p (gi rs (j : Int)) = true) → (rs.take m).filter p = rs.take m
 | m, hm, h => List.filter_eq_self.2 fun x hx => by
  obtain ⟨j, hj, rfl⟩ := List.getElem_of_mem hx
  rw [Wt] at hj
  have := h j (by omega)
  rw [Zk (by omega)] at this
  simpa using this
theorem DelI.start {α : Type} [Inhabited α] {p : α → Bool} {rs : List α} {m : Nat} (hm : m < rs.length) (h0 : p (gi rs (m : Int)) = false) (h : ∀ j : Nat, j < m → p (gi rs (j : Int)) = true) : DelI p rs m (m + 1) rs := by
 refine ⟨Nat.lt_succ_self _, hm, rfl, ?_, fun _ _ _ => rfl⟩
 rw [Wn hm, List.filter_append, ZgC (by omega) h]
 rw [Zk hm] at h0
 simp [h0]
theorem DelI.skip {α : Type} [Inhabited α] {p : α → Bool} {rs ys : List α} {i j : Nat} (h : DelI p rs i j ys) (hj : j < rs.length) (h0 : p (gi rs (j : Int)) = false) : DelI p rs i (j + 1) ys := by
 refine ⟨by have := h.ij; omega, hj, h.len, ?_, fun k h1 h2 => h.eq k (by omega) h2⟩
 rw [h.tk, Wn hj, List.filter_append]
 rw [Zk hj] at h0
 simp [h0]
theorem DelI.keep {α : Type} [Inhabited α] {p : α → Bool} {rs ys : List α} {i j : Nat} (h : DelI p rs i j ys) (hj : j < rs.length) (h0 : p (gi rs (j : Int)) = true) : DelI p rs (i + 1) (j + 1) (ys.set i (gi ys (j : Int))) := by
 have hij := h.ij
 have hl := h.len
 refine ⟨by omega, hj, by rw [List.length_set]; exact hl, ?_, fun k h1 h2 => ?_⟩
 ·have e : gi ys (j : Int) = rs[j] := by rw [h.eq j (Wl _) hj, Zk hj]
  rw [e, Wn (by rw [List.length_set]; omega), List.take_set_of_le (Wl i), h.tk, Wn hj, List.filter_append]
  rw [Zk hj] at h0
  simp [h0]
 ·rw [Zk (by rw [List.length_set]; omega), List.getElem_set_ne (by omega), ← Zk (by omega)]
  exact h.eq k (by omega) h2
def ofP (o : Int) (r : Zb) : Bool := decide (r.Object = o)
instance (priority := high) ZEd (w0 : World) (L : List Blk) (b : Nat) (r : Zb) (o : Int) (T : TypeId) [k : AtC w0 L b #[.int .i64 o] T] : SpecM prog w0 L 104 [.agg (Zd r), .pointer (some ⟨b, 0, none⟩)] (.bool (!ofP o r)) True := ⟨fun hp w hw => by
 have f := FoC.mk (k.out w hw)
 have hd : decide (r.Object = o) = ofP o r := rfl
 refine Zg Tryz.func104 rfl Tryz.ntmps104 rfl ?_
 repeat (refine wkM ?_; intros)
 exact Zf rfl rfl (fun w hw => Zi hw)⟩
set_option maxHeartbeats 4000000 in
theorem Zkz (v : Value) (rs : List Zb) (b : Nat) (o : Int) (T : TypeId) (w : World) (hv : ArgS w v Zd rs) (hl : rs.length ≤ 1048576) (hb : ∃ fz, w.heap[b]? = some (.cells #[.int .i64 o] T fz)) :
  Calls prog 161 [v, vOf b].toArray w (Ret (.int .i64 (idxP (fun r => !ofP o r) rs)) w) := by
 have f := FoC.mk hb
 obtain ⟨p, cp, rfl⟩ := hv.form
 refine Zg Tryz.func161 rfl Tryz.ntmps161 rfl ?_
 repeat (refine wkM ?_; intros)
 refine Zq (S := Nat) (fun m => m ≤ rs.length ∧ ∀ j : Nat, j < m → (!ofP o (gi rs (j : Int))) = false) (fun m => [(0, .slice p rs.length cp), (1, vOf b), (7, .int .i64 rs.length), (8, .int .i64 (m : Nat))]) (fun _ => []) (fun m => rs.length - m) 0 ⟨Wm _, fun j hj => absurd hj (Nat.not_lt_zero _)⟩ sbB slB (fun m hm => ?_)
 obtain ⟨hm, hbf⟩ := hm
 repeat (refine wkM ?_; intros)
 refine Zn rfl (fun h => ?_) (fun h => ?_)
 ·have hlt : m < rs.length := by have := Wa h; omega
  have hne : rs ≠ [] := fun h0 => by rw [h0] at hlt; simp at hlt
  obtain ⟨bw, ow, cw, hvw, hcw, hrow⟩ := hv.blk (k := 7) hne []
  injection hvw with e1 e2 e3
  subst e1
  subst e3
  have hrow' : ∀ L, RowC w L bw ow Zb Zd rs := fun L => ⟨fun w' hw' => hrow.out w' (hw'.sub (Wk _))⟩
  repeat (first | (refine wkM ?_; intros) | (refine wnM ?_ ?_; (focus (exact trivial)); intros))
  cases hd : ofP o (gi rs (m : Int))
  ·rw [Zhm (p := fun r => !ofP o r) hlt (by rw [hd]; rfl) hbf]
   repeat (refine wkM ?_; intros)
   exact Zf rfl rfl (fun w hw => Zi hw)
  ·repeat (refine wkM ?_; intros)
   exact Zj (m + 1) ⟨hlt, fun j hj => by
    rcases Nat.lt_or_ge j m with h1 | h1
    ·exact hbf j h1
    ·rw [show j = m by omega, hd]
     rfl⟩ sbB slB (by omega)
 ·have hge : m = rs.length := by have := Wb h; omega
  subst hge
  rw [ZhC hbf]
  repeat (refine wkM ?_; intros)
  exact Zf rfl rfl (fun w hw => Zi hw)
instance (priority := high) Zyv (w0 : World) (L : List Blk) (v : Value) (rs : List Zb) (b : Nat) (o : Int) (T : TypeId) [h : LstC w0 L v Zb Zd rs] [k : AtC w0 L b #[.int .i64 o] T] : SpecM prog w0 L 161 [v, vOf b] (.int .i64 (idxP (fun r => !ofP o r) rs)) (rs.length ≤ 1048576) := ⟨fun hp w hw => Zkz v rs b o T w (h.out w hw) hp (k.out w hw)⟩
instance (priority := low) atApp (w0 : World) (X L : List Blk) (b : Nat) (cs : Array Value) (T : TypeId) [h : AtC w0 L b cs T] : AtC w0 (X ++ L) b cs T := ⟨fun w hw => h.out w (hw.sub (List.sublist_append_right X L))⟩
set_option maxHeartbeats 4000000 in
theorem ZkL (w0 w : World) (L L1 : List Blk) (rs : List Zb) (s : SlS Zd 8 rs) (b : Nat) (o : Int) (T : TypeId) [hd : OwnS 35 s L L1] [k : AtC w0 L1 b #[.int .i64 o] T] (hl : rs.length ≤ 1048576) (hw : Own w0 L w) :
  Calls prog 102 [vSl s, vOf b].toArray w (RetX w0 (FlS Zd 8 (rs.filter (ofP o))) (fun s => vF s) (fun s => mF 35 s ++ L1)) := by
 have hw1 := hw.perm hd.out
 rcases Zmu (fun r => !ofP o r) rs with ⟨hi, hall⟩ | ⟨i0, hi0, hi, hp0, hbf⟩
 ·have hfil : rs.filter (ofP o) = rs := List.filter_eq_self.2 fun x hx => by have := hall x hx; simpa using this
  obtain ⟨s', e1, e2⟩ := s.fl hfil.symm
  refine Z2 Tryz.func102 rfl Tryz.ntmps102 rfl hw1 ?_
  repeat (first | (refine wkM ?_; intros) | (refine wnM ?_ ?_; (focus (exact hl)); intros))
  rw [hi]
  repeat (refine wkM ?_; intros)
  exact Zf rfl rfl (fun w hw => ⟨s', by show Ending.returned (vSl s) = Ending.returned (vF s'); rw [e1], by show Own w0 (mF _ s' ++ L1) w; rw [e2]; exact hw⟩)
 ·rcases s.cases 35 with ⟨rfl, hv, hm⟩ | ⟨bs, c, sp, h1, hv, hm, hne⟩
  ·cases hi0
  refine Z2 Tryz.func102 rfl Tryz.ntmps102 rfl hw1 ?_
  repeat (first | (refine wkM ?_; intros) | (refine wnM ?_ ?_; (focus (exact hl)); intros))
  rw [hi]
  simp only [hv, hm, Wf, Wg]
  repeat (refine wkM ?_; intros)
  simp only [We (show ¬ ((i0 : Nat) : Int) = -1 by omega)]
  repeat (refine wkO ?_; intros)
  refine Zq (S := Nat × Nat × List Zb) (fun q => DelI (ofP o) rs q.1 q.2.1 q.2.2) (fun q => [(0, .slice (some ⟨bs, 0, none⟩) rs.length c), (1, vOf b), (5, .int .i64 (q.1 : Nat)), (6, .int .i64 (q.2.1 : Nat))]) (fun q => ⟨bs, row Zd q.2.2 sp, 35⟩ :: L1) (fun q => rs.length - q.2.1) (i0, i0 + 1, rs) (DelI.start hi0 (by simpa using hp0) (fun j hj => by simpa using hbf j hj)) sbB slB (fun q hq => ?_)
  obtain ⟨i, j, ys⟩ := q
  have hij := hq.ij
  have hjn := hq.jn
  have hyl := hq.len
  simp only at hq hij hjn hyl ⊢
  repeat (refine wkM ?_; intros)
  refine Zn rfl (fun h => ?_) (fun h => ?_)
  ·have hlt : j < rs.length := by have := Wa h; omega
   have hgj := hq.eq j (Wl _) hlt
   repeat (first | (refine wkM ?_; intros) | (refine wnM ?_ ?_; (focus (first | exact trivial | (rw [hyl]; exact hlt) | exact ⟨by omega, by omega⟩)); intros))
   cases hpj : ofP o (gi ys (j : Int))
   ·repeat (refine wkO ?_; intros)
    exact Zj (i, j + 1, ys) (hq.skip hlt (by rw [← hgj]; exact hpj)) sbB suB (by show rs.length - (j + 1) < rs.length - j; omega)
   ·repeat (refine wkO ?_; intros)
    exact Zj (i + 1, j + 1, ys.set i (gi ys (j : Int))) (hq.keep hlt (by rw [← hgj]; exact hpj)) sbB suB (by show rs.length - (j + 1) < rs.length - j; omega)
  ·have hge : j = rs.length := by have := Wb h; omega
   subst hge
   repeat (first | (refine wkM ?_; intros) | (refine wnM ?_ ?_; (focus (exact ⟨by omega, by omega, by omega⟩)); intros))
   refine sClr rfl (by omega) (by omega) rfl (EncC.one Zas) (fun zs hzs => ?_)
   repeat (first | (refine wkM ?_; intros) | (refine wnM ?_ ?_; (focus (exact ⟨by omega, by omega, by omega⟩)); intros))
   have htk : ys.take i = rs.filter (ofP o) := by rw [hq.tk, List.take_length]
   have hfl : (rs.filter (ofP o)).length = i := by rw [← htk, Wt]; omega
   refine Zf rfl rfl (fun w hw => ⟨⟨some (bs, c, zs ++ sp), (fun h => by cases h), (fun t ht => ?_)⟩, ?_, ?_⟩)
   ·injection ht with ht
    subst ht
    rw [hfl]
    refine ⟨by show i ≤ c; omega, ?_⟩
    show (zs ++ sp).length = (c - i) * 8
    have h8 : (Zd Zas).size = 8 := rfl
    rw [h8] at hzs
    rw [Wp, hzs, h1.2]
    omega
   ·show Ending.returned _ = Ending.returned (.slice (some ⟨bs, 0, none⟩) (rs.filter (ofP o)).length c)
    rw [hfl]
   ·show Own w0 (⟨bs, row Zd (rs.filter (ofP o)) (zs ++ sp), _⟩ :: L1) w
    rw [← htk]
    exact hw
instance (priority := high) Zz8 (w0 : World) (L L1 : List Blk) (rs : List Zb) (s : SlS Zd 8 rs) (b : Nat) (o : Int) (T : TypeId) [hd : OwnS 35 s L L1] [k : AtC w0 L1 b #[.int .i64 o] T] : SpecX prog w0 L 102 [vSl s, vOf b] (FlS Zd 8 (rs.filter (ofP o))) (fun s => vF s) (fun s => mF 35 s ++ L1) (rs.length ≤ 1048576) := ⟨fun hp w hw => ZkL w0 w L L1 rs s b o T hp hw⟩
theorem ZfR {rs : List Zb} : (cntR rs).length ≤ rs.length := by
 have h1 := (ZfO rs).len
 have h2 := ZiX (winR rs)
 unfold cntR
 rw [ZbS]
 omega
def ofL (rs : List Zb) (o : Int) : List Zb := (cntR rs).filter (ofP o)
theorem ZgW {rs : List Zb} {o : Int} : (ofL rs o).length ≤ rs.length := Wi (List.length_filter_le _ _) ZfR
instance (priority := high) ZGH (w0 : World) (L : List Blk) (v : Value) (rs : List Zb) (o : Int) [h : LstC w0 L v Zb Zd rs] : SpecR prog w0 L 54 [v, .int .i64 o] (FlS Zd 8 (ofL rs o)) (fun s => vF s) (fun s => mF 35 s) (rs.length ≤ 12) := ⟨fun hp w hw => by
 have hv := h.out w hw
 have := ArgC.mk hv
 have hcl : (cntR rs).length ≤ 1048576 := by
  have := ZfR (rs := rs)
  omega
 refine Zg Tryz.func54 rfl Tryz.ntmps54 rfl ?_
 repeat (first | (refine wkM ?_; intros) | (refine wnM ?_ ?_; (focus (first | exact hp | exact hcl)); intros))
 refine sZ rfl rfl hcl ?_
 intro s
 repeat (refine wkM ?_; intros)
 exact Zf rfl rfl (fun w hw => ⟨s, rfl, hw.sub suB⟩)⟩
end
end Go.Vt
