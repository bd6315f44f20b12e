/- that the order in which batches arrive does not matter (part 12 of 27.) Conditions: those that each statement names. -/
import Derived.RangeFuncNested
import Derived.OrdersIn
import Derived.RangeFuncBox
import Derived.Test.YtjicdlilgjdefaaGreatDoorKO9
import Derived.Test.YtjicdlilgjdefaaGreatDoorKO10
import Derived.Test.YtjicdlilgjdefaaGreatDoorKO11
/- Comparing rational instants, intervals and linear functions. Conditions: the lengths that each statement names, and that the instants are rational. -/
set_option linter.unusedSimpArgs false
set_option linter.unusedVariables false
set_option maxHeartbeats 2000000
set_option maxRecDepth 100000
namespace Go.Vt
open Go.RowKit Go.Proofs
abbrev vIv (I : ZB) : Value := .agg (Zw (ZC I))
abbrev vQd (q : Zag) : Value := .agg (Z0 (Z2 q))
theorem sg0e (b : Int) {r : Rat} (h : r = 0) : b * r.num.sign = 0 := by
 subst h
 rw [show (0 : Rat).num.sign = 0 from rfl, Int.mul_zero]
theorem ZjI (a b : Rat) : (a - b).num.sign = cq a b := by
 unfold cq
 split
 ·rename_i h
  exact Int.sign_eq_neg_one_iff_neg.2 (by
   have h3 : ¬ 0 ≤ (a - b).num := fun h1 => by
    have := Rat.num_nonneg.1 h1
    grind
   omega)
 ·split
  ·rename_i h1 h2
   refine Int.sign_eq_one_iff_pos.2 ?_
   have h3 : 0 ≤ (a - b).num := Rat.num_nonneg.2 (by grind)
   have h4 : (a - b).num ≠ 0 := fun h0 => by
    have := Rat.num_eq_zero.1 h0
    grind
   omega
  ·rename_i h1 h2
   have : a = b := by grind
   subst this
   rw [show a - a = 0 by grind]
   rfl
instance ZyB (x : ZH) : SpecC Tryz.prog 134 [vR x] (vQ (if x.Neg then ((-1 : Int) : Rat) else ((1 : Int) : Rat))) True := ⟨fun _ w => by
 refine Zg Tryz.func134 rfl Tryz.ntmps134 rfl ?_
 obtain ⟨p, r, b⟩ := x
 cases b
 ·repeat (first | (refine wkB ?_; try intro _) | (refine sC rfl rfl ?_ ?_; focus (exact ⟨by decide, by decide⟩)) | (refine sN rfl rfl ?_ ?_; (focus (exact ⟨by decide, by decide⟩)); intro _; (try simp only [List.cons_append, List.nil_append, List.append_nil])))
  exact ZV rfl rfl (fun w hw => Zh hw)
 ·repeat (first | (refine wkB ?_; try intro _) | (refine sC rfl rfl ?_ ?_; focus (exact ⟨by decide, by decide⟩)) | (refine sN rfl rfl ?_ ?_; (focus (exact ⟨by decide, by decide⟩)); intro _; (try simp only [List.cons_append, List.nil_append, List.append_nil])))
  exact ZV rfl rfl (fun w hw => Zh hw)⟩
instance ZCo (a b r : Rat) : SpecC Tryz.prog 135 [vQ a, vQ b, vQ r] (.int .i64 a.num.sign) (r = 0) := ⟨fun hr w => by
 refine Zg Tryz.func135 rfl Tryz.ntmps135 rfl ?_
 have hz := sg0e b.num.sign hr
 repeat (refine wkB ?_; try intro _)
 (refine Za3 [0, 1, 2, 3, 4, 5, 6] [7, 8] (_) (h := ?_); refine wkI ?_)
 (repeat (first | refine wkH ?_ | (refine tC rfl rfl ?_ ?_; focus (exact trivial))))
 repeat (refine wkT ?_; try intro _)
 simp only [hz]
 repeat (refine wkB ?_; try intro _)
 exact Zf rfl rfl (fun w hw => Zh hw)⟩
instance ZvM (x y : ZH) : SpecC Tryz.prog 81 [vR x, vR y] (.int .i64 (cq x.P y.P)) ((x.R = 0 ∧ y.R = 0) ∧ M x.P ≤ LQ ∧ M y.P ≤ LQ) := ⟨fun hp w => by
 obtain ⟨⟨hx, hy⟩, h1, h2⟩ := hp
 refine Zg Tryz.func81 rfl Tryz.ntmps81 rfl ?_
 have hz := sg0e (-(if y.Neg then ((-1 : Int) : Rat) else ((1 : Int) : Rat))).num.sign hy
 repeat (refine wkB ?_; try intro _)
 (refine jD 10 13 (h := ?_); (repeat (first | refine wkH ?_ | (refine tC rfl rfl ?_ ?_; focus (first | exact trivial | exact ⟨h1, h2⟩)))); refine Zr ?_; (repeat (refine Z6 ?_; intro _)); refine Zt ?_)
 repeat (refine wkB ?_; try intro _)
 (refine Za3 [0, 1, 2, 3, 4, 5, 6, 7, 8, 9, 10] [11, 12] (_) (h := ?_); refine wkI ?_)
 (repeat (first | refine wkH ?_ | (refine tC rfl rfl ?_ ?_; focus (first | exact trivial | exact hx))))
 repeat (refine wkT ?_; try intro _)
 simp only [hz, ZjI]
 repeat (refine wkB ?_; try intro _)
 exact Zf rfl rfl (fun w hw => Zh hw)⟩
instance ZwJ : CallC Tryz.prog 209 := ⟨by kernel_rfl⟩
instance ZqG : CallC Tryz.prog 159 := ⟨by kernel_rfl⟩
instance Zvn : CallC Tryz.prog 158 := ⟨by kernel_rfl⟩
instance Zvi (I : ZB) : SpecC Tryz.prog 177 [vIv I] (.bool (decide (I.From = I.To))) True := ⟨fun _ w => by
 refine Zg Tryz.func177 rfl Tryz.ntmps177 rfl ?_
 repeat (refine wkB ?_; try intro _)
 exact Zf rfl rfl (fun w hw => Zh hw)⟩
def aprt (a b : ZB) : Bool := decide (a.To.P < b.From.P) || (decide (a.To.P = b.From.P) && (a.OpenTo || b.OpenFrom))
instance Zzz (a b : ZB) : SpecC Tryz.prog 175 [vIv a, vIv b] (.bool (aprt a b)) ((a.To.R = 0 ∧ b.From.R = 0) ∧ M a.To.P ≤ LQ ∧ M b.From.P ≤ LQ) := ⟨fun hp w => by
 refine Zg Tryz.func175 rfl Tryz.ntmps175 rfl ?_
 repeat (first | (refine wkB ?_; try intro _) | (refine sC rfl rfl ?_ ?_; focus (exact hp)) | (refine sN rfl rfl ?_ ?_; (focus (exact hp)); intro _; (try simp only [List.cons_append, List.nil_append, List.append_nil])))
 unfold aprt
 by_cases h1 : a.To.P < b.From.P
 ·simp only [decide_eq_true (Zir.2 h1)]
  repeat (refine wkB ?_; try intro _)
  simp only [decide_eq_true h1]
  exact Zf rfl rfl (fun w hw => Zh hw)
 ·simp only [decide_eq_false (fun h => h1 (Zir.1 h))]
  repeat (refine wkB ?_; try intro _)
  by_cases h2 : a.To.P = b.From.P
  ·simp only [decide_eq_true (Zgv.2 h2)]
   repeat (refine wkB ?_; try intro _)
   obtain ⟨fa, ta, oa, ca⟩ := a
   simp only at h1 h2 ⊢
   cases ca
   ·repeat (refine wkB ?_; try intro _)
    simp only [decide_eq_false h1, decide_eq_true h2]
    exact Zf rfl rfl (fun w hw => Zh hw)
   ·repeat (refine wkB ?_; try intro _)
    simp only [decide_eq_false h1, decide_eq_true h2]
    exact Zf rfl rfl (fun w hw => Zh hw)
  ·simp only [decide_eq_false (fun h => h2 (Zgv.1 h))]
   repeat (refine wkB ?_; try intro _)
   simp only [decide_eq_false h1, decide_eq_false h2]
   exact Zf rfl rfl (fun w hw => Zh hw)⟩
instance ZuY (c : Rat) : SpecC Tryz.prog 87 [vQ c] (vQd ⟨c, 0, 0⟩) True := ⟨fun _ w => by
 refine Zg Tryz.func87 rfl Tryz.ntmps87 rfl ?_
 repeat (refine wkB ?_; try intro _)
 exact ZV rfl rfl (fun w hw => Zh hw)⟩
instance ZD0 (p q : Zag) : SpecC Tryz.prog 424 [vQd p, vQd q] (vQd ⟨p.C0 - q.C0, p.C1 - q.C1, p.C2 - q.C2⟩) ((M p.C0 ≤ LQ ∧ M q.C0 ≤ LQ) ∧ (M p.C1 ≤ LQ ∧ M q.C1 ≤ LQ) ∧ (M p.C2 ≤ LQ ∧ M q.C2 ≤ LQ)) := ⟨fun hp w => by
 obtain ⟨h1, h2, h3⟩ := hp
 refine Zg Tryz.func424 rfl Tryz.ntmps424 rfl ?_
 repeat (refine wkB ?_; try intro _)
 (refine jD 16 16 (h := ?_); (repeat (first | refine wkH ?_ | (refine tC rfl rfl ?_ ?_; focus (first | exact h1 | exact h2 | exact h3)))); refine Zr ?_; (repeat (refine Z6 ?_; intro _)); refine Zt ?_)
 repeat (refine wkB ?_; try intro _)
 exact ZV rfl rfl (fun w hw => Zh hw)⟩
instance ZwN (q : Zag) (t : ZH) : SpecC Tryz.prog 421 [vQd q, vR t] (vQd ⟨q.C0 + t.P * (q.C1 + t.P * q.C2), 0, 0⟩) (t.R = 0 ∧ M q.C0 ≤ 34359738368 ∧ M q.C1 ≤ 34359738368 ∧ M q.C2 ≤ 34359738368 ∧ M t.P ≤ 34359738368) := ⟨fun hp w => by
 obtain ⟨h0, h1⟩ := hp
 refine Zg Tryz.func421 rfl Tryz.ntmps421 rfl ?_
 repeat (refine wkB ?_; try intro _)
 simp only [if_pos h0, decide_eq_true h0]
 repeat (first | (refine wkB ?_; try intro _) | (refine sC rfl rfl ?_ ?_; focus (first | exact trivial | exact h1)) | (refine sN rfl rfl ?_ ?_; (focus (first | exact trivial | exact h1)); intro _; (try simp only [List.cons_append, List.nil_append, List.append_nil])))
 exact ZV rfl rfl (fun w hw => Zh hw)⟩
def qsame (p q : Zag) (t : Rat) : Bool := decide ((⟨p.C0 - q.C0 + t * (p.C1 - q.C1 + t * (p.C2 - q.C2)), 0, 0⟩ : Zag) = ⟨0, 0, 0⟩)
theorem Zh2 {p q : Zag} {t : Rat} : qsame p q t = true ↔ p.C0 - q.C0 + t * (p.C1 - q.C1 + t * (p.C2 - q.C2)) = 0 := by
 unfold qsame
 rw [decide_eq_true_iff]
 simp
instance ZB7 (p q : Zag) (t : ZH) : SpecC Tryz.prog 422 [vQd p, vQd q, vR t] (.bool (qsame p q t.P)) (t.R = 0 ∧ (M p.C0 ≤ 8589934592 ∧ M p.C1 ≤ 8589934592 ∧ M p.C2 ≤ 8589934592) ∧ (M q.C0 ≤ 8589934592 ∧ M q.C1 ≤ 8589934592 ∧ M q.C2 ≤ 8589934592) ∧ M t.P ≤ 8589934592) := ⟨fun hp w => by
 obtain ⟨h0, ⟨h1, h2, h3⟩, ⟨h4, h5, h6⟩, h7⟩ := hp
 have := MB.mk h1
 have := MB.mk h2
 have := MB.mk h3
 have := MB.mk h4
 have := MB.mk h5
 have := MB.mk h6
 have := MB.mk h7
 refine Zg Tryz.func422 rfl Tryz.ntmps422 rfl ?_
 repeat (refine wkB ?_; try intro _)
 (refine jD 7 7 (h := ?_); (repeat (first | refine wkH ?_ | (refine tC rfl rfl ?_ ?_; focus (first | exact ⟨mb2 rfl rfl, mb2 rfl rfl, mb2 rfl rfl⟩ | exact ⟨h0, MB.lt rfl, MB.lt rfl, MB.lt rfl, MB.lt rfl⟩)))); refine Zr ?_; (repeat (refine Z6 ?_; intro _)); refine Zt ?_)
 repeat (refine wkB ?_; try intro _)
 exact Zf rfl rfl (fun w hw => Zh hw)⟩
def lnX (f : ZG) : Zag := ⟨f.X0, f.X1, 0⟩
def lnY (f : ZG) : Zag := ⟨f.Y0, f.Y1, 0⟩
instance Zq0 (f : ZG) : SpecC Tryz.prog 420 [vLn f] (.tuple #[vQd (lnX f), vQd (lnY f)]) True := ⟨fun _ w => by
 refine Zg Tryz.func420 rfl Tryz.ntmps420 rfl ?_
 repeat (refine wkB ?_; try intro _)
 (refine jD 10 10 (h := ?_); (repeat (refine wkH ?_)); refine Zr ?_; (repeat (refine Z6 ?_; intro _)); refine Zt ?_)
 repeat (refine wkB ?_; try intro _)
 exact Zv rfl (Zac rfl) (Zac rfl) (fun w hw => Zh hw)⟩
instance ZCL (f g : ZG) (t : ZH) (z : Array Value) : SpecC Tryz.prog 419 [.agg z, vLn f, vLn g, vR t] (.bool (qsame (lnX f) (lnX g) t.P && qsame (lnY f) (lnY g) t.P)) (t.R = 0 ∧ ((M f.X0 ≤ 8589934592 ∧ M f.X1 ≤ 8589934592) ∧ M f.Y0 ≤ 8589934592 ∧ M f.Y1 ≤ 8589934592) ∧ ((M g.X0 ≤ 8589934592 ∧ M g.X1 ≤ 8589934592) ∧ M g.Y0 ≤ 8589934592 ∧ M g.Y1 ≤ 8589934592) ∧ M t.P ≤ 8589934592) := ⟨fun hp w => by
 obtain ⟨h0, ⟨⟨h1, h2⟩, h3, h4⟩, ⟨⟨h5, h6⟩, h7, h8⟩, h9⟩ := hp
 have hm0 : M 0 ≤ 8589934592 := Nat.le_trans ZfH.out (by decide)
 refine Zg Tryz.func419 rfl Tryz.ntmps419 rfl ?_
 repeat (first | (refine wkB ?_; try intro _) | (refine sC rfl rfl ?_ ?_; focus (first | exact trivial | exact ⟨h0, ⟨h1, h2, hm0⟩, ⟨h5, h6, hm0⟩, h9⟩)) | (refine sN rfl rfl ?_ ?_; (focus (first | exact trivial | exact ⟨h0, ⟨h1, h2, hm0⟩, ⟨h5, h6, hm0⟩, h9⟩)); intro _; (try simp only [List.cons_append, List.nil_append, List.append_nil])))
 rcases hb : qsame (lnX f) (lnX g) t.P with _ | _
 ·repeat (refine wkB ?_; try intro _)
  exact Zf rfl rfl (fun w hw => Zh hw)
 ·repeat (first | (refine wkB ?_; try intro _) | (refine sC rfl rfl ?_ ?_; focus (exact ⟨h0, ⟨h3, h4, hm0⟩, ⟨h7, h8, hm0⟩, h9⟩)) | (refine sN rfl rfl ?_ ?_; (focus (exact ⟨h0, ⟨h3, h4, hm0⟩, ⟨h7, h8, hm0⟩, h9⟩)); intro _; (try simp only [List.cons_append, List.nil_append, List.append_nil])))
  exact Zf rfl rfl (fun w hw => Zh hw)⟩
instance ZyG (f g : ZG) (z : Array Value) : SpecC Tryz.prog 417 [.agg z, vLn f, vLn g] (.bool (decide (f = g))) True := ⟨fun _ w => by
 refine Zg Tryz.func417 rfl Tryz.ntmps417 rfl ?_
 repeat (refine wkB ?_; try intro _)
 exact Zf rfl rfl (fun w hw => Zh hw)⟩
def lred (f : ZG) (t : Rat) : ZG := ⟨f.X0 + t * (f.X1 + t * 0), 0, f.Y0 + t * (f.Y1 + t * 0), 0⟩
instance ZwB (f : ZG) (t : ZH) (z : Array Value) : SpecC Tryz.prog 418 [.agg z, vLn f, vR t] (vLn (lred f t.P)) (t.R = 0 ∧ ((M f.X0 ≤ 8589934592 ∧ M f.X1 ≤ 8589934592) ∧ M f.Y0 ≤ 8589934592 ∧ M f.Y1 ≤ 8589934592) ∧ M t.P ≤ 8589934592) := ⟨fun hp w => by
 obtain ⟨h0, ⟨⟨h1, h2⟩, h3, h4⟩, h9⟩ := hp
 have hm0 : M 0 ≤ 34359738368 := Nat.le_trans ZfH.out (by decide)
 have := MB.mk h1
 have := MB.mk h2
 have := MB.mk h3
 have := MB.mk h4
 have := MB.mk h9
 refine Zg Tryz.func418 rfl Tryz.ntmps418 rfl ?_
 repeat (refine wkB ?_; try intro _)
 (refine jD 6 6 (h := ?_); (repeat (first | refine wkH ?_ | (refine tC rfl rfl ?_ ?_; focus (first | exact ⟨h0, Nat.le_trans h1 (by decide), Nat.le_trans h2 (by decide), hm0, Nat.le_trans h9 (by decide)⟩ | exact ⟨h0, Nat.le_trans h3 (by decide), Nat.le_trans h4 (by decide), hm0, Nat.le_trans h9 (by decide)⟩)))); refine Zr ?_; (repeat (refine Z6 ?_; intro _)); refine Zt ?_)
 repeat (refine wkB ?_; try intro _)
 exact ZV rfl rfl (fun w hw => Zh hw)⟩
end Go.Vt
/- Units of moving points as units of pieces, and back, walked. Conditions: those that each statement names. -/
namespace Go.Vt
open Go.RowKit Go.Proofs
abbrev PU := Zab
abbrev UL := ZK
abbrev rP := ZbU
abbrev rU := ZaU
abbrev vPU (u : PU) : Value := .agg (ZS (ZR u))
abbrev vUL (u : UL) : Value := .agg (Zs (Zu u))
abbrev vFn (f : FuncId) : Value := .func (.func f) #[] [].toArray
def toU (u : PU) : UL := ⟨u.In, u.F⟩
def ofU (u : UL) : PU := ⟨u.In, u.F⟩
instance ZGU (u : PU) : SpecC Tryz.prog 126 [vPU u] (vUL (toU u)) True := ⟨fun _ w => by
 refine Zg Tryz.func126 rfl Tryz.ntmps126 rfl ?_
 repeat (refine wkB ?_; try intro _)
 exact ZV rfl rfl (fun w hw => Zh hw)⟩
instance ZBp (u : UL) : SpecC Tryz.prog 180 [vUL u] (vPU (ofU u)) True := ⟨fun _ w => by
 refine Zg Tryz.func180 rfl Tryz.ntmps180 rfl ?_
 repeat (refine wkB ?_; try intro _)
 exact ZV rfl rfl (fun w hw => Zh hw)⟩
theorem Zmj (v : Value) (us : List PU) (w : World) (hv : ArgS w v rP us) (hl : us.length ≤ 1048576) :
  Calls Tryz.prog 125 [v, vFn 126].toArray w (RetM (SlS rU 36 (mpN toU us us.length)) (fun s => vSl s) (fun s => mS 224 s) w) := by
 refine Zg Tryz.func125 rfl Tryz.ntmps125 rfl ?_
 obtain ⟨p, cp, rfl⟩ := hv.form
 repeat (refine wkB ?_; try intro _)
 refine Zq (S := (m : Nat) × SlS rU 36 (mpN toU us m)) (fun s => s.1 ≤ us.length) (fun s => [(1, vFn 126), (5, vSl s.2), (8, .slice p us.length cp), (9, .int .i64 us.length), (10, .int .i64 (s.1 : Nat))]) (fun s => mS 224 s.2) (fun s => us.length - s.1) ⟨0, SlS.no⟩
  (Nat.zero_le _) sbB slB (fun s hm => ?_)
 obtain ⟨m, s⟩ := s
 simp only at hm ⊢
 repeat (refine wkB ?_; try intro _)
 refine Zl rfl (fun h => ?_) (fun h => ?_)
 ·have hlt : m < us.length := by have := of_decide_eq_true h; omega
  have hne : us ≠ [] := fun h0 => by rw [h0] at hlt; simp at hlt
  obtain ⟨bw, ow, cw, hvw, hcw, hrow⟩ := hv.blk (k := 35) hne []
  injection hvw with e1 e2 e3
  subst e1
  subst e3
  have hrow' : ∀ L, RowC w L bw ow PU rP us := fun L => ⟨fun w' hw' => hrow.out w' (hw'.sub (List.nil_sublist _))⟩
  repeat (refine wkB ?_; try intro _)
  have hml := Zea toU us m
  refine sU rfl rfl ?_ ?_ ?_ ?_
  ·rfl
  ·rfl
  ·exact ⟨by decide, by omega, by omega⟩
  intro s'
  repeat (first | (refine wkB ?_; try intro _) | (refine sC rfl rfl ?_ ?_; focus (exact ⟨by omega, by omega⟩)) | (refine sN rfl rfl ?_ ?_; (focus (exact ⟨by omega, by omega⟩)); intro _; (try simp only [List.cons_append, List.nil_append, List.append_nil])))
  exact Zj ⟨m + 1, s'⟩ hlt sbB suB (by show us.length - (m + 1) < us.length - m; omega)
 ·have hge : m = us.length := by have := of_decide_eq_false h; omega
  subst hge
  repeat (refine wkB ?_; try intro _)
  exact Zf rfl rfl (fun w hw => ⟨s, rfl, hw.sub sbl⟩)
theorem ZiC (v : Value) (us : List UL) (w : World) (hv : ArgS w v rU us) (hl : us.length ≤ 1048576) :
  Calls Tryz.prog 179 [v, vFn 180].toArray w (RetM (SlS rP 36 (mpN ofU us us.length)) (fun s => vSl s) (fun s => mS 115 s) w) := by
 refine Zg Tryz.func179 rfl Tryz.ntmps179 rfl ?_
 obtain ⟨p, cp, rfl⟩ := hv.form
 repeat (refine wkB ?_; try intro _)
 refine Zq (S := (m : Nat) × SlS rP 36 (mpN ofU us m)) (fun s => s.1 ≤ us.length) (fun s => [(1, vFn 180), (5, vSl s.2), (8, .slice p us.length cp), (9, .int .i64 us.length), (10, .int .i64 (s.1 : Nat))]) (fun s => mS 115 s.2) (fun s => us.length - s.1) ⟨0, SlS.no⟩
  (Nat.zero_le _) sbB slB (fun s hm => ?_)
 obtain ⟨m, s⟩ := s
 simp only at hm ⊢
 repeat (refine wkB ?_; try intro _)
 refine Zl rfl (fun h => ?_) (fun h => ?_)
 ·have hlt : m < us.length := by have := of_decide_eq_true h; omega
  have hne : us ≠ [] := fun h0 => by rw [h0] at hlt; simp at hlt
  obtain ⟨bw, ow, cw, hvw, hcw, hrow⟩ := hv.blk (k := 35) hne []
  injection hvw with e1 e2 e3
  subst e1
  subst e3
  have hrow' : ∀ L, RowC w L bw ow UL rU us := fun L => ⟨fun w' hw' => hrow.out w' (hw'.sub (List.nil_sublist _))⟩
  repeat (refine wkB ?_; try intro _)
  have hml := Zea ofU us m
  refine sU rfl rfl ?_ ?_ ?_ ?_
  ·rfl
  ·rfl
  ·exact ⟨by decide, by omega, by omega⟩
  intro s'
  repeat (first | (refine wkB ?_; try intro _) | (refine sC rfl rfl ?_ ?_; focus (exact ⟨by omega, by omega⟩)) | (refine sN rfl rfl ?_ ?_; (focus (exact ⟨by omega, by omega⟩)); intro _; (try simp only [List.cons_append, List.nil_append, List.append_nil])))
  exact Zj ⟨m + 1, s'⟩ hlt sbB suB (by show us.length - (m + 1) < us.length - m; omega)
 ·have hge : m = us.length := by have := of_decide_eq_false h; omega
  subst hge
  repeat (refine wkB ?_; try intro _)
  exact Zf rfl rfl (fun w hw => ⟨s, rfl, hw.sub sbl⟩)
instance ZBK (w0 : World) (L : List Blk) (v : Value) (us : List PU) [h : LstC w0 L v PU rP us] : SpecR Tryz.prog w0 L 125 [v, vFn 126] (SlS rU 36 (mpN toU us us.length)) (fun s => vSl s) (fun s => mS 224 s) (us.length ≤ 1048576) := ⟨fun hl w hw => Zmj v us w (h.out w hw) hl⟩
instance Zww (w0 : World) (L : List Blk) (v : Value) (us : List UL) [h : LstC w0 L v UL rU us] : SpecR Tryz.prog w0 L 179 [v, vFn 180] (SlS rP 36 (mpN ofU us us.length)) (fun s => vSl s) (fun s => mS 115 s) (us.length ≤ 1048576) := ⟨fun hl w hw => ZiC v us w (h.out w hw) hl⟩
theorem ZrO (v : Value) (us : List PU) (w : World) (hv : ArgS w v rP us) (hl : us.length ≤ 1048576) :
  Calls Tryz.prog 72 [v].toArray w (RetM (SlS rU 36 (mpN toU us us.length)) (fun s => vSl s) (fun s => mS 224 s) w) := by
 have := ArgC.mk hv
 refine Zg Tryz.func72 rfl Tryz.ntmps72 rfl ?_
 repeat (first | (refine wkB ?_; try intro _) | (refine sC rfl rfl ?_ ?_; focus (exact hl)) | (refine sN rfl rfl ?_ ?_; (focus (exact hl)); intro _; (try simp only [List.cons_append, List.nil_append, List.append_nil])))
 rename_i s
 exact Zf rfl rfl (fun w hw => ⟨s, rfl, hw.sub suB⟩)
theorem Zoq (v : Value) (us : List UL) (w : World) (hv : ArgS w v rU us) (hl : us.length ≤ 1048576) :
  Calls Tryz.prog 115 [v].toArray w (RetM (SlS rP 36 (mpN ofU us us.length)) (fun s => vSl s) (fun s => mS 115 s) w) := by
 have := ArgC.mk hv
 refine Zg Tryz.func115 rfl Tryz.ntmps115 rfl ?_
 repeat (first | (refine wkB ?_; try intro _) | (refine sC rfl rfl ?_ ?_; focus (exact hl)) | (refine sN rfl rfl ?_ ?_; (focus (exact hl)); intro _; (try simp only [List.cons_append, List.nil_append, List.append_nil])))
 rename_i s
 exact Zf rfl rfl (fun w hw => ⟨s, rfl, hw.sub suB⟩)
instance ZHW (w0 : World) (L : List Blk) (v : Value) (us : List PU) [h : LstC w0 L v PU rP us] : SpecR Tryz.prog w0 L 72 [v] (SlS rU 36 (mpN toU us us.length)) (fun s => vSl s) (fun s => mS 224 s) (us.length ≤ 1048576) := ⟨fun hl w hw => ZrO v us w (h.out w hw) hl⟩
instance ZGd (w0 : World) (L : List Blk) (v : Value) (us : List UL) [h : LstC w0 L v UL rU us] : SpecR Tryz.prog w0 L 115 [v] (SlS rP 36 (mpN ofU us us.length)) (fun s => vSl s) (fun s => mS 115 s) (us.length ≤ 1048576) := ⟨fun hl w hw => Zoq v us w (h.out w hw) hl⟩
end Go.Vt
/- Sorting, walked. Conditions: those that each statement names. -/
namespace Go.Vt
open Go.RowKit Go.Proofs
def swpRp (xs : List Zb) (j : Nat) : List Zb := (xs.set (j + 1) (gi xs (j : Int))).set j (gi xs ((j + 1 : Nat) : Int))
def dwnRp (xs : List Zb) : Nat → List Zb
 | 0 => xs
 | j + 1 => if cmpRp (gi xs ((j + 1 : Nat) : Int)) (gi xs (j : Int)) < 0 then dwnRp (swpRp xs j) j else xs
def srtRp (xs : List Zb) : Nat → List Zb
 | 0 => xs
 | i + 1 => dwnRp (srtRp xs i) (i + 1)
theorem Zfk (xs : List Zb) (j : Nat) : (swpRp xs j).length = xs.length := by simp [swpRp]
theorem Zid {xs : List Zb} {j : Nat} (h : j + 1 < xs.length) {u : Zb} (hu : u ∈ swpRp xs j) : u ∈ xs := by
 unfold swpRp at hu
 rcases List.mem_or_eq_of_mem_set hu with h1 | h1
 ·rcases List.mem_or_eq_of_mem_set h1 with h2 | h2
  ·exact h2
  ·rw [h2, Zi (by omega)]
   exact List.getElem_mem _
 ·rw [h1, Zi h]
  exact List.getElem_mem _
theorem ZhR : ∀ (j : Nat) (xs : List Zb), (dwnRp xs j).length = xs.length
 | 0, _ => rfl
 | j + 1, xs => by
  rw [dwnRp]
  split
  ·rw [ZhR j, Zfk]
  ·rfl
theorem ZhP : ∀ (j : Nat) (xs : List Zb), j < xs.length → ∀ u ∈ dwnRp xs j, u ∈ xs
 | 0, _, _, _, h => h
 | j + 1, xs, hj, u, h => by
  rw [dwnRp] at h
  split at h
  ·exact Zid hj (ZhP j _ (by rw [Zfk]; omega) u h)
  ·exact h
theorem Zc1 (xs : List Zb) : ∀ i, (srtRp xs i).length = xs.length
 | 0 => rfl
 | i + 1 => by rw [srtRp, ZhR, Zc1 xs i]
theorem Zh5 (xs : List Zb) : ∀ i, i < xs.length → ∀ u ∈ srtRp xs i, u ∈ xs
 | 0, _, _, h => h
 | i + 1, hi, u, h => by
  rw [srtRp] at h
  exact Zh5 xs i (by omega) u (ZhP _ _ (by rw [Zc1]; exact hi) u h)
theorem Zmd (w0 w : World) (L1 : List Blk) (b c n : Nat) (xs : List Zb) (sp : List Value) (T : TypeId) (hn : xs.length = n) (hl : n ≤ 1048576) (hok : ∀ u ∈ xs, RpOk u) (hw : Own w0 (⟨b, row Zc xs sp, T⟩ :: L1) w) :
  Calls Tryz.prog 248 [.slice (some ⟨b, 0, none⟩) n c, .int .i64 0, .int .i64 n, vFn 98].toArray w (RetX w0 Unit (fun _ => .tuple #[]) (fun _ => ⟨b, row Zc (srtRp xs (n - 1)) sp, T⟩ :: L1)) := by
 refine Z1 Tryz.func248 rfl Tryz.ntmps248 rfl hw ?_
 repeat (refine wkB ?_; try intro _)
 refine Zq (S := Nat) (fun m => m ≤ n - 1) (fun m => [(0, .slice (some ⟨b, 0, none⟩) n c), (1, .int .i64 0), (2, .int .i64 n), (3, vFn 98), (8, .int .i64 ((m + 1 : Nat)))]) (fun m => ⟨b, row Zc (srtRp xs m) sp, T⟩ :: L1) (fun m => n - 1 - m) 0 (Nat.zero_le _) sbB slB (fun m hm => ?_)
 have hsl := Zc1 xs m
 repeat (refine wkB ?_; try intro _)
 refine Zl rfl (fun h => ?_) (fun h => ?_)
 ·have hlt : m + 1 < n := by have := of_decide_eq_true h; omega
  have hmem := Zh5 xs m (by omega)
  repeat (refine wkB ?_; try intro _)
  refine Zq (S := Nat × List Zb) (fun s => dwnRp s.2 s.1 = srtRp xs (m + 1) ∧ s.2.length = n ∧ s.1 ≤ m + 1 ∧ ∀ u ∈ s.2, RpOk u) (fun s => [(0, .slice (some ⟨b, 0, none⟩) n c), (1, .int .i64 0), (2, .int .i64 n), (3, vFn 98), (8, .int .i64 ((m + 1 : Nat))), (9, .int .i64 ((s.1 : Nat)))]) (fun s => ⟨b, row Zc s.2 sp, T⟩ :: L1) (fun s => s.1) (m + 1, srtRp xs m)
   ⟨rfl, by show (srtRp xs m).length = n; omega, Nat.le_refl _, fun u hu => hok u (hmem u hu)⟩ sbB slB (fun s hs => ?_)
  obtain ⟨j, ys⟩ := s
  obtain ⟨g1, g2, g3, g4⟩ := hs
  simp only at g1 g2 g3 g4 ⊢
  repeat (refine wkB ?_; try intro _)
  rcases j with _ | j
  ·(refine jD 17 17 (h := ?_); (repeat (refine wkH ?_)); refine Zr ?_; (repeat (refine Z6 ?_; intro _)); refine Zt ?_)
   repeat (refine wkB ?_; try intro _)
   exact Zj (m + 1) (by omega) sbB (by rw [← g1]; exact List.Sublist.refl _) (by omega)
  ·have hj1 : ((j : Int)).toNat < ys.length := by omega
   have hj2 : (((j + 1 : Nat) : Int)).toNat < ys.length := by omega
   have e1 : ((j + 1 : Nat) : Int) - 1 = (j : Int) := by omega
   have o1 := g4 _ (by rw [Zi (show j < ys.length by omega)]; exact List.getElem_mem _ : gi ys (j : Int) ∈ ys)
   have o2 := g4 _ (by rw [Zi (show j + 1 < ys.length by omega)]; exact List.getElem_mem _ : gi ys ((j + 1 : Nat) : Int) ∈ ys)
   rw [dwnRp] at g1
   refine jD 17 17 (h := ?_)
   (repeat (refine wkH ?_))
   simp only [decide_eq_true (show (0 : Int) < ((j + 1 : Nat) : Int) by omega), e1]
   (repeat (refine wkH ?_))
   simp only [e1]
   (repeat (first | refine wkH ?_ | (refine tC rfl rfl ?_ ?_; focus (exact ⟨o2, o1⟩))))
   refine Zr ?_
   refine Zt ?_
   repeat (refine wkB ?_; try intro _)
   by_cases hc : cmpRp (gi ys ((j + 1 : Nat) : Int)) (gi ys (j : Int)) < 0
   ·rw [if_pos hc] at g1
    simp only [decide_eq_true hc]
    repeat (refine wkB ?_; try intro _)
    (refine ZfF [(true, [0, 1, 2, 3, 4, 5, 6, 7, 8]), (false, [9]), (true, [10, 11, 12]), (false, [13]), (true, [14])] [15, 16, 17] (h := ?_); refine wkS ?_)
    (repeat (refine wkH ?_))
    simp only [e1]
    refine Zr ?_
    refine eR rfl ?_ ?_
    ·omega
    refine uS rfl rfl ?_ ?_
    ·omega
    refine eR rfl ?_ ?_
    ·rw [List.length_set]; omega
    refine Zbf ?_
    simp only [Int.toNat_natCast]
    repeat (first | (refine wkB ?_; try intro _) | (refine sC rfl rfl ?_ ?_; focus (exact ⟨by omega, by omega⟩)) | (refine sN rfl rfl ?_ ?_; (focus (exact ⟨by omega, by omega⟩)); intro _; (try simp only [List.cons_append, List.nil_append, List.append_nil])))
    simp only [e1]
    exact Zj (j, swpRp ys j) ⟨g1, by rw [Zfk]; exact g2, by omega, fun u hu => g4 u (Zid (by omega) hu)⟩ sbB slB (by show j < j + 1; omega)
   ·rw [if_neg hc] at g1
    simp only [decide_eq_false hc]
    repeat (first | (refine wkB ?_; try intro _) | (refine sC rfl rfl ?_ ?_; focus (exact ⟨by omega, by omega⟩)) | (refine sN rfl rfl ?_ ?_; (focus (exact ⟨by omega, by omega⟩)); intro _; (try simp only [List.cons_append, List.nil_append, List.append_nil])))
    exact Zj (m + 1) (by omega) sbB (by rw [← g1]; exact List.Sublist.refl _) (by omega)
 ·have hge : m = n - 1 := by have := of_decide_eq_false h; omega
  subst hge
  repeat (refine wkB ?_; try intro _)
  exact Zam rfl (fun w hw => ⟨(), rfl, hw⟩)
abbrev SrtSRp (xs : List Zb) (s : SlS Zc 8 xs) : Type := { s' : SlS Zc 8 (srtRp xs (xs.length - 1)) // vSl s' = vSl s }
theorem Zkg (w0 w : World) (L L1 : List Blk) (xs : List Zb) (s : SlS Zc 8 xs) (T : TypeId) [hd : OwnS T s L L1] (hl : xs.length ≤ 1048576) (hok : ∀ u ∈ xs, RpOk u) (hw : Own w0 L w) :
  Calls Tryz.prog 248 [vSl s, .int .i64 0, .int .i64 xs.length, vFn 98].toArray w (RetX w0 (SrtSRp xs s) (fun _ => .tuple #[]) (fun s' => mS T s'.1 ++ L1)) := by
 have hw1 := hw.perm hd.out
 rcases s.cases T with ⟨rfl, hv, hm⟩ | ⟨b, c, sp, h1, hv, hm, hne⟩
 ·suffices h : Calls Tryz.prog 248 [.slice none 0 0, .int .i64 0, .int .i64 (([] : List Zb).length : Nat), vFn 98].toArray w (RetX w0 (SrtSRp [] s) (fun _ => .tuple #[]) (fun s' => mS T s'.1 ++ L1)) by
   rw [← hv] at h
   exact h
  refine Z1 Tryz.func248 rfl Tryz.ntmps248 rfl hw1 ?_
  repeat (refine wkB ?_; try intro _)
  refine Zq (S := Unit) (fun _ => True) (fun _ => [(2, .int .i64 (([] : List Zb).length : Nat)), (8, .int .i64 1)]) (fun _ => mS T s ++ L1) (fun _ => 0) () trivial sbB slB (fun _ _ => ?_)
  repeat (refine wkB ?_; try intro _)
  simp only [decide_eq_false (show ¬ (1 : Int) < ((([] : List Zb).length : Nat) : Int) by simp)]
  repeat (refine wkB ?_; try intro _)
  exact Zam rfl (fun w hw => ⟨⟨s, rfl⟩, rfl, hw⟩)
 ·suffices h : Calls Tryz.prog 248 [.slice (some ⟨b, 0, none⟩) xs.length c, .int .i64 0, .int .i64 xs.length, vFn 98].toArray w (RetX w0 (SrtSRp xs s) (fun _ => .tuple #[]) (fun s' => mS T s'.1 ++ L1)) by
   rw [← hv] at h
   exact h
  rw [hm] at hw1
  have hsl := Zc1 xs (xs.length - 1)
  refine (Zmd w0 w L1 b c xs.length xs sp T rfl hl hok hw1).mono fun e w' ⟨_, he, hw'⟩ => ?_
  exact ⟨⟨SlS.at_ b c sp (by rw [hsl]; exact h1) (fun h0 => hne (List.length_eq_zero_iff.1 (by rw [h0, List.length_nil] at hsl; exact hsl.symm))), by rw [hv]; show Value.slice _ (srtRp xs (xs.length - 1)).length c = _; rw [hsl]⟩, he, hw'⟩
instance ZBG (w0 : World) (L L1 : List Blk) (xs : List Zb) (s : SlS Zc 8 xs) (T : TypeId) [hd : OwnS T s L L1] : SpecX Tryz.prog w0 L 248 [vSl s, .int .i64 0, .int .i64 xs.length, vFn 98] (SrtSRp xs s) (fun _ => .tuple #[]) (fun s' => mS T s'.1 ++ L1) (xs.length ≤ 1048576 ∧ ∀ u ∈ xs, RpOk u) := ⟨fun hp w hw => Zkg w0 w L L1 xs s T hp.1 hp.2 hw⟩
end Go.Vt
/- The sort of few events, walked. Conditions: those that each statement names. -/
namespace Go.Vt
open Go.RowKit Go.Proofs
theorem Zmy (w0 w : World) (L L1 : List Blk) (xs : List Zb) (s : SlS Zc 8 xs) (T : TypeId) (lim : Int) [hd : OwnS T s L L1] (hl : xs.length ≤ 12) (hok : ∀ u ∈ xs, RpOk u) (hw : Own w0 L w) :
  Calls Tryz.prog 203 [vSl s, .int .i64 0, .int .i64 xs.length, .int .i64 lim, vFn 98].toArray w (RetX w0 (SrtSRp xs s) (fun _ => .tuple #[]) (fun s' => mS T s'.1 ++ L1)) := by
 refine Z1 Tryz.func203 rfl Tryz.ntmps203 rfl hw ?_
 repeat (refine wkB ?_; try intro _)
 refine Zq (S := Unit) (fun _ => True) (fun _ => [(0, vSl s), (1, .int .i64 0), (2, .int .i64 xs.length), (3, .int .i64 lim), (4, vFn 98), (10, .bool true), (11, .bool true)]) (fun _ => L) (fun _ => 0) () trivial sbB slB (fun _ _ => ?_)
 repeat (refine wkB ?_; try intro _)
 simp only [decide_eq_true (show (xs.length : Int) - 0 ≤ 12 by omega)]
 repeat (refine wkB ?_; try intro _)
 refine sZ rfl rfl ?_ ?_
 ·exact ⟨by omega, hok⟩
 intro s'
 repeat (refine wkB ?_; try intro _)
 exact Zdi rfl (fun w hw => ⟨s', rfl, hw⟩)
instance ZA5 (w0 : World) (L L1 : List Blk) (xs : List Zb) (s : SlS Zc 8 xs) (T : TypeId) (lim : Int) [hd : OwnS T s L L1] : SpecX Tryz.prog w0 L 203 [vSl s, .int .i64 0, .int .i64 xs.length, .int .i64 lim, vFn 98] (SrtSRp xs s) (fun _ => .tuple #[]) (fun s' => mS T s'.1 ++ L1) (xs.length ≤ 12 ∧ ∀ u ∈ xs, RpOk u) := ⟨fun hp w hw => Zmy w0 w L L1 xs s T lim hp.1 hp.2 hw⟩
theorem Zkq (w0 w : World) (L L1 : List Blk) (xs : List Zb) (s : SlS Zc 8 xs) (T : TypeId) [hd : OwnS T s L L1] (hl : xs.length ≤ 12) (hok : ∀ u ∈ xs, RpOk u) (hw : Own w0 L w) :
  Calls Tryz.prog 151 [vSl s, vFn 98].toArray w (RetX w0 (SrtSRp xs s) (fun _ => .tuple #[]) (fun s' => mS T s'.1 ++ L1)) := by
 refine Z1 Tryz.func151 rfl Tryz.ntmps151 rfl hw ?_
 repeat (first | (refine wkB ?_; try intro _) | (refine sC rfl rfl ?_ ?_; focus (omega)) | (refine sN rfl rfl ?_ ?_; (focus (omega)); intro _; (try simp only [List.cons_append, List.nil_append, List.append_nil])))
 refine sZ rfl rfl ?_ ?_
 ·exact ⟨hl, hok⟩
 intro s'
 repeat (refine wkB ?_; try intro _)
 exact Zam rfl (fun w hw => ⟨s', rfl, hw⟩)
instance ZyJ (w0 : World) (L L1 : List Blk) (xs : List Zb) (s : SlS Zc 8 xs) (T : TypeId) [hd : OwnS T s L L1] : SpecX Tryz.prog w0 L 151 [vSl s, vFn 98] (SrtSRp xs s) (fun _ => .tuple #[]) (fun s' => mS T s'.1 ++ L1) (xs.length ≤ 12 ∧ ∀ u ∈ xs, RpOk u) := ⟨fun hp w hw => Zkq w0 w L L1 xs s T hp.1 hp.2 hw⟩
end Go.Vt
/- Codes within a range over a function, under the program logic: the same rules inside a fence, in a round or none; the call of yield. Conditions: those that each rule names. -/
set_option linter.unusedSectionVars false
namespace Go.Vt
open Go.RowKit
def Fr (r : Option Nat) : Fence := { Fence.wide with round := r }
section
variable {P : Program} {w0 : World} {n : Nat} {ops : Array Oper} {L : List Blk} {E : Env} {Q : Exit → Act → World → Prop} {r : Option Nat} {N : Nat}
def noDef (o : Oper) : Bool := match o.op with
 | .defer _ => false
 | _ => true
theorem Zdu {o : Oper} (h : noDef o = true) (c : Call) : o.op ≠ .defer c := fun e => by
 unfold noDef at h
 rw [e] at h
 cases h
theorem callsI {f : FuncId} {args : Array Value} {w : World} {R : Ending → World → Prop} (h : Calls P f args w R) : CallsIn (Fr r) N P f args w R := (callsIn_wide (n := N)).2 h
theorem callsO {f : FuncId} {args : Array Value} {w : World} {R : Ending → World → Prop} (h : CallsIn (Fr r) N P f args w R) : Calls P f args w R := (callsIn_wide (n := N)).1 h
def NoOut (Q : Exit → Act → World → Prop) : Prop := ∀ a w, ¬ Q .outgrown a w
theorem Zr1 {o : Oper} {a : Act} {K : Act → World → Prop} {res : Result Next} (h : o.upon P a K Q res) : o.uponIn (Fr r) N P a K Q res := by
 cases res with
 | ok x w' =>
  cases x <;> simp only [Oper.upon] at h <;> simp only [Oper.uponIn]
  case value => exact h
  case skip => exact h
  case defer => exact h
  case enter => exact ⟨(fun hd => by cases hd), callsI h⟩
  case row => exact ⟨(fun hd => by cases hd), fun c cs _ => let ⟨v, w', r, s⟩ := h c cs; ⟨v, w', r, stepsIn_wide.2 s⟩⟩
 | halt x w' => cases x <;> simp only [Oper.upon] at h <;> simp only [Oper.uponIn] <;> exact h
theorem ZmT {o : Oper} {a : Act} {w : World} {K : Act → World → Prop} (hd : noDef o = true) (h : o.wp P a w K Q) : o.wpIn (Fr r) N P a w K Q := by
 refine ⟨fun f _ => trivial, ?_⟩
 rw [Oper.semAt_eq _ _ _ (Zdu hd)]
 exact Zr1 h
theorem Zey (hQ : NoOut Q) : ∀ (l : List Oper) (a : Act) (w : World), l.all noDef = true → wpList P ops Q l a w → wpListIn (Fr r) N P ops Q l a w
 | [], _, _, _, h => h
 | o :: l, a, w, hd, h => by
  simp only [List.all_cons, Bool.and_eq_true] at hd
  simp only [wpList] at h
  simp only [wpListIn]
  split at h
  ·rename_i hw
   rw [if_pos hw]
   rcases h with h | ⟨_, a0, w0, h⟩
   ·exact Oper.wpIn_mono (fun a w h => Zey hQ l a w hd.2 h) (ZmT hd.1 h)
   ·exact (hQ _ _ h).elim
  ·rename_i hw
   rw [if_neg hw]
   exact ⟨fun f _ => trivial, Zey hQ l _ _ hd.2 h⟩
structure JOI (r : Option Nat) (N : Nat) (P : Program) (w0 : World) (n : Nat) (ops : Array Oper) (Q : Exit → Act → World → Prop) (l : List Oper) (E : Env) (L : List Blk) : Prop where
 out : ∀ a w, Rep n E a → Own w0 L w → wpListIn (Fr r) N P ops Q l a w
structure JI (r : Option Nat) (N : Nat) (P : Program) (w0 : World) (n : Nat) (c : Code) (Q : Exit → Act → World → Prop) (E : Env) (L : List Blk) : Prop where
 out : ∀ a w, Rep n E a → Own w0 L w → c.wpIn (Fr r) N P Q a w
theorem Zbj {l : List Oper} (hQ : NoOut Q) (hd : l.all noDef = true) (h : JO P w0 n ops Q l E L) : JOI r N P w0 n ops Q l E L := ⟨fun a w ha hw => Zey hQ l a w hd (h.out a w ha hw)⟩
def ThenI (r : Option Nat) (N : Nat) (P : Program) (c : Code) (Q : Exit → Act → World → Prop) : Exit → Act → World → Prop := Exit.then (c.wpIn (Fr r) N P Q) Q
theorem ZaQ {l : List Oper} {id : Nat} (h : JOI r N P w0 n l.toArray Q l E L) : JI r N P w0 n (.region id l.toArray false) Q E L := ⟨fun a w ha hw => wpIn_region_lit (h.out a w ha hw)⟩
theorem Zat {x y : Code} (h : JI r N P w0 n x (ThenI r N P y Q) E L) : JI r N P w0 n (.seq x y) Q E L := ⟨fun a w ha hw => wpIn_seq (h.out a w ha hw)⟩
theorem Zdl (h : JX w0 n .normal Q E L) : JI r N P w0 n .skip Q E L := ⟨fun a w ha hw => wpIn_skip (h.out a w ha hw)⟩
theorem ZjM (h : JX w0 n .ret Q E L) : JI r N P w0 n .ret Q E L := ⟨fun a w ha hw => wpIn_ret (h.out a w ha hw)⟩
theorem Zhf {id : Nat} (h : JX w0 n (.exit id) Q E L) : JI r N P w0 n (.exit id) Q E L := ⟨fun a w ha hw => wpIn_exit (h.out a w ha hw)⟩
theorem Za0 {id : Nat} {c : Code} (h : JI r N P w0 n c (Exit.inBlock id Q) E L) : JI r N P w0 n (.block id c) Q E L := ⟨fun a w ha hw => wpIn_block (h.out a w ha hw)⟩
theorem Zbl {c : Operand} {x y : Code} {t : Bool} (hc : Env.ev E c = some (.bool t)) (ht : t = true → JI r N P w0 n x Q E L) (hf : t = false → JI r N P w0 n y Q E L) : JI r N P w0 n (.cond c x y) Q E L := ⟨fun a w ha hw => by
 cases t with
 | true => exact wpIn_cond_true (ha.ev hc) ((ht rfl).out a w ha hw)
 | false => exact wpIn_cond_false (ha.ev hc) ((hf rfl).out a w ha hw)⟩
theorem Zae {y : Code} (h : JI r N P w0 n y Q E L) : JX w0 n .normal (ThenI r N P y Q) E L := ⟨h.out⟩
theorem Zc7 {y : Code} {id : Nat} (h : JX w0 n (.exit id) Q E L) : JX w0 n (.exit id) (ThenI r N P y Q) E L := ⟨h.out⟩
theorem Zce {c : Code} (h : J P w0 n c Q E L) : JI none N P w0 n c Q E L := ⟨fun a w ha hw => wpIn_wide.2 (h.out a w ha hw)⟩
def LoopI {S : Type} (n : Nat) (I : S → World → Prop) (Es : S → Env) (mu : S → Nat) (s : S) (Q : Exit → Act → World → Prop) : Exit → Act → World → Prop
 | .normal, a, w => ∃ t, I t w ∧ Rep n (Es t) a ∧ mu t < mu s
 | e, a, w => Q e a w
theorem Zhw {S : Type} (I : S → World → Prop) (Es : S → Env) (mu : S → Nat) (s0 : S) {c : Code} (h0 : ∀ w, Own w0 L w → I s0 w) (hE : Sub E (Es s0))
  (round : ∀ s w1, I s w1 → JI r N P w1 n c (LoopI n I Es mu s Q) (Es s) []) : JI r N P w0 n (.loop c) Q E L := by
 refine ⟨fun a w ha hw => ?_⟩
 have hmin : ∀ (a : Act) (w : World), (∃ s, I s w ∧ Rep n (Es s) a) → ∃ s, (I s w ∧ Rep n (Es s) a) ∧ ∀ t, (I t w ∧ Rep n (Es t) a) → mu s ≤ mu t := by
  intro a w ⟨s, hs⟩
  obtain ⟨k, ⟨t, ht, hk⟩, hm⟩ := least (fun k => ∃ t, (I t w ∧ Rep n (Es t) a) ∧ mu t = k) (mu s) ⟨s, hs, rfl⟩
  exact ⟨t, ht, fun t' ht' => by rw [hk]; exact hm _ ⟨t', ht', rfl⟩⟩
 classical
 let pick : Act → World → Nat := fun a w => if h : ∃ s, I s w ∧ Rep n (Es s) a then mu (Classical.choose (hmin a w h)) else 0
 refine wpIn_loop (fun a w => ∃ s, I s w ∧ Rep n (Es s) a) pick ⟨s0, h0 w hw, ha.sub hE⟩ fun a' w' hI => ?_
 have hsp := Classical.choose_spec (hmin a' w' hI)
 have hr := (round _ _ hsp.1.1).out a' w' hsp.1.2 (Own.start w')
 refine wpIn_mono hr fun e a2 w2 hq => ?_
 cases e with
 | normal =>
  obtain ⟨t, ht, hr2, hlt⟩ := hq
  refine ⟨⟨t, ht, hr2⟩, ?_⟩
  have hex : ∃ s, I s w2 ∧ Rep n (Es s) a2 := ⟨t, ht, hr2⟩
  have h2 := (Classical.choose_spec (hmin a2 w2 hex)).2 t ⟨ht, hr2⟩
  simp only [pick, dif_pos hex, dif_pos hI]
  omega
 | _ => exact hq
theorem Zgn {S : Type} {I : S → World → Prop} {Es : S → Env} {mu : S → Nat} {s : S} (t : S) (ht : ∀ w, Own w0 L w → I t w) (hE : Sub E (Es t)) (hmu : mu t < mu s) : JX w0 n .normal (LoopI n I Es mu s Q) E L :=
 ⟨fun _ w ha hw => ⟨t, ht w hw, ha.sub hE, hmu⟩⟩
theorem Zdw {S : Type} {I : S → World → Prop} {Es : S → Env} {mu : S → Nat} {s : S} (h : JX w0 n .ret Q E L) : JX w0 n .ret (LoopI n I Es mu s Q) E L := ⟨h.out⟩
theorem Zc8 {S : Type} {I : S → World → Prop} {Es : S → Env} {mu : S → Nat} {s : S} {id : Nat} (h : JX w0 n (.exit id) Q E L) : JX w0 n (.exit id) (LoopI n I Es mu s Q) E L := ⟨h.out⟩
theorem ZeW {l : Nat} {args : Array Value} {o : Oper} {rest : List Oper} {R : Ending → World → Prop} (hg : guardB ops E o.guard = some true) (hd : dstOk n o.dst = true) (hdef : noDef o = true)
  (hr : ∀ a w, Rep n E a → (execOp a.eval o).run P w = (Instr.yield l args).run P w)
  (hY : ∀ w, Own w0 L w → YieldAt (Fr r) (N - 1) P l args w R)
  (h : ∀ e w', R e w' → ∃ v, e = .returned v ∧ JOI r N P w' n ops Q rest (Env.put E o.dst v) []) : JOI r N P w0 n ops Q (o :: rest) E L := by
 refine ⟨fun a w ha hw => ?_⟩
 obtain ⟨fn, tmps, assign, body, hy, hR⟩ := hY w hw
 refine wpListIn_step fun K hK => ?_
 rw [if_pos (ZaG ha hg)]
 refine ⟨fun f _ => trivial, ?_⟩
 rw [Oper.semAt_eq _ _ _ (Zdu hdef), hr a w ha, hy]
 refine ⟨(fun hd => by cases hd), hR.mono fun e w' he => ?_⟩
 obtain ⟨v, rfl, hj⟩ := h e w' he
 exact hK _ _ (hj.out _ _ (ha.put _ _ hd) (Own.start w'))
theorem Ze9 {l : Nat} {g : Operand} {xs : List Operand} {vs : List Value} {ats : Array TypeId} {a : Act} {w : World} {d : Option Tmp} {ty : TypeId} {pos : String} {aft : Array Edge} {gd : Option (Nat × Bool)} (ha : Rep n E a) (hg : Env.ev E g = some (.func (.yield l) #[] #[])) (hl : Env.evs E xs = some vs) :
  (execOp a.eval ⟨d, .call ⟨.value g, xs.toArray, ats⟩, ty, pos, aft, gd⟩).run P w = (Instr.yield l vs.toArray).run P w := by
 have h1 : xs.toArray.map a.eval = vs.toArray := by rw [← ha.evs xs vs hl]; simp
 simp only [execOp, resolve, h1, ha.ev hg, Deferred.ofValue, Sem.run_bind, Sem.run_pure, Result.andThen, invoke]
 rw [show (#[] ++ vs.toArray : Array Value) = vs.toArray from Array.empty_append]
theorem Zfh {f : FuncId} {fn : Func} {c : Code} {l : List Value} {w : World} {R : Ending → World → Prop} (hf : P.funcs[f]? = some fn) (hb : fn.body = some c) (hn : fn.ntmps = n) (hl : Nat.ble l.length n = true) [hE : EnvC l E]
  (h : JI none N P w n c (bodyPost P fn R) E []) : CallsIn (Fr none) N P f l.toArray w R := by
 rw [← hE.out] at h
 have hl' : l.length ≤ n := Nat.le_of_ble_eq_true hl
 refine callsIn_of_wp hf hb trivial (h.out _ _ ⟨by simp [hn]; omega, rfl, fun k v hk => ?_⟩ (Own.start w))
 obtain ⟨_, h2⟩ := Zcv l 0 k v hk
 have hlt : k < l.length := by
  rcases Nat.lt_or_ge k l.length with h' | h'
  ·exact h'
  ·simp [List.getElem?_eq_none h'] at h2
 simp only [Nat.sub_zero] at h2
 rw [Array.getElem?_append_left (by simpa using hlt)]
 simpa using h2
theorem ZeT {f : FuncId} {fn : Func} {c : Code} {l : List Value} {w : World} {R : Ending → World → Prop} (hf : P.funcs[f]? = some fn) (hb : fn.body = some c) (hn : fn.ntmps = n) (hl : Nat.ble l.length n = true) [hE : EnvC l E]
  (h : JI none N P w n c (bodyPostM (Fr none) N P fn R) E []) : Calls P f l.toArray w R := by
 rw [← hE.out] at h
 have hl' : l.length ≤ n := Nat.le_of_ble_eq_true hl
 refine callsO (r := none) (N := N) (callsIn_of_wp_marks hf hb trivial (h.out _ _ ⟨by simp [hn]; omega, rfl, fun k v hk => ?_⟩ (Own.start w)))
 obtain ⟨_, h2⟩ := Zcv l 0 k v hk
 have hlt : k < l.length := by
  rcases Nat.lt_or_ge k l.length with h' | h'
  ·exact h'
  ·simp [List.getElem?_eq_none h'] at h2
 simp only [Nat.sub_zero] at h2
 rw [Array.getElem?_append_left (by simpa using hlt)]
 simpa using h2
end
end Go.Vt
/- The next entry of a map within a range over a function, under the program logic. Conditions: those that each rule names. -/
set_option linter.unusedSectionVars false
namespace Go.Vt
open Go.RowKit
open Go.ChangeMaps (setBlock)
section
variable {P : Program} {w0 : World} {n N : Nat} {ops : Array Oper} {L : List Blk} {E : Env} {rd : Option Nat}
variable {Q : Exit → Act → World → Prop} {rest : List Oper}
variable {ty : TypeId} {pos : String} {aft : Array Edge} {gd : Option (Nat × Bool)} {t : Tmp} {x : Operand} {b r : Nat}
variable {κ α : Type} [DecidableEq κ] {ek : κ → Value} {ev : α → Value} {l : List (κ × α)} {seen : List Nat}
theorem Zge (hg : guardB ops E gd = some true) (hd : Nat.blt t n = true) [hx : IsC (evl E x) (.pointer (some ⟨r, 0, none⟩))] (hr : ∀ w, Own w0 L w → w.heap[r]? = some (itO b l.length seen)) (hb : ∀ w, Own w0 L w → w.heap[b]? = some (mapO ek ev l))
  (h0 : (∀ i, i < l.length → i ∈ seen) → JOI rd N P w0 n ops Q rest ((t, .tuple #[.bool false]) :: E) L)
  (h1 : ∀ w w1 : World, Own w0 L w → (w1 = w ∨ w1 = w.drew) → ∀ i, (hi : i < l.length) → i ∉ seen → JOI rd N P (setBlock w1 r (itO b l.length (seen ++ [i]))) n ops Q rest ((t, .tuple #[.bool true, ek l[i].1, ev l[i].2]) :: E) []) :
  JOI rd N P w0 n ops Q (⟨some t, .next x false, ty, pos, aft, gd⟩ :: rest) E L := by
 refine ⟨fun a w ha hw => ?_⟩
 refine wpListIn_step fun K hK => ?_
 rw [if_pos (ZaG ha hg)]
 refine ⟨fun f _ => trivial, ?_⟩
 rw [Oper.semAt_eq _ _ _ (fun c e => by cases e)]
 have e1 := ha.ev (isE (h := hx))
 rcases ZhQ (P := P) (hr w hw) (hb w hw) ty with ⟨h2, h3⟩ | ⟨i, hi, hs, w1, hw1, h3⟩
 ·have e : (execOp a.eval ⟨some t, .next x false, ty, pos, aft, gd⟩).run P w = .ok (.value (.tuple #[.bool false])) w := by simp only [execOp, e1, Sem.run_bind, h3, Result.andThen, Sem.run_pure]
  rw [e]
  exact hK _ _ ((h0 h2).out _ _ (ha.put (some t) _ hd) hw)
 ·have e : (execOp a.eval ⟨some t, .next x false, ty, pos, aft, gd⟩).run P w = .ok (.value (.tuple #[.bool true, ek l[i].1, ev l[i].2])) (setBlock w1 r (itO b l.length (seen ++ [i]))) := by simp only [execOp, e1, Sem.run_bind, h3, Result.andThen, Sem.run_pure]
  rw [e]
  exact hK _ _ ((h1 w w1 hw hw1 i hi hs).out _ _ (ha.put (some t) _ hd) (Own.start _))
theorem ZcI (b n : Nat) (seen : List Nat) : (itO b n seen).isWalk = true := rfl
theorem ZeC {w w1 : World} {o : Obj} (hw : w1 = w ∨ w1 = w.drew) : w.grownBy (setBlock w1 r o) (some r) := by
 rcases hw with rfl | rfl
 ·exact ⟨rfl, rfl, rfl, by simp [setBlock], fun k _ hk => Array.getElem?_setIfInBounds_ne (fun e => hk (by rw [e]))⟩
 ·have e : w.drew.heap = w.heap := rfl
  exact ⟨rfl, rfl, rfl, by simp only [setBlock, Array.size_setIfInBounds, e]; exact Nat.le_refl _, fun k _ hk => by simp only [setBlock, e]; exact Array.getElem?_setIfInBounds_ne (fun e => hk (by rw [e]))⟩
theorem ZeP {w w1 : World} {o o0 : Obj} (hw : w1 = w ∨ w1 = w.drew) (h : w.heap[r]? = some o0) : (setBlock w1 r o).heap[r]? = some o := by
 have hl := Zm h
 rcases hw with rfl | rfl
 ·simp [setBlock, hl]
 ·have e : w.drew.heap = w.heap := rfl
  simp [setBlock, e, hl]
end
section
theorem Zqb {n : Nat} {seen : List Nat} (hn : seen.Nodup) (hl : ∀ i ∈ seen, i < n) (ha : ∀ i, i < n → i ∈ seen) : seen.Perm (List.range n) :=
 (List.perm_ext_iff_of_nodup hn List.nodup_range).2 fun i => by rw [List.mem_range]; exact ⟨hl i, ha i⟩
def seenL {α : Type} (l : List α) (seen : List Nat) : List α := seen.filterMap fun i => l[i]?
theorem ZbK {α : Type} (l : List α) (seen : List Nat) (i : Nat) (h : i < l.length) : seenL l (seen ++ [i]) = seenL l seen ++ [l[i]] := by
 simp [seenL, List.filterMap_append, h]
theorem ZdU {α : Type} (l : List α) {seen : List Nat} (h : ∀ i ∈ seen, i < l.length) : (seenL l seen).length = seen.length := by
 induction seen with
 | nil => rfl
 | cons i s ih =>
  have hi := h i (.head _)
  have := ih fun j hj => h j (.tail _ hj)
  simp only [seenL, List.filterMap_cons, List.getElem?_eq_getElem hi, List.length_cons]
  exact congrArg Nat.succ this
theorem Zj3 {α : Type} (l : List α) : seenL l (List.range l.length) = l := by
 have key : ∀ (m : Nat), m ≤ l.length → seenL l (List.range m) = l.take m := by
  intro m
  induction m with
  | zero => intro _; simp [seenL]
  | succ m ih =>
   intro hm
   rw [List.range_succ, ZbK l _ m hm, ih (by omega), List.take_succ_eq_append_getElem hm]
 rw [key _ (Nat.le_refl _), List.take_length]
theorem Zb6 {α : Type} {l : List α} {seen : List Nat} (hn : seen.Nodup) (hl : ∀ i ∈ seen, i < l.length) (ha : ∀ i, i < l.length → i ∈ seen) : (seenL l seen).Perm l := by
 have := (Zqb hn hl ha).filterMap fun i => l[i]?
 have e := Zj3 l
 unfold seenL at e ⊢
 rw [e] at this
 exact this
theorem ZaJ : ∀ {n : Nat} {seen : List Nat}, seen.Nodup → (∀ i ∈ seen, i < n) → seen.length ≤ n
 | 0, [], _, _ => Nat.le_refl _
 | 0, i :: _, _, hl => absurd (hl i (.head _)) (by omega)
 | n + 1, seen, hn, hl => by
  by_cases h : n ∈ seen
  ·have h1 := ZaJ (n := n) (hn.erase n) fun i hi => by
    have h2 := hl i (List.mem_of_mem_erase hi)
    have h3 : i ≠ n := fun e => by
     subst e
     exact (hn.not_mem_erase) hi
    omega
   rw [List.length_erase_of_mem h] at h1
   omega
  ·exact Nat.le_succ_of_le (ZaJ hn fun i hi => by
    have h2 := hl i hi
    have h3 : i ≠ n := fun e => h (e ▸ hi)
    omega)
end
end Go.Vt
/- Intakes in memory: new ones, and what is added. Conditions: those that each statement names. -/
namespace Go.Vt
open Go.RowKit Go.Proofs
instance (priority := 50) atCons (w0 : World) (e : Blk) (L : List Blk) (b : Nat) (cs : Array Value) (T : TypeId) [h : AtC w0 L b cs T] : AtC w0 (e :: L) b cs T := ⟨fun w hw => h.out w (hw.sub (.cons _ (.refl _)))⟩
instance (priority := 50) atOCons (w0 : World) (e : Blk) (L : List Blk) (b : Nat) (o : Obj) [h : AtO w0 L b o] : AtO w0 (e :: L) b o := ⟨fun w hw => h.out w (hw.sub (.cons _ (.refl _)))⟩
instance (priority := 40) Zxy {P : Program} {w0 : World} {n : Nat} {L : List Blk} {E : Env} {x : Operand} {T T0 : TypeId} {v : Value} {b off : Nat} {cs : Array Value} [IsC (evl E x) (.pointer (some ⟨b, off, none⟩))] [h : AtC w0 L b cs T0] [hv : LdC P T cs off v] : YlC P w0 n L E (.load T x) v := ⟨fun _ _ _ _ _ => Zdt isE h.out hv.out⟩
class DelO (b : Nat) (L : List Blk) (o : outParam Obj) (T : outParam TypeId) (L1 : outParam (List Blk)) : Prop where
 out : L.Perm (⟨b, .obj o, T⟩ :: L1)
instance (priority := high) delOHere (b : Nat) (o : Obj) (T : TypeId) (L : List Blk) : DelO b (⟨b, .obj o, T⟩ :: L) o T L := ⟨.refl _⟩
instance (priority := low) delOThere (b : Nat) (e : Blk) (o : Obj) (T : TypeId) (L L1 : List Blk) [h : DelO b L o T L1] : DelO b (e :: L) o T (e :: L1) := ⟨(h.out.cons e).trans (.swap _ _ _)⟩
instance nth10 (a : Value) : NthC #[a] 0 a := ⟨rfl⟩
instance keyRp : KeyC Tryz.prog 35 (kA Zc) where
 chk e x w := by kernel_rfl
 same := Ze2 (fun x => rfl)
 find ev l x w := by
  obtain ⟨fs, hf⟩ : ∃ fs, Tryz.prog.underlying 35 = some (.struct fs) := ⟨_, Tryz.underlying35⟩
  exact ZdZ hf (Zeq fun x y w => (inferInstance : BinC Tryz.prog .eql 35 (.agg (Zc x)) (.agg (Zc y)) (.bool (decide (x = y)))).run w) ev l x w
instance keyEx : KeyC Tryz.prog 122 (kA Zd) where
 chk e x w := by kernel_rfl
 same := Ze2 (fun x => rfl)
 find ev l x w := by
  obtain ⟨fs, hf⟩ : ∃ fs, Tryz.prog.underlying 122 = some (.struct fs) := ⟨_, Tryz.underlying122⟩
  exact ZdZ hf (Zeq fun x y w => (inferInstance : BinC Tryz.prog .eql 122 (.agg (Zd x)) (.agg (Zd y)) (.bool (decide (x = y)))).run w) ev l x w
abbrev mRp (l : List (Zb × Bool)) : Obj := mapO (kA Zc) Value.bool l
abbrev mEx (l : List (Za × Bool)) : Obj := mapO (kA Zd) Value.bool l
instance ZF4 : MapT Tryz.prog 177 (kA Zc) Value.bool := ⟨trivial⟩
instance ZFv : MapT Tryz.prog 178 (kA Zd) Value.bool := ⟨trivial⟩
instance ZEX : UndC Tryz.prog 177 (.map 35 4) := ⟨by kernel_rfl⟩
instance ZFY : UndC Tryz.prog 178 (.map 122 4) := ⟨by kernel_rfl⟩
instance ZED : UndC Tryz.prog 45 (.pointer 180) := ⟨by kernel_rfl⟩
def vIn (m1 m2 : Nat) : Array Value := #[.map (some m1), .map (some m2)]
instance ZH8 (m1 m2 : Nat) : BdC Tryz.prog 180 [(0, .map (some m1)), (1, .map (some m2))] (.agg (vIn m1 m2)) := ⟨fun w => by kernel_rfl⟩
instance ZHO (m1 m2 : Nat) : LdC Tryz.prog 177 (vIn m1 m2) 0 (.map (some m1)) := ⟨Zy (by kernel_rfl) (by kernel_rfl)⟩
instance ZGS (m1 m2 : Nat) : LdC Tryz.prog 178 (vIn m1 m2) 1 (.map (some m2)) := ⟨Zy (by kernel_rfl) (by kernel_rfl)⟩
instance ZHd : FaO Tryz.prog 180 0 0 0 := ⟨fun b w => by kernel_rfl⟩
instance ZHx : FaO Tryz.prog 180 1 0 1 := ⟨fun b w => by kernel_rfl⟩
theorem Zqd (w : World) : Calls Tryz.prog 43 ([] : List Value).toArray w (RetM (Nat × Nat × Nat) (fun s => .pointer (some ⟨s.1, 0, none⟩)) (fun s => [⟨s.1, vIn s.2.1 s.2.2, 180⟩, ⟨s.2.2, .obj (mEx []), 178⟩, ⟨s.2.1, .obj (mRp []), 177⟩]) w) := by
 refine Zg Tryz.func43 rfl Tryz.ntmps43 rfl ?_
 repeat (refine wkM ?_; try intro _)
 rename_i b1 b2 b3
 exact Zf rfl rfl (fun w hw => ⟨(b3, b1, b2), rfl, hw⟩)
instance ZGB (w0 : World) (L : List Blk) : SpecR Tryz.prog w0 L 43 [] (Nat × Nat × Nat) (fun s => .pointer (some ⟨s.1, 0, none⟩)) (fun s => [⟨s.1, vIn s.2.1 s.2.2, 180⟩, ⟨s.2.2, .obj (mEx []), 178⟩, ⟨s.2.1, .obj (mRp []), 177⟩]) True := ⟨fun _ w _ => Zqd w⟩
def cpy {κ α : Type} [DecidableEq κ] (l : List (κ × α)) (q : List (κ × α)) : List (κ × α) := q.foldl (fun m p => mput m p.1 p.2) l
theorem Zjd {κ α : Type} [DecidableEq κ] (l q : List (κ × α)) (p : κ × α) : cpy l (q ++ [p]) = mput (cpy l q) p.1 p.2 := by simp [cpy, List.foldl_append]
structure SeenOk (n : Nat) (seen : List Nat) : Prop where
 nd : seen.Nodup
 lt : ∀ i ∈ seen, i < n
theorem SeenOk.snoc {n i : Nat} {seen : List Nat} (h : SeenOk n seen) (hi : i < n) (hs : i ∉ seen) : SeenOk n (seen ++ [i]) :=
 ⟨List.nodup_append.2 ⟨h.nd, by simp, fun a ha b hb => by rw [List.mem_singleton] at hb; rintro rfl; exact hs (hb ▸ ha)⟩, fun j hj => by
  rcases List.mem_append.1 hj with h1 | h1
  ·exact h.lt j h1
  ·rw [List.mem_singleton] at h1; omega⟩
theorem Zkn (w0 w : World) (L1 : List Blk) (b1 b2 : Nat) (l1 l2 : List (Zb × Bool)) [h2 : AtO w0 L1 b2 (mRp l2)] (hw : Own w0 (⟨b1, .obj (mRp l1), 177⟩ :: L1) w) :
  Calls Tryz.prog 148 [.map (some b1), .map (some b2)].toArray w (RetX w0 { q : List (Zb × Bool) // q.Perm l2 } (fun _ => .tuple #[]) (fun q => ⟨b1, .obj (mRp (cpy l1 q.1)), 177⟩ :: L1)) := by
 refine Z1 Tryz.func148 rfl Tryz.ntmps148 rfl hw ?_
 repeat (refine wkM ?_; try intro _)
 rename_i r
 refine Zq (S := List Nat) (fun s => SeenOk l2.length s) (fun _ => [(0, .map (some b1)), (7, .pointer (some ⟨r, 0, none⟩))]) (fun s => ⟨r, .obj (itO b2 l2.length s), 177⟩ :: ⟨b1, .obj (mRp (cpy l1 (seenL l2 s))), 177⟩ :: L1) (fun s => l2.length - s.length) [] ⟨List.nodup_nil, fun i hi => by cases hi⟩ sbB slB (fun s hs => ?_)
 have hlen := ZaJ hs.nd hs.lt
 refine cX ?_
 refine cX ?_
 refine sNx rfl rfl rfl (fun hall => ?h0) (fun i hi hni => ?h1)
 case h0 =>
  repeat (refine wkM ?_; try intro _)
  exact Zam rfl (fun w hw => ⟨⟨seenL l2 s, Zb6 hs.nd hs.lt hall⟩, rfl, hw.sub (.cons _ (.refl _))⟩)
 case h1 =>
  have hs' := hs.snoc hi hni
  have hlen' := ZaJ hs'.nd hs'.lt
  rw [List.length_append, List.length_singleton] at hlen'
  repeat (refine wkM ?_; try intro _)
  refine Zj (s ++ [i]) hs' sbB ?_ (by simp only [List.length_append, List.length_singleton]; omega)
  rw [ZbK _ _ _ hi, Zjd, Zi hi]
  exact List.sublist_cons_self _ _
theorem Zj9 (w0 w : World) (L1 : List Blk) (b1 b2 : Nat) (l1 l2 : List (Za × Bool)) [h2 : AtO w0 L1 b2 (mEx l2)] (hw : Own w0 (⟨b1, .obj (mEx l1), 178⟩ :: L1) w) :
  Calls Tryz.prog 149 [.map (some b1), .map (some b2)].toArray w (RetX w0 { q : List (Za × Bool) // q.Perm l2 } (fun _ => .tuple #[]) (fun q => ⟨b1, .obj (mEx (cpy l1 q.1)), 178⟩ :: L1)) := by
 refine Z1 Tryz.func149 rfl Tryz.ntmps149 rfl hw ?_
 repeat (refine wkM ?_; try intro _)
 rename_i r
 refine Zq (S := List Nat) (fun s => SeenOk l2.length s) (fun _ => [(0, .map (some b1)), (7, .pointer (some ⟨r, 0, none⟩))]) (fun s => ⟨r, .obj (itO b2 l2.length s), 178⟩ :: ⟨b1, .obj (mEx (cpy l1 (seenL l2 s))), 178⟩ :: L1) (fun s => l2.length - s.length) [] ⟨List.nodup_nil, fun i hi => by cases hi⟩ sbB slB (fun s hs => ?_)
 have hlen := ZaJ hs.nd hs.lt
 refine cX ?_
 refine cX ?_
 refine sNx rfl rfl rfl (fun hall => ?h0) (fun i hi hni => ?h1)
 case h0 =>
  repeat (refine wkM ?_; try intro _)
  exact Zam rfl (fun w hw => ⟨⟨seenL l2 s, Zb6 hs.nd hs.lt hall⟩, rfl, hw.sub (.cons _ (.refl _))⟩)
 case h1 =>
  have hs' := hs.snoc hi hni
  have hlen' := ZaJ hs'.nd hs'.lt
  rw [List.length_append, List.length_singleton] at hlen'
  repeat (refine wkM ?_; try intro _)
  refine Zj (s ++ [i]) hs' sbB ?_ (by simp only [List.length_append, List.length_singleton]; omega)
  rw [ZbK _ _ _ hi, Zjd, Zi hi]
  exact List.sublist_cons_self _ _
instance Zye (w0 : World) (L L1 : List Blk) (b1 b2 : Nat) (l1 l2 : List (Zb × Bool)) [hd : DelO b1 L (mRp l1) 177 L1] [h2 : AtO w0 L1 b2 (mRp l2)] : SpecX Tryz.prog w0 L 148 [.map (some b1), .map (some b2)] { q : List (Zb × Bool) // q.Perm l2 } (fun _ => .tuple #[]) (fun q => ⟨b1, .obj (mRp (cpy l1 q.1)), 177⟩ :: L1) True := ⟨fun _ w hw => Zkn w0 w L1 b1 b2 l1 l2 (hw.perm hd.out)⟩
instance ZxH (w0 : World) (L L1 : List Blk) (b1 b2 : Nat) (l1 l2 : List (Za × Bool)) [hd : DelO b1 L (mEx l1) 178 L1] [h2 : AtO w0 L1 b2 (mEx l2)] : SpecX Tryz.prog w0 L 149 [.map (some b1), .map (some b2)] { q : List (Za × Bool) // q.Perm l2 } (fun _ => .tuple #[]) (fun q => ⟨b1, .obj (mEx (cpy l1 q.1)), 178⟩ :: L1) True := ⟨fun _ w hw => Zj9 w0 w L1 b1 b2 l1 l2 (hw.perm hd.out)⟩
end Go.Vt
/- Reports are added to an intake. Conditions: those that each statement names. -/
namespace Go.Vt
open Go.RowKit Go.Proofs
theorem Zew {κ α : Type} [DecidableEq κ] : ∀ (l : List (κ × α)) (x : κ) (v : α), (mput l x v).length ≤ l.length + 1
 | [], _, _ => by simp [mput]
 | p :: l, x, v => by
  have := Zew l x v
  simp only [mput]
  split <;> simp <;> omega
end Go.Vt
/- Loops over iterators under the program logic: codes in a round cut in two, appends onto slices that own their rows, boxes. Conditions: those that each rule names. -/
set_option linter.unusedSectionVars false
namespace Go.Vt
open Go.RowKit
section
variable {P : Program} {w0 : World} {n : Nat} {ops : Array Oper} {L : List Blk} {E : Env} {Q : Exit → Act → World → Prop} {rest : List Oper} {r : Option Nat} {N : Nat}
variable {ty : TypeId} {pos : String} {aft : Array Edge} {gd : Option (Nat × Bool)} {t : Tmp} {x y : Operand}
theorem Zdk {o : Oper} {v : Value} {a : Act} {ds : List Deferred} {w : World} (hy : Yl P w0 n L E o v) (ha : Rep n E a) (hw : Own w0 L w) (hg : guardB ops E o.guard = some true) (hn : noDef o = true)
  (h : ∀ w', Ext w w' → wpListIn (Fr r) N P ops Q rest { a.put o.dst v with defers := ds } w') : wpListIn (Fr r) N P ops Q (o :: rest) { a with defers := ds } w := by
 refine wpListIn_step fun K hK => ?_
 rw [if_pos (ZaG (a := a) ha hg)]
 refine ZmT hn (Zcw (a := { a with defers := ds }) (hy.out a w ha hw) fun w' hx => hK _ _ ?_)
 have e : ({ a with defers := ds } : Act).put o.dst v = { a.put o.dst v with defers := ds } := by
  cases o.dst <;> rfl
 rw [e]
 exact h w' hx
theorem Zp4 {Q' : Exit → Act → World → Prop} {o : Oper} {a : Act} {K : Act → World → Prop} {res : Result Next} (hQQ : ∀ e a w, e ≠ .normal → Q' e a w → Q e a w) (h : o.upon P a K Q' res) : o.uponIn (Fr r) N P a K Q res := by
 cases res with
 | ok x w' =>
  cases x <;> simp only [Oper.upon] at h <;> simp only [Oper.uponIn]
  case value => exact h
  case skip => exact h
  case defer => exact h
  case enter =>
   refine ⟨(fun hd => by cases hd), callsI (h.mono fun e w'' he => ?_)⟩
   cases e with
   | returned v => exact he
   | panicked ch => exact hQQ _ _ _ (fun h => by cases h) he
   | outgrown => obtain ⟨a0, w0, h0⟩ := he; exact ⟨a0, w0, hQQ _ _ _ (fun h => by cases h) h0⟩
  case row => exact ⟨(fun hd => by cases hd), fun c cs _ => let ⟨v, w', r, s⟩ := h c cs; ⟨v, w', r, stepsIn_wide.2 s⟩⟩
 | halt x w' =>
  cases x <;> simp only [Oper.upon] at h <;> simp only [Oper.uponIn]
  all_goals first | exact h | exact hQQ _ _ _ (fun h => by cases h) h
def MidL (r : Option Nat) (N : Nat) (P : Program) (ops : Array Oper) (Q : Exit → Act → World → Prop) (l2 : List Oper) : Exit → Act → World → Prop := fun e a w => e = .normal ∧ wpListIn (Fr r) N P ops Q l2 a w
theorem Za7 {l2 : List Oper} : ∀ (l1 : List Oper) (a : Act) (w : World), l1.all noDef = true → wpList P ops (MidL r N P ops Q l2) l1 a w → wpListIn (Fr r) N P ops Q (l1 ++ l2) a w
 | [], _, _, _, h => h.2
 | o :: l, a, w, hd, h => by
  simp only [List.all_cons, Bool.and_eq_true] at hd
  simp only [wpList] at h
  simp only [List.cons_append, wpListIn]
  split at h
  ·rename_i hw
   rw [if_pos hw]
   rcases h with h | ⟨_, a0, w0, h, _⟩
   ·refine ⟨fun f _ => trivial, ?_⟩
    rw [Oper.semAt_eq _ _ _ (Zdu hd.1)]
    have h2 : o.wpIn (Fr r) N P a w (wpListIn (Fr r) N P ops Q (l ++ l2)) Q := Oper.wpIn_mono (fun a w h => Za7 l a w hd.2 h) ⟨fun f _ => trivial, by
     rw [Oper.semAt_eq _ _ _ (Zdu hd.1)]
     exact Zp4 (fun e a w he hq => absurd hq.1 he) h⟩
    have h3 := h2.2
    rw [Oper.semAt_eq _ _ _ (Zdu hd.1)] at h3
    exact h3
   ·cases h
  ·rename_i hw
   rw [if_neg hw]
   exact ⟨fun f _ => trivial, Za7 l _ _ hd.2 h⟩
theorem Zdj {l2 : List Oper} (h : ∀ a w, Rep n E a → Own w0 L w → wpListIn (Fr r) N P ops Q l2 a w) : JX w0 n .normal (MidL r N P ops Q l2) E L := ⟨fun a w ha hw => ⟨rfl, h a w ha hw⟩⟩
theorem Zfc {S T : TypeId} {a : Act} {w : World} {v : Value} {b2 m c2 k size bytes base : Nat} {xs news : List Value} {z : Value} {zc : Array Value} [hT : UndC P S (.slice T)] [hz : ZeroC P T z zc] [hk : SizeC P T size] [hB : BytesC P T bytes] (ha : Rep n E a) (hx : Env.ev E x = some v) (hy : Env.ev E y = some (.slice (some ⟨b2, 0, none⟩) m c2))
  (h6 : zc.size = size) (h7 : 0 < size) (hown : w.ownsRow base T size v k xs) (hn : news.length = m * size) (hc : ∀ j u, news[j]? = some u → w.cell? ((⟨b2, 0, none⟩ : Addr).add j) = some u) (h1 : ∀ u ∈ news, u.oneCell' = true) (hm : k + m ≤ maxLen) (hb : (k + m) * bytes ≤ 140737488355328) (hbs : base ≤ w.heap.size)
  (h : ∀ v' w', w'.ownsRow base T size v' (k + m) (xs ++ news) → w.grownBy w' v.ownBlock → wpListIn (Fr r) N P ops Q rest (a.put (some t) v') w') : wpListIn (Fr r) N P ops Q (⟨some t, .call ⟨.builtin .append, #[x, y], #[S, S]⟩, ty, pos, aft, none⟩ :: rest) a w := by
 obtain ⟨i, hi, h4⟩ := ZbD hk.out
 obtain ⟨i', hi', h5⟩ := ZbD hB.out
 obtain rfl : i' = i := Option.some.inj (hi'.symm.trans hi)
 have hz' : i'.zero = some z := by simpa [hi] using hz.out
 obtain ⟨v', w', hr, h8, h9, _⟩ := run_append_own (P := P) w base S ty T i' z size bytes hT.out hi hz' h4 h5 (by rw [hz.cells]; exact h6) h7 v k xs hown ⟨b2, 0, none⟩ m c2 news hn hc h1 hm hb hbs
 refine wpListIn_step fun K hK => ?_
 rw [if_pos (show Region.wanted _ _ = true from rfl)]
 refine ⟨fun f _ => trivial, ?_⟩
 rw [Oper.semAt_eq _ _ _ (fun c e => by cases e), Za9 ha hx hy hr]
 exact hK _ _ (h v' w' h8 h9)
theorem Zd0 {T T0 : TypeId} {a : Act} {w : World} {b : Nat} {u u0 : Value} (ha : Rep n E a) (hx : Env.ev E x = some (.pointer (some ⟨b, 0, none⟩))) (hy : Env.ev E y = some u) (hb : w.heap[b]? = some (.cells #[u0] T0 (0, 0))) (hk : (P.info? T).map (·.size) = some 1) (hu : u.cells = #[u]) (h1 : u.oneCell' = true)
  (h : wpListIn (Fr r) N P ops Q rest (a.put none undef) (w.setCell ⟨b, 0, none⟩ u)) : wpListIn (Fr r) N P ops Q (⟨none, .store T x y, ty, pos, aft, none⟩ :: rest) a w := by
 refine wpListIn_step fun K hK => ?_
 rw [if_pos (show Region.wanted _ _ = true from rfl)]
 refine ⟨fun f _ => trivial, ?_⟩
 have hc : w.cell? ⟨b, 0, none⟩ = some u0 := by rw [Zas hb]; rfl
 have hf : w.frozen? ⟨b, 0, none⟩ = false := frozen_of_row _ _ _ _ _ hb
 have hr : (execOp a.eval ⟨none, .store T x y, ty, pos, aft, none⟩).run P w = .ok .skip (w.setCell ⟨b, 0, none⟩ u) := by
  simp [execOp, ha.ev hx, ha.ev hy, Instr.storeAt, Instr.sureAddr, storeVar, ZaE hk, hu, storeCells, Sem.run_bind, ZaA, run_store P w _ u _ h1, hc, hf, Result.andThen]
 rw [Oper.semAt_eq _ _ _ (fun c e => by cases e), hr]
 exact hK _ _ h
end
theorem ZiF {α : Type} {enc : α → Array Value} {k base : Nat} {T : TypeId} {W : World} {v : Value} {xs : List α} (hnil : xs = [] → v = .slice none 0 0) (h : W.ownsRow base T k v xs.length (rowL enc xs)) :
  ∃ s : SlS enc k xs, v = vSl s ∧ ((mS T s).map (·.b)).Nodup ∧ ∀ e ∈ mS T s, base ≤ e.b ∧ W.heap[e.b]? = some e.obj := by
 obtain ⟨hl, h⟩ := h
 rcases h with ⟨rfl, h0⟩ | ⟨g, cap, cur, rfl, hb, hg, hn, hm, hs, ht⟩
 ·have : xs = [] := List.length_eq_zero_iff.1 h0
  subst this
  exact ⟨SlS.no, rfl, List.nodup_nil, fun e he => (by cases he)⟩
 ·by_cases h0 : xs = []
  ·subst h0
   cases hnil rfl
  ·refine ⟨SlS.at_ g cap (cur.toList.drop (xs.length * k)) ⟨hn, by rw [List.length_drop, Array.length_toList, hs, Nat.sub_mul]⟩ h0, rfl, by simp [mS, mO, SlS.at_], fun e he => ?_⟩
   have e1 : e = ⟨g, row enc xs (cur.toList.drop (xs.length * k)), T⟩ := by
    simpa [mS, mO, SlS.at_] using he
   subst e1
   refine ⟨hb, ?_⟩
   rw [hg]
   have : cur = row enc xs (cur.toList.drop (xs.length * k)) := by
    unfold row
    apply Array.ext'
    rw [List.toList_toArray, ← ht, List.take_append_drop]
   rw [← this]
theorem ZcG {W W' : World} {B : Nat} {t : TypeId} {v : Value} (h : Boxed W B t v) (hx : Ext W W') : Boxed W' B t v := (hx.block B (Zm h)).trans h
end Go.Vt
