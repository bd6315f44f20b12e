/- The fractions of the program: rational numbers in canonical form. Conditions: the lengths that each statement names. -/
import Derived.Test.YtgcjapcminakdaaDoorGcd
set_option linter.unusedSimpArgs false
set_option linter.unusedVariables false
set_option maxRecDepth 100000
namespace Go.Vt
open Go.RowKit Go.Proofs

/-- The denominator as it is kept, the fraction, its length. -/
def dn (q : Rat) : Int := if q.den = 1 then 0 else q.den
def Q (q : Rat) : api_Rat := ⟨I q.num, I (dn q)⟩
abbrev vQ (q : Rat) : Value := .agg (e_api_Rat (Q q))
def M (q : Rat) : Nat := max (mg q.num) (mg q.den)
abbrev LQ : Nat := 274877906944

theorem I_inj {a b : Int} : I a = I b ↔ a = b := by
  refine ⟨fun h => ?_, fun h => by rw [h]⟩
  have h1 := congrArg api_Int.Neg h
  have h2 := congrArg api_Int.Mag h
  simp only [I] at h1 h2
  have h3 := mag_inj.1 h2
  by_cases ha : a < 0 <;> by_cases hb : b < 0 <;> simp [ha, hb] at h1 <;> omega
theorem dn_inj {p q : Rat} : dn p = dn q ↔ p.den = q.den := by
  have h1 := p.den_pos
  have h2 := q.den_pos
  unfold dn
  split <;> split <;> omega
theorem Q_inj {p q : Rat} : Q p = Q q ↔ p = q := by
  refine ⟨fun h => ?_, fun h => by rw [h]⟩
  have h1 := I_inj.1 (congrArg api_Rat.Num h)
  have h2 := dn_inj.1 (I_inj.1 (congrArg api_Rat.Den h))
  exact Rat.ext h1 h2
theorem z_I : z_api_Int = I 0 := by decide
theorem z_Q : z_api_Rat = Q 0 := by decide

instance (priority := high) zeroI : ZeroC Tryd.prog 26 (vI 0) (e_api_Int (I 0)) := ⟨by have h := @ZeroC.out Tryd.prog 26 (.agg (e_api_Int z_api_Int)) (e_api_Int z_api_Int) inferInstance; rw [z_I] at h; exact h, rfl⟩
instance (priority := high) zeroQ : ZeroC Tryd.prog 28 (vQ 0) (e_api_Rat (Q 0)) := ⟨by have h := @ZeroC.out Tryd.prog 28 (.agg (e_api_Rat z_api_Rat)) (e_api_Rat z_api_Rat) inferInstance; rw [z_Q] at h; exact h, rfl⟩
instance (priority := high) bdI0 : BdC Tryd.prog 26 [] (vI 0) := ⟨by have h := @BdC.out Tryd.prog 26 [] (.agg (e_api_Int z_api_Int)) inferInstance; rw [z_I] at h; exact h⟩
instance (priority := high) bdQ0 : BdC Tryd.prog 28 [] (vQ 0) := ⟨by have h := @BdC.out Tryd.prog 28 [] (.agg (e_api_Rat z_api_Rat)) inferInstance; rw [z_Q] at h; exact h⟩
instance (priority := high) ldQ_num (q : Rat) : LdC Tryd.prog 26 (e_api_Rat (Q q)) 0 (vI q.num) := ⟨ldv_agg 2 (by kernel_rfl) (by kernel_rfl) (by kernel_rfl)⟩
instance (priority := high) ldQ_den (q : Rat) : LdC Tryd.prog 26 (e_api_Rat (Q q)) 2 (vI (dn q)) := ⟨ldv_agg 2 (by kernel_rfl) (by kernel_rfl) (by kernel_rfl)⟩
instance (priority := high) eqI (a b : Int) : BinC Tryd.prog .eql 26 (vI a) (vI b) (.bool (decide (a = b))) := by
  have h : decide (I a = I b) = decide (a = b) := by rw [decide_eq_decide]; exact I_inj
  exact h ▸ (inferInstance : BinC Tryd.prog .eql 26 (vI a) (vI b) (.bool (decide (I a = I b))))
instance (priority := high) eqQ (a b : Rat) : BinC Tryd.prog .eql 28 (vQ a) (vQ b) (.bool (decide (a = b))) := by
  have h : decide (Q a = Q b) = decide (a = b) := by rw [decide_eq_decide]; exact Q_inj
  exact h ▸ (inferInstance : BinC Tryd.prog .eql 28 (vQ a) (vQ b) (.bool (decide (Q a = Q b))))

/-! ### Lengths -/
theorem M_num (q : Rat) : mg q.num ≤ M q := Nat.le_max_left _ _
theorem M_den (q : Rat) : mg q.den ≤ M q := Nat.le_max_right _ _
theorem mg_ofNat (n : Nat) : mg (n : Int) = (mag n).size := by unfold mg; rw [Int.natAbs_natCast]
theorem mg_one : mg 1 = 1 := by decide
theorem natAbs_ediv (a : Int) (g : Nat) (h : (g : Int) ∣ a) : (a / (g : Int)).natAbs ≤ a.natAbs := by
  obtain ⟨k, rfl⟩ := h
  rcases Nat.eq_zero_or_pos g with h | h
  · subst h; simp
  · rw [Int.mul_ediv_cancel_left _ (by omega), Int.natAbs_mul, Int.natAbs_natCast]
    exact Nat.le_mul_of_pos_left _ h
theorem M_divInt {a b : Int} {k : Nat} (ha : mg a ≤ k) (hb : mg b ≤ k) (h1 : 1 ≤ k) : M (Rat.divInt a b) ≤ k := by
  refine Nat.max_le.2 ⟨?_, ?_⟩
  · refine Nat.le_trans (mg_mono ?_) ha
    rw [Rat.num_divInt]
    refine Nat.le_trans (natAbs_ediv _ _ ?_) ?_
    · exact Int.dvd_trans (Int.gcd_dvd_right ..) (Int.dvd_mul_left _ _)
    · rw [Int.natAbs_mul]
      have : b.sign.natAbs ≤ 1 := by rw [Int.natAbs_sign]; split <;> omega
      calc b.sign.natAbs * a.natAbs ≤ 1 * a.natAbs := Nat.mul_le_mul_right _ this
        _ = a.natAbs := Nat.one_mul _
  · rw [Rat.den_divInt, mg_ofNat]
    split
    · exact Nat.le_trans (by decide) h1
    · exact Nat.le_trans (size_mono (Nat.div_le_self _ _)) hb
theorem den_ne (q : Rat) : (q.den : Int) ≠ 0 := by have := q.den_pos; omega
theorem add_divInt (a b : Rat) : a + b = Rat.divInt (a.num * b.den + b.num * a.den) (a.den * b.den) := by
  rw [Rat.add_def', ← Rat.divInt_ofNat, Int.natCast_mul]
theorem mul_divInt (a b : Rat) : a * b = Rat.divInt (a.num * b.num) (a.den * b.den) := by
  rw [Rat.mul_def', ← Rat.divInt_ofNat, Int.natCast_mul]
theorem div_divInt (a b : Rat) : a / b = Rat.divInt (a.num * b.den) (a.den * b.num) := by
  conv => lhs; rw [Rat.div_def, ← Rat.num_divInt_den a, ← Rat.num_divInt_den b, Rat.inv_divInt, Rat.divInt_mul_divInt]
theorem mg_pos {q : Rat} : 1 ≤ M q := by
  refine Nat.le_trans ?_ (M_den q)
  rw [mg_ofNat]
  rcases Nat.eq_zero_or_pos (mag q.den).size with h | h
  · have h1 := (mag_size (n := q.den) (k := 0)).1 (by omega)
    have := q.den_pos
    simp at h1
    omega
  · exact h
theorem M_add (a b : Rat) : M (a + b) ≤ M a + M b + 1 := by
  rw [add_divInt]
  have h1 := M_num a
  have h2 := M_den a
  have h3 := M_num b
  have h4 := M_den b
  refine M_divInt (mg_add (k := M a + M b) ?_ ?_) ?_ (by omega)
  · exact Nat.le_trans (mg_mul _ _) (by omega)
  · exact Nat.le_trans (mg_mul _ _) (by omega)
  · exact Nat.le_trans (mg_mul _ _) (by omega)
theorem M_mul (a b : Rat) : M (a * b) ≤ M a + M b := by
  rw [mul_divInt]
  have h1 := M_num a
  have h2 := M_den a
  have h3 := M_num b
  have h4 := M_den b
  have h5 := @mg_pos a
  exact M_divInt (Nat.le_trans (mg_mul _ _) (by omega)) (Nat.le_trans (mg_mul _ _) (by omega)) (by omega)
theorem M_div (a b : Rat) : M (a / b) ≤ M a + M b := by
  rw [div_divInt]
  have h1 := M_num a
  have h2 := M_den a
  have h3 := M_num b
  have h4 := M_den b
  have h5 := @mg_pos a
  exact M_divInt (Nat.le_trans (mg_mul _ _) (by omega)) (Nat.le_trans (mg_mul _ _) (by omega)) (by omega)
theorem M_neg (a : Rat) : M (-a) = M a := by unfold M; rw [Rat.neg_num, Rat.neg_den, mg_neg]
theorem M_sub (a b : Rat) : M (a - b) ≤ M a + M b + 1 := by rw [Rat.sub_eq_add_neg, ← M_neg b]; exact M_add _ _
/-- A bound of a fraction's length, found by its form. -/
class MB (q : Rat) (k : outParam Nat) : Prop where out : M q ≤ k
instance mb_add (a b : Rat) (j k : Nat) [h1 : MB a j] [h2 : MB b k] : MB (a + b) (j + k + 1) := ⟨by have := M_add a b; have := h1.out; have := h2.out; omega⟩
instance mb_sub (a b : Rat) (j k : Nat) [h1 : MB a j] [h2 : MB b k] : MB (a - b) (j + k + 1) := ⟨by have := M_sub a b; have := h1.out; have := h2.out; omega⟩
instance mb_mul (a b : Rat) (j k : Nat) [h1 : MB a j] [h2 : MB b k] : MB (a * b) (j + k) := ⟨by have := M_mul a b; have := h1.out; have := h2.out; omega⟩
instance mb_div (a b : Rat) (j k : Nat) [h1 : MB a j] [h2 : MB b k] : MB (a / b) (j + k) := ⟨by have := M_div a b; have := h1.out; have := h2.out; omega⟩
instance mb_neg (a : Rat) (j : Nat) [h1 : MB a j] : MB (-a) j := ⟨by rw [M_neg]; exact h1.out⟩
instance mb_max (a b : Rat) (j k : Nat) [h1 : MB a j] [h2 : MB b k] : MB (max a b) (j + k) := ⟨by rw [Rat.max_def]; have := h1.out; have := h2.out; split <;> omega⟩
instance mb_min (a b : Rat) (j k : Nat) [h1 : MB a j] [h2 : MB b k] : MB (min a b) (j + k) := ⟨by rw [Rat.min_def]; have := h1.out; have := h2.out; split <;> omega⟩
instance mb_zero : MB 0 1 := ⟨by decide⟩
instance mb_one : MB 1 1 := ⟨by decide⟩
theorem M_int (n : Int) : M (n : Rat) = max (mg n) 1 := by unfold M; rw [Rat.num_intCast, Rat.den_intCast]; rfl
theorem M_int8 {n : Int} (h : -9223372036854775808 ≤ n ∧ n ≤ 9223372036854775807) : M (n : Rat) ≤ 8 := by
  rw [M_int]
  refine Nat.max_le.2 ⟨mg_small ?_, by decide⟩
  have : (256 : Nat) ^ 8 = 18446744073709551616 := by decide
  omega
theorem MB.le {q : Rat} {k : Nat} [h : MB q k] (hk : Nat.ble k LQ = true) : M q ≤ LQ := Nat.le_trans h.out (Nat.le_of_ble_eq_true hk)

/-! ### The functions -/
instance sp_one : SpecC Tryd.prog 57 [] (vI 1) True := ⟨fun _ w => by
  refine fn_intro Tryd.func57 rfl Tryd.ntmps57 rfl ?_
  repeat (first | refine sX rfl rfl ?_ | (refine sS rfl rfl ?_ ?_; focus omega) | (refine sC rfl rfl ?_ ?_; focus (first | exact trivial | omega)) | refine cX ?_ | refine cY ?_ | (refine sA rfl rfl ?_; intro _) | refine sT rfl ?_ | refine sW rfl rfl ?_ | refine sK rfl rfl ?_ | refine j_if rfl ?_ | refine j_else rfl ?_ | refine Go.Vt.jq (wl_pickT rfl rfl) rfl rfl ?_ | refine Go.Vt.jq (wl_pickF rfl rfl) rfl rfl ?_)
  exact wx_cell rfl rfl (fun w hw => ret_ok hw)⟩
theorem dn_zero {q : Rat} : dn q = 0 ↔ q.den = 1 := by
  have := q.den_pos
  unfold dn
  split <;> omega
instance sp_Den (q : Rat) : SpecC Tryd.prog 46 [vQ q] (vI q.den) True := ⟨fun _ w => by
  refine fn_intro Tryd.func46 rfl Tryd.ntmps46 rfl ?_
  repeat (first | refine sX rfl rfl ?_ | (refine sS rfl rfl ?_ ?_; focus omega) | (refine sC rfl rfl ?_ ?_; focus (first | exact trivial | assumption | exact ⟨by assumption, by assumption⟩ | exact mb2 rfl rfl | exact mb4 rfl rfl rfl rfl)) | refine cX ?_ | refine cY ?_ | (refine sA rfl rfl ?_; intro _) | refine sT rfl ?_ | refine sW rfl rfl ?_ | refine sK rfl rfl ?_ | refine j_if rfl ?_ | refine j_else rfl ?_ | refine Go.Vt.jq (wl_pickT rfl rfl) rfl rfl ?_ | refine Go.Vt.jq (wl_pickF rfl rfl) rfl rfl ?_)
  refine j_cond rfl (fun h => ?_) (fun h => ?_)
  · have h1 := dn_zero.1 (of_decide_eq_true h)
    rw [h1]
    repeat (first | refine sX rfl rfl ?_ | (refine sS rfl rfl ?_ ?_; focus omega) | (refine sC rfl rfl ?_ ?_; focus (first | exact trivial | assumption | exact ⟨by assumption, by assumption⟩ | exact mb2 rfl rfl | exact mb4 rfl rfl rfl rfl)) | refine cX ?_ | refine cY ?_ | (refine sA rfl rfl ?_; intro _) | refine sT rfl ?_ | refine sW rfl rfl ?_ | refine sK rfl rfl ?_ | refine j_if rfl ?_ | refine j_else rfl ?_ | refine Go.Vt.jq (wl_pickT rfl rfl) rfl rfl ?_ | refine Go.Vt.jq (wl_pickF rfl rfl) rfl rfl ?_)
    exact wx_cell rfl rfl (fun w hw => ret_ok hw)
  · have h1 : ¬ q.den = 1 := fun h0 => of_decide_eq_false h (dn_zero.2 h0)
    have h2 : dn q = q.den := by unfold dn; rw [if_neg h1]
    repeat (first | refine sX rfl rfl ?_ | (refine sS rfl rfl ?_ ?_; focus omega) | (refine sC rfl rfl ?_ ?_; focus (first | exact trivial | assumption | exact ⟨by assumption, by assumption⟩ | exact mb2 rfl rfl | exact mb4 rfl rfl rfl rfl)) | refine cX ?_ | refine cY ?_ | (refine sA rfl rfl ?_; intro _) | refine sT rfl ?_ | refine sW rfl rfl ?_ | refine sK rfl rfl ?_ | refine j_if rfl ?_ | refine j_else rfl ?_ | refine Go.Vt.jq (wl_pickT rfl rfl) rfl rfl ?_ | refine Go.Vt.jq (wl_pickF rfl rfl) rfl rfl ?_)
    exact wx_cell rfl rfl (fun w hw => by rw [← h2]; exact ret_ok hw)⟩
instance sp_quotient (a b : Int) : SpecC Tryd.prog 56 [vI a, vI b] (vI (a / b)) (b ≠ 0 ∧ mg a ≤ LIM ∧ mg b ≤ LIM) := ⟨fun hp w => by
  refine fn_intro Tryd.func56 rfl Tryd.ntmps56 rfl ?_
  repeat (first | refine sX rfl rfl ?_ | (refine sS rfl rfl ?_ ?_; focus omega) | (refine sC rfl rfl ?_ ?_; focus (first | exact trivial | assumption | exact ⟨by assumption, by assumption⟩ | exact mb2 rfl rfl | exact mb4 rfl rfl rfl rfl)) | refine cX ?_ | refine cY ?_ | (refine sA rfl rfl ?_; intro _) | refine sT rfl ?_ | refine sW rfl rfl ?_ | refine sK rfl rfl ?_ | refine j_if rfl ?_ | refine j_else rfl ?_ | refine Go.Vt.jq (wl_pickT rfl rfl) rfl rfl ?_ | refine Go.Vt.jq (wl_pickF rfl rfl) rfl rfl ?_)
  exact wx_cell rfl rfl (fun w hw => ret_ok hw)⟩
theorem canon_pos {x y : Int} (hy : 0 < y) : (Rat.divInt x y).num = x / (Int.gcd x y : Int) ∧ ((Rat.divInt x y).den : Int) = y / (Int.gcd x y : Int) := by
  refine ⟨?_, ?_⟩
  · rw [Rat.num_divInt, Int.sign_eq_one_of_pos hy, Int.one_mul, Int.gcd_comm]
  · rw [Rat.den_divInt, if_neg (by omega), Int.gcd_comm, Int.natCast_ediv]
    congr 1
    omega
instance sp_canonical (x y : Int) : SpecC Tryd.prog 39 [vI x, vI y] (vQ (Rat.divInt x y)) (y ≠ 0 ∧ mg x ≤ LIM ∧ mg y ≤ LIM) := ⟨fun hp w => by
  obtain ⟨hy, hx, hl⟩ := hp
  refine fn_intro Tryd.func39 rfl Tryd.ntmps39 rfl ?_
  repeat (first | refine sX rfl rfl ?_ | (refine sS rfl rfl ?_ ?_; focus omega) | (refine sC rfl rfl ?_ ?_; focus (first | exact trivial | assumption | exact ⟨by assumption, by assumption⟩ | exact mb2 rfl rfl | exact mb4 rfl rfl rfl rfl)) | refine cX ?_ | refine cY ?_ | (refine sA rfl rfl ?_; intro _) | refine sT rfl ?_ | refine sW rfl rfl ?_ | refine sK rfl rfl ?_ | refine j_if rfl ?_ | refine j_else rfl ?_ | refine Go.Vt.jq (wl_pickT rfl rfl) rfl rfl ?_ | refine Go.Vt.jq (wl_pickF rfl rfl) rfl rfl ?_)
  rename_i ba bb bc
  refine j_cut (S := Int × Int) (fun s => 0 < s.2 ∧ Rat.divInt s.1 s.2 = Rat.divInt x y ∧ mg s.1 ≤ LIM ∧ mg s.2 ≤ LIM) (fun _ => [(2, .pointer (some ⟨ba, 0, none⟩)), (3, .pointer (some ⟨bb, 0, none⟩)), (4, .pointer (some ⟨bc, 0, none⟩))]) (fun s => [⟨bc, e_api_Rat (Q 0), 28⟩, ⟨bb, e_api_Int (I s.2), 26⟩, ⟨ba, e_api_Int (I s.1), 26⟩]) ?_ (fun s hs => ?_)
  · refine j_cond rfl (fun h => ?_) (fun h => ?_)
    · have hneg : y < 0 := Int.sign_neg_iff.1 (of_decide_eq_true h)
      repeat (first | refine sX rfl rfl ?_ | (refine sS rfl rfl ?_ ?_; focus omega) | (refine sC rfl rfl ?_ ?_; focus (first | exact trivial | assumption | exact ⟨by assumption, by assumption⟩ | exact mb2 rfl rfl | exact mb4 rfl rfl rfl rfl)) | refine cX ?_ | refine cY ?_ | (refine sA rfl rfl ?_; intro _) | refine sT rfl ?_ | refine sW rfl rfl ?_ | refine sK rfl rfl ?_ | refine j_if rfl ?_ | refine j_else rfl ?_ | refine Go.Vt.jq (wl_pickT rfl rfl) rfl rfl ?_ | refine Go.Vt.jq (wl_pickF rfl rfl) rfl rfl ?_)
      (refine jD 4 4 mixed (by kernel_rfl) ?_; (repeat (first | refine tX rfl rfl ?_ | (refine tS rfl rfl ?_ ?_; focus omega) | (refine tC rfl rfl ?_ ?_; focus (first | exact trivial | assumption | exact ⟨by assumption, by assumption⟩ | exact mb2 rfl rfl | exact mb4 rfl rfl rfl rfl)) | refine tW rfl rfl ?_ | refine tK rfl rfl ?_ | refine Go.Vt.hq (wl_pickT rfl rfl) rfl rfl ?_ | refine Go.Vt.hq (wl_pickF rfl rfl) rfl rfl ?_)); refine jh_nil ?_; (repeat (refine wn_new ?_; intro _)); refine jn_nil ?_)
      repeat (first | refine sX rfl rfl ?_ | (refine sS rfl rfl ?_ ?_; focus omega) | (refine sC rfl rfl ?_ ?_; focus (first | exact trivial | assumption | exact ⟨by assumption, by assumption⟩ | exact mb2 rfl rfl | exact mb4 rfl rfl rfl rfl)) | refine cX ?_ | refine cY ?_ | (refine sA rfl rfl ?_; intro _) | refine sT rfl ?_ | refine sW rfl rfl ?_ | refine sK rfl rfl ?_ | refine j_if rfl ?_ | refine j_else rfl ?_ | refine Go.Vt.jq (wl_pickT rfl rfl) rfl rfl ?_ | refine Go.Vt.jq (wl_pickF rfl rfl) rfl rfl ?_)
      exact jx_mid (-x, -y) ⟨by simp only; omega, Rat.neg_divInt_neg _ _, by simp only [mg_neg]; exact hx, by simp only [mg_neg]; exact hl⟩ (by repeat (first | exact sub_nil | refine sub_cons rfl ?_ | refine sub_cons' rfl (by congr 1; omega) ?_)) sbl
    · have hpos : 0 < y := by
        have h1 : ¬ y.sign < 0 := of_decide_eq_false h
        have h2 : ¬ y < 0 := fun h3 => h1 (Int.sign_neg_iff.2 h3)
        omega
      repeat (first | refine sX rfl rfl ?_ | (refine sS rfl rfl ?_ ?_; focus omega) | (refine sC rfl rfl ?_ ?_; focus (first | exact trivial | assumption | exact ⟨by assumption, by assumption⟩ | exact mb2 rfl rfl | exact mb4 rfl rfl rfl rfl)) | refine cX ?_ | refine cY ?_ | (refine sA rfl rfl ?_; intro _) | refine sT rfl ?_ | refine sW rfl rfl ?_ | refine sK rfl rfl ?_ | refine j_if rfl ?_ | refine j_else rfl ?_ | refine Go.Vt.jq (wl_pickT rfl rfl) rfl rfl ?_ | refine Go.Vt.jq (wl_pickF rfl rfl) rfl rfl ?_)
      exact jx_mid (x, y) ⟨hpos, rfl, hx, hl⟩ (by repeat (first | exact sub_nil | refine sub_cons rfl ?_ | refine sub_cons' rfl (by congr 1; omega) ?_)) sbl
  obtain ⟨p, q⟩ := s
  obtain ⟨hq0, heq, hp, hq⟩ := hs
  simp only at hq0 heq hp hq ⊢
  obtain ⟨e1, e2⟩ := canon_pos (x := p) hq0
  have hg0 : ((Int.gcd p q : Nat) : Int) ≠ 0 := by
    have := Int.gcd_pos_of_ne_zero_right p (Int.ne_of_gt hq0)
    omega
  have hg1 : mg (Int.gcd p q : Nat) ≤ LIM := by
    refine Nat.le_trans (mg_mono ?_) hq
    rw [Int.natAbs_natCast]
    exact Nat.le_of_dvd (by omega) (Int.gcd_dvd_natAbs_right p q)
  rw [← heq]
  generalize hgd : ((Int.gcd p q : Nat) : Int) = g at *
  repeat (first | refine sX rfl rfl ?_ | (refine sS rfl rfl ?_ ?_; focus omega) | (refine sC rfl rfl ?_ ?_; focus (first | exact trivial | assumption | exact ⟨hp, hq⟩)) | refine cX ?_ | refine cY ?_ | (refine sA rfl rfl ?_; intro _) | refine sT rfl ?_ | refine sW rfl rfl ?_ | refine sK rfl rfl ?_ | refine j_if rfl ?_ | refine j_else rfl ?_ | refine Go.Vt.jq (wl_pickT rfl rfl) rfl rfl ?_ | refine Go.Vt.jq (wl_pickF rfl rfl) rfl rfl ?_)
  rw [hgd]
  (refine jD 6 6 mixed (by kernel_rfl) ?_; (repeat (first | refine tX rfl rfl ?_ | (refine tS rfl rfl ?_ ?_; focus omega) | (refine tC rfl rfl ?_ ?_; focus (first | exact trivial | exact ⟨hg0, hp, hg1⟩ | exact ⟨hg0, hq, hg1⟩)) | refine tW rfl rfl ?_ | refine tK rfl rfl ?_ | refine Go.Vt.hq (wl_pickT rfl rfl) rfl rfl ?_ | refine Go.Vt.hq (wl_pickF rfl rfl) rfl rfl ?_)); refine jh_nil ?_; (repeat (refine wn_new ?_; intro _)); refine jn_nil ?_)
  rw [← e1, ← e2]
  repeat (first | refine sX rfl rfl ?_ | (refine sS rfl rfl ?_ ?_; focus omega) | (refine sC rfl rfl ?_ ?_; focus (first | exact trivial | assumption | exact ⟨by assumption, by assumption⟩ | exact mb2 rfl rfl | exact mb4 rfl rfl rfl rfl)) | refine cX ?_ | refine cY ?_ | (refine sA rfl rfl ?_; intro _) | refine sT rfl ?_ | refine sW rfl rfl ?_ | refine sK rfl rfl ?_ | refine j_if rfl ?_ | refine j_else rfl ?_ | refine Go.Vt.jq (wl_pickT rfl rfl) rfl rfl ?_ | refine Go.Vt.jq (wl_pickF rfl rfl) rfl rfl ?_)
  (refine jD 3 3 mixed (by kernel_rfl) ?_; (repeat (first | refine tX rfl rfl ?_ | (refine tS rfl rfl ?_ ?_; focus omega) | (refine tC rfl rfl ?_ ?_; focus (first | exact trivial | assumption | exact ⟨by assumption, by assumption⟩ | exact mb2 rfl rfl | exact mb4 rfl rfl rfl rfl)) | refine tW rfl rfl ?_ | refine tK rfl rfl ?_ | refine Go.Vt.hq (wl_pickT rfl rfl) rfl rfl ?_ | refine Go.Vt.hq (wl_pickF rfl rfl) rfl rfl ?_)); refine jh_nil ?_; (repeat (refine wn_new ?_; intro _)); refine jn_nil ?_)
  repeat (first | refine sX rfl rfl ?_ | (refine sS rfl rfl ?_ ?_; focus omega) | (refine sC rfl rfl ?_ ?_; focus (first | exact trivial | assumption | exact ⟨by assumption, by assumption⟩ | exact mb2 rfl rfl | exact mb4 rfl rfl rfl rfl)) | refine cX ?_ | refine cY ?_ | (refine sA rfl rfl ?_; intro _) | refine sT rfl ?_ | refine sW rfl rfl ?_ | refine sK rfl rfl ?_ | refine j_if rfl ?_ | refine j_else rfl ?_ | refine Go.Vt.jq (wl_pickT rfl rfl) rfl rfl ?_ | refine Go.Vt.jq (wl_pickF rfl rfl) rfl rfl ?_)
  have key : ∀ d : Int, (if (Rat.divInt p q).den = 1 then 0 else ((Rat.divInt p q).den : Int)) = d → (⟨I (Rat.divInt p q).num, I d⟩ : api_Rat) = Q (Rat.divInt p q) := fun d hd => by rw [← hd]; rfl
  refine j_cond rfl (fun h => ?_) (fun h => ?_)
  · have h1 : (Rat.divInt p q).den = 1 := by have := of_decide_eq_true h; omega
    repeat (first | refine sX rfl rfl ?_ | (refine sS rfl rfl ?_ ?_; focus omega) | (refine sC rfl rfl ?_ ?_; focus (first | exact trivial | assumption | exact ⟨by assumption, by assumption⟩ | exact mb2 rfl rfl | exact mb4 rfl rfl rfl rfl)) | refine cX ?_ | refine cY ?_ | (refine sA rfl rfl ?_; intro _) | refine sT rfl ?_ | refine sW rfl rfl ?_ | refine sK rfl rfl ?_ | refine j_if rfl ?_ | refine j_else rfl ?_ | refine Go.Vt.jq (wl_pickT rfl rfl) rfl rfl ?_ | refine Go.Vt.jq (wl_pickF rfl rfl) rfl rfl ?_)
    exact wx_cell rfl rfl (fun w hw => by rw [key 0 (by rw [if_pos h1])]; exact ret_ok hw)
  · have h1 : ¬ (Rat.divInt p q).den = 1 := fun h0 => of_decide_eq_false h (by omega)
    repeat (first | refine sX rfl rfl ?_ | (refine sS rfl rfl ?_ ?_; focus omega) | (refine sC rfl rfl ?_ ?_; focus (first | exact trivial | assumption | exact ⟨by assumption, by assumption⟩ | exact mb2 rfl rfl | exact mb4 rfl rfl rfl rfl)) | refine cX ?_ | refine cY ?_ | (refine sA rfl rfl ?_; intro _) | refine sT rfl ?_ | refine sW rfl rfl ?_ | refine sK rfl rfl ?_ | refine j_if rfl ?_ | refine j_else rfl ?_ | refine Go.Vt.jq (wl_pickT rfl rfl) rfl rfl ?_ | refine Go.Vt.jq (wl_pickF rfl rfl) rfl rfl ?_)
    exact wx_cell rfl rfl (fun w hw => by rw [key _ (by rw [if_neg h1])]; exact ret_ok hw)⟩
instance sp_Make (x y : Int) : SpecC Tryd.prog 48 [vI x, vI y] (.tuple #[vQ (Rat.divInt x y), .int .i64 (if y = 0 then 6 else 0)]) (mg x ≤ LIM ∧ mg y ≤ LIM) := ⟨fun hp w => by
  refine fn_intro Tryd.func48 rfl Tryd.ntmps48 rfl ?_
  repeat (first | refine sX rfl rfl ?_ | (refine sS rfl rfl ?_ ?_; focus omega) | (refine sC rfl rfl ?_ ?_; focus (first | exact trivial | assumption | exact ⟨by assumption, by assumption⟩ | exact mb2 rfl rfl | exact mb4 rfl rfl rfl rfl)) | refine cX ?_ | refine cY ?_ | (refine sA rfl rfl ?_; intro _) | refine sT rfl ?_ | refine sW rfl rfl ?_ | refine sK rfl rfl ?_ | refine j_if rfl ?_ | refine j_else rfl ?_ | refine Go.Vt.jq (wl_pickT rfl rfl) rfl rfl ?_ | refine Go.Vt.jq (wl_pickF rfl rfl) rfl rfl ?_)
  refine j_cond rfl (fun h => ?_) (fun h => ?_)
  · have h1 : y = 0 := Int.sign_eq_zero_iff_zero.1 (of_decide_eq_true h)
    subst h1
    rw [Rat.divInt_zero, if_pos rfl]
    repeat (first | refine sX rfl rfl ?_ | (refine sS rfl rfl ?_ ?_; focus omega) | (refine sC rfl rfl ?_ ?_; focus (first | exact trivial | assumption | exact ⟨by assumption, by assumption⟩ | exact mb2 rfl rfl | exact mb4 rfl rfl rfl rfl)) | refine cX ?_ | refine cY ?_ | (refine sA rfl rfl ?_; intro _) | refine sT rfl ?_ | refine sW rfl rfl ?_ | refine sK rfl rfl ?_ | refine j_if rfl ?_ | refine j_else rfl ?_ | refine Go.Vt.jq (wl_pickT rfl rfl) rfl rfl ?_ | refine Go.Vt.jq (wl_pickF rfl rfl) rfl rfl ?_)
    exact jx_ret_two rfl (wr_cell rfl) (resv_tmp rfl) (fun w hw => ret_ok hw)
  · have h1 : ¬ y = 0 := fun h0 => of_decide_eq_false h (by rw [h0]; rfl)
    rw [if_neg h1]
    repeat (first | refine sX rfl rfl ?_ | (refine sS rfl rfl ?_ ?_; focus omega) | (refine sC rfl rfl ?_ ?_; focus (first | exact trivial | exact ⟨h1, hp.1, hp.2⟩)) | refine cX ?_ | refine cY ?_ | (refine sA rfl rfl ?_; intro _) | refine sT rfl ?_ | refine sW rfl rfl ?_ | refine sK rfl rfl ?_ | refine j_if rfl ?_ | refine j_else rfl ?_ | refine Go.Vt.jq (wl_pickT rfl rfl) rfl rfl ?_ | refine Go.Vt.jq (wl_pickF rfl rfl) rfl rfl ?_)
    exact jx_ret_two rfl (wr_cell rfl) (resv_tmp rfl) (fun w hw => ret_ok hw)⟩
theorem mg_int8 {n : Int} (h : -9223372036854775808 ≤ n ∧ n ≤ 9223372036854775807) : mg n ≤ LIM := by
  refine Nat.le_trans (mg_small (k := 8) ?_) (by decide)
  have : (256 : Nat) ^ 8 = 18446744073709551616 := by decide
  omega
instance sp_RFromInts (x y : Int) : SpecC Tryd.prog 28 [.int .i64 x, .int .i64 y] (.tuple #[vQ (Rat.divInt x y), .int .i64 (if y = 0 then 6 else 0)]) ((-9223372036854775808 ≤ x ∧ x ≤ 9223372036854775807) ∧ (-9223372036854775808 ≤ y ∧ y ≤ 9223372036854775807)) := ⟨fun hp w => by
  refine fn_intro Tryd.func28 rfl Tryd.ntmps28 rfl ?_
  repeat (first | refine sX rfl rfl ?_ | (refine sS rfl rfl ?_ ?_; focus omega) | (refine sC rfl rfl ?_ ?_; focus (first | exact trivial | exact hp.1 | exact hp.2 | exact ⟨mg_int8 hp.1, mg_int8 hp.2⟩)) | refine cX ?_ | refine cY ?_ | (refine sA rfl rfl ?_; intro _) | refine sT rfl ?_ | refine sW rfl rfl ?_ | refine sK rfl rfl ?_ | refine j_if rfl ?_ | refine j_else rfl ?_ | refine Go.Vt.jq (wl_pickT rfl rfl) rfl rfl ?_ | refine Go.Vt.jq (wl_pickF rfl rfl) rfl rfl ?_)
  exact jx_ret_two rfl (wr_cell rfl) (resv_tmp rfl) (fun w hw => ret_ok hw)⟩
theorem Q_int (n : Int) : (⟨I n, I 0⟩ : api_Rat) = Q (n : Rat) := rfl
instance sp_RFromInt (n : Int) : SpecC Tryd.prog 11 [.int .i64 n] (vQ (n : Rat)) (-9223372036854775808 ≤ n ∧ n ≤ 9223372036854775807) := ⟨fun hp w => by
  refine fn_intro Tryd.func11 rfl Tryd.ntmps11 rfl ?_
  repeat (first | refine sX rfl rfl ?_ | (refine sS rfl rfl ?_ ?_; focus omega) | (refine sC rfl rfl ?_ ?_; focus (first | exact trivial | assumption | exact ⟨by assumption, by assumption⟩ | exact mb2 rfl rfl | exact mb4 rfl rfl rfl rfl)) | refine cX ?_ | refine cY ?_ | (refine sA rfl rfl ?_; intro _) | refine sT rfl ?_ | refine sW rfl rfl ?_ | refine sK rfl rfl ?_ | refine j_if rfl ?_ | refine j_else rfl ?_ | refine Go.Vt.jq (wl_pickT rfl rfl) rfl rfl ?_ | refine Go.Vt.jq (wl_pickF rfl rfl) rfl rfl ?_)
  exact wx_cell rfl rfl (fun w hw => by rw [z_I, Q_int]; exact ret_ok hw)⟩
/-- Both numerators over a common denominator. -/
def crs (a b : Rat) : Int × Int × Int := if a.den = b.den then (a.num, b.num, a.den) else (a.num * b.den, b.num * a.den, a.den * b.den)
theorem crs_len (a b : Rat) : mg (crs a b).1 ≤ M a + M b ∧ mg (crs a b).2.1 ≤ M a + M b ∧ mg (crs a b).2.2 ≤ M a + M b := by
  have h1 := M_num a
  have h2 := M_den a
  have h3 := M_num b
  have h4 := M_den b
  have h5 := mg_mul a.num b.den
  have h6 := mg_mul b.num a.den
  have h7 := mg_mul a.den b.den
  unfold crs
  split <;> exact ⟨by simp only; omega, by simp only; omega, by simp only; omega⟩
theorem crs_pos (a b : Rat) : 0 < (crs a b).2.2 := by
  have h1 := a.den_pos
  have h2 := b.den_pos
  unfold crs
  split
  · show (0 : Int) < a.den
    omega
  · exact Int.mul_pos (by omega) (by omega)
theorem crs_val (a b : Rat) : a = Rat.divInt (crs a b).1 (crs a b).2.2 ∧ b = Rat.divInt (crs a b).2.1 (crs a b).2.2 := by
  have ha := den_ne a
  have hb := den_ne b
  unfold crs
  split
  · rename_i h
    exact ⟨(Rat.num_divInt_den a).symm, by rw [h]; exact (Rat.num_divInt_den b).symm⟩
  · refine ⟨?_, ?_⟩
    · conv => lhs; rw [← Rat.num_divInt_den a]
      exact (Rat.divInt_mul_right hb).symm
    · conv => lhs; rw [← Rat.num_divInt_den b]
      rw [Int.mul_comm (a.den : Int)]
      exact (Rat.divInt_mul_right ha).symm
theorem crs_add (a b : Rat) : Rat.divInt ((crs a b).1 + (crs a b).2.1) (crs a b).2.2 = a + b := by
  have h := crs_pos a b
  obtain ⟨h1, h2⟩ := crs_val a b
  have h3 : (crs a b).2.2 ≠ 0 := by omega
  have e : a + b = Rat.divInt (crs a b).1 (crs a b).2.2 + Rat.divInt (crs a b).2.1 (crs a b).2.2 := by rw [← h1, ← h2]
  rw [e, Rat.divInt_add_divInt _ _ h3 h3, ← Int.add_mul]
  exact (Rat.divInt_mul_right h3).symm
/-- How two fractions compare. -/
def cq (a b : Rat) : Int := if a < b then -1 else if b < a then 1 else 0
theorem crs_cmp (a b : Rat) : Lib.compareInt (crs a b).1 (crs a b).2.1 = cq a b := by
  have key : ∀ x y : Rat, x < y ↔ x.num * y.den < y.num * x.den := Rat.lt_iff
  have h : ((crs a b).1 < (crs a b).2.1 ↔ a < b) ∧ ((crs a b).2.1 < (crs a b).1 ↔ b < a) := by
    unfold crs
    rw [key a b, key b a]
    have h1 := a.den_pos
    split
    · rename_i hd
      rw [hd]
      have h2 : (0 : Int) < b.den := by have := b.den_pos; omega
      exact ⟨(Int.mul_lt_mul_right h2).symm, (Int.mul_lt_mul_right h2).symm⟩
    · exact ⟨Iff.rfl, Iff.rfl⟩
  unfold Lib.compareInt cq
  simp only [h.1, h.2, GT.gt]
instance sp_cross (a b : Rat) : SpecC Tryd.prog 38 [vQ a, vQ b] (.tuple #[vI (crs a b).1, vI (crs a b).2.1, vI (crs a b).2.2]) (M a ≤ LQ ∧ M b ≤ LQ) := ⟨fun hp w => by
  have hL : LQ ≤ LIM := by decide
  have h1 := Nat.le_trans (Nat.le_trans (M_num a) hp.1) hL
  have h2 := Nat.le_trans (Nat.le_trans (M_den a) hp.1) hL
  have h3 := Nat.le_trans (Nat.le_trans (M_num b) hp.2) hL
  have h4 := Nat.le_trans (Nat.le_trans (M_den b) hp.2) hL
  refine fn_intro Tryd.func38 rfl Tryd.ntmps38 rfl ?_
  repeat (first | refine sX rfl rfl ?_ | (refine sS rfl rfl ?_ ?_; focus omega) | (refine sC rfl rfl ?_ ?_; focus (first | exact trivial | assumption | exact ⟨by assumption, by assumption⟩ | exact mb2 rfl rfl | exact mb4 rfl rfl rfl rfl)) | refine cX ?_ | refine cY ?_ | (refine sA rfl rfl ?_; intro _) | refine sT rfl ?_ | refine sW rfl rfl ?_ | refine sK rfl rfl ?_ | refine j_if rfl ?_ | refine j_else rfl ?_ | refine Go.Vt.jq (wl_pickT rfl rfl) rfl rfl ?_ | refine Go.Vt.jq (wl_pickF rfl rfl) rfl rfl ?_)
  refine j_cond rfl (fun h => ?_) (fun h => ?_)
  · have hd : a.den = b.den := dn_inj.1 (of_decide_eq_true h)
    rw [show crs a b = (a.num, b.num, (a.den : Int)) by unfold crs; rw [if_pos hd]]
    repeat (first | refine sX rfl rfl ?_ | (refine sS rfl rfl ?_ ?_; focus omega) | (refine sC rfl rfl ?_ ?_; focus (first | exact trivial | assumption | exact ⟨by assumption, by assumption⟩ | exact mb2 rfl rfl | exact mb4 rfl rfl rfl rfl)) | refine cX ?_ | refine cY ?_ | (refine sA rfl rfl ?_; intro _) | refine sT rfl ?_ | refine sW rfl rfl ?_ | refine sK rfl rfl ?_ | refine j_if rfl ?_ | refine j_else rfl ?_ | refine Go.Vt.jq (wl_pickT rfl rfl) rfl rfl ?_ | refine Go.Vt.jq (wl_pickF rfl rfl) rfl rfl ?_)
    rename_i ba bb bc bd be
    (refine j_late [0, 1, 2, 3, 4, 5] [6, 7, 8] ([⟨bb, e_api_Rat (Q b), 28⟩, ⟨ba, e_api_Rat (Q a), 28⟩]) mixed (by kernel_rfl) (by decide) sbl ?_; simp only [picks, List.getElem?_cons_succ, List.getElem?_cons_zero])
    repeat (first | refine tX rfl rfl ?_ | (refine tS rfl rfl ?_ ?_; focus omega) | (refine tC rfl rfl ?_ ?_; focus (first | exact trivial | assumption | exact ⟨by assumption, by assumption⟩ | exact mb2 rfl rfl | exact mb4 rfl rfl rfl rfl)) | refine tW rfl rfl ?_ | refine tK rfl rfl ?_ | refine Go.Vt.hq (wl_pickT rfl rfl) rfl rfl ?_ | refine Go.Vt.hq (wl_pickF rfl rfl) rfl rfl ?_)
    refine jh_nil ?_
    refine we_store rfl rfl rfl sbl (we_store rfl rfl rfl sbl (we_store rfl rfl rfl sbl (je_nil ?_)))
    repeat (first | refine sX rfl rfl ?_ | (refine sS rfl rfl ?_ ?_; focus omega) | (refine sC rfl rfl ?_ ?_; focus (first | exact trivial | assumption | exact ⟨by assumption, by assumption⟩ | exact mb2 rfl rfl | exact mb4 rfl rfl rfl rfl)) | refine cX ?_ | refine cY ?_ | (refine sA rfl rfl ?_; intro _) | refine sT rfl ?_ | refine sW rfl rfl ?_ | refine sK rfl rfl ?_ | refine j_if rfl ?_ | refine j_else rfl ?_ | refine Go.Vt.jq (wl_pickT rfl rfl) rfl rfl ?_ | refine Go.Vt.jq (wl_pickF rfl rfl) rfl rfl ?_)
    exact jx_ret_three rfl (wr_cell rfl) (wr_cell rfl) (wr_cell rfl) (fun w hw => ret_ok hw)
  · have hd : ¬ a.den = b.den := fun h0 => of_decide_eq_false h (dn_inj.2 h0)
    rw [show crs a b = (a.num * b.den, b.num * a.den, (a.den : Int) * b.den) by unfold crs; rw [if_neg hd]]
    repeat (first | refine sX rfl rfl ?_ | (refine sS rfl rfl ?_ ?_; focus omega) | (refine sC rfl rfl ?_ ?_; focus (first | exact trivial | assumption | exact ⟨by assumption, by assumption⟩ | exact mb2 rfl rfl | exact mb4 rfl rfl rfl rfl)) | refine cX ?_ | refine cY ?_ | (refine sA rfl rfl ?_; intro _) | refine sT rfl ?_ | refine sW rfl rfl ?_ | refine sK rfl rfl ?_ | refine j_if rfl ?_ | refine j_else rfl ?_ | refine Go.Vt.jq (wl_pickT rfl rfl) rfl rfl ?_ | refine Go.Vt.jq (wl_pickF rfl rfl) rfl rfl ?_)
    (refine jD 15 15 mixed (by kernel_rfl) ?_; (repeat (first | refine tX rfl rfl ?_ | (refine tS rfl rfl ?_ ?_; focus omega) | (refine tC rfl rfl ?_ ?_; focus (first | exact trivial | assumption | exact ⟨by assumption, by assumption⟩ | exact mb2 rfl rfl | exact mb4 rfl rfl rfl rfl)) | refine tW rfl rfl ?_ | refine tK rfl rfl ?_ | refine Go.Vt.hq (wl_pickT rfl rfl) rfl rfl ?_ | refine Go.Vt.hq (wl_pickF rfl rfl) rfl rfl ?_)); refine jh_nil ?_; (repeat (refine wn_new ?_; intro _)); refine jn_nil ?_)
    repeat (first | refine sX rfl rfl ?_ | (refine sS rfl rfl ?_ ?_; focus omega) | (refine sC rfl rfl ?_ ?_; focus (first | exact trivial | assumption | exact ⟨by assumption, by assumption⟩ | exact mb2 rfl rfl | exact mb4 rfl rfl rfl rfl)) | refine cX ?_ | refine cY ?_ | (refine sA rfl rfl ?_; intro _) | refine sT rfl ?_ | refine sW rfl rfl ?_ | refine sK rfl rfl ?_ | refine j_if rfl ?_ | refine j_else rfl ?_ | refine Go.Vt.jq (wl_pickT rfl rfl) rfl rfl ?_ | refine Go.Vt.jq (wl_pickF rfl rfl) rfl rfl ?_)
    exact jx_ret_three rfl (wr_cell rfl) (wr_cell rfl) (wr_cell rfl) (fun w hw => ret_ok hw)⟩
theorem LQ2 {j k : Nat} (h : j ≤ LQ ∧ k ≤ LQ) : j + k + 1 ≤ LIM := by
  have h1 : LQ + LQ + 1 ≤ LIM := by decide
  exact Nat.le_trans (Nat.add_le_add_right (Nat.add_le_add h.1 h.2) 1) h1
instance sp_RAdd (a b : Rat) : SpecC Tryd.prog 15 [vQ a, vQ b] (vQ (a + b)) (M a ≤ LQ ∧ M b ≤ LQ) := ⟨fun hp w => by
  obtain ⟨h1, h2, h3⟩ := crs_len a b
  have hL := LQ2 hp
  have g1 : mg (crs a b).1 ≤ LIM := Nat.le_trans (Nat.le_succ_of_le h1) hL
  have g2 : mg (crs a b).2.1 ≤ LIM := Nat.le_trans (Nat.le_succ_of_le h2) hL
  have g3 : mg (crs a b).2.2 ≤ LIM := Nat.le_trans (Nat.le_succ_of_le h3) hL
  have g4 : mg ((crs a b).1 + (crs a b).2.1) ≤ LIM := Nat.le_trans (mg_add h1 h2) hL
  have g5 : (crs a b).2.2 ≠ 0 := Int.ne_of_gt (crs_pos a b)
  refine fn_intro Tryd.func15 rfl Tryd.ntmps15 rfl ?_
  repeat (first | refine sX rfl rfl ?_ | (refine sS rfl rfl ?_ ?_; focus omega) | (refine sC rfl rfl ?_ ?_; focus (first | exact trivial | assumption | exact ⟨by assumption, by assumption⟩ | exact mb2 rfl rfl | exact mb4 rfl rfl rfl rfl)) | refine cX ?_ | refine cY ?_ | (refine sA rfl rfl ?_; intro _) | refine sT rfl ?_ | refine sW rfl rfl ?_ | refine sK rfl rfl ?_ | refine j_if rfl ?_ | refine j_else rfl ?_ | refine Go.Vt.jq (wl_pickT rfl rfl) rfl rfl ?_ | refine Go.Vt.jq (wl_pickF rfl rfl) rfl rfl ?_)
  (refine jD 5 5 mixed (by kernel_rfl) ?_; (repeat (first | refine tX rfl rfl ?_ | (refine tS rfl rfl ?_ ?_; focus omega) | (refine tC rfl rfl ?_ ?_; focus (first | exact ⟨by assumption, by assumption⟩ | exact ⟨g5, g4, g3⟩)) | refine tW rfl rfl ?_ | refine tK rfl rfl ?_ | refine Go.Vt.hq (wl_pickT rfl rfl) rfl rfl ?_ | refine Go.Vt.hq (wl_pickF rfl rfl) rfl rfl ?_)); refine jh_nil ?_; (repeat (refine wn_new ?_; intro _)); refine jn_nil ?_)
  rw [crs_add]
  repeat (first | refine sX rfl rfl ?_ | (refine sS rfl rfl ?_ ?_; focus omega) | (refine sC rfl rfl ?_ ?_; focus (first | exact trivial | assumption | exact ⟨by assumption, by assumption⟩ | exact mb2 rfl rfl | exact mb4 rfl rfl rfl rfl)) | refine cX ?_ | refine cY ?_ | (refine sA rfl rfl ?_; intro _) | refine sT rfl ?_ | refine sW rfl rfl ?_ | refine sK rfl rfl ?_ | refine j_if rfl ?_ | refine j_else rfl ?_ | refine Go.Vt.jq (wl_pickT rfl rfl) rfl rfl ?_ | refine Go.Vt.jq (wl_pickF rfl rfl) rfl rfl ?_)
  exact wx_cell rfl rfl (fun w hw => ret_ok hw)⟩
instance sp_RMul (a b : Rat) : SpecC Tryd.prog 25 [vQ a, vQ b] (vQ (a * b)) (M a ≤ LQ ∧ M b ≤ LQ) := ⟨fun hp w => by
  have hL : LQ ≤ LIM := by decide
  have hM := LQ2 hp
  have h1 := Nat.le_trans (Nat.le_trans (M_num a) hp.1) hL
  have h2 := Nat.le_trans (Nat.le_trans (M_den a) hp.1) hL
  have h3 := Nat.le_trans (Nat.le_trans (M_num b) hp.2) hL
  have h4 := Nat.le_trans (Nat.le_trans (M_den b) hp.2) hL
  have g1 : mg (a.num * b.num) ≤ LIM := Nat.le_trans (mg_mul _ _) (Nat.le_trans (Nat.le_succ_of_le (Nat.add_le_add (M_num a) (M_num b))) hM)
  have g2 : mg ((a.den : Int) * b.den) ≤ LIM := Nat.le_trans (mg_mul _ _) (Nat.le_trans (Nat.le_succ_of_le (Nat.add_le_add (M_den a) (M_den b))) hM)
  have g3 : (a.den : Int) * b.den ≠ 0 := Int.mul_ne_zero (den_ne a) (den_ne b)
  refine fn_intro Tryd.func25 rfl Tryd.ntmps25 rfl ?_
  repeat (first | refine sX rfl rfl ?_ | (refine sS rfl rfl ?_ ?_; focus omega) | (refine sC rfl rfl ?_ ?_; focus (first | exact trivial | assumption | exact ⟨by assumption, by assumption⟩ | exact mb2 rfl rfl | exact mb4 rfl rfl rfl rfl)) | refine cX ?_ | refine cY ?_ | (refine sA rfl rfl ?_; intro _) | refine sT rfl ?_ | refine sW rfl rfl ?_ | refine sK rfl rfl ?_ | refine j_if rfl ?_ | refine j_else rfl ?_ | refine Go.Vt.jq (wl_pickT rfl rfl) rfl rfl ?_ | refine Go.Vt.jq (wl_pickF rfl rfl) rfl rfl ?_)
  (refine jD 11 11 mixed (by kernel_rfl) ?_; (repeat (first | refine tX rfl rfl ?_ | (refine tS rfl rfl ?_ ?_; focus omega) | (refine tC rfl rfl ?_ ?_; focus (first | exact trivial | exact ⟨by assumption, by assumption⟩ | exact ⟨g3, g1, g2⟩)) | refine tW rfl rfl ?_ | refine tK rfl rfl ?_ | refine Go.Vt.hq (wl_pickT rfl rfl) rfl rfl ?_ | refine Go.Vt.hq (wl_pickF rfl rfl) rfl rfl ?_)); refine jh_nil ?_; (repeat (refine wn_new ?_; intro _)); refine jn_nil ?_)
  rw [← mul_divInt]
  repeat (first | refine sX rfl rfl ?_ | (refine sS rfl rfl ?_ ?_; focus omega) | (refine sC rfl rfl ?_ ?_; focus (first | exact trivial | assumption | exact ⟨by assumption, by assumption⟩ | exact mb2 rfl rfl | exact mb4 rfl rfl rfl rfl)) | refine cX ?_ | refine cY ?_ | (refine sA rfl rfl ?_; intro _) | refine sT rfl ?_ | refine sW rfl rfl ?_ | refine sK rfl rfl ?_ | refine j_if rfl ?_ | refine j_else rfl ?_ | refine Go.Vt.jq (wl_pickT rfl rfl) rfl rfl ?_ | refine Go.Vt.jq (wl_pickF rfl rfl) rfl rfl ?_)
  exact wx_cell rfl rfl (fun w hw => ret_ok hw)⟩
instance sp_RDiv (a b : Rat) : SpecC Tryd.prog 82 [vQ a, vQ b] (.tuple #[vQ (a / b), .int .i64 (if b = 0 then 6 else 0)]) (M a ≤ LQ ∧ M b ≤ LQ) := ⟨fun hp w => by
  have hL : LQ ≤ LIM := by decide
  have hM := LQ2 hp
  have h1 := Nat.le_trans (Nat.le_trans (M_num a) hp.1) hL
  have h2 := Nat.le_trans (Nat.le_trans (M_den a) hp.1) hL
  have h3 := Nat.le_trans (Nat.le_trans (M_num b) hp.2) hL
  have h4 := Nat.le_trans (Nat.le_trans (M_den b) hp.2) hL
  have g1 : mg (a.num * b.den) ≤ LIM := Nat.le_trans (mg_mul _ _) (Nat.le_trans (Nat.le_succ_of_le (Nat.add_le_add (M_num a) (M_den b))) hM)
  have g2 : mg ((a.den : Int) * b.num) ≤ LIM := Nat.le_trans (mg_mul _ _) (Nat.le_trans (Nat.le_succ_of_le (Nat.add_le_add (M_den a) (M_num b))) hM)
  have hz : ((a.den : Int) * b.num = 0) ↔ b = 0 := by
    rw [Int.mul_eq_zero, Rat.num_eq_zero]
    exact ⟨fun h => h.resolve_left (den_ne a), .inr⟩
  refine fn_intro Tryd.func82 rfl Tryd.ntmps82 rfl ?_
  repeat (first | refine sX rfl rfl ?_ | (refine sS rfl rfl ?_ ?_; focus omega) | (refine sC rfl rfl ?_ ?_; focus (first | exact trivial | assumption | exact ⟨by assumption, by assumption⟩ | exact mb2 rfl rfl | exact mb4 rfl rfl rfl rfl)) | refine cX ?_ | refine cY ?_ | (refine sA rfl rfl ?_; intro _) | refine sT rfl ?_ | refine sW rfl rfl ?_ | refine sK rfl rfl ?_ | refine j_if rfl ?_ | refine j_else rfl ?_ | refine Go.Vt.jq (wl_pickT rfl rfl) rfl rfl ?_ | refine Go.Vt.jq (wl_pickF rfl rfl) rfl rfl ?_)
  (refine jD 13 13 mixed (by kernel_rfl) ?_; (repeat (first | refine tX rfl rfl ?_ | (refine tS rfl rfl ?_ ?_; focus omega) | (refine tC rfl rfl ?_ ?_; focus (first | exact trivial | assumption | exact ⟨by assumption, by assumption⟩ | exact mb2 rfl rfl | exact mb4 rfl rfl rfl rfl)) | refine tW rfl rfl ?_ | refine tK rfl rfl ?_ | refine Go.Vt.hq (wl_pickT rfl rfl) rfl rfl ?_ | refine Go.Vt.hq (wl_pickF rfl rfl) rfl rfl ?_)); refine jh_nil ?_; (repeat (refine wn_new ?_; intro _)); refine jn_nil ?_)
  rw [← div_divInt]
  simp only [hz]
  repeat (first | refine sX rfl rfl ?_ | (refine sS rfl rfl ?_ ?_; focus omega) | (refine sC rfl rfl ?_ ?_; focus (first | exact trivial | assumption | exact ⟨by assumption, by assumption⟩ | exact mb2 rfl rfl | exact mb4 rfl rfl rfl rfl)) | refine cX ?_ | refine cY ?_ | (refine sA rfl rfl ?_; intro _) | refine sT rfl ?_ | refine sW rfl rfl ?_ | refine sK rfl rfl ?_ | refine j_if rfl ?_ | refine j_else rfl ?_ | refine Go.Vt.jq (wl_pickT rfl rfl) rfl rfl ?_ | refine Go.Vt.jq (wl_pickF rfl rfl) rfl rfl ?_)
  exact jx_ret_two rfl (wr_cell rfl) (resv_tmp rfl) (fun w hw => ret_ok hw)⟩
theorem Q_neg (q : Rat) : (⟨I (-q.num), I (dn q)⟩ : api_Rat) = Q (-q) := rfl
instance sp_RNeg (a : Rat) : SpecC Tryd.prog 94 [vQ a] (vQ (-a)) True := ⟨fun _ w => by
  refine fn_intro Tryd.func94 rfl Tryd.ntmps94 rfl ?_
  repeat (first | refine sX rfl rfl ?_ | (refine sS rfl rfl ?_ ?_; focus omega) | (refine sC rfl rfl ?_ ?_; focus (first | exact trivial | assumption | exact ⟨by assumption, by assumption⟩ | exact mb2 rfl rfl | exact mb4 rfl rfl rfl rfl)) | refine cX ?_ | refine cY ?_ | (refine sA rfl rfl ?_; intro _) | refine sT rfl ?_ | refine sW rfl rfl ?_ | refine sK rfl rfl ?_ | refine j_if rfl ?_ | refine j_else rfl ?_ | refine Go.Vt.jq (wl_pickT rfl rfl) rfl rfl ?_ | refine Go.Vt.jq (wl_pickF rfl rfl) rfl rfl ?_)
  (refine jD 6 6 mixed (by kernel_rfl) ?_; (repeat (first | refine tX rfl rfl ?_ | (refine tS rfl rfl ?_ ?_; focus omega) | (refine tC rfl rfl ?_ ?_; focus (first | exact trivial | assumption | exact ⟨by assumption, by assumption⟩ | exact mb2 rfl rfl | exact mb4 rfl rfl rfl rfl)) | refine tW rfl rfl ?_ | refine tK rfl rfl ?_ | refine Go.Vt.hq (wl_pickT rfl rfl) rfl rfl ?_ | refine Go.Vt.hq (wl_pickF rfl rfl) rfl rfl ?_)); refine jh_nil ?_; (repeat (refine wn_new ?_; intro _)); refine jn_nil ?_)
  rw [Q_neg]
  repeat (first | refine sX rfl rfl ?_ | (refine sS rfl rfl ?_ ?_; focus omega) | (refine sC rfl rfl ?_ ?_; focus (first | exact trivial | assumption | exact ⟨by assumption, by assumption⟩ | exact mb2 rfl rfl | exact mb4 rfl rfl rfl rfl)) | refine cX ?_ | refine cY ?_ | (refine sA rfl rfl ?_; intro _) | refine sT rfl ?_ | refine sW rfl rfl ?_ | refine sK rfl rfl ?_ | refine j_if rfl ?_ | refine j_else rfl ?_ | refine Go.Vt.jq (wl_pickT rfl rfl) rfl rfl ?_ | refine Go.Vt.jq (wl_pickF rfl rfl) rfl rfl ?_)
  exact wx_cell rfl rfl (fun w hw => ret_ok hw)⟩
instance sp_RSub (a b : Rat) : SpecC Tryd.prog 83 [vQ a, vQ b] (vQ (a - b)) (M a ≤ LQ ∧ M b ≤ LQ) := ⟨fun hp w => by
  have h1 := hp.1
  have h2 : M (-b) ≤ LQ := by rw [M_neg]; exact hp.2
  refine fn_intro Tryd.func83 rfl Tryd.ntmps83 rfl ?_
  repeat (first | refine sX rfl rfl ?_ | (refine sS rfl rfl ?_ ?_; focus omega) | (refine sC rfl rfl ?_ ?_; focus (first | exact trivial | assumption | exact ⟨by assumption, by assumption⟩ | exact mb2 rfl rfl | exact mb4 rfl rfl rfl rfl)) | refine cX ?_ | refine cY ?_ | (refine sA rfl rfl ?_; intro _) | refine sT rfl ?_ | refine sW rfl rfl ?_ | refine sK rfl rfl ?_ | refine j_if rfl ?_ | refine j_else rfl ?_ | refine Go.Vt.jq (wl_pickT rfl rfl) rfl rfl ?_ | refine Go.Vt.jq (wl_pickF rfl rfl) rfl rfl ?_)
  (refine jD 4 4 mixed (by kernel_rfl) ?_; (repeat (first | refine tX rfl rfl ?_ | (refine tS rfl rfl ?_ ?_; focus omega) | (refine tC rfl rfl ?_ ?_; focus (first | exact trivial | assumption | exact ⟨by assumption, by assumption⟩ | exact mb2 rfl rfl | exact mb4 rfl rfl rfl rfl)) | refine tW rfl rfl ?_ | refine tK rfl rfl ?_ | refine Go.Vt.hq (wl_pickT rfl rfl) rfl rfl ?_ | refine Go.Vt.hq (wl_pickF rfl rfl) rfl rfl ?_)); refine jh_nil ?_; (repeat (refine wn_new ?_; intro _)); refine jn_nil ?_)
  rw [← Rat.sub_eq_add_neg]
  repeat (first | refine sX rfl rfl ?_ | (refine sS rfl rfl ?_ ?_; focus omega) | (refine sC rfl rfl ?_ ?_; focus (first | exact trivial | assumption | exact ⟨by assumption, by assumption⟩ | exact mb2 rfl rfl | exact mb4 rfl rfl rfl rfl)) | refine cX ?_ | refine cY ?_ | (refine sA rfl rfl ?_; intro _) | refine sT rfl ?_ | refine sW rfl rfl ?_ | refine sK rfl rfl ?_ | refine j_if rfl ?_ | refine j_else rfl ?_ | refine Go.Vt.jq (wl_pickT rfl rfl) rfl rfl ?_ | refine Go.Vt.jq (wl_pickF rfl rfl) rfl rfl ?_)
  exact wx_cell rfl rfl (fun w hw => ret_ok hw)⟩
instance sp_RCompare (a b : Rat) : SpecC Tryd.prog 27 [vQ a, vQ b] (.int .i64 (cq a b)) (M a ≤ LQ ∧ M b ≤ LQ) := ⟨fun hp w => by
  refine fn_intro Tryd.func27 rfl Tryd.ntmps27 rfl ?_
  repeat (first | refine sX rfl rfl ?_ | (refine sS rfl rfl ?_ ?_; focus omega) | (refine sC rfl rfl ?_ ?_; focus (first | exact trivial | assumption | exact ⟨by assumption, by assumption⟩ | exact mb2 rfl rfl | exact mb4 rfl rfl rfl rfl)) | refine cX ?_ | refine cY ?_ | (refine sA rfl rfl ?_; intro _) | refine sT rfl ?_ | refine sW rfl rfl ?_ | refine sK rfl rfl ?_ | refine j_if rfl ?_ | refine j_else rfl ?_ | refine Go.Vt.jq (wl_pickT rfl rfl) rfl rfl ?_ | refine Go.Vt.jq (wl_pickF rfl rfl) rfl rfl ?_)
  refine j_cond rfl (fun h => ?_) (fun h => ?_)
  · have h1 : a = b := of_decide_eq_true h
    rw [show cq a b = 0 by unfold cq; rw [h1, if_neg Rat.lt_irrefl, if_neg Rat.lt_irrefl]]
    repeat (first | refine sX rfl rfl ?_ | (refine sS rfl rfl ?_ ?_; focus omega) | (refine sC rfl rfl ?_ ?_; focus (first | exact trivial | assumption | exact ⟨by assumption, by assumption⟩ | exact mb2 rfl rfl | exact mb4 rfl rfl rfl rfl)) | refine cX ?_ | refine cY ?_ | (refine sA rfl rfl ?_; intro _) | refine sT rfl ?_ | refine sW rfl rfl ?_ | refine sK rfl rfl ?_ | refine j_if rfl ?_ | refine j_else rfl ?_ | refine Go.Vt.jq (wl_pickT rfl rfl) rfl rfl ?_ | refine Go.Vt.jq (wl_pickF rfl rfl) rfl rfl ?_)
    exact jx_ret_tmp rfl rfl (fun w hw => ret_ok hw)
  · repeat (first | refine sX rfl rfl ?_ | (refine sS rfl rfl ?_ ?_; focus omega) | (refine sC rfl rfl ?_ ?_; focus (first | exact trivial | assumption | exact ⟨by assumption, by assumption⟩ | exact mb2 rfl rfl | exact mb4 rfl rfl rfl rfl)) | refine cX ?_ | refine cY ?_ | (refine sA rfl rfl ?_; intro _) | refine sT rfl ?_ | refine sW rfl rfl ?_ | refine sK rfl rfl ?_ | refine j_if rfl ?_ | refine j_else rfl ?_ | refine Go.Vt.jq (wl_pickT rfl rfl) rfl rfl ?_ | refine Go.Vt.jq (wl_pickF rfl rfl) rfl rfl ?_)
    rw [crs_cmp]
    repeat (first | refine sX rfl rfl ?_ | (refine sS rfl rfl ?_ ?_; focus omega) | (refine sC rfl rfl ?_ ?_; focus (first | exact trivial | assumption | exact ⟨by assumption, by assumption⟩ | exact mb2 rfl rfl | exact mb4 rfl rfl rfl rfl)) | refine cX ?_ | refine cY ?_ | (refine sA rfl rfl ?_; intro _) | refine sT rfl ?_ | refine sW rfl rfl ?_ | refine sK rfl rfl ?_ | refine j_if rfl ?_ | refine j_else rfl ?_ | refine Go.Vt.jq (wl_pickT rfl rfl) rfl rfl ?_ | refine Go.Vt.jq (wl_pickF rfl rfl) rfl rfl ?_)
    exact jx_ret_tmp rfl rfl (fun w hw => ret_ok hw)⟩
instance sp_RSign (a : Rat) : SpecC Tryd.prog 34 [vQ a] (.int .i64 a.num.sign) True := ⟨fun _ w => by
  refine fn_intro Tryd.func34 rfl Tryd.ntmps34 rfl ?_
  repeat (first | refine sX rfl rfl ?_ | (refine sS rfl rfl ?_ ?_; focus omega) | (refine sC rfl rfl ?_ ?_; focus (first | exact trivial | assumption | exact ⟨by assumption, by assumption⟩ | exact mb2 rfl rfl | exact mb4 rfl rfl rfl rfl)) | refine cX ?_ | refine cY ?_ | (refine sA rfl rfl ?_; intro _) | refine sT rfl ?_ | refine sW rfl rfl ?_ | refine sK rfl rfl ?_ | refine j_if rfl ?_ | refine j_else rfl ?_ | refine Go.Vt.jq (wl_pickT rfl rfl) rfl rfl ?_ | refine Go.Vt.jq (wl_pickF rfl rfl) rfl rfl ?_)
  exact jx_ret_tmp rfl rfl (fun w hw => ret_ok hw)⟩
theorem cq_ge {a b : Rat} : 0 ≤ cq a b ↔ b ≤ a := by unfold cq; grind
theorem cq_le {a b : Rat} : cq a b ≤ 0 ↔ a ≤ b := by unfold cq; grind
theorem cq_gt {a b : Rat} : 0 < cq a b ↔ b < a := by unfold cq; grind
theorem cq_lt {a b : Rat} : cq a b < 0 ↔ a < b := by unfold cq; grind
theorem cq_eq {a b : Rat} : cq a b = 0 ↔ a = b := by unfold cq; grind
instance sp_RMax (a b : Rat) : SpecC Tryd.prog 42 [vQ a, vQ b] (vQ (max a b)) (M a ≤ LQ ∧ M b ≤ LQ) := ⟨fun hp w => by
  refine fn_intro Tryd.func42 rfl Tryd.ntmps42 rfl ?_
  repeat (first | refine sX rfl rfl ?_ | (refine sS rfl rfl ?_ ?_; focus omega) | (refine sC rfl rfl ?_ ?_; focus (first | exact trivial | assumption | exact ⟨by assumption, by assumption⟩ | exact mb2 rfl rfl | exact mb4 rfl rfl rfl rfl)) | refine cX ?_ | refine cY ?_ | (refine sA rfl rfl ?_; intro _) | refine sT rfl ?_ | refine sW rfl rfl ?_ | refine sK rfl rfl ?_ | refine j_if rfl ?_ | refine j_else rfl ?_ | refine Go.Vt.jq (wl_pickT rfl rfl) rfl rfl ?_ | refine Go.Vt.jq (wl_pickF rfl rfl) rfl rfl ?_)
  refine j_cond rfl (fun h => ?_) (fun h => ?_)
  · have h1 := cq_ge.1 (of_decide_eq_true h)
    rw [show max a b = a by rw [Rat.max_def]; split <;> grind]
    repeat (first | refine sX rfl rfl ?_ | (refine sS rfl rfl ?_ ?_; focus omega) | (refine sC rfl rfl ?_ ?_; focus (first | exact trivial | assumption | exact ⟨by assumption, by assumption⟩ | exact mb2 rfl rfl | exact mb4 rfl rfl rfl rfl)) | refine cX ?_ | refine cY ?_ | (refine sA rfl rfl ?_; intro _) | refine sT rfl ?_ | refine sW rfl rfl ?_ | refine sK rfl rfl ?_ | refine j_if rfl ?_ | refine j_else rfl ?_ | refine Go.Vt.jq (wl_pickT rfl rfl) rfl rfl ?_ | refine Go.Vt.jq (wl_pickF rfl rfl) rfl rfl ?_)
    exact wx_cell rfl rfl (fun w hw => ret_ok hw)
  · have h1 : ¬ b ≤ a := fun h0 => of_decide_eq_false h (cq_ge.2 h0)
    rw [show max a b = b by rw [Rat.max_def]; split <;> grind]
    repeat (first | refine sX rfl rfl ?_ | (refine sS rfl rfl ?_ ?_; focus omega) | (refine sC rfl rfl ?_ ?_; focus (first | exact trivial | assumption | exact ⟨by assumption, by assumption⟩ | exact mb2 rfl rfl | exact mb4 rfl rfl rfl rfl)) | refine cX ?_ | refine cY ?_ | (refine sA rfl rfl ?_; intro _) | refine sT rfl ?_ | refine sW rfl rfl ?_ | refine sK rfl rfl ?_ | refine j_if rfl ?_ | refine j_else rfl ?_ | refine Go.Vt.jq (wl_pickT rfl rfl) rfl rfl ?_ | refine Go.Vt.jq (wl_pickF rfl rfl) rfl rfl ?_)
    exact wx_cell rfl rfl (fun w hw => ret_ok hw)⟩
end Go.Vt
