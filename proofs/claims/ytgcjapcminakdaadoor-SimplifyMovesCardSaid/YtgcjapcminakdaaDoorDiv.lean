/- Division of magnitudes. Conditions: the lengths that each statement names. -/
import Derived.Test.YtgcjapcminakdaaDoorKnuth
set_option linter.unusedSimpArgs false
set_option linter.unusedVariables false
set_option maxRecDepth 100000
set_option maxHeartbeats 20000000
namespace Go.Vt
open Go.RowKit Go.Proofs

/-- A call that turns the caller's own blocks in a way that is told by a state. -/
theorem wo_callX {P : Program} {w0 : World} {n : Nat} {ops : Array Oper} {L : List Blk} {E : Env} {Q : Exit → Act → World → Prop} {rest : List Oper} {ty : TypeId} {pos : String} {aft : Array Edge} {gd : Option (Nat × Bool)}
    {f : FuncId} {xs : List Operand} {l : List Value} {ats : Array TypeId} {t : Tmp} {S : Type} (I : S → Prop) (val : S → Value) (mem : S → List Blk) (hl : Env.evs E xs = some l) [hf : CallC P f] (hc : ∀ w, Own w0 L w → Calls P f l.toArray w fun e w' => ∃ s, I s ∧ RetO (val s) w0 (mem s) e w')
    (hg : guardB ops E gd = some true) (hd : Nat.blt t n = true) (h : ∀ s, I s → JO P w0 n ops Q rest ((t, val s) :: E) (mem s)) : JO P w0 n ops Q (⟨some t, .call ⟨.value (.func f), xs.toArray, ats⟩, ty, pos, aft, gd⟩ :: rest) E L :=
  jo_c (S := {s : S // I s}) (o := ⟨some t, .call ⟨.value (.func f), xs.toArray, ats⟩, ty, pos, aft, gd⟩) hg hd (fun s => val s.1) (fun s => mem s.1) (fun _ _ ha => run_call hf.out ha hl)
    (fun w hw => (hc w hw).mono fun _ _ ⟨s, hs, he, ho⟩ => ⟨⟨s, hs⟩, he, ho⟩) (fun s => h s.1 s.2)

theorem shifted_spec' (b c : Nat) (xs : List Nat) (s : Nat) (fz : Nat × Nat) (hs : s < 32) (hD : Dg xs) (hx : xs.length ≤ 1099511627776) (w : World) (hw : w.heap[b]? = some (.cells (dig .u32 xs) 117 fz)) :
    Calls Tryd.prog 90 [.slice (some ⟨b, 0, none⟩) xs.length c, .int .i64 s].toArray w (RetB (fun b => .slice (some ⟨b, 0, none⟩) (xs.length + 1) (xs.length + 1)) (dig .u32 (dgs (vd xs * 2 ^ s) (xs.length + 1))) 117 w) := by
  obtain ⟨os, h1, h2, h3, h4⟩ := shifted_spec b c xs s fz hs hD hx w hw
  rw [dgs_of h2 h1 h3] at h4
  exact h4
instance sp_lz (x : Nat) : SpecC Tryd.prog 89 [.int .u32 x] (.int .i64 (32 - (Lib.bitLen x : Int))) (x < 4294967296) := ⟨fun h w => (Tryd.bits_LeadingZeros32 x w (by omega) (by omega)).mono fun e w' ⟨h1, h2⟩ => by subst h2; exact ⟨h1, Ext.refl _⟩⟩
theorem bit32 {x : Nat} (h0 : x ≠ 0) (h : x < 4294967296) : 1 ≤ Lib.bitLen x ∧ Lib.bitLen x ≤ 32 ∧ x < 2 ^ Lib.bitLen x := by
  obtain ⟨h1, h2, h3⟩ := bitLen_spec (x := x) (by omega) h0
  refine ⟨h1, ?_, h3⟩
  rcases Nat.lt_or_ge 32 (Lib.bitLen x) with h4 | h4
  · have h5 : (2 : Nat) ^ 32 ≤ 2 ^ (Lib.bitLen x - 1) := Nat.pow_le_pow_right (by omega) (by omega)
    omega
  · exact h4
/-- The number of digits. -/
theorem digs_low {b n : Nat} (hb : b ≠ 0) (hn : n = ((mag b).size + 3) / 4) : 1 ≤ n ∧ 4294967296 ^ (n - 1) ≤ b ∧ b < 4294967296 ^ n := by
  have h1 : 1 ≤ (mag b).size := by
    rcases Nat.eq_zero_or_pos (mag b).size with h1 | h1
    · exfalso
      have : (mag b).size ≤ 0 := by omega
      rw [mag_size] at this
      omega
    · exact h1
  refine ⟨by omega, ?_, ?_⟩
  · rw [pow_dig4]
    rcases Nat.lt_or_ge b (256 ^ (4 * (n - 1))) with h2 | h2
    · have := mag_size.2 h2
      omega
    · exact h2
  · rw [pow_dig4]
    have h2 : b < 256 ^ (mag b).size := mag_size.1 (Nat.le_refl _)
    exact Nat.lt_of_lt_of_le h2 (Nat.pow_le_pow_right (by omega) (by omega))
/-- The greatest digit. -/
theorem top_digit {b n : Nat} (hb : b ≠ 0) (hn : n = ((mag b).size + 3) / 4) : ∃ t, (dgs b n)[n - 1]? = some t ∧ t ≠ 0 ∧ t < 4294967296 ∧ t * 4294967296 ^ (n - 1) ≤ b ∧ b < (t + 1) * 4294967296 ^ (n - 1) := by
  obtain ⟨h1, h2, h3⟩ := digs_low hb hn
  have hl := dgs_len n b
  have hD := dgs_dg n b
  have hv : vd (dgs b n) = b := by rw [vd_dgs, Nat.mod_eq_of_lt h3]
  generalize dgs b n = ds at *
  have hi : n - 1 < ds.length := by omega
  refine ⟨ds[n - 1], by simp [hi], ?_, dg_get hD hi, ?_⟩
  · intro h0
    have h4 := vd_split ds (n - 1) (by omega)
    rw [List.drop_eq_getElem_cons hi, List.drop_eq_nil_of_le (by omega), h0] at h4
    have h5 := vd_lt (dg_take hD (n - 1))
    rw [List.length_take, Nat.min_eq_left (by omega)] at h5
    simp [vd] at h4
    omega
  · have h4 := vd_split ds (n - 1) (by omega)
    rw [List.drop_eq_getElem_cons hi, List.drop_eq_nil_of_le (by omega), hv] at h4
    have h5 := vd_lt (dg_take hD (n - 1))
    rw [List.length_take, Nat.min_eq_left (by omega)] at h5
    simp only [vd, Nat.mul_zero, Nat.add_zero] at h4
    rw [Nat.mul_comm (4294967296 ^ (n - 1))] at h4
    rw [Nat.add_mul, Nat.one_mul]
    omega
theorem dgs_snoc {a n : Nat} (h : a < 4294967296 ^ n) : dgs a (n + 1) = dgs a n ++ [0] := by
  symm
  refine dgs_of (dg_append (dgs_dg _ _) (fun d hd => by simp at hd; omega)) (by simp [dgs_len]) ?_
  rw [vd_append, vd_dgs, Nat.mod_eq_of_lt h]
  simp [vd]

/-- What stands ahead of a round: 'k' digits of the quotient are to come. -/
structure KI (A Y n m k : Nat) (zs os : List Nat) : Prop where
  hk : k ≤ m
  lz : zs.length = m + n
  dz : Dg zs
  lo : os.length = m
  dO : Dg os
  z0 : ∀ i, i < k → os[i]? = some 0
  eq : A = vd zs + Y * vd os
  lt : vd (zs.drop k) < Y
theorem shift_top {b s t n : Nat} (hn : 1 ≤ n) (hs : s ≤ 32) (h : b < (t + 1) * 4294967296 ^ (n - 1)) (ht : t < 2 ^ (32 - s)) : b * 2 ^ s < 4294967296 ^ n := by
  have hp : 0 < 2 ^ s := Nat.pow_pos (by omega)
  have h1 : b * 2 ^ s < (t + 1) * 4294967296 ^ (n - 1) * 2 ^ s := Nat.mul_lt_mul_of_pos_right h hp
  have h2 : (t + 1) * 2 ^ s ≤ 2 ^ (32 - s) * 2 ^ s := Nat.mul_le_mul_right _ ht
  rw [← Nat.pow_add, show 32 - s + s = 32 by omega] at h2
  have h3 : (t + 1) * 2 ^ s * 4294967296 ^ (n - 1) ≤ 2 ^ 32 * 4294967296 ^ (n - 1) := Nat.mul_le_mul_right _ h2
  have h4 : 2 ^ 32 * 4294967296 ^ (n - 1) = 4294967296 ^ n := by
    obtain ⟨k, rfl⟩ : ∃ k, n = k + 1 := ⟨n - 1, by omega⟩
    rw [Nat.add_sub_cancel, show (4294967296 : Nat) ^ (k + 1) = 4294967296 ^ k * 4294967296 from Nat.pow_succ _ _, Nat.mul_comm]
  have h5 : (t + 1) * 4294967296 ^ (n - 1) * 2 ^ s = (t + 1) * 2 ^ s * 4294967296 ^ (n - 1) := by rw [Nat.mul_assoc, Nat.mul_comm (4294967296 ^ (n - 1)), ← Nat.mul_assoc]
  omega
theorem ki_start {a b s n m nx : Nat} (ha : a < 4294967296 ^ nx) (hb : 4294967296 ^ (n - 1) ≤ b) (hn : 1 ≤ n) (hm : nx + 1 = m + n) (hs : s < 32) : KI (a * 2 ^ s) (b * 2 ^ s) n m m (dgs (a * 2 ^ s) (nx + 1)) (List.replicate m 0) := by
  obtain ⟨hp1, hp2⟩ := pow31 hs
  have hA : a * 2 ^ s < 4294967296 ^ (nx + 1) := by
    rw [Nat.pow_succ]
    exact Nat.mul_lt_mul'' ha (by omega)
  have hv : vd (dgs (a * 2 ^ s) (nx + 1)) = a * 2 ^ s := by rw [vd_dgs, Nat.mod_eq_of_lt hA]
  refine ⟨Nat.le_refl _, by rw [dgs_len, hm], dgs_dg _ _, by simp, dg_zero _, fun i hi => by simp [hi], by rw [hv, vd_zero]; simp, ?_⟩
  have h1 := vd_split (dgs (a * 2 ^ s) (nx + 1)) m (by rw [dgs_len]; omega)
  rw [hv] at h1
  have h2 : a * 2 ^ s < 4294967296 ^ nx * 2 ^ s := Nat.mul_lt_mul_of_pos_right ha (by omega)
  have h3 : 4294967296 ^ nx = 4294967296 ^ m * 4294967296 ^ (n - 1) := by rw [← Nat.pow_add]; congr 1; omega
  have h4 : 4294967296 ^ m * vd ((dgs (a * 2 ^ s) (nx + 1)).drop m) < 4294967296 ^ m * (4294967296 ^ (n - 1) * 2 ^ s) := by
    rw [← Nat.mul_assoc, ← h3]
    omega
  have h5 := Nat.lt_of_mul_lt_mul_left h4
  have h6 : 4294967296 ^ (n - 1) * 2 ^ s ≤ b * 2 ^ s := Nat.mul_le_mul_right _ hb
  omega

theorem rest_digit {zs : List Nat} {W i s : Nat} (hD : Dg zs) (hv : vd zs = W * 2 ^ s) (hi : i + 1 < zs.length) (hs : s < 32) : (zs[i + 1] * 4294967296 + zs[i]) / 2 ^ s % 4294967296 = W / 4294967296 ^ i % 4294967296 := by
  have hp : 0 < 2 ^ s := Nat.pow_pos (by omega)
  have h0 := vd_digit zs hD i (by omega)
  have h1 := vd_digit zs hD (i + 1) hi
  rw [Nat.pow_succ, ← Nat.div_div_eq_div_mul] at h1
  have hW : W = vd zs / 2 ^ s := by rw [hv, Nat.mul_div_cancel _ hp]
  have e1 : W / 4294967296 ^ i = vd zs / 4294967296 ^ i / 2 ^ s := by rw [hW, Nat.div_div_eq_div_mul, Nat.div_div_eq_div_mul, Nat.mul_comm]
  rw [e1, ← h0, ← h1]
  generalize vd zs / 4294967296 ^ i = Z
  have h2 : Z / 4294967296 % 4294967296 * 4294967296 + Z % 4294967296 = Z % (4294967296 * 4294967296) := by rw [Nat.mod_mul]; omega
  rw [h2]
  have h3 := Nat.div_add_mod Z (4294967296 * 4294967296)
  generalize Z % (4294967296 * 4294967296) = r at *
  generalize Z / (4294967296 * 4294967296) = k at *
  have h4 : (4294967296 : Nat) * 4294967296 * k = 2 ^ s * (4294967296 * (2 ^ (32 - s) * k)) := by
    have h5 : (4294967296 : Nat) = 2 ^ s * 2 ^ (32 - s) := by rw [← Nat.pow_add, show s + (32 - s) = 32 by omega]
    have h6 : (4294967296 : Nat) * 4294967296 * k = 4294967296 * (4294967296 * k) := Nat.mul_assoc _ _ _
    rw [h6]
    conv => lhs; rw [h5]
    rw [show 2 ^ s * 2 ^ (32 - s) * (2 ^ s * 2 ^ (32 - s) * k) = 2 ^ s * ((2 ^ s * 2 ^ (32 - s)) * (2 ^ (32 - s) * k)) by grind, ← h5]
  rw [← h3, h4, Nat.mul_add_div hp, Nat.mul_add_mod]
theorem row_step {l : List Nat} {i n : Nat} (hl : l.length = n) (hi : i < n) : (l.take i ++ List.replicate (n - i) 0).set i (l[i]'(by omega)) = l.take (i + 1) ++ List.replicate (n - (i + 1)) 0 := by
  have h1 : (l.take i).length = i := by rw [List.length_take]; omega
  obtain ⟨k, hk⟩ : ∃ k, n - i = k + 1 := ⟨n - i - 1, by omega⟩
  rw [hk, show n - (i + 1) = k by omega, List.set_append_right _ _ (by omega), h1, Nat.sub_self, List.replicate_succ, List.set_cons_zero, List.take_succ_eq_append_getElem (by omega), List.append_assoc]
  rfl
theorem v1_pos {Y v1 v2 n : Nat} (hn : 2 ≤ n) (h : 4294967296 ^ (n - 1) ≤ Y) (hY : Y < (v1 * 4294967296 + v2 + 1) * 4294967296 ^ (n - 2)) (h2 : v2 < 4294967296) : 0 < v1 := by
  rcases Nat.eq_zero_or_pos v1 with h0 | h0
  · exfalso
    subst h0
    have h1 : (0 * 4294967296 + v2 + 1) * 4294967296 ^ (n - 2) ≤ 4294967296 * 4294967296 ^ (n - 2) := Nat.mul_le_mul_right _ (by omega)
    have h3 : 4294967296 ^ (n - 1) = 4294967296 * 4294967296 ^ (n - 2) := by
      rw [show n - 1 = n - 2 + 1 by omega, Nat.pow_succ, Nat.mul_comm]
    omega
  · exact h0

theorem div_spec (a b : Nat) (hb0 : b ≠ 0) (ha : (mag a).size ≤ 1099511627776) (hb : (mag b).size ≤ 1099511627776) (w : World) : Calls Tryd.prog 69 [.string (mag a), .string (mag b)].toArray w (Ret (.tuple #[.string (mag (a / b)), .string (mag (a % b))]) w) := by
  refine fn_intro Tryd.func69 rfl Tryd.ntmps69 rfl ?_
  repeat (first | refine sX rfl rfl ?_ | (refine sS rfl rfl ?_ ?_; focus omega) | (refine sC rfl rfl ?_ ?_; focus (first | exact trivial | assumption | exact ⟨by assumption, by assumption⟩ | exact mb2 rfl rfl | exact mb4 rfl rfl rfl rfl)) | refine cX ?_ | refine cY ?_ | (refine sA rfl rfl ?_; intro _) | refine sT rfl ?_ | refine sW rfl rfl ?_ | refine sK rfl rfl ?_ | refine j_if rfl ?_ | refine j_else rfl ?_ | refine Go.Vt.jq (wl_pickT rfl rfl) rfl rfl ?_ | refine Go.Vt.jq (wl_pickF rfl rfl) rfl rfl ?_)
  refine j_cond rfl (fun h => ?_) (fun h => ?_)
  · rw [Bool.and_eq_true] at h
    have h1 := lo_sm h.1
    have h2 := lo_sm h.2
    have h3 := lo_lt a
    have h4 := lo_lt b
    rw [h1] at h3
    rw [h2] at h4
    simp only [h1, h2]
    have hqd : (a : Int) / (b : Int) = ((a / b : Nat) : Int) := rfl
    have hrd : (a : Int) % (b : Int) = ((a % b : Nat) : Int) := rfl
    have hq2 : a / b ≤ a := Nat.div_le_self _ _
    have hr2 : a % b ≤ a := Nat.mod_le _ _
    repeat (first | refine sX rfl rfl ?_ | (refine sS rfl rfl ?_ ?_; focus omega) | (refine sC rfl rfl ?_ ?_; focus (first | exact trivial | assumption | exact ⟨by assumption, by assumption⟩ | exact mb2 rfl rfl | exact mb4 rfl rfl rfl rfl)) | refine cX ?_ | refine cY ?_ | (refine sA rfl rfl ?_; intro _) | refine sT rfl ?_ | refine sW rfl rfl ?_ | refine sK rfl rfl ?_ | refine j_if rfl ?_ | refine j_else rfl ?_ | refine Go.Vt.jq (wl_pickT rfl rfl) rfl rfl ?_ | refine Go.Vt.jq (wl_pickF rfl rfl) rfl rfl ?_)
    refine jD 10 10 mixed (by kernel_rfl) ?_
    repeat (first | refine tX rfl rfl ?_ | (refine tS rfl rfl ?_ ?_; focus omega) | (refine tC rfl rfl ?_ ?_; focus (first | exact trivial | assumption | exact ⟨by assumption, by assumption⟩ | exact mb2 rfl rfl | exact mb4 rfl rfl rfl rfl)) | refine tW rfl rfl ?_ | refine tK rfl rfl ?_ | refine Go.Vt.hq (wl_pickT rfl rfl) rfl rfl ?_ | refine Go.Vt.hq (wl_pickF rfl rfl) rfl rfl ?_)
    refine hq (wl_quou rfl rfl ?_) rfl rfl ?_
    · omega
    rw [hqd]
    repeat (first | refine tX rfl rfl ?_ | (refine tS rfl rfl ?_ ?_; focus omega) | (refine tC rfl rfl ?_ ?_; focus (omega)) | refine tW rfl rfl ?_ | refine tK rfl rfl ?_ | refine Go.Vt.hq (wl_pickT rfl rfl) rfl rfl ?_ | refine Go.Vt.hq (wl_pickF rfl rfl) rfl rfl ?_)
    refine hq (wl_remu rfl rfl ?_) rfl rfl ?_
    · omega
    rw [hrd]
    repeat (first | refine tX rfl rfl ?_ | (refine tS rfl rfl ?_ ?_; focus omega) | (refine tC rfl rfl ?_ ?_; focus (omega)) | refine tW rfl rfl ?_ | refine tK rfl rfl ?_ | refine Go.Vt.hq (wl_pickT rfl rfl) rfl rfl ?_ | refine Go.Vt.hq (wl_pickF rfl rfl) rfl rfl ?_)
    refine jh_nil (jn_nil ?_)
    repeat (first | refine sX rfl rfl ?_ | (refine sS rfl rfl ?_ ?_; focus omega) | (refine sC rfl rfl ?_ ?_; focus (first | exact trivial | assumption | exact ⟨by assumption, by assumption⟩ | exact mb2 rfl rfl | exact mb4 rfl rfl rfl rfl)) | refine cX ?_ | refine cY ?_ | (refine sA rfl rfl ?_; intro _) | refine sT rfl ?_ | refine sW rfl rfl ?_ | refine sK rfl rfl ?_ | refine j_if rfl ?_ | refine j_else rfl ?_ | refine Go.Vt.jq (wl_pickT rfl rfl) rfl rfl ?_ | refine Go.Vt.jq (wl_pickF rfl rfl) rfl rfl ?_)
    exact jx_ret_two rfl (resv_tmp rfl) (resv_tmp rfl) (fun w hw => ret_ok hw)
  · repeat (first | refine sX rfl rfl ?_ | (refine sS rfl rfl ?_ ?_; focus omega) | (refine sC rfl rfl ?_ ?_; focus (first | exact trivial | assumption | exact ⟨by assumption, by assumption⟩ | exact mb2 rfl rfl | exact mb4 rfl rfl rfl rfl)) | refine cX ?_ | refine cY ?_ | (refine sA rfl rfl ?_; intro _) | refine sT rfl ?_ | refine sW rfl rfl ?_ | refine sK rfl rfl ?_ | refine j_if rfl ?_ | refine j_else rfl ?_ | refine Go.Vt.jq (wl_pickT rfl rfl) rfl rfl ?_ | refine Go.Vt.jq (wl_pickF rfl rfl) rfl rfl ?_)
    refine j_cond rfl (fun h => ?_) (fun h => ?_)
    · have hlt := cmp_neg.1 (of_decide_eq_true h)
      repeat (first | refine sX rfl rfl ?_ | (refine sS rfl rfl ?_ ?_; focus omega) | (refine sC rfl rfl ?_ ?_; focus (first | exact trivial | assumption | exact ⟨by assumption, by assumption⟩ | exact mb2 rfl rfl | exact mb4 rfl rfl rfl rfl)) | refine cX ?_ | refine cY ?_ | (refine sA rfl rfl ?_; intro _) | refine sT rfl ?_ | refine sW rfl rfl ?_ | refine sK rfl rfl ?_ | refine j_if rfl ?_ | refine j_else rfl ?_ | refine Go.Vt.jq (wl_pickT rfl rfl) rfl rfl ?_ | refine Go.Vt.jq (wl_pickF rfl rfl) rfl rfl ?_)
      rw [Nat.div_eq_of_lt (by omega), Nat.mod_eq_of_lt (by omega)]
      exact jx_ret_two rfl (resv_tmp rfl) (resv_tmp rfl) (fun w hw => ret_ok hw)
    · have hge : b ≤ a := by
        have := of_decide_eq_false h
        rw [cmp_neg] at this
        omega
      repeat (first | refine sX rfl rfl ?_ | (refine sS rfl rfl ?_ ?_; focus omega) | (refine sC rfl rfl ?_ ?_; focus (first | exact trivial | assumption | exact ⟨by assumption, by assumption⟩ | exact mb2 rfl rfl | exact mb4 rfl rfl rfl rfl)) | refine cX ?_ | refine cY ?_ | (refine sA rfl rfl ?_; intro _) | refine sT rfl ?_ | refine sW rfl rfl ?_ | refine sK rfl rfl ?_ | refine j_if rfl ?_ | refine j_else rfl ?_ | refine Go.Vt.jq (wl_pickT rfl rfl) rfl rfl ?_ | refine Go.Vt.jq (wl_pickF rfl rfl) rfl rfl ?_)
      refine wo_callB rfl (fun w' _ => digits_spec b hb w') rfl rfl ?_
      intro bY
      obtain ⟨nb, hnb⟩ : ∃ nb, nb = ((mag b).size + 3) / 4 := ⟨_, rfl⟩
      obtain ⟨na, hna⟩ : ∃ na, na = ((mag a).size + 3) / 4 := ⟨_, rfl⟩
      simp only [← hnb]
      obtain ⟨hn1, hbl, hbh⟩ := digs_low hb0 hnb
      obtain ⟨t, ht, ht0, htB, htl, hth⟩ := top_digit hb0 hnb
      have hvb : vd (dgs b nb) = b := by rw [hnb, digits_val]
      have hlb := dgs_len nb b
      have hDb := dgs_dg nb b
      repeat (first | refine sX rfl rfl ?_ | (refine sS rfl rfl ?_ ?_; focus omega) | (refine sC rfl rfl ?_ ?_; focus (first | exact trivial | assumption | exact ⟨by assumption, by assumption⟩ | exact mb2 rfl rfl | exact mb4 rfl rfl rfl rfl)) | refine cX ?_ | refine cY ?_ | (refine sA rfl rfl ?_; intro _) | refine sT rfl ?_ | refine sW rfl rfl ?_ | refine sK rfl rfl ?_ | refine j_if rfl ?_ | refine j_else rfl ?_ | refine Go.Vt.jq (wl_pickT rfl rfl) rfl rfl ?_ | refine Go.Vt.jq (wl_pickF rfl rfl) rfl rfl ?_)
      refine j_cond rfl (fun h => ?_) (fun h => ?_)
      · have hone : nb = 1 := by have := of_decide_eq_true h; omega
        subst hone
        repeat (first | refine sX rfl rfl ?_ | (refine sS rfl rfl ?_ ?_; focus omega) | (refine sC rfl rfl ?_ ?_; focus (first | exact trivial | assumption | exact ⟨by assumption, by assumption⟩ | exact mb2 rfl rfl | exact mb4 rfl rfl rfl rfl)) | refine cX ?_ | refine cY ?_ | (refine sA rfl rfl ?_; intro _) | refine sT rfl ?_ | refine sW rfl rfl ?_ | refine sK rfl rfl ?_ | refine j_if rfl ?_ | refine j_else rfl ?_ | refine Go.Vt.jq (wl_pickT rfl rfl) rfl rfl ?_ | refine Go.Vt.jq (wl_pickF rfl rfl) rfl rfl ?_)
        refine wo_callB rfl (fun w' _ => digits_spec a ha w') rfl rfl ?_
        intro bx
        simp only [← hna]
        repeat (first | refine sX rfl rfl ?_ | (refine sS rfl rfl ?_ ?_; focus omega) | (refine sC rfl rfl ?_ ?_; focus (first | exact trivial | assumption | exact ⟨by assumption, by assumption⟩ | exact mb2 rfl rfl | exact mb4 rfl rfl rfl rfl)) | refine cX ?_ | refine cY ?_ | (refine sA rfl rfl ?_; intro _) | refine sT rfl ?_ | refine sW rfl rfl ?_ | refine sK rfl rfl ?_ | refine j_if rfl ?_ | refine j_else rfl ?_ | refine Go.Vt.jq (wl_pickT rfl rfl) rfl rfl ?_ | refine Go.Vt.jq (wl_pickF rfl rfl) rfl rfl ?_)
        refine jq (wl_loadD rfl (show (dgs b 1)[0 + (0 : Int).toNat * 1]? = some t from ht)) rfl rfl ?_
        have htb : t = b := by
          simp only [Nat.sub_self, Nat.pow_zero, Nat.mul_one] at htl hth
          omega
        have hva : vd (dgs a na) = a := by rw [hna, digits_val]
        have hla := dgs_len na a
        have hDa := dgs_dg na a
        generalize dgs a na = xs at *
        subst hla
        refine wo_callX (S := List Nat) (fun qs => qs.length = xs.length ∧ Dg qs ∧ vd qs = vd xs / t) (fun _ => .int .u32 ((vd xs % t : Nat) : Int)) (fun qs => [⟨bx, dig .u32 qs, 117⟩, ⟨bY, dig .u32 (dgs b 1), 117⟩]) rfl
          (fun w' hw' => (short_spec bx xs.length xs t hDa (by omega) htB (by omega) _ w' _ hw').mono fun e w2 ⟨qs, g1, g2, g3, g4⟩ => ⟨qs, ⟨g1, g2, g3⟩, g4⟩) rfl rfl (fun qs hqs => ?_)
        obtain ⟨g1, g2, g3⟩ := hqs
        repeat (first | refine sX rfl rfl ?_ | (refine sS rfl rfl ?_ ?_; focus omega) | (refine sC rfl rfl ?_ ?_; focus (first | exact trivial | assumption | exact ⟨by assumption, by assumption⟩ | exact mb2 rfl rfl | exact mb4 rfl rfl rfl rfl)) | refine cX ?_ | refine cY ?_ | (refine sA rfl rfl ?_; intro _) | refine sT rfl ?_ | refine sW rfl rfl ?_ | refine sK rfl rfl ?_ | refine j_if rfl ?_ | refine j_else rfl ?_ | refine Go.Vt.jq (wl_pickT rfl rfl) rfl rfl ?_ | refine Go.Vt.jq (wl_pickF rfl rfl) rfl rfl ?_)
        refine jq (wl_callW rfl (fun w' hw' => bytes_spec bx xs.length xs.length qs (0, 0) (by omega) (Nat.le_refl _) (by omega) g2 w' (hw'.mem _ MemC.out).2)) rfl rfl ?_
        have e1 : vd (qs.take xs.length) = a / b := by rw [List.take_of_length_le (by omega), g3, hva, htb]
        have e2 : vd xs % t = a % b := by rw [hva, htb]
        rw [e1]
        have hrb : a % b < 4294967296 := by have := Nat.mod_lt a (Nat.pos_of_ne_zero hb0); omega
        simp only [e2]
        repeat (first | refine sX rfl rfl ?_ | (refine sS rfl rfl ?_ ?_; focus omega) | (refine sC rfl rfl ?_ ?_; focus (omega)) | refine cX ?_ | refine cY ?_ | (refine sA rfl rfl ?_; intro _) | refine sT rfl ?_ | refine sW rfl rfl ?_ | refine sK rfl rfl ?_ | refine j_if rfl ?_ | refine j_else rfl ?_ | refine Go.Vt.jq (wl_pickT rfl rfl) rfl rfl ?_ | refine Go.Vt.jq (wl_pickF rfl rfl) rfl rfl ?_)
        exact jx_ret_two rfl (resv_tmp rfl) (resv_tmp rfl) (fun w hw => ret_ok hw)
      · have hn2 : 2 ≤ nb := by have := of_decide_eq_false h; omega
        have hnle : nb ≤ na := by have := size_mono hge; omega
        obtain ⟨l1, l2, l3⟩ := bit32 ht0 htB
        obtain ⟨s, hs⟩ : ∃ s, s = 32 - Lib.bitLen t := ⟨_, rfl⟩
        have es : (32 : Int) - Lib.bitLen t = (s : Int) := by omega
        have hs32 : s < 32 := by omega
        rw [show Lib.bitLen t = 32 - s by omega] at l3
        have hYB := shift_top hn1 (by omega) hth l3
        obtain ⟨hp1, hp2⟩ := pow31 hs32
        repeat (first | refine sX rfl rfl ?_ | (refine sS rfl rfl ?_ ?_; focus omega) | (refine sC rfl rfl ?_ ?_; focus (first | exact trivial | assumption | exact ⟨by assumption, by assumption⟩ | exact mb2 rfl rfl | exact mb4 rfl rfl rfl rfl)) | refine cX ?_ | refine cY ?_ | (refine sA rfl rfl ?_; intro _) | refine sT rfl ?_ | refine sW rfl rfl ?_ | refine sK rfl rfl ?_ | refine j_if rfl ?_ | refine j_else rfl ?_ | refine Go.Vt.jq (wl_pickT rfl rfl) rfl rfl ?_ | refine Go.Vt.jq (wl_pickF rfl rfl) rfl rfl ?_)
        refine jq (wl_loadD rfl (show (dgs b nb)[0 + ((nb : Int) - 1).toNat * 1]? = some t by rw [show 0 + ((nb : Int) - 1).toNat * 1 = nb - 1 by omega]; exact ht)) rfl rfl ?_
        repeat (first | refine sX rfl rfl ?_ | (refine sS rfl rfl ?_ ?_; focus omega) | (refine sC rfl rfl ?_ ?_; focus (exact htB)) | refine cX ?_ | refine cY ?_ | (refine sA rfl rfl ?_; intro _) | refine sT rfl ?_ | refine sW rfl rfl ?_ | refine sK rfl rfl ?_ | refine j_if rfl ?_ | refine j_else rfl ?_ | refine Go.Vt.jq (wl_pickT rfl rfl) rfl rfl ?_ | refine Go.Vt.jq (wl_pickF rfl rfl) rfl rfl ?_)
        simp only [es]
        refine wo_callB rfl (fun w' _ => digits_spec a ha w') rfl rfl ?_
        intro bxa
        simp only [← hna]
        have hva : vd (dgs a na) = a := by rw [hna, digits_val]
        have hla := dgs_len na a
        have hDa := dgs_dg na a
        have haB : a < 4294967296 ^ na := (digs_low (by omega) hna).2.2
        generalize dgs a na = xs at *
        subst hla
        generalize dgs b nb = ys0 at *
        subst hlb
        repeat (first | refine sX rfl rfl ?_ | (refine sS rfl rfl ?_ ?_; focus omega) | (refine sC rfl rfl ?_ ?_; focus (first | exact trivial | assumption | exact ⟨by assumption, by assumption⟩ | exact mb2 rfl rfl | exact mb4 rfl rfl rfl rfl)) | refine cX ?_ | refine cY ?_ | (refine sA rfl rfl ?_; intro _) | refine sT rfl ?_ | refine sW rfl rfl ?_ | refine sK rfl rfl ?_ | refine j_if rfl ?_ | refine j_else rfl ?_ | refine Go.Vt.jq (wl_pickT rfl rfl) rfl rfl ?_ | refine Go.Vt.jq (wl_pickF rfl rfl) rfl rfl ?_)
        refine wo_callB rfl (fun w' hw' => shifted_spec' bxa xs.length xs s (0, 0) hs32 hDa (by omega) w' (hw'.mem _ MemC.out).2) rfl rfl ?_
        intro bx
        rw [hva]
        repeat (first | refine sX rfl rfl ?_ | (refine sS rfl rfl ?_ ?_; focus omega) | (refine sC rfl rfl ?_ ?_; focus (first | exact trivial | assumption | exact ⟨by assumption, by assumption⟩ | exact mb2 rfl rfl | exact mb4 rfl rfl rfl rfl)) | refine cX ?_ | refine cY ?_ | (refine sA rfl rfl ?_; intro _) | refine sT rfl ?_ | refine sW rfl rfl ?_ | refine sK rfl rfl ?_ | refine j_if rfl ?_ | refine j_else rfl ?_ | refine Go.Vt.jq (wl_pickT rfl rfl) rfl rfl ?_ | refine Go.Vt.jq (wl_pickF rfl rfl) rfl rfl ?_)
        refine wo_callB rfl (fun w' hw' => shifted_spec' bY ys0.length ys0 s (0, 0) hs32 hDb (by omega) w' (hw'.mem _ MemC.out).2) rfl rfl ?_
        intro b2
        rw [hvb, dgs_snoc hYB]
        repeat (first | refine sX rfl rfl ?_ | (refine sS rfl rfl ?_ ?_; focus omega) | (refine sC rfl rfl ?_ ?_; focus (first | exact trivial | assumption | exact ⟨by assumption, by assumption⟩ | exact mb2 rfl rfl | exact mb4 rfl rfl rfl rfl)) | refine cX ?_ | refine cY ?_ | (refine sA rfl rfl ?_; intro _) | refine sT rfl ?_ | refine sW rfl rfl ?_ | refine sK rfl rfl ?_ | refine j_if rfl ?_ | refine j_else rfl ?_ | refine Go.Vt.jq (wl_pickT rfl rfl) rfl rfl ?_ | refine Go.Vt.jq (wl_pickF rfl rfl) rfl rfl ?_)
        refine jq (wl_slice_hi rfl rfl (by omega)) rfl rfl ?_
        rw [Int.toNat_natCast]
        repeat (first | refine sX rfl rfl ?_ | (refine sS rfl rfl ?_ ?_; focus omega) | (refine sC rfl rfl ?_ ?_; focus (first | exact trivial | assumption | exact ⟨by assumption, by assumption⟩ | exact mb2 rfl rfl | exact mb4 rfl rfl rfl rfl)) | refine cX ?_ | refine cY ?_ | (refine sA rfl rfl ?_; intro _) | refine sT rfl ?_ | refine sW rfl rfl ?_ | refine sK rfl rfl ?_ | refine j_if rfl ?_ | refine j_else rfl ?_ | refine Go.Vt.jq (wl_pickT rfl rfl) rfl rfl ?_ | refine Go.Vt.jq (wl_pickF rfl rfl) rfl rfl ?_)
        obtain ⟨n, hn⟩ : ∃ n, n = ys0.length := ⟨_, rfl⟩
        obtain ⟨m, hm⟩ : ∃ m, xs.length + 1 = m + n := ⟨xs.length + 1 - n, by omega⟩
        have em : ((xs.length + 1 : Nat) : Int) - (ys0.length : Int) = (m : Int) := by omega
        simp only [em]
        simp only [← hn]
        refine wo_makeD (k := .u32) (B := 4) (m := m) rfl rfl ⟨by omega, by omega⟩ rfl rfl ?_
        intro bo
        repeat (first | refine sX rfl rfl ?_ | (refine sS rfl rfl ?_ ?_; focus omega) | (refine sC rfl rfl ?_ ?_; focus (first | exact trivial | assumption | exact ⟨by assumption, by assumption⟩ | exact mb2 rfl rfl | exact mb4 rfl rfl rfl rfl)) | refine cX ?_ | refine cY ?_ | (refine sA rfl rfl ?_; intro _) | refine sT rfl ?_ | refine sW rfl rfl ?_ | refine sK rfl rfl ?_ | refine j_if rfl ?_ | refine j_else rfl ?_ | refine Go.Vt.jq (wl_pickT rfl rfl) rfl rfl ?_ | refine Go.Vt.jq (wl_pickF rfl rfl) rfl rfl ?_)
        have hki := ki_start (s := s) haB (by rw [hn]; exact hbl) (by omega) hm hs32
        have hlX := dgs_len (xs.length + 1) (a * 2 ^ s)
        generalize dgs (a * 2 ^ s) (xs.length + 1) = Xs at *
        rw [← hn] at hYB
        have hvY : vd (dgs (b * 2 ^ s) n) = b * 2 ^ s := by rw [vd_dgs, Nat.mod_eq_of_lt hYB]
        have hlY := dgs_len n (b * 2 ^ s)
        have hDY := dgs_dg n (b * 2 ^ s)
        generalize dgs (b * 2 ^ s) n = ys at *
        simp only [hm]
        have hYlow : 4294967296 ^ (n - 1) ≤ b * 2 ^ s := by
          have h1 : b * 1 ≤ b * 2 ^ s := Nat.mul_le_mul_left _ hp1
          rw [hn]
          omega
        generalize hY : b * 2 ^ s = Y at *
        have hm40 : m + n ≤ 1099511627776 := by omega
        clear hvb hDb hva hDa ht hth htl
        refine j_loop (S := Nat × List Nat × List Nat) (fun t => KI (a * 2 ^ s) Y n m t.1 t.2.1 t.2.2)
          (fun t => [(9, .slice (some ⟨b2, 0, none⟩) n (n + 1)), (12, .int .i64 s), (13, .slice (some ⟨bx, 0, none⟩) (m + n) (m + n)), (14, .int .i64 n), (15, .slice (some ⟨bo, 0, none⟩) m m), (16, .int .i64 ((t.1 : Int) - 1))])
          (fun t => [⟨bo, dig .u32 t.2.2, 117⟩, ⟨b2, dig .u32 (ys ++ [0]), 117⟩, ⟨bx, dig .u32 t.2.1, 117⟩]) (fun t => t.1) (m, Xs, List.replicate m 0) hki
          (by repeat (first | exact sub_nil | refine sub_cons rfl ?_)) (by repeat (first | exact List.Sublist.refl _ | exact List.nil_sublist _ | refine List.Sublist.cons_cons _ ?_ | refine List.Sublist.cons _ ?_)) (fun t ht => ?_)
        obtain ⟨k, zs, os⟩ := t
        simp only at ht ⊢
        repeat (first | refine sX rfl rfl ?_ | (refine sS rfl rfl ?_ ?_; focus omega) | (refine sC rfl rfl ?_ ?_; focus (first | exact trivial | assumption | exact ⟨by assumption, by assumption⟩ | exact mb2 rfl rfl | exact mb4 rfl rfl rfl rfl)) | refine cX ?_ | refine cY ?_ | (refine sA rfl rfl ?_; intro _) | refine sT rfl ?_ | refine sW rfl rfl ?_ | refine sK rfl rfl ?_ | refine j_if rfl ?_ | refine j_else rfl ?_ | refine Go.Vt.jq (wl_pickT rfl rfl) rfl rfl ?_ | refine Go.Vt.jq (wl_pickF rfl rfl) rfl rfl ?_)
        refine j_cond rfl (fun h => ?_) (fun h => ?_)
        · have hpos : 0 < k := by have := of_decide_eq_true h; omega
          obtain ⟨j, rfl⟩ : ∃ j, k = j + 1 := ⟨k - 1, by omega⟩
          obtain ⟨kk, klz, kdz, klo, kdo, kz0, keq, klt⟩ := ht
          have hjn : j + n < zs.length := by omega
          have hj1 : j + n - 1 < zs.length := by omega
          have hj2 : j + n - 2 < zs.length := by omega
          have hy1 : n - 1 < ys.length := by omega
          have hy2 : n - 2 < ys.length := by omega
          obtain ⟨p0, p1, p2, p3, p4, p5, p6⟩ := round_pre kdz hDY (by omega) hlY hvY hjn klt
          have hz0 := dg_get kdz hjn
          have hz1 := dg_get kdz hj1
          have hz2 := dg_get kdz hj2
          have hv1 := dg_get hDY hy1
          have hv2 := dg_get hDY hy2
          have g1 : zs[j + n]? = some zs[j + n] := List.getElem?_eq_getElem hjn
          have g2 : zs[j + n - 1]? = some zs[j + n - 1] := List.getElem?_eq_getElem hj1
          have g3 : zs[j + n - 2]? = some zs[j + n - 2] := List.getElem?_eq_getElem hj2
          have g4 : (ys ++ [0])[n - 1]? = some ys[n - 1] := by rw [List.getElem?_append_left hy1]; exact List.getElem?_eq_getElem hy1
          have g5 : (ys ++ [0])[n - 2]? = some ys[n - 2] := by rw [List.getElem?_append_left hy2]; exact List.getElem?_eq_getElem hy2
          generalize hz0' : zs[j + n] = z0 at *
          generalize zs[j + n - 1] = z1 at *
          generalize zs[j + n - 2] = z2 at *
          generalize ys[n - 1] = v1 at *
          generalize ys[n - 2] = v2 at *
          have hv10 : 0 < v1 := v1_pos (by omega) hYlow p4 hv2
          have ej : ((j + 1 : Nat) : Int) - 1 = (j : Int) := by omega
          simp only [ej]
          repeat (first | refine sX rfl rfl ?_ | (refine sS rfl rfl ?_ ?_; focus omega) | (refine sC rfl rfl ?_ ?_; focus (first | exact trivial | assumption | exact ⟨by assumption, by assumption⟩ | exact mb2 rfl rfl | exact mb4 rfl rfl rfl rfl)) | refine cX ?_ | refine cY ?_ | (refine sA rfl rfl ?_; intro _) | refine sT rfl ?_ | refine sW rfl rfl ?_ | refine sK rfl rfl ?_ | refine j_if rfl ?_ | refine j_else rfl ?_ | refine Go.Vt.jq (wl_pickT rfl rfl) rfl rfl ?_ | refine Go.Vt.jq (wl_pickF rfl rfl) rfl rfl ?_)
          refine jD 18 18 mixed (by kernel_rfl) ?_
          repeat (first | refine tX rfl rfl ?_ | (refine tS rfl rfl ?_ ?_; focus omega) | (refine tC rfl rfl ?_ ?_; focus (first | exact trivial | assumption | exact ⟨by assumption, by assumption⟩ | exact mb2 rfl rfl | exact mb4 rfl rfl rfl rfl)) | refine tW rfl rfl ?_ | refine tK rfl rfl ?_ | refine Go.Vt.hq (wl_pickT rfl rfl) rfl rfl ?_ | refine Go.Vt.hq (wl_pickF rfl rfl) rfl rfl ?_)
          refine hq (wl_loadD rfl (show zs[0 + ((j : Int) + (n : Int)).toNat * 1]? = some z0 by rw [show 0 + ((j : Int) + (n : Int)).toNat * 1 = j + n by omega]; exact g1)) rfl rfl ?_
          repeat (first | refine tX rfl rfl ?_ | (refine tS rfl rfl ?_ ?_; focus omega) | (refine tC rfl rfl ?_ ?_; focus (first | exact trivial | assumption | exact ⟨by assumption, by assumption⟩ | exact mb2 rfl rfl | exact mb4 rfl rfl rfl rfl)) | refine tW rfl rfl ?_ | refine tK rfl rfl ?_ | refine Go.Vt.hq (wl_pickT rfl rfl) rfl rfl ?_ | refine Go.Vt.hq (wl_pickF rfl rfl) rfl rfl ?_)
          refine hq (wl_shl rfl rfl (by decide)) rfl rfl ?_
          repeat (first | refine tX rfl rfl ?_ | (refine tS rfl rfl ?_ ?_; focus omega) | (refine tC rfl rfl ?_ ?_; focus (first | exact trivial | assumption | exact ⟨by assumption, by assumption⟩ | exact mb2 rfl rfl | exact mb4 rfl rfl rfl rfl)) | refine tW rfl rfl ?_ | refine tK rfl rfl ?_ | refine Go.Vt.hq (wl_pickT rfl rfl) rfl rfl ?_ | refine Go.Vt.hq (wl_pickF rfl rfl) rfl rfl ?_)
          refine hq (wl_loadD rfl (show zs[0 + ((j : Int) + (n : Int) - 1).toNat * 1]? = some z1 by rw [show 0 + ((j : Int) + (n : Int) - 1).toNat * 1 = j + n - 1 by omega]; exact g2)) rfl rfl ?_
          repeat (first | refine tX rfl rfl ?_ | (refine tS rfl rfl ?_ ?_; focus omega) | (refine tC rfl rfl ?_ ?_; focus (first | exact trivial | assumption | exact ⟨by assumption, by assumption⟩ | exact mb2 rfl rfl | exact mb4 rfl rfl rfl rfl)) | refine tW rfl rfl ?_ | refine tK rfl rfl ?_ | refine Go.Vt.hq (wl_pickT rfl rfl) rfl rfl ?_ | refine Go.Vt.hq (wl_pickF rfl rfl) rfl rfl ?_)
          refine hq (wl_or rfl rfl) rfl rfl ?_
          rw [or_word _ _ hz0 hz1]
          repeat (first | refine tX rfl rfl ?_ | (refine tS rfl rfl ?_ ?_; focus omega) | (refine tC rfl rfl ?_ ?_; focus (first | exact trivial | assumption | exact ⟨by assumption, by assumption⟩ | exact mb2 rfl rfl | exact mb4 rfl rfl rfl rfl)) | refine tW rfl rfl ?_ | refine tK rfl rfl ?_ | refine Go.Vt.hq (wl_pickT rfl rfl) rfl rfl ?_ | refine Go.Vt.hq (wl_pickF rfl rfl) rfl rfl ?_)
          refine jh_nil (jn_nil ?_)
          obtain ⟨high, hhigh⟩ : ∃ high, high = z0 * 4294967296 + z1 := ⟨_, rfl⟩
          simp only [← hhigh] at p1 p2 ⊢
          have hqd : ((high : Nat) : Int) / (v1 : Int) = ((high / v1 : Nat) : Int) := rfl
          have hrd : ((high : Nat) : Int) % (v1 : Int) = ((high % v1 : Nat) : Int) := rfl
          repeat (first | refine sX rfl rfl ?_ | (refine sS rfl rfl ?_ ?_; focus omega) | (refine sC rfl rfl ?_ ?_; focus (first | exact trivial | assumption | exact ⟨by assumption, by assumption⟩ | exact mb2 rfl rfl | exact mb4 rfl rfl rfl rfl)) | refine cX ?_ | refine cY ?_ | (refine sA rfl rfl ?_; intro _) | refine sT rfl ?_ | refine sW rfl rfl ?_ | refine sK rfl rfl ?_ | refine j_if rfl ?_ | refine j_else rfl ?_ | refine Go.Vt.jq (wl_pickT rfl rfl) rfl rfl ?_ | refine Go.Vt.jq (wl_pickF rfl rfl) rfl rfl ?_)
          (refine j_late [0, 1, 2, 3, 4, 5, 6, 7, 8, 9, 10, 11, 12, 13, 14, 15] [16, 17] _ mixed (by kernel_rfl) (by decide) (List.Sublist.refl _) ?_; simp only [picks, List.getElem?_cons_succ, List.getElem?_cons_zero])
          repeat (first | refine tX rfl rfl ?_ | (refine tS rfl rfl ?_ ?_; focus omega) | (refine tC rfl rfl ?_ ?_; focus (first | exact trivial | assumption | exact ⟨by assumption, by assumption⟩ | exact mb2 rfl rfl | exact mb4 rfl rfl rfl rfl)) | refine tW rfl rfl ?_ | refine tK rfl rfl ?_ | refine Go.Vt.hq (wl_pickT rfl rfl) rfl rfl ?_ | refine Go.Vt.hq (wl_pickF rfl rfl) rfl rfl ?_)
          refine hq (wl_loadD rfl (show (ys ++ [0])[0 + ((n : Int) - 1).toNat * 1]? = some v1 by rw [show 0 + ((n : Int) - 1).toNat * 1 = n - 1 by omega]; exact g4)) rfl rfl ?_
          repeat (first | refine tX rfl rfl ?_ | (refine tS rfl rfl ?_ ?_; focus omega) | (refine tC rfl rfl ?_ ?_; focus (first | exact trivial | assumption | exact ⟨by assumption, by assumption⟩ | exact mb2 rfl rfl | exact mb4 rfl rfl rfl rfl)) | refine tW rfl rfl ?_ | refine tK rfl rfl ?_ | refine Go.Vt.hq (wl_pickT rfl rfl) rfl rfl ?_ | refine Go.Vt.hq (wl_pickF rfl rfl) rfl rfl ?_)
          refine hq (wl_quou rfl rfl ?_) rfl rfl ?_
          · omega
          rw [hqd]
          repeat (first | refine tX rfl rfl ?_ | (refine tS rfl rfl ?_ ?_; focus omega) | (refine tC rfl rfl ?_ ?_; focus (first | exact trivial | assumption | exact ⟨by assumption, by assumption⟩ | exact mb2 rfl rfl | exact mb4 rfl rfl rfl rfl)) | refine tW rfl rfl ?_ | refine tK rfl rfl ?_ | refine Go.Vt.hq (wl_pickT rfl rfl) rfl rfl ?_ | refine Go.Vt.hq (wl_pickF rfl rfl) rfl rfl ?_)
          refine hq (wl_loadD rfl (show (ys ++ [0])[0 + ((n : Int) - 1).toNat * 1]? = some v1 by rw [show 0 + ((n : Int) - 1).toNat * 1 = n - 1 by omega]; exact g4)) rfl rfl ?_
          repeat (first | refine tX rfl rfl ?_ | (refine tS rfl rfl ?_ ?_; focus omega) | (refine tC rfl rfl ?_ ?_; focus (first | exact trivial | assumption | exact ⟨by assumption, by assumption⟩ | exact mb2 rfl rfl | exact mb4 rfl rfl rfl rfl)) | refine tW rfl rfl ?_ | refine tK rfl rfl ?_ | refine Go.Vt.hq (wl_pickT rfl rfl) rfl rfl ?_ | refine Go.Vt.hq (wl_pickF rfl rfl) rfl rfl ?_)
          refine hq (wl_remu rfl rfl ?_) rfl rfl ?_
          · omega
          rw [hrd]
          repeat (first | refine tX rfl rfl ?_ | (refine tS rfl rfl ?_ ?_; focus omega) | (refine tC rfl rfl ?_ ?_; focus (first | exact trivial | assumption | exact ⟨by assumption, by assumption⟩ | exact mb2 rfl rfl | exact mb4 rfl rfl rfl rfl)) | refine tW rfl rfl ?_ | refine tK rfl rfl ?_ | refine Go.Vt.hq (wl_pickT rfl rfl) rfl rfl ?_ | refine Go.Vt.hq (wl_pickF rfl rfl) rfl rfl ?_)
          refine jh_nil ?_
          refine je_assign rfl rfl rfl (List.Sublist.refl _) (je_assign rfl rfl rfl (List.Sublist.refl _) (je_nil ?_))
          have hst := guess_start hv10 hz2 p2 p3
          have hdm := Nat.div_add_mod high v1
          have hml := Nat.mod_lt high hv10
          have hgh : high / v1 ≤ high := Nat.div_le_self _ _
          generalize high / v1 = g0 at *
          generalize high % v1 = r0 at *
          generalize hU : vd (zs.drop j) = U at *
          refine jx_id (jx_then ?_)
          refine j_mid (S := Nat) (fun g => g < 4294967296 ∧ U < (g + 1) * Y ∧ g * Y ≤ U + Y)
            (fun g => [(9, .slice (some ⟨b2, 0, none⟩) n (n + 1)), (12, .int .i64 s), (13, .slice (some ⟨bx, 0, none⟩) (m + n) (m + n)), (14, .int .i64 n), (15, .slice (some ⟨bo, 0, none⟩) m m), (16, .int .i64 j), (18, .int .u64 g)])
            (fun _ => [⟨bo, dig .u32 os, 117⟩, ⟨b2, dig .u32 (ys ++ [0]), 117⟩, ⟨bx, dig .u32 zs, 117⟩]) ?_ (fun g hg => ?_)
          · repeat (first | refine sX rfl rfl ?_ | (refine sS rfl rfl ?_ ?_; focus omega) | (refine sC rfl rfl ?_ ?_; focus (first | exact trivial | assumption | exact ⟨by assumption, by assumption⟩ | exact mb2 rfl rfl | exact mb4 rfl rfl rfl rfl)) | refine cX ?_ | refine cY ?_ | (refine sA rfl rfl ?_; intro _) | refine sT rfl ?_ | refine sW rfl rfl ?_ | refine sK rfl rfl ?_ | refine j_if rfl ?_ | refine j_else rfl ?_ | refine Go.Vt.jq (wl_pickT rfl rfl) rfl rfl ?_ | refine Go.Vt.jq (wl_pickF rfl rfl) rfl rfl ?_)
            refine j_loop (S := Nat × Nat) (fun t => t.1 * v1 + t.2 = high ∧ t.1 ≤ high ∧ t.2 < 4294967296 ∧ U < (t.1 + 1) * Y)
              (fun t => [(9, .slice (some ⟨b2, 0, none⟩) n (n + 1)), (12, .int .i64 s), (13, .slice (some ⟨bx, 0, none⟩) (m + n) (m + n)), (14, .int .i64 n), (15, .slice (some ⟨bo, 0, none⟩) m m), (16, .int .i64 j), (18, .int .u64 t.1), (19, .int .u64 t.2)])
              (fun _ => [⟨bo, dig .u32 os, 117⟩, ⟨b2, dig .u32 (ys ++ [0]), 117⟩, ⟨bx, dig .u32 zs, 117⟩]) (fun t => t.1) (g0, r0) ⟨by rw [Nat.mul_comm]; exact hdm, hgh, by simp only; omega, hst⟩
              (by repeat (first | exact sub_nil | refine sub_cons rfl ?_)) (List.Sublist.refl _) (fun t ht => ?_)
            obtain ⟨g, r⟩ := t
            obtain ⟨q1, q2, q3, q4⟩ := ht
            simp only at q1 q2 q3 q4 ⊢
            refine j_mid (S := Unit) (fun _ => U < g * Y)
              (fun _ => [(9, .slice (some ⟨b2, 0, none⟩) n (n + 1)), (12, .int .i64 s), (13, .slice (some ⟨bx, 0, none⟩) (m + n) (m + n)), (14, .int .i64 n), (15, .slice (some ⟨bo, 0, none⟩) m m), (16, .int .i64 j), (18, .int .u64 g), (19, .int .u64 r)])
              (fun _ => [⟨bo, dig .u32 os, 117⟩, ⟨b2, dig .u32 (ys ++ [0]), 117⟩, ⟨bx, dig .u32 zs, 117⟩]) ?_ (fun _ hgr => ?_)
            · refine j_seq ?_
              rcases Nat.lt_or_ge g 4294967296 with hB | hB
              · have hdec : decide ((4294967296 : Int) ≤ (g : Int)) = false := decide_eq_false (by omega)
                obtain ⟨hw1, hw2⟩ := mul_word (c := 0) (o := 0) (by omega) (by omega) hB hv2
                refine jD 24 24 mixed (by kernel_rfl) ?_
                repeat (first | refine tX rfl rfl ?_ | (refine tS rfl rfl ?_ ?_; focus omega) | (refine tC rfl rfl ?_ ?_; focus (first | exact trivial | assumption | exact ⟨by assumption, by assumption⟩ | exact mb2 rfl rfl | exact mb4 rfl rfl rfl rfl)) | refine tW rfl rfl ?_ | refine tK rfl rfl ?_ | refine Go.Vt.hq (wl_pickT rfl rfl) rfl rfl ?_ | refine Go.Vt.hq (wl_pickF rfl rfl) rfl rfl ?_)
                simp only [hdec]
                repeat (first | refine tX rfl rfl ?_ | (refine tS rfl rfl ?_ ?_; focus omega) | (refine tC rfl rfl ?_ ?_; focus (first | exact trivial | assumption | exact ⟨by assumption, by assumption⟩ | exact mb2 rfl rfl | exact mb4 rfl rfl rfl rfl)) | refine tW rfl rfl ?_ | refine tK rfl rfl ?_ | refine Go.Vt.hq (wl_pickT rfl rfl) rfl rfl ?_ | refine Go.Vt.hq (wl_pickF rfl rfl) rfl rfl ?_)
                refine hq (wl_loadD rfl (show (ys ++ [0])[0 + ((n : Int) - 2).toNat * 1]? = some v2 by rw [show 0 + ((n : Int) - 2).toNat * 1 = n - 2 by omega]; exact g5)) rfl rfl ?_
                refine hq (wl_cvu rfl ?_) rfl rfl ?_
                · omega
                refine hq (wl_mulu rfl rfl ?_) rfl rfl ?_
                · rw [← Int.natCast_mul]; omega
                rw [← Int.natCast_mul]
                repeat (first | refine tX rfl rfl ?_ | (refine tS rfl rfl ?_ ?_; focus omega) | (refine tC rfl rfl ?_ ?_; focus (first | exact trivial | assumption | exact ⟨by assumption, by assumption⟩ | exact mb2 rfl rfl | exact mb4 rfl rfl rfl rfl)) | refine tW rfl rfl ?_ | refine tK rfl rfl ?_ | refine Go.Vt.hq (wl_pickT rfl rfl) rfl rfl ?_ | refine Go.Vt.hq (wl_pickF rfl rfl) rfl rfl ?_)
                refine hq (wl_shl rfl rfl (by decide)) rfl rfl ?_
                repeat (first | refine tX rfl rfl ?_ | (refine tS rfl rfl ?_ ?_; focus omega) | (refine tC rfl rfl ?_ ?_; focus (first | exact trivial | assumption | exact ⟨by assumption, by assumption⟩ | exact mb2 rfl rfl | exact mb4 rfl rfl rfl rfl)) | refine tW rfl rfl ?_ | refine tK rfl rfl ?_ | refine Go.Vt.hq (wl_pickT rfl rfl) rfl rfl ?_ | refine Go.Vt.hq (wl_pickF rfl rfl) rfl rfl ?_)
                refine hq (wl_loadD rfl (show zs[0 + ((j : Int) + (n : Int) - 2).toNat * 1]? = some z2 by rw [show 0 + ((j : Int) + (n : Int) - 2).toNat * 1 = j + n - 2 by omega]; exact g3)) rfl rfl ?_
                repeat (first | refine tX rfl rfl ?_ | (refine tS rfl rfl ?_ ?_; focus omega) | (refine tC rfl rfl ?_ ?_; focus (first | exact trivial | assumption | exact ⟨by assumption, by assumption⟩ | exact mb2 rfl rfl | exact mb4 rfl rfl rfl rfl)) | refine tW rfl rfl ?_ | refine tK rfl rfl ?_ | refine Go.Vt.hq (wl_pickT rfl rfl) rfl rfl ?_ | refine Go.Vt.hq (wl_pickF rfl rfl) rfl rfl ?_)
                refine hq (wl_or rfl rfl) rfl rfl ?_
                rw [or_word _ _ q3 hz2]
                repeat (first | refine tX rfl rfl ?_ | (refine tS rfl rfl ?_ ?_; focus omega) | (refine tC rfl rfl ?_ ?_; focus (first | exact trivial | assumption | exact ⟨by assumption, by assumption⟩ | exact mb2 rfl rfl | exact mb4 rfl rfl rfl rfl)) | refine tW rfl rfl ?_ | refine tK rfl rfl ?_ | refine Go.Vt.hq (wl_pickT rfl rfl) rfl rfl ?_ | refine Go.Vt.hq (wl_pickF rfl rfl) rfl rfl ?_)
                refine jh_nil (jn_nil ?_)
                repeat (first | refine sX rfl rfl ?_ | (refine sS rfl rfl ?_ ?_; focus omega) | (refine sC rfl rfl ?_ ?_; focus (first | exact trivial | assumption | exact ⟨by assumption, by assumption⟩ | exact mb2 rfl rfl | exact mb4 rfl rfl rfl rfl)) | refine cX ?_ | refine cY ?_ | (refine sA rfl rfl ?_; intro _) | refine sT rfl ?_ | refine sW rfl rfl ?_ | refine sK rfl rfl ?_ | refine j_if rfl ?_ | refine j_else rfl ?_ | refine Go.Vt.jq (wl_pickT rfl rfl) rfl rfl ?_ | refine Go.Vt.jq (wl_pickF rfl rfl) rfl rfl ?_)
                refine j_cond rfl (fun h => ?_) (fun h => ?_)
                · have hlt : r * 4294967296 + z2 < g * v2 := by have := of_decide_eq_true h; omega
                  repeat (first | refine sX rfl rfl ?_ | (refine sS rfl rfl ?_ ?_; focus omega) | (refine sC rfl rfl ?_ ?_; focus (first | exact trivial | assumption | exact ⟨by assumption, by assumption⟩ | exact mb2 rfl rfl | exact mb4 rfl rfl rfl rfl)) | refine cX ?_ | refine cY ?_ | (refine sA rfl rfl ?_; intro _) | refine sT rfl ?_ | refine sW rfl rfl ?_ | refine sK rfl rfl ?_ | refine j_if rfl ?_ | refine j_else rfl ?_ | refine Go.Vt.jq (wl_pickT rfl rfl) rfl rfl ?_ | refine Go.Vt.jq (wl_pickF rfl rfl) rfl rfl ?_)
                  exact jx_mid () (guess_less q1 hlt p2 p3) (by repeat (first | exact sub_nil | refine sub_cons rfl ?_)) (List.Sublist.refl _)
                · have hle : g * v2 ≤ r * 4294967296 + z2 := by have := of_decide_eq_false h; omega
                  repeat (first | refine sX rfl rfl ?_ | (refine sS rfl rfl ?_ ?_; focus omega) | (refine sC rfl rfl ?_ ?_; focus (first | exact trivial | assumption | exact ⟨by assumption, by assumption⟩ | exact mb2 rfl rfl | exact mb4 rfl rfl rfl rfl)) | refine cX ?_ | refine cY ?_ | (refine sA rfl rfl ?_; intro _) | refine sT rfl ?_ | refine sW rfl rfl ?_ | refine sK rfl rfl ?_ | refine j_if rfl ?_ | refine j_else rfl ?_ | refine Go.Vt.jq (wl_pickT rfl rfl) rfl rfl ?_ | refine Go.Vt.jq (wl_pickF rfl rfl) rfl rfl ?_)
                  exact jx_mid g ⟨hB, q4, guess_end hv10 q1 hle hB p1 (Nat.le_of_lt p4) p3⟩ (by repeat (first | exact sub_nil | refine sub_cons rfl ?_)) (List.Sublist.refl _)
              · have hdec : decide ((4294967296 : Int) ≤ (g : Int)) = true := decide_eq_true (by omega)
                refine jD 24 24 mixed (by kernel_rfl) ?_
                repeat (first | refine tX rfl rfl ?_ | (refine tS rfl rfl ?_ ?_; focus omega) | (refine tC rfl rfl ?_ ?_; focus (first | exact trivial | assumption | exact ⟨by assumption, by assumption⟩ | exact mb2 rfl rfl | exact mb4 rfl rfl rfl rfl)) | refine tW rfl rfl ?_ | refine tK rfl rfl ?_ | refine Go.Vt.hq (wl_pickT rfl rfl) rfl rfl ?_ | refine Go.Vt.hq (wl_pickF rfl rfl) rfl rfl ?_)
                simp only [hdec]
                repeat (first | refine tX rfl rfl ?_ | (refine tS rfl rfl ?_ ?_; focus omega) | (refine tC rfl rfl ?_ ?_; focus (first | exact trivial | assumption | exact ⟨by assumption, by assumption⟩ | exact mb2 rfl rfl | exact mb4 rfl rfl rfl rfl)) | refine tW rfl rfl ?_ | refine tK rfl rfl ?_ | refine Go.Vt.hq (wl_pickT rfl rfl) rfl rfl ?_ | refine Go.Vt.hq (wl_pickF rfl rfl) rfl rfl ?_)
                refine jh_nil (jn_nil ?_)
                repeat (first | refine sX rfl rfl ?_ | (refine sS rfl rfl ?_ ?_; focus omega) | (refine sC rfl rfl ?_ ?_; focus (first | exact trivial | assumption | exact ⟨by assumption, by assumption⟩ | exact mb2 rfl rfl | exact mb4 rfl rfl rfl rfl)) | refine cX ?_ | refine cY ?_ | (refine sA rfl rfl ?_; intro _) | refine sT rfl ?_ | refine sW rfl rfl ?_ | refine sK rfl rfl ?_ | refine j_if rfl ?_ | refine j_else rfl ?_ | refine Go.Vt.jq (wl_pickT rfl rfl) rfl rfl ?_ | refine Go.Vt.jq (wl_pickF rfl rfl) rfl rfl ?_)
                exact jx_mid () (Nat.lt_of_lt_of_le p6 (Nat.mul_le_mul_right _ hB)) (by repeat (first | exact sub_nil | refine sub_cons rfl ?_)) (List.Sublist.refl _)
            · have hg1 : 1 ≤ g := by
                rcases Nat.eq_zero_or_pos g with h0 | h0
                · subst h0; omega
                · exact h0
              obtain ⟨g', rfl⟩ : ∃ g', g = g' + 1 := ⟨g - 1, by omega⟩
              have hwr : IntKind.u64.wrap (((g' + 1 : Nat) : Int) - 1) = (g' : Int) := by rw [IntWalk.u64_in _ (by omega)]; omega
              rw [Nat.add_mul, Nat.one_mul] at q1
              have q1' : g' * v1 + (r + v1) = high := by omega
              repeat (first | refine sX rfl rfl ?_ | (refine sS rfl rfl ?_ ?_; focus omega) | (refine sC rfl rfl ?_ ?_; focus (first | exact trivial | assumption | exact ⟨by assumption, by assumption⟩ | exact mb2 rfl rfl | exact mb4 rfl rfl rfl rfl)) | refine cX ?_ | refine cY ?_ | (refine sA rfl rfl ?_; intro _) | refine sT rfl ?_ | refine sW rfl rfl ?_ | refine sK rfl rfl ?_ | refine j_if rfl ?_ | refine j_else rfl ?_ | refine Go.Vt.jq (wl_pickT rfl rfl) rfl rfl ?_ | refine Go.Vt.jq (wl_pickF rfl rfl) rfl rfl ?_)
              simp only [hwr]
              refine jq (wl_loadD rfl (show (ys ++ [0])[0 + ((n : Int) - 1).toNat * 1]? = some v1 by rw [show 0 + ((n : Int) - 1).toNat * 1 = n - 1 by omega]; exact g4)) rfl rfl ?_
              repeat (first | refine sX rfl rfl ?_ | (refine sS rfl rfl ?_ ?_; focus omega) | (refine sC rfl rfl ?_ ?_; focus (first | exact trivial | assumption | exact ⟨by assumption, by assumption⟩ | exact mb2 rfl rfl | exact mb4 rfl rfl rfl rfl)) | refine cX ?_ | refine cY ?_ | (refine sA rfl rfl ?_; intro _) | refine sT rfl ?_ | refine sW rfl rfl ?_ | refine sK rfl rfl ?_ | refine j_if rfl ?_ | refine j_else rfl ?_ | refine Go.Vt.jq (wl_pickT rfl rfl) rfl rfl ?_ | refine Go.Vt.jq (wl_pickF rfl rfl) rfl rfl ?_)
              refine j_cond rfl (fun h => ?_) (fun h => ?_)
              · have hbig : 4294967296 ≤ r + v1 := by have := of_decide_eq_true h; omega
                have hB : g' < 4294967296 := by
                  rcases Nat.lt_or_ge g' 4294967296 with h1 | h1
                  · exact h1
                  · have := guess_big (q1'.trans hhigh) p5 hz1 h1
                    omega
                have hle : g' * v2 ≤ (r + v1) * 4294967296 + z2 := by
                  have h1 : g' * v2 ≤ 4294967296 * 4294967296 := Nat.mul_le_mul (by omega) (by omega)
                  omega
                repeat (first | refine sX rfl rfl ?_ | (refine sS rfl rfl ?_ ?_; focus omega) | (refine sC rfl rfl ?_ ?_; focus (first | exact trivial | assumption | exact ⟨by assumption, by assumption⟩ | exact mb2 rfl rfl | exact mb4 rfl rfl rfl rfl)) | refine cX ?_ | refine cY ?_ | (refine sA rfl rfl ?_; intro _) | refine sT rfl ?_ | refine sW rfl rfl ?_ | refine sK rfl rfl ?_ | refine j_if rfl ?_ | refine j_else rfl ?_ | refine Go.Vt.jq (wl_pickT rfl rfl) rfl rfl ?_ | refine Go.Vt.jq (wl_pickF rfl rfl) rfl rfl ?_)
                exact jx_mid g' ⟨hB, hgr, guess_end hv10 q1' hle hB p1 (Nat.le_of_lt p4) p3⟩ (by repeat (first | exact sub_nil | refine sub_cons rfl ?_)) (List.Sublist.refl _)
              · have hsm : r + v1 < 4294967296 := by have := of_decide_eq_false h; omega
                repeat (first | refine sX rfl rfl ?_ | (refine sS rfl rfl ?_ ?_; focus omega) | (refine sC rfl rfl ?_ ?_; focus (first | exact trivial | assumption | exact ⟨by assumption, by assumption⟩ | exact mb2 rfl rfl | exact mb4 rfl rfl rfl rfl)) | refine cX ?_ | refine cY ?_ | (refine sA rfl rfl ?_; intro _) | refine sT rfl ?_ | refine sW rfl rfl ?_ | refine sK rfl rfl ?_ | refine j_if rfl ?_ | refine j_else rfl ?_ | refine Go.Vt.jq (wl_pickT rfl rfl) rfl rfl ?_ | refine Go.Vt.jq (wl_pickF rfl rfl) rfl rfl ?_)
                exact jx_loop (g', r + v1) ⟨q1', by simp only; omega, hsm, hgr⟩ (by repeat (first | exact sub_nil | refine sub_cons rfl ?_)) (List.Sublist.refl _) (by simp only; omega)
          · obtain ⟨hgB, hgU, hgY⟩ := hg
            repeat (first | refine sX rfl rfl ?_ | (refine sS rfl rfl ?_ ?_; focus omega) | (refine sC rfl rfl ?_ ?_; focus (first | exact trivial | assumption | exact ⟨by assumption, by assumption⟩ | exact mb2 rfl rfl | exact mb4 rfl rfl rfl rfl)) | refine cX ?_ | refine cY ?_ | (refine sA rfl rfl ?_; intro _) | refine sT rfl ?_ | refine sW rfl rfl ?_ | refine sK rfl rfl ?_ | refine j_if rfl ?_ | refine j_else rfl ?_ | refine Go.Vt.jq (wl_pickT rfl rfl) rfl rfl ?_ | refine Go.Vt.jq (wl_pickF rfl rfl) rfl rfl ?_)
            refine j_loop (S := Nat × List Nat × Nat × Nat) (fun t => t.1 ≤ n ∧ Same zs t.2.1 j n ∧ t.2.1[j + n]? = some z0 ∧ t.2.2.1 < 4294967296 ∧ t.2.2.2 ≤ 1 ∧ vd t.2.1 + g * vd (ys.take t.1) * 4294967296 ^ j = vd zs + (t.2.2.1 + t.2.2.2) * 4294967296 ^ (t.1 + j))
              (fun t => [(9, .slice (some ⟨b2, 0, none⟩) n (n + 1)), (12, .int .i64 s), (13, .slice (some ⟨bx, 0, none⟩) (m + n) (m + n)), (14, .int .i64 n), (15, .slice (some ⟨bo, 0, none⟩) m m), (16, .int .i64 j), (18, .int .u64 g), (20, .int .i64 t.2.2.2), (21, .int .u64 t.2.2.1), (167, .int .i64 n), (168, .int .i64 t.1)])
              (fun t => [⟨bo, dig .u32 os, 117⟩, ⟨b2, dig .u32 (ys ++ [0]), 117⟩, ⟨bx, dig .u32 t.2.1, 117⟩]) (fun t => n - t.1) (0, zs, 0, 0) ⟨Nat.zero_le _, same_refl kdz, g1, by simp, by simp, by simp [vd]⟩
              (by repeat (first | exact sub_nil | refine sub_cons rfl ?_)) (List.Sublist.refl _) (fun t ht => ?_)
            obtain ⟨i, zq, c, bw⟩ := t
            obtain ⟨hi, hsm, hzt, hc, hbw, hinv⟩ := ht
            simp only at hi hsm hzt hc hbw hinv ⊢
            repeat (first | refine sX rfl rfl ?_ | (refine sS rfl rfl ?_ ?_; focus omega) | (refine sC rfl rfl ?_ ?_; focus (first | exact trivial | assumption | exact ⟨by assumption, by assumption⟩ | exact mb2 rfl rfl | exact mb4 rfl rfl rfl rfl)) | refine cX ?_ | refine cY ?_ | (refine sA rfl rfl ?_; intro _) | refine sT rfl ?_ | refine sW rfl rfl ?_ | refine sK rfl rfl ?_ | refine j_if rfl ?_ | refine j_else rfl ?_ | refine Go.Vt.jq (wl_pickT rfl rfl) rfl rfl ?_ | refine Go.Vt.jq (wl_pickF rfl rfl) rfl rfl ?_)
            refine j_cond rfl (fun h => ?_) (fun h => ?_)
            · have hin : i < n := by have := of_decide_eq_true h; omega
              have hiy : i < ys.length := by omega
              have hiz : i + j < zq.length := by rw [hsm.len]; omega
              have hdy := dg_get hDY hiy
              have hdz := dg_get hsm.dg hiz
              obtain ⟨hw1, hw2⟩ := mul_word (o := 0) hc (by omega) hgB hdy
              obtain ⟨T, hT⟩ : ∃ T, T = c + g * ys[i] := ⟨_, rfl⟩
              repeat (first | refine sX rfl rfl ?_ | (refine sS rfl rfl ?_ ?_; focus omega) | (refine sC rfl rfl ?_ ?_; focus (first | exact trivial | assumption | exact ⟨by assumption, by assumption⟩ | exact mb2 rfl rfl | exact mb4 rfl rfl rfl rfl)) | refine cX ?_ | refine cY ?_ | (refine sA rfl rfl ?_; intro _) | refine sT rfl ?_ | refine sW rfl rfl ?_ | refine sK rfl rfl ?_ | refine j_if rfl ?_ | refine j_else rfl ?_ | refine Go.Vt.jq (wl_pickT rfl rfl) rfl rfl ?_ | refine Go.Vt.jq (wl_pickF rfl rfl) rfl rfl ?_)
              refine jq (wl_loadD rfl (show (ys ++ [0])[0 + (i : Int).toNat * 1]? = some ys[i] by rw [show 0 + (i : Int).toNat * 1 = i by omega, List.getElem?_append_left hiy]; exact List.getElem?_eq_getElem hiy)) rfl rfl ?_
              refine jq (wl_cvu rfl ?_) rfl rfl ?_
              · omega
              refine jq (wl_mulu rfl rfl ?_) rfl rfl ?_
              · rw [← Int.natCast_mul]; omega
              rw [← Int.natCast_mul]
              repeat (first | refine sX rfl rfl ?_ | (refine sS rfl rfl ?_ ?_; focus omega) | (refine sC rfl rfl ?_ ?_; focus (first | exact trivial | assumption | exact ⟨by assumption, by assumption⟩ | exact mb2 rfl rfl | exact mb4 rfl rfl rfl rfl)) | refine cX ?_ | refine cY ?_ | (refine sA rfl rfl ?_; intro _) | refine sT rfl ?_ | refine sW rfl rfl ?_ | refine sK rfl rfl ?_ | refine j_if rfl ?_ | refine j_else rfl ?_ | refine Go.Vt.jq (wl_pickT rfl rfl) rfl rfl ?_ | refine Go.Vt.jq (wl_pickF rfl rfl) rfl rfl ?_)
              rw [show (c : Int) + ((g * ys[i] : Nat) : Int) = (T : Int) by omega]
              refine jq (wl_loadD rfl (show zq[0 + ((i : Int) + (j : Int)).toNat * 1]? = some zq[i + j] by rw [show 0 + ((i : Int) + (j : Int)).toNat * 1 = i + j by omega]; exact List.getElem?_eq_getElem hiz)) rfl rfl ?_
              refine jq (wl_cv64 rfl ?_) rfl rfl ?_
              · omega
              refine jq (yl_move rfl) rfl rfl ?_
              refine jq (wl_sub64 rfl rfl ?_) rfl rfl ?_
              · omega
              refine jq (yl_move rfl) rfl rfl ?_
              refine jq (wl_cv rfl) rfl rfl ?_
              rw [IntKind.wrap_u32, show (T : Int) % 4294967296 = ((T % 4294967296 : Nat) : Int) by omega]
              repeat (first | refine sX rfl rfl ?_ | (refine sS rfl rfl ?_ ?_; focus omega) | (refine sC rfl rfl ?_ ?_; focus (first | exact trivial | assumption | exact ⟨by assumption, by assumption⟩ | exact mb2 rfl rfl | exact mb4 rfl rfl rfl rfl)) | refine cX ?_ | refine cY ?_ | (refine sA rfl rfl ?_; intro _) | refine sT rfl ?_ | refine sW rfl rfl ?_ | refine sK rfl rfl ?_ | refine j_if rfl ?_ | refine j_else rfl ?_ | refine Go.Vt.jq (wl_pickT rfl rfl) rfl rfl ?_ | refine Go.Vt.jq (wl_pickF rfl rfl) rfl rfl ?_)
              refine jq (wl_shr rfl rfl (by decide)) rfl rfl ?_
              rw [p32, show (T : Int) / 4294967296 = ((T / 4294967296 : Nat) : Int) by omega]
              repeat (first | refine sX rfl rfl ?_ | (refine sS rfl rfl ?_ ?_; focus omega) | (refine sC rfl rfl ?_ ?_; focus (first | exact trivial | assumption | exact ⟨by assumption, by assumption⟩ | exact mb2 rfl rfl | exact mb4 rfl rfl rfl rfl)) | refine cX ?_ | refine cY ?_ | (refine sA rfl rfl ?_; intro _) | refine sT rfl ?_ | refine sW rfl rfl ?_ | refine sK rfl rfl ?_ | refine j_if rfl ?_ | refine j_else rfl ?_ | refine Go.Vt.jq (wl_pickT rfl rfl) rfl rfl ?_ | refine Go.Vt.jq (wl_pickF rfl rfl) rfl rfl ?_)
              refine j_cond rfl (fun h => ?_) (fun h => ?_)
              · have hneg : (zq[i + j] : Int) - bw - ((T % 4294967296 : Nat) : Int) < 0 := of_decide_eq_true h
                obtain ⟨r, hr⟩ : ∃ r : Nat, (r : Int) = (zq[i + j] : Int) - bw - ((T % 4294967296 : Nat) : Int) + 4294967296 := ⟨((zq[i + j] : Int) - bw - ((T % 4294967296 : Nat) : Int) + 4294967296).toNat, by omega⟩
                have gs := msub_step (b' := 1) hiy hiz hT (by omega : r + bw + T % 4294967296 = zq[i + j] + 1 * 4294967296) hinv
                repeat (first | refine sX rfl rfl ?_ | (refine sS rfl rfl ?_ ?_; focus omega) | (refine sC rfl rfl ?_ ?_; focus (first | exact trivial | assumption | exact ⟨by assumption, by assumption⟩ | exact mb2 rfl rfl | exact mb4 rfl rfl rfl rfl)) | refine cX ?_ | refine cY ?_ | (refine sA rfl rfl ?_; intro _) | refine sT rfl ?_ | refine sW rfl rfl ?_ | refine sK rfl rfl ?_ | refine j_if rfl ?_ | refine j_else rfl ?_ | refine Go.Vt.jq (wl_pickT rfl rfl) rfl rfl ?_ | refine Go.Vt.jq (wl_pickF rfl rfl) rfl rfl ?_)
                simp only [← hr]
                refine wo_storeD rfl rfl (by omega) rfl ?_
                rw [show 0 + ((i : Int) + (j : Int)).toNat * 1 = i + j by omega]
                repeat (first | refine sX rfl rfl ?_ | (refine sS rfl rfl ?_ ?_; focus omega) | (refine sC rfl rfl ?_ ?_; focus (first | exact trivial | assumption | exact ⟨by assumption, by assumption⟩ | exact mb2 rfl rfl | exact mb4 rfl rfl rfl rfl)) | refine cX ?_ | refine cY ?_ | (refine sA rfl rfl ?_; intro _) | refine sT rfl ?_ | refine sW rfl rfl ?_ | refine sK rfl rfl ?_ | refine j_if rfl ?_ | refine j_else rfl ?_ | refine Go.Vt.jq (wl_pickT rfl rfl) rfl rfl ?_ | refine Go.Vt.jq (wl_pickF rfl rfl) rfl rfl ?_)
                exact jx_loop (i + 1, _, T / 4294967296, 1) ⟨hin, hsm.set _ _ (by omega) (by omega) (by omega), by simp only; rw [List.getElem?_set_ne (by omega)]; exact hzt, by simp only; omega, by simp, gs⟩ (by repeat (first | exact sub_nil | refine sub_cons rfl ?_)) (List.Sublist.refl _) (by simp only; omega)
              · have hneg : ¬ (zq[i + j] : Int) - bw - ((T % 4294967296 : Nat) : Int) < 0 := of_decide_eq_false h
                obtain ⟨r, hr⟩ : ∃ r : Nat, (r : Int) = (zq[i + j] : Int) - bw - ((T % 4294967296 : Nat) : Int) := ⟨((zq[i + j] : Int) - bw - ((T % 4294967296 : Nat) : Int)).toNat, by omega⟩
                have gs := msub_step (b' := 0) hiy hiz hT (by omega : r + bw + T % 4294967296 = zq[i + j] + 0 * 4294967296) hinv
                simp only [← hr]
                repeat (first | refine sX rfl rfl ?_ | (refine sS rfl rfl ?_ ?_; focus omega) | (refine sC rfl rfl ?_ ?_; focus (first | exact trivial | assumption | exact ⟨by assumption, by assumption⟩ | exact mb2 rfl rfl | exact mb4 rfl rfl rfl rfl)) | refine cX ?_ | refine cY ?_ | (refine sA rfl rfl ?_; intro _) | refine sT rfl ?_ | refine sW rfl rfl ?_ | refine sK rfl rfl ?_ | refine j_if rfl ?_ | refine j_else rfl ?_ | refine Go.Vt.jq (wl_pickT rfl rfl) rfl rfl ?_ | refine Go.Vt.jq (wl_pickF rfl rfl) rfl rfl ?_)
                refine wo_storeD rfl rfl (by omega) rfl ?_
                rw [show 0 + ((i : Int) + (j : Int)).toNat * 1 = i + j by omega]
                repeat (first | refine sX rfl rfl ?_ | (refine sS rfl rfl ?_ ?_; focus omega) | (refine sC rfl rfl ?_ ?_; focus (first | exact trivial | assumption | exact ⟨by assumption, by assumption⟩ | exact mb2 rfl rfl | exact mb4 rfl rfl rfl rfl)) | refine cX ?_ | refine cY ?_ | (refine sA rfl rfl ?_; intro _) | refine sT rfl ?_ | refine sW rfl rfl ?_ | refine sK rfl rfl ?_ | refine j_if rfl ?_ | refine j_else rfl ?_ | refine Go.Vt.jq (wl_pickT rfl rfl) rfl rfl ?_ | refine Go.Vt.jq (wl_pickF rfl rfl) rfl rfl ?_)
                exact jx_loop (i + 1, _, T / 4294967296, 0) ⟨hin, hsm.set _ _ (by omega) (by omega) (by omega), by simp only; rw [List.getElem?_set_ne (by omega)]; exact hzt, by simp only; omega, by simp, gs⟩ (by repeat (first | exact sub_nil | refine sub_cons rfl ?_)) (List.Sublist.refl _) (by simp only; omega)
            · have hgei : i = n := by have := of_decide_eq_false h; omega
              subst hgei
              have hjz : j + i < zq.length := by rw [hsm.len]; exact hjn
              obtain ⟨e, β, hβ, heB, hee⟩ : ∃ e β : Nat, β ≤ 1 ∧ e < 4294967296 ∧ e + bw + c = z0 + β * 4294967296 := by
                by_cases hlt : z0 < bw + c
                · exact ⟨z0 + 4294967296 - bw - c, 1, by omega, by omega, by omega⟩
                · exact ⟨z0 - bw - c, 0, by omega, by omega, by omega⟩
              have hwe : IntKind.u32.wrap ((z0 : Int) - bw - c) = (e : Int) := by rw [IntKind.wrap_u32]; omega
              have hzv : zq[j + i] = z0 := by rw [List.getElem?_eq_getElem hjz] at hzt; exact Option.some.inj hzt
              repeat (first | refine sX rfl rfl ?_ | (refine sS rfl rfl ?_ ?_; focus omega) | (refine sC rfl rfl ?_ ?_; focus (first | exact trivial | assumption | exact ⟨by assumption, by assumption⟩ | exact mb2 rfl rfl | exact mb4 rfl rfl rfl rfl)) | refine cX ?_ | refine cY ?_ | (refine sA rfl rfl ?_; intro _) | refine sT rfl ?_ | refine sW rfl rfl ?_ | refine sK rfl rfl ?_ | refine j_if rfl ?_ | refine j_else rfl ?_ | refine Go.Vt.jq (wl_pickT rfl rfl) rfl rfl ?_ | refine Go.Vt.jq (wl_pickF rfl rfl) rfl rfl ?_)
              refine jq (wl_loadD rfl (show zq[0 + ((j : Int) + (i : Int)).toNat * 1]? = some z0 by rw [show 0 + ((j : Int) + (i : Int)).toNat * 1 = j + i by omega]; exact hzt)) rfl rfl ?_
              repeat (first | refine sX rfl rfl ?_ | (refine sS rfl rfl ?_ ?_; focus omega) | (refine sC rfl rfl ?_ ?_; focus (first | exact trivial | assumption | exact ⟨by assumption, by assumption⟩ | exact mb2 rfl rfl | exact mb4 rfl rfl rfl rfl)) | refine cX ?_ | refine cY ?_ | (refine sA rfl rfl ?_; intro _) | refine sT rfl ?_ | refine sW rfl rfl ?_ | refine sK rfl rfl ?_ | refine j_if rfl ?_ | refine j_else rfl ?_ | refine Go.Vt.jq (wl_pickT rfl rfl) rfl rfl ?_ | refine Go.Vt.jq (wl_pickF rfl rfl) rfl rfl ?_)
              rw [hwe]
              refine wo_storeD rfl rfl (by omega) rfl ?_
              rw [show 0 + ((j : Int) + (i : Int)).toNat * 1 = j + i by omega]
              have hs2 := hsm.set (j + i) e (by omega) (by omega) heB
              have hsub := round_sub hsm hjn hlY hvY hinv hzv hee rfl hs2
              have h2s := hs2.small hjn p0
              have hge : (zq.set (j + i) e)[j + i]? = some e := by rw [List.getElem?_set_self hjz]
              generalize zq.set (j + i) e = zw at *
              rw [hU] at hsub
              repeat (first | refine sX rfl rfl ?_ | (refine sS rfl rfl ?_ ?_; focus omega) | (refine sC rfl rfl ?_ ?_; focus (first | exact trivial | assumption | exact ⟨by assumption, by assumption⟩ | exact mb2 rfl rfl | exact mb4 rfl rfl rfl rfl)) | refine cX ?_ | refine cY ?_ | (refine sA rfl rfl ?_; intro _) | refine sT rfl ?_ | refine sW rfl rfl ?_ | refine sK rfl rfl ?_ | refine j_if rfl ?_ | refine j_else rfl ?_ | refine Go.Vt.jq (wl_pickT rfl rfl) rfl rfl ?_ | refine Go.Vt.jq (wl_pickF rfl rfl) rfl rfl ?_)
              refine j_cut (S := Nat × List Nat) (fun t => Same zs t.2 j i ∧ U = vd (t.2.drop j) + t.1 * Y ∧ vd (t.2.drop j) < Y ∧ t.1 < 4294967296)
                (fun t => [(9, .slice (some ⟨b2, 0, none⟩) i (i + 1)), (12, .int .i64 s), (13, .slice (some ⟨bx, 0, none⟩) (m + i) (m + i)), (14, .int .i64 i), (15, .slice (some ⟨bo, 0, none⟩) m m), (16, .int .i64 j), (18, .int .u64 t.1)])
                (fun t => [⟨bo, dig .u32 os, 117⟩, ⟨b2, dig .u32 (ys ++ [0]), 117⟩, ⟨bx, dig .u32 t.2, 117⟩]) ?_ (fun t ht => ?_)
              · refine j_cond rfl (fun h => ?_) (fun h => ?_)
                · have hneg : (z0 : Int) - bw - c < 0 := of_decide_eq_true h
                  have hβ1 : β = 1 := by omega
                  subst hβ1
                  have hg1 : 0 < g := by
                    rcases Nat.eq_zero_or_pos g with h0 | h0
                    · subst h0; omega
                    · exact h0
                  have hwr : IntKind.u64.wrap ((g : Int) - 1) = ((g - 1 : Nat) : Int) := by rw [IntWalk.u64_in _ (by omega)]; omega
                  repeat (first | refine sX rfl rfl ?_ | (refine sS rfl rfl ?_ ?_; focus omega) | (refine sC rfl rfl ?_ ?_; focus (first | exact trivial | assumption | exact ⟨by assumption, by assumption⟩ | exact mb2 rfl rfl | exact mb4 rfl rfl rfl rfl)) | refine cX ?_ | refine cY ?_ | (refine sA rfl rfl ?_; intro _) | refine sT rfl ?_ | refine sW rfl rfl ?_ | refine sK rfl rfl ?_ | refine j_if rfl ?_ | refine j_else rfl ?_ | refine Go.Vt.jq (wl_pickT rfl rfl) rfl rfl ?_ | refine Go.Vt.jq (wl_pickF rfl rfl) rfl rfl ?_)
                  simp only [hwr]
                  refine j_loop (S := Nat × List Nat × Nat) (fun t => t.1 ≤ i ∧ Same zs t.2.1 j i ∧ t.2.1[j + i]? = some e ∧ t.2.2 ≤ 1 ∧ vd t.2.1 + t.2.2 * 4294967296 ^ (t.1 + j) = vd zw + vd (ys.take t.1) * 4294967296 ^ j)
                    (fun t => [(9, .slice (some ⟨b2, 0, none⟩) i (i + 1)), (12, .int .i64 s), (13, .slice (some ⟨bx, 0, none⟩) (m + i) (m + i)), (14, .int .i64 i), (15, .slice (some ⟨bo, 0, none⟩) m m), (16, .int .i64 j), (18, .int .u64 ((g - 1 : Nat) : Int)), (25, .int .u64 t.2.2), (230, .int .i64 i), (231, .int .i64 t.1)])
                    (fun t => [⟨bo, dig .u32 os, 117⟩, ⟨b2, dig .u32 (ys ++ [0]), 117⟩, ⟨bx, dig .u32 t.2.1, 117⟩]) (fun t => i - t.1) (0, zw, 0) ⟨Nat.zero_le _, hs2, hge, by simp, by simp [vd]⟩
                    (by repeat (first | exact sub_nil | refine sub_cons rfl ?_)) (List.Sublist.refl _) (fun t ht => ?_)
                  obtain ⟨k, z3, c3⟩ := t
                  obtain ⟨hk, hs3, he3, hc3, hin3⟩ := ht
                  simp only at hk hs3 he3 hc3 hin3 ⊢
                  repeat (first | refine sX rfl rfl ?_ | (refine sS rfl rfl ?_ ?_; focus omega) | (refine sC rfl rfl ?_ ?_; focus (first | exact trivial | assumption | exact ⟨by assumption, by assumption⟩ | exact mb2 rfl rfl | exact mb4 rfl rfl rfl rfl)) | refine cX ?_ | refine cY ?_ | (refine sA rfl rfl ?_; intro _) | refine sT rfl ?_ | refine sW rfl rfl ?_ | refine sK rfl rfl ?_ | refine j_if rfl ?_ | refine j_else rfl ?_ | refine Go.Vt.jq (wl_pickT rfl rfl) rfl rfl ?_ | refine Go.Vt.jq (wl_pickF rfl rfl) rfl rfl ?_)
                  refine j_cond rfl (fun h => ?_) (fun h => ?_)
                  · have hkn : k < i := by have := of_decide_eq_true h; omega
                    have hky : k < ys.length := by omega
                    have hkz : k + j < z3.length := by rw [hs3.len]; omega
                    have hdy := dg_get hDY hky
                    have hdz := dg_get hs3.dg hkz
                    obtain ⟨T, hT⟩ : ∃ T, T = c3 + (z3[k + j] + ys[k]) := ⟨_, rfl⟩
                    repeat (first | refine sX rfl rfl ?_ | (refine sS rfl rfl ?_ ?_; focus omega) | (refine sC rfl rfl ?_ ?_; focus (first | exact trivial | assumption | exact ⟨by assumption, by assumption⟩ | exact mb2 rfl rfl | exact mb4 rfl rfl rfl rfl)) | refine cX ?_ | refine cY ?_ | (refine sA rfl rfl ?_; intro _) | refine sT rfl ?_ | refine sW rfl rfl ?_ | refine sK rfl rfl ?_ | refine j_if rfl ?_ | refine j_else rfl ?_ | refine Go.Vt.jq (wl_pickT rfl rfl) rfl rfl ?_ | refine Go.Vt.jq (wl_pickF rfl rfl) rfl rfl ?_)
                    refine jD 16 16 mixed (by kernel_rfl) ?_
                    repeat (first | refine tX rfl rfl ?_ | (refine tS rfl rfl ?_ ?_; focus omega) | (refine tC rfl rfl ?_ ?_; focus (first | exact trivial | assumption | exact ⟨by assumption, by assumption⟩ | exact mb2 rfl rfl | exact mb4 rfl rfl rfl rfl)) | refine tW rfl rfl ?_ | refine tK rfl rfl ?_ | refine Go.Vt.hq (wl_pickT rfl rfl) rfl rfl ?_ | refine Go.Vt.hq (wl_pickF rfl rfl) rfl rfl ?_)
                    refine hq (wl_loadD rfl (show z3[0 + ((k : Int) + (j : Int)).toNat * 1]? = some z3[k + j] by rw [show 0 + ((k : Int) + (j : Int)).toNat * 1 = k + j by omega]; exact List.getElem?_eq_getElem hkz)) rfl rfl ?_
                    repeat (first | refine tX rfl rfl ?_ | (refine tS rfl rfl ?_ ?_; focus omega) | (refine tC rfl rfl ?_ ?_; focus (first | exact trivial | assumption | exact ⟨by assumption, by assumption⟩ | exact mb2 rfl rfl | exact mb4 rfl rfl rfl rfl)) | refine tW rfl rfl ?_ | refine tK rfl rfl ?_ | refine Go.Vt.hq (wl_pickT rfl rfl) rfl rfl ?_ | refine Go.Vt.hq (wl_pickF rfl rfl) rfl rfl ?_)
                    refine hq (wl_loadD rfl (show (ys ++ [0])[0 + (k : Int).toNat * 1]? = some ys[k] by rw [show 0 + (k : Int).toNat * 1 = k by omega, List.getElem?_append_left hky]; exact List.getElem?_eq_getElem hky)) rfl rfl ?_
                    repeat (first | refine tX rfl rfl ?_ | (refine tS rfl rfl ?_ ?_; focus omega) | (refine tC rfl rfl ?_ ?_; focus (first | exact trivial | assumption | exact ⟨by assumption, by assumption⟩ | exact mb2 rfl rfl | exact mb4 rfl rfl rfl rfl)) | refine tW rfl rfl ?_ | refine tK rfl rfl ?_ | refine Go.Vt.hq (wl_pickT rfl rfl) rfl rfl ?_ | refine Go.Vt.hq (wl_pickF rfl rfl) rfl rfl ?_)
                    refine jh_nil (jn_nil ?_)
                    rw [show (c3 : Int) + ((z3[k + j] : Nat) + (ys[k] : Nat)) = (T : Int) by omega]
                    repeat (first | refine sX rfl rfl ?_ | (refine sS rfl rfl ?_ ?_; focus omega) | (refine sC rfl rfl ?_ ?_; focus (first | exact trivial | assumption | exact ⟨by assumption, by assumption⟩ | exact mb2 rfl rfl | exact mb4 rfl rfl rfl rfl)) | refine cX ?_ | refine cY ?_ | (refine sA rfl rfl ?_; intro _) | refine sT rfl ?_ | refine sW rfl rfl ?_ | refine sK rfl rfl ?_ | refine j_if rfl ?_ | refine j_else rfl ?_ | refine Go.Vt.jq (wl_pickT rfl rfl) rfl rfl ?_ | refine Go.Vt.jq (wl_pickF rfl rfl) rfl rfl ?_)
                    refine jq (wl_shr rfl rfl (by decide)) rfl rfl ?_
                    repeat (first | refine sX rfl rfl ?_ | (refine sS rfl rfl ?_ ?_; focus omega) | (refine sC rfl rfl ?_ ?_; focus (first | exact trivial | assumption | exact ⟨by assumption, by assumption⟩ | exact mb2 rfl rfl | exact mb4 rfl rfl rfl rfl)) | refine cX ?_ | refine cY ?_ | (refine sA rfl rfl ?_; intro _) | refine sT rfl ?_ | refine sW rfl rfl ?_ | refine sK rfl rfl ?_ | refine j_if rfl ?_ | refine j_else rfl ?_ | refine Go.Vt.jq (wl_pickT rfl rfl) rfl rfl ?_ | refine Go.Vt.jq (wl_pickF rfl rfl) rfl rfl ?_)
                    rw [p32, IntKind.wrap_u32, show (T : Int) % 4294967296 = ((T % 4294967296 : Nat) : Int) by omega, show (T : Int) / 4294967296 = ((T / 4294967296 : Nat) : Int) by omega]
                    refine wo_storeD rfl rfl (by omega) rfl ?_
                    rw [show 0 + ((k : Int) + (j : Int)).toNat * 1 = k + j by omega]
                    have gs := madd_step hky hkz hT hin3
                    repeat (first | refine sX rfl rfl ?_ | (refine sS rfl rfl ?_ ?_; focus omega) | (refine sC rfl rfl ?_ ?_; focus (first | exact trivial | assumption | exact ⟨by assumption, by assumption⟩ | exact mb2 rfl rfl | exact mb4 rfl rfl rfl rfl)) | refine cX ?_ | refine cY ?_ | (refine sA rfl rfl ?_; intro _) | refine sT rfl ?_ | refine sW rfl rfl ?_ | refine sK rfl rfl ?_ | refine j_if rfl ?_ | refine j_else rfl ?_ | refine Go.Vt.jq (wl_pickT rfl rfl) rfl rfl ?_ | refine Go.Vt.jq (wl_pickF rfl rfl) rfl rfl ?_)
                    exact jx_loop (k + 1, _, T / 4294967296) ⟨hkn, hs3.set _ _ (by omega) (by omega) (Nat.mod_lt _ (by omega)), by simp only; rw [List.getElem?_set_ne (by omega)]; exact he3, by simp only; omega, gs⟩ (by repeat (first | exact sub_nil | refine sub_cons rfl ?_)) (List.Sublist.refl _) (by simp only; omega)
                  · have hki : k = i := by have := of_decide_eq_false h; omega
                    subst hki
                    have hjz3 : j + k < z3.length := by rw [hs3.len]; exact hjn
                    have hzv3 : z3[j + k] = e := by rw [List.getElem?_eq_getElem hjz3] at he3; exact Option.some.inj he3
                    repeat (first | refine sX rfl rfl ?_ | (refine sS rfl rfl ?_ ?_; focus omega) | (refine sC rfl rfl ?_ ?_; focus (first | exact trivial | assumption | exact ⟨by assumption, by assumption⟩ | exact mb2 rfl rfl | exact mb4 rfl rfl rfl rfl)) | refine cX ?_ | refine cY ?_ | (refine sA rfl rfl ?_; intro _) | refine sT rfl ?_ | refine sW rfl rfl ?_ | refine sK rfl rfl ?_ | refine j_if rfl ?_ | refine j_else rfl ?_ | refine Go.Vt.jq (wl_pickT rfl rfl) rfl rfl ?_ | refine Go.Vt.jq (wl_pickF rfl rfl) rfl rfl ?_)
                    refine jq (wl_loadD rfl (show z3[0 + ((j : Int) + (k : Int)).toNat * 1]? = some e by rw [show 0 + ((j : Int) + (k : Int)).toNat * 1 = j + k by omega]; exact he3)) rfl rfl ?_
                    repeat (first | refine sX rfl rfl ?_ | (refine sS rfl rfl ?_ ?_; focus omega) | (refine sC rfl rfl ?_ ?_; focus (first | exact trivial | assumption | exact ⟨by assumption, by assumption⟩ | exact mb2 rfl rfl | exact mb4 rfl rfl rfl rfl)) | refine cX ?_ | refine cY ?_ | (refine sA rfl rfl ?_; intro _) | refine sT rfl ?_ | refine sW rfl rfl ?_ | refine sK rfl rfl ?_ | refine j_if rfl ?_ | refine j_else rfl ?_ | refine Go.Vt.jq (wl_pickT rfl rfl) rfl rfl ?_ | refine Go.Vt.jq (wl_pickF rfl rfl) rfl rfl ?_)
                    rw [IntKind.wrap_u32, show ((e : Int) + c3) % 4294967296 = (((e + c3) % 4294967296 : Nat) : Int) by omega]
                    refine wo_storeD rfl rfl (by omega) rfl ?_
                    rw [show 0 + ((j : Int) + (k : Int)).toNat * 1 = j + k by omega]
                    have hs4 := hs3.set (j + k) ((e + c3) % 4294967296) (by omega) (by omega) (Nat.mod_lt _ (by omega))
                    have hadd := round_add (o := (e + c3) / 4294967296) hs2 hs3 hjn hlY hvY hin3 hzv3 (by omega) rfl hs4
                    have hback := round_back hsub hgY h2s (hs4.small hjn p0) (by omega) hadd hg1
                    repeat (first | refine sX rfl rfl ?_ | (refine sS rfl rfl ?_ ?_; focus omega) | (refine sC rfl rfl ?_ ?_; focus (first | exact trivial | assumption | exact ⟨by assumption, by assumption⟩ | exact mb2 rfl rfl | exact mb4 rfl rfl rfl rfl)) | refine cX ?_ | refine cY ?_ | (refine sA rfl rfl ?_; intro _) | refine sT rfl ?_ | refine sW rfl rfl ?_ | refine sK rfl rfl ?_ | refine j_if rfl ?_ | refine j_else rfl ?_ | refine Go.Vt.jq (wl_pickT rfl rfl) rfl rfl ?_ | refine Go.Vt.jq (wl_pickF rfl rfl) rfl rfl ?_)
                    exact jx_mid (g - 1, _) ⟨hs4, hback.1, hback.2, by simp only; omega⟩ (by repeat (first | exact sub_nil | refine sub_cons rfl ?_)) (List.Sublist.refl _)
                · have hneg : ¬ (z0 : Int) - bw - c < 0 := of_decide_eq_false h
                  have hβ0 : β = 0 := by omega
                  subst hβ0
                  have hri := round_right hsub hgU
                  repeat (first | refine sX rfl rfl ?_ | (refine sS rfl rfl ?_ ?_; focus omega) | (refine sC rfl rfl ?_ ?_; focus (first | exact trivial | assumption | exact ⟨by assumption, by assumption⟩ | exact mb2 rfl rfl | exact mb4 rfl rfl rfl rfl)) | refine cX ?_ | refine cY ?_ | (refine sA rfl rfl ?_; intro _) | refine sT rfl ?_ | refine sW rfl rfl ?_ | refine sK rfl rfl ?_ | refine j_if rfl ?_ | refine j_else rfl ?_ | refine Go.Vt.jq (wl_pickT rfl rfl) rfl rfl ?_ | refine Go.Vt.jq (wl_pickF rfl rfl) rfl rfl ?_)
                  exact jx_mid (g, zw) ⟨hs2, hri.1, hri.2, hgB⟩ (by repeat (first | exact sub_nil | refine sub_cons rfl ?_)) (List.Sublist.refl _)
              · obtain ⟨q, z'⟩ := t
                obtain ⟨hs', hUq, hlt', hqB⟩ := ht
                simp only at hs' hUq hlt' hqB ⊢
                repeat (first | refine sX rfl rfl ?_ | (refine sS rfl rfl ?_ ?_; focus omega) | (refine sC rfl rfl ?_ ?_; focus (first | exact trivial | assumption | exact ⟨by assumption, by assumption⟩ | exact mb2 rfl rfl | exact mb4 rfl rfl rfl rfl)) | refine cX ?_ | refine cY ?_ | (refine sA rfl rfl ?_; intro _) | refine sT rfl ?_ | refine sW rfl rfl ?_ | refine sK rfl rfl ?_ | refine j_if rfl ?_ | refine j_else rfl ?_ | refine Go.Vt.jq (wl_pickT rfl rfl) rfl rfl ?_ | refine Go.Vt.jq (wl_pickF rfl rfl) rfl rfl ?_)
                refine wo_storeD rfl rfl (by omega) rfl ?_
                rw [show 0 + (j : Int).toNat * 1 = j by omega]
                repeat (first | refine sX rfl rfl ?_ | (refine sS rfl rfl ?_ ?_; focus omega) | (refine sC rfl rfl ?_ ?_; focus (first | exact trivial | assumption | exact ⟨by assumption, by assumption⟩ | exact mb2 rfl rfl | exact mb4 rfl rfl rfl rfl)) | refine cX ?_ | refine cY ?_ | (refine sA rfl rfl ?_; intro _) | refine sT rfl ?_ | refine sW rfl rfl ?_ | refine sK rfl rfl ?_ | refine j_if rfl ?_ | refine j_else rfl ?_ | refine Go.Vt.jq (wl_pickT rfl rfl) rfl rfl ?_ | refine Go.Vt.jq (wl_pickF rfl rfl) rfl rfl ?_)
                have hjo : j < os.length := by omega
                have hoj : os[j] = 0 := by
                  have := kz0 j (by omega)
                  rw [List.getElem?_eq_getElem hjo] at this
                  exact Option.some.inj this
                exact jx_loop (j, z', os.set j q) ⟨by simp only; omega, by simp only; rw [hs'.len]; exact klz, hs'.dg, by simp only [List.length_set]; exact klo, dg_set kdo _ _ hqB, fun i' hi' => by
                  simp only at hi' ⊢
                  rw [List.getElem?_set_ne (by omega)]
                  exact kz0 i' (by omega), round_gain hs' (by omega) hjo hoj keq (by rw [hU]; exact hUq), hlt'⟩ (by repeat (first | exact sub_nil | refine sub_cons rfl ?_)) (List.Sublist.refl _) (by simp only; omega)
        · have hk0 : k = 0 := by have := of_decide_eq_false h; omega
          subst hk0
          obtain ⟨kk, klz, kdz, klo, kdo, kz0, keq, klt⟩ := ht
          rw [List.drop_zero, ← hY] at klt
          rw [← hY] at keq
          obtain ⟨hquo, hrem⟩ := div_end keq klt
          obtain ⟨W, hW⟩ : ∃ W, W = a % b := ⟨_, rfl⟩
          rw [← hW] at hrem
          have hWB : W < 4294967296 ^ n := by
            have h1 := Nat.mod_lt a (Nat.pos_of_ne_zero hb0)
            rw [hn]
            omega
          have hvW : vd (dgs W n) = W := by rw [vd_dgs, Nat.mod_eq_of_lt hWB]
          have hlW := dgs_len n W
          have hDW := dgs_dg n W
          generalize dgs W n = ws at *
          repeat (first | refine sX rfl rfl ?_ | (refine sS rfl rfl ?_ ?_; focus omega) | (refine sC rfl rfl ?_ ?_; focus (first | exact trivial | assumption | exact ⟨by assumption, by assumption⟩ | exact mb2 rfl rfl | exact mb4 rfl rfl rfl rfl)) | refine cX ?_ | refine cY ?_ | (refine sA rfl rfl ?_; intro _) | refine sT rfl ?_ | refine sW rfl rfl ?_ | refine sK rfl rfl ?_ | refine j_if rfl ?_ | refine j_else rfl ?_ | refine Go.Vt.jq (wl_pickT rfl rfl) rfl rfl ?_ | refine Go.Vt.jq (wl_pickF rfl rfl) rfl rfl ?_)
          refine wo_makeD (k := .u32) (B := 4) (m := n) rfl rfl ⟨by omega, by omega⟩ rfl rfl ?_
          intro br
          repeat (first | refine sX rfl rfl ?_ | (refine sS rfl rfl ?_ ?_; focus omega) | (refine sC rfl rfl ?_ ?_; focus (first | exact trivial | assumption | exact ⟨by assumption, by assumption⟩ | exact mb2 rfl rfl | exact mb4 rfl rfl rfl rfl)) | refine cX ?_ | refine cY ?_ | (refine sA rfl rfl ?_; intro _) | refine sT rfl ?_ | refine sW rfl rfl ?_ | refine sK rfl rfl ?_ | refine j_if rfl ?_ | refine j_else rfl ?_ | refine Go.Vt.jq (wl_pickT rfl rfl) rfl rfl ?_ | refine Go.Vt.jq (wl_pickF rfl rfl) rfl rfl ?_)
          refine j_loop (S := Nat) (fun i => i ≤ n)
            (fun i => [(12, .int .i64 s), (13, .slice (some ⟨bx, 0, none⟩) (m + n) (m + n)), (15, .slice (some ⟨bo, 0, none⟩) m m), (27, .slice (some ⟨br, 0, none⟩) n n), (276, .int .i64 n), (277, .int .i64 i)])
            (fun i => [⟨br, dig .u32 (ws.take i ++ List.replicate (n - i) 0), 117⟩, ⟨bo, dig .u32 os, 117⟩, ⟨bx, dig .u32 zs, 117⟩]) (fun i => n - i) 0 (Nat.zero_le _)
            (by repeat (first | exact sub_nil | refine sub_cons rfl ?_)) (by repeat (first | exact List.Sublist.refl _ | exact List.nil_sublist _ | refine List.Sublist.cons_cons _ ?_ | refine List.Sublist.cons _ ?_)) (fun i hi => ?_)
          repeat (first | refine sX rfl rfl ?_ | (refine sS rfl rfl ?_ ?_; focus omega) | (refine sC rfl rfl ?_ ?_; focus (first | exact trivial | assumption | exact ⟨by assumption, by assumption⟩ | exact mb2 rfl rfl | exact mb4 rfl rfl rfl rfl)) | refine cX ?_ | refine cY ?_ | (refine sA rfl rfl ?_; intro _) | refine sT rfl ?_ | refine sW rfl rfl ?_ | refine sK rfl rfl ?_ | refine j_if rfl ?_ | refine j_else rfl ?_ | refine Go.Vt.jq (wl_pickT rfl rfl) rfl rfl ?_ | refine Go.Vt.jq (wl_pickF rfl rfl) rfl rfl ?_)
          refine j_cond rfl (fun h => ?_) (fun h => ?_)
          · have hin : i < n := by have := of_decide_eq_true h; omega
            have h1z : i + 1 < zs.length := by omega
            have h0z : i < zs.length := by omega
            have hd1 := dg_get kdz h1z
            have hd0 := dg_get kdz h0z
            have hdig := rest_digit kdz hrem h1z hs32
            have hwi := vd_digit ws hDW i (by omega)
            rw [hvW] at hwi
            rw [hwi] at hdig
            have hrow := row_step hlW hin
            obtain ⟨N, hN⟩ : ∃ N, N = (zs[i + 1] * 4294967296 + zs[i]) / 2 ^ s := ⟨_, rfl⟩
            have hNi : ((zs[i + 1] * 4294967296 + zs[i] : Nat) : Int) / ((2 ^ s : Nat) : Int) = (N : Int) := by rw [hN]; rfl
            rw [← hN] at hdig
            have hlen : (ws.take i ++ List.replicate (n - i) 0).length = n := by rw [List.length_append, List.length_take, List.length_replicate]; omega
            repeat (first | refine sX rfl rfl ?_ | (refine sS rfl rfl ?_ ?_; focus omega) | (refine sC rfl rfl ?_ ?_; focus (first | exact trivial | assumption | exact ⟨by assumption, by assumption⟩ | exact mb2 rfl rfl | exact mb4 rfl rfl rfl rfl)) | refine cX ?_ | refine cY ?_ | (refine sA rfl rfl ?_; intro _) | refine sT rfl ?_ | refine sW rfl rfl ?_ | refine sK rfl rfl ?_ | refine j_if rfl ?_ | refine j_else rfl ?_ | refine Go.Vt.jq (wl_pickT rfl rfl) rfl rfl ?_ | refine Go.Vt.jq (wl_pickF rfl rfl) rfl rfl ?_)
            refine jD 19 19 mixed (by kernel_rfl) ?_
            repeat (first | refine tX rfl rfl ?_ | (refine tS rfl rfl ?_ ?_; focus omega) | (refine tC rfl rfl ?_ ?_; focus (first | exact trivial | assumption | exact ⟨by assumption, by assumption⟩ | exact mb2 rfl rfl | exact mb4 rfl rfl rfl rfl)) | refine tW rfl rfl ?_ | refine tK rfl rfl ?_ | refine Go.Vt.hq (wl_pickT rfl rfl) rfl rfl ?_ | refine Go.Vt.hq (wl_pickF rfl rfl) rfl rfl ?_)
            refine hq (wl_loadD rfl (show zs[0 + ((i : Int) + 1).toNat * 1]? = some zs[i + 1] by rw [show 0 + ((i : Int) + 1).toNat * 1 = i + 1 by omega]; exact List.getElem?_eq_getElem h1z)) rfl rfl ?_
            repeat (first | refine tX rfl rfl ?_ | (refine tS rfl rfl ?_ ?_; focus omega) | (refine tC rfl rfl ?_ ?_; focus (first | exact trivial | assumption | exact ⟨by assumption, by assumption⟩ | exact mb2 rfl rfl | exact mb4 rfl rfl rfl rfl)) | refine tW rfl rfl ?_ | refine tK rfl rfl ?_ | refine Go.Vt.hq (wl_pickT rfl rfl) rfl rfl ?_ | refine Go.Vt.hq (wl_pickF rfl rfl) rfl rfl ?_)
            refine hq (wl_shl rfl rfl (by decide)) rfl rfl ?_
            repeat (first | refine tX rfl rfl ?_ | (refine tS rfl rfl ?_ ?_; focus omega) | (refine tC rfl rfl ?_ ?_; focus (first | exact trivial | assumption | exact ⟨by assumption, by assumption⟩ | exact mb2 rfl rfl | exact mb4 rfl rfl rfl rfl)) | refine tW rfl rfl ?_ | refine tK rfl rfl ?_ | refine Go.Vt.hq (wl_pickT rfl rfl) rfl rfl ?_ | refine Go.Vt.hq (wl_pickF rfl rfl) rfl rfl ?_)
            refine hq (wl_loadD rfl (show zs[0 + (i : Int).toNat * 1]? = some zs[i] by rw [show 0 + (i : Int).toNat * 1 = i by omega]; exact List.getElem?_eq_getElem h0z)) rfl rfl ?_
            repeat (first | refine tX rfl rfl ?_ | (refine tS rfl rfl ?_ ?_; focus omega) | (refine tC rfl rfl ?_ ?_; focus (first | exact trivial | assumption | exact ⟨by assumption, by assumption⟩ | exact mb2 rfl rfl | exact mb4 rfl rfl rfl rfl)) | refine tW rfl rfl ?_ | refine tK rfl rfl ?_ | refine Go.Vt.hq (wl_pickT rfl rfl) rfl rfl ?_ | refine Go.Vt.hq (wl_pickF rfl rfl) rfl rfl ?_)
            refine hq (wl_or rfl rfl) rfl rfl ?_
            rw [or_word _ _ hd1 hd0]
            repeat (first | refine tX rfl rfl ?_ | (refine tS rfl rfl ?_ ?_; focus omega) | (refine tC rfl rfl ?_ ?_; focus (first | exact trivial | assumption | exact ⟨by assumption, by assumption⟩ | exact mb2 rfl rfl | exact mb4 rfl rfl rfl rfl)) | refine tW rfl rfl ?_ | refine tK rfl rfl ?_ | refine Go.Vt.hq (wl_pickT rfl rfl) rfl rfl ?_ | refine Go.Vt.hq (wl_pickF rfl rfl) rfl rfl ?_)
            refine hq (wl_shr rfl rfl (by simp only [IntKind.bits]; omega)) rfl rfl ?_
            rw [pow2i, hNi]
            refine hq (wl_cv rfl) rfl rfl ?_
            rw [IntKind.wrap_u32, show (N : Int) % 4294967296 = ((N % 4294967296 : Nat) : Int) by omega, hdig]
            repeat (first | refine tX rfl rfl ?_ | (refine tS rfl rfl ?_ ?_; focus omega) | (refine tC rfl rfl ?_ ?_; focus (first | exact trivial | assumption | exact ⟨by assumption, by assumption⟩ | exact mb2 rfl rfl | exact mb4 rfl rfl rfl rfl)) | refine tW rfl rfl ?_ | refine tK rfl rfl ?_ | refine Go.Vt.hq (wl_pickT rfl rfl) rfl rfl ?_ | refine Go.Vt.hq (wl_pickF rfl rfl) rfl rfl ?_)
            refine jh_nil (jn_nil ?_)
            repeat (first | refine sX rfl rfl ?_ | (refine sS rfl rfl ?_ ?_; focus omega) | (refine sC rfl rfl ?_ ?_; focus (first | exact trivial | assumption | exact ⟨by assumption, by assumption⟩ | exact mb2 rfl rfl | exact mb4 rfl rfl rfl rfl)) | refine cX ?_ | refine cY ?_ | (refine sA rfl rfl ?_; intro _) | refine sT rfl ?_ | refine sW rfl rfl ?_ | refine sK rfl rfl ?_ | refine j_if rfl ?_ | refine j_else rfl ?_ | refine Go.Vt.jq (wl_pickT rfl rfl) rfl rfl ?_ | refine Go.Vt.jq (wl_pickF rfl rfl) rfl rfl ?_)
            refine wo_storeD rfl rfl (by omega) rfl ?_
            rw [show 0 + (i : Int).toNat * 1 = i by omega, hrow]
            repeat (first | refine sX rfl rfl ?_ | (refine sS rfl rfl ?_ ?_; focus omega) | (refine sC rfl rfl ?_ ?_; focus (first | exact trivial | assumption | exact ⟨by assumption, by assumption⟩ | exact mb2 rfl rfl | exact mb4 rfl rfl rfl rfl)) | refine cX ?_ | refine cY ?_ | (refine sA rfl rfl ?_; intro _) | refine sT rfl ?_ | refine sW rfl rfl ?_ | refine sK rfl rfl ?_ | refine j_if rfl ?_ | refine j_else rfl ?_ | refine Go.Vt.jq (wl_pickT rfl rfl) rfl rfl ?_ | refine Go.Vt.jq (wl_pickF rfl rfl) rfl rfl ?_)
            exact jx_loop (i + 1) hin (by repeat (first | exact sub_nil | refine sub_cons rfl ?_)) (List.Sublist.refl _) (by omega)
          · have hge' : i = n := by have := of_decide_eq_false h; omega
            subst hge'
            have e1 : os.take m = os := List.take_of_length_le (by omega)
            have e3 : ws.take i ++ List.replicate (i - i) 0 = ws := by
              rw [Nat.sub_self, List.replicate_zero, List.append_nil]
              exact List.take_of_length_le (by omega)
            have e2 : (ws.take i ++ List.replicate (i - i) 0).take i = ws := by
              rw [e3]
              exact List.take_of_length_le (by omega)
            repeat (first | refine sX rfl rfl ?_ | (refine sS rfl rfl ?_ ?_; focus omega) | (refine sC rfl rfl ?_ ?_; focus (first | exact trivial | assumption | exact ⟨by assumption, by assumption⟩ | exact mb2 rfl rfl | exact mb4 rfl rfl rfl rfl)) | refine cX ?_ | refine cY ?_ | (refine sA rfl rfl ?_; intro _) | refine sT rfl ?_ | refine sW rfl rfl ?_ | refine sK rfl rfl ?_ | refine j_if rfl ?_ | refine j_else rfl ?_ | refine Go.Vt.jq (wl_pickT rfl rfl) rfl rfl ?_ | refine Go.Vt.jq (wl_pickF rfl rfl) rfl rfl ?_)
            refine jq (wl_callW rfl (fun w' hw' => bytes_spec bo m m os (0, 0) (by omega) (Nat.le_refl _) (by omega) kdo w' (hw'.mem _ MemC.out).2)) rfl rfl ?_
            rw [e1, hquo]
            repeat (first | refine sX rfl rfl ?_ | (refine sS rfl rfl ?_ ?_; focus omega) | (refine sC rfl rfl ?_ ?_; focus (first | exact trivial | assumption | exact ⟨by assumption, by assumption⟩ | exact mb2 rfl rfl | exact mb4 rfl rfl rfl rfl)) | refine cX ?_ | refine cY ?_ | (refine sA rfl rfl ?_; intro _) | refine sT rfl ?_ | refine sW rfl rfl ?_ | refine sK rfl rfl ?_ | refine j_if rfl ?_ | refine j_else rfl ?_ | refine Go.Vt.jq (wl_pickT rfl rfl) rfl rfl ?_ | refine Go.Vt.jq (wl_pickF rfl rfl) rfl rfl ?_)
            refine jq (wl_callW rfl (fun w' hw' => bytes_spec br i i (ws.take i ++ List.replicate (i - i) 0) (0, 0) (by rw [e3]; omega) (Nat.le_refl _) (by omega) (by rw [e3]; exact hDW) w' (hw'.mem _ MemC.out).2)) rfl rfl ?_
            rw [e2, hvW, hW]
            repeat (first | refine sX rfl rfl ?_ | (refine sS rfl rfl ?_ ?_; focus omega) | (refine sC rfl rfl ?_ ?_; focus (first | exact trivial | assumption | exact ⟨by assumption, by assumption⟩ | exact mb2 rfl rfl | exact mb4 rfl rfl rfl rfl)) | refine cX ?_ | refine cY ?_ | (refine sA rfl rfl ?_; intro _) | refine sT rfl ?_ | refine sW rfl rfl ?_ | refine sK rfl rfl ?_ | refine j_if rfl ?_ | refine j_else rfl ?_ | refine Go.Vt.jq (wl_pickT rfl rfl) rfl rfl ?_ | refine Go.Vt.jq (wl_pickF rfl rfl) rfl rfl ?_)
            exact jx_ret_two rfl (resv_tmp rfl) (resv_tmp rfl) (fun w hw => ret_ok hw)
end Go.Vt
