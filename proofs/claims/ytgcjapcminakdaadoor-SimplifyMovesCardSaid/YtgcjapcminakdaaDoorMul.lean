/- The product of two magnitudes. Conditions: the lengths that each statement names. -/
import Derived.Test.YtgcjapcminakdaaDoorAdd
set_option linter.unusedSimpArgs false
set_option linter.unusedVariables false
set_option maxRecDepth 100000
namespace Go.Vt
open Go.RowKit Go.Proofs

/-- One digit of a product: 'M' is what stands, 'd' the digit of the first factor. -/
theorem mul_step {os ys : List Nat} {i k c d M t : Nat} (hk : k < ys.length) (hi : i + k < os.length) (ht : t = c + (os[i + k] + d * ys[k])) (hS : vd os + c * 4294967296 ^ (i + k) = M + d * vd (ys.take k) * 4294967296 ^ i) :
    vd (os.set (i + k) (t % 4294967296)) + t / 4294967296 * 4294967296 ^ (i + (k + 1)) = M + d * vd (ys.take (k + 1)) * 4294967296 ^ i := by
  have hs := vd_set os (i + k) (t % 4294967296) hi
  have hb := Nat.div_add_mod t 4294967296
  generalize t / 4294967296 = q at *
  generalize t % 4294967296 = r at *
  have hy : vd (ys.take (k + 1)) = vd (ys.take k) + 4294967296 ^ k * ys[k] := by
    rw [List.take_succ_eq_append_getElem hk, vd_append, List.length_take, Nat.min_eq_left (by omega)]
    simp [vd]
  rw [hy, show (4294967296 : Nat) ^ (i + (k + 1)) = 4294967296 ^ (i + k) * 4294967296 from Nat.pow_succ _ _]
  have e : (4294967296 * q + r) * 4294967296 ^ (i + k) = (c + (os[i + k] + d * ys[k])) * 4294967296 ^ (i + k) := by rw [hb, ht]
  have e3 : d * (vd (ys.take k) + 4294967296 ^ k * ys[k]) * 4294967296 ^ i = d * vd (ys.take k) * 4294967296 ^ i + d * ys[k] * 4294967296 ^ (i + k) := by
    rw [Nat.mul_add, Nat.add_mul, Nat.pow_add]
    congr 1
    rw [Nat.mul_comm (4294967296 ^ k), ← Nat.mul_assoc, Nat.mul_assoc (d * ys[k]), Nat.mul_comm (4294967296 ^ k)]
  rw [e3]
  generalize (4294967296 : Nat) ^ (i + k) = p at *
  rw [Nat.add_mul, Nat.add_mul, Nat.add_mul, Nat.mul_assoc] at e
  have e1 : q * (p * 4294967296) = 4294967296 * (q * p) := by rw [Nat.mul_comm p, ← Nat.mul_assoc, Nat.mul_comm q, Nat.mul_assoc]
  rw [e1]
  omega
theorem mul_word {c o d y : Nat} (hc : c < 4294967296) (ho : o < 4294967296) (hd : d < 4294967296) (hy : y < 4294967296) : d * y ≤ 18446744065119617025 ∧ c + (o + d * y) < 18446744073709551616 := by
  have h : d * y ≤ 4294967295 * 4294967295 := Nat.mul_le_mul (by omega) (by omega)
  omega
theorem vd_hi {os : List Nat} {i : Nat} (h : vd os < 4294967296 ^ i) (hi : i < os.length) : os[i] = 0 := by
  have := vd_get_le os i hi
  rcases Nat.eq_zero_or_pos os[i] with h1 | h1
  · exact h1
  · have h2 : 1 * 4294967296 ^ i ≤ os[i] * 4294967296 ^ i := Nat.mul_le_mul_right _ h1
    omega

instance ext_mul64 (x y : Nat) : SpecC Tryd.prog 85 [.int .u64 x, .int .u64 y] (.tuple #[.int .u64 ((x * y / 18446744073709551616 : Nat) : Int), .int .u64 ((x * y % 18446744073709551616 : Nat) : Int)]) (x < 18446744073709551616 ∧ y < 18446744073709551616) := ⟨fun h w =>
  (Tryd.bits_Mul64 x y h.1 h.2 w).mono fun e w' ⟨h1, h2⟩ => by subst h2; exact ⟨h1, Ext.refl _⟩⟩

theorem mul_spec (a b : Nat) (ha : (mag a).size ≤ 1099511627776) (hb : (mag b).size ≤ 1099511627776) (w : World) : Calls Tryd.prog 65 [.string (mag a), .string (mag b)].toArray w (Ret (.string (mag (a * b))) w) := by
  refine fn_intro Tryd.func65 rfl Tryd.ntmps65 rfl ?_
  refine j_seq (j_region ?_)
  repeat (first | refine sX rfl rfl ?_ | (refine sS rfl rfl ?_ ?_; focus omega) | (refine sC rfl rfl ?_ ?_; focus (first | exact trivial | assumption | exact ⟨by assumption, by assumption⟩ | exact mb2 rfl rfl | exact mb4 rfl rfl rfl rfl)) | (refine sA rfl rfl ?_; intro _) | refine sT rfl ?_ | refine sW rfl rfl ?_ | refine sK rfl rfl ?_ | refine cY ?_ | refine Go.Vt.jq (wl_pickT rfl rfl) rfl rfl ?_ | refine Go.Vt.jq (wl_pickF rfl rfl) rfl rfl ?_)
  refine j_mid (S := Unit) (fun _ => True) (fun _ => [(0, .string (mag a)), (1, .string (mag b))]) (fun _ => []) ?_ (fun _ _ => ?_)
  · repeat (first | refine sX rfl rfl ?_ | (refine sS rfl rfl ?_ ?_; focus omega) | (refine sC rfl rfl ?_ ?_; focus (first | exact trivial | assumption | exact ⟨by assumption, by assumption⟩ | exact mb2 rfl rfl | exact mb4 rfl rfl rfl rfl)) | refine cX ?_ | refine cY ?_ | (refine sA rfl rfl ?_; intro _) | refine sT rfl ?_ | refine sW rfl rfl ?_ | refine sK rfl rfl ?_ | refine j_if rfl ?_ | refine j_else rfl ?_ | refine Go.Vt.jq (wl_pickT rfl rfl) rfl rfl ?_ | refine Go.Vt.jq (wl_pickF rfl rfl) rfl rfl ?_)
    refine j_cond rfl (fun h => ?_) (fun h => ?_)
    · rw [Bool.and_eq_true] at h
      have h1 := lo_sm h.1
      have h2 := lo_sm h.2
      have h3 := lo_lt a
      have h4 := lo_lt b
      rw [h1] at h3
      rw [h2] at h4
      simp only [h1, h2]
      repeat (first | refine sX rfl rfl ?_ | (refine sS rfl rfl ?_ ?_; focus omega) | (refine sC rfl rfl ?_ ?_; focus (exact ⟨h3, h4⟩)) | refine cX ?_ | refine cY ?_ | (refine sA rfl rfl ?_; intro _) | refine sT rfl ?_ | refine sW rfl rfl ?_ | refine sK rfl rfl ?_ | refine j_if rfl ?_ | refine j_else rfl ?_ | refine Go.Vt.jq (wl_pickT rfl rfl) rfl rfl ?_ | refine Go.Vt.jq (wl_pickF rfl rfl) rfl rfl ?_)
      refine j_cond rfl (fun h => ?_) (fun h => ?_)
      · have h5 := of_decide_eq_true h
        have h6 : (a * b) % 18446744073709551616 = a * b := by omega
        simp only [h6]
        repeat (first | refine sX rfl rfl ?_ | (refine sS rfl rfl ?_ ?_; focus omega) | (refine sC rfl rfl ?_ ?_; focus (omega)) | refine cX ?_ | refine cY ?_ | (refine sA rfl rfl ?_; intro _) | refine sT rfl ?_ | refine sW rfl rfl ?_ | refine sK rfl rfl ?_ | refine j_if rfl ?_ | refine j_else rfl ?_ | refine Go.Vt.jq (wl_pickT rfl rfl) rfl rfl ?_ | refine Go.Vt.jq (wl_pickF rfl rfl) rfl rfl ?_)
        exact jx_ret_tmp rfl rfl (fun w hw => ret_ok hw)
      · repeat (first | refine sX rfl rfl ?_ | (refine sS rfl rfl ?_ ?_; focus omega) | (refine sC rfl rfl ?_ ?_; focus (first | exact trivial | assumption | exact ⟨by assumption, by assumption⟩ | exact mb2 rfl rfl | exact mb4 rfl rfl rfl rfl)) | refine cX ?_ | refine cY ?_ | (refine sA rfl rfl ?_; intro _) | refine sT rfl ?_ | refine sW rfl rfl ?_ | refine sK rfl rfl ?_ | refine j_if rfl ?_ | refine j_else rfl ?_ | refine Go.Vt.jq (wl_pickT rfl rfl) rfl rfl ?_ | refine Go.Vt.jq (wl_pickF rfl rfl) rfl rfl ?_)
        exact jx_mid () trivial (by repeat (first | exact sub_nil | refine sub_cons rfl ?_)) (List.Sublist.refl _)
    · repeat (first | refine sX rfl rfl ?_ | (refine sS rfl rfl ?_ ?_; focus omega) | (refine sC rfl rfl ?_ ?_; focus (first | exact trivial | assumption | exact ⟨by assumption, by assumption⟩ | exact mb2 rfl rfl | exact mb4 rfl rfl rfl rfl)) | refine cX ?_ | refine cY ?_ | (refine sA rfl rfl ?_; intro _) | refine sT rfl ?_ | refine sW rfl rfl ?_ | refine sK rfl rfl ?_ | refine j_if rfl ?_ | refine j_else rfl ?_ | refine Go.Vt.jq (wl_pickT rfl rfl) rfl rfl ?_ | refine Go.Vt.jq (wl_pickF rfl rfl) rfl rfl ?_)
      exact jx_mid () trivial (by repeat (first | exact sub_nil | refine sub_cons rfl ?_)) (List.Sublist.refl _)
  · repeat (first | refine sX rfl rfl ?_ | (refine sS rfl rfl ?_ ?_; focus omega) | (refine sC rfl rfl ?_ ?_; focus (first | exact trivial | assumption | exact ⟨by assumption, by assumption⟩ | exact mb2 rfl rfl | exact mb4 rfl rfl rfl rfl)) | refine cX ?_ | refine cY ?_ | (refine sA rfl rfl ?_; intro _) | refine sT rfl ?_ | refine sW rfl rfl ?_ | refine sK rfl rfl ?_ | refine j_if rfl ?_ | refine j_else rfl ?_ | refine Go.Vt.jq (wl_pickT rfl rfl) rfl rfl ?_ | refine Go.Vt.jq (wl_pickF rfl rfl) rfl rfl ?_)
    refine wo_callB rfl (fun w' _ => digits_spec a ha w') rfl rfl ?_
    intro bx
    repeat (first | refine sX rfl rfl ?_ | (refine sS rfl rfl ?_ ?_; focus omega) | (refine sC rfl rfl ?_ ?_; focus (first | exact trivial | assumption | exact ⟨by assumption, by assumption⟩ | exact mb2 rfl rfl | exact mb4 rfl rfl rfl rfl)) | refine cX ?_ | refine cY ?_ | (refine sA rfl rfl ?_; intro _) | refine sT rfl ?_ | refine sW rfl rfl ?_ | refine sK rfl rfl ?_ | refine j_if rfl ?_ | refine j_else rfl ?_ | refine Go.Vt.jq (wl_pickT rfl rfl) rfl rfl ?_ | refine Go.Vt.jq (wl_pickF rfl rfl) rfl rfl ?_)
    refine wo_callB rfl (fun w' _ => digits_spec b hb w') rfl rfl ?_
    intro bY
    repeat (first | refine sX rfl rfl ?_ | (refine sS rfl rfl ?_ ?_; focus omega) | (refine sC rfl rfl ?_ ?_; focus (first | exact trivial | assumption | exact ⟨by assumption, by assumption⟩ | exact mb2 rfl rfl | exact mb4 rfl rfl rfl rfl)) | refine cX ?_ | refine cY ?_ | (refine sA rfl rfl ?_; intro _) | refine sT rfl ?_ | refine sW rfl rfl ?_ | refine sK rfl rfl ?_ | refine j_if rfl ?_ | refine j_else rfl ?_ | refine Go.Vt.jq (wl_pickT rfl rfl) rfl rfl ?_ | refine Go.Vt.jq (wl_pickF rfl rfl) rfl rfl ?_)
    obtain ⟨na, hna⟩ : ∃ na, na = ((mag a).size + 3) / 4 := ⟨_, rfl⟩
    obtain ⟨nb, hnb⟩ : ∃ nb, nb = ((mag b).size + 3) / 4 := ⟨_, rfl⟩
    have hva : vd (dgs a na) = a := by rw [hna, digits_val]
    have hvb : vd (dgs b nb) = b := by rw [hnb, digits_val]
    have hla := dgs_len na a
    have hlb := dgs_len nb b
    have hDx := dgs_dg na a
    have hDy := dgs_dg nb b
    simp only [← hna, ← hnb]
    generalize dgs a na = xs at *
    generalize dgs b nb = ys at *
    subst hla
    subst hlb
    have em : (xs.length : Int) + (ys.length : Int) + 1 = ((xs.length + ys.length + 1 : Nat) : Int) := by omega
    simp only [em]
    refine wo_makeD (k := .u32) (B := 4) (m := xs.length + ys.length + 1) rfl rfl ⟨by omega, by omega⟩ rfl rfl ?_
    intro bo
    repeat (first | refine sX rfl rfl ?_ | (refine sS rfl rfl ?_ ?_; focus omega) | (refine sC rfl rfl ?_ ?_; focus (first | exact trivial | assumption | exact ⟨by assumption, by assumption⟩ | exact mb2 rfl rfl | exact mb4 rfl rfl rfl rfl)) | refine cX ?_ | refine cY ?_ | (refine sA rfl rfl ?_; intro _) | refine sT rfl ?_ | refine sW rfl rfl ?_ | refine sK rfl rfl ?_ | refine j_if rfl ?_ | refine j_else rfl ?_ | refine Go.Vt.jq (wl_pickT rfl rfl) rfl rfl ?_ | refine Go.Vt.jq (wl_pickF rfl rfl) rfl rfl ?_)
    refine j_loop (S := Nat × List Nat) (fun s => s.1 ≤ xs.length ∧ s.2.length = xs.length + ys.length + 1 ∧ Dg s.2 ∧ vd s.2 = vd (xs.take s.1) * b)
      (fun s => [(10, .slice (some ⟨bx, 0, none⟩) xs.length xs.length), (11, .slice (some ⟨bY, 0, none⟩) ys.length ys.length), (12, .slice (some ⟨bo, 0, none⟩) (xs.length + ys.length + 1) (xs.length + ys.length + 1)), (46, .slice (some ⟨bx, 0, none⟩) xs.length xs.length), (47, .int .i64 (xs.length : Int)), (48, .int .i64 s.1)])
      (fun s => [⟨bo, dig .u32 s.2, 117⟩, ⟨bY, dig .u32 ys, 117⟩, ⟨bx, dig .u32 xs, 117⟩]) (fun s => xs.length - s.1) (0, List.replicate (xs.length + ys.length + 1) 0)
      ⟨by simp, by simp, dg_zero _, by simp [vd, vd_zero]⟩ (by repeat (first | exact sub_nil | refine sub_cons rfl ?_)) (List.Sublist.refl _) (fun s hs => ?_)
    obtain ⟨i, os⟩ := s
    obtain ⟨hi, hlo, hDo, hinv⟩ := hs
    simp only at hi hlo hDo hinv ⊢
    repeat (first | refine sX rfl rfl ?_ | (refine sS rfl rfl ?_ ?_; focus omega) | (refine sC rfl rfl ?_ ?_; focus (first | exact trivial | assumption | exact ⟨by assumption, by assumption⟩ | exact mb2 rfl rfl | exact mb4 rfl rfl rfl rfl)) | refine cX ?_ | refine cY ?_ | (refine sA rfl rfl ?_; intro _) | refine sT rfl ?_ | refine sW rfl rfl ?_ | refine sK rfl rfl ?_ | refine j_if rfl ?_ | refine j_else rfl ?_ | refine Go.Vt.jq (wl_pickT rfl rfl) rfl rfl ?_ | refine Go.Vt.jq (wl_pickF rfl rfl) rfl rfl ?_)
    refine j_cond rfl (fun h => ?_) (fun h => ?_)
    · have hlt : i < xs.length := by have := of_decide_eq_true h; omega
      have hdx := dg_get hDx hlt
      repeat (first | refine sX rfl rfl ?_ | (refine sS rfl rfl ?_ ?_; focus omega) | (refine sC rfl rfl ?_ ?_; focus (first | exact trivial | assumption | exact ⟨by assumption, by assumption⟩ | exact mb2 rfl rfl | exact mb4 rfl rfl rfl rfl)) | refine cX ?_ | refine cY ?_ | (refine sA rfl rfl ?_; intro _) | refine sT rfl ?_ | refine sW rfl rfl ?_ | refine sK rfl rfl ?_ | refine j_if rfl ?_ | refine j_else rfl ?_ | refine Go.Vt.jq (wl_pickT rfl rfl) rfl rfl ?_ | refine Go.Vt.jq (wl_pickF rfl rfl) rfl rfl ?_)
      refine jq (wl_loadD rfl (show xs[0 + (i : Int).toNat * 1]? = some xs[i] by rw [show 0 + (i : Int).toNat * 1 = i by omega]; simp [hlt])) rfl rfl ?_
      repeat (first | refine sX rfl rfl ?_ | (refine sS rfl rfl ?_ ?_; focus omega) | (refine sC rfl rfl ?_ ?_; focus (first | exact trivial | assumption | exact ⟨by assumption, by assumption⟩ | exact mb2 rfl rfl | exact mb4 rfl rfl rfl rfl)) | refine cX ?_ | refine cY ?_ | (refine sA rfl rfl ?_; intro _) | refine sT rfl ?_ | refine sW rfl rfl ?_ | refine sK rfl rfl ?_ | refine j_if rfl ?_ | refine j_else rfl ?_ | refine Go.Vt.jq (wl_pickT rfl rfl) rfl rfl ?_ | refine Go.Vt.jq (wl_pickF rfl rfl) rfl rfl ?_)
      have hbig : vd os < 4294967296 ^ (i + ys.length) := by
        rw [hinv, Nat.pow_add]
        have h1 := vd_lt (dg_take hDx i)
        rw [List.length_take, Nat.min_eq_left (by omega)] at h1
        have h2 := vd_lt hDy
        rw [hvb] at h2
        rcases Nat.eq_zero_or_pos b with h3 | h3
        · subst h3
          rw [Nat.mul_zero]
          exact Nat.mul_pos (Nat.pow_pos (by omega)) (Nat.pow_pos (by omega))
        · exact Nat.lt_of_lt_of_le (Nat.mul_lt_mul_of_pos_right h1 h3) (Nat.mul_le_mul_left _ (Nat.le_of_lt h2))
      have htop := vd_hi hbig (by omega)
      refine j_loop (S := Nat × List Nat × Nat) (fun s => s.1 ≤ ys.length ∧ s.2.1.length = xs.length + ys.length + 1 ∧ Dg s.2.1 ∧ s.2.2 < 4294967296 ∧ s.2.1[i + ys.length]? = some 0 ∧ vd s.2.1 + s.2.2 * 4294967296 ^ (i + s.1) = vd (xs.take i) * b + xs[i] * vd (ys.take s.1) * 4294967296 ^ i)
        (fun s => [(10, .slice (some ⟨bx, 0, none⟩) xs.length xs.length), (11, .slice (some ⟨bY, 0, none⟩) ys.length ys.length), (12, .slice (some ⟨bo, 0, none⟩) (xs.length + ys.length + 1) (xs.length + ys.length + 1)), (46, .slice (some ⟨bx, 0, none⟩) xs.length xs.length), (47, .int .i64 (xs.length : Int)), (48, .int .i64 i), (13, .int .i64 i), (14, .int .u32 xs[i]), (15, .int .u64 s.2.2), (54, .int .i64 ys.length), (55, .int .i64 s.1)])
        (fun s => [⟨bo, dig .u32 s.2.1, 117⟩, ⟨bY, dig .u32 ys, 117⟩, ⟨bx, dig .u32 xs, 117⟩]) (fun s => ys.length - s.1) (0, os, 0)
        ⟨by simp, hlo, hDo, by simp, by simp only; rw [List.getElem?_eq_getElem (by omega), htop], by simp [vd, hinv]⟩ (by repeat (first | exact sub_nil | refine sub_cons rfl ?_)) (List.Sublist.refl _) (fun s hs => ?_)
      obtain ⟨k, ps, c⟩ := s
      obtain ⟨hk, hlp, hDp, hc, hz, hin⟩ := hs
      simp only at hk hlp hDp hc hz hin ⊢
      repeat (first | refine sX rfl rfl ?_ | (refine sS rfl rfl ?_ ?_; focus omega) | (refine sC rfl rfl ?_ ?_; focus (first | exact trivial | assumption | exact ⟨by assumption, by assumption⟩ | exact mb2 rfl rfl | exact mb4 rfl rfl rfl rfl)) | refine cX ?_ | refine cY ?_ | (refine sA rfl rfl ?_; intro _) | refine sT rfl ?_ | refine sW rfl rfl ?_ | refine sK rfl rfl ?_ | refine j_if rfl ?_ | refine j_else rfl ?_ | refine Go.Vt.jq (wl_pickT rfl rfl) rfl rfl ?_ | refine Go.Vt.jq (wl_pickF rfl rfl) rfl rfl ?_)
      refine j_cond rfl (fun h => ?_) (fun h => ?_)
      · have hky : k < ys.length := by have := of_decide_eq_true h; omega
        have hdy := dg_get hDy hky
        have hip : i + k < ps.length := by omega
        have hdp := dg_get hDp hip
        obtain ⟨hw1, hw2⟩ := mul_word hc hdp hdx hdy
        repeat (first | refine sX rfl rfl ?_ | (refine sS rfl rfl ?_ ?_; focus omega) | (refine sC rfl rfl ?_ ?_; focus (first | exact trivial | assumption | exact ⟨by assumption, by assumption⟩ | exact mb2 rfl rfl | exact mb4 rfl rfl rfl rfl)) | refine cX ?_ | refine cY ?_ | (refine sA rfl rfl ?_; intro _) | refine sT rfl ?_ | refine sW rfl rfl ?_ | refine sK rfl rfl ?_ | refine j_if rfl ?_ | refine j_else rfl ?_ | refine Go.Vt.jq (wl_pickT rfl rfl) rfl rfl ?_ | refine Go.Vt.jq (wl_pickF rfl rfl) rfl rfl ?_)
        refine jD 19 19 mixed (by kernel_rfl) ?_
        repeat (first | refine tX rfl rfl ?_ | (refine tS rfl rfl ?_ ?_; focus omega) | (refine tC rfl rfl ?_ ?_; focus (first | exact trivial | assumption | exact ⟨by assumption, by assumption⟩ | exact mb2 rfl rfl | exact mb4 rfl rfl rfl rfl)) | refine tW rfl rfl ?_ | refine tK rfl rfl ?_ | refine Go.Vt.hq (wl_pickT rfl rfl) rfl rfl ?_ | refine Go.Vt.hq (wl_pickF rfl rfl) rfl rfl ?_)
        refine hq (wl_loadD rfl (show ps[0 + ((i : Int) + (k : Int)).toNat * 1]? = some ps[i + k] by rw [show 0 + ((i : Int) + (k : Int)).toNat * 1 = i + k by omega]; simp [hip])) rfl rfl ?_
        repeat (first | refine tX rfl rfl ?_ | (refine tS rfl rfl ?_ ?_; focus omega) | (refine tC rfl rfl ?_ ?_; focus (first | exact trivial | assumption | exact ⟨by assumption, by assumption⟩ | exact mb2 rfl rfl | exact mb4 rfl rfl rfl rfl)) | refine tW rfl rfl ?_ | refine tK rfl rfl ?_ | refine Go.Vt.hq (wl_pickT rfl rfl) rfl rfl ?_ | refine Go.Vt.hq (wl_pickF rfl rfl) rfl rfl ?_)
        refine hq (wl_loadD rfl (show ys[0 + (k : Int).toNat * 1]? = some ys[k] by rw [show 0 + (k : Int).toNat * 1 = k by omega]; simp [hky])) rfl rfl ?_
        refine hq (wl_cvu rfl ?_) rfl rfl ?_
        · omega
        refine hq (wl_mulu rfl rfl ?_) rfl rfl ?_
        · rw [← Int.natCast_mul]; omega
        rw [← Int.natCast_mul]
        repeat (first | refine tX rfl rfl ?_ | (refine tS rfl rfl ?_ ?_; focus omega) | (refine tC rfl rfl ?_ ?_; focus (first | exact trivial | assumption | exact ⟨by assumption, by assumption⟩ | exact mb2 rfl rfl | exact mb4 rfl rfl rfl rfl)) | refine tW rfl rfl ?_ | refine tK rfl rfl ?_ | refine Go.Vt.hq (wl_pickT rfl rfl) rfl rfl ?_ | refine Go.Vt.hq (wl_pickF rfl rfl) rfl rfl ?_)
        refine jh_nil (jn_nil ?_)
        repeat (first | refine sX rfl rfl ?_ | (refine sS rfl rfl ?_ ?_; focus omega) | (refine sC rfl rfl ?_ ?_; focus (first | exact trivial | assumption | exact ⟨by assumption, by assumption⟩ | exact mb2 rfl rfl | exact mb4 rfl rfl rfl rfl)) | refine cX ?_ | refine cY ?_ | (refine sA rfl rfl ?_; intro _) | refine sT rfl ?_ | refine sW rfl rfl ?_ | refine sK rfl rfl ?_ | refine j_if rfl ?_ | refine j_else rfl ?_ | refine Go.Vt.jq (wl_pickT rfl rfl) rfl rfl ?_ | refine Go.Vt.jq (wl_pickF rfl rfl) rfl rfl ?_)
        refine jq (wl_shr rfl rfl (by decide)) rfl rfl ?_
        repeat (first | refine sX rfl rfl ?_ | (refine sS rfl rfl ?_ ?_; focus omega) | (refine sC rfl rfl ?_ ?_; focus (first | exact trivial | assumption | exact ⟨by assumption, by assumption⟩ | exact mb2 rfl rfl | exact mb4 rfl rfl rfl rfl)) | refine cX ?_ | refine cY ?_ | (refine sA rfl rfl ?_; intro _) | refine sT rfl ?_ | refine sW rfl rfl ?_ | refine sK rfl rfl ?_ | refine j_if rfl ?_ | refine j_else rfl ?_ | refine Go.Vt.jq (wl_pickT rfl rfl) rfl rfl ?_ | refine Go.Vt.jq (wl_pickF rfl rfl) rfl rfl ?_)
        obtain ⟨t, ht⟩ : ∃ t, t = c + (ps[i + k] + xs[i] * ys[k]) := ⟨_, rfl⟩
        rw [p32, IntKind.wrap_u32, show (c : Int) + ((ps[i + k] : Nat) + ((xs[i] * ys[k] : Nat) : Int)) = (t : Int) by omega, show (t : Int) % 4294967296 = ((t % 4294967296 : Nat) : Int) by omega, show (t : Int) / 4294967296 = ((t / 4294967296 : Nat) : Int) by omega]
        refine wo_storeD rfl rfl (by omega) rfl ?_
        rw [show 0 + ((i : Int) + (k : Int)).toNat * 1 = i + k by omega]
        have g := mul_step hky hip ht hin
        repeat (first | refine sX rfl rfl ?_ | (refine sS rfl rfl ?_ ?_; focus omega) | (refine sC rfl rfl ?_ ?_; focus (first | exact trivial | assumption | exact ⟨by assumption, by assumption⟩ | exact mb2 rfl rfl | exact mb4 rfl rfl rfl rfl)) | refine cX ?_ | refine cY ?_ | (refine sA rfl rfl ?_; intro _) | refine sT rfl ?_ | refine sW rfl rfl ?_ | refine sK rfl rfl ?_ | refine j_if rfl ?_ | refine j_else rfl ?_ | refine Go.Vt.jq (wl_pickT rfl rfl) rfl rfl ?_ | refine Go.Vt.jq (wl_pickF rfl rfl) rfl rfl ?_)
        exact jx_loop (k + 1, _, t / 4294967296) ⟨hky, by rw [List.length_set]; exact hlp, dg_set hDp _ _ (Nat.mod_lt _ (by omega)), by simp only; omega, by simp only; rw [List.getElem?_set_ne (by omega)]; exact hz, g⟩ (by repeat (first | exact sub_nil | refine sub_cons rfl ?_)) (List.Sublist.refl _) (by simp only; omega)
      · have hge : k = ys.length := by have := of_decide_eq_false h; omega
        subst hge
        repeat (first | refine sX rfl rfl ?_ | (refine sS rfl rfl ?_ ?_; focus omega) | (refine sC rfl rfl ?_ ?_; focus (first | exact trivial | assumption | exact ⟨by assumption, by assumption⟩ | exact mb2 rfl rfl | exact mb4 rfl rfl rfl rfl)) | refine cX ?_ | refine cY ?_ | (refine sA rfl rfl ?_; intro _) | refine sT rfl ?_ | refine sW rfl rfl ?_ | refine sK rfl rfl ?_ | refine j_if rfl ?_ | refine j_else rfl ?_ | refine Go.Vt.jq (wl_pickT rfl rfl) rfl rfl ?_ | refine Go.Vt.jq (wl_pickF rfl rfl) rfl rfl ?_)
        have hip : i + ys.length < ps.length := by omega
        refine wo_storeD rfl rfl (by omega) rfl ?_
        rw [show 0 + ((i : Int) + (ys.length : Int)).toNat * 1 = i + ys.length by omega]
        repeat (first | refine sX rfl rfl ?_ | (refine sS rfl rfl ?_ ?_; focus omega) | (refine sC rfl rfl ?_ ?_; focus (first | exact trivial | assumption | exact ⟨by assumption, by assumption⟩ | exact mb2 rfl rfl | exact mb4 rfl rfl rfl rfl)) | refine cX ?_ | refine cY ?_ | (refine sA rfl rfl ?_; intro _) | refine sT rfl ?_ | refine sW rfl rfl ?_ | refine sK rfl rfl ?_ | refine j_if rfl ?_ | refine j_else rfl ?_ | refine Go.Vt.jq (wl_pickT rfl rfl) rfl rfl ?_ | refine Go.Vt.jq (wl_pickF rfl rfl) rfl rfl ?_)
        have hfin : vd (ps.set (i + ys.length) c) = vd (xs.take (i + 1)) * b := by
          have hs := vd_set ps (i + ys.length) c hip
          rw [List.getElem?_eq_getElem hip] at hz
          simp only [Option.some.injEq] at hz
          rw [hz, Nat.zero_mul] at hs
          rw [List.take_of_length_le (Nat.le_refl _), hvb] at hin
          have hy : vd (xs.take (i + 1)) = vd (xs.take i) + 4294967296 ^ i * xs[i] := by
            rw [List.take_succ_eq_append_getElem hlt, vd_append, List.length_take, Nat.min_eq_left (by omega)]
            simp [vd]
          rw [hy, Nat.add_mul]
          have e4 : 4294967296 ^ i * xs[i] * b = xs[i] * b * 4294967296 ^ i := by rw [Nat.mul_assoc, Nat.mul_comm]
          rw [e4]
          omega
        exact jx_loop (i + 1, _) ⟨hlt, by rw [List.length_set]; exact hlp, dg_set hDp _ _ hc, hfin⟩ (by repeat (first | exact sub_nil | refine sub_cons rfl ?_)) (List.Sublist.refl _) (by simp only; omega)
    · have hge : i = xs.length := by have := of_decide_eq_false h; omega
      subst hge
      repeat (first | refine sX rfl rfl ?_ | (refine sS rfl rfl ?_ ?_; focus omega) | (refine sC rfl rfl ?_ ?_; focus (first | exact trivial | assumption | exact ⟨by assumption, by assumption⟩ | exact mb2 rfl rfl | exact mb4 rfl rfl rfl rfl)) | refine cX ?_ | refine cY ?_ | (refine sA rfl rfl ?_; intro _) | refine sT rfl ?_ | refine sW rfl rfl ?_ | refine sK rfl rfl ?_ | refine j_if rfl ?_ | refine j_else rfl ?_ | refine Go.Vt.jq (wl_pickT rfl rfl) rfl rfl ?_ | refine Go.Vt.jq (wl_pickF rfl rfl) rfl rfl ?_)
      have hfin : vd (os.take (xs.length + ys.length + 1)) = a * b := by
        rw [List.take_of_length_le (by omega), hinv, List.take_of_length_le (Nat.le_refl _), hva]
      refine jq (wl_callW rfl (fun w' hw' => bytes_spec bo (xs.length + ys.length + 1) (xs.length + ys.length + 1) os (0, 0) (by omega) (Nat.le_refl _) (by omega) hDo w' (hw'.mem _ MemC.out).2)) rfl rfl ?_
      rw [hfin]
      repeat (first | refine sX rfl rfl ?_ | (refine sS rfl rfl ?_ ?_; focus omega) | (refine sC rfl rfl ?_ ?_; focus (first | exact trivial | assumption | exact ⟨by assumption, by assumption⟩ | exact mb2 rfl rfl | exact mb4 rfl rfl rfl rfl)) | refine cX ?_ | refine cY ?_ | (refine sA rfl rfl ?_; intro _) | refine sT rfl ?_ | refine sW rfl rfl ?_ | refine sK rfl rfl ?_ | refine j_if rfl ?_ | refine j_else rfl ?_ | refine Go.Vt.jq (wl_pickT rfl rfl) rfl rfl ?_ | refine Go.Vt.jq (wl_pickF rfl rfl) rfl rfl ?_)
      exact jx_ret_tmp rfl rfl (fun w hw => ret_ok hw)
end Go.Vt
