/- The sum and the difference of two magnitudes. Conditions: the lengths that each statement names. -/
import Derived.Test.YtgcjapcminakdaaDoorNatB
set_option linter.unusedSimpArgs false
set_option linter.unusedVariables false
set_option maxRecDepth 100000
namespace Go.Vt
open Go.RowKit Go.Proofs

theorem p32 : (2 : Int) ^ (32 : Int).toNat = 4294967296 := by decide

instance ext_add64 (x y : Nat) : ExtC Tryd.prog 71 [.int .u64 x, .int .u64 y, .int .u64 0] (.tuple #[.int .u64 (((x + y) % 18446744073709551616 : Nat) : Int), .int .u64 (((x + y) / 18446744073709551616 : Nat) : Int)]) (x < 18446744073709551616 ∧ y < 18446744073709551616) := ⟨fun h w => by
  have := run_add64 (P := Tryd.prog) x y 0 (by omega) (by omega) (by omega) (by omega) w
  show (callFunc _ #[.int .u64 x, .int .u64 y, .int .u64 0]).run Tryd.prog w = _
  rw [run_callFunc_extern Tryd.func71 (by kernel_rfl) (by kernel_rfl) (by kernel_rfl) (e := add64Entry) (by kernel_rfl), this]
  simp only [Result.andThen, Int.add_zero]
  rfl⟩

/-- One digit of a sum. -/
theorem add_step {os ys : List Nat} {i c S y : Nat} (hi : i < os.length) (hD : Dg os) (hc : c ≤ 1) (hy : y < 4294967296) (hS : vd os + c * 4294967296 ^ i + vd (ys.drop i) * 4294967296 ^ i = S) (hdr : vd (ys.drop i) = y + 4294967296 * vd (ys.drop (i + 1))) :
    (c + os[i] + y) / 4294967296 ≤ 1 ∧ Dg (os.set i ((c + os[i] + y) % 4294967296)) ∧
      vd (os.set i ((c + os[i] + y) % 4294967296)) + (c + os[i] + y) / 4294967296 * 4294967296 ^ (i + 1) + vd (ys.drop (i + 1)) * 4294967296 ^ (i + 1) = S := by
  have h1 := dg_get hD hi
  refine ⟨by omega, dg_set hD _ _ (Nat.mod_lt _ (by omega)), ?_⟩
  have hs := vd_set os i ((c + os[i] + y) % 4294967296) hi
  have hb := Nat.div_add_mod (c + os[i] + y) 4294967296
  generalize (c + os[i] + y) / 4294967296 = q at *
  generalize (c + os[i] + y) % 4294967296 = r at *
  rw [hdr] at hS
  rw [show (4294967296 : Nat) ^ (i + 1) = 4294967296 ^ i * 4294967296 from Nat.pow_succ _ _]
  generalize (4294967296 : Nat) ^ i = p at *
  have e : (4294967296 * q + r) * p = (c + os[i] + y) * p := by rw [hb]
  rw [Nat.add_mul, Nat.add_mul, Nat.add_mul, Nat.mul_assoc] at e
  rw [Nat.add_mul, Nat.mul_assoc] at hS
  have e1 : q * (p * 4294967296) = 4294967296 * (q * p) := by rw [Nat.mul_comm p, ← Nat.mul_assoc, Nat.mul_comm q, Nat.mul_assoc]
  have e2 : vd (ys.drop (i + 1)) * (p * 4294967296) = 4294967296 * (vd (ys.drop (i + 1)) * p) := by rw [Nat.mul_comm p, ← Nat.mul_assoc, Nat.mul_comm (vd _) 4294967296, Nat.mul_assoc]
  rw [e1, e2]
  omega
theorem digits_val (a : Nat) : vd (dgs a (((mag a).size + 3) / 4)) = a := by
  rw [vd_dgs, Nat.mod_eq_of_lt]
  rw [pow_dig4]
  have h1 : a < 256 ^ (mag a).size := mag_size.1 (Nat.le_refl _)
  exact Nat.lt_of_lt_of_le h1 (Nat.pow_le_pow_right (by omega) (by omega))
theorem vd_drop (ys : List Nat) (i : Nat) (h : i < ys.length) : vd (ys.drop i) = ys[i] + 4294967296 * vd (ys.drop (i + 1)) := by
  rw [List.drop_eq_getElem_cons h, vd]
theorem vd_drop_end (ys : List Nat) (i : Nat) (h : ys.length ≤ i) : vd (ys.drop i) = 0 := by
  rw [List.drop_eq_nil_of_le h]; rfl

theorem add_spec (a b : Nat) (ha : (mag a).size ≤ 1099511627776) (hb : (mag b).size ≤ 1099511627776) (w : World) : Calls Tryd.prog 58 [.string (mag a), .string (mag b)].toArray w (Ret (.string (mag (a + b))) w) := by
  refine fn_intro Tryd.func58 rfl Tryd.ntmps58 rfl ?_
  refine j_seq (j_region ?_)
  repeat (first | refine sX rfl rfl ?_ | (refine sS rfl rfl ?_ ?_; focus omega) | (refine sC rfl rfl ?_ ?_; focus (first | exact trivial | assumption | exact ⟨by assumption, by assumption⟩ | exact mb2 rfl rfl | exact mb4 rfl rfl rfl rfl)) | (refine sA rfl rfl ?_; intro _) | refine sT rfl ?_ | refine sW rfl rfl ?_ | refine sK rfl rfl ?_ | refine cY ?_ | refine Go.Vt.jq (wl_pickT rfl rfl) rfl rfl ?_ | refine Go.Vt.jq (wl_pickF rfl rfl) rfl rfl ?_)
  refine j_mid (S := Unit) (fun _ => True) (fun _ => [(0, .string (mag a)), (1, .string (mag b))]) (fun _ => []) ?_ (fun _ _ => ?_)
  · repeat (first | refine sX rfl rfl ?_ | (refine sS rfl rfl ?_ ?_; focus omega) | (refine sC rfl rfl ?_ ?_; focus (first | exact trivial | assumption | exact ⟨by assumption, by assumption⟩ | exact mb2 rfl rfl | exact mb4 rfl rfl rfl rfl)) | refine cX ?_ | refine cY ?_ | (refine sA rfl rfl ?_; intro _) | refine sT rfl ?_ | refine sW rfl rfl ?_ | refine sK rfl rfl ?_ | refine j_if rfl ?_ | refine j_else rfl ?_ | refine Go.Vt.jq (wl_pickT rfl rfl) rfl rfl ?_ | refine Go.Vt.jq (wl_pickF rfl rfl) rfl rfl ?_)
    refine j_cond rfl (fun h => ?_) (fun h => ?_)
    · rw [Bool.and_eq_true] at h
      have h1 := lo_sm h.1
      have h2 := lo_sm h.2
      have h3 := lo_lt a
      have h4 := lo_lt b
      rw [h1] at h3
      rw [h2] at h4
      simp only [h1, h2]
      repeat (first | refine sX rfl rfl ?_ | (refine sS rfl rfl ?_ ?_; focus omega) | (refine sC rfl rfl ?_ ?_; focus (exact ⟨h3, h4⟩)) | refine cX ?_ | refine cY ?_ | (refine sA rfl rfl ?_; intro _) | refine sT rfl ?_ | refine sW rfl rfl ?_ | refine sK rfl rfl ?_ | refine j_if rfl ?_ | refine j_else rfl ?_ | refine Go.Vt.jq (wl_pickT rfl rfl) rfl rfl ?_ | refine Go.Vt.jq (wl_pickF rfl rfl) rfl rfl ?_)
      refine j_cond rfl (fun h => ?_) (fun h => ?_)
      · have h5 := of_decide_eq_true h
        have h6 : (a + b) % 18446744073709551616 = a + b := by omega
        simp only [h6]
        repeat (first | refine sX rfl rfl ?_ | (refine sS rfl rfl ?_ ?_; focus omega) | (refine sC rfl rfl ?_ ?_; focus (omega)) | refine cX ?_ | refine cY ?_ | (refine sA rfl rfl ?_; intro _) | refine sT rfl ?_ | refine sW rfl rfl ?_ | refine sK rfl rfl ?_ | refine j_if rfl ?_ | refine j_else rfl ?_ | refine Go.Vt.jq (wl_pickT rfl rfl) rfl rfl ?_ | refine Go.Vt.jq (wl_pickF rfl rfl) rfl rfl ?_)
        exact jx_ret_tmp rfl rfl (fun w hw => ret_ok hw)
      · repeat (first | refine sX rfl rfl ?_ | (refine sS rfl rfl ?_ ?_; focus omega) | (refine sC rfl rfl ?_ ?_; focus (first | exact trivial | assumption | exact ⟨by assumption, by assumption⟩ | exact mb2 rfl rfl | exact mb4 rfl rfl rfl rfl)) | refine cX ?_ | refine cY ?_ | (refine sA rfl rfl ?_; intro _) | refine sT rfl ?_ | refine sW rfl rfl ?_ | refine sK rfl rfl ?_ | refine j_if rfl ?_ | refine j_else rfl ?_ | refine Go.Vt.jq (wl_pickT rfl rfl) rfl rfl ?_ | refine Go.Vt.jq (wl_pickF rfl rfl) rfl rfl ?_)
        exact jx_mid () trivial (by repeat (first | exact sub_nil | refine sub_cons rfl ?_)) (List.Sublist.refl _)
    · repeat (first | refine sX rfl rfl ?_ | (refine sS rfl rfl ?_ ?_; focus omega) | (refine sC rfl rfl ?_ ?_; focus (first | exact trivial | assumption | exact ⟨by assumption, by assumption⟩ | exact mb2 rfl rfl | exact mb4 rfl rfl rfl rfl)) | refine cX ?_ | refine cY ?_ | (refine sA rfl rfl ?_; intro _) | refine sT rfl ?_ | refine sW rfl rfl ?_ | refine sK rfl rfl ?_ | refine j_if rfl ?_ | refine j_else rfl ?_ | refine Go.Vt.jq (wl_pickT rfl rfl) rfl rfl ?_ | refine Go.Vt.jq (wl_pickF rfl rfl) rfl rfl ?_)
      exact jx_mid () trivial (by repeat (first | exact sub_nil | refine sub_cons rfl ?_)) (List.Sublist.refl _)
  · repeat (first | refine sX rfl rfl ?_ | (refine sS rfl rfl ?_ ?_; focus omega) | (refine sC rfl rfl ?_ ?_; focus (first | exact trivial | assumption | exact ⟨by assumption, by assumption⟩ | exact mb2 rfl rfl | exact mb4 rfl rfl rfl rfl)) | refine cX ?_ | refine cY ?_ | (refine sA rfl rfl ?_; intro _) | refine sT rfl ?_ | refine sW rfl rfl ?_ | refine sK rfl rfl ?_ | refine j_if rfl ?_ | refine j_else rfl ?_ | refine Go.Vt.jq (wl_pickT rfl rfl) rfl rfl ?_ | refine Go.Vt.jq (wl_pickF rfl rfl) rfl rfl ?_)
    refine wo_callB rfl (fun w' _ => digits_spec a ha w') rfl rfl ?_
    intro b1
    repeat (first | refine sX rfl rfl ?_ | (refine sS rfl rfl ?_ ?_; focus omega) | (refine sC rfl rfl ?_ ?_; focus (first | exact trivial | assumption | exact ⟨by assumption, by assumption⟩ | exact mb2 rfl rfl | exact mb4 rfl rfl rfl rfl)) | refine cX ?_ | refine cY ?_ | (refine sA rfl rfl ?_; intro _) | refine sT rfl ?_ | refine sW rfl rfl ?_ | refine sK rfl rfl ?_ | refine j_if rfl ?_ | refine j_else rfl ?_ | refine Go.Vt.jq (wl_pickT rfl rfl) rfl rfl ?_ | refine Go.Vt.jq (wl_pickF rfl rfl) rfl rfl ?_)
    refine wo_callB rfl (fun w' _ => digits_spec b hb w') rfl rfl ?_
    intro b2
    repeat (first | refine sX rfl rfl ?_ | (refine sS rfl rfl ?_ ?_; focus omega) | (refine sC rfl rfl ?_ ?_; focus (first | exact trivial | assumption | exact ⟨by assumption, by assumption⟩ | exact mb2 rfl rfl | exact mb4 rfl rfl rfl rfl)) | refine cX ?_ | refine cY ?_ | (refine sA rfl rfl ?_; intro _) | refine sT rfl ?_ | refine sW rfl rfl ?_ | refine sK rfl rfl ?_ | refine j_if rfl ?_ | refine j_else rfl ?_ | refine Go.Vt.jq (wl_pickT rfl rfl) rfl rfl ?_ | refine Go.Vt.jq (wl_pickF rfl rfl) rfl rfl ?_)
    obtain ⟨na, hna⟩ : ∃ na, na = ((mag a).size + 3) / 4 := ⟨_, rfl⟩
    obtain ⟨nb, hnb⟩ : ∃ nb, nb = ((mag b).size + 3) / 4 := ⟨_, rfl⟩
    have hva : vd (dgs a na) = a := by rw [hna, digits_val]
    have hvb : vd (dgs b nb) = b := by rw [hnb, digits_val]
    have hla := dgs_len na a
    have hlb := dgs_len nb b
    have hDa := dgs_dg na a
    have hDb := dgs_dg nb b
    simp only [← hna, ← hnb]
    generalize dgs a na = xa at *
    generalize dgs b nb = xb at *
    refine j_cut (S := Nat × List Nat × Nat × List Nat) (fun s => vd s.2.1 + vd s.2.2.2 = a + b ∧ s.2.2.2.length ≤ s.2.1.length ∧ Dg s.2.1 ∧ Dg s.2.2.2 ∧ s.2.1.length ≤ 549755813888) (fun s => [(10, .slice (some ⟨s.1, 0, none⟩) s.2.1.length s.2.1.length), (11, .slice (some ⟨s.2.2.1, 0, none⟩) s.2.2.2.length s.2.2.2.length)]) (fun s => [⟨s.2.2.1, dig .u32 s.2.2.2, 117⟩, ⟨s.1, dig .u32 s.2.1, 117⟩]) ?_ (fun s hs => ?_)
    · refine j_cond rfl (fun h => ?_) (fun h => ?_)
      · have h1 := of_decide_eq_true h
        repeat (first | refine sX rfl rfl ?_ | (refine sS rfl rfl ?_ ?_; focus omega) | (refine sC rfl rfl ?_ ?_; focus (first | exact trivial | assumption | exact ⟨by assumption, by assumption⟩ | exact mb2 rfl rfl | exact mb4 rfl rfl rfl rfl)) | refine cX ?_ | refine cY ?_ | (refine sA rfl rfl ?_; intro _) | refine sT rfl ?_ | refine sW rfl rfl ?_ | refine sK rfl rfl ?_ | refine j_if rfl ?_ | refine j_else rfl ?_ | refine Go.Vt.jq (wl_pickT rfl rfl) rfl rfl ?_ | refine Go.Vt.jq (wl_pickF rfl rfl) rfl rfl ?_)
        exact jx_perm (List.Perm.swap _ _ _) (jx_mid (b2, xb, b1, xa) ⟨by simp only; omega, by simp only; omega, hDb, hDa, by simp only; omega⟩ (by rw [← hla, ← hlb]; repeat (first | exact sub_nil | refine sub_cons rfl ?_)) (List.Sublist.refl _))
      · have h1 := of_decide_eq_false h
        repeat (first | refine sX rfl rfl ?_ | (refine sS rfl rfl ?_ ?_; focus omega) | (refine sC rfl rfl ?_ ?_; focus (first | exact trivial | assumption | exact ⟨by assumption, by assumption⟩ | exact mb2 rfl rfl | exact mb4 rfl rfl rfl rfl)) | refine cX ?_ | refine cY ?_ | (refine sA rfl rfl ?_; intro _) | refine sT rfl ?_ | refine sW rfl rfl ?_ | refine sK rfl rfl ?_ | refine j_if rfl ?_ | refine j_else rfl ?_ | refine Go.Vt.jq (wl_pickT rfl rfl) rfl rfl ?_ | refine Go.Vt.jq (wl_pickF rfl rfl) rfl rfl ?_)
        exact jx_mid (b1, xa, b2, xb) ⟨by simp only; omega, by simp only; omega, hDa, hDb, by simp only; omega⟩ (by rw [← hla, ← hlb]; repeat (first | exact sub_nil | refine sub_cons rfl ?_)) (List.Sublist.refl _)
    · obtain ⟨bx, xs, bY, ys⟩ := s
      obtain ⟨hS, hle, hDx, hDy, hlim⟩ := hs
      simp only at hS hle hDx hDy hlim ⊢
      repeat (first | refine sX rfl rfl ?_ | (refine sS rfl rfl ?_ ?_; focus omega) | (refine sC rfl rfl ?_ ?_; focus (first | exact trivial | assumption | exact ⟨by assumption, by assumption⟩ | exact mb2 rfl rfl | exact mb4 rfl rfl rfl rfl)) | refine cX ?_ | refine cY ?_ | (refine sA rfl rfl ?_; intro _) | refine sT rfl ?_ | refine sW rfl rfl ?_ | refine sK rfl rfl ?_ | refine j_if rfl ?_ | refine j_else rfl ?_ | refine Go.Vt.jq (wl_pickT rfl rfl) rfl rfl ?_ | refine Go.Vt.jq (wl_pickF rfl rfl) rfl rfl ?_)
      refine wo_makeD (k := .u32) (B := 4) (m := xs.length + 1) rfl rfl ⟨by omega, by omega⟩ rfl rfl ?_
      intro bo
      repeat (first | refine sX rfl rfl ?_ | (refine sS rfl rfl ?_ ?_; focus omega) | (refine sC rfl rfl ?_ ?_; focus (first | exact trivial | assumption | exact ⟨by assumption, by assumption⟩ | exact mb2 rfl rfl | exact mb4 rfl rfl rfl rfl)) | refine cX ?_ | refine cY ?_ | (refine sA rfl rfl ?_; intro _) | refine sT rfl ?_ | refine sW rfl rfl ?_ | refine sK rfl rfl ?_ | refine j_if rfl ?_ | refine j_else rfl ?_ | refine Go.Vt.jq (wl_pickT rfl rfl) rfl rfl ?_ | refine Go.Vt.jq (wl_pickF rfl rfl) rfl rfl ?_)
      refine wo_copyD (k := .u32) rfl rfl (by simp) (Nat.le_refl _) rfl rfl ?_
      have e1 : xs.take (min xs.length (xs.length + 1)) ++ (List.replicate (xs.length + 1) 0).drop (min xs.length (xs.length + 1)) = xs ++ [0] := by
        rw [Nat.min_eq_left (by omega), List.take_of_length_le (Nat.le_refl _), List.drop_replicate, show xs.length + 1 - xs.length = 1 by omega]
        rfl
      simp only [e1]
      have hvo : vd (xs ++ [0]) = vd xs := by rw [vd_append]; simp [vd]
      repeat (first | refine sX rfl rfl ?_ | (refine sS rfl rfl ?_ ?_; focus omega) | (refine sC rfl rfl ?_ ?_; focus (first | exact trivial | assumption | exact ⟨by assumption, by assumption⟩ | exact mb2 rfl rfl | exact mb4 rfl rfl rfl rfl)) | refine cX ?_ | refine cY ?_ | (refine sA rfl rfl ?_; intro _) | refine sT rfl ?_ | refine sW rfl rfl ?_ | refine sK rfl rfl ?_ | refine j_if rfl ?_ | refine j_else rfl ?_ | refine Go.Vt.jq (wl_pickT rfl rfl) rfl rfl ?_ | refine Go.Vt.jq (wl_pickF rfl rfl) rfl rfl ?_)
      refine j_loop (S := Nat × List Nat × Nat) (fun s => s.1 ≤ xs.length + 1 ∧ s.2.1.length = xs.length + 1 ∧ Dg s.2.1 ∧ s.2.2 ≤ 1 ∧ vd s.2.1 + s.2.2 * 4294967296 ^ s.1 + vd (ys.drop s.1) * 4294967296 ^ s.1 = a + b)
        (fun s => [(11, .slice (some ⟨bY, 0, none⟩) ys.length ys.length), (12, .slice (some ⟨bo, 0, none⟩) (xs.length + 1) (xs.length + 1)), (13, .int .u64 s.2.2), (52, .int .i64 ((xs.length + 1 : Nat) : Int)), (53, .int .i64 s.1)])
        (fun s => [⟨bo, dig .u32 s.2.1, 117⟩, ⟨bY, dig .u32 ys, 117⟩, ⟨bx, dig .u32 xs, 117⟩]) (fun s => xs.length + 1 - s.1) (0, xs ++ [0], 0)
        ⟨by simp, by simp, dg_append hDx (fun d hd => by simp at hd; omega), by simp, by simp [hvo, hS]⟩ (by repeat (first | exact sub_nil | refine sub_cons rfl ?_)) (List.Sublist.refl _) (fun s hs => ?_)
      obtain ⟨i, os, c⟩ := s
      obtain ⟨hi, hlo, hDo, hc, hinv⟩ := hs
      simp only at hi hlo hDo hc hinv ⊢
      repeat (first | refine sX rfl rfl ?_ | (refine sS rfl rfl ?_ ?_; focus omega) | (refine sC rfl rfl ?_ ?_; focus (first | exact trivial | assumption | exact ⟨by assumption, by assumption⟩ | exact mb2 rfl rfl | exact mb4 rfl rfl rfl rfl)) | refine cX ?_ | refine cY ?_ | (refine sA rfl rfl ?_; intro _) | refine sT rfl ?_ | refine sW rfl rfl ?_ | refine sK rfl rfl ?_ | refine j_if rfl ?_ | refine j_else rfl ?_ | refine Go.Vt.jq (wl_pickT rfl rfl) rfl rfl ?_ | refine Go.Vt.jq (wl_pickF rfl rfl) rfl rfl ?_)
      refine j_cond rfl (fun h => ?_) (fun h => ?_)
      · have hlt : i < xs.length + 1 := by have := of_decide_eq_true h; omega
        have hio : i < os.length := by omega
        have hdo := dg_get hDo hio
        repeat (first | refine sX rfl rfl ?_ | (refine sS rfl rfl ?_ ?_; focus omega) | (refine sC rfl rfl ?_ ?_; focus (first | exact trivial | assumption | exact ⟨by assumption, by assumption⟩ | exact mb2 rfl rfl | exact mb4 rfl rfl rfl rfl)) | refine cX ?_ | refine cY ?_ | (refine sA rfl rfl ?_; intro _) | refine sT rfl ?_ | refine sW rfl rfl ?_ | refine sK rfl rfl ?_ | refine j_if rfl ?_ | refine j_else rfl ?_ | refine Go.Vt.jq (wl_pickT rfl rfl) rfl rfl ?_ | refine Go.Vt.jq (wl_pickF rfl rfl) rfl rfl ?_)
        refine jq (wl_loadD rfl (show os[0 + (i : Int).toNat * 1]? = some os[i] by rw [show 0 + (i : Int).toNat * 1 = i by omega]; simp [hio])) rfl rfl ?_
        repeat (first | refine sX rfl rfl ?_ | (refine sS rfl rfl ?_ ?_; focus omega) | (refine sC rfl rfl ?_ ?_; focus (first | exact trivial | assumption | exact ⟨by assumption, by assumption⟩ | exact mb2 rfl rfl | exact mb4 rfl rfl rfl rfl)) | refine cX ?_ | refine cY ?_ | (refine sA rfl rfl ?_; intro _) | refine sT rfl ?_ | refine sW rfl rfl ?_ | refine sK rfl rfl ?_ | refine j_if rfl ?_ | refine j_else rfl ?_ | refine Go.Vt.jq (wl_pickT rfl rfl) rfl rfl ?_ | refine Go.Vt.jq (wl_pickF rfl rfl) rfl rfl ?_)
        refine j_cond rfl (fun h => ?_) (fun h => ?_)
        · have hiy : i < ys.length := by have := of_decide_eq_true h; omega
          have hdy := dg_get hDy hiy
          obtain ⟨g1, g2, g3⟩ := add_step hio hDo hc hdy hinv (vd_drop ys i hiy)
          repeat (first | refine sX rfl rfl ?_ | (refine sS rfl rfl ?_ ?_; focus omega) | (refine sC rfl rfl ?_ ?_; focus (first | exact trivial | assumption | exact ⟨by assumption, by assumption⟩ | exact mb2 rfl rfl | exact mb4 rfl rfl rfl rfl)) | refine cX ?_ | refine cY ?_ | (refine sA rfl rfl ?_; intro _) | refine sT rfl ?_ | refine sW rfl rfl ?_ | refine sK rfl rfl ?_ | refine j_if rfl ?_ | refine j_else rfl ?_ | refine Go.Vt.jq (wl_pickT rfl rfl) rfl rfl ?_ | refine Go.Vt.jq (wl_pickF rfl rfl) rfl rfl ?_)
          refine jq (wl_loadD rfl (show ys[0 + (i : Int).toNat * 1]? = some ys[i] by rw [show 0 + (i : Int).toNat * 1 = i by omega]; simp [hiy])) rfl rfl ?_
          repeat (first | refine sX rfl rfl ?_ | (refine sS rfl rfl ?_ ?_; focus omega) | (refine sC rfl rfl ?_ ?_; focus (first | exact trivial | assumption | exact ⟨by assumption, by assumption⟩ | exact mb2 rfl rfl | exact mb4 rfl rfl rfl rfl)) | refine cX ?_ | refine cY ?_ | (refine sA rfl rfl ?_; intro _) | refine sT rfl ?_ | refine sW rfl rfl ?_ | refine sK rfl rfl ?_ | refine j_if rfl ?_ | refine j_else rfl ?_ | refine Go.Vt.jq (wl_pickT rfl rfl) rfl rfl ?_ | refine Go.Vt.jq (wl_pickF rfl rfl) rfl rfl ?_)
          refine jq (wl_shr rfl rfl (by decide)) rfl rfl ?_
          repeat (first | refine sX rfl rfl ?_ | (refine sS rfl rfl ?_ ?_; focus omega) | (refine sC rfl rfl ?_ ?_; focus (first | exact trivial | assumption | exact ⟨by assumption, by assumption⟩ | exact mb2 rfl rfl | exact mb4 rfl rfl rfl rfl)) | refine cX ?_ | refine cY ?_ | (refine sA rfl rfl ?_; intro _) | refine sT rfl ?_ | refine sW rfl rfl ?_ | refine sK rfl rfl ?_ | refine j_if rfl ?_ | refine j_else rfl ?_ | refine Go.Vt.jq (wl_pickT rfl rfl) rfl rfl ?_ | refine Go.Vt.jq (wl_pickF rfl rfl) rfl rfl ?_)
          rw [p32, IntKind.wrap_u32, show ((c : Int) + (os[i] : Nat) + (ys[i] : Nat)) % 4294967296 = (((c + os[i] + ys[i]) % 4294967296 : Nat) : Int) by omega, show ((c : Int) + (os[i] : Nat) + (ys[i] : Nat)) / 4294967296 = (((c + os[i] + ys[i]) / 4294967296 : Nat) : Int) by omega]
          refine wo_storeD rfl rfl (by omega) rfl ?_
          rw [show 0 + (i : Int).toNat * 1 = i by omega]
          repeat (first | refine sX rfl rfl ?_ | (refine sS rfl rfl ?_ ?_; focus omega) | (refine sC rfl rfl ?_ ?_; focus (first | exact trivial | assumption | exact ⟨by assumption, by assumption⟩ | exact mb2 rfl rfl | exact mb4 rfl rfl rfl rfl)) | refine cX ?_ | refine cY ?_ | (refine sA rfl rfl ?_; intro _) | refine sT rfl ?_ | refine sW rfl rfl ?_ | refine sK rfl rfl ?_ | refine j_if rfl ?_ | refine j_else rfl ?_ | refine Go.Vt.jq (wl_pickT rfl rfl) rfl rfl ?_ | refine Go.Vt.jq (wl_pickF rfl rfl) rfl rfl ?_)
          exact jx_loop (i + 1, _, _) ⟨hlt, by rw [List.length_set]; exact hlo, g2, g1, g3⟩ (by repeat (first | exact sub_nil | refine sub_cons rfl ?_)) (List.Sublist.refl _) (by simp only; omega)
        · have hiy : ys.length ≤ i := by have := of_decide_eq_false h; omega
          obtain ⟨g1, g2, g3⟩ := add_step (y := 0) hio hDo hc (by omega) hinv (by rw [vd_drop_end ys i hiy, vd_drop_end ys (i + 1) (by omega)])
          simp only [Nat.add_zero] at g1 g2 g3
          repeat (first | refine sX rfl rfl ?_ | (refine sS rfl rfl ?_ ?_; focus omega) | (refine sC rfl rfl ?_ ?_; focus (first | exact trivial | assumption | exact ⟨by assumption, by assumption⟩ | exact mb2 rfl rfl | exact mb4 rfl rfl rfl rfl)) | refine cX ?_ | refine cY ?_ | (refine sA rfl rfl ?_; intro _) | refine sT rfl ?_ | refine sW rfl rfl ?_ | refine sK rfl rfl ?_ | refine j_if rfl ?_ | refine j_else rfl ?_ | refine Go.Vt.jq (wl_pickT rfl rfl) rfl rfl ?_ | refine Go.Vt.jq (wl_pickF rfl rfl) rfl rfl ?_)
          refine jq (wl_shr rfl rfl (by decide)) rfl rfl ?_
          repeat (first | refine sX rfl rfl ?_ | (refine sS rfl rfl ?_ ?_; focus omega) | (refine sC rfl rfl ?_ ?_; focus (first | exact trivial | assumption | exact ⟨by assumption, by assumption⟩ | exact mb2 rfl rfl | exact mb4 rfl rfl rfl rfl)) | refine cX ?_ | refine cY ?_ | (refine sA rfl rfl ?_; intro _) | refine sT rfl ?_ | refine sW rfl rfl ?_ | refine sK rfl rfl ?_ | refine j_if rfl ?_ | refine j_else rfl ?_ | refine Go.Vt.jq (wl_pickT rfl rfl) rfl rfl ?_ | refine Go.Vt.jq (wl_pickF rfl rfl) rfl rfl ?_)
          rw [p32, IntKind.wrap_u32, show ((c : Int) + (os[i] : Nat)) % 4294967296 = (((c + os[i]) % 4294967296 : Nat) : Int) by omega, show ((c : Int) + (os[i] : Nat)) / 4294967296 = (((c + os[i]) / 4294967296 : Nat) : Int) by omega]
          refine wo_storeD rfl rfl (by omega) rfl ?_
          rw [show 0 + (i : Int).toNat * 1 = i by omega]
          repeat (first | refine sX rfl rfl ?_ | (refine sS rfl rfl ?_ ?_; focus omega) | (refine sC rfl rfl ?_ ?_; focus (first | exact trivial | assumption | exact ⟨by assumption, by assumption⟩ | exact mb2 rfl rfl | exact mb4 rfl rfl rfl rfl)) | refine cX ?_ | refine cY ?_ | (refine sA rfl rfl ?_; intro _) | refine sT rfl ?_ | refine sW rfl rfl ?_ | refine sK rfl rfl ?_ | refine j_if rfl ?_ | refine j_else rfl ?_ | refine Go.Vt.jq (wl_pickT rfl rfl) rfl rfl ?_ | refine Go.Vt.jq (wl_pickF rfl rfl) rfl rfl ?_)
          exact jx_loop (i + 1, _, _) ⟨hlt, by rw [List.length_set]; exact hlo, g2, g1, g3⟩ (by repeat (first | exact sub_nil | refine sub_cons rfl ?_)) (List.Sublist.refl _) (by simp only; omega)
      · have hge : i = xs.length + 1 := by have := of_decide_eq_false h; omega
        subst hge
        repeat (first | refine sX rfl rfl ?_ | (refine sS rfl rfl ?_ ?_; focus omega) | (refine sC rfl rfl ?_ ?_; focus (first | exact trivial | assumption | exact ⟨by assumption, by assumption⟩ | exact mb2 rfl rfl | exact mb4 rfl rfl rfl rfl)) | refine cX ?_ | refine cY ?_ | (refine sA rfl rfl ?_; intro _) | refine sT rfl ?_ | refine sW rfl rfl ?_ | refine sK rfl rfl ?_ | refine j_if rfl ?_ | refine j_else rfl ?_ | refine Go.Vt.jq (wl_pickT rfl rfl) rfl rfl ?_ | refine Go.Vt.jq (wl_pickF rfl rfl) rfl rfl ?_)
        have hfin : vd (os.take (xs.length + 1)) = a + b := by
          rw [List.take_of_length_le (by omega)]
          rw [vd_drop_end ys _ (by omega)] at hinv
          have h1 := vd_lt hDx
          have h2 := vd_lt hDy
          have h3 : 4294967296 ^ ys.length ≤ 4294967296 ^ xs.length := Nat.pow_le_pow_right (by omega) hle
          have h4 : (4294967296 : Nat) ^ (xs.length + 1) = 4294967296 ^ xs.length * 4294967296 := Nat.pow_succ _ _
          have hc' : c = 0 ∨ c = 1 := by omega
          rcases hc' with rfl | rfl
          · omega
          · omega
        refine jq (wl_callW rfl (fun w' hw' => bytes_spec bo (xs.length + 1) (xs.length + 1) os (0, 0) (by omega) (Nat.le_refl _) (by omega) hDo w' (hw'.mem _ MemC.out).2)) rfl rfl ?_
        rw [hfin]
        repeat (first | refine sX rfl rfl ?_ | (refine sS rfl rfl ?_ ?_; focus omega) | (refine sC rfl rfl ?_ ?_; focus (first | exact trivial | assumption | exact ⟨by assumption, by assumption⟩ | exact mb2 rfl rfl | exact mb4 rfl rfl rfl rfl)) | refine cX ?_ | refine cY ?_ | (refine sA rfl rfl ?_; intro _) | refine sT rfl ?_ | refine sW rfl rfl ?_ | refine sK rfl rfl ?_ | refine j_if rfl ?_ | refine j_else rfl ?_ | refine Go.Vt.jq (wl_pickT rfl rfl) rfl rfl ?_ | refine Go.Vt.jq (wl_pickF rfl rfl) rfl rfl ?_)
        exact jx_ret_tmp rfl rfl (fun w hw => ret_ok hw)
end Go.Vt
