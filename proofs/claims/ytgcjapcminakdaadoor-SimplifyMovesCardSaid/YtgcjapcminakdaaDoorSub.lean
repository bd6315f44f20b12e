/- The difference of two magnitudes, the second one not greater. Conditions: the lengths that each statement names. -/
import Derived.Test.YtgcjapcminakdaaDoorAdd
set_option linter.unusedSimpArgs false
set_option linter.unusedVariables false
set_option maxRecDepth 100000
namespace Go.Vt
open Go.RowKit Go.Proofs

/-- One digit of a difference. -/
theorem sub_step {os ys : List Nat} {i c r c' a T y : Nat} (hi : i < os.length) (hr : r + c + y = os[i] + c' * 4294967296) (hS : vd os + T = a + vd (ys.drop i) * 4294967296 ^ i + c * 4294967296 ^ i) (hdr : vd (ys.drop i) = y + 4294967296 * vd (ys.drop (i + 1))) :
    vd (os.set i r) + T = a + vd (ys.drop (i + 1)) * 4294967296 ^ (i + 1) + c' * 4294967296 ^ (i + 1) := by
  have hs := vd_set os i r hi
  rw [hdr] at hS
  rw [show (4294967296 : Nat) ^ (i + 1) = 4294967296 ^ i * 4294967296 from Nat.pow_succ _ _]
  generalize (4294967296 : Nat) ^ i = p at *
  have e : (r + c + y) * p = (os[i] + c' * 4294967296) * p := by rw [hr]
  rw [Nat.add_mul, Nat.add_mul, Nat.add_mul, Nat.mul_comm c' 4294967296, Nat.mul_assoc] at e
  rw [Nat.add_mul, Nat.mul_assoc] at hS
  have e1 : c' * (p * 4294967296) = 4294967296 * (c' * p) := by rw [Nat.mul_comm p, ← Nat.mul_assoc, Nat.mul_comm c', Nat.mul_assoc]
  have e2 : vd (ys.drop (i + 1)) * (p * 4294967296) = 4294967296 * (vd (ys.drop (i + 1)) * p) := by rw [Nat.mul_comm p, ← Nat.mul_assoc, Nat.mul_comm (vd _) 4294967296, Nat.mul_assoc]
  rw [e1, e2]
  omega
theorem size_mono {a b : Nat} (h : b ≤ a) : (mag b).size ≤ (mag a).size := by
  rw [mag_size]
  exact Nat.lt_of_le_of_lt h (mag_size.1 (Nat.le_refl _))

theorem sub_spec (a b : Nat) (ha : (mag a).size ≤ 1099511627776) (hba : b ≤ a) (w : World) : Calls Tryd.prog 60 [.string (mag a), .string (mag b)].toArray w (Ret (.string (mag (a - b))) w) := by
  have hb : (mag b).size ≤ 1099511627776 := Nat.le_trans (size_mono hba) ha
  refine fn_intro Tryd.func60 rfl Tryd.ntmps60 rfl ?_
  refine j_seq (j_region ?_)
  repeat (first | refine sX rfl rfl ?_ | (refine sS rfl rfl ?_ ?_; focus omega) | (refine sC rfl rfl ?_ ?_; focus (first | exact trivial | assumption | exact ⟨by assumption, by assumption⟩ | exact mb2 rfl rfl | exact mb4 rfl rfl rfl rfl)) | (refine sA rfl rfl ?_; intro _) | refine sT rfl ?_ | refine sW rfl rfl ?_ | refine sK rfl rfl ?_ | refine cY ?_ | refine Go.Vt.jq (wl_pickT rfl rfl) rfl rfl ?_ | refine Go.Vt.jq (wl_pickF rfl rfl) rfl rfl ?_)
  refine j_mid (S := Unit) (fun _ => True) (fun _ => [(0, .string (mag a)), (1, .string (mag b))]) (fun _ => []) ?_ (fun _ _ => ?_)
  · repeat (first | refine sX rfl rfl ?_ | (refine sS rfl rfl ?_ ?_; focus omega) | (refine sC rfl rfl ?_ ?_; focus (first | exact trivial | assumption | exact ⟨by assumption, by assumption⟩ | exact mb2 rfl rfl | exact mb4 rfl rfl rfl rfl)) | refine cX ?_ | refine cY ?_ | (refine sA rfl rfl ?_; intro _) | refine sT rfl ?_ | refine sW rfl rfl ?_ | refine sK rfl rfl ?_ | refine j_if rfl ?_ | refine j_else rfl ?_ | refine Go.Vt.jq (wl_pickT rfl rfl) rfl rfl ?_ | refine Go.Vt.jq (wl_pickF rfl rfl) rfl rfl ?_)
    refine j_cond rfl (fun h => ?_) (fun h => ?_)
    · rw [Bool.and_eq_true] at h
      have h1 := lo_sm h.1
      have h2 := lo_sm h.2
      have h3 := lo_lt a
      have h4 := lo_lt b
      rw [h1] at h3
      rw [h2] at h4
      simp only [h1, h2]
      repeat (first | refine sX rfl rfl ?_ | (refine sS rfl rfl ?_ ?_; focus omega) | (refine sC rfl rfl ?_ ?_; focus (exact ⟨h3, h4⟩)) | refine cX ?_ | refine cY ?_ | (refine sA rfl rfl ?_; intro _) | refine sT rfl ?_ | refine sW rfl rfl ?_ | refine sK rfl rfl ?_ | refine j_if rfl ?_ | refine j_else rfl ?_ | refine Go.Vt.jq (wl_pickT rfl rfl) rfl rfl ?_ | refine Go.Vt.jq (wl_pickF rfl rfl) rfl rfl ?_)
      rw [IntWalk.u64_in _ (by omega), show (a : Int) - b = ((a - b : Nat) : Int) by omega]
      repeat (first | refine sX rfl rfl ?_ | (refine sS rfl rfl ?_ ?_; focus omega) | (refine sC rfl rfl ?_ ?_; focus (omega)) | refine cX ?_ | refine cY ?_ | (refine sA rfl rfl ?_; intro _) | refine sT rfl ?_ | refine sW rfl rfl ?_ | refine sK rfl rfl ?_ | refine j_if rfl ?_ | refine j_else rfl ?_ | refine Go.Vt.jq (wl_pickT rfl rfl) rfl rfl ?_ | refine Go.Vt.jq (wl_pickF rfl rfl) rfl rfl ?_)
      exact jx_ret_tmp rfl rfl (fun w hw => ret_ok hw)
    · repeat (first | refine sX rfl rfl ?_ | (refine sS rfl rfl ?_ ?_; focus omega) | (refine sC rfl rfl ?_ ?_; focus (first | exact trivial | assumption | exact ⟨by assumption, by assumption⟩ | exact mb2 rfl rfl | exact mb4 rfl rfl rfl rfl)) | refine cX ?_ | refine cY ?_ | (refine sA rfl rfl ?_; intro _) | refine sT rfl ?_ | refine sW rfl rfl ?_ | refine sK rfl rfl ?_ | refine j_if rfl ?_ | refine j_else rfl ?_ | refine Go.Vt.jq (wl_pickT rfl rfl) rfl rfl ?_ | refine Go.Vt.jq (wl_pickF rfl rfl) rfl rfl ?_)
      exact jx_mid () trivial (by repeat (first | exact sub_nil | refine sub_cons rfl ?_)) (List.Sublist.refl _)
  · repeat (first | refine sX rfl rfl ?_ | (refine sS rfl rfl ?_ ?_; focus omega) | (refine sC rfl rfl ?_ ?_; focus (first | exact trivial | assumption | exact ⟨by assumption, by assumption⟩ | exact mb2 rfl rfl | exact mb4 rfl rfl rfl rfl)) | refine cX ?_ | refine cY ?_ | (refine sA rfl rfl ?_; intro _) | refine sT rfl ?_ | refine sW rfl rfl ?_ | refine sK rfl rfl ?_ | refine j_if rfl ?_ | refine j_else rfl ?_ | refine Go.Vt.jq (wl_pickT rfl rfl) rfl rfl ?_ | refine Go.Vt.jq (wl_pickF rfl rfl) rfl rfl ?_)
    refine wo_callB rfl (fun w' _ => digits_spec a ha w') rfl rfl ?_
    intro bx
    repeat (first | refine sX rfl rfl ?_ | (refine sS rfl rfl ?_ ?_; focus omega) | (refine sC rfl rfl ?_ ?_; focus (first | exact trivial | assumption | exact ⟨by assumption, by assumption⟩ | exact mb2 rfl rfl | exact mb4 rfl rfl rfl rfl)) | refine cX ?_ | refine cY ?_ | (refine sA rfl rfl ?_; intro _) | refine sT rfl ?_ | refine sW rfl rfl ?_ | refine sK rfl rfl ?_ | refine j_if rfl ?_ | refine j_else rfl ?_ | refine Go.Vt.jq (wl_pickT rfl rfl) rfl rfl ?_ | refine Go.Vt.jq (wl_pickF rfl rfl) rfl rfl ?_)
    refine wo_callB rfl (fun w' _ => digits_spec b hb w') rfl rfl ?_
    intro bY
    repeat (first | refine sX rfl rfl ?_ | (refine sS rfl rfl ?_ ?_; focus omega) | (refine sC rfl rfl ?_ ?_; focus (first | exact trivial | assumption | exact ⟨by assumption, by assumption⟩ | exact mb2 rfl rfl | exact mb4 rfl rfl rfl rfl)) | refine cX ?_ | refine cY ?_ | (refine sA rfl rfl ?_; intro _) | refine sT rfl ?_ | refine sW rfl rfl ?_ | refine sK rfl rfl ?_ | refine j_if rfl ?_ | refine j_else rfl ?_ | refine Go.Vt.jq (wl_pickT rfl rfl) rfl rfl ?_ | refine Go.Vt.jq (wl_pickF rfl rfl) rfl rfl ?_)
    obtain ⟨na, hna⟩ : ∃ na, na = ((mag a).size + 3) / 4 := ⟨_, rfl⟩
    obtain ⟨nb, hnb⟩ : ∃ nb, nb = ((mag b).size + 3) / 4 := ⟨_, rfl⟩
    have hva : vd (dgs a na) = a := by rw [hna, digits_val]
    have hvb : vd (dgs b nb) = b := by rw [hnb, digits_val]
    have hla := dgs_len na a
    have hlb := dgs_len nb b
    have hDx := dgs_dg na a
    have hDy := dgs_dg nb b
    have hle : nb ≤ na := by have := size_mono hba; omega
    simp only [← hna, ← hnb]
    generalize dgs a na = xs at *
    generalize dgs b nb = ys at *
    subst hla
    subst hlb
    refine wo_makeD (k := .u32) (B := 4) (m := xs.length) rfl rfl ⟨by omega, by omega⟩ rfl rfl ?_
    intro bo
    repeat (first | refine sX rfl rfl ?_ | (refine sS rfl rfl ?_ ?_; focus omega) | (refine sC rfl rfl ?_ ?_; focus (first | exact trivial | assumption | exact ⟨by assumption, by assumption⟩ | exact mb2 rfl rfl | exact mb4 rfl rfl rfl rfl)) | refine cX ?_ | refine cY ?_ | (refine sA rfl rfl ?_; intro _) | refine sT rfl ?_ | refine sW rfl rfl ?_ | refine sK rfl rfl ?_ | refine j_if rfl ?_ | refine j_else rfl ?_ | refine Go.Vt.jq (wl_pickT rfl rfl) rfl rfl ?_ | refine Go.Vt.jq (wl_pickF rfl rfl) rfl rfl ?_)
    refine wo_copyD (k := .u32) rfl rfl (by simp) (Nat.le_refl _) rfl rfl ?_
    have e1 : xs.take (min xs.length xs.length) ++ (List.replicate xs.length 0).drop (min xs.length xs.length) = xs := by
      rw [Nat.min_self, List.take_of_length_le (Nat.le_refl _), List.drop_replicate, Nat.sub_self]
      simp
    simp only [e1]
    repeat (first | refine sX rfl rfl ?_ | (refine sS rfl rfl ?_ ?_; focus omega) | (refine sC rfl rfl ?_ ?_; focus (first | exact trivial | assumption | exact ⟨by assumption, by assumption⟩ | exact mb2 rfl rfl | exact mb4 rfl rfl rfl rfl)) | refine cX ?_ | refine cY ?_ | (refine sA rfl rfl ?_; intro _) | refine sT rfl ?_ | refine sW rfl rfl ?_ | refine sK rfl rfl ?_ | refine j_if rfl ?_ | refine j_else rfl ?_ | refine Go.Vt.jq (wl_pickT rfl rfl) rfl rfl ?_ | refine Go.Vt.jq (wl_pickF rfl rfl) rfl rfl ?_)
    refine j_loop (S := Nat × List Nat × Nat) (fun s => s.1 ≤ xs.length ∧ s.2.1.length = xs.length ∧ Dg s.2.1 ∧ s.2.2 ≤ 1 ∧ vd s.2.1 + b = a + vd (ys.drop s.1) * 4294967296 ^ s.1 + s.2.2 * 4294967296 ^ s.1)
      (fun s => [(9, .slice (some ⟨bY, 0, none⟩) ys.length ys.length), (10, .slice (some ⟨bo, 0, none⟩) xs.length xs.length), (11, .int .i64 s.2.2), (37, .int .i64 (xs.length : Int)), (38, .int .i64 s.1)])
      (fun s => [⟨bo, dig .u32 s.2.1, 117⟩, ⟨bY, dig .u32 ys, 117⟩, ⟨bx, dig .u32 xs, 117⟩]) (fun s => xs.length - s.1) (0, xs, 0)
      ⟨by simp, by simp, hDx, by simp, by simp [hva, hvb]⟩ (by repeat (first | exact sub_nil | refine sub_cons rfl ?_)) (List.Sublist.refl _) (fun s hs => ?_)
    obtain ⟨i, os, c⟩ := s
    obtain ⟨hi, hlo, hDo, hc, hinv⟩ := hs
    simp only at hi hlo hDo hc hinv ⊢
    repeat (first | refine sX rfl rfl ?_ | (refine sS rfl rfl ?_ ?_; focus omega) | (refine sC rfl rfl ?_ ?_; focus (first | exact trivial | assumption | exact ⟨by assumption, by assumption⟩ | exact mb2 rfl rfl | exact mb4 rfl rfl rfl rfl)) | refine cX ?_ | refine cY ?_ | (refine sA rfl rfl ?_; intro _) | refine sT rfl ?_ | refine sW rfl rfl ?_ | refine sK rfl rfl ?_ | refine j_if rfl ?_ | refine j_else rfl ?_ | refine Go.Vt.jq (wl_pickT rfl rfl) rfl rfl ?_ | refine Go.Vt.jq (wl_pickF rfl rfl) rfl rfl ?_)
    refine j_cond rfl (fun h => ?_) (fun h => ?_)
    · have hlt : i < xs.length := by have := of_decide_eq_true h; omega
      have hio : i < os.length := by omega
      have hdo := dg_get hDo hio
      repeat (first | refine sX rfl rfl ?_ | (refine sS rfl rfl ?_ ?_; focus omega) | (refine sC rfl rfl ?_ ?_; focus (first | exact trivial | assumption | exact ⟨by assumption, by assumption⟩ | exact mb2 rfl rfl | exact mb4 rfl rfl rfl rfl)) | refine cX ?_ | refine cY ?_ | (refine sA rfl rfl ?_; intro _) | refine sT rfl ?_ | refine sW rfl rfl ?_ | refine sK rfl rfl ?_ | refine j_if rfl ?_ | refine j_else rfl ?_ | refine Go.Vt.jq (wl_pickT rfl rfl) rfl rfl ?_ | refine Go.Vt.jq (wl_pickF rfl rfl) rfl rfl ?_)
      refine jq (wl_loadD rfl (show os[0 + (i : Int).toNat * 1]? = some os[i] by rw [show 0 + (i : Int).toNat * 1 = i by omega]; simp [hio])) rfl rfl ?_
      repeat (first | refine sX rfl rfl ?_ | (refine sS rfl rfl ?_ ?_; focus omega) | (refine sC rfl rfl ?_ ?_; focus (first | exact trivial | assumption | exact ⟨by assumption, by assumption⟩ | exact mb2 rfl rfl | exact mb4 rfl rfl rfl rfl)) | refine cX ?_ | refine cY ?_ | (refine sA rfl rfl ?_; intro _) | refine sT rfl ?_ | refine sW rfl rfl ?_ | refine sK rfl rfl ?_ | refine j_if rfl ?_ | refine j_else rfl ?_ | refine Go.Vt.jq (wl_pickT rfl rfl) rfl rfl ?_ | refine Go.Vt.jq (wl_pickF rfl rfl) rfl rfl ?_)
      refine j_cut (S := Int) (fun s => ∃ y : Nat, s = (os[i] : Int) - c - y ∧ y < 4294967296 ∧ vd (ys.drop i) = y + 4294967296 * vd (ys.drop (i + 1)))
        (fun s => [(9, .slice (some ⟨bY, 0, none⟩) ys.length ys.length), (10, .slice (some ⟨bo, 0, none⟩) xs.length xs.length), (12, .int .i64 i), (13, .int .i64 s), (37, .int .i64 (xs.length : Int)), (38, .int .i64 i)])
        (fun s => [⟨bo, dig .u32 os, 117⟩, ⟨bY, dig .u32 ys, 117⟩, ⟨bx, dig .u32 xs, 117⟩]) ?_ (fun d hd => ?_)
      · refine j_cond rfl (fun h => ?_) (fun h => ?_)
        · have hiy : i < ys.length := by have := of_decide_eq_true h; omega
          have hdy := dg_get hDy hiy
          repeat (first | refine sX rfl rfl ?_ | (refine sS rfl rfl ?_ ?_; focus omega) | (refine sC rfl rfl ?_ ?_; focus (first | exact trivial | assumption | exact ⟨by assumption, by assumption⟩ | exact mb2 rfl rfl | exact mb4 rfl rfl rfl rfl)) | refine cX ?_ | refine cY ?_ | (refine sA rfl rfl ?_; intro _) | refine sT rfl ?_ | refine sW rfl rfl ?_ | refine sK rfl rfl ?_ | refine j_if rfl ?_ | refine j_else rfl ?_ | refine Go.Vt.jq (wl_pickT rfl rfl) rfl rfl ?_ | refine Go.Vt.jq (wl_pickF rfl rfl) rfl rfl ?_)
          refine jq (wl_loadD rfl (show ys[0 + (i : Int).toNat * 1]? = some ys[i] by rw [show 0 + (i : Int).toNat * 1 = i by omega]; simp [hiy])) rfl rfl ?_
          repeat (first | refine sX rfl rfl ?_ | (refine sS rfl rfl ?_ ?_; focus omega) | (refine sC rfl rfl ?_ ?_; focus (first | exact trivial | assumption | exact ⟨by assumption, by assumption⟩ | exact mb2 rfl rfl | exact mb4 rfl rfl rfl rfl)) | refine cX ?_ | refine cY ?_ | (refine sA rfl rfl ?_; intro _) | refine sT rfl ?_ | refine sW rfl rfl ?_ | refine sK rfl rfl ?_ | refine j_if rfl ?_ | refine j_else rfl ?_ | refine Go.Vt.jq (wl_pickT rfl rfl) rfl rfl ?_ | refine Go.Vt.jq (wl_pickF rfl rfl) rfl rfl ?_)
          exact jx_mid _ ⟨ys[i], rfl, hdy, vd_drop ys i hiy⟩ (by repeat (first | exact sub_nil | refine sub_cons rfl ?_)) (List.Sublist.refl _)
        · have hiy : ys.length ≤ i := by have := of_decide_eq_false h; omega
          repeat (first | refine sX rfl rfl ?_ | (refine sS rfl rfl ?_ ?_; focus omega) | (refine sC rfl rfl ?_ ?_; focus (first | exact trivial | assumption | exact ⟨by assumption, by assumption⟩ | exact mb2 rfl rfl | exact mb4 rfl rfl rfl rfl)) | refine cX ?_ | refine cY ?_ | (refine sA rfl rfl ?_; intro _) | refine sT rfl ?_ | refine sW rfl rfl ?_ | refine sK rfl rfl ?_ | refine j_if rfl ?_ | refine j_else rfl ?_ | refine Go.Vt.jq (wl_pickT rfl rfl) rfl rfl ?_ | refine Go.Vt.jq (wl_pickF rfl rfl) rfl rfl ?_)
          exact jx_mid ((os[i] : Int) - c) ⟨0, by simp, by omega, by rw [vd_drop_end ys i hiy, vd_drop_end ys (i + 1) (by omega)]⟩ (by repeat (first | exact sub_nil | refine sub_cons rfl ?_)) (List.Sublist.refl _)
      · obtain ⟨y, hdv, hy, hdr⟩ := hd
        repeat (first | refine sX rfl rfl ?_ | (refine sS rfl rfl ?_ ?_; focus omega) | (refine sC rfl rfl ?_ ?_; focus (first | exact trivial | assumption | exact ⟨by assumption, by assumption⟩ | exact mb2 rfl rfl | exact mb4 rfl rfl rfl rfl)) | refine cX ?_ | refine cY ?_ | (refine sA rfl rfl ?_; intro _) | refine sT rfl ?_ | refine sW rfl rfl ?_ | refine sK rfl rfl ?_ | refine j_if rfl ?_ | refine j_else rfl ?_ | refine Go.Vt.jq (wl_pickT rfl rfl) rfl rfl ?_ | refine Go.Vt.jq (wl_pickF rfl rfl) rfl rfl ?_)
        refine j_cond rfl (fun h => ?_) (fun h => ?_)
        · have hneg : d < 0 := of_decide_eq_true h
          obtain ⟨r, hr⟩ : ∃ r : Nat, (r : Int) = d + 4294967296 := ⟨(d + 4294967296).toNat, by omega⟩
          have g := sub_step (r := r) (c' := 1) hio (by omega) hinv hdr
          repeat (first | refine sX rfl rfl ?_ | (refine sS rfl rfl ?_ ?_; focus omega) | (refine sC rfl rfl ?_ ?_; focus (first | exact trivial | assumption | exact ⟨by assumption, by assumption⟩ | exact mb2 rfl rfl | exact mb4 rfl rfl rfl rfl)) | refine cX ?_ | refine cY ?_ | (refine sA rfl rfl ?_; intro _) | refine sT rfl ?_ | refine sW rfl rfl ?_ | refine sK rfl rfl ?_ | refine j_if rfl ?_ | refine j_else rfl ?_ | refine Go.Vt.jq (wl_pickT rfl rfl) rfl rfl ?_ | refine Go.Vt.jq (wl_pickF rfl rfl) rfl rfl ?_)
          simp only [← hr]
          repeat (first | refine sX rfl rfl ?_ | (refine sS rfl rfl ?_ ?_; focus omega) | (refine sC rfl rfl ?_ ?_; focus (first | exact trivial | assumption | exact ⟨by assumption, by assumption⟩ | exact mb2 rfl rfl | exact mb4 rfl rfl rfl rfl)) | refine cX ?_ | refine cY ?_ | (refine sA rfl rfl ?_; intro _) | refine sT rfl ?_ | refine sW rfl rfl ?_ | refine sK rfl rfl ?_ | refine j_if rfl ?_ | refine j_else rfl ?_ | refine Go.Vt.jq (wl_pickT rfl rfl) rfl rfl ?_ | refine Go.Vt.jq (wl_pickF rfl rfl) rfl rfl ?_)
          refine wo_storeD rfl rfl (by omega) rfl ?_
          rw [show 0 + (i : Int).toNat * 1 = i by omega]
          repeat (first | refine sX rfl rfl ?_ | (refine sS rfl rfl ?_ ?_; focus omega) | (refine sC rfl rfl ?_ ?_; focus (first | exact trivial | assumption | exact ⟨by assumption, by assumption⟩ | exact mb2 rfl rfl | exact mb4 rfl rfl rfl rfl)) | refine cX ?_ | refine cY ?_ | (refine sA rfl rfl ?_; intro _) | refine sT rfl ?_ | refine sW rfl rfl ?_ | refine sK rfl rfl ?_ | refine j_if rfl ?_ | refine j_else rfl ?_ | refine Go.Vt.jq (wl_pickT rfl rfl) rfl rfl ?_ | refine Go.Vt.jq (wl_pickF rfl rfl) rfl rfl ?_)
          exact jx_loop (i + 1, _, 1) ⟨hlt, by rw [List.length_set]; exact hlo, dg_set hDo _ _ (by omega), by simp, g⟩ (by repeat (first | exact sub_nil | refine sub_cons rfl ?_)) (List.Sublist.refl _) (by simp only; omega)
        · have hneg : ¬ d < 0 := of_decide_eq_false h
          obtain ⟨r, hr⟩ : ∃ r : Nat, (r : Int) = d := ⟨d.toNat, by omega⟩
          have g := sub_step (r := r) (c' := 0) hio (by omega) hinv hdr
          simp only [← hr]
          repeat (first | refine sX rfl rfl ?_ | (refine sS rfl rfl ?_ ?_; focus omega) | (refine sC rfl rfl ?_ ?_; focus (first | exact trivial | assumption | exact ⟨by assumption, by assumption⟩ | exact mb2 rfl rfl | exact mb4 rfl rfl rfl rfl)) | refine cX ?_ | refine cY ?_ | (refine sA rfl rfl ?_; intro _) | refine sT rfl ?_ | refine sW rfl rfl ?_ | refine sK rfl rfl ?_ | refine j_if rfl ?_ | refine j_else rfl ?_ | refine Go.Vt.jq (wl_pickT rfl rfl) rfl rfl ?_ | refine Go.Vt.jq (wl_pickF rfl rfl) rfl rfl ?_)
          refine wo_storeD rfl rfl (by omega) rfl ?_
          rw [show 0 + (i : Int).toNat * 1 = i by omega]
          repeat (first | refine sX rfl rfl ?_ | (refine sS rfl rfl ?_ ?_; focus omega) | (refine sC rfl rfl ?_ ?_; focus (first | exact trivial | assumption | exact ⟨by assumption, by assumption⟩ | exact mb2 rfl rfl | exact mb4 rfl rfl rfl rfl)) | refine cX ?_ | refine cY ?_ | (refine sA rfl rfl ?_; intro _) | refine sT rfl ?_ | refine sW rfl rfl ?_ | refine sK rfl rfl ?_ | refine j_if rfl ?_ | refine j_else rfl ?_ | refine Go.Vt.jq (wl_pickT rfl rfl) rfl rfl ?_ | refine Go.Vt.jq (wl_pickF rfl rfl) rfl rfl ?_)
          exact jx_loop (i + 1, _, 0) ⟨hlt, by rw [List.length_set]; exact hlo, dg_set hDo _ _ (by omega), by simp, g⟩ (by repeat (first | exact sub_nil | refine sub_cons rfl ?_)) (List.Sublist.refl _) (by simp only; omega)
    · have hge : i = xs.length := by have := of_decide_eq_false h; omega
      subst hge
      repeat (first | refine sX rfl rfl ?_ | (refine sS rfl rfl ?_ ?_; focus omega) | (refine sC rfl rfl ?_ ?_; focus (first | exact trivial | assumption | exact ⟨by assumption, by assumption⟩ | exact mb2 rfl rfl | exact mb4 rfl rfl rfl rfl)) | refine cX ?_ | refine cY ?_ | (refine sA rfl rfl ?_; intro _) | refine sT rfl ?_ | refine sW rfl rfl ?_ | refine sK rfl rfl ?_ | refine j_if rfl ?_ | refine j_else rfl ?_ | refine Go.Vt.jq (wl_pickT rfl rfl) rfl rfl ?_ | refine Go.Vt.jq (wl_pickF rfl rfl) rfl rfl ?_)
      have hfin : vd (os.take xs.length) = a - b := by
        rw [List.take_of_length_le (by omega)]
        rw [vd_drop_end ys _ (by omega)] at hinv
        have h1 := vd_lt hDo
        rw [hlo] at h1
        have hc' : c = 0 ∨ c = 1 := by omega
        rcases hc' with rfl | rfl
        · omega
        · omega
      refine jq (wl_callW rfl (fun w' hw' => bytes_spec bo xs.length xs.length os (0, 0) (by omega) (Nat.le_refl _) (by omega) hDo w' (hw'.mem _ MemC.out).2)) rfl rfl ?_
      rw [hfin]
      repeat (first | refine sX rfl rfl ?_ | (refine sS rfl rfl ?_ ?_; focus omega) | (refine sC rfl rfl ?_ ?_; focus (first | exact trivial | assumption | exact ⟨by assumption, by assumption⟩ | exact mb2 rfl rfl | exact mb4 rfl rfl rfl rfl)) | refine cX ?_ | refine cY ?_ | (refine sA rfl rfl ?_; intro _) | refine sT rfl ?_ | refine sW rfl rfl ?_ | refine sK rfl rfl ?_ | refine j_if rfl ?_ | refine j_else rfl ?_ | refine Go.Vt.jq (wl_pickT rfl rfl) rfl rfl ?_ | refine Go.Vt.jq (wl_pickF rfl rfl) rfl rfl ?_)
      exact jx_ret_tmp rfl rfl (fun w hw => ret_ok hw)
end Go.Vt
