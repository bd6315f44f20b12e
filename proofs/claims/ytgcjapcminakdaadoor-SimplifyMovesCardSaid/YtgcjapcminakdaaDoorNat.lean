/- Magnitudes as digits to the base 2^32 and back. Conditions: the lengths that each statement names. -/
import Derived.Test.YtgcjapcminakdaaDoorInt
import Derived.Test.YtgcjapcminakdaaDoorDig
set_option linter.unusedSimpArgs false
set_option linter.unusedVariables false
set_option maxRecDepth 100000
namespace Go.Vt
open Go.RowKit Go.Proofs

def dgs : Nat → Nat → List Nat
  | _, 0 => []
  | a, m + 1 => a % 4294967296 :: dgs (a / 4294967296) m
theorem dgs_len : ∀ (m a : Nat), (dgs a m).length = m
  | 0, _ => rfl
  | m + 1, a => by simp [dgs, dgs_len m]
theorem dgs_dg : ∀ (m a : Nat), Dg (dgs a m)
  | 0, _ => fun d hd => by simp [dgs] at hd
  | m + 1, a => fun d hd => by
    rcases List.mem_cons.1 hd with rfl | hd
    · omega
    · exact dgs_dg m _ d hd
theorem vd_dgs : ∀ (m a : Nat), vd (dgs a m) = a % 4294967296 ^ m
  | 0, a => by simp [dgs, vd, Nat.mod_one]
  | m + 1, a => by
    rw [dgs, vd, vd_dgs m, Nat.pow_succ, Nat.mul_comm (4294967296 ^ m), Nat.mod_mul]
theorem dgs_of {ds : List Nat} {m a : Nat} (h : Dg ds) (hl : ds.length = m) (hv : vd ds = a) : ds = dgs a m := by
  subst hv
  refine vd_inj h (dgs_dg _ _) (by rw [dgs_len, hl]) ?_
  rw [vd_dgs, Nat.mod_eq_of_lt]
  rw [← hl]
  exact vd_lt h

theorem or_shift (d b r : Nat) (hd : d < 256 ^ r) (hb : b < 256) (hr : r < 4) : bits .or .u32 (d : Int) (IntKind.u32.wrap ((b : Int) * 2 ^ (8 * (r : Int)).toNat)) = ((d + b * 256 ^ r : Nat) : Int) := by
  have hp : (256 : Nat) ^ r ≤ 16777216 := by
    have h3 : (256 : Nat) ^ r ≤ 256 ^ 3 := Nat.pow_le_pow_right (by omega) (by omega)
    have h4 : (256 : Nat) ^ 3 = 16777216 := by decide
    omega
  have hbr : b * 256 ^ r ≤ 255 * 16777216 := Nat.mul_le_mul (by omega) hp
  have e0 : (b : Int) * 2 ^ (8 * (r : Int)).toNat = ((b * 256 ^ r : Nat) : Int) := by rw [pow256, Int.natCast_mul]
  rw [e0, IntWalk.u32_in _ (by omega)]
  unfold bits
  have h1 : BitVec.ofInt IntKind.u32.bits ((d : Nat) : Int) = BitVec.ofNat 32 d := BitVec.ofInt_natCast _ _
  have h2 : BitVec.ofInt IntKind.u32.bits ((b * 256 ^ r : Nat) : Int) = BitVec.ofNat 32 (b * 256 ^ r) := BitVec.ofInt_natCast _ _
  have h256 : (256 : Nat) ^ r = 2 ^ (8 * r) := by rw [show (256 : Nat) = 2 ^ 8 from rfl, ← Nat.pow_mul]
  have h3 : d ||| (b * 256 ^ r) = d + b * 256 ^ r := by
    rw [Nat.or_comm, h256, ← Nat.shiftLeft_eq, ← Nat.shiftLeft_add_eq_or_of_lt (by rw [← h256]; exact hd), Nat.add_comm]
  simp only [h1, h2]
  show IntKind.u32.wrap ((BitVec.ofNat 32 d ||| BitVec.ofNat 32 (b * 256 ^ r)).toNat : Int) = _
  rw [BitVec.toNat_or, BitVec.toNat_ofNat, BitVec.toNat_ofNat, Nat.mod_eq_of_lt (by omega), Nat.mod_eq_of_lt (by omega), h3, IntWalk.u32_in _ (by omega)]

theorem mag_get (a i : Nat) (h : i < (mag a).size) : (mag a)[(((mag a).size : Int) - 1 - (i : Int)).toNat]? = some (UInt8.ofNat (a / 256 ^ i % 256)) := by
  have e : (((mag a).size : Int) - 1 - (i : Int)).toNat = (mag a).size - 1 - i := by omega
  rw [e]
  have hl : (le a).length = (mag a).size := (size_mag a).symm
  have h1 : (mag a)[(mag a).size - 1 - i]? = (le a).reverse[(mag a).size - 1 - i]? := by
    have h2 : ∀ j, (mag a)[j]? = (mag a).data[j]? := fun j => by
      by_cases hj : j < (mag a).size
      · rw [getElem?_pos (mag a) j hj]
        exact (Array.getElem?_eq_getElem (xs := (mag a).data) hj).symm
      · rw [getElem?_neg (mag a) j hj]
        exact (Array.getElem?_eq_none (xs := (mag a).data) (Nat.le_of_not_lt hj)).symm
    rw [h2]
    simp [mag]
  rw [h1, List.getElem?_reverse (by omega), hl, show (mag a).size - 1 - ((mag a).size - 1 - i) = i by omega, le_get _ _ (by omega)]

/-- One byte more. -/
theorem digits_step {a i m : Nat} {ds : List Nat} (hi : i < (le a).length) (hm : i / 4 < m) (hlen : ds.length = m) (hD : Dg ds) (hv : vd ds = vle ((le a).take i)) :
    ∃ h : i / 4 < ds.length, ds[i / 4] < 256 ^ (i % 4) ∧ (ds.set (i / 4) (ds[i / 4] + (a / 256 ^ i % 256) * 256 ^ (i % 4))).length = m ∧ Dg (ds.set (i / 4) (ds[i / 4] + (a / 256 ^ i % 256) * 256 ^ (i % 4))) ∧
      vd (ds.set (i / 4) (ds[i / 4] + (a / 256 ^ i % 256) * 256 ^ (i % 4))) = vle ((le a).take (i + 1)) := by
  have hlt : i / 4 < ds.length := by omega
  have hvi : vle ((le a).take i) < 256 ^ i := by
    have := vle_lt ((le a).take i)
    rwa [List.length_take, Nat.min_eq_left (by omega)] at this
  have h1 := vd_get_le ds (i / 4) hlt
  have hd : ds[i / 4] < 256 ^ (i % 4) := by
    rcases Nat.lt_or_ge ds[i / 4] (256 ^ (i % 4)) with h | h
    · exact h
    · have h2 : 256 ^ (i % 4) * 4294967296 ^ (i / 4) ≤ ds[i / 4] * 4294967296 ^ (i / 4) := Nat.mul_le_mul_right _ h
      rw [Nat.mul_comm (256 ^ (i % 4)), ← pow_dig] at h2
      omega
  have hb : a / 256 ^ i % 256 < 256 := Nat.mod_lt _ (by omega)
  have hp : (256 : Nat) ^ (i % 4) ≤ 16777216 := by
    have h3 : (256 : Nat) ^ (i % 4) ≤ 256 ^ 3 := Nat.pow_le_pow_right (by omega) (by omega)
    have h4 : (256 : Nat) ^ 3 = 16777216 := by decide
    omega
  have hbr : (a / 256 ^ i % 256) * 256 ^ (i % 4) ≤ 255 * 16777216 := Nat.mul_le_mul (by omega) hp
  refine ⟨hlt, hd, by rw [List.length_set]; exact hlen, dg_set hD _ _ (by omega), ?_⟩
  have hs := vd_set ds (i / 4) (ds[i / 4] + (a / 256 ^ i % 256) * 256 ^ (i % 4)) hlt
  rw [Nat.add_mul, Nat.mul_assoc, Nat.mul_comm (256 ^ (i % 4)), ← pow_dig] at hs
  have ht : vle ((le a).take (i + 1)) = vle ((le a).take i) + 256 ^ i * (a / 256 ^ i % 256) := by
    rw [List.take_succ_eq_append_getElem hi, vle_append, List.length_take, Nat.min_eq_left (by omega)]
    have hg := le_get i a hi
    rw [List.getElem?_eq_getElem hi] at hg
    simp only [Option.some.injEq] at hg
    rw [hg]
    simp [vle]
  rw [ht, ← hv, Nat.mul_comm (256 ^ i)]
  omega

theorem digits_spec (a : Nat) (ha : (mag a).size ≤ 1099511627776) (w : World) : Calls Tryd.prog 72 [.string (mag a)].toArray w (RetB (fun b => .slice (some ⟨b, 0, none⟩) (((mag a).size + 3) / 4) (((mag a).size + 3) / 4)) (dig .u32 (dgs a (((mag a).size + 3) / 4))) 117 w) := by
  obtain ⟨N, hN⟩ : ∃ N, N = (mag a).size := ⟨_, rfl⟩
  obtain ⟨m, hm⟩ : ∃ m, m = (N + 3) / 4 := ⟨_, rfl⟩
  have hle : (le a).length = N := by rw [hN, size_mag]
  rw [← hN, ← hm]
  refine fn_intro Tryd.func72 rfl Tryd.ntmps72 rfl ?_
  repeat (first | refine sX rfl rfl ?_ | (refine sS rfl rfl ?_ ?_; focus omega) | (refine sC rfl rfl ?_ ?_; focus (first | exact trivial | assumption | exact ⟨by assumption, by assumption⟩ | exact mb2 rfl rfl | exact mb4 rfl rfl rfl rfl)) | refine cX ?_ | refine cY ?_ | (refine sA rfl rfl ?_; intro _) | refine sT rfl ?_ | refine sW rfl rfl ?_ | refine sK rfl rfl ?_ | refine j_if rfl ?_ | refine j_else rfl ?_ | refine Go.Vt.jq (wl_pickT rfl rfl) rfl rfl ?_ | refine Go.Vt.jq (wl_pickF rfl rfl) rfl rfl ?_)
  have e : ((N : Int) + 3) / 4 = (m : Int) := by omega
  simp only [← hN]
  simp only [e]
  refine wo_makeD (k := .u32) (B := 4) (m := m) rfl rfl ⟨by omega, by omega⟩ rfl rfl ?_
  intro b
  repeat (first | refine sX rfl rfl ?_ | (refine sS rfl rfl ?_ ?_; focus omega) | (refine sC rfl rfl ?_ ?_; focus (first | exact trivial | assumption | exact ⟨by assumption, by assumption⟩ | exact mb2 rfl rfl | exact mb4 rfl rfl rfl rfl)) | refine cX ?_ | refine cY ?_ | (refine sA rfl rfl ?_; intro _) | refine sT rfl ?_ | refine sW rfl rfl ?_ | refine sK rfl rfl ?_ | refine j_if rfl ?_ | refine j_else rfl ?_ | refine Go.Vt.jq (wl_pickT rfl rfl) rfl rfl ?_ | refine Go.Vt.jq (wl_pickF rfl rfl) rfl rfl ?_)
  simp only [← hN]
  refine j_loop (S := Nat × List Nat) (fun s => s.1 ≤ N ∧ s.2.length = m ∧ Dg s.2 ∧ vd s.2 = vle ((le a).take s.1)) (fun s => [(0, .string (mag a)), (3, .slice (some ⟨b, 0, none⟩) m m), (12, .int .i64 N), (13, .int .i64 s.1)]) (fun s => [⟨b, dig .u32 s.2, 117⟩]) (fun s => N - s.1) (0, List.replicate m 0)
    ⟨Nat.zero_le _, by simp, dg_zero m, by simp [vd_zero, vle]⟩ (by repeat (first | exact sub_nil | refine sub_cons rfl ?_)) (List.Sublist.refl _) (fun s hs => ?_)
  obtain ⟨i, ds⟩ := s
  obtain ⟨hi, hlen, hD, hv⟩ := hs
  simp only at hi hlen hD hv ⊢
  repeat (first | refine sX rfl rfl ?_ | (refine sS rfl rfl ?_ ?_; focus omega) | (refine sC rfl rfl ?_ ?_; focus (first | exact trivial | assumption | exact ⟨by assumption, by assumption⟩ | exact mb2 rfl rfl | exact mb4 rfl rfl rfl rfl)) | refine cX ?_ | refine cY ?_ | (refine sA rfl rfl ?_; intro _) | refine sT rfl ?_ | refine sW rfl rfl ?_ | refine sK rfl rfl ?_ | refine j_if rfl ?_ | refine j_else rfl ?_ | refine Go.Vt.jq (wl_pickT rfl rfl) rfl rfl ?_ | refine Go.Vt.jq (wl_pickF rfl rfl) rfl rfl ?_)
  refine j_cond rfl (fun h => ?_) (fun h => ?_)
  · have hlt : i < N := by have := of_decide_eq_true h; omega
    obtain ⟨h4, hd, h5, h6, h7⟩ := digits_step (m := m) (by omega) (by omega) hlen hD hv
    have hb : a / 256 ^ i % 256 < 256 := Nat.mod_lt _ (by omega)
    have hu : ((UInt8.ofNat (a / 256 ^ i % 256)).toNat : Int) = ((a / 256 ^ i % 256 : Nat) : Int) := by rw [toNat_ofNat]
    repeat (first | refine sX rfl rfl ?_ | (refine sS rfl rfl ?_ ?_; focus omega) | (refine sC rfl rfl ?_ ?_; focus (first | exact trivial | assumption | exact ⟨by assumption, by assumption⟩ | exact mb2 rfl rfl | exact mb4 rfl rfl rfl rfl)) | refine cX ?_ | refine cY ?_ | (refine sA rfl rfl ?_; intro _) | refine sT rfl ?_ | refine sW rfl rfl ?_ | refine sK rfl rfl ?_ | refine j_if rfl ?_ | refine j_else rfl ?_ | refine Go.Vt.jq (wl_pickT rfl rfl) rfl rfl ?_ | refine Go.Vt.jq (wl_pickF rfl rfl) rfl rfl ?_)
    simp only [← hN]
    repeat (first | refine sX rfl rfl ?_ | (refine sS rfl rfl ?_ ?_; focus omega) | (refine sC rfl rfl ?_ ?_; focus (first | exact trivial | assumption | exact ⟨by assumption, by assumption⟩ | exact mb2 rfl rfl | exact mb4 rfl rfl rfl rfl)) | refine cX ?_ | refine cY ?_ | (refine sA rfl rfl ?_; intro _) | refine sT rfl ?_ | refine sW rfl rfl ?_ | refine sK rfl rfl ?_ | refine j_if rfl ?_ | refine j_else rfl ?_ | refine Go.Vt.jq (wl_pickT rfl rfl) rfl rfl ?_ | refine Go.Vt.jq (wl_pickF rfl rfl) rfl rfl ?_)
    refine jD 14 14 mixed (by kernel_rfl) ?_
    repeat (first | refine tX rfl rfl ?_ | (refine tS rfl rfl ?_ ?_; focus omega) | (refine tC rfl rfl ?_ ?_; focus (first | exact trivial | assumption | exact ⟨by assumption, by assumption⟩ | exact mb2 rfl rfl | exact mb4 rfl rfl rfl rfl)) | refine tW rfl rfl ?_ | refine tK rfl rfl ?_ | refine Go.Vt.hq (wl_pickT rfl rfl) rfl rfl ?_ | refine Go.Vt.hq (wl_pickF rfl rfl) rfl rfl ?_)
    refine hq (wl_loadD rfl (show ds[0 + ((i : Int) / 4).toNat * 1]? = some ds[i / 4] by rw [show 0 + ((i : Int) / 4).toNat * 1 = i / 4 by omega]; simp [h4])) rfl rfl ?_
    repeat (first | refine tX rfl rfl ?_ | (refine tS rfl rfl ?_ ?_; focus omega) | (refine tC rfl rfl ?_ ?_; focus (first | exact trivial | assumption | exact ⟨by assumption, by assumption⟩ | exact mb2 rfl rfl | exact mb4 rfl rfl rfl rfl)) | refine tW rfl rfl ?_ | refine tK rfl rfl ?_ | refine Go.Vt.hq (wl_pickT rfl rfl) rfl rfl ?_ | refine Go.Vt.hq (wl_pickF rfl rfl) rfl rfl ?_)
    have hg : (mag a)[((N : Int) - 1 - (i : Int)).toNat]? = some (UInt8.ofNat (a / 256 ^ i % 256)) := by
      have := mag_get a i (by omega)
      rwa [← hN] at this
    refine hq (wl_index_str rfl rfl (by omega) hg) rfl rfl ?_
    repeat (first | refine tX rfl rfl ?_ | (refine tS rfl rfl ?_ ?_; focus omega) | (refine tC rfl rfl ?_ ?_; focus (first | exact trivial | assumption | exact ⟨by assumption, by assumption⟩ | exact mb2 rfl rfl | exact mb4 rfl rfl rfl rfl)) | refine tW rfl rfl ?_ | refine tK rfl rfl ?_ | refine Go.Vt.hq (wl_pickT rfl rfl) rfl rfl ?_ | refine Go.Vt.hq (wl_pickF rfl rfl) rfl rfl ?_)
    refine hq (wl_shl rfl rfl (by simp only [IntKind.bits]; omega)) rfl rfl ?_
    refine hq (wl_or rfl rfl) rfl rfl ?_
    refine jh_nil (jn_nil ?_)
    have eo := or_shift ds[i / 4] (a / 256 ^ i % 256) (i % 4) hd hb (by omega)
    rw [← hu] at eo
    have ei : ((i % 4 : Nat) : Int) = (i : Int) % 4 := by omega
    rw [ei] at eo
    rw [eo]
    repeat (first | refine sX rfl rfl ?_ | (refine sS rfl rfl ?_ ?_; focus omega) | (refine sC rfl rfl ?_ ?_; focus (first | exact trivial | assumption | exact ⟨by assumption, by assumption⟩ | exact mb2 rfl rfl | exact mb4 rfl rfl rfl rfl)) | refine cX ?_ | refine cY ?_ | (refine sA rfl rfl ?_; intro _) | refine sT rfl ?_ | refine sW rfl rfl ?_ | refine sK rfl rfl ?_ | refine j_if rfl ?_ | refine j_else rfl ?_ | refine Go.Vt.jq (wl_pickT rfl rfl) rfl rfl ?_ | refine Go.Vt.jq (wl_pickF rfl rfl) rfl rfl ?_)
    refine wo_storeD rfl rfl (by omega) rfl ?_
    rw [show 0 + ((i : Int) / 4).toNat * 1 = i / 4 by omega]
    repeat (first | refine sX rfl rfl ?_ | (refine sS rfl rfl ?_ ?_; focus omega) | (refine sC rfl rfl ?_ ?_; focus (first | exact trivial | assumption | exact ⟨by assumption, by assumption⟩ | exact mb2 rfl rfl | exact mb4 rfl rfl rfl rfl)) | refine cX ?_ | refine cY ?_ | (refine sA rfl rfl ?_; intro _) | refine sT rfl ?_ | refine sW rfl rfl ?_ | refine sK rfl rfl ?_ | refine j_if rfl ?_ | refine j_else rfl ?_ | refine Go.Vt.jq (wl_pickT rfl rfl) rfl rfl ?_ | refine Go.Vt.jq (wl_pickF rfl rfl) rfl rfl ?_)
    exact jx_loop (i + 1, _) ⟨hlt, h5, h6, h7⟩ (by repeat (first | exact sub_nil | refine sub_cons rfl ?_)) (List.Sublist.refl _) (by simp only; omega)
  · have hge : i = N := by have := of_decide_eq_false h; omega
    subst hge
    repeat (first | refine sX rfl rfl ?_ | (refine sS rfl rfl ?_ ?_; focus omega) | (refine sC rfl rfl ?_ ?_; focus (first | exact trivial | assumption | exact ⟨by assumption, by assumption⟩ | exact mb2 rfl rfl | exact mb4 rfl rfl rfl rfl)) | refine cX ?_ | refine cY ?_ | (refine sA rfl rfl ?_; intro _) | refine sT rfl ?_ | refine sW rfl rfl ?_ | refine sK rfl rfl ?_ | refine j_if rfl ?_ | refine j_else rfl ?_ | refine Go.Vt.jq (wl_pickT rfl rfl) rfl rfl ?_ | refine Go.Vt.jq (wl_pickF rfl rfl) rfl rfl ?_)
    have hfin : ds = dgs a m := dgs_of hD hlen (by rw [hv, List.take_of_length_le (Nat.le_of_eq hle), vle_le])
    subst hfin
    exact jx_ret_tmp rfl rfl (fun w hw => retB_ok hw)
end Go.Vt
