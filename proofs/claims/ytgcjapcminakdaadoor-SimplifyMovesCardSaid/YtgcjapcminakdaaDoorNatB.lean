/- Digits to the base 2^32 as magnitudes: 'trim' and 'bytes'. Conditions: the lengths that each statement names. -/
import Derived.Test.YtgcjapcminakdaaDoorNat
set_option linter.unusedSimpArgs false
set_option linter.unusedVariables false
set_option maxRecDepth 100000
namespace Go.Vt
open Go.RowKit Go.Proofs

theorem take_pred (ds : List Nat) (l : Nat) (h : 0 < l) (hl : l ≤ ds.length) : ds.take l = ds.take (l - 1) ++ [ds[l - 1]] := by
  have := List.take_succ_eq_append_getElem (l := ds) (i := l - 1) (by omega)
  rwa [show l - 1 + 1 = l by omega] at this

theorem trim_spec (b l c : Nat) (ds : List Nat) (fz : Nat × Nat) (hl : l ≤ ds.length) (hc : l ≤ c) (hc2 : c ≤ 1099511627776) (w : World) (hw : w.heap[b]? = some (.cells (dig .u32 ds) 117 fz)) :
    Calls Tryd.prog 91 [.slice (some ⟨b, 0, none⟩) l c].toArray w (Ret (.slice (some ⟨b, 0, none⟩) (tl (ds.take l)) c) w) := by
  refine fn_intro Tryd.func91 rfl Tryd.ntmps91 rfl ?_
  repeat (first | refine sX rfl rfl ?_ | (refine sS rfl rfl ?_ ?_; focus omega) | (refine sC rfl rfl ?_ ?_; focus (first | exact trivial | assumption | exact ⟨by assumption, by assumption⟩ | exact mb2 rfl rfl | exact mb4 rfl rfl rfl rfl)) | refine cX ?_ | refine cY ?_ | (refine sA rfl rfl ?_; intro _) | refine sT rfl ?_ | refine sW rfl rfl ?_ | refine sK rfl rfl ?_ | refine j_if rfl ?_ | refine j_else rfl ?_ | refine Go.Vt.jq (wl_pickT rfl rfl) rfl rfl ?_ | refine Go.Vt.jq (wl_pickF rfl rfl) rfl rfl ?_)
  refine j_loop (S := Nat) (fun m => m ≤ l ∧ tl (ds.take m) = tl (ds.take l)) (fun m => [(0, .slice (some ⟨b, 0, none⟩) m c)]) (fun _ => []) (fun m => m) l ⟨Nat.le_refl _, rfl⟩ (by repeat (first | exact sub_nil | refine sub_cons rfl ?_)) (List.Sublist.refl _) (fun m hm => ?_)
  obtain ⟨hm1, hm2⟩ := hm
  rcases Nat.eq_zero_or_pos m with h0 | h0
  · subst h0
    repeat (first | refine sX rfl rfl ?_ | (refine sS rfl rfl ?_ ?_; focus omega) | (refine sC rfl rfl ?_ ?_; focus (first | exact trivial | assumption | exact ⟨by assumption, by assumption⟩ | exact mb2 rfl rfl | exact mb4 rfl rfl rfl rfl)) | refine cX ?_ | refine cY ?_ | (refine sA rfl rfl ?_; intro _) | refine sT rfl ?_ | refine sW rfl rfl ?_ | refine sK rfl rfl ?_ | refine j_if rfl ?_ | refine j_else rfl ?_ | refine Go.Vt.jq (wl_pickT rfl rfl) rfl rfl ?_ | refine Go.Vt.jq (wl_pickF rfl rfl) rfl rfl ?_)
    rw [← hm2]
    exact jx_ret_tmp rfl rfl (fun w hw => ret_ok hw)
  · have hd : decide ((0 : Int) < (m : Int)) = true := by simp; omega
    have hlt : m - 1 < ds.length := by omega
    have htk := take_pred ds m h0 (by omega)
    repeat (first | refine sX rfl rfl ?_ | (refine sS rfl rfl ?_ ?_; focus omega) | (refine sC rfl rfl ?_ ?_; focus (first | exact trivial | assumption | exact ⟨by assumption, by assumption⟩ | exact mb2 rfl rfl | exact mb4 rfl rfl rfl rfl)) | refine cX ?_ | refine cY ?_ | (refine sA rfl rfl ?_; intro _) | refine sT rfl ?_ | refine sW rfl rfl ?_ | refine sK rfl rfl ?_ | refine j_if rfl ?_ | refine j_else rfl ?_ | refine Go.Vt.jq (wl_pickT rfl rfl) rfl rfl ?_ | refine Go.Vt.jq (wl_pickF rfl rfl) rfl rfl ?_)
    simp only [hd]
    repeat (first | refine sX rfl rfl ?_ | (refine sS rfl rfl ?_ ?_; focus omega) | (refine sC rfl rfl ?_ ?_; focus (first | exact trivial | assumption | exact ⟨by assumption, by assumption⟩ | exact mb2 rfl rfl | exact mb4 rfl rfl rfl rfl)) | refine cX ?_ | refine cY ?_ | (refine sA rfl rfl ?_; intro _) | refine sT rfl ?_ | refine sW rfl rfl ?_ | refine sK rfl rfl ?_ | refine j_if rfl ?_ | refine j_else rfl ?_ | refine Go.Vt.jq (wl_pickT rfl rfl) rfl rfl ?_ | refine Go.Vt.jq (wl_pickF rfl rfl) rfl rfl ?_)
    refine jq (wl_loadDF rfl hw (show ds[0 + ((m : Int) - 1).toNat * 1]? = some ds[m - 1] by rw [show 0 + ((m : Int) - 1).toNat * 1 = m - 1 by omega]; simp [hlt])) rfl rfl ?_
    repeat (first | refine sX rfl rfl ?_ | (refine sS rfl rfl ?_ ?_; focus omega) | (refine sC rfl rfl ?_ ?_; focus (first | exact trivial | assumption | exact ⟨by assumption, by assumption⟩ | exact mb2 rfl rfl | exact mb4 rfl rfl rfl rfl)) | refine cX ?_ | refine cY ?_ | (refine sA rfl rfl ?_; intro _) | refine sT rfl ?_ | refine sW rfl rfl ?_ | refine sK rfl rfl ?_ | refine j_if rfl ?_ | refine j_else rfl ?_ | refine Go.Vt.jq (wl_pickT rfl rfl) rfl rfl ?_ | refine Go.Vt.jq (wl_pickF rfl rfl) rfl rfl ?_)
    refine j_cond rfl (fun h => ?_) (fun h => ?_)
    · have hz : ds[m - 1] = 0 := by have := of_decide_eq_true h; omega
      repeat (first | refine sX rfl rfl ?_ | (refine sS rfl rfl ?_ ?_; focus omega) | (refine sC rfl rfl ?_ ?_; focus (first | exact trivial | assumption | exact ⟨by assumption, by assumption⟩ | exact mb2 rfl rfl | exact mb4 rfl rfl rfl rfl)) | refine cX ?_ | refine cY ?_ | (refine sA rfl rfl ?_; intro _) | refine sT rfl ?_ | refine sW rfl rfl ?_ | refine sK rfl rfl ?_ | refine j_if rfl ?_ | refine j_else rfl ?_ | refine Go.Vt.jq (wl_pickT rfl rfl) rfl rfl ?_ | refine Go.Vt.jq (wl_pickF rfl rfl) rfl rfl ?_)
      refine jq (wl_slice_hi rfl rfl (by omega)) rfl rfl ?_
      rw [show ((m : Int) - 1).toNat = m - 1 by omega]
      repeat (first | refine sX rfl rfl ?_ | (refine sS rfl rfl ?_ ?_; focus omega) | (refine sC rfl rfl ?_ ?_; focus (first | exact trivial | assumption | exact ⟨by assumption, by assumption⟩ | exact mb2 rfl rfl | exact mb4 rfl rfl rfl rfl)) | refine cX ?_ | refine cY ?_ | (refine sA rfl rfl ?_; intro _) | refine sT rfl ?_ | refine sW rfl rfl ?_ | refine sK rfl rfl ?_ | refine j_if rfl ?_ | refine j_else rfl ?_ | refine Go.Vt.jq (wl_pickT rfl rfl) rfl rfl ?_ | refine Go.Vt.jq (wl_pickF rfl rfl) rfl rfl ?_)
      refine jx_loop (m - 1) ⟨by omega, ?_⟩ (by repeat (first | exact sub_nil | refine sub_cons rfl ?_)) (List.Sublist.refl _) (by omega)
      rw [← hm2, htk, tl_snoc, if_pos hz]
    · have hz : ¬ ds[m - 1] = 0 := by have := of_decide_eq_false h; omega
      repeat (first | refine sX rfl rfl ?_ | (refine sS rfl rfl ?_ ?_; focus omega) | (refine sC rfl rfl ?_ ?_; focus (first | exact trivial | assumption | exact ⟨by assumption, by assumption⟩ | exact mb2 rfl rfl | exact mb4 rfl rfl rfl rfl)) | refine cX ?_ | refine cY ?_ | (refine sA rfl rfl ?_; intro _) | refine sT rfl ?_ | refine sW rfl rfl ?_ | refine sK rfl rfl ?_ | refine j_if rfl ?_ | refine j_else rfl ?_ | refine Go.Vt.jq (wl_pickT rfl rfl) rfl rfl ?_ | refine Go.Vt.jq (wl_pickF rfl rfl) rfl rfl ?_)
      have e : tl (ds.take l) = m := by rw [← hm2, htk, tl_snoc, if_neg hz, List.length_take]; omega
      rw [e]
      exact jx_ret_tmp rfl rfl (fun w hw => ret_ok hw)

/-! ### 'bytes' -/
def bytesR (M V q : Nat) : List Nat := (List.range M).map fun j => if M - q ≤ j then V / 256 ^ (M - 1 - j) % 256 else 0
theorem bytesR_len (M V q : Nat) : (bytesR M V q).length = M := by simp [bytesR]
theorem bytesR_get (M V q j : Nat) (h : j < M) : (bytesR M V q)[j]? = some (if M - q ≤ j then V / 256 ^ (M - 1 - j) % 256 else 0) := by simp [bytesR, h]
theorem bytesR_zero (M V : Nat) : bytesR M V 0 = List.replicate M 0 := by
  apply List.ext_getElem?
  intro j
  by_cases h : j < M
  · rw [bytesR_get _ _ _ _ h, if_neg (by omega)]; simp [h]
  · rw [List.getElem?_eq_none (by rw [bytesR_len]; omega), List.getElem?_eq_none (by simp; omega)]
theorem bytesR_step (M V q : Nat) (h : q < M) : (bytesR M V q).set (M - 1 - q) (V / 256 ^ q % 256) = bytesR M V (q + 1) := by
  apply List.ext_getElem?
  intro j
  by_cases hj : j < M
  · rw [List.getElem?_set, bytesR_get _ _ _ _ hj]
    by_cases he : M - 1 - q = j
    · subst he
      rw [if_pos rfl, if_pos (by rw [bytesR_len]; omega), bytesR_get _ _ _ _ hj, if_pos (by omega), show M - 1 - (M - 1 - q) = q by omega]
    · rw [if_neg he, bytesR_get _ _ _ _ hj]
      congr 1
      by_cases h1 : M - q ≤ j
      · rw [if_pos h1, if_pos (by omega)]
      · rw [if_neg h1, if_neg (by omega)]
  · rw [List.getElem?_eq_none (by rw [List.length_set, bytesR_len]; omega), List.getElem?_eq_none (by rw [bytesR_len]; omega)]
/-- The bytes of a number, padded, the lowest one first. -/
def bgs : Nat → Nat → List UInt8
  | _, 0 => []
  | a, m + 1 => UInt8.ofNat (a % 256) :: bgs (a / 256) m
theorem bgs_len : ∀ (m a : Nat), (bgs a m).length = m
  | 0, _ => rfl
  | m + 1, a => by simp [bgs, bgs_len m]
theorem vle_bgs : ∀ (m a : Nat), vle (bgs a m) = a % 256 ^ m
  | 0, a => by simp [bgs, vle, Nat.mod_one]
  | m + 1, a => by
    rw [bgs, vle, vle_bgs m, Nat.pow_succ, Nat.mul_comm (256 ^ m), Nat.mod_mul, toNat_ofNat]
theorem bgs_get : ∀ (m a i : Nat), i < m → (bgs a m)[i]? = some (UInt8.ofNat (a / 256 ^ i % 256))
  | 0, _, i, h => by omega
  | m + 1, a, 0, _ => by simp [bgs]
  | m + 1, a, i + 1, h => by
    simp only [bgs, List.getElem?_cons_succ]
    rw [bgs_get m _ i (by omega), Nat.div_div_eq_div_mul, Nat.pow_succ, Nat.mul_comm]
theorem bytes_row (M V i : Nat) (u : UInt8) (hu : (bgs V M).reverse[i]? = some u) : (dig .u8 (bytesR M V M))[0 + i]? = some (.int .u8 u.toNat) := by
  have hi : i < M := by
    rcases Nat.lt_or_ge i M with h1 | h1
    · exact h1
    · rw [List.getElem?_eq_none (by rw [List.length_reverse, bgs_len]; exact h1)] at hu; cases hu
  rw [Nat.zero_add, dig_get, bytesR_get _ _ _ _ hi, if_pos (by omega)]
  rw [List.getElem?_reverse (by rw [bgs_len]; exact hi), bgs_len, bgs_get _ _ _ (by omega)] at hu
  simp only [Option.some.injEq] at hu
  subst hu
  simp
theorem vd_digit (ds : List Nat) (hD : Dg ds) (i : Nat) (h : i < ds.length) : vd ds / 4294967296 ^ i % 4294967296 = ds[i] := by
  rw [vd_split ds i (by omega), List.drop_eq_getElem_cons h, vd]
  have h1 := vd_lt (dg_take hD i)
  rw [List.length_take, Nat.min_eq_left (by omega)] at h1
  have h2 := dg_get hD h
  have h3 : 0 < 4294967296 ^ i := Nat.pow_pos (by omega)
  rw [Nat.add_mul_div_left _ _ h3, Nat.div_eq_of_lt h1]
  omega
theorem byte_of_digit (ds : List Nat) (hD : Dg ds) (i k : Nat) (h : i < ds.length) (hk : k < 4) : ds[i] / 256 ^ k % 256 = vd ds / 256 ^ (4 * i + k) % 256 := by
  rw [← vd_digit ds hD i h, Nat.pow_add, ← pow_dig4, ← Nat.div_div_eq_div_mul]
  generalize vd ds / 4294967296 ^ i = x
  have hk' : k = 0 ∨ k = 1 ∨ k = 2 ∨ k = 3 := by omega
  rcases hk' with rfl | rfl | rfl | rfl
  · simp only [Nat.pow_zero, Nat.div_one]; omega
  · simp only [Nat.pow_one]; omega
  · rw [show (256 : Nat) ^ 2 = 65536 by decide]; omega
  · rw [show (256 : Nat) ^ 3 = 16777216 by decide]; omega
theorem byte8 (x k : Nat) : IntKind.u8.wrap ((x : Int) / 2 ^ (8 * (k : Int)).toNat) = ((x / 256 ^ k % 256 : Nat) : Int) := byte_at x k

theorem bytes_spec (b l c : Nat) (ds : List Nat) (fz : Nat × Nat) (hl : l ≤ ds.length) (hc : l ≤ c) (hc2 : c ≤ 1099511627776) (hD : Dg ds) (w : World) (hw : w.heap[b]? = some (.cells (dig .u32 ds) 117 fz)) :
    Calls Tryd.prog 73 [.slice (some ⟨b, 0, none⟩) l c].toArray w (Ret (.string (mag (vd (ds.take l)))) w) := by
  obtain ⟨n, hn⟩ : ∃ n, n = tl (ds.take l) := ⟨_, rfl⟩
  have hnl : n ≤ l := by have := tl_le (ds.take l); rw [List.length_take] at this; omega
  have htk : (ds.take l).take n = ds.take n := by rw [List.take_take, Nat.min_eq_left hnl]
  have hV : vd (ds.take l) = vd (ds.take n) := by rw [← htk, hn, vd_tl]
  have hDn := dg_take hD n
  have hln : (ds.take n).length = n := by rw [List.length_take]; omega
  rw [hV]
  obtain ⟨V, hVd⟩ : ∃ V, V = vd (ds.take n) := ⟨_, rfl⟩
  have hVlt : V < 256 ^ (4 * n) := by
    have := vd_lt hDn
    rw [hln, pow_dig4, ← hVd] at this
    exact this
  rw [← hVd]
  refine fn_intro Tryd.func73 rfl Tryd.ntmps73 rfl ?_
  repeat (first | refine sX rfl rfl ?_ | (refine sS rfl rfl ?_ ?_; focus omega) | (refine sC rfl rfl ?_ ?_; focus (first | exact trivial | assumption | exact ⟨by assumption, by assumption⟩ | exact mb2 rfl rfl | exact mb4 rfl rfl rfl rfl)) | refine cX ?_ | refine cY ?_ | (refine sA rfl rfl ?_; intro _) | refine sT rfl ?_ | refine sW rfl rfl ?_ | refine sK rfl rfl ?_ | refine j_if rfl ?_ | refine j_else rfl ?_ | refine Go.Vt.jq (wl_pickT rfl rfl) rfl rfl ?_ | refine Go.Vt.jq (wl_pickF rfl rfl) rfl rfl ?_)
  refine jq (wl_callW rfl (fun w' hw' => trim_spec b l c ds fz hl hc hc2 w' (by rw [hw'.ext.block b (lt_of_block hw)]; exact hw))) rfl rfl ?_
  rw [← hn]
  repeat (first | refine sX rfl rfl ?_ | (refine sS rfl rfl ?_ ?_; focus omega) | (refine sC rfl rfl ?_ ?_; focus (first | exact trivial | assumption | exact ⟨by assumption, by assumption⟩ | exact mb2 rfl rfl | exact mb4 rfl rfl rfl rfl)) | refine cX ?_ | refine cY ?_ | (refine sA rfl rfl ?_; intro _) | refine sT rfl ?_ | refine sW rfl rfl ?_ | refine sK rfl rfl ?_ | refine j_if rfl ?_ | refine j_else rfl ?_ | refine Go.Vt.jq (wl_pickT rfl rfl) rfl rfl ?_ | refine Go.Vt.jq (wl_pickF rfl rfl) rfl rfl ?_)
  refine j_cond rfl (fun h => ?_) (fun h => ?_)
  · have h0 : n = 0 := by have := of_decide_eq_true h; omega
    subst h0
    have : V = 0 := by rw [hVd]; rfl
    subst this
    repeat (first | refine sX rfl rfl ?_ | (refine sS rfl rfl ?_ ?_; focus omega) | (refine sC rfl rfl ?_ ?_; focus (first | exact trivial | assumption | exact ⟨by assumption, by assumption⟩ | exact mb2 rfl rfl | exact mb4 rfl rfl rfl rfl)) | refine cX ?_ | refine cY ?_ | (refine sA rfl rfl ?_; intro _) | refine sT rfl ?_ | refine sW rfl rfl ?_ | refine sK rfl rfl ?_ | refine j_if rfl ?_ | refine j_else rfl ?_ | refine Go.Vt.jq (wl_pickT rfl rfl) rfl rfl ?_ | refine Go.Vt.jq (wl_pickF rfl rfl) rfl rfl ?_)
    exact jx_ret_tmp rfl rfl (fun w hw => ret_ok hw)
  · have h0 : 0 < n := by have := of_decide_eq_false h; omega
    repeat (first | refine sX rfl rfl ?_ | (refine sS rfl rfl ?_ ?_; focus omega) | (refine sC rfl rfl ?_ ?_; focus (first | exact trivial | assumption | exact ⟨by assumption, by assumption⟩ | exact mb2 rfl rfl | exact mb4 rfl rfl rfl rfl)) | refine cX ?_ | refine cY ?_ | (refine sA rfl rfl ?_; intro _) | refine sT rfl ?_ | refine sW rfl rfl ?_ | refine sK rfl rfl ?_ | refine j_if rfl ?_ | refine j_else rfl ?_ | refine Go.Vt.jq (wl_pickT rfl rfl) rfl rfl ?_ | refine Go.Vt.jq (wl_pickF rfl rfl) rfl rfl ?_)
    refine wo_makeD (k := .u8) (B := 1) (m := 4 * n) rfl rfl ⟨by omega, by omega⟩ rfl rfl ?_
    intro bb
    repeat (first | refine sX rfl rfl ?_ | (refine sS rfl rfl ?_ ?_; focus omega) | (refine sC rfl rfl ?_ ?_; focus (first | exact trivial | assumption | exact ⟨by assumption, by assumption⟩ | exact mb2 rfl rfl | exact mb4 rfl rfl rfl rfl)) | refine cX ?_ | refine cY ?_ | (refine sA rfl rfl ?_; intro _) | refine sT rfl ?_ | refine sW rfl rfl ?_ | refine sK rfl rfl ?_ | refine j_if rfl ?_ | refine j_else rfl ?_ | refine Go.Vt.jq (wl_pickT rfl rfl) rfl rfl ?_ | refine Go.Vt.jq (wl_pickF rfl rfl) rfl rfl ?_)
    refine j_loop (S := Nat) (fun i => i ≤ n) (fun i => [(0, .slice (some ⟨b, 0, none⟩) n c), (16, .slice (some ⟨b, 0, none⟩) n c), (3, .slice (some ⟨bb, 0, none⟩) (4 * n) (4 * n)), (17, .int .i64 n), (18, .int .i64 i)]) (fun i => [⟨bb, dig .u8 (bytesR (4 * n) V (4 * i)), 5⟩]) (fun i => n - i) 0 (Nat.zero_le _)
      (by repeat (first | exact sub_nil | refine sub_cons rfl ?_)) (by rw [Nat.mul_zero, bytesR_zero]; exact List.Sublist.refl _) (fun i hi => ?_)
    repeat (first | refine sX rfl rfl ?_ | (refine sS rfl rfl ?_ ?_; focus omega) | (refine sC rfl rfl ?_ ?_; focus (first | exact trivial | assumption | exact ⟨by assumption, by assumption⟩ | exact mb2 rfl rfl | exact mb4 rfl rfl rfl rfl)) | refine cX ?_ | refine cY ?_ | (refine sA rfl rfl ?_; intro _) | refine sT rfl ?_ | refine sW rfl rfl ?_ | refine sK rfl rfl ?_ | refine j_if rfl ?_ | refine j_else rfl ?_ | refine Go.Vt.jq (wl_pickT rfl rfl) rfl rfl ?_ | refine Go.Vt.jq (wl_pickF rfl rfl) rfl rfl ?_)
    refine j_cond rfl (fun h => ?_) (fun h => ?_)
    · have hlt : i < n := by have := of_decide_eq_true h; omega
      have hid : i < ds.length := by omega
      have hget : (ds.take n)[i]'(by omega) = ds[i] := List.getElem_take
      have hdlt := dg_get hD hid
      repeat (first | refine sX rfl rfl ?_ | (refine sS rfl rfl ?_ ?_; focus omega) | (refine sC rfl rfl ?_ ?_; focus (first | exact trivial | assumption | exact ⟨by assumption, by assumption⟩ | exact mb2 rfl rfl | exact mb4 rfl rfl rfl rfl)) | refine cX ?_ | refine cY ?_ | (refine sA rfl rfl ?_; intro _) | refine sT rfl ?_ | refine sW rfl rfl ?_ | refine sK rfl rfl ?_ | refine j_if rfl ?_ | refine j_else rfl ?_ | refine Go.Vt.jq (wl_pickT rfl rfl) rfl rfl ?_ | refine Go.Vt.jq (wl_pickF rfl rfl) rfl rfl ?_)
      refine jq (wl_loadDF rfl hw (show ds[0 + (i : Int).toNat * 1]? = some ds[i] by rw [show 0 + (i : Int).toNat * 1 = i by omega]; simp [hid])) rfl rfl ?_
      repeat (first | refine sX rfl rfl ?_ | (refine sS rfl rfl ?_ ?_; focus omega) | (refine sC rfl rfl ?_ ?_; focus (first | exact trivial | assumption | exact ⟨by assumption, by assumption⟩ | exact mb2 rfl rfl | exact mb4 rfl rfl rfl rfl)) | refine cX ?_ | refine cY ?_ | (refine sA rfl rfl ?_; intro _) | refine sT rfl ?_ | refine sW rfl rfl ?_ | refine sK rfl rfl ?_ | refine j_if rfl ?_ | refine j_else rfl ?_ | refine Go.Vt.jq (wl_pickT rfl rfl) rfl rfl ?_ | refine Go.Vt.jq (wl_pickF rfl rfl) rfl rfl ?_)
      refine j_loop (S := Nat) (fun k => k ≤ 4) (fun k => [(0, .slice (some ⟨b, 0, none⟩) n c), (16, .slice (some ⟨b, 0, none⟩) n c), (3, .slice (some ⟨bb, 0, none⟩) (4 * n) (4 * n)), (17, .int .i64 n), (18, .int .i64 i), (4, .int .i64 i), (5, .int .u32 (ds[i] : Nat)), (23, .int .i64 k)]) (fun k => [⟨bb, dig .u8 (bytesR (4 * n) V (4 * i + k)), 5⟩]) (fun k => 4 - k) 0 (Nat.zero_le _)
        (by repeat (first | exact sub_nil | refine sub_cons rfl ?_)) (List.Sublist.refl _) (fun k hk => ?_)
      repeat (first | refine sX rfl rfl ?_ | (refine sS rfl rfl ?_ ?_; focus omega) | (refine sC rfl rfl ?_ ?_; focus (first | exact trivial | assumption | exact ⟨by assumption, by assumption⟩ | exact mb2 rfl rfl | exact mb4 rfl rfl rfl rfl)) | refine cX ?_ | refine cY ?_ | (refine sA rfl rfl ?_; intro _) | refine sT rfl ?_ | refine sW rfl rfl ?_ | refine sK rfl rfl ?_ | refine j_if rfl ?_ | refine j_else rfl ?_ | refine Go.Vt.jq (wl_pickT rfl rfl) rfl rfl ?_ | refine Go.Vt.jq (wl_pickF rfl rfl) rfl rfl ?_)
      refine j_cond rfl (fun h => ?_) (fun h => ?_)
      · have hk4 : k < 4 := by have := of_decide_eq_true h; omega
        have hby : ds[i] / 256 ^ k % 256 = V / 256 ^ (4 * i + k) % 256 := by
          rw [← hget, byte_of_digit (ds.take n) hDn i k (by omega) hk4, hVd]
        repeat (first | refine sX rfl rfl ?_ | (refine sS rfl rfl ?_ ?_; focus omega) | (refine sC rfl rfl ?_ ?_; focus (first | exact trivial | assumption | exact ⟨by assumption, by assumption⟩ | exact mb2 rfl rfl | exact mb4 rfl rfl rfl rfl)) | refine cX ?_ | refine cY ?_ | (refine sA rfl rfl ?_; intro _) | refine sT rfl ?_ | refine sW rfl rfl ?_ | refine sK rfl rfl ?_ | refine j_if rfl ?_ | refine j_else rfl ?_ | refine Go.Vt.jq (wl_pickT rfl rfl) rfl rfl ?_ | refine Go.Vt.jq (wl_pickF rfl rfl) rfl rfl ?_)
        refine jq (wl_shr rfl rfl (by simp only [IntKind.bits]; omega)) rfl rfl ?_
        repeat (first | refine sX rfl rfl ?_ | (refine sS rfl rfl ?_ ?_; focus omega) | (refine sC rfl rfl ?_ ?_; focus (first | exact trivial | assumption | exact ⟨by assumption, by assumption⟩ | exact mb2 rfl rfl | exact mb4 rfl rfl rfl rfl)) | refine cX ?_ | refine cY ?_ | (refine sA rfl rfl ?_; intro _) | refine sT rfl ?_ | refine sW rfl rfl ?_ | refine sK rfl rfl ?_ | refine j_if rfl ?_ | refine j_else rfl ?_ | refine Go.Vt.jq (wl_pickT rfl rfl) rfl rfl ?_ | refine Go.Vt.jq (wl_pickF rfl rfl) rfl rfl ?_)
        rw [byte8, hby]
        refine wo_storeD rfl rfl (by rw [bytesR_len]; omega) rfl ?_
        rw [show 0 + (((4 * n : Nat) : Int) - 1 - 4 * (i : Int) - (k : Int)).toNat * 1 = 4 * n - 1 - (4 * i + k) by omega, bytesR_step _ _ _ (by omega)]
        repeat (first | refine sX rfl rfl ?_ | (refine sS rfl rfl ?_ ?_; focus omega) | (refine sC rfl rfl ?_ ?_; focus (first | exact trivial | assumption | exact ⟨by assumption, by assumption⟩ | exact mb2 rfl rfl | exact mb4 rfl rfl rfl rfl)) | refine cX ?_ | refine cY ?_ | (refine sA rfl rfl ?_; intro _) | refine sT rfl ?_ | refine sW rfl rfl ?_ | refine sK rfl rfl ?_ | refine j_if rfl ?_ | refine j_else rfl ?_ | refine Go.Vt.jq (wl_pickT rfl rfl) rfl rfl ?_ | refine Go.Vt.jq (wl_pickF rfl rfl) rfl rfl ?_)
        exact jx_loop (k + 1) hk4 (by repeat (first | exact sub_nil | refine sub_cons rfl ?_)) (List.Sublist.refl _) (by omega)
      · have hk4 : k = 4 := by have := of_decide_eq_false h; omega
        subst hk4
        repeat (first | refine sX rfl rfl ?_ | (refine sS rfl rfl ?_ ?_; focus omega) | (refine sC rfl rfl ?_ ?_; focus (first | exact trivial | assumption | exact ⟨by assumption, by assumption⟩ | exact mb2 rfl rfl | exact mb4 rfl rfl rfl rfl)) | refine cX ?_ | refine cY ?_ | (refine sA rfl rfl ?_; intro _) | refine sT rfl ?_ | refine sW rfl rfl ?_ | refine sK rfl rfl ?_ | refine j_if rfl ?_ | refine j_else rfl ?_ | refine Go.Vt.jq (wl_pickT rfl rfl) rfl rfl ?_ | refine Go.Vt.jq (wl_pickF rfl rfl) rfl rfl ?_)
        exact jx_loop (i + 1) hlt (by repeat (first | exact sub_nil | refine sub_cons rfl ?_)) (List.Sublist.refl _) (by omega)
    · have hge : i = n := by have := of_decide_eq_false h; omega
      subst hge
      repeat (first | refine sX rfl rfl ?_ | (refine sS rfl rfl ?_ ?_; focus omega) | (refine sC rfl rfl ?_ ?_; focus (first | exact trivial | assumption | exact ⟨by assumption, by assumption⟩ | exact mb2 rfl rfl | exact mb4 rfl rfl rfl rfl)) | refine cX ?_ | refine cY ?_ | (refine sA rfl rfl ?_; intro _) | refine sT rfl ?_ | refine sW rfl rfl ?_ | refine sK rfl rfl ?_ | refine j_if rfl ?_ | refine j_else rfl ?_ | refine Go.Vt.jq (wl_pickT rfl rfl) rfl rfl ?_ | refine Go.Vt.jq (wl_pickF rfl rfl) rfl rfl ?_)
      refine jq (wl_str_bytes (bs := (bgs V (4 * i)).reverse) rfl (by rw [List.length_reverse, bgs_len]) (bytes_row (4 * i) V)) rfl rfl ?_
      refine jq (wl_callW rfl (fun w' _ => (Tryd.strings_TrimLeft_one _ 0 (by decide) w').mono fun e w2 ⟨h1, h2⟩ => (show Ret _ _ _ _ from ⟨h1, by subst h2; exact Ext.refl _⟩))) rfl rfl ?_
      have hfin : mag V = ⟨(Lib.trimLeftB (bgs V (4 * i)).reverse 0).toArray⟩ := by
        rw [← mag_trim, List.reverse_reverse, vle_bgs, Nat.mod_eq_of_lt hVlt]
      rw [hfin]
      repeat (first | refine sX rfl rfl ?_ | (refine sS rfl rfl ?_ ?_; focus omega) | (refine sC rfl rfl ?_ ?_; focus (first | exact trivial | assumption | exact ⟨by assumption, by assumption⟩ | exact mb2 rfl rfl | exact mb4 rfl rfl rfl rfl)) | refine cX ?_ | refine cY ?_ | (refine sA rfl rfl ?_; intro _) | refine sT rfl ?_ | refine sW rfl rfl ?_ | refine sK rfl rfl ?_ | refine j_if rfl ?_ | refine j_else rfl ?_ | refine Go.Vt.jq (wl_pickT rfl rfl) rfl rfl ?_ | refine Go.Vt.jq (wl_pickF rfl rfl) rfl rfl ?_)
      exact jx_ret_tmp rfl rfl (fun w hw => ret_ok hw)
end Go.Vt
