/- The integers of the program: magnitudes of up to eight bytes as words. Conditions: none. -/
import Derived.Test.YtgcjapcminakdaaDoorTypes
import Derived.Test.YtgcjapcminakdaaDoorMag
import Derived.Test.YtgcjapcminakdaaDoorShelf
set_option linter.unusedSimpArgs false
set_option linter.unusedVariables false
set_option maxRecDepth 100000
namespace Go.Vt
open Go.RowKit Go.Proofs

theorem vle_snoc (l : List UInt8) (b : UInt8) : vle (l ++ [b]).reverse = b.toNat + 256 * vle l.reverse := by simp [vle]
theorem vle_lt8 {l : List UInt8} (h : l.length ≤ 8) : vle l < 18446744073709551616 := by
  have h1 := vle_lt l
  have h2 : 256 ^ l.length ≤ 256 ^ 8 := Nat.pow_le_pow_right (by omega) h
  have h3 : (256 : Nat) ^ 8 = 18446744073709551616 := by decide
  omega
theorem vle_lt7 {l : List UInt8} (h : l.length ≤ 7) : vle l < 72057594037927936 := by
  have h1 := vle_lt l
  have h2 : 256 ^ l.length ≤ 256 ^ 7 := Nat.pow_le_pow_right (by omega) h
  have h3 : (256 : Nat) ^ 7 = 72057594037927936 := by decide
  omega
theorem or_byte (x b : Nat) (hx : x < 72057594037927936) (hb : b < 256) : bits .or .u64 (IntKind.u64.wrap ((x : Int) * 2 ^ (8 : Int).toNat)) (b : Int) = ((b + 256 * x : Nat) : Int) := by
  have e1 : ((8 : Int).toNat) = 8 := rfl
  rw [e1, IntWalk.u64_in _ (by omega)]
  unfold bits
  have hx' : ((x : Int) * 2 ^ 8) = ((x * 256 : Nat) : Int) := by omega
  rw [hx']
  have h1 : BitVec.ofInt IntKind.u64.bits ((x * 256 : Nat) : Int) = BitVec.ofNat 64 (x * 256) := BitVec.ofInt_natCast _ _
  have h2 : BitVec.ofInt IntKind.u64.bits ((b : Nat) : Int) = BitVec.ofNat 64 b := BitVec.ofInt_natCast _ _
  have h3 : (x * 256) ||| b = x * 256 + b := by
    rw [show x * 256 = x <<< 8 by rw [Nat.shiftLeft_eq]]
    rw [Nat.shiftLeft_add_eq_or_of_lt (by omega : b < 2 ^ 8)]
  simp only [h1, h2]
  show IntKind.u64.wrap ((BitVec.ofNat 64 (x * 256) ||| BitVec.ofNat 64 b).toNat : Int) = _
  rw [BitVec.toNat_or, BitVec.toNat_ofNat, BitVec.toNat_ofNat, Nat.mod_eq_of_lt (by omega), Nat.mod_eq_of_lt (by omega), h3, IntWalk.u64_in _ (by omega)]
  omega

theorem take_get (s : ByteArray) (k : Nat) (h : k < s.size) : s.data.toList.take (k + 1) = s.data.toList.take k ++ [s[k]] := by
  rw [List.take_succ_eq_append_getElem (by simpa using h)]
  rfl
/-- The word that up to eight bytes are. -/
theorem word_yes (s : ByteArray) (h : s.size ≤ 8) (w : World) : Calls Tryd.prog 87 [.string s].toArray w (Ret (.tuple #[.int .u64 (vmag s), .bool true]) w) := by
  refine fn_intro Tryd.func87 rfl Tryd.ntmps87 rfl ?_
  repeat (first | refine sX rfl rfl ?_ | (refine sS rfl rfl ?_ ?_; focus omega) | (refine sC rfl rfl ?_ ?_; focus (first | exact trivial | assumption | exact ⟨by assumption, by assumption⟩ | exact mb2 rfl rfl | exact mb4 rfl rfl rfl rfl)) | refine cX ?_ | refine cY ?_ | (refine sA rfl rfl ?_; intro _) | refine sT rfl ?_ | refine sW rfl rfl ?_ | refine sK rfl rfl ?_ | refine j_if rfl ?_ | refine j_else rfl ?_ | refine Go.Vt.jq (wl_pickT rfl rfl) rfl rfl ?_ | refine Go.Vt.jq (wl_pickF rfl rfl) rfl rfl ?_)
  refine j_cond rfl (fun h => ?_) (fun h => ?_)
  · have := of_decide_eq_true h
    omega
  repeat (first | refine sX rfl rfl ?_ | (refine sS rfl rfl ?_ ?_; focus omega) | (refine sC rfl rfl ?_ ?_; focus (first | exact trivial | assumption | exact ⟨by assumption, by assumption⟩ | exact mb2 rfl rfl | exact mb4 rfl rfl rfl rfl)) | refine cX ?_ | refine cY ?_ | (refine sA rfl rfl ?_; intro _) | refine sT rfl ?_ | refine sW rfl rfl ?_ | refine sK rfl rfl ?_ | refine j_if rfl ?_ | refine j_else rfl ?_ | refine Go.Vt.jq (wl_pickT rfl rfl) rfl rfl ?_ | refine Go.Vt.jq (wl_pickF rfl rfl) rfl rfl ?_)
  refine j_loop (S := Nat) (fun k => k ≤ s.size) (fun k => [(0, .string s), (10, .int .i64 s.size), (11, .int .i64 k), (4, .int .u64 (vle (s.data.toList.take k).reverse))]) (fun _ => []) (fun k => s.size - k) 0 (Nat.zero_le _)
    (by repeat (first | exact sub_nil | refine sub_cons rfl ?_)) (List.Sublist.refl _) (fun k hk => ?_)
  repeat (first | refine sX rfl rfl ?_ | (refine sS rfl rfl ?_ ?_; focus omega) | (refine sC rfl rfl ?_ ?_; focus (first | exact trivial | assumption | exact ⟨by assumption, by assumption⟩ | exact mb2 rfl rfl | exact mb4 rfl rfl rfl rfl)) | refine cX ?_ | refine cY ?_ | (refine sA rfl rfl ?_; intro _) | refine sT rfl ?_ | refine sW rfl rfl ?_ | refine sK rfl rfl ?_ | refine j_if rfl ?_ | refine j_else rfl ?_ | refine Go.Vt.jq (wl_pickT rfl rfl) rfl rfl ?_ | refine Go.Vt.jq (wl_pickF rfl rfl) rfl rfl ?_)
  refine j_cond rfl (fun h => ?_) (fun h => ?_)
  · have hlt : k < s.size := by have := of_decide_eq_true h; omega
    have hu := UInt8.toNat_lt s[k]
    repeat (first | refine sX rfl rfl ?_ | (refine sS rfl rfl ?_ ?_; focus omega) | (refine sC rfl rfl ?_ ?_; focus (first | exact trivial | assumption | exact ⟨by assumption, by assumption⟩ | exact mb2 rfl rfl | exact mb4 rfl rfl rfl rfl)) | refine cX ?_ | refine cY ?_ | (refine sA rfl rfl ?_; intro _) | refine sT rfl ?_ | refine sW rfl rfl ?_ | refine sK rfl rfl ?_ | refine j_if rfl ?_ | refine j_else rfl ?_ | refine Go.Vt.jq (wl_pickT rfl rfl) rfl rfl ?_ | refine Go.Vt.jq (wl_pickF rfl rfl) rfl rfl ?_)
    refine jq (wl_shl rfl rfl (by decide)) rfl rfl ?_
    repeat (first | refine sX rfl rfl ?_ | (refine sS rfl rfl ?_ ?_; focus omega) | (refine sC rfl rfl ?_ ?_; focus (first | exact trivial | assumption | exact ⟨by assumption, by assumption⟩ | exact mb2 rfl rfl | exact mb4 rfl rfl rfl rfl)) | refine cX ?_ | refine cY ?_ | (refine sA rfl rfl ?_; intro _) | refine sT rfl ?_ | refine sW rfl rfl ?_ | refine sK rfl rfl ?_ | refine j_if rfl ?_ | refine j_else rfl ?_ | refine Go.Vt.jq (wl_pickT rfl rfl) rfl rfl ?_ | refine Go.Vt.jq (wl_pickF rfl rfl) rfl rfl ?_)
    refine jq (wl_index_str rfl rfl (by omega) (show s[(k : Int).toNat]? = some s[k] by simp [hlt])) rfl rfl ?_
    repeat (first | refine sX rfl rfl ?_ | (refine sS rfl rfl ?_ ?_; focus omega) | (refine sC rfl rfl ?_ ?_; focus (first | exact trivial | assumption | exact ⟨by assumption, by assumption⟩ | exact mb2 rfl rfl | exact mb4 rfl rfl rfl rfl)) | refine cX ?_ | refine cY ?_ | (refine sA rfl rfl ?_; intro _) | refine sT rfl ?_ | refine sW rfl rfl ?_ | refine sK rfl rfl ?_ | refine j_if rfl ?_ | refine j_else rfl ?_ | refine Go.Vt.jq (wl_pickT rfl rfl) rfl rfl ?_ | refine Go.Vt.jq (wl_pickF rfl rfl) rfl rfl ?_)
    refine jq (wl_or rfl rfl) rfl rfl ?_
    have hx := vle_lt7 (l := (s.data.toList.take k).reverse) (by simp; omega)
    rw [or_byte _ _ hx (UInt8.toNat_lt _), ← vle_snoc, ← take_get s k hlt]
    repeat (first | refine sX rfl rfl ?_ | (refine sS rfl rfl ?_ ?_; focus omega) | (refine sC rfl rfl ?_ ?_; focus (first | exact trivial | assumption | exact ⟨by assumption, by assumption⟩ | exact mb2 rfl rfl | exact mb4 rfl rfl rfl rfl)) | refine cX ?_ | refine cY ?_ | (refine sA rfl rfl ?_; intro _) | refine sT rfl ?_ | refine sW rfl rfl ?_ | refine sK rfl rfl ?_ | refine j_if rfl ?_ | refine j_else rfl ?_ | refine Go.Vt.jq (wl_pickT rfl rfl) rfl rfl ?_ | refine Go.Vt.jq (wl_pickF rfl rfl) rfl rfl ?_)
    exact jx_loop (k + 1) hlt (by repeat (first | exact sub_nil | refine sub_cons rfl ?_)) (List.Sublist.refl _) (by omega)
  · have hge : k = s.size := by have := of_decide_eq_false h; omega
    subst hge
    repeat (first | refine sX rfl rfl ?_ | (refine sS rfl rfl ?_ ?_; focus omega) | (refine sC rfl rfl ?_ ?_; focus (first | exact trivial | assumption | exact ⟨by assumption, by assumption⟩ | exact mb2 rfl rfl | exact mb4 rfl rfl rfl rfl)) | refine cX ?_ | refine cY ?_ | (refine sA rfl rfl ?_; intro _) | refine sT rfl ?_ | refine sW rfl rfl ?_ | refine sK rfl rfl ?_ | refine j_if rfl ?_ | refine j_else rfl ?_ | refine Go.Vt.jq (wl_pickT rfl rfl) rfl rfl ?_ | refine Go.Vt.jq (wl_pickF rfl rfl) rfl rfl ?_)
    refine jx_ret_two rfl (resv_tmp rfl) (resv_tmp rfl) (fun w hw => ?_)
    have e : vle (s.data.toList.take s.size).reverse = vmag s := by
      unfold vmag
      rw [show s.data.toList.take s.size = s.data.toList from List.take_of_length_le (Nat.le_of_eq rfl)]
    rw [e]
    exact ret_ok hw
theorem word_no (s : ByteArray) (h : 8 < s.size) (w : World) : Calls Tryd.prog 87 [.string s].toArray w (Ret (.tuple #[.int .u64 0, .bool false]) w) := by
  refine fn_intro Tryd.func87 rfl Tryd.ntmps87 rfl ?_
  repeat (first | refine sX rfl rfl ?_ | (refine sS rfl rfl ?_ ?_; focus omega) | (refine sC rfl rfl ?_ ?_; focus (first | exact trivial | assumption | exact ⟨by assumption, by assumption⟩ | exact mb2 rfl rfl | exact mb4 rfl rfl rfl rfl)) | refine cX ?_ | refine cY ?_ | (refine sA rfl rfl ?_; intro _) | refine sT rfl ?_ | refine sW rfl rfl ?_ | refine sK rfl rfl ?_ | refine j_if rfl ?_ | refine j_else rfl ?_ | refine Go.Vt.jq (wl_pickT rfl rfl) rfl rfl ?_ | refine Go.Vt.jq (wl_pickF rfl rfl) rfl rfl ?_)
  refine j_cond rfl (fun h => ?_) (fun h => ?_)
  · repeat (first | refine sX rfl rfl ?_ | (refine sS rfl rfl ?_ ?_; focus omega) | (refine sC rfl rfl ?_ ?_; focus (first | exact trivial | assumption | exact ⟨by assumption, by assumption⟩ | exact mb2 rfl rfl | exact mb4 rfl rfl rfl rfl)) | refine cX ?_ | refine cY ?_ | (refine sA rfl rfl ?_; intro _) | refine sT rfl ?_ | refine sW rfl rfl ?_ | refine sK rfl rfl ?_ | refine j_if rfl ?_ | refine j_else rfl ?_ | refine Go.Vt.jq (wl_pickT rfl rfl) rfl rfl ?_ | refine Go.Vt.jq (wl_pickF rfl rfl) rfl rfl ?_)
    exact jx_ret_two rfl (resv_tmp rfl) (resv_tmp rfl) (fun w hw => ret_ok hw)
  · have := of_decide_eq_false h
    omega

/-! ### Canonical integers -/
def I (n : Int) : api_Int := ⟨decide (n < 0), mag n.natAbs⟩
abbrev vI (n : Int) : Value := .agg (e_api_Int (I n))
def B64 : Nat := 18446744073709551616
/-- What 'word' returns of a magnitude. -/
def lo (a : Nat) : Nat := if a < 18446744073709551616 then a else 0
def sm (a : Nat) : Bool := decide (a < 18446744073709551616)
theorem lo_sm {a : Nat} (h : sm a = true) : lo a = a := by unfold sm at h; unfold lo; rw [if_pos (of_decide_eq_true h)]
theorem lo_lt (a : Nat) : lo a < 18446744073709551616 := by unfold lo; split <;> omega
theorem size8 {a : Nat} : (mag a).size ≤ 8 ↔ a < 18446744073709551616 := by
  rw [mag_size]
instance sp_word (a : Nat) : SpecC Tryd.prog 87 [.string (mag a)] (.tuple #[.int .u64 (lo a), .bool (sm a)]) True := ⟨fun _ w => by
  by_cases h : a < 18446744073709551616
  · have := word_yes (mag a) (size8.2 h) w
    rw [vmag_mag] at this
    unfold lo sm
    rw [if_pos h, decide_eq_true h]
    exact this
  · have := word_no (mag a) (by have := size8 (a := a); omega) w
    unfold lo sm
    rw [if_neg h, decide_eq_false h]
    exact this⟩
instance sp_words (a b : Nat) : SpecC Tryd.prog 68 [.string (mag a), .string (mag b)] (.tuple #[.int .u64 (lo a), .int .u64 (lo b), .bool (sm a && sm b)]) True := ⟨fun _ w => by
  cases h : sm a
  all_goals
    refine fn_intro Tryd.func68 rfl Tryd.ntmps68 rfl ?_
    repeat (first | refine sX rfl rfl ?_ | (refine sS rfl rfl ?_ ?_; focus omega) | (refine sC rfl rfl ?_ ?_; focus (first | exact trivial | assumption | exact ⟨by assumption, by assumption⟩ | exact mb2 rfl rfl | exact mb4 rfl rfl rfl rfl)) | refine cX ?_ | refine cY ?_ | (refine sA rfl rfl ?_; intro _) | refine sT rfl ?_ | refine sW rfl rfl ?_ | refine sK rfl rfl ?_ | refine j_if rfl ?_ | refine j_else rfl ?_ | refine Go.Vt.jq (wl_pickT rfl rfl) rfl rfl ?_ | refine Go.Vt.jq (wl_pickF rfl rfl) rfl rfl ?_)
    simp only [h]
    repeat (first | refine sX rfl rfl ?_ | (refine sS rfl rfl ?_ ?_; focus omega) | (refine sC rfl rfl ?_ ?_; focus (first | exact trivial | assumption | exact ⟨by assumption, by assumption⟩ | exact mb2 rfl rfl | exact mb4 rfl rfl rfl rfl)) | refine cX ?_ | refine cY ?_ | (refine sA rfl rfl ?_; intro _) | refine sT rfl ?_ | refine sW rfl rfl ?_ | refine sK rfl rfl ?_ | refine j_if rfl ?_ | refine j_else rfl ?_ | refine Go.Vt.jq (wl_pickT rfl rfl) rfl rfl ?_ | refine Go.Vt.jq (wl_pickF rfl rfl) rfl rfl ?_)
    exact jx_ret_three rfl (resv_tmp rfl) (resv_tmp rfl) (resv_tmp rfl) (fun w hw => ret_ok hw)⟩

theorem made_raw (b : Bool) (s : ByteArray) (w : World) : Calls Tryd.prog 51 [.bool b, .string s].toArray w (Ret (.agg (e_api_Int ⟨b && !decide (s = ByteArray.empty), s⟩)) w) := by
  cases b
  all_goals
    refine fn_intro Tryd.func51 rfl Tryd.ntmps51 rfl ?_
    repeat (first | refine sX rfl rfl ?_ | (refine sS rfl rfl ?_ ?_; focus omega) | (refine sC rfl rfl ?_ ?_; focus (first | exact trivial | assumption | exact ⟨by assumption, by assumption⟩ | exact mb2 rfl rfl | exact mb4 rfl rfl rfl rfl)) | refine cX ?_ | refine cY ?_ | (refine sA rfl rfl ?_; intro _) | refine sT rfl ?_ | refine sW rfl rfl ?_ | refine sK rfl rfl ?_ | refine j_if rfl ?_ | refine j_else rfl ?_ | refine Go.Vt.jq (wl_pickT rfl rfl) rfl rfl ?_ | refine Go.Vt.jq (wl_pickF rfl rfl) rfl rfl ?_)
    exact wx_cell rfl rfl (fun w hw => ret_ok hw)
/-- A sign and a magnitude. -/
def sg (b : Bool) (n : Nat) : Int := if b then -(n : Int) else n
theorem made_I (b : Bool) (n : Nat) : (⟨b && !decide (mag n = ByteArray.empty), mag n⟩ : api_Int) = I (sg b n) := by
  unfold I sg
  cases b
  · simp
  · by_cases h : n = 0
    · subst h; simp [mag_zero]
    · have h1 : ¬ mag n = ByteArray.empty := fun h2 => h (mag_eq_empty.1 h2)
      simp [h1]
      omega
instance sp_made (b : Bool) (n : Nat) : SpecC Tryd.prog 51 [.bool b, .string (mag n)] (vI (sg b n)) True := ⟨fun _ w => by
  have := made_raw b (mag n) w
  rw [made_I] at this
  exact this⟩

/-! ### 'magnitude' -/
/-- The cells of the array after k rounds. -/
def cellsK (u n k : Nat) : List Int := (List.range 8).map fun j => if n - k ≤ j ∧ j < n then ((u / 256 ^ (n - 1 - j) % 256 : Nat) : Int) else 0
theorem cellsK_len (u n k : Nat) : (cellsK u n k).length = 8 := by simp [cellsK]
theorem cellsK_get (u n k j : Nat) (h : j < 8) : (cellsK u n k)[j]? = some (if n - k ≤ j ∧ j < n then ((u / 256 ^ (n - 1 - j) % 256 : Nat) : Int) else 0) := by
  simp [cellsK, h]
theorem cellsK_step (u n k : Nat) (hn : n ≤ 8) (hk : k < n) : (cellsK u n k).set (n - 1 - k) ((u / 256 ^ k % 256 : Nat) : Int) = cellsK u n (k + 1) := by
  apply List.ext_getElem?
  intro j
  by_cases hj : j < 8
  · rw [List.getElem?_set, cellsK_get _ _ _ _ hj]
    by_cases he : n - 1 - k = j
    · subst he
      rw [if_pos rfl, if_pos (by rw [cellsK_len]; omega), cellsK_get _ _ _ _ hj, if_pos (by omega), show n - 1 - (n - 1 - k) = k by omega]
    · rw [if_neg he, cellsK_get _ _ _ _ hj]
      congr 1
      by_cases h1 : n - k ≤ j ∧ j < n
      · rw [if_pos h1, if_pos (by omega)]
      · rw [if_neg h1, if_neg (by omega)]
  · rw [List.getElem?_eq_none (by rw [List.length_set, cellsK_len]; omega), List.getElem?_eq_none (by rw [cellsK_len]; omega)]
theorem cells_le (u n : Nat) (hn : n ≤ 8) (h : (le u).length = n) (i : Nat) (b : UInt8) (hb : (le u).reverse[i]? = some b) : (nums .u8 (cellsK u n n))[0 + i]? = some (.int .u8 b.toNat) := by
  have hi : i < n := by
    rcases Nat.lt_or_ge i n with h1 | h1
    · exact h1
    · rw [List.getElem?_eq_none (by simp; omega)] at hb; cases hb
  rw [Nat.zero_add, nums_get, cellsK_get _ _ _ _ (by omega), if_pos (by omega)]
  rw [List.getElem?_reverse (by omega), h, le_get _ _ (by omega)] at hb
  simp only [Option.some.injEq] at hb
  subst hb
  simp
theorem pow256 (k : Nat) : (2 : Int) ^ (8 * (k : Int)).toNat = ((256 ^ k : Nat) : Int) := by
  have h : (8 * (k : Int)).toNat = 8 * k := by omega
  rw [h, show (256 : Nat) = 2 ^ 8 from rfl, ← Nat.pow_mul]
  simp
theorem cellsK_zero (u n : Nat) : cellsK u n 0 = [0, 0, 0, 0, 0, 0, 0, 0] := by
  have : ∀ j, (if n - 0 ≤ j ∧ j < n then ((u / 256 ^ (n - 1 - j) % 256 : Nat) : Int) else 0) = 0 := fun j => by rw [if_neg (by omega)]
  simp only [cellsK, this]
  rfl
theorem byte_at (u k : Nat) : IntKind.u8.wrap ((u : Int) / 2 ^ (8 * (k : Int)).toNat) = ((u / 256 ^ k % 256 : Nat) : Int) := by
  rw [pow256, IntKind.wrap_u8]
  rfl
theorem magnitude_pos (u : Nat) (h0 : u ≠ 0) (h : u < 18446744073709551616) (w : World) : Calls Tryd.prog 52 [.int .u64 u].toArray w (Ret (.string (mag u)) w) := by
  have hbit := mag_bits (x := u) h h0
  have hb64 := bitLen_le (x := u) h
  obtain ⟨n, hn⟩ : ∃ n, n = (mag u).size := ⟨_, rfl⟩
  have hn8 : n ≤ 8 := by rw [hn, size8]; exact h
  have hn1 : 1 ≤ n := by
    rcases Nat.eq_zero_or_pos n with h1 | h1
    · exfalso
      have : (mag u).size ≤ 0 := by omega
      rw [mag_size] at this
      omega
    · exact h1
  haveI : SpecC Tryd.prog 67 [.int .u64 u] (.int .i64 (Lib.bitLen u)) True := ⟨fun _ w => (Tryd.bits_Len64 u w (by omega) (by omega)).mono fun e w' ⟨h1, h2⟩ => by subst h2; exact ⟨h1, Ext.refl _⟩⟩
  refine fn_intro Tryd.func52 rfl Tryd.ntmps52 rfl ?_
  repeat (first | refine sX rfl rfl ?_ | (refine sS rfl rfl ?_ ?_; focus omega) | (refine sC rfl rfl ?_ ?_; focus (first | exact trivial | assumption | exact ⟨by assumption, by assumption⟩ | exact mb2 rfl rfl | exact mb4 rfl rfl rfl rfl)) | refine cX ?_ | refine cY ?_ | (refine sA rfl rfl ?_; intro _) | refine sT rfl ?_ | refine sW rfl rfl ?_ | refine sK rfl rfl ?_ | refine j_if rfl ?_ | refine j_else rfl ?_ | refine Go.Vt.jq (wl_pickT rfl rfl) rfl rfl ?_ | refine Go.Vt.jq (wl_pickF rfl rfl) rfl rfl ?_)
  refine j_cond rfl (fun h => ?_) (fun h => ?_)
  · have := of_decide_eq_true h
    omega
  repeat (first | refine sX rfl rfl ?_ | (refine sS rfl rfl ?_ ?_; focus omega) | (refine sC rfl rfl ?_ ?_; focus (first | exact trivial | assumption | exact ⟨by assumption, by assumption⟩ | exact mb2 rfl rfl | exact mb4 rfl rfl rfl rfl)) | refine cX ?_ | refine cY ?_ | (refine sA rfl rfl ?_; intro _) | refine sT rfl ?_ | refine sW rfl rfl ?_ | refine sK rfl rfl ?_ | refine j_if rfl ?_ | refine j_else rfl ?_ | refine Go.Vt.jq (wl_pickT rfl rfl) rfl rfl ?_ | refine Go.Vt.jq (wl_pickF rfl rfl) rfl rfl ?_)
  rename_i b
  have e : ((Lib.bitLen u : Int) + 7) / 8 = (n : Int) := by omega
  refine j_loop (S := Nat) (fun k => k ≤ n) (fun k => [(0, .int .u64 u), (3, .int .i64 n), (12, .int .i64 n), (13, .int .i64 k), (4, .pointer (some ⟨b, 0, none⟩))]) (fun k => [⟨b, nums .u8 (cellsK u n k), 104⟩]) (fun k => n - k) 0 (Nat.zero_le _)
    (by rw [e]; repeat (first | exact sub_nil | refine sub_cons rfl ?_)) (by rw [cellsK_zero]; exact List.Sublist.refl _) (fun k hk => ?_)
  repeat (first | refine sX rfl rfl ?_ | (refine sS rfl rfl ?_ ?_; focus omega) | (refine sC rfl rfl ?_ ?_; focus (first | exact trivial | assumption | exact ⟨by assumption, by assumption⟩ | exact mb2 rfl rfl | exact mb4 rfl rfl rfl rfl)) | refine cX ?_ | refine cY ?_ | (refine sA rfl rfl ?_; intro _) | refine sT rfl ?_ | refine sW rfl rfl ?_ | refine sK rfl rfl ?_ | refine j_if rfl ?_ | refine j_else rfl ?_ | refine Go.Vt.jq (wl_pickT rfl rfl) rfl rfl ?_ | refine Go.Vt.jq (wl_pickF rfl rfl) rfl rfl ?_)
  refine j_cond rfl (fun h => ?_) (fun h => ?_)
  · have hlt : k < n := by have := of_decide_eq_true h; omega
    repeat (first | refine sX rfl rfl ?_ | (refine sS rfl rfl ?_ ?_; focus omega) | (refine sC rfl rfl ?_ ?_; focus (first | exact trivial | assumption | exact ⟨by assumption, by assumption⟩ | exact mb2 rfl rfl | exact mb4 rfl rfl rfl rfl)) | refine cX ?_ | refine cY ?_ | (refine sA rfl rfl ?_; intro _) | refine sT rfl ?_ | refine sW rfl rfl ?_ | refine sK rfl rfl ?_ | refine j_if rfl ?_ | refine j_else rfl ?_ | refine Go.Vt.jq (wl_pickT rfl rfl) rfl rfl ?_ | refine Go.Vt.jq (wl_pickF rfl rfl) rfl rfl ?_)
    refine jq (wl_shr rfl rfl (by simp only [IntKind.bits]; omega)) rfl rfl ?_
    repeat (first | refine sX rfl rfl ?_ | (refine sS rfl rfl ?_ ?_; focus omega) | (refine sC rfl rfl ?_ ?_; focus (first | exact trivial | assumption | exact ⟨by assumption, by assumption⟩ | exact mb2 rfl rfl | exact mb4 rfl rfl rfl rfl)) | refine cX ?_ | refine cY ?_ | (refine sA rfl rfl ?_; intro _) | refine sT rfl ?_ | refine sW rfl rfl ?_ | refine sK rfl rfl ?_ | refine j_if rfl ?_ | refine j_else rfl ?_ | refine Go.Vt.jq (wl_pickT rfl rfl) rfl rfl ?_ | refine Go.Vt.jq (wl_pickF rfl rfl) rfl rfl ?_)
    refine wo_storeN rfl rfl (by rw [cellsK_len]; omega) rfl ?_
    rw [byte_at, show 0 + ((n : Int) - 1 - (k : Int)).toNat * 1 = n - 1 - k by omega, cellsK_step u n k hn8 hlt]
    repeat (first | refine sX rfl rfl ?_ | (refine sS rfl rfl ?_ ?_; focus omega) | (refine sC rfl rfl ?_ ?_; focus (first | exact trivial | assumption | exact ⟨by assumption, by assumption⟩ | exact mb2 rfl rfl | exact mb4 rfl rfl rfl rfl)) | refine cX ?_ | refine cY ?_ | (refine sA rfl rfl ?_; intro _) | refine sT rfl ?_ | refine sW rfl rfl ?_ | refine sK rfl rfl ?_ | refine j_if rfl ?_ | refine j_else rfl ?_ | refine Go.Vt.jq (wl_pickT rfl rfl) rfl rfl ?_ | refine Go.Vt.jq (wl_pickF rfl rfl) rfl rfl ?_)
    exact jx_loop (k + 1) hlt (by repeat (first | exact sub_nil | refine sub_cons rfl ?_)) (List.Sublist.refl _) (by omega)
  · have hge : k = n := by have := of_decide_eq_false h; omega
    subst hge
    repeat (first | refine sX rfl rfl ?_ | (refine sS rfl rfl ?_ ?_; focus omega) | (refine sC rfl rfl ?_ ?_; focus (first | exact trivial | assumption | exact ⟨by assumption, by assumption⟩ | exact mb2 rfl rfl | exact mb4 rfl rfl rfl rfl)) | refine cX ?_ | refine cY ?_ | (refine sA rfl rfl ?_; intro _) | refine sT rfl ?_ | refine sW rfl rfl ?_ | refine sK rfl rfl ?_ | refine j_if rfl ?_ | refine j_else rfl ?_ | refine Go.Vt.jq (wl_pickT rfl rfl) rfl rfl ?_ | refine Go.Vt.jq (wl_pickF rfl rfl) rfl rfl ?_)
    refine jq (wl_slice_arr rfl rfl (by omega)) rfl rfl ?_
    refine jq (wl_str_bytes (bs := (le u).reverse) rfl (by rw [List.length_reverse, ← size_mag]; omega) (cells_le u k hn8 (by rw [← size_mag]; omega))) rfl rfl ?_
    repeat (first | refine sX rfl rfl ?_ | (refine sS rfl rfl ?_ ?_; focus omega) | (refine sC rfl rfl ?_ ?_; focus (first | exact trivial | assumption | exact ⟨by assumption, by assumption⟩ | exact mb2 rfl rfl | exact mb4 rfl rfl rfl rfl)) | refine cX ?_ | refine cY ?_ | (refine sA rfl rfl ?_; intro _) | refine sT rfl ?_ | refine sW rfl rfl ?_ | refine sK rfl rfl ?_ | refine j_if rfl ?_ | refine j_else rfl ?_ | refine Go.Vt.jq (wl_pickT rfl rfl) rfl rfl ?_ | refine Go.Vt.jq (wl_pickF rfl rfl) rfl rfl ?_)
    exact jx_ret_tmp rfl rfl (fun w hw => ret_ok hw)
theorem magnitude_zero (w : World) : Calls Tryd.prog 52 [.int .u64 0].toArray w (Ret (.string (mag 0)) w) := by
  refine fn_intro Tryd.func52 rfl Tryd.ntmps52 rfl ?_
  repeat (first | refine sX rfl rfl ?_ | (refine sS rfl rfl ?_ ?_; focus omega) | (refine sC rfl rfl ?_ ?_; focus (first | exact trivial | assumption | exact ⟨by assumption, by assumption⟩ | exact mb2 rfl rfl | exact mb4 rfl rfl rfl rfl)) | refine cX ?_ | refine cY ?_ | (refine sA rfl rfl ?_; intro _) | refine sT rfl ?_ | refine sW rfl rfl ?_ | refine sK rfl rfl ?_ | refine j_if rfl ?_ | refine j_else rfl ?_ | refine Go.Vt.jq (wl_pickT rfl rfl) rfl rfl ?_ | refine Go.Vt.jq (wl_pickF rfl rfl) rfl rfl ?_)
  exact jx_ret_tmp rfl rfl (fun w hw => ret_ok hw)
instance sp_magnitude (u : Nat) : SpecC Tryd.prog 52 [.int .u64 u] (.string (mag u)) (u < 18446744073709551616) := ⟨fun h w => by
  by_cases h0 : u = 0
  · subst h0
    exact magnitude_zero w
  · exact magnitude_pos u h0 h w⟩
end Go.Vt
