/- ReconstructThrough: for at most 12 reports and any settings, Through returns the trajectory through the reports of their chain. (part 2 of 6.) Conditions: those that each statement names. -/
import Derived.Lib.TrimByte
import Derived.Test.YtecgnhneekbhgaaGreatDoorKT1
/- The integers of the program: magnitudes of up to eight bytes as words. Conditions: none. -/
set_option linter.unusedSimpArgs false
set_option linter.unusedVariables false
set_option maxHeartbeats 2000000
set_option maxRecDepth 100000
namespace Go.Vt
open Go.RowKit Go.Proofs
theorem vle_snoc (l : List UInt8) (b : UInt8) : vle (l ++ [b]).reverse = b.toNat + 256 * vle l.reverse := by simp [vle]
theorem vle_lt8 {l : List UInt8} (h : l.length ≤ 8) : vle l < 18446744073709551616 := by
  have h1 := vle_lt l
  have h2 : 256 ^ l.length ≤ 256 ^ 8 := Nat.pow_le_pow_right (by omega) h
  have h3 : (256 : Nat) ^ 8 = 18446744073709551616 := by decide
  omega
theorem vle_lt7 {l : List UInt8} (h : l.length ≤ 7) : vle l < 72057594037927936 := by
  have h1 := vle_lt l
  have h2 : 256 ^ l.length ≤ 256 ^ 7 := Nat.pow_le_pow_right (by omega) h
  have h3 : (256 : Nat) ^ 7 = 72057594037927936 := by decide
  omega
theorem or_byte (x b : Nat) (hx : x < 72057594037927936) (hb : b < 256) : bits .or .u64 (IntKind.u64.wrap ((x : Int) * 2 ^ (8 : Int).toNat)) (b : Int) = ((b + 256 * x : Nat) : Int) := by
  have e1 : ((8 : Int).toNat) = 8 := rfl
  rw [e1, IntWalk.u64_in _ (by omega)]
  unfold bits
  have hx' : ((x : Int) * 2 ^ 8) = ((x * 256 : Nat) : Int) := by omega
  rw [hx']
  have h1 : BitVec.ofInt IntKind.u64.bits ((x * 256 : Nat) : Int) = BitVec.ofNat 64 (x * 256) := BitVec.ofInt_natCast _ _
  have h2 : BitVec.ofInt IntKind.u64.bits ((b : Nat) : Int) = BitVec.ofNat 64 b := BitVec.ofInt_natCast _ _
  have h3 : (x * 256) ||| b = x * 256 + b := by
    rw [show x * 256 = x <<< 8 by rw [Nat.shiftLeft_eq]]
    rw [Nat.shiftLeft_add_eq_or_of_lt (by omega : b < 2 ^ 8)]
  simp only [h1, h2]
  show IntKind.u64.wrap ((BitVec.ofNat 64 (x * 256) ||| BitVec.ofNat 64 b).toNat : Int) = _
  rw [BitVec.toNat_or, BitVec.toNat_ofNat, BitVec.toNat_ofNat, Nat.mod_eq_of_lt (by omega), Nat.mod_eq_of_lt (by omega), h3, IntWalk.u64_in _ (by omega)]
  omega
theorem take_get (s : ByteArray) (k : Nat) (h : k < s.size) : s.data.toList.take (k + 1) = s.data.toList.take k ++ [s[k]] := by
  rw [List.take_succ_eq_append_getElem (by simpa using h)]
  rfl
/-- The word that up to eight bytes are. -/
theorem word_yes (s : ByteArray) (h : s.size ≤ 8) (w : World) : Calls Tryz.prog 145 [.string s].toArray w (Ret (.tuple #[.int .u64 (vmag s), .bool true]) w) := by
  refine fn_intro Tryz.func145 rfl Tryz.ntmps145 rfl ?_
  repeat (refine wkA ?_; try intro _)
  refine j_cond rfl (fun h => ?_) (fun h => ?_)
  · have := of_decide_eq_true h
    omega
  repeat (refine wkA ?_; try intro _)
  refine j_loop (S := Nat) (fun k => k ≤ s.size) (fun k => [(0, .string s), (10, .int .i64 s.size), (11, .int .i64 k), (4, .int .u64 (vle (s.data.toList.take k).reverse))]) (fun _ => []) (fun k => s.size - k) 0 (Nat.zero_le _)
    (by repeat (first | exact sub_nil | refine sub_cons rfl ?_)) (List.Sublist.refl _) (fun k hk => ?_)
  repeat (refine wkA ?_; try intro _)
  refine j_cond rfl (fun h => ?_) (fun h => ?_)
  · have hlt : k < s.size := by have := of_decide_eq_true h; omega
    have hu := UInt8.toNat_lt s[k]
    repeat (refine wkA ?_; try intro _)
    refine jq (wl_shl rfl rfl (by decide)) rfl rfl ?_
    repeat (refine wkA ?_; try intro _)
    refine jq (wl_index_str rfl rfl (by omega) (show s[(k : Int).toNat]? = some s[k] by simp [hlt])) rfl rfl ?_
    repeat (refine wkA ?_; try intro _)
    refine jq (wl_or rfl rfl) rfl rfl ?_
    have hx := vle_lt7 (l := (s.data.toList.take k).reverse) (by simp; omega)
    rw [or_byte _ _ hx (UInt8.toNat_lt _), ← vle_snoc, ← take_get s k hlt]
    repeat (refine wkA ?_; try intro _)
    exact jx_loop (k + 1) hlt (by repeat (first | exact sub_nil | refine sub_cons rfl ?_)) (List.Sublist.refl _) (by omega)
  · have hge : k = s.size := by have := of_decide_eq_false h; omega
    subst hge
    repeat (refine wkA ?_; try intro _)
    refine jx_ret_two rfl (resv_tmp rfl) (resv_tmp rfl) (fun w hw => ?_)
    have e : vle (s.data.toList.take s.size).reverse = vmag s := by
      unfold vmag
      rw [show s.data.toList.take s.size = s.data.toList from List.take_of_length_le (Nat.le_of_eq rfl)]
    rw [e]
    exact ret_ok hw
theorem word_no (s : ByteArray) (h : 8 < s.size) (w : World) : Calls Tryz.prog 145 [.string s].toArray w (Ret (.tuple #[.int .u64 0, .bool false]) w) := by
  refine fn_intro Tryz.func145 rfl Tryz.ntmps145 rfl ?_
  repeat (refine wkA ?_; try intro _)
  refine j_cond rfl (fun h => ?_) (fun h => ?_)
  · repeat (refine wkA ?_; try intro _)
    exact jx_ret_two rfl (resv_tmp rfl) (resv_tmp rfl) (fun w hw => ret_ok hw)
  · have := of_decide_eq_false h
    omega
def I (n : Int) : api_Int := ⟨decide (n < 0), mag n.natAbs⟩
abbrev vI (n : Int) : Value := .agg (e_api_Int (I n))
/-- What 'word' returns of a magnitude. -/
def lo (a : Nat) : Nat := if a < 18446744073709551616 then a else 0
def sm (a : Nat) : Bool := decide (a < 18446744073709551616)
theorem lo_sm {a : Nat} (h : sm a = true) : lo a = a := by unfold sm at h; unfold lo; rw [if_pos (of_decide_eq_true h)]
theorem lo_lt (a : Nat) : lo a < 18446744073709551616 := by unfold lo; split <;> omega
theorem size8 {a : Nat} : (mag a).size ≤ 8 ↔ a < 18446744073709551616 := by
  rw [mag_size]
instance sp_word (a : Nat) : SpecC Tryz.prog 145 [.string (mag a)] (.tuple #[.int .u64 (lo a), .bool (sm a)]) True := ⟨fun _ w => by
  by_cases h : a < 18446744073709551616
  · have := word_yes (mag a) (size8.2 h) w
    rw [vmag_mag] at this
    unfold lo sm
    rw [if_pos h, decide_eq_true h]
    exact this
  · have := word_no (mag a) (by have := size8 (a := a); omega) w
    unfold lo sm
    rw [if_neg h, decide_eq_false h]
    exact this⟩
instance sp_words (a b : Nat) : SpecC Tryz.prog 114 [.string (mag a), .string (mag b)] (.tuple #[.int .u64 (lo a), .int .u64 (lo b), .bool (sm a && sm b)]) True := ⟨fun _ w => by
  cases h : sm a
  all_goals
    refine fn_intro Tryz.func114 rfl Tryz.ntmps114 rfl ?_
    repeat (refine wkA ?_; try intro _)
    simp only [h]
    repeat (refine wkA ?_; try intro _)
    exact jx_ret_three rfl (resv_tmp rfl) (resv_tmp rfl) (resv_tmp rfl) (fun w hw => ret_ok hw)⟩
theorem made_raw (b : Bool) (s : ByteArray) (w : World) : Calls Tryz.prog 73 [.bool b, .string s].toArray w (Ret (.agg (e_api_Int ⟨b && !decide (s = ByteArray.empty), s⟩)) w) := by
  cases b
  all_goals
    refine fn_intro Tryz.func73 rfl Tryz.ntmps73 rfl ?_
    repeat (refine wkA ?_; try intro _)
    exact wx_cell rfl rfl (fun w hw => ret_ok hw)
/-- A sign and a magnitude. -/
def sg (b : Bool) (n : Nat) : Int := if b then -(n : Int) else n
theorem made_I (b : Bool) (n : Nat) : (⟨b && !decide (mag n = ByteArray.empty), mag n⟩ : api_Int) = I (sg b n) := by
  unfold I sg
  cases b
  · simp
  · by_cases h : n = 0
    · subst h; simp [mag_zero]
    · have h1 : ¬ mag n = ByteArray.empty := fun h2 => h (mag_eq_empty.1 h2)
      simp [h1]
      omega
instance sp_made (b : Bool) (n : Nat) : SpecC Tryz.prog 73 [.bool b, .string (mag n)] (vI (sg b n)) True := ⟨fun _ w => by
  have := made_raw b (mag n) w
  rw [made_I] at this
  exact this⟩
/-- The cells of the array after k rounds. -/
def cellsK (u n k : Nat) : List Int := (List.range 8).map fun j => if n - k ≤ j ∧ j < n then ((u / 256 ^ (n - 1 - j) % 256 : Nat) : Int) else 0
theorem cellsK_len (u n k : Nat) : (cellsK u n k).length = 8 := by simp [cellsK]
theorem cellsK_get (u n k j : Nat) (h : j < 8) : (cellsK u n k)[j]? = some (if n - k ≤ j ∧ j < n then ((u / 256 ^ (n - 1 - j) % 256 : Nat) : Int) else 0) := by
  simp [cellsK, h]
theorem cellsK_step (u n k : Nat) (hn : n ≤ 8) (hk : k < n) : (cellsK u n k).set (n - 1 - k) ((u / 256 ^ k % 256 : Nat) : Int) = cellsK u n (k + 1) := by
  apply List.ext_getElem?
  intro j
  by_cases hj : j < 8
  · rw [List.getElem?_set, cellsK_get _ _ _ _ hj]
    by_cases he : n - 1 - k = j
    · subst he
      rw [if_pos rfl, if_pos (by rw [cellsK_len]; omega), cellsK_get _ _ _ _ hj, if_pos (by omega), show n - 1 - (n - 1 - k) = k by omega]
    · rw [if_neg he, cellsK_get _ _ _ _ hj]
      congr 1
      by_cases h1 : n - k ≤ j ∧ j < n
      · rw [if_pos h1, if_pos (by omega)]
      · rw [if_neg h1, if_neg (by omega)]
  · rw [List.getElem?_eq_none (by rw [List.length_set, cellsK_len]; omega), List.getElem?_eq_none (by rw [cellsK_len]; omega)]
theorem cells_le (u n : Nat) (hn : n ≤ 8) (h : (le u).length = n) (i : Nat) (b : UInt8) (hb : (le u).reverse[i]? = some b) : (nums .u8 (cellsK u n n))[0 + i]? = some (.int .u8 b.toNat) := by
  have hi : i < n := by
    rcases Nat.lt_or_ge i n with h1 | h1
    · exact h1
    · rw [List.getElem?_eq_none (by simp; omega)] at hb; cases hb
  rw [Nat.zero_add, nums_get, cellsK_get _ _ _ _ (by omega), if_pos (by omega)]
  rw [List.getElem?_reverse (by omega), h, le_get _ _ (by omega)] at hb
  simp only [Option.some.injEq] at hb
  subst hb
  simp
theorem pow256 (k : Nat) : (2 : Int) ^ (8 * (k : Int)).toNat = ((256 ^ k : Nat) : Int) := by
  have h : (8 * (k : Int)).toNat = 8 * k := by omega
  rw [h, show (256 : Nat) = 2 ^ 8 from rfl, ← Nat.pow_mul]
  simp
theorem cellsK_zero (u n : Nat) : cellsK u n 0 = [0, 0, 0, 0, 0, 0, 0, 0] := by
  have : ∀ j, (if n - 0 ≤ j ∧ j < n then ((u / 256 ^ (n - 1 - j) % 256 : Nat) : Int) else 0) = 0 := fun j => by rw [if_neg (by omega)]
  simp only [cellsK, this]
  rfl
theorem byte_at (u k : Nat) : IntKind.u8.wrap ((u : Int) / 2 ^ (8 * (k : Int)).toNat) = ((u / 256 ^ k % 256 : Nat) : Int) := by
  rw [pow256, IntKind.wrap_u8]
  rfl
theorem magnitude_pos (u : Nat) (h0 : u ≠ 0) (h : u < 18446744073709551616) (w : World) : Calls Tryz.prog 74 [.int .u64 u].toArray w (Ret (.string (mag u)) w) := by
  have hbit := mag_bits (x := u) h h0
  have hb64 := bitLen_le (x := u) h
  obtain ⟨n, hn⟩ : ∃ n, n = (mag u).size := ⟨_, rfl⟩
  have hn8 : n ≤ 8 := by rw [hn, size8]; exact h
  have hn1 : 1 ≤ n := by
    rcases Nat.eq_zero_or_pos n with h1 | h1
    · exfalso
      have : (mag u).size ≤ 0 := by omega
      rw [mag_size] at this
      omega
    · exact h1
  haveI : SpecC Tryz.prog 111 [.int .u64 u] (.int .i64 (Lib.bitLen u)) True := ⟨fun _ w => (Tryz.bits_Len64 u w (by omega) (by omega)).mono fun e w' ⟨h1, h2⟩ => by subst h2; exact ⟨h1, Ext.refl _⟩⟩
  refine fn_intro Tryz.func74 rfl Tryz.ntmps74 rfl ?_
  repeat (refine wkA ?_; try intro _)
  refine j_cond rfl (fun h => ?_) (fun h => ?_)
  · have := of_decide_eq_true h
    omega
  repeat (refine wkA ?_; try intro _)
  rename_i b
  have e : ((Lib.bitLen u : Int) + 7) / 8 = (n : Int) := by omega
  refine j_loop (S := Nat) (fun k => k ≤ n) (fun k => [(0, .int .u64 u), (3, .int .i64 n), (12, .int .i64 n), (13, .int .i64 k), (4, .pointer (some ⟨b, 0, none⟩))]) (fun k => [⟨b, nums .u8 (cellsK u n k), 193⟩]) (fun k => n - k) 0 (Nat.zero_le _)
    (by rw [e]; repeat (first | exact sub_nil | refine sub_cons rfl ?_)) (by rw [cellsK_zero]; exact List.Sublist.refl _) (fun k hk => ?_)
  repeat (refine wkA ?_; try intro _)
  refine j_cond rfl (fun h => ?_) (fun h => ?_)
  · have hlt : k < n := by have := of_decide_eq_true h; omega
    repeat (refine wkA ?_; try intro _)
    refine jq (wl_shr rfl rfl (by simp only [IntKind.bits]; omega)) rfl rfl ?_
    repeat (refine wkA ?_; try intro _)
    refine wo_storeN rfl rfl (by rw [cellsK_len]; omega) rfl ?_
    rw [byte_at, show 0 + ((n : Int) - 1 - (k : Int)).toNat * 1 = n - 1 - k by omega, cellsK_step u n k hn8 hlt]
    repeat (refine wkA ?_; try intro _)
    exact jx_loop (k + 1) hlt (by repeat (first | exact sub_nil | refine sub_cons rfl ?_)) (List.Sublist.refl _) (by omega)
  · have hge : k = n := by have := of_decide_eq_false h; omega
    subst hge
    repeat (refine wkA ?_; try intro _)
    refine jq (wl_slice_arr rfl rfl (by omega)) rfl rfl ?_
    refine jq (wl_str_bytes (bs := (le u).reverse) rfl (by rw [List.length_reverse, ← size_mag]; omega) (cells_le u k hn8 (by rw [← size_mag]; omega))) rfl rfl ?_
    repeat (refine wkA ?_; try intro _)
    exact jx_ret_tmp rfl rfl (fun w hw => ret_ok hw)
theorem magnitude_zero (w : World) : Calls Tryz.prog 74 [.int .u64 0].toArray w (Ret (.string (mag 0)) w) := by
  refine fn_intro Tryz.func74 rfl Tryz.ntmps74 rfl ?_
  repeat (refine wkA ?_; try intro _)
  exact jx_ret_tmp rfl rfl (fun w hw => ret_ok hw)
instance sp_magnitude (u : Nat) : SpecC Tryz.prog 74 [.int .u64 u] (.string (mag u)) (u < 18446744073709551616) := ⟨fun h w => by
  by_cases h0 : u = 0
  · subst h0
    exact magnitude_zero w
  · exact magnitude_pos u h0 h w⟩
end Go.Vt
/- Plain mathematics: digits to the base 2^32, the lowest one first. Conditions: none. -/
set_option linter.unusedSimpArgs false
set_option linter.unusedVariables false
set_option maxHeartbeats 2000000
namespace Go.Vt
def vd : List Nat → Nat
  | [] => 0
  | d :: l => d + 4294967296 * vd l
/-- All digits are below the base. -/
def Dg (l : List Nat) : Prop := ∀ d ∈ l, d < 4294967296
theorem vd_append (l m : List Nat) : vd (l ++ m) = vd l + 4294967296 ^ l.length * vd m := by
  induction l with
  | nil => simp [vd]
  | cons b l ih =>
    simp only [List.cons_append, vd, ih, List.length_cons, Nat.pow_succ, Nat.mul_add]
    rw [Nat.mul_comm (4294967296 ^ l.length) 4294967296, Nat.mul_assoc]
    omega
theorem vd_split (l : List Nat) (i : Nat) (h : i ≤ l.length) : vd l = vd (l.take i) + 4294967296 ^ i * vd (l.drop i) := by
  have := vd_append (l.take i) (l.drop i)
  rw [List.take_append_drop, List.length_take, Nat.min_eq_left h] at this
  exact this
theorem vd_lt {l : List Nat} (h : Dg l) : vd l < 4294967296 ^ l.length := by
  induction l with
  | nil => simp [vd]
  | cons b l ih =>
    have h1 := h b (.head _)
    have h2 := ih (fun d hd => h d (.tail _ hd))
    simp only [vd, List.length_cons, Nat.pow_succ]
    omega
theorem dg_take {l : List Nat} (h : Dg l) (i : Nat) : Dg (l.take i) := fun d hd => h d (List.mem_of_mem_take hd)
theorem dg_drop {l : List Nat} (h : Dg l) (i : Nat) : Dg (l.drop i) := fun d hd => h d (List.mem_of_mem_drop hd)
theorem dg_set {l : List Nat} (h : Dg l) (i x : Nat) (hx : x < 4294967296) : Dg (l.set i x) := fun d hd => by
  rcases List.mem_or_eq_of_mem_set hd with h1 | h1
  · exact h d h1
  · omega
theorem dg_append {l m : List Nat} (h : Dg l) (k : Dg m) : Dg (l ++ m) := fun d hd => by
  rcases List.mem_append.1 hd with h1 | h1
  · exact h d h1
  · exact k d h1
theorem dg_zero (n : Nat) : Dg (List.replicate n 0) := fun d hd => by have := (List.mem_replicate.1 hd).2; omega
theorem vd_zero (n : Nat) : vd (List.replicate n 0) = 0 := by
  induction n with
  | zero => rfl
  | succ n ih => simp only [List.replicate_succ, vd, ih]
theorem dg_get {l : List Nat} (h : Dg l) {i : Nat} (hi : i < l.length) : l[i] < 4294967296 := h _ (List.getElem_mem hi)
/-- One digit is turned. -/
theorem vd_set : ∀ (l : List Nat) (i x : Nat) (h : i < l.length), vd (l.set i x) + l[i] * 4294967296 ^ i = vd l + x * 4294967296 ^ i
  | [], i, x, h => by simp at h
  | b :: l, 0, x, h => by simp [vd]; omega
  | b :: l, i + 1, x, h => by
    have ih := vd_set l i x (by simpa using h)
    simp only [List.set_cons_succ, vd, List.getElem_cons_succ, Nat.pow_succ]
    have e1 : l[i]'(by simpa using h) * (4294967296 ^ i * 4294967296) = 4294967296 * (l[i]'(by simpa using h) * 4294967296 ^ i) := by
      rw [← Nat.mul_assoc, Nat.mul_comm]
    have e2 : x * (4294967296 ^ i * 4294967296) = 4294967296 * (x * 4294967296 ^ i) := by rw [← Nat.mul_assoc, Nat.mul_comm]
    rw [e1, e2]
    omega
theorem vd_get_le (l : List Nat) (i : Nat) (h : i < l.length) : l[i] * 4294967296 ^ i ≤ vd l := by
  have := vd_set l i 0 h
  omega
theorem vd_inj : ∀ {l m : List Nat}, Dg l → Dg m → l.length = m.length → vd l = vd m → l = m
  | [], [], _, _, _, _ => rfl
  | [], _ :: _, _, _, h, _ => by simp at h
  | _ :: _, [], _, _, h, _ => by simp at h
  | a :: l, b :: m, hl, hm, h, hv => by
    have h1 := hl a (.head _)
    have h2 := hm b (.head _)
    simp only [vd] at hv
    have e : a = b := by omega
    subst e
    congr 1
    exact vd_inj (fun d hd => hl d (.tail _ hd)) (fun d hd => hm d (.tail _ hd)) (by simpa using h) (by omega)
/-- How many digits are left without the zeros at the high end. -/
def tl : List Nat → Nat
  | [] => 0
  | d :: l => if tl l = 0 then (if d = 0 then 0 else 1) else tl l + 1
theorem tl_le : ∀ l : List Nat, tl l ≤ l.length
  | [] => Nat.le_refl _
  | d :: l => by
    have := tl_le l
    simp only [tl, List.length_cons]
    split
    · split <;> omega
    · omega
theorem tl_snoc (l : List Nat) (d : Nat) : tl (l ++ [d]) = if d = 0 then tl l else l.length + 1 := by
  induction l with
  | nil => simp [tl]
  | cons b l ih =>
    simp only [List.cons_append, tl, ih, List.length_cons]
    by_cases h : d = 0
    · simp [h]
    · simp [h]
theorem vd_tl (l : List Nat) : vd (l.take (tl l)) = vd l := by
  induction l with
  | nil => rfl
  | cons b l ih =>
    simp only [tl]
    split
    · rename_i h
      rw [h] at ih
      simp only [List.take_zero, vd] at ih
      split
      · rename_i hb
        subst hb
        simp [vd, ← ih]
      · simp [vd, ← ih]
    · simp [vd, ih]
theorem pow_dig (i : Nat) : 256 ^ i = 4294967296 ^ (i / 4) * 256 ^ (i % 4) := by
  have h : i = 4 * (i / 4) + i % 4 := by omega
  have e : (4294967296 : Nat) = 256 ^ 4 := by decide
  rw [e, ← Nat.pow_mul, ← Nat.pow_add, ← h]
theorem pow_dig4 (i : Nat) : (4294967296 : Nat) ^ i = 256 ^ (4 * i) := by
  have e : (4294967296 : Nat) = 256 ^ 4 := by decide
  rw [e, ← Nat.pow_mul]
/-- Leading zero bytes off: a magnitude. -/
theorem mag_trim (l : List UInt8) : mag (vle l.reverse) = ⟨(Lib.trimLeftB l 0).toArray⟩ := by
  unfold Lib.trimLeftB
  induction l with
  | nil => rfl
  | cons b l ih =>
    by_cases h : b = 0
    · subst h
      rw [List.dropWhile_cons_of_pos (by rfl), ← ih]
      congr 1
      simp [vle_append, vle]
    · rw [List.dropWhile_cons_of_neg (by simpa using h)]
      refine mag_of_list (fun c hc => ?_)
      rw [List.reverse_cons, List.getLast?_append] at hc
      simp at hc
      rw [← hc]
      exact h
end Go.Vt
/- Magnitudes as digits to the base 2^32 and back. Conditions: the lengths that each statement names. -/
set_option linter.unusedSimpArgs false
set_option linter.unusedVariables false
set_option maxHeartbeats 2000000
set_option maxRecDepth 100000
namespace Go.Vt
open Go.RowKit Go.Proofs
def dgs : Nat → Nat → List Nat
  | _, 0 => []
  | a, m + 1 => a % 4294967296 :: dgs (a / 4294967296) m
theorem dgs_len : ∀ (m a : Nat), (dgs a m).length = m
  | 0, _ => rfl
  | m + 1, a => by simp [dgs, dgs_len m]
theorem dgs_dg : ∀ (m a : Nat), Dg (dgs a m)
  | 0, _ => fun d hd => by simp [dgs] at hd
  | m + 1, a => fun d hd => by
    rcases List.mem_cons.1 hd with rfl | hd
    · omega
    · exact dgs_dg m _ d hd
theorem vd_dgs : ∀ (m a : Nat), vd (dgs a m) = a % 4294967296 ^ m
  | 0, a => by simp [dgs, vd, Nat.mod_one]
  | m + 1, a => by
    rw [dgs, vd, vd_dgs m, Nat.pow_succ, Nat.mul_comm (4294967296 ^ m), Nat.mod_mul]
theorem dgs_of {ds : List Nat} {m a : Nat} (h : Dg ds) (hl : ds.length = m) (hv : vd ds = a) : ds = dgs a m := by
  subst hv
  refine vd_inj h (dgs_dg _ _) (by rw [dgs_len, hl]) ?_
  rw [vd_dgs, Nat.mod_eq_of_lt]
  rw [← hl]
  exact vd_lt h
theorem or_shift (d b r : Nat) (hd : d < 256 ^ r) (hb : b < 256) (hr : r < 4) : bits .or .u32 (d : Int) (IntKind.u32.wrap ((b : Int) * 2 ^ (8 * (r : Int)).toNat)) = ((d + b * 256 ^ r : Nat) : Int) := by
  have hp : (256 : Nat) ^ r ≤ 16777216 := by
    have h3 : (256 : Nat) ^ r ≤ 256 ^ 3 := Nat.pow_le_pow_right (by omega) (by omega)
    have h4 : (256 : Nat) ^ 3 = 16777216 := by decide
    omega
  have hbr : b * 256 ^ r ≤ 255 * 16777216 := Nat.mul_le_mul (by omega) hp
  have e0 : (b : Int) * 2 ^ (8 * (r : Int)).toNat = ((b * 256 ^ r : Nat) : Int) := by rw [pow256, Int.natCast_mul]
  rw [e0, IntWalk.u32_in _ (by omega)]
  unfold bits
  have h1 : BitVec.ofInt IntKind.u32.bits ((d : Nat) : Int) = BitVec.ofNat 32 d := BitVec.ofInt_natCast _ _
  have h2 : BitVec.ofInt IntKind.u32.bits ((b * 256 ^ r : Nat) : Int) = BitVec.ofNat 32 (b * 256 ^ r) := BitVec.ofInt_natCast _ _
  have h256 : (256 : Nat) ^ r = 2 ^ (8 * r) := by rw [show (256 : Nat) = 2 ^ 8 from rfl, ← Nat.pow_mul]
  have h3 : d ||| (b * 256 ^ r) = d + b * 256 ^ r := by
    rw [Nat.or_comm, h256, ← Nat.shiftLeft_eq, ← Nat.shiftLeft_add_eq_or_of_lt (by rw [← h256]; exact hd), Nat.add_comm]
  simp only [h1, h2]
  show IntKind.u32.wrap ((BitVec.ofNat 32 d ||| BitVec.ofNat 32 (b * 256 ^ r)).toNat : Int) = _
  rw [BitVec.toNat_or, BitVec.toNat_ofNat, BitVec.toNat_ofNat, Nat.mod_eq_of_lt (by omega), Nat.mod_eq_of_lt (by omega), h3, IntWalk.u32_in _ (by omega)]
theorem mag_get (a i : Nat) (h : i < (mag a).size) : (mag a)[(((mag a).size : Int) - 1 - (i : Int)).toNat]? = some (UInt8.ofNat (a / 256 ^ i % 256)) := by
  have e : (((mag a).size : Int) - 1 - (i : Int)).toNat = (mag a).size - 1 - i := by omega
  rw [e]
  have hl : (le a).length = (mag a).size := (size_mag a).symm
  have h1 : (mag a)[(mag a).size - 1 - i]? = (le a).reverse[(mag a).size - 1 - i]? := by
    have h2 : ∀ j, (mag a)[j]? = (mag a).data[j]? := fun j => by
      by_cases hj : j < (mag a).size
      · rw [getElem?_pos (mag a) j hj]
        exact (Array.getElem?_eq_getElem (xs := (mag a).data) hj).symm
      · rw [getElem?_neg (mag a) j hj]
        exact (Array.getElem?_eq_none (xs := (mag a).data) (Nat.le_of_not_lt hj)).symm
    rw [h2]
    simp [mag]
  rw [h1, List.getElem?_reverse (by omega), hl, show (mag a).size - 1 - ((mag a).size - 1 - i) = i by omega, le_get _ _ (by omega)]
/-- One byte more. -/
theorem digits_step {a i m : Nat} {ds : List Nat} (hi : i < (le a).length) (hm : i / 4 < m) (hlen : ds.length = m) (hD : Dg ds) (hv : vd ds = vle ((le a).take i)) :
    ∃ h : i / 4 < ds.length, ds[i / 4] < 256 ^ (i % 4) ∧ (ds.set (i / 4) (ds[i / 4] + (a / 256 ^ i % 256) * 256 ^ (i % 4))).length = m ∧ Dg (ds.set (i / 4) (ds[i / 4] + (a / 256 ^ i % 256) * 256 ^ (i % 4))) ∧
      vd (ds.set (i / 4) (ds[i / 4] + (a / 256 ^ i % 256) * 256 ^ (i % 4))) = vle ((le a).take (i + 1)) := by
  have hlt : i / 4 < ds.length := by omega
  have hvi : vle ((le a).take i) < 256 ^ i := by
    have := vle_lt ((le a).take i)
    rwa [List.length_take, Nat.min_eq_left (by omega)] at this
  have h1 := vd_get_le ds (i / 4) hlt
  have hd : ds[i / 4] < 256 ^ (i % 4) := by
    rcases Nat.lt_or_ge ds[i / 4] (256 ^ (i % 4)) with h | h
    · exact h
    · have h2 : 256 ^ (i % 4) * 4294967296 ^ (i / 4) ≤ ds[i / 4] * 4294967296 ^ (i / 4) := Nat.mul_le_mul_right _ h
      rw [Nat.mul_comm (256 ^ (i % 4)), ← pow_dig] at h2
      omega
  have hb : a / 256 ^ i % 256 < 256 := Nat.mod_lt _ (by omega)
  have hp : (256 : Nat) ^ (i % 4) ≤ 16777216 := by
    have h3 : (256 : Nat) ^ (i % 4) ≤ 256 ^ 3 := Nat.pow_le_pow_right (by omega) (by omega)
    have h4 : (256 : Nat) ^ 3 = 16777216 := by decide
    omega
  have hbr : (a / 256 ^ i % 256) * 256 ^ (i % 4) ≤ 255 * 16777216 := Nat.mul_le_mul (by omega) hp
  refine ⟨hlt, hd, by rw [List.length_set]; exact hlen, dg_set hD _ _ (by omega), ?_⟩
  have hs := vd_set ds (i / 4) (ds[i / 4] + (a / 256 ^ i % 256) * 256 ^ (i % 4)) hlt
  rw [Nat.add_mul, Nat.mul_assoc, Nat.mul_comm (256 ^ (i % 4)), ← pow_dig] at hs
  have ht : vle ((le a).take (i + 1)) = vle ((le a).take i) + 256 ^ i * (a / 256 ^ i % 256) := by
    rw [List.take_succ_eq_append_getElem hi, vle_append, List.length_take, Nat.min_eq_left (by omega)]
    have hg := le_get i a hi
    rw [List.getElem?_eq_getElem hi] at hg
    simp only [Option.some.injEq] at hg
    rw [hg]
    simp [vle]
  rw [ht, ← hv, Nat.mul_comm (256 ^ i)]
  omega
theorem digits_spec (a : Nat) (ha : (mag a).size ≤ 1099511627776) (w : World) : Calls Tryz.prog 118 [.string (mag a)].toArray w (RetB (fun b => .slice (some ⟨b, 0, none⟩) (((mag a).size + 3) / 4) (((mag a).size + 3) / 4)) (dig .u32 (dgs a (((mag a).size + 3) / 4))) 206 w) := by
  obtain ⟨N, hN⟩ : ∃ N, N = (mag a).size := ⟨_, rfl⟩
  obtain ⟨m, hm⟩ : ∃ m, m = (N + 3) / 4 := ⟨_, rfl⟩
  have hle : (le a).length = N := by rw [hN, size_mag]
  rw [← hN, ← hm]
  refine fn_intro Tryz.func118 rfl Tryz.ntmps118 rfl ?_
  repeat (refine wkA ?_; try intro _)
  have e : ((N : Int) + 3) / 4 = (m : Int) := by omega
  simp only [← hN]
  simp only [e]
  refine wo_makeD (k := .u32) (B := 4) (m := m) rfl rfl ⟨by omega, by omega⟩ rfl rfl ?_
  intro b
  repeat (refine wkA ?_; try intro _)
  simp only [← hN]
  refine j_loop (S := Nat × List Nat) (fun s => s.1 ≤ N ∧ s.2.length = m ∧ Dg s.2 ∧ vd s.2 = vle ((le a).take s.1)) (fun s => [(0, .string (mag a)), (3, .slice (some ⟨b, 0, none⟩) m m), (12, .int .i64 N), (13, .int .i64 s.1)]) (fun s => [⟨b, dig .u32 s.2, 206⟩]) (fun s => N - s.1) (0, List.replicate m 0)
    ⟨Nat.zero_le _, by simp, dg_zero m, by simp [vd_zero, vle]⟩ (by repeat (first | exact sub_nil | refine sub_cons rfl ?_)) (List.Sublist.refl _) (fun s hs => ?_)
  obtain ⟨i, ds⟩ := s
  obtain ⟨hi, hlen, hD, hv⟩ := hs
  simp only at hi hlen hD hv ⊢
  repeat (refine wkA ?_; try intro _)
  refine j_cond rfl (fun h => ?_) (fun h => ?_)
  · have hlt : i < N := by have := of_decide_eq_true h; omega
    obtain ⟨h4, hd, h5, h6, h7⟩ := digits_step (m := m) (by omega) (by omega) hlen hD hv
    have hb : a / 256 ^ i % 256 < 256 := Nat.mod_lt _ (by omega)
    have hu : ((UInt8.ofNat (a / 256 ^ i % 256)).toNat : Int) = ((a / 256 ^ i % 256 : Nat) : Int) := by rw [toNat_ofNat]
    repeat (refine wkA ?_; try intro _)
    simp only [← hN]
    repeat (refine wkA ?_; try intro _)
    refine jD 14 14 (h := ?_)
    (repeat (refine wkH ?_))
    refine hq (wl_loadD rfl (show ds[0 + ((i : Int) / 4).toNat * 1]? = some ds[i / 4] by rw [show 0 + ((i : Int) / 4).toNat * 1 = i / 4 by omega]; simp [h4])) rfl rfl ?_
    (repeat (refine wkH ?_))
    have hg : (mag a)[((N : Int) - 1 - (i : Int)).toNat]? = some (UInt8.ofNat (a / 256 ^ i % 256)) := by
      have := mag_get a i (by omega)
      rwa [← hN] at this
    refine hq (wl_index_str rfl rfl (by omega) hg) rfl rfl ?_
    (repeat (refine wkH ?_))
    refine hq (wl_shl rfl rfl (by simp only [IntKind.bits]; omega)) rfl rfl ?_
    refine hq (wl_or rfl rfl) rfl rfl ?_
    refine jh_nil (jn_nil ?_)
    have eo := or_shift ds[i / 4] (a / 256 ^ i % 256) (i % 4) hd hb (by omega)
    rw [← hu] at eo
    have ei : ((i % 4 : Nat) : Int) = (i : Int) % 4 := by omega
    rw [ei] at eo
    rw [eo]
    repeat (refine wkA ?_; try intro _)
    refine wo_storeD rfl rfl (by omega) rfl ?_
    rw [show 0 + ((i : Int) / 4).toNat * 1 = i / 4 by omega]
    repeat (refine wkA ?_; try intro _)
    exact jx_loop (i + 1, _) ⟨hlt, h5, h6, h7⟩ (by repeat (first | exact sub_nil | refine sub_cons rfl ?_)) (List.Sublist.refl _) (by simp only; omega)
  · have hge : i = N := by have := of_decide_eq_false h; omega
    subst hge
    repeat (refine wkA ?_; try intro _)
    have hfin : ds = dgs a m := dgs_of hD hlen (by rw [hv, List.take_of_length_le (Nat.le_of_eq hle), vle_le])
    subst hfin
    exact jx_ret_tmp rfl rfl (fun w hw => retB_ok hw)
end Go.Vt
/- Digits to the base 2^32 as magnitudes: 'trim' and 'bytes'. Conditions: the lengths that each statement names. -/
set_option linter.unusedSimpArgs false
set_option linter.unusedVariables false
set_option maxHeartbeats 2000000
set_option maxRecDepth 100000
namespace Go.Vt
open Go.RowKit Go.Proofs
theorem take_pred (ds : List Nat) (l : Nat) (h : 0 < l) (hl : l ≤ ds.length) : ds.take l = ds.take (l - 1) ++ [ds[l - 1]] := by
  have := List.take_succ_eq_append_getElem (l := ds) (i := l - 1) (by omega)
  rwa [show l - 1 + 1 = l by omega] at this
theorem trim_spec (b l c : Nat) (ds : List Nat) (fz : Nat × Nat) (hl : l ≤ ds.length) (hc : l ≤ c) (hc2 : c ≤ 1099511627776) (w : World) (hw : w.heap[b]? = some (.cells (dig .u32 ds) 206 fz)) :
    Calls Tryz.prog 149 [.slice (some ⟨b, 0, none⟩) l c].toArray w (Ret (.slice (some ⟨b, 0, none⟩) (tl (ds.take l)) c) w) := by
  refine fn_intro Tryz.func149 rfl Tryz.ntmps149 rfl ?_
  repeat (refine wkA ?_; try intro _)
  refine j_loop (S := Nat) (fun m => m ≤ l ∧ tl (ds.take m) = tl (ds.take l)) (fun m => [(0, .slice (some ⟨b, 0, none⟩) m c)]) (fun _ => []) (fun m => m) l ⟨Nat.le_refl _, rfl⟩ (by repeat (first | exact sub_nil | refine sub_cons rfl ?_)) (List.Sublist.refl _) (fun m hm => ?_)
  obtain ⟨hm1, hm2⟩ := hm
  rcases Nat.eq_zero_or_pos m with h0 | h0
  · subst h0
    repeat (refine wkA ?_; try intro _)
    rw [← hm2]
    exact jx_ret_tmp rfl rfl (fun w hw => ret_ok hw)
  · have hd : decide ((0 : Int) < (m : Int)) = true := by simp; omega
    have hlt : m - 1 < ds.length := by omega
    have htk := take_pred ds m h0 (by omega)
    repeat (refine wkA ?_; try intro _)
    simp only [hd]
    repeat (refine wkA ?_; try intro _)
    refine jq (wl_loadDF rfl hw (show ds[0 + ((m : Int) - 1).toNat * 1]? = some ds[m - 1] by rw [show 0 + ((m : Int) - 1).toNat * 1 = m - 1 by omega]; simp [hlt])) rfl rfl ?_
    repeat (refine wkA ?_; try intro _)
    refine j_cond rfl (fun h => ?_) (fun h => ?_)
    · have hz : ds[m - 1] = 0 := by have := of_decide_eq_true h; omega
      repeat (refine wkA ?_; try intro _)
      refine jq (wl_slice_hi rfl rfl (by omega)) rfl rfl ?_
      rw [show ((m : Int) - 1).toNat = m - 1 by omega]
      repeat (refine wkA ?_; try intro _)
      refine jx_loop (m - 1) ⟨by omega, ?_⟩ (by repeat (first | exact sub_nil | refine sub_cons rfl ?_)) (List.Sublist.refl _) (by omega)
      rw [← hm2, htk, tl_snoc, if_pos hz]
    · have hz : ¬ ds[m - 1] = 0 := by have := of_decide_eq_false h; omega
      repeat (refine wkA ?_; try intro _)
      have e : tl (ds.take l) = m := by rw [← hm2, htk, tl_snoc, if_neg hz, List.length_take]; omega
      rw [e]
      exact jx_ret_tmp rfl rfl (fun w hw => ret_ok hw)
def bytesR (M V q : Nat) : List Nat := (List.range M).map fun j => if M - q ≤ j then V / 256 ^ (M - 1 - j) % 256 else 0
theorem bytesR_len (M V q : Nat) : (bytesR M V q).length = M := by simp [bytesR]
theorem bytesR_get (M V q j : Nat) (h : j < M) : (bytesR M V q)[j]? = some (if M - q ≤ j then V / 256 ^ (M - 1 - j) % 256 else 0) := by simp [bytesR, h]
theorem bytesR_zero (M V : Nat) : bytesR M V 0 = List.replicate M 0 := by
  apply List.ext_getElem?
  intro j
  by_cases h : j < M
  · rw [bytesR_get _ _ _ _ h, if_neg (by omega)]; simp [h]
  · rw [List.getElem?_eq_none (by rw [bytesR_len]; omega), List.getElem?_eq_none (by simp; omega)]
theorem bytesR_step (M V q : Nat) (h : q < M) : (bytesR M V q).set (M - 1 - q) (V / 256 ^ q % 256) = bytesR M V (q + 1) := by
  apply List.ext_getElem?
  intro j
  by_cases hj : j < M
  · rw [List.getElem?_set, bytesR_get _ _ _ _ hj]
    by_cases he : M - 1 - q = j
    · subst he
      rw [if_pos rfl, if_pos (by rw [bytesR_len]; omega), bytesR_get _ _ _ _ hj, if_pos (by omega), show M - 1 - (M - 1 - q) = q by omega]
    · rw [if_neg he, bytesR_get _ _ _ _ hj]
      congr 1
      by_cases h1 : M - q ≤ j
      · rw [if_pos h1, if_pos (by omega)]
      · rw [if_neg h1, if_neg (by omega)]
  · rw [List.getElem?_eq_none (by rw [List.length_set, bytesR_len]; omega), List.getElem?_eq_none (by rw [bytesR_len]; omega)]
/-- The bytes of a number, padded, the lowest one first. -/
def bgs : Nat → Nat → List UInt8
  | _, 0 => []
  | a, m + 1 => UInt8.ofNat (a % 256) :: bgs (a / 256) m
theorem bgs_len : ∀ (m a : Nat), (bgs a m).length = m
  | 0, _ => rfl
  | m + 1, a => by simp [bgs, bgs_len m]
theorem vle_bgs : ∀ (m a : Nat), vle (bgs a m) = a % 256 ^ m
  | 0, a => by simp [bgs, vle, Nat.mod_one]
  | m + 1, a => by
    rw [bgs, vle, vle_bgs m, Nat.pow_succ, Nat.mul_comm (256 ^ m), Nat.mod_mul, toNat_ofNat]
theorem bgs_get : ∀ (m a i : Nat), i < m → (bgs a m)[i]? = some (UInt8.ofNat (a / 256 ^ i % 256))
  | 0, _, i, h => by omega
  | m + 1, a, 0, _ => by simp [bgs]
  | m + 1, a, i + 1, h => by
    simp only [bgs, List.getElem?_cons_succ]
    rw [bgs_get m _ i (by omega), Nat.div_div_eq_div_mul, Nat.pow_succ, Nat.mul_comm]
theorem bytes_row (M V i : Nat) (u : UInt8) (hu : (bgs V M).reverse[i]? = some u) : (dig .u8 (bytesR M V M))[0 + i]? = some (.int .u8 u.toNat) := by
  have hi : i < M := by
    rcases Nat.lt_or_ge i M with h1 | h1
    · exact h1
    · rw [List.getElem?_eq_none (by rw [List.length_reverse, bgs_len]; exact h1)] at hu; cases hu
  rw [Nat.zero_add, dig_get, bytesR_get _ _ _ _ hi, if_pos (by omega)]
  rw [List.getElem?_reverse (by rw [bgs_len]; exact hi), bgs_len, bgs_get _ _ _ (by omega)] at hu
  simp only [Option.some.injEq] at hu
  subst hu
  simp
theorem vd_digit (ds : List Nat) (hD : Dg ds) (i : Nat) (h : i < ds.length) : vd ds / 4294967296 ^ i % 4294967296 = ds[i] := by
  rw [vd_split ds i (by omega), List.drop_eq_getElem_cons h, vd]
  have h1 := vd_lt (dg_take hD i)
  rw [List.length_take, Nat.min_eq_left (by omega)] at h1
  have h2 := dg_get hD h
  have h3 : 0 < 4294967296 ^ i := Nat.pow_pos (by omega)
  rw [Nat.add_mul_div_left _ _ h3, Nat.div_eq_of_lt h1]
  omega
theorem byte_of_digit (ds : List Nat) (hD : Dg ds) (i k : Nat) (h : i < ds.length) (hk : k < 4) : ds[i] / 256 ^ k % 256 = vd ds / 256 ^ (4 * i + k) % 256 := by
  rw [← vd_digit ds hD i h, Nat.pow_add, ← pow_dig4, ← Nat.div_div_eq_div_mul]
  generalize vd ds / 4294967296 ^ i = x
  have hk' : k = 0 ∨ k = 1 ∨ k = 2 ∨ k = 3 := by omega
  rcases hk' with rfl | rfl | rfl | rfl
  · simp only [Nat.pow_zero, Nat.div_one]; omega
  · simp only [Nat.pow_one]; omega
  · rw [show (256 : Nat) ^ 2 = 65536 by decide]; omega
  · rw [show (256 : Nat) ^ 3 = 16777216 by decide]; omega
theorem byte8 (x k : Nat) : IntKind.u8.wrap ((x : Int) / 2 ^ (8 * (k : Int)).toNat) = ((x / 256 ^ k % 256 : Nat) : Int) := byte_at x k
theorem bytes_spec (b l c : Nat) (ds : List Nat) (fz : Nat × Nat) (hl : l ≤ ds.length) (hc : l ≤ c) (hc2 : c ≤ 1099511627776) (hD : Dg ds) (w : World) (hw : w.heap[b]? = some (.cells (dig .u32 ds) 206 fz)) :
    Calls Tryz.prog 119 [.slice (some ⟨b, 0, none⟩) l c].toArray w (Ret (.string (mag (vd (ds.take l)))) w) := by
  obtain ⟨n, hn⟩ : ∃ n, n = tl (ds.take l) := ⟨_, rfl⟩
  have hnl : n ≤ l := by have := tl_le (ds.take l); rw [List.length_take] at this; omega
  have htk : (ds.take l).take n = ds.take n := by rw [List.take_take, Nat.min_eq_left hnl]
  have hV : vd (ds.take l) = vd (ds.take n) := by rw [← htk, hn, vd_tl]
  have hDn := dg_take hD n
  have hln : (ds.take n).length = n := by rw [List.length_take]; omega
  rw [hV]
  obtain ⟨V, hVd⟩ : ∃ V, V = vd (ds.take n) := ⟨_, rfl⟩
  have hVlt : V < 256 ^ (4 * n) := by
    have := vd_lt hDn
    rw [hln, pow_dig4, ← hVd] at this
    exact this
  rw [← hVd]
  refine fn_intro Tryz.func119 rfl Tryz.ntmps119 rfl ?_
  repeat (refine wkA ?_; try intro _)
  refine jq (wl_callW rfl (fun w' hw' => trim_spec b l c ds fz hl hc hc2 w' (by rw [hw'.ext.block b (lt_of_block hw)]; exact hw))) rfl rfl ?_
  rw [← hn]
  repeat (refine wkA ?_; try intro _)
  refine j_cond rfl (fun h => ?_) (fun h => ?_)
  · have h0 : n = 0 := by have := of_decide_eq_true h; omega
    subst h0
    have : V = 0 := by rw [hVd]; rfl
    subst this
    repeat (refine wkA ?_; try intro _)
    exact jx_ret_tmp rfl rfl (fun w hw => ret_ok hw)
  · have h0 : 0 < n := by have := of_decide_eq_false h; omega
    repeat (refine wkA ?_; try intro _)
    refine wo_makeD (k := .u8) (B := 1) (m := 4 * n) rfl rfl ⟨by omega, by omega⟩ rfl rfl ?_
    intro bb
    repeat (refine wkA ?_; try intro _)
    refine j_loop (S := Nat) (fun i => i ≤ n) (fun i => [(0, .slice (some ⟨b, 0, none⟩) n c), (16, .slice (some ⟨b, 0, none⟩) n c), (3, .slice (some ⟨bb, 0, none⟩) (4 * n) (4 * n)), (17, .int .i64 n), (18, .int .i64 i)]) (fun i => [⟨bb, dig .u8 (bytesR (4 * n) V (4 * i)), 5⟩]) (fun i => n - i) 0 (Nat.zero_le _)
      (by repeat (first | exact sub_nil | refine sub_cons rfl ?_)) (by rw [Nat.mul_zero, bytesR_zero]; exact List.Sublist.refl _) (fun i hi => ?_)
    repeat (refine wkA ?_; try intro _)
    refine j_cond rfl (fun h => ?_) (fun h => ?_)
    · have hlt : i < n := by have := of_decide_eq_true h; omega
      have hid : i < ds.length := by omega
      have hget : (ds.take n)[i]'(by omega) = ds[i] := List.getElem_take
      have hdlt := dg_get hD hid
      repeat (refine wkA ?_; try intro _)
      refine jq (wl_loadDF rfl hw (show ds[0 + (i : Int).toNat * 1]? = some ds[i] by rw [show 0 + (i : Int).toNat * 1 = i by omega]; simp [hid])) rfl rfl ?_
      repeat (refine wkA ?_; try intro _)
      refine j_loop (S := Nat) (fun k => k ≤ 4) (fun k => [(0, .slice (some ⟨b, 0, none⟩) n c), (16, .slice (some ⟨b, 0, none⟩) n c), (3, .slice (some ⟨bb, 0, none⟩) (4 * n) (4 * n)), (17, .int .i64 n), (18, .int .i64 i), (4, .int .i64 i), (5, .int .u32 (ds[i] : Nat)), (23, .int .i64 k)]) (fun k => [⟨bb, dig .u8 (bytesR (4 * n) V (4 * i + k)), 5⟩]) (fun k => 4 - k) 0 (Nat.zero_le _)
        (by repeat (first | exact sub_nil | refine sub_cons rfl ?_)) (List.Sublist.refl _) (fun k hk => ?_)
      repeat (refine wkA ?_; try intro _)
      refine j_cond rfl (fun h => ?_) (fun h => ?_)
      · have hk4 : k < 4 := by have := of_decide_eq_true h; omega
        have hby : ds[i] / 256 ^ k % 256 = V / 256 ^ (4 * i + k) % 256 := by
          rw [← hget, byte_of_digit (ds.take n) hDn i k (by omega) hk4, hVd]
        repeat (refine wkA ?_; try intro _)
        refine jq (wl_shr rfl rfl (by simp only [IntKind.bits]; omega)) rfl rfl ?_
        repeat (refine wkA ?_; try intro _)
        rw [byte8, hby]
        refine wo_storeD rfl rfl (by rw [bytesR_len]; omega) rfl ?_
        rw [show 0 + (((4 * n : Nat) : Int) - 1 - 4 * (i : Int) - (k : Int)).toNat * 1 = 4 * n - 1 - (4 * i + k) by omega, bytesR_step _ _ _ (by omega)]
        repeat (refine wkA ?_; try intro _)
        exact jx_loop (k + 1) hk4 (by repeat (first | exact sub_nil | refine sub_cons rfl ?_)) (List.Sublist.refl _) (by omega)
      · have hk4 : k = 4 := by have := of_decide_eq_false h; omega
        subst hk4
        repeat (refine wkA ?_; try intro _)
        exact jx_loop (i + 1) hlt (by repeat (first | exact sub_nil | refine sub_cons rfl ?_)) (List.Sublist.refl _) (by omega)
    · have hge : i = n := by have := of_decide_eq_false h; omega
      subst hge
      repeat (refine wkA ?_; try intro _)
      refine jq (wl_str_bytes (bs := (bgs V (4 * i)).reverse) rfl (by rw [List.length_reverse, bgs_len]) (bytes_row (4 * i) V)) rfl rfl ?_
      refine jq (wl_callW rfl (fun w' _ => (Tryz.strings_TrimLeft_one _ 0 (by decide) w').mono fun e w2 ⟨h1, h2⟩ => (show Ret _ _ _ _ from ⟨h1, by subst h2; exact Ext.refl _⟩))) rfl rfl ?_
      have hfin : mag V = ⟨(Lib.trimLeftB (bgs V (4 * i)).reverse 0).toArray⟩ := by
        rw [← mag_trim, List.reverse_reverse, vle_bgs, Nat.mod_eq_of_lt hVlt]
      rw [hfin]
      repeat (refine wkA ?_; try intro _)
      exact jx_ret_tmp rfl rfl (fun w hw => ret_ok hw)
end Go.Vt
/- The sum and the difference of two magnitudes. Conditions: the lengths that each statement names. -/
set_option linter.unusedSimpArgs false
set_option linter.unusedVariables false
set_option maxHeartbeats 2000000
set_option maxRecDepth 100000
namespace Go.Vt
open Go.RowKit Go.Proofs
theorem p32 : (2 : Int) ^ (32 : Int).toNat = 4294967296 := by decide
instance ext_add64 (x y : Nat) : ExtC Tryz.prog 144 [.int .u64 x, .int .u64 y, .int .u64 0] (.tuple #[.int .u64 (((x + y) % 18446744073709551616 : Nat) : Int), .int .u64 (((x + y) / 18446744073709551616 : Nat) : Int)]) (x < 18446744073709551616 ∧ y < 18446744073709551616) := ⟨fun h w => by
  have := run_add64 (P := Tryz.prog) x y 0 (by omega) (by omega) (by omega) (by omega) w
  show (callFunc _ #[.int .u64 x, .int .u64 y, .int .u64 0]).run Tryz.prog w = _
  rw [run_callFunc_extern Tryz.func144 (by kernel_rfl) (by kernel_rfl) (by kernel_rfl) (e := add64Entry) (by kernel_rfl), this]
  simp only [Result.andThen, Int.add_zero]
  rfl⟩
/-- One digit of a sum. -/
theorem add_step {os ys : List Nat} {i c S y : Nat} (hi : i < os.length) (hD : Dg os) (hc : c ≤ 1) (hy : y < 4294967296) (hS : vd os + c * 4294967296 ^ i + vd (ys.drop i) * 4294967296 ^ i = S) (hdr : vd (ys.drop i) = y + 4294967296 * vd (ys.drop (i + 1))) :
    (c + os[i] + y) / 4294967296 ≤ 1 ∧ Dg (os.set i ((c + os[i] + y) % 4294967296)) ∧
      vd (os.set i ((c + os[i] + y) % 4294967296)) + (c + os[i] + y) / 4294967296 * 4294967296 ^ (i + 1) + vd (ys.drop (i + 1)) * 4294967296 ^ (i + 1) = S := by
  have h1 := dg_get hD hi
  refine ⟨by omega, dg_set hD _ _ (Nat.mod_lt _ (by omega)), ?_⟩
  have hs := vd_set os i ((c + os[i] + y) % 4294967296) hi
  have hb := Nat.div_add_mod (c + os[i] + y) 4294967296
  generalize (c + os[i] + y) / 4294967296 = q at *
  generalize (c + os[i] + y) % 4294967296 = r at *
  rw [hdr] at hS
  rw [show (4294967296 : Nat) ^ (i + 1) = 4294967296 ^ i * 4294967296 from Nat.pow_succ _ _]
  generalize (4294967296 : Nat) ^ i = p at *
  have e : (4294967296 * q + r) * p = (c + os[i] + y) * p := by rw [hb]
  rw [Nat.add_mul, Nat.add_mul, Nat.add_mul, Nat.mul_assoc] at e
  rw [Nat.add_mul, Nat.mul_assoc] at hS
  have e1 : q * (p * 4294967296) = 4294967296 * (q * p) := by rw [Nat.mul_comm p, ← Nat.mul_assoc, Nat.mul_comm q, Nat.mul_assoc]
  have e2 : vd (ys.drop (i + 1)) * (p * 4294967296) = 4294967296 * (vd (ys.drop (i + 1)) * p) := by rw [Nat.mul_comm p, ← Nat.mul_assoc, Nat.mul_comm (vd _) 4294967296, Nat.mul_assoc]
  rw [e1, e2]
  omega
theorem digits_val (a : Nat) : vd (dgs a (((mag a).size + 3) / 4)) = a := by
  rw [vd_dgs, Nat.mod_eq_of_lt]
  rw [pow_dig4]
  have h1 : a < 256 ^ (mag a).size := mag_size.1 (Nat.le_refl _)
  exact Nat.lt_of_lt_of_le h1 (Nat.pow_le_pow_right (by omega) (by omega))
theorem vd_drop (ys : List Nat) (i : Nat) (h : i < ys.length) : vd (ys.drop i) = ys[i] + 4294967296 * vd (ys.drop (i + 1)) := by
  rw [List.drop_eq_getElem_cons h, vd]
theorem vd_drop_end (ys : List Nat) (i : Nat) (h : ys.length ≤ i) : vd (ys.drop i) = 0 := by
  rw [List.drop_eq_nil_of_le h]; rfl
theorem add_spec (a b : Nat) (ha : (mag a).size ≤ 1099511627776) (hb : (mag b).size ≤ 1099511627776) (w : World) : Calls Tryz.prog 112 [.string (mag a), .string (mag b)].toArray w (Ret (.string (mag (a + b))) w) := by
  refine fn_intro Tryz.func112 rfl Tryz.ntmps112 rfl ?_
  refine j_seq (j_region ?_)
  repeat (first | refine sX rfl rfl ?_ | (refine sS rfl rfl ?_ ?_; focus omega) | (refine sC rfl rfl ?_ ?_; focus (first | exact trivial | assumption | constructor <;> assumption | exact mb2 rfl rfl | exact mb4 rfl rfl rfl rfl)) | (refine sA rfl rfl ?_; intro _) | refine sT rfl ?_ | refine sW rfl rfl ?_ | refine sK rfl rfl ?_ | refine cY ?_ | refine pkT rfl rfl rfl rfl ?_ | refine pkF rfl rfl rfl rfl ?_)
  refine j_mid (S := Unit) (fun _ => True) (fun _ => [(0, .string (mag a)), (1, .string (mag b))]) (fun _ => []) ?_ (fun _ _ => ?_)
  · repeat (refine wkA ?_; try intro _)
    refine j_cond rfl (fun h => ?_) (fun h => ?_)
    · rw [Bool.and_eq_true] at h
      have h1 := lo_sm h.1
      have h2 := lo_sm h.2
      have h3 := lo_lt a
      have h4 := lo_lt b
      rw [h1] at h3
      rw [h2] at h4
      simp only [h1, h2]
      repeat (first | (refine wkA ?_; try intro _) | (refine sC rfl rfl ?_ ?_; focus (exact ⟨h3, h4⟩)))
      refine j_cond rfl (fun h => ?_) (fun h => ?_)
      · have h5 := of_decide_eq_true h
        have h6 : (a + b) % 18446744073709551616 = a + b := by omega
        simp only [h6]
        repeat (first | (refine wkA ?_; try intro _) | (refine sC rfl rfl ?_ ?_; focus (omega)))
        exact jx_ret_tmp rfl rfl (fun w hw => ret_ok hw)
      · repeat (refine wkA ?_; try intro _)
        exact jx_mid () trivial (by repeat (first | exact sub_nil | refine sub_cons rfl ?_)) (List.Sublist.refl _)
    · repeat (refine wkA ?_; try intro _)
      exact jx_mid () trivial (by repeat (first | exact sub_nil | refine sub_cons rfl ?_)) (List.Sublist.refl _)
  · repeat (refine wkA ?_; try intro _)
    refine wo_callB rfl (fun w' _ => digits_spec a ha w') rfl rfl ?_
    intro b1
    repeat (refine wkA ?_; try intro _)
    refine wo_callB rfl (fun w' _ => digits_spec b hb w') rfl rfl ?_
    intro b2
    repeat (refine wkA ?_; try intro _)
    obtain ⟨na, hna⟩ : ∃ na, na = ((mag a).size + 3) / 4 := ⟨_, rfl⟩
    obtain ⟨nb, hnb⟩ : ∃ nb, nb = ((mag b).size + 3) / 4 := ⟨_, rfl⟩
    have hva : vd (dgs a na) = a := by rw [hna, digits_val]
    have hvb : vd (dgs b nb) = b := by rw [hnb, digits_val]
    have hla := dgs_len na a
    have hlb := dgs_len nb b
    have hDa := dgs_dg na a
    have hDb := dgs_dg nb b
    simp only [← hna, ← hnb]
    generalize dgs a na = xa at *
    generalize dgs b nb = xb at *
    refine j_cut (S := Nat × List Nat × Nat × List Nat) (fun s => vd s.2.1 + vd s.2.2.2 = a + b ∧ s.2.2.2.length ≤ s.2.1.length ∧ Dg s.2.1 ∧ Dg s.2.2.2 ∧ s.2.1.length ≤ 549755813888) (fun s => [(10, .slice (some ⟨s.1, 0, none⟩) s.2.1.length s.2.1.length), (11, .slice (some ⟨s.2.2.1, 0, none⟩) s.2.2.2.length s.2.2.2.length)]) (fun s => [⟨s.2.2.1, dig .u32 s.2.2.2, 206⟩, ⟨s.1, dig .u32 s.2.1, 206⟩]) ?_ (fun s hs => ?_)
    · refine j_cond rfl (fun h => ?_) (fun h => ?_)
      · have h1 := of_decide_eq_true h
        repeat (refine wkA ?_; try intro _)
        exact jx_perm (List.Perm.swap _ _ _) (jx_mid (b2, xb, b1, xa) ⟨by simp only; omega, by simp only; omega, hDb, hDa, by simp only; omega⟩ (by rw [← hla, ← hlb]; repeat (first | exact sub_nil | refine sub_cons rfl ?_)) (List.Sublist.refl _))
      · have h1 := of_decide_eq_false h
        repeat (refine wkA ?_; try intro _)
        exact jx_mid (b1, xa, b2, xb) ⟨by simp only; omega, by simp only; omega, hDa, hDb, by simp only; omega⟩ (by rw [← hla, ← hlb]; repeat (first | exact sub_nil | refine sub_cons rfl ?_)) (List.Sublist.refl _)
    · obtain ⟨bx, xs, bY, ys⟩ := s
      obtain ⟨hS, hle, hDx, hDy, hlim⟩ := hs
      simp only at hS hle hDx hDy hlim ⊢
      repeat (refine wkA ?_; try intro _)
      refine wo_makeD (k := .u32) (B := 4) (m := xs.length + 1) rfl rfl ⟨by omega, by omega⟩ rfl rfl ?_
      intro bo
      repeat (refine wkA ?_; try intro _)
      refine wo_copyD (k := .u32) rfl rfl (by simp) (Nat.le_refl _) rfl rfl ?_
      have e1 : xs.take (min xs.length (xs.length + 1)) ++ (List.replicate (xs.length + 1) 0).drop (min xs.length (xs.length + 1)) = xs ++ [0] := by
        rw [Nat.min_eq_left (by omega), List.take_of_length_le (Nat.le_refl _), List.drop_replicate, show xs.length + 1 - xs.length = 1 by omega]
        rfl
      simp only [e1]
      have hvo : vd (xs ++ [0]) = vd xs := by rw [vd_append]; simp [vd]
      repeat (refine wkA ?_; try intro _)
      refine j_loop (S := Nat × List Nat × Nat) (fun s => s.1 ≤ xs.length + 1 ∧ s.2.1.length = xs.length + 1 ∧ Dg s.2.1 ∧ s.2.2 ≤ 1 ∧ vd s.2.1 + s.2.2 * 4294967296 ^ s.1 + vd (ys.drop s.1) * 4294967296 ^ s.1 = a + b)
        (fun s => [(11, .slice (some ⟨bY, 0, none⟩) ys.length ys.length), (12, .slice (some ⟨bo, 0, none⟩) (xs.length + 1) (xs.length + 1)), (13, .int .u64 s.2.2), (52, .int .i64 ((xs.length + 1 : Nat) : Int)), (53, .int .i64 s.1)])
        (fun s => [⟨bo, dig .u32 s.2.1, 206⟩, ⟨bY, dig .u32 ys, 206⟩, ⟨bx, dig .u32 xs, 206⟩]) (fun s => xs.length + 1 - s.1) (0, xs ++ [0], 0)
        ⟨by simp, by simp, dg_append hDx (fun d hd => by simp at hd; omega), by simp, by simp [hvo, hS]⟩ (by repeat (first | exact sub_nil | refine sub_cons rfl ?_)) (List.Sublist.refl _) (fun s hs => ?_)
      obtain ⟨i, os, c⟩ := s
      obtain ⟨hi, hlo, hDo, hc, hinv⟩ := hs
      simp only at hi hlo hDo hc hinv ⊢
      repeat (refine wkA ?_; try intro _)
      refine j_cond rfl (fun h => ?_) (fun h => ?_)
      · have hlt : i < xs.length + 1 := by have := of_decide_eq_true h; omega
        have hio : i < os.length := by omega
        have hdo := dg_get hDo hio
        repeat (refine wkA ?_; try intro _)
        refine jq (wl_loadD rfl (show os[0 + (i : Int).toNat * 1]? = some os[i] by rw [show 0 + (i : Int).toNat * 1 = i by omega]; simp [hio])) rfl rfl ?_
        repeat (refine wkA ?_; try intro _)
        refine j_cond rfl (fun h => ?_) (fun h => ?_)
        · have hiy : i < ys.length := by have := of_decide_eq_true h; omega
          have hdy := dg_get hDy hiy
          obtain ⟨g1, g2, g3⟩ := add_step hio hDo hc hdy hinv (vd_drop ys i hiy)
          repeat (refine wkA ?_; try intro _)
          refine jq (wl_loadD rfl (show ys[0 + (i : Int).toNat * 1]? = some ys[i] by rw [show 0 + (i : Int).toNat * 1 = i by omega]; simp [hiy])) rfl rfl ?_
          repeat (refine wkA ?_; try intro _)
          refine jq (wl_shr rfl rfl (by decide)) rfl rfl ?_
          repeat (refine wkA ?_; try intro _)
          rw [p32, IntKind.wrap_u32, show ((c : Int) + (os[i] : Nat) + (ys[i] : Nat)) % 4294967296 = (((c + os[i] + ys[i]) % 4294967296 : Nat) : Int) by omega, show ((c : Int) + (os[i] : Nat) + (ys[i] : Nat)) / 4294967296 = (((c + os[i] + ys[i]) / 4294967296 : Nat) : Int) by omega]
          refine wo_storeD rfl rfl (by omega) rfl ?_
          rw [show 0 + (i : Int).toNat * 1 = i by omega]
          repeat (refine wkA ?_; try intro _)
          exact jx_loop (i + 1, _, _) ⟨hlt, by rw [List.length_set]; exact hlo, g2, g1, g3⟩ (by repeat (first | exact sub_nil | refine sub_cons rfl ?_)) (List.Sublist.refl _) (by simp only; omega)
        · have hiy : ys.length ≤ i := by have := of_decide_eq_false h; omega
          obtain ⟨g1, g2, g3⟩ := add_step (y := 0) hio hDo hc (by omega) hinv (by rw [vd_drop_end ys i hiy, vd_drop_end ys (i + 1) (by omega)])
          simp only [Nat.add_zero] at g1 g2 g3
          repeat (refine wkA ?_; try intro _)
          refine jq (wl_shr rfl rfl (by decide)) rfl rfl ?_
          repeat (refine wkA ?_; try intro _)
          rw [p32, IntKind.wrap_u32, show ((c : Int) + (os[i] : Nat)) % 4294967296 = (((c + os[i]) % 4294967296 : Nat) : Int) by omega, show ((c : Int) + (os[i] : Nat)) / 4294967296 = (((c + os[i]) / 4294967296 : Nat) : Int) by omega]
          refine wo_storeD rfl rfl (by omega) rfl ?_
          rw [show 0 + (i : Int).toNat * 1 = i by omega]
          repeat (refine wkA ?_; try intro _)
          exact jx_loop (i + 1, _, _) ⟨hlt, by rw [List.length_set]; exact hlo, g2, g1, g3⟩ (by repeat (first | exact sub_nil | refine sub_cons rfl ?_)) (List.Sublist.refl _) (by simp only; omega)
      · have hge : i = xs.length + 1 := by have := of_decide_eq_false h; omega
        subst hge
        repeat (refine wkA ?_; try intro _)
        have hfin : vd (os.take (xs.length + 1)) = a + b := by
          rw [List.take_of_length_le (by omega)]
          rw [vd_drop_end ys _ (by omega)] at hinv
          have h1 := vd_lt hDx
          have h2 := vd_lt hDy
          have h3 : 4294967296 ^ ys.length ≤ 4294967296 ^ xs.length := Nat.pow_le_pow_right (by omega) hle
          have h4 : (4294967296 : Nat) ^ (xs.length + 1) = 4294967296 ^ xs.length * 4294967296 := Nat.pow_succ _ _
          have hc' : c = 0 ∨ c = 1 := by omega
          rcases hc' with rfl | rfl
          · omega
          · omega
        refine jq (wl_callW rfl (fun w' hw' => bytes_spec bo (xs.length + 1) (xs.length + 1) os (0, 0) (by omega) (Nat.le_refl _) (by omega) hDo w' (hw'.mem _ MemC.out).2)) rfl rfl ?_
        rw [hfin]
        repeat (refine wkA ?_; try intro _)
        exact jx_ret_tmp rfl rfl (fun w hw => ret_ok hw)
end Go.Vt
/- The difference of two magnitudes, the second one not greater. Conditions: the lengths that each statement names. -/
set_option linter.unusedSimpArgs false
set_option linter.unusedVariables false
set_option maxHeartbeats 2000000
set_option maxRecDepth 100000
namespace Go.Vt
open Go.RowKit Go.Proofs
/-- One digit of a difference. -/
theorem sub_step {os ys : List Nat} {i c r c' a T y : Nat} (hi : i < os.length) (hr : r + c + y = os[i] + c' * 4294967296) (hS : vd os + T = a + vd (ys.drop i) * 4294967296 ^ i + c * 4294967296 ^ i) (hdr : vd (ys.drop i) = y + 4294967296 * vd (ys.drop (i + 1))) :
    vd (os.set i r) + T = a + vd (ys.drop (i + 1)) * 4294967296 ^ (i + 1) + c' * 4294967296 ^ (i + 1) := by
  have hs := vd_set os i r hi
  rw [hdr] at hS
  rw [show (4294967296 : Nat) ^ (i + 1) = 4294967296 ^ i * 4294967296 from Nat.pow_succ _ _]
  generalize (4294967296 : Nat) ^ i = p at *
  have e : (r + c + y) * p = (os[i] + c' * 4294967296) * p := by rw [hr]
  rw [Nat.add_mul, Nat.add_mul, Nat.add_mul, Nat.mul_comm c' 4294967296, Nat.mul_assoc] at e
  rw [Nat.add_mul, Nat.mul_assoc] at hS
  have e1 : c' * (p * 4294967296) = 4294967296 * (c' * p) := by rw [Nat.mul_comm p, ← Nat.mul_assoc, Nat.mul_comm c', Nat.mul_assoc]
  have e2 : vd (ys.drop (i + 1)) * (p * 4294967296) = 4294967296 * (vd (ys.drop (i + 1)) * p) := by rw [Nat.mul_comm p, ← Nat.mul_assoc, Nat.mul_comm (vd _) 4294967296, Nat.mul_assoc]
  rw [e1, e2]
  omega
theorem size_mono {a b : Nat} (h : b ≤ a) : (mag b).size ≤ (mag a).size := by
  rw [mag_size]
  exact Nat.lt_of_le_of_lt h (mag_size.1 (Nat.le_refl _))
theorem sub_spec (a b : Nat) (ha : (mag a).size ≤ 1099511627776) (hba : b ≤ a) (w : World) : Calls Tryz.prog 113 [.string (mag a), .string (mag b)].toArray w (Ret (.string (mag (a - b))) w) := by
  have hb : (mag b).size ≤ 1099511627776 := Nat.le_trans (size_mono hba) ha
  refine fn_intro Tryz.func113 rfl Tryz.ntmps113 rfl ?_
  refine j_seq (j_region ?_)
  repeat (first | refine sX rfl rfl ?_ | (refine sS rfl rfl ?_ ?_; focus omega) | (refine sC rfl rfl ?_ ?_; focus (first | exact trivial | assumption | constructor <;> assumption | exact mb2 rfl rfl | exact mb4 rfl rfl rfl rfl)) | (refine sA rfl rfl ?_; intro _) | refine sT rfl ?_ | refine sW rfl rfl ?_ | refine sK rfl rfl ?_ | refine cY ?_ | refine pkT rfl rfl rfl rfl ?_ | refine pkF rfl rfl rfl rfl ?_)
  refine j_mid (S := Unit) (fun _ => True) (fun _ => [(0, .string (mag a)), (1, .string (mag b))]) (fun _ => []) ?_ (fun _ _ => ?_)
  · repeat (refine wkA ?_; try intro _)
    refine j_cond rfl (fun h => ?_) (fun h => ?_)
    · rw [Bool.and_eq_true] at h
      have h1 := lo_sm h.1
      have h2 := lo_sm h.2
      have h3 := lo_lt a
      have h4 := lo_lt b
      rw [h1] at h3
      rw [h2] at h4
      simp only [h1, h2]
      repeat (first | (refine wkA ?_; try intro _) | (refine sC rfl rfl ?_ ?_; focus (exact ⟨h3, h4⟩)))
      rw [IntWalk.u64_in _ (by omega), show (a : Int) - b = ((a - b : Nat) : Int) by omega]
      repeat (first | (refine wkA ?_; try intro _) | (refine sC rfl rfl ?_ ?_; focus (omega)))
      exact jx_ret_tmp rfl rfl (fun w hw => ret_ok hw)
    · repeat (refine wkA ?_; try intro _)
      exact jx_mid () trivial (by repeat (first | exact sub_nil | refine sub_cons rfl ?_)) (List.Sublist.refl _)
  · repeat (refine wkA ?_; try intro _)
    refine wo_callB rfl (fun w' _ => digits_spec a ha w') rfl rfl ?_
    intro bx
    repeat (refine wkA ?_; try intro _)
    refine wo_callB rfl (fun w' _ => digits_spec b hb w') rfl rfl ?_
    intro bY
    repeat (refine wkA ?_; try intro _)
    obtain ⟨na, hna⟩ : ∃ na, na = ((mag a).size + 3) / 4 := ⟨_, rfl⟩
    obtain ⟨nb, hnb⟩ : ∃ nb, nb = ((mag b).size + 3) / 4 := ⟨_, rfl⟩
    have hva : vd (dgs a na) = a := by rw [hna, digits_val]
    have hvb : vd (dgs b nb) = b := by rw [hnb, digits_val]
    have hla := dgs_len na a
    have hlb := dgs_len nb b
    have hDx := dgs_dg na a
    have hDy := dgs_dg nb b
    have hle : nb ≤ na := by have := size_mono hba; omega
    simp only [← hna, ← hnb]
    generalize dgs a na = xs at *
    generalize dgs b nb = ys at *
    subst hla
    subst hlb
    refine wo_makeD (k := .u32) (B := 4) (m := xs.length) rfl rfl ⟨by omega, by omega⟩ rfl rfl ?_
    intro bo
    repeat (refine wkA ?_; try intro _)
    refine wo_copyD (k := .u32) rfl rfl (by simp) (Nat.le_refl _) rfl rfl ?_
    have e1 : xs.take (min xs.length xs.length) ++ (List.replicate xs.length 0).drop (min xs.length xs.length) = xs := by
      rw [Nat.min_self, List.take_of_length_le (Nat.le_refl _), List.drop_replicate, Nat.sub_self]
      simp
    simp only [e1]
    repeat (refine wkA ?_; try intro _)
    refine j_loop (S := Nat × List Nat × Nat) (fun s => s.1 ≤ xs.length ∧ s.2.1.length = xs.length ∧ Dg s.2.1 ∧ s.2.2 ≤ 1 ∧ vd s.2.1 + b = a + vd (ys.drop s.1) * 4294967296 ^ s.1 + s.2.2 * 4294967296 ^ s.1)
      (fun s => [(9, .slice (some ⟨bY, 0, none⟩) ys.length ys.length), (10, .slice (some ⟨bo, 0, none⟩) xs.length xs.length), (11, .int .i64 s.2.2), (37, .int .i64 (xs.length : Int)), (38, .int .i64 s.1)])
      (fun s => [⟨bo, dig .u32 s.2.1, 206⟩, ⟨bY, dig .u32 ys, 206⟩, ⟨bx, dig .u32 xs, 206⟩]) (fun s => xs.length - s.1) (0, xs, 0)
      ⟨by simp, by simp, hDx, by simp, by simp [hva, hvb]⟩ (by repeat (first | exact sub_nil | refine sub_cons rfl ?_)) (List.Sublist.refl _) (fun s hs => ?_)
    obtain ⟨i, os, c⟩ := s
    obtain ⟨hi, hlo, hDo, hc, hinv⟩ := hs
    simp only at hi hlo hDo hc hinv ⊢
    repeat (refine wkA ?_; try intro _)
    refine j_cond rfl (fun h => ?_) (fun h => ?_)
    · have hlt : i < xs.length := by have := of_decide_eq_true h; omega
      have hio : i < os.length := by omega
      have hdo := dg_get hDo hio
      repeat (refine wkA ?_; try intro _)
      refine jq (wl_loadD rfl (show os[0 + (i : Int).toNat * 1]? = some os[i] by rw [show 0 + (i : Int).toNat * 1 = i by omega]; simp [hio])) rfl rfl ?_
      repeat (refine wkA ?_; try intro _)
      refine j_cut (S := Int) (fun s => ∃ y : Nat, s = (os[i] : Int) - c - y ∧ y < 4294967296 ∧ vd (ys.drop i) = y + 4294967296 * vd (ys.drop (i + 1)))
        (fun s => [(9, .slice (some ⟨bY, 0, none⟩) ys.length ys.length), (10, .slice (some ⟨bo, 0, none⟩) xs.length xs.length), (12, .int .i64 i), (13, .int .i64 s), (37, .int .i64 (xs.length : Int)), (38, .int .i64 i)])
        (fun s => [⟨bo, dig .u32 os, 206⟩, ⟨bY, dig .u32 ys, 206⟩, ⟨bx, dig .u32 xs, 206⟩]) ?_ (fun d hd => ?_)
      · refine j_cond rfl (fun h => ?_) (fun h => ?_)
        · have hiy : i < ys.length := by have := of_decide_eq_true h; omega
          have hdy := dg_get hDy hiy
          repeat (refine wkA ?_; try intro _)
          refine jq (wl_loadD rfl (show ys[0 + (i : Int).toNat * 1]? = some ys[i] by rw [show 0 + (i : Int).toNat * 1 = i by omega]; simp [hiy])) rfl rfl ?_
          repeat (refine wkA ?_; try intro _)
          exact jx_mid _ ⟨ys[i], rfl, hdy, vd_drop ys i hiy⟩ (by repeat (first | exact sub_nil | refine sub_cons rfl ?_)) (List.Sublist.refl _)
        · have hiy : ys.length ≤ i := by have := of_decide_eq_false h; omega
          repeat (refine wkA ?_; try intro _)
          exact jx_mid ((os[i] : Int) - c) ⟨0, by simp, by omega, by rw [vd_drop_end ys i hiy, vd_drop_end ys (i + 1) (by omega)]⟩ (by repeat (first | exact sub_nil | refine sub_cons rfl ?_)) (List.Sublist.refl _)
      · obtain ⟨y, hdv, hy, hdr⟩ := hd
        repeat (refine wkA ?_; try intro _)
        refine j_cond rfl (fun h => ?_) (fun h => ?_)
        · have hneg : d < 0 := of_decide_eq_true h
          obtain ⟨r, hr⟩ : ∃ r : Nat, (r : Int) = d + 4294967296 := ⟨(d + 4294967296).toNat, by omega⟩
          have g := sub_step (r := r) (c' := 1) hio (by omega) hinv hdr
          repeat (refine wkA ?_; try intro _)
          simp only [← hr]
          repeat (refine wkA ?_; try intro _)
          refine wo_storeD rfl rfl (by omega) rfl ?_
          rw [show 0 + (i : Int).toNat * 1 = i by omega]
          repeat (refine wkA ?_; try intro _)
          exact jx_loop (i + 1, _, 1) ⟨hlt, by rw [List.length_set]; exact hlo, dg_set hDo _ _ (by omega), by simp, g⟩ (by repeat (first | exact sub_nil | refine sub_cons rfl ?_)) (List.Sublist.refl _) (by simp only; omega)
        · have hneg : ¬ d < 0 := of_decide_eq_false h
          obtain ⟨r, hr⟩ : ∃ r : Nat, (r : Int) = d := ⟨d.toNat, by omega⟩
          have g := sub_step (r := r) (c' := 0) hio (by omega) hinv hdr
          simp only [← hr]
          repeat (refine wkA ?_; try intro _)
          refine wo_storeD rfl rfl (by omega) rfl ?_
          rw [show 0 + (i : Int).toNat * 1 = i by omega]
          repeat (refine wkA ?_; try intro _)
          exact jx_loop (i + 1, _, 0) ⟨hlt, by rw [List.length_set]; exact hlo, dg_set hDo _ _ (by omega), by simp, g⟩ (by repeat (first | exact sub_nil | refine sub_cons rfl ?_)) (List.Sublist.refl _) (by simp only; omega)
    · have hge : i = xs.length := by have := of_decide_eq_false h; omega
      subst hge
      repeat (refine wkA ?_; try intro _)
      have hfin : vd (os.take xs.length) = a - b := by
        rw [List.take_of_length_le (by omega)]
        rw [vd_drop_end ys _ (by omega)] at hinv
        have h1 := vd_lt hDo
        rw [hlo] at h1
        have hc' : c = 0 ∨ c = 1 := by omega
        rcases hc' with rfl | rfl
        · omega
        · omega
      refine jq (wl_callW rfl (fun w' hw' => bytes_spec bo xs.length xs.length os (0, 0) (by omega) (Nat.le_refl _) (by omega) hDo w' (hw'.mem _ MemC.out).2)) rfl rfl ?_
      rw [hfin]
      repeat (refine wkA ?_; try intro _)
      exact jx_ret_tmp rfl rfl (fun w hw => ret_ok hw)
end Go.Vt
/- The product of two magnitudes. Conditions: the lengths that each statement names. -/
set_option linter.unusedSimpArgs false
set_option linter.unusedVariables false
set_option maxHeartbeats 2000000
set_option maxRecDepth 100000
namespace Go.Vt
open Go.RowKit Go.Proofs
/-- One digit of a product: 'M' is what stands, 'd' the digit of the first factor. -/
theorem mul_step {os ys : List Nat} {i k c d M t : Nat} (hk : k < ys.length) (hi : i + k < os.length) (ht : t = c + (os[i + k] + d * ys[k])) (hS : vd os + c * 4294967296 ^ (i + k) = M + d * vd (ys.take k) * 4294967296 ^ i) :
    vd (os.set (i + k) (t % 4294967296)) + t / 4294967296 * 4294967296 ^ (i + (k + 1)) = M + d * vd (ys.take (k + 1)) * 4294967296 ^ i := by
  have hs := vd_set os (i + k) (t % 4294967296) hi
  have hb := Nat.div_add_mod t 4294967296
  generalize t / 4294967296 = q at *
  generalize t % 4294967296 = r at *
  have hy : vd (ys.take (k + 1)) = vd (ys.take k) + 4294967296 ^ k * ys[k] := by
    rw [List.take_succ_eq_append_getElem hk, vd_append, List.length_take, Nat.min_eq_left (by omega)]
    simp [vd]
  rw [hy, show (4294967296 : Nat) ^ (i + (k + 1)) = 4294967296 ^ (i + k) * 4294967296 from Nat.pow_succ _ _]
  have e : (4294967296 * q + r) * 4294967296 ^ (i + k) = (c + (os[i + k] + d * ys[k])) * 4294967296 ^ (i + k) := by rw [hb, ht]
  have e3 : d * (vd (ys.take k) + 4294967296 ^ k * ys[k]) * 4294967296 ^ i = d * vd (ys.take k) * 4294967296 ^ i + d * ys[k] * 4294967296 ^ (i + k) := by
    rw [Nat.mul_add, Nat.add_mul, Nat.pow_add]
    congr 1
    rw [Nat.mul_comm (4294967296 ^ k), ← Nat.mul_assoc, Nat.mul_assoc (d * ys[k]), Nat.mul_comm (4294967296 ^ k)]
  rw [e3]
  generalize (4294967296 : Nat) ^ (i + k) = p at *
  rw [Nat.add_mul, Nat.add_mul, Nat.add_mul, Nat.mul_assoc] at e
  have e1 : q * (p * 4294967296) = 4294967296 * (q * p) := by rw [Nat.mul_comm p, ← Nat.mul_assoc, Nat.mul_comm q, Nat.mul_assoc]
  rw [e1]
  omega
theorem mul_word {c o d y : Nat} (hc : c < 4294967296) (ho : o < 4294967296) (hd : d < 4294967296) (hy : y < 4294967296) : d * y ≤ 18446744065119617025 ∧ c + (o + d * y) < 18446744073709551616 := by
  have h : d * y ≤ 4294967295 * 4294967295 := Nat.mul_le_mul (by omega) (by omega)
  omega
theorem vd_hi {os : List Nat} {i : Nat} (h : vd os < 4294967296 ^ i) (hi : i < os.length) : os[i] = 0 := by
  have := vd_get_le os i hi
  rcases Nat.eq_zero_or_pos os[i] with h1 | h1
  · exact h1
  · have h2 : 1 * 4294967296 ^ i ≤ os[i] * 4294967296 ^ i := Nat.mul_le_mul_right _ h1
    omega
instance ext_mul64 (x y : Nat) : SpecC Tryz.prog 117 [.int .u64 x, .int .u64 y] (.tuple #[.int .u64 ((x * y / 18446744073709551616 : Nat) : Int), .int .u64 ((x * y % 18446744073709551616 : Nat) : Int)]) (x < 18446744073709551616 ∧ y < 18446744073709551616) := ⟨fun h w =>
  (Tryz.bits_Mul64 x y h.1 h.2 w).mono fun e w' ⟨h1, h2⟩ => by subst h2; exact ⟨h1, Ext.refl _⟩⟩
theorem mul_spec (a b : Nat) (ha : (mag a).size ≤ 1099511627776) (hb : (mag b).size ≤ 1099511627776) (w : World) : Calls Tryz.prog 80 [.string (mag a), .string (mag b)].toArray w (Ret (.string (mag (a * b))) w) := by
  refine fn_intro Tryz.func80 rfl Tryz.ntmps80 rfl ?_
  refine j_seq (j_region ?_)
  repeat (first | refine sX rfl rfl ?_ | (refine sS rfl rfl ?_ ?_; focus omega) | (refine sC rfl rfl ?_ ?_; focus (first | exact trivial | assumption | constructor <;> assumption | exact mb2 rfl rfl | exact mb4 rfl rfl rfl rfl)) | (refine sA rfl rfl ?_; intro _) | refine sT rfl ?_ | refine sW rfl rfl ?_ | refine sK rfl rfl ?_ | refine cY ?_ | refine pkT rfl rfl rfl rfl ?_ | refine pkF rfl rfl rfl rfl ?_)
  refine j_mid (S := Unit) (fun _ => True) (fun _ => [(0, .string (mag a)), (1, .string (mag b))]) (fun _ => []) ?_ (fun _ _ => ?_)
  · repeat (refine wkA ?_; try intro _)
    refine j_cond rfl (fun h => ?_) (fun h => ?_)
    · rw [Bool.and_eq_true] at h
      have h1 := lo_sm h.1
      have h2 := lo_sm h.2
      have h3 := lo_lt a
      have h4 := lo_lt b
      rw [h1] at h3
      rw [h2] at h4
      simp only [h1, h2]
      repeat (first | (refine wkA ?_; try intro _) | (refine sC rfl rfl ?_ ?_; focus (exact ⟨h3, h4⟩)))
      refine j_cond rfl (fun h => ?_) (fun h => ?_)
      · have h5 := of_decide_eq_true h
        have h6 : (a * b) % 18446744073709551616 = a * b := by omega
        simp only [h6]
        repeat (first | (refine wkA ?_; try intro _) | (refine sC rfl rfl ?_ ?_; focus (omega)))
        exact jx_ret_tmp rfl rfl (fun w hw => ret_ok hw)
      · repeat (refine wkA ?_; try intro _)
        exact jx_mid () trivial (by repeat (first | exact sub_nil | refine sub_cons rfl ?_)) (List.Sublist.refl _)
    · repeat (refine wkA ?_; try intro _)
      exact jx_mid () trivial (by repeat (first | exact sub_nil | refine sub_cons rfl ?_)) (List.Sublist.refl _)
  · repeat (refine wkA ?_; try intro _)
    refine wo_callB rfl (fun w' _ => digits_spec a ha w') rfl rfl ?_
    intro bx
    repeat (refine wkA ?_; try intro _)
    refine wo_callB rfl (fun w' _ => digits_spec b hb w') rfl rfl ?_
    intro bY
    repeat (refine wkA ?_; try intro _)
    obtain ⟨na, hna⟩ : ∃ na, na = ((mag a).size + 3) / 4 := ⟨_, rfl⟩
    obtain ⟨nb, hnb⟩ : ∃ nb, nb = ((mag b).size + 3) / 4 := ⟨_, rfl⟩
    have hva : vd (dgs a na) = a := by rw [hna, digits_val]
    have hvb : vd (dgs b nb) = b := by rw [hnb, digits_val]
    have hla := dgs_len na a
    have hlb := dgs_len nb b
    have hDx := dgs_dg na a
    have hDy := dgs_dg nb b
    simp only [← hna, ← hnb]
    generalize dgs a na = xs at *
    generalize dgs b nb = ys at *
    subst hla
    subst hlb
    have em : (xs.length : Int) + (ys.length : Int) + 1 = ((xs.length + ys.length + 1 : Nat) : Int) := by omega
    simp only [em]
    refine wo_makeD (k := .u32) (B := 4) (m := xs.length + ys.length + 1) rfl rfl ⟨by omega, by omega⟩ rfl rfl ?_
    intro bo
    repeat (refine wkA ?_; try intro _)
    refine j_loop (S := Nat × List Nat) (fun s => s.1 ≤ xs.length ∧ s.2.length = xs.length + ys.length + 1 ∧ Dg s.2 ∧ vd s.2 = vd (xs.take s.1) * b)
      (fun s => [(10, .slice (some ⟨bx, 0, none⟩) xs.length xs.length), (11, .slice (some ⟨bY, 0, none⟩) ys.length ys.length), (12, .slice (some ⟨bo, 0, none⟩) (xs.length + ys.length + 1) (xs.length + ys.length + 1)), (46, .slice (some ⟨bx, 0, none⟩) xs.length xs.length), (47, .int .i64 (xs.length : Int)), (48, .int .i64 s.1)])
      (fun s => [⟨bo, dig .u32 s.2, 206⟩, ⟨bY, dig .u32 ys, 206⟩, ⟨bx, dig .u32 xs, 206⟩]) (fun s => xs.length - s.1) (0, List.replicate (xs.length + ys.length + 1) 0)
      ⟨by simp, by simp, dg_zero _, by simp [vd, vd_zero]⟩ (by repeat (first | exact sub_nil | refine sub_cons rfl ?_)) (List.Sublist.refl _) (fun s hs => ?_)
    obtain ⟨i, os⟩ := s
    obtain ⟨hi, hlo, hDo, hinv⟩ := hs
    simp only at hi hlo hDo hinv ⊢
    repeat (refine wkA ?_; try intro _)
    refine j_cond rfl (fun h => ?_) (fun h => ?_)
    · have hlt : i < xs.length := by have := of_decide_eq_true h; omega
      have hdx := dg_get hDx hlt
      repeat (refine wkA ?_; try intro _)
      refine jq (wl_loadD rfl (show xs[0 + (i : Int).toNat * 1]? = some xs[i] by rw [show 0 + (i : Int).toNat * 1 = i by omega]; simp [hlt])) rfl rfl ?_
      repeat (refine wkA ?_; try intro _)
      have hbig : vd os < 4294967296 ^ (i + ys.length) := by
        rw [hinv, Nat.pow_add]
        have h1 := vd_lt (dg_take hDx i)
        rw [List.length_take, Nat.min_eq_left (by omega)] at h1
        have h2 := vd_lt hDy
        rw [hvb] at h2
        rcases Nat.eq_zero_or_pos b with h3 | h3
        · subst h3
          rw [Nat.mul_zero]
          exact Nat.mul_pos (Nat.pow_pos (by omega)) (Nat.pow_pos (by omega))
        · exact Nat.lt_of_lt_of_le (Nat.mul_lt_mul_of_pos_right h1 h3) (Nat.mul_le_mul_left _ (Nat.le_of_lt h2))
      have htop := vd_hi hbig (by omega)
      refine j_loop (S := Nat × List Nat × Nat) (fun s => s.1 ≤ ys.length ∧ s.2.1.length = xs.length + ys.length + 1 ∧ Dg s.2.1 ∧ s.2.2 < 4294967296 ∧ s.2.1[i + ys.length]? = some 0 ∧ vd s.2.1 + s.2.2 * 4294967296 ^ (i + s.1) = vd (xs.take i) * b + xs[i] * vd (ys.take s.1) * 4294967296 ^ i)
        (fun s => [(10, .slice (some ⟨bx, 0, none⟩) xs.length xs.length), (11, .slice (some ⟨bY, 0, none⟩) ys.length ys.length), (12, .slice (some ⟨bo, 0, none⟩) (xs.length + ys.length + 1) (xs.length + ys.length + 1)), (46, .slice (some ⟨bx, 0, none⟩) xs.length xs.length), (47, .int .i64 (xs.length : Int)), (48, .int .i64 i), (13, .int .i64 i), (14, .int .u32 xs[i]), (15, .int .u64 s.2.2), (54, .int .i64 ys.length), (55, .int .i64 s.1)])
        (fun s => [⟨bo, dig .u32 s.2.1, 206⟩, ⟨bY, dig .u32 ys, 206⟩, ⟨bx, dig .u32 xs, 206⟩]) (fun s => ys.length - s.1) (0, os, 0)
        ⟨by simp, hlo, hDo, by simp, by simp only; rw [List.getElem?_eq_getElem (by omega), htop], by simp [vd, hinv]⟩ (by repeat (first | exact sub_nil | refine sub_cons rfl ?_)) (List.Sublist.refl _) (fun s hs => ?_)
      obtain ⟨k, ps, c⟩ := s
      obtain ⟨hk, hlp, hDp, hc, hz, hin⟩ := hs
      simp only at hk hlp hDp hc hz hin ⊢
      repeat (refine wkA ?_; try intro _)
      refine j_cond rfl (fun h => ?_) (fun h => ?_)
      · have hky : k < ys.length := by have := of_decide_eq_true h; omega
        have hdy := dg_get hDy hky
        have hip : i + k < ps.length := by omega
        have hdp := dg_get hDp hip
        obtain ⟨hw1, hw2⟩ := mul_word hc hdp hdx hdy
        repeat (refine wkA ?_; try intro _)
        refine jD 19 19 (h := ?_)
        (repeat (refine wkH ?_))
        refine hq (wl_loadD rfl (show ps[0 + ((i : Int) + (k : Int)).toNat * 1]? = some ps[i + k] by rw [show 0 + ((i : Int) + (k : Int)).toNat * 1 = i + k by omega]; simp [hip])) rfl rfl ?_
        (repeat (refine wkH ?_))
        refine hq (wl_loadD rfl (show ys[0 + (k : Int).toNat * 1]? = some ys[k] by rw [show 0 + (k : Int).toNat * 1 = k by omega]; simp [hky])) rfl rfl ?_
        refine hq (wl_cvu rfl ?_) rfl rfl ?_
        · omega
        refine hq (wl_mulu rfl rfl ?_) rfl rfl ?_
        · rw [← Int.natCast_mul]; omega
        rw [← Int.natCast_mul]
        (repeat (refine wkH ?_))
        refine jh_nil (jn_nil ?_)
        repeat (refine wkA ?_; try intro _)
        refine jq (wl_shr rfl rfl (by decide)) rfl rfl ?_
        repeat (refine wkA ?_; try intro _)
        obtain ⟨t, ht⟩ : ∃ t, t = c + (ps[i + k] + xs[i] * ys[k]) := ⟨_, rfl⟩
        rw [p32, IntKind.wrap_u32, show (c : Int) + ((ps[i + k] : Nat) + ((xs[i] * ys[k] : Nat) : Int)) = (t : Int) by omega, show (t : Int) % 4294967296 = ((t % 4294967296 : Nat) : Int) by omega, show (t : Int) / 4294967296 = ((t / 4294967296 : Nat) : Int) by omega]
        refine wo_storeD rfl rfl (by omega) rfl ?_
        rw [show 0 + ((i : Int) + (k : Int)).toNat * 1 = i + k by omega]
        have g := mul_step hky hip ht hin
        repeat (refine wkA ?_; try intro _)
        exact jx_loop (k + 1, _, t / 4294967296) ⟨hky, by rw [List.length_set]; exact hlp, dg_set hDp _ _ (Nat.mod_lt _ (by omega)), by simp only; omega, by simp only; rw [List.getElem?_set_ne (by omega)]; exact hz, g⟩ (by repeat (first | exact sub_nil | refine sub_cons rfl ?_)) (List.Sublist.refl _) (by simp only; omega)
      · have hge : k = ys.length := by have := of_decide_eq_false h; omega
        subst hge
        repeat (refine wkA ?_; try intro _)
        have hip : i + ys.length < ps.length := by omega
        refine wo_storeD rfl rfl (by omega) rfl ?_
        rw [show 0 + ((i : Int) + (ys.length : Int)).toNat * 1 = i + ys.length by omega]
        repeat (refine wkA ?_; try intro _)
        have hfin : vd (ps.set (i + ys.length) c) = vd (xs.take (i + 1)) * b := by
          have hs := vd_set ps (i + ys.length) c hip
          rw [List.getElem?_eq_getElem hip] at hz
          simp only [Option.some.injEq] at hz
          rw [hz, Nat.zero_mul] at hs
          rw [List.take_of_length_le (Nat.le_refl _), hvb] at hin
          have hy : vd (xs.take (i + 1)) = vd (xs.take i) + 4294967296 ^ i * xs[i] := by
            rw [List.take_succ_eq_append_getElem hlt, vd_append, List.length_take, Nat.min_eq_left (by omega)]
            simp [vd]
          rw [hy, Nat.add_mul]
          have e4 : 4294967296 ^ i * xs[i] * b = xs[i] * b * 4294967296 ^ i := by rw [Nat.mul_assoc, Nat.mul_comm]
          rw [e4]
          omega
        exact jx_loop (i + 1, _) ⟨hlt, by rw [List.length_set]; exact hlp, dg_set hDp _ _ hc, hfin⟩ (by repeat (first | exact sub_nil | refine sub_cons rfl ?_)) (List.Sublist.refl _) (by simp only; omega)
    · have hge : i = xs.length := by have := of_decide_eq_false h; omega
      subst hge
      repeat (refine wkA ?_; try intro _)
      have hfin : vd (os.take (xs.length + ys.length + 1)) = a * b := by
        rw [List.take_of_length_le (by omega), hinv, List.take_of_length_le (Nat.le_refl _), hva]
      refine jq (wl_callW rfl (fun w' hw' => bytes_spec bo (xs.length + ys.length + 1) (xs.length + ys.length + 1) os (0, 0) (by omega) (Nat.le_refl _) (by omega) hDo w' (hw'.mem _ MemC.out).2)) rfl rfl ?_
      rw [hfin]
      repeat (refine wkA ?_; try intro _)
      exact jx_ret_tmp rfl rfl (fun w hw => ret_ok hw)
end Go.Vt
/- The operations of the ring of integers. Conditions: the lengths that each statement names. -/
set_option linter.unusedSimpArgs false
set_option linter.unusedVariables false
set_option maxHeartbeats 2000000
set_option maxRecDepth 100000
namespace Go.Vt
open Go.RowKit Go.Proofs
/-- The bytes of a number, and the length up to which all goes well. -/
def mg (n : Int) : Nat := (mag n.natAbs).size
abbrev LIM : Nat := 1099511627776
theorem mg_le {n : Int} {k : Nat} : mg n ≤ k ↔ n.natAbs < 256 ^ k := mag_size
theorem mg_neg (n : Int) : mg (-n) = mg n := by unfold mg; rw [Int.natAbs_neg]
theorem mg_mono {m n : Int} (h : m.natAbs ≤ n.natAbs) : mg m ≤ mg n := size_mono h
theorem mg_lt (n : Int) : n.natAbs < 256 ^ mg n := mg_le.1 (Nat.le_refl _)
theorem mg_add {a b : Int} {k : Nat} (ha : mg a ≤ k) (hb : mg b ≤ k) : mg (a + b) ≤ k + 1 := by
  rw [mg_le] at ha hb ⊢
  have h := Int.natAbs_add_le a b
  rw [Nat.pow_succ]
  omega
theorem mg_mul (a b : Int) : mg (a * b) ≤ mg a + mg b := by
  rw [mg_le, Int.natAbs_mul, Nat.pow_add]
  exact Nat.mul_lt_mul'' (mg_lt a) (mg_lt b)
theorem mg_small {n : Int} {k : Nat} (h : n.natAbs < 256 ^ k) : mg n ≤ k := mg_le.2 h
instance (priority := high) ldI_neg (n : Int) : LdC Tryz.prog 4 (e_api_Int (I n)) 0 (.bool (decide (n < 0))) := ⟨ldv_one (by kernel_rfl) (by kernel_rfl)⟩
instance (priority := high) ldI_mag (n : Int) : LdC Tryz.prog 9 (e_api_Int (I n)) 1 (.string (mag n.natAbs)) := ⟨ldv_one (by kernel_rfl) (by kernel_rfl)⟩
instance sp_cmp (x y : Int) : SpecC Tryz.prog 81 [.int .i64 x, .int .i64 y] (.int .i64 (Lib.compareInt x y)) True := ⟨fun _ w => (Tryz.cmp_Compare_int x y w).mono fun e w' ⟨h1, h2⟩ => by subst h2; exact ⟨h1, Ext.refl _⟩⟩
instance sp_strcmp (a b : ByteArray) : SpecC Tryz.prog 122 [.string a, .string b] (.int .i64 (Lib.compareBytes a.data.toList b.data.toList)) True := ⟨fun _ w => (Tryz.strings_Compare a b w).mono fun e w' ⟨h1, h2⟩ => by subst h2; exact ⟨h1, Ext.refl _⟩⟩
theorem or_spec (b c : Nat) (x y : Int) (fz : Nat × Nat) (w : World) (hw : w.heap[b]? = some (.cells (nums .i64 [x, y]) 3 fz)) :
    Calls Tryz.prog 121 [.slice (some ⟨b, 0, none⟩) 2 c].toArray w (Ret (.int .i64 (if x ≠ 0 then x else y)) w) := by
  refine fn_intro Tryz.func121 rfl Tryz.ntmps121 rfl ?_
  repeat (refine wkA ?_; try intro _)
  refine j_loop (S := Nat) (fun k => k ≤ 2 ∧ (1 ≤ k → x = 0) ∧ (2 ≤ k → y = 0)) (fun k => [(3, .int .i64 0), (6, .slice (some ⟨b, 0, none⟩) 2 c), (7, .int .i64 2), (8, .int .i64 k)]) (fun _ => []) (fun k => 2 - k) 0 ⟨by omega, by omega, by omega⟩
    (by repeat (first | exact sub_nil | refine sub_cons rfl ?_)) (List.Sublist.refl _) (fun k hk => ?_)
  obtain ⟨hk2, h1, h2⟩ := hk
  repeat (refine wkA ?_; try intro _)
  refine j_cond rfl (fun h => ?_) (fun h => ?_)
  · have hlt : k < 2 := by have := of_decide_eq_true h; omega
    repeat (refine wkA ?_; try intro _)
    rcases (by omega : k = 0 ∨ k = 1) with rfl | rfl
    · refine jq (yl_loadF rfl hw (ldv_one (v := .int .i64 x) (by kernel_rfl) rfl)) rfl rfl ?_
      repeat (refine wkA ?_; try intro _)
      refine j_cond rfl (fun h => ?_) (fun h => ?_)
      · have hx : x ≠ 0 := by simpa using h
        rw [if_pos hx]
        repeat (refine wkA ?_; try intro _)
        exact jx_ret_tmp rfl rfl (fun w hw => ret_ok hw)
      · have hx : x = 0 := by simpa using h
        repeat (refine wkA ?_; try intro _)
        exact jx_loop 1 ⟨by omega, fun _ => hx, by omega⟩ (by repeat (first | exact sub_nil | refine sub_cons rfl ?_)) (List.Sublist.refl _) (by omega)
    · refine jq (yl_loadF rfl hw (ldv_one (v := .int .i64 y) (by kernel_rfl) rfl)) rfl rfl ?_
      have hx := h1 (by omega)
      repeat (refine wkA ?_; try intro _)
      refine j_cond rfl (fun h => ?_) (fun h => ?_)
      · rw [if_neg (by simp [hx])]
        repeat (refine wkA ?_; try intro _)
        exact jx_ret_tmp rfl rfl (fun w hw => ret_ok hw)
      · have hy : y = 0 := by simpa using h
        repeat (refine wkA ?_; try intro _)
        exact jx_loop 2 ⟨by omega, fun _ => hx, fun _ => hy⟩ (by repeat (first | exact sub_nil | refine sub_cons rfl ?_)) (List.Sublist.refl _) (by omega)
  · have hge : k = 2 := by have := of_decide_eq_false h; omega
    subst hge
    have hx := h1 (by omega)
    have hy := h2 (by omega)
    subst hx
    subst hy
    repeat (refine wkA ?_; try intro _)
    exact jx_ret_tmp rfl rfl (fun w hw => ret_ok hw)
theorem bs_two (x y : Int) (w : World) : (Instr.buildSlice 40 2 [(0, .int .i64 x), (1, .int .i64 y)].toArray).run Tryz.prog w = .ok (.slice (some ⟨w.heap.size, 0, none⟩) 2 2) (w.alloc (.cells (nums .i64 [x, y]) 3)) := by kernel_rfl
instance bs_ints2 (x y : Int) : BsC Tryz.prog 40 2 [(0, .int .i64 x), (1, .int .i64 y)] (nums .i64 [x, y]) 3 := ⟨bs_two x y⟩
instance sp_compare (a b : Nat) : SpecC Tryz.prog 82 [.string (mag a), .string (mag b)] (.int .i64 (Lib.compareInt a b)) True := ⟨fun _ w => by
  refine fn_intro Tryz.func82 rfl Tryz.ntmps82 rfl ?_
  repeat (refine wkA ?_; try intro _)
  refine wo_bslice rfl rfl rfl ?_
  intro b1
  repeat (refine wkA ?_; try intro _)
  refine jq (wl_callW rfl (fun w' hw' => or_spec b1 2 _ _ (0, 0) w' (hw'.mem _ MemC.out).2)) rfl rfl ?_
  rw [mag_cmp a b]
  repeat (refine wkA ?_; try intro _)
  exact jx_ret_tmp rfl rfl (fun w hw => ret_ok hw)⟩
instance sp_add (a b : Nat) : SpecC Tryz.prog 112 [.string (mag a), .string (mag b)] (.string (mag (a + b))) ((mag a).size ≤ LIM ∧ (mag b).size ≤ LIM) := ⟨fun h w => add_spec a b h.1 h.2 w⟩
instance sp_sub (a b : Nat) : SpecC Tryz.prog 113 [.string (mag a), .string (mag b)] (.string (mag (a - b))) ((mag a).size ≤ LIM ∧ b ≤ a) := ⟨fun h w => sub_spec a b h.1 h.2 w⟩
instance sp_mul (a b : Nat) : SpecC Tryz.prog 80 [.string (mag a), .string (mag b)] (.string (mag (a * b))) ((mag a).size ≤ LIM ∧ (mag b).size ≤ LIM) := ⟨fun h w => mul_spec a b h.1 h.2 w⟩
theorem cmp_pos {a b : Int} : 0 ≤ Lib.compareInt a b ↔ b ≤ a := by unfold Lib.compareInt; by_cases h1 : a < b <;> by_cases h2 : a > b <;> simp [h1, h2] <;> omega
theorem cmp_neg {a b : Int} : Lib.compareInt a b < 0 ↔ a < b := by unfold Lib.compareInt; by_cases h1 : a < b <;> by_cases h2 : a > b <;> simp [h1, h2] <;> omega
instance sp_Add (a b : Int) : SpecC Tryz.prog 75 [vI a, vI b] (vI (a + b)) (mg a ≤ LIM ∧ mg b ≤ LIM) := ⟨fun hp w => by
  refine fn_intro Tryz.func75 rfl Tryz.ntmps75 rfl ?_
  repeat (refine wkA ?_; try intro _)
  refine j_cond rfl (fun h => ?_) (fun h => ?_)
  · have h1 : decide (a < 0) = decide (b < 0) := by simpa using h
    repeat (refine wkA ?_; try intro _)
    (refine jD 8 8 (h := ?_); (repeat (first | refine wkH ?_ | (refine tC rfl rfl ?_ ?_; focus (first | exact trivial | exact hp)))); refine jh_nil ?_; (repeat (refine wn_new ?_; intro _)); refine jn_nil ?_)
    rw [show sg (decide (a < 0)) (a.natAbs + b.natAbs) = a + b by unfold sg; by_cases h2 : a < 0 <;> simp [h2] at h1 ⊢ <;> omega]
    repeat (refine wkA ?_; try intro _)
    exact wx_cell rfl rfl (fun w hw => ret_ok hw)
  · have h1 : decide (a < 0) ≠ decide (b < 0) := by simpa using h
    repeat (refine wkA ?_; try intro _)
    refine j_cond rfl (fun h => ?_) (fun h => ?_)
    · have h2 := cmp_pos.1 (of_decide_eq_true h)
      have h3 : b.natAbs ≤ a.natAbs := by omega
      repeat (refine wkA ?_; try intro _)
      (refine jD 8 8 (h := ?_); (repeat (first | refine wkH ?_ | (refine tC rfl rfl ?_ ?_; focus (first | exact trivial | exact ⟨hp.1, h3⟩)))); refine jh_nil ?_; (repeat (refine wn_new ?_; intro _)); refine jn_nil ?_)
      rw [show sg (decide (a < 0)) (a.natAbs - b.natAbs) = a + b by unfold sg; by_cases h2 : a < 0 <;> simp [h2] at h1 ⊢ <;> omega]
      repeat (refine wkA ?_; try intro _)
      exact wx_cell rfl rfl (fun w hw => ret_ok hw)
    · have h2 : ¬ (b.natAbs : Int) ≤ (a.natAbs : Int) := fun h2 => of_decide_eq_false h (cmp_pos.2 h2)
      have h3 : a.natAbs ≤ b.natAbs := by omega
      repeat (refine wkA ?_; try intro _)
      (refine jD 8 8 (h := ?_); (repeat (first | refine wkH ?_ | (refine tC rfl rfl ?_ ?_; focus (first | exact trivial | exact ⟨hp.2, h3⟩)))); refine jh_nil ?_; (repeat (refine wn_new ?_; intro _)); refine jn_nil ?_)
      rw [show sg (decide (b < 0)) (b.natAbs - a.natAbs) = a + b by unfold sg; by_cases h2 : b < 0 <;> simp [h2] at h1 ⊢ <;> omega]
      repeat (refine wkA ?_; try intro _)
      exact wx_cell rfl rfl (fun w hw => ret_ok hw)⟩
instance sp_Mul (a b : Int) : SpecC Tryz.prog 45 [vI a, vI b] (vI (a * b)) (mg a ≤ LIM ∧ mg b ≤ LIM) := ⟨fun hp w => by
  refine fn_intro Tryz.func45 rfl Tryz.ntmps45 rfl ?_
  repeat (refine wkA ?_; try intro _)
  (refine jD 11 11 (h := ?_); (repeat (first | refine wkH ?_ | (refine tC rfl rfl ?_ ?_; focus (first | trivial | exact hp)))); refine jh_nil ?_; (repeat (refine wn_new ?_; intro _)); refine jn_nil ?_)
  rw [show sg (decide (a < 0) != decide (b < 0)) (a.natAbs * b.natAbs) = a * b by
    unfold sg
    rw [← Int.natAbs_mul]
    rcases Int.lt_or_le a 0 with h1 | h1 <;> rcases Int.lt_or_le b 0 with h2 | h2
    · have := Int.mul_pos_of_neg_of_neg h1 h2
      simp [h1, h2]
      omega
    · have h3 : ¬ b < 0 := by omega
      have := Int.mul_nonpos_of_nonpos_of_nonneg (Int.le_of_lt h1) h2
      simp [h1, h3]
      omega
    · have h3 : ¬ a < 0 := by omega
      have := Int.mul_nonpos_of_nonneg_of_nonpos h1 (Int.le_of_lt h2)
      simp [h2, h3]
      omega
    · have h3 : ¬ a < 0 := by omega
      have h4 : ¬ b < 0 := by omega
      have := Int.mul_nonneg h1 h2
      simp [h3, h4]
      omega]
  repeat (refine wkA ?_; try intro _)
  exact wx_cell rfl rfl (fun w hw => ret_ok hw)⟩
instance sp_Negate (a : Int) : SpecC Tryz.prog 76 [vI a] (vI (-a)) True := ⟨fun _ w => by
  refine fn_intro Tryz.func76 rfl Tryz.ntmps76 rfl ?_
  repeat (refine wkA ?_; try intro _)
  rw [show sg (!decide (a < 0)) a.natAbs = -a by unfold sg; by_cases h : a < 0 <;> simp [h] <;> omega]
  repeat (refine wkA ?_; try intro _)
  exact wx_cell rfl rfl (fun w hw => ret_ok hw)⟩
theorem sign_nn {b : Int} (h : 0 ≤ b) : 0 ≤ b.sign := by
  rcases (by omega : b = 0 ∨ 0 < b) with rfl | h
  · decide
  · rw [Int.sign_eq_one_of_pos h]; decide
instance sp_Sign (a : Int) : SpecC Tryz.prog 47 [vI a] (.int .i64 a.sign) True := ⟨fun _ w => by
  refine fn_intro Tryz.func47 rfl Tryz.ntmps47 rfl ?_
  repeat (refine wkA ?_; try intro _)
  refine j_cond rfl (fun h => ?_) (fun h => ?_)
  · have h1 := of_decide_eq_true h
    have h2 : a = 0 := by have := mag_eq_empty.1 h1; omega
    subst h2
    repeat (refine wkA ?_; try intro _)
    exact jx_ret_tmp rfl rfl (fun w hw => ret_ok hw)
  · have h1 : ¬ a.natAbs = 0 := fun h1 => of_decide_eq_false h (mag_eq_empty.2 h1)
    repeat (refine wkA ?_; try intro _)
    refine j_cond rfl (fun h => ?_) (fun h => ?_)
    · have h2 : a < 0 := of_decide_eq_true h
      rw [Int.sign_eq_neg_one_of_neg h2]
      repeat (refine wkA ?_; try intro _)
      exact jx_ret_tmp rfl rfl (fun w hw => ret_ok hw)
    · have h2 : ¬ a < 0 := of_decide_eq_false h
      rw [Int.sign_eq_one_of_pos (by omega)]
      repeat (refine wkA ?_; try intro _)
      exact jx_ret_tmp rfl rfl (fun w hw => ret_ok hw)⟩
instance sp_Compare (a b : Int) : SpecC Tryz.prog 49 [vI a, vI b] (.int .i64 (Lib.compareInt a b)) True := ⟨fun _ w => by
  refine fn_intro Tryz.func49 rfl Tryz.ntmps49 rfl ?_
  repeat (refine wkA ?_; try intro _)
  refine j_cond rfl (fun h => ?_) (fun h => ?_)
  · have h1 : decide (a < 0) ≠ decide (b < 0) := by simpa using h
    repeat (refine wkA ?_; try intro _)
    (refine jD 5 5 (h := ?_); (repeat (refine wkH ?_)); refine jh_nil ?_; (repeat (refine wn_new ?_; intro _)); refine jn_nil ?_)
    rw [show Lib.compareInt a.sign b.sign = Lib.compareInt a b by
      rcases Int.lt_or_le a 0 with h2 | h2 <;> rcases Int.lt_or_le b 0 with h3 | h3
      · simp [h2, h3] at h1
      · rw [Int.sign_eq_neg_one_of_neg h2]
        have := sign_nn h3
        unfold Lib.compareInt
        rw [if_pos (by omega), if_pos (by omega)]
      · rw [Int.sign_eq_neg_one_of_neg h3]
        have := sign_nn h2
        unfold Lib.compareInt
        rw [if_neg (by omega), if_pos (by omega), if_neg (by omega), if_pos (by omega)]
      · have h4 : ¬ a < 0 := by omega
        have h5 : ¬ b < 0 := by omega
        simp [h4, h5] at h1]
    repeat (refine wkA ?_; try intro _)
    exact jx_ret_tmp rfl rfl (fun w hw => ret_ok hw)
  · have h1 : decide (a < 0) = decide (b < 0) := by simpa using h
    repeat (refine wkA ?_; try intro _)
    refine j_cond rfl (fun h => ?_) (fun h => ?_)
    · have h2 : a < 0 := of_decide_eq_true h
      have h3 : b < 0 := by simpa [h2] using h1.symm
      repeat (refine wkA ?_; try intro _)
      rw [show IntKind.i64.wrap (-Lib.compareInt a.natAbs b.natAbs) = Lib.compareInt a b by
        rw [IntWalk.i64_in _ (by unfold Lib.compareInt; by_cases h1 : (a.natAbs : Int) < b.natAbs <;> by_cases h2 : (a.natAbs : Int) > b.natAbs <;> simp [h1, h2])]
        unfold Lib.compareInt
        by_cases h4 : a < b
        · rw [if_neg (by omega), if_pos (by omega), if_pos h4]
        · by_cases h5 : a > b
          · rw [if_pos (by omega), if_neg h4, if_pos h5]; rfl
          · rw [if_neg (by omega), if_neg (by omega), if_neg h4, if_neg h5]; rfl]
      repeat (refine wkA ?_; try intro _)
      exact jx_ret_tmp rfl rfl (fun w hw => ret_ok hw)
    · have h2 : ¬ a < 0 := of_decide_eq_false h
      have h3 : ¬ b < 0 := by simpa [h2] using h1.symm
      repeat (refine wkA ?_; try intro _)
      rw [show Lib.compareInt a.natAbs b.natAbs = Lib.compareInt a b by rw [Int.natAbs_of_nonneg (by omega), Int.natAbs_of_nonneg (by omega)]]
      exact jx_ret_tmp rfl rfl (fun w hw => ret_ok hw)⟩
theorem FromInt_spec (n : Int) (h0 : -9223372036854775808 ≤ n) (h1 : n ≤ 9223372036854775807) (w : World) : Calls Tryz.prog 41 [.int .i64 n].toArray w (Ret (vI n) w) := by
  refine fn_intro Tryz.func41 rfl Tryz.ntmps41 rfl ?_
  have e1 : 0 ≤ n → IntKind.u64.wrap n = ((n.natAbs : Nat) : Int) := fun h => by rw [IntWalk.u64_in _ (by omega)]; omega
  have e2 : n < 0 → IntKind.u64.wrap (-(IntKind.u64.wrap n)) = ((n.natAbs : Nat) : Int) := fun h => by
    have ha : IntKind.u64.wrap n = n + 18446744073709551616 := by rw [IntKind.wrap_u64]; omega
    rw [ha, IntKind.wrap_u64]
    omega
  have e3 : sg (decide (n < 0)) n.natAbs = n := by unfold sg; by_cases h : n < 0 <;> simp [h] <;> omega
  repeat (refine wkA ?_; try intro _)
  refine j_cond rfl (fun h => ?_) (fun h => ?_)
  · have hn := of_decide_eq_true h
    repeat (refine wkA ?_; try intro _)
    rw [e2 hn]
    repeat (first | (refine wkA ?_; try intro _) | (refine sC rfl rfl ?_ ?_; focus (first | exact trivial | omega)))
    rw [e3]
    repeat (refine wkA ?_; try intro _)
    exact wx_cell rfl rfl (fun w hw => ret_ok hw)
  · have hn := of_decide_eq_false h
    repeat (refine wkA ?_; try intro _)
    rw [e1 (by omega)]
    repeat (first | (refine wkA ?_; try intro _) | (refine sC rfl rfl ?_ ?_; focus (first | exact trivial | omega)))
    rw [e3]
    repeat (refine wkA ?_; try intro _)
    exact wx_cell rfl rfl (fun w hw => ret_ok hw)
instance sp_FromInt (n : Int) : SpecC Tryz.prog 41 [.int .i64 n] (vI n) (-9223372036854775808 ≤ n ∧ n ≤ 9223372036854775807) := ⟨fun h w => FromInt_spec n h.1 h.2 w⟩
end Go.Vt
/- Division by one digit, and shifting. Conditions: those that each statement names. -/
set_option linter.unusedSimpArgs false
set_option linter.unusedVariables false
set_option maxHeartbeats 2000000
set_option maxRecDepth 100000
namespace Go.Vt
open Go.RowKit Go.Proofs
theorem or_word (r x : Nat) (hr : r < 4294967296) (hx : x < 4294967296) : bits .or .u64 (IntKind.u64.wrap ((r : Int) * 2 ^ (32 : Int).toNat)) (x : Int) = ((r * 4294967296 + x : Nat) : Int) := by
  rw [p32, IntWalk.u64_in _ (by omega)]
  unfold bits
  rw [show (r : Int) * 4294967296 = ((r * 4294967296 : Nat) : Int) by omega]
  have h1 : BitVec.ofInt IntKind.u64.bits ((r * 4294967296 : Nat) : Int) = BitVec.ofNat 64 (r * 4294967296) := BitVec.ofInt_natCast _ _
  have h2 : BitVec.ofInt IntKind.u64.bits ((x : Nat) : Int) = BitVec.ofNat 64 x := BitVec.ofInt_natCast _ _
  have h3 : (r * 4294967296) ||| x = r * 4294967296 + x := by
    rw [show r * 4294967296 = r <<< 32 by rw [Nat.shiftLeft_eq]]
    rw [Nat.shiftLeft_add_eq_or_of_lt (by omega : x < 2 ^ 32)]
  simp only [h1, h2]
  show IntKind.u64.wrap ((BitVec.ofNat 64 (r * 4294967296) ||| BitVec.ofNat 64 x).toNat : Int) = _
  rw [BitVec.toNat_or, BitVec.toNat_ofNat, BitVec.toNat_ofNat, Nat.mod_eq_of_lt (by omega), Nat.mod_eq_of_lt (by omega), h3, IntWalk.u64_in _ (by omega)]
theorem or_low (o d s : Nat) (ho : o < 2 ^ s) (hs : s < 32) : bits .or .u32 (o : Int) (IntKind.u32.wrap ((d * 2 ^ s : Nat) : Int)) = ((o + d * 2 ^ s % 4294967296 : Nat) : Int) := by
  have hp : (2 : Nat) ^ s ≤ 2147483648 := by
    have h3 : (2 : Nat) ^ s ≤ 2 ^ 31 := Nat.pow_le_pow_right (by omega) (by omega)
    omega
  have e0 : d * 2 ^ s % 4294967296 = (d % 2 ^ (32 - s)) <<< s := by
    rw [Nat.shiftLeft_eq, show (4294967296 : Nat) = 2 ^ (32 - s) * 2 ^ s by rw [← Nat.pow_add, show 32 - s + s = 32 by omega]]
    exact Nat.mul_mod_mul_right _ _ _
  have hlt : d * 2 ^ s % 4294967296 < 4294967296 := Nat.mod_lt _ (by omega)
  rw [IntKind.wrap_u32, show ((d * 2 ^ s : Nat) : Int) % 4294967296 = ((d * 2 ^ s % 4294967296 : Nat) : Int) by omega]
  unfold bits
  have h1 : BitVec.ofInt IntKind.u32.bits ((o : Nat) : Int) = BitVec.ofNat 32 o := BitVec.ofInt_natCast _ _
  have h2 : BitVec.ofInt IntKind.u32.bits ((d * 2 ^ s % 4294967296 : Nat) : Int) = BitVec.ofNat 32 (d * 2 ^ s % 4294967296) := BitVec.ofInt_natCast _ _
  have h3 : o ||| (d * 2 ^ s % 4294967296) = o + d * 2 ^ s % 4294967296 := by
    rw [e0, Nat.or_comm, ← Nat.shiftLeft_add_eq_or_of_lt ho, Nat.add_comm]
  have h4 : o + d * 2 ^ s % 4294967296 < 4294967296 := by
    rw [← h3]
    exact Nat.or_lt_two_pow (n := 32) (by omega) (by omega)
  simp only [h1, h2]
  show IntKind.u32.wrap ((BitVec.ofNat 32 o ||| BitVec.ofNat 32 (d * 2 ^ s % 4294967296)).toNat : Int) = _
  rw [BitVec.toNat_or, BitVec.toNat_ofNat, BitVec.toNat_ofNat, Nat.mod_eq_of_lt (by omega), Nat.mod_eq_of_lt (by omega), h3, IntWalk.u32_in _ (by omega)]
theorem short_step {V y r x : Nat} (hr : r < y) (hx : x < 4294967296) (hy : y < 4294967296) : (r * 4294967296 + x) / y < 4294967296 ∧ (r * 4294967296 + x) % y < y ∧ x + 4294967296 * (V * y + r) = ((r * 4294967296 + x) / y + 4294967296 * V) * y + (r * 4294967296 + x) % y := by
  refine ⟨?_, Nat.mod_lt _ (by omega), ?_⟩
  · rw [Nat.div_lt_iff_lt_mul (by omega)]
    have h1 : (r + 1) * 4294967296 ≤ y * 4294967296 := Nat.mul_le_mul_right _ hr
    rw [Nat.mul_comm 4294967296 y]
    omega
  · have h := Nat.div_add_mod (r * 4294967296 + x) y
    generalize (r * 4294967296 + x) / y = q at *
    generalize (r * 4294967296 + x) % y = p at *
    rw [Nat.add_mul, Nat.mul_add, Nat.mul_comm q y, Nat.mul_assoc]
    omega
theorem short_spec (b c : Nat) (xs : List Nat) (y : Nat) (hD : Dg xs) (hy0 : 0 < y) (hy : y < 4294967296) (hx : xs.length ≤ 1099511627776) (w0 w : World) (M : List Blk) (hw : Own w0 (⟨b, dig .u32 xs, 206⟩ :: M) w) :
    Calls Tryz.prog 146 [.slice (some ⟨b, 0, none⟩) xs.length c, .int .u32 y].toArray w (fun e w' => ∃ qs, qs.length = xs.length ∧ Dg qs ∧ vd qs = vd xs / y ∧ RetO (.int .u32 ((vd xs % y : Nat) : Int)) w0 (⟨b, dig .u32 qs, 206⟩ :: M) e w') := by
  refine fn_own hw Tryz.func146 rfl Tryz.ntmps146 rfl ?_
  repeat (refine wkA ?_; try intro _)
  refine j_loop (S := Nat × List Nat × Nat) (fun s => s.1 ≤ xs.length ∧ s.2.1.length = xs.length ∧ Dg s.2.1 ∧ s.2.2 < y ∧ s.2.1.take s.1 = xs.take s.1 ∧ vd (xs.drop s.1) = vd (s.2.1.drop s.1) * y + s.2.2)
    (fun s => [(0, .slice (some ⟨b, 0, none⟩) xs.length c), (1, .int .u32 y), (5, .int .u64 s.2.2), (6, .int .i64 ((s.1 : Int) - 1))]) (fun s => ⟨b, dig .u32 s.2.1, 206⟩ :: M) (fun s => s.1) (xs.length, xs, 0)
    ⟨Nat.le_refl _, rfl, hD, hy0, rfl, by simp [vd]⟩ (by repeat (first | exact sub_nil | refine sub_cons rfl ?_)) (List.Sublist.refl _) (fun s hs => ?_)
  obtain ⟨k, qs, r⟩ := s
  obtain ⟨hk, hl, hDq, hr, ht, hv⟩ := hs
  simp only at hk hl hDq hr ht hv ⊢
  repeat (refine wkA ?_; try intro _)
  refine j_cond rfl (fun h => ?_) (fun h => ?_)
  · have hpos : 0 < k := by have := of_decide_eq_true h; omega
    obtain ⟨i, rfl⟩ : ∃ i, k = i + 1 := ⟨k - 1, by omega⟩
    have hiq : i < qs.length := by omega
    have hix : i < xs.length := by omega
    have hdq := dg_get hDq hiq
    have hqx : qs[i] = xs[i] := by
      have h1 : (qs.take (i + 1))[i]? = (xs.take (i + 1))[i]? := by rw [ht]
      simpa [hiq, hix] using h1
    obtain ⟨g1, g2, g3⟩ := short_step (V := vd (qs.drop (i + 1))) hr hdq hy
    repeat (refine wkA ?_; try intro _)
    refine jq (wl_shl rfl rfl (by decide)) rfl rfl ?_
    repeat (refine wkA ?_; try intro _)
    refine jq (wl_loadD rfl (show qs[0 + (((i + 1 : Nat) : Int) - 1).toNat * 1]? = some qs[i] by rw [show 0 + (((i + 1 : Nat) : Int) - 1).toNat * 1 = i by omega]; simp [hiq])) rfl rfl ?_
    repeat (refine wkA ?_; try intro _)
    refine jq (wl_or rfl rfl) rfl rfl ?_
    rw [or_word _ _ (by omega) hdq]
    repeat (refine wkA ?_; try intro _)
    obtain ⟨Z, hZ⟩ : ∃ Z, Z = r * 4294967296 + qs[i] := ⟨_, rfl⟩
    rw [← hZ] at g1 g2 g3 ⊢
    have hZ64 : Z < 18446744073709551616 := by omega
    generalize hQ : Z / y = q at g1 g3
    generalize hR : Z % y = p at g2 g3
    have hq1 : ((Z : Nat) : Int) / (y : Int) = (q : Int) := by rw [← hQ]; rfl
    have hr1 : ((Z : Nat) : Int) % (y : Int) = (p : Int) := by rw [← hR]; rfl
    (refine j_late [0, 1, 2, 3, 4, 5, 6, 7, 8, 9, 10, 11] [12, 13] ([]) (h := ?_); refine wkI ?_)
    (repeat (refine wkH ?_))
    refine hq (wl_quou rfl rfl ?_) rfl rfl ?_
    · omega
    rw [hq1]
    (repeat (refine wkH ?_))
    refine hq (wl_remu rfl rfl ?_) rfl rfl ?_
    · omega
    rw [hr1]
    (repeat (refine wkH ?_))
    refine jh_nil ?_
    refine we_storeD rfl rfl (by omega) rfl (List.nil_sublist _) ?_
    rw [show 0 + (((i + 1 : Nat) : Int) - 1).toNat * 1 = i by omega]
    refine je_assign rfl rfl rfl (List.nil_sublist _) (je_nil ?_)
    repeat (refine wkA ?_; try intro _)
    have hvs : vd ((qs.set i q).drop i) = q + 4294967296 * vd (qs.drop (i + 1)) := by
      rw [vd_drop _ i (by rw [List.length_set]; exact hiq), List.getElem_set_self, List.drop_set_of_lt (by omega)]
    exact jx_loop (i, qs.set i q, p) ⟨by simp only; omega, by rw [List.length_set]; exact hl, dg_set hDq _ _ g1, g2, by
      simp only
      rw [List.take_set_of_le (by omega)]
      have h1 : (qs.take (i + 1)).take i = (xs.take (i + 1)).take i := by rw [ht]
      simpa [List.take_take] using h1, by
      simp only
      rw [hvs, vd_drop xs i hix, hv, ← hqx]
      exact g3⟩ (by rw [show ((i : Nat) : Int) - 1 = ((i + 1 : Nat) : Int) - 1 - 1 by omega]; repeat (first | exact sub_nil | refine sub_cons rfl ?_)) (List.Sublist.refl _) (by simp only; omega)
  · have hge : k = 0 := by have := of_decide_eq_false h; omega
    subst hge
    repeat (refine wkA ?_; try intro _)
    simp only [List.drop_zero] at hv
    have h1 : vd qs = vd xs / y := by
      rw [hv, Nat.mul_comm, Nat.mul_add_div hy0, Nat.div_eq_of_lt hr, Nat.add_zero]
    have h2 : vd xs % y = r := by
      rw [hv, Nat.mul_comm, Nat.mul_add_mod, Nat.mod_eq_of_lt hr]
    rw [h2]
    exact jx_ret_tmp rfl rfl (fun w hw => ⟨qs, hl, hDq, h1, retO_ok hw⟩)
theorem pow31 {s : Nat} (hs : s < 32) : 1 ≤ 2 ^ s ∧ 2 ^ s ≤ 2147483648 := by
  have h3 : (2 : Nat) ^ s ≤ 2 ^ 31 := Nat.pow_le_pow_right (by omega) (by omega)
  have h4 : 0 < 2 ^ s := Nat.pow_pos (by omega)
  omega
theorem shift_step {os xs : List Nat} {i s : Nat} (hi : i < xs.length) (hl : os.length = xs.length + 1) (hDx : Dg xs) (hs : s < 32) (hv : vd os = vd (xs.take i) * 2 ^ s) :
    ∃ (h1 : i < os.length) (h2 : i + 1 < os.length), os[i] < 2 ^ s ∧ os[i + 1] = 0 ∧ xs[i] * 2 ^ s < 18446744073709551616 ∧ os[i] + xs[i] * 2 ^ s % 4294967296 < 4294967296 ∧ xs[i] * 2 ^ s / 4294967296 < 2 ^ s ∧
      vd ((os.set i (os[i] + xs[i] * 2 ^ s % 4294967296)).set (i + 1) (xs[i] * 2 ^ s / 4294967296)) = vd (xs.take (i + 1)) * 2 ^ s := by
  have h1 : i < os.length := by omega
  have h2 : i + 1 < os.length := by omega
  obtain ⟨hp1, hp2⟩ := pow31 hs
  have hd := dg_get hDx hi
  have hlow := vd_lt (dg_take hDx i)
  rw [List.length_take, Nat.min_eq_left (by omega)] at hlow
  have hbig : vd os < 2 ^ s * 4294967296 ^ i := by
    rw [hv, Nat.mul_comm]
    exact Nat.mul_lt_mul_of_pos_left hlow (by omega)
  have hoi : os[i] < 2 ^ s := by
    have h3 := vd_get_le os i h1
    exact Nat.lt_of_mul_lt_mul_right (a := 4294967296 ^ i) (Nat.lt_of_le_of_lt h3 hbig)
  have hoi1 : os[i + 1] = 0 := by
    refine vd_hi (i := i + 1) ?_ h2
    rw [Nat.pow_succ, Nat.mul_comm (4294967296 ^ i)]
    exact Nat.lt_of_lt_of_le hbig (Nat.mul_le_mul_right _ (by omega))
  have hw : xs[i] * 2 ^ s ≤ 4294967295 * 2147483648 := Nat.mul_le_mul (by omega) hp2
  have hwq : xs[i] * 2 ^ s / 4294967296 < 2 ^ s := by
    rw [Nat.div_lt_iff_lt_mul (by omega), Nat.mul_comm (2 ^ s)]
    exact Nat.mul_lt_mul_of_pos_right hd (by omega)
  have hsum : os[i] + xs[i] * 2 ^ s % 4294967296 < 4294967296 := by
    have e0 : xs[i] * 2 ^ s % 4294967296 = (xs[i] % 2 ^ (32 - s)) * 2 ^ s := by
      conv => lhs; rw [show (4294967296 : Nat) = 2 ^ (32 - s) * 2 ^ s by rw [← Nat.pow_add, show 32 - s + s = 32 by omega]]
      exact Nat.mul_mod_mul_right _ _ _
    have e1 : xs[i] % 2 ^ (32 - s) + 1 ≤ 2 ^ (32 - s) := Nat.mod_lt _ (Nat.pow_pos (by omega))
    have e2 : (xs[i] % 2 ^ (32 - s) + 1) * 2 ^ s ≤ 2 ^ (32 - s) * 2 ^ s := Nat.mul_le_mul_right _ e1
    rw [← Nat.pow_add, show 32 - s + s = 32 by omega, Nat.add_mul, Nat.one_mul] at e2
    omega
  refine ⟨h1, h2, hoi, hoi1, by omega, hsum, hwq, ?_⟩
  have hs1 := vd_set os i (os[i] + xs[i] * 2 ^ s % 4294967296) h1
  have hs2 := vd_set (os.set i (os[i] + xs[i] * 2 ^ s % 4294967296)) (i + 1) (xs[i] * 2 ^ s / 4294967296) (by rw [List.length_set]; exact h2)
  rw [List.getElem_set_ne (by omega), hoi1, Nat.zero_mul, Nat.add_zero] at hs2
  have hy : vd (xs.take (i + 1)) = vd (xs.take i) + 4294967296 ^ i * xs[i] := by
    rw [List.take_succ_eq_append_getElem hi, vd_append, List.length_take, Nat.min_eq_left (by omega)]
    simp [vd]
  rw [hs2, hy, Nat.add_mul, ← hv]
  have e3 : 4294967296 ^ i * xs[i] * 2 ^ s = xs[i] * 2 ^ s * 4294967296 ^ i := by rw [Nat.mul_assoc, Nat.mul_comm]
  rw [e3, Nat.pow_succ]
  have hb := Nat.div_add_mod (xs[i] * 2 ^ s) 4294967296
  generalize xs[i] * 2 ^ s / 4294967296 = q at *
  generalize xs[i] * 2 ^ s % 4294967296 = r at *
  rw [← hb]
  generalize (4294967296 : Nat) ^ i = p at *
  rw [Nat.add_mul] at hs1
  rw [Nat.add_mul, Nat.mul_comm p 4294967296, ← Nat.mul_assoc, Nat.mul_comm q 4294967296]
  omega
theorem pow2i (s : Nat) : (2 : Int) ^ ((s : Int)).toNat = ((2 ^ s : Nat) : Int) := by simp
theorem shifted_spec (b c : Nat) (xs : List Nat) (s : Nat) (fz : Nat × Nat) (hs : s < 32) (hD : Dg xs) (hx : xs.length ≤ 1099511627776) (w : World) (hw : w.heap[b]? = some (.cells (dig .u32 xs) 206 fz)) :
    ∃ os, os.length = xs.length + 1 ∧ Dg os ∧ vd os = vd xs * 2 ^ s ∧
    Calls Tryz.prog 148 [.slice (some ⟨b, 0, none⟩) xs.length c, .int .i64 s].toArray w (RetB (fun b => .slice (some ⟨b, 0, none⟩) (xs.length + 1) (xs.length + 1)) (dig .u32 os) 206 w) := by
  obtain ⟨os, hl, hDo, hv⟩ : ∃ os : List Nat, os.length = xs.length + 1 ∧ Dg os ∧ vd os = vd xs * 2 ^ s := by
    refine ⟨dgs (vd xs * 2 ^ s) (xs.length + 1), dgs_len _ _, dgs_dg _ _, ?_⟩
    rw [vd_dgs, Nat.mod_eq_of_lt]
    obtain ⟨hp1, hp2⟩ := pow31 hs
    have h1 := vd_lt hD
    rw [Nat.pow_succ]
    exact Nat.mul_lt_mul'' h1 (by omega)
  refine ⟨os, hl, hDo, hv, ?_⟩
  refine fn_intro Tryz.func148 rfl Tryz.ntmps148 rfl ?_
  repeat (refine wkA ?_; try intro _)
  rw [show (xs.length : Int) + 1 = ((xs.length + 1 : Nat) : Int) by omega]
  refine wo_makeD (k := .u32) (B := 4) (m := xs.length + 1) rfl rfl ⟨by omega, by omega⟩ rfl rfl ?_
  intro bo
  repeat (refine wkA ?_; try intro _)
  refine j_loop (S := Nat × List Nat) (fun t => t.1 ≤ xs.length ∧ t.2.length = xs.length + 1 ∧ Dg t.2 ∧ vd t.2 = vd (xs.take t.1) * 2 ^ s)
    (fun t => [(1, .int .i64 s), (5, .slice (some ⟨bo, 0, none⟩) (xs.length + 1) (xs.length + 1)), (13, .slice (some ⟨b, 0, none⟩) xs.length c), (14, .int .i64 (xs.length : Int)), (15, .int .i64 t.1)])
    (fun t => [⟨bo, dig .u32 t.2, 206⟩]) (fun t => xs.length - t.1) (0, List.replicate (xs.length + 1) 0)
    ⟨by simp, by simp, dg_zero _, by simp [vd, vd_zero]⟩ (by repeat (first | exact sub_nil | refine sub_cons rfl ?_)) (List.Sublist.refl _) (fun t ht => ?_)
  obtain ⟨i, ps⟩ := t
  obtain ⟨hi, hlp, hDp, hvp⟩ := ht
  simp only at hi hlp hDp hvp ⊢
  repeat (refine wkA ?_; try intro _)
  refine j_cond rfl (fun h => ?_) (fun h => ?_)
  · have hlt : i < xs.length := by have := of_decide_eq_true h; omega
    obtain ⟨h1, h2, g1, g2, g3, g4, g5, g6⟩ := shift_step hlt hlp hD hs hvp
    have hdx := dg_get hD hlt
    obtain ⟨hp1, hp2⟩ := pow31 hs
    repeat (refine wkA ?_; try intro _)
    refine jq (wl_loadDF rfl hw (show xs[0 + (i : Int).toNat * 1]? = some xs[i] by rw [show 0 + (i : Int).toNat * 1 = i by omega]; simp [hlt])) rfl rfl ?_
    repeat (refine wkA ?_; try intro _)
    refine jq (wl_shl rfl rfl (by simp only [IntKind.bits]; omega)) rfl rfl ?_
    rw [pow2i, ← Int.natCast_mul, IntWalk.u64_in _ (by omega)]
    repeat (refine wkA ?_; try intro _)
    refine jq (wl_loadD rfl (show ps[0 + (i : Int).toNat * 1]? = some ps[i] by rw [show 0 + (i : Int).toNat * 1 = i by omega]; simp [h1])) rfl rfl ?_
    refine jq (yl_move rfl) rfl rfl ?_
    refine jq (wl_cv rfl) rfl rfl ?_
    refine jq (wl_or rfl rfl) rfl rfl ?_
    rw [or_low _ _ _ g1 hs]
    repeat (refine wkA ?_; try intro _)
    refine wo_storeD rfl rfl (by omega) rfl ?_
    rw [show 0 + (i : Int).toNat * 1 = i by omega]
    repeat (refine wkA ?_; try intro _)
    refine jq (wl_shr rfl rfl (by decide)) rfl rfl ?_
    rw [p32, show ((xs[i] * 2 ^ s : Nat) : Int) / 4294967296 = ((xs[i] * 2 ^ s / 4294967296 : Nat) : Int) by omega]
    repeat (refine wkA ?_; try intro _)
    refine wo_storeD rfl rfl (by rw [List.length_set]; omega) rfl ?_
    rw [show 0 + ((i : Int) + 1).toNat * 1 = i + 1 by omega]
    repeat (refine wkA ?_; try intro _)
    exact jx_loop (i + 1, _) ⟨hlt, by simp only [List.length_set]; exact hlp, dg_set (dg_set hDp _ _ g4) _ _ (by omega), g6⟩ (by repeat (first | exact sub_nil | refine sub_cons rfl ?_)) (List.Sublist.refl _) (by simp only; omega)
  · have hge : i = xs.length := by have := of_decide_eq_false h; omega
    subst hge
    repeat (refine wkA ?_; try intro _)
    rw [List.take_of_length_le (Nat.le_refl _)] at hvp
    have he : ps = os := vd_inj hDp hDo (by omega) (by rw [hvp, hv])
    subst he
    exact jx_ret_tmp rfl rfl (fun w hw => retB_ok hw)
end Go.Vt
/- Plain mathematics: division of digits by digits. Conditions: those that each statement names. -/
set_option linter.unusedSimpArgs false
set_option linter.unusedVariables false
set_option maxHeartbeats 2000000
namespace Go.Vt
/-- The guess: 'g' is not less than the quotient. -/
theorem guess_start {U Y v1 v2 high z2 p : Nat} (hv : 0 < v1) (hz : z2 < 4294967296) (hU : U < (high * 4294967296 + z2 + 1) * p) (hY : (v1 * 4294967296 + v2) * p ≤ Y) : U < (high / v1 + 1) * Y := by
  have h1 := Nat.div_add_mod high v1
  have h2 := Nat.mod_lt high hv
  generalize high / v1 = g at *
  generalize high % v1 = r at *
  have h3 : high + 1 ≤ (g + 1) * v1 := by rw [Nat.add_mul, Nat.mul_comm g]; omega
  have h4 : (high + 1) * 4294967296 ≤ (g + 1) * v1 * 4294967296 := Nat.mul_le_mul_right _ h3
  have h5 : high * 4294967296 + z2 + 1 ≤ (g + 1) * (v1 * 4294967296 + v2) := by
    rw [Nat.mul_add, ← Nat.mul_assoc]
    have : (high + 1) * 4294967296 = high * 4294967296 + 4294967296 := by rw [Nat.add_mul, Nat.one_mul]
    omega
  have h6 : (high * 4294967296 + z2 + 1) * p ≤ (g + 1) * (v1 * 4294967296 + v2) * p := Nat.mul_le_mul_right _ h5
  have h7 : (g + 1) * ((v1 * 4294967296 + v2) * p) ≤ (g + 1) * Y := Nat.mul_le_mul_left _ hY
  rw [← Nat.mul_assoc] at h7
  omega
/-- A guess that fails the test is too great. -/
theorem guess_less {U Y v1 v2 high rest z2 p g : Nat} (hg : g * v1 + rest = high) (ht : rest * 4294967296 + z2 < g * v2) (hU : U < (high * 4294967296 + z2 + 1) * p) (hY : (v1 * 4294967296 + v2) * p ≤ Y) : U < g * Y := by
  have h5 : high * 4294967296 + z2 + 1 ≤ g * (v1 * 4294967296 + v2) := by
    rw [Nat.mul_add, ← Nat.mul_assoc, ← hg, Nat.add_mul]
    omega
  have h6 : (high * 4294967296 + z2 + 1) * p ≤ g * (v1 * 4294967296 + v2) * p := Nat.mul_le_mul_right _ h5
  have h7 : g * ((v1 * 4294967296 + v2) * p) ≤ g * Y := Nat.mul_le_mul_left _ hY
  rw [← Nat.mul_assoc] at h7
  omega
/-- A guess that passes the test is too great by one at most. -/
theorem guess_end {U Y v1 v2 high rest z2 p g : Nat} (hv : 0 < v1) (hg : g * v1 + rest = high) (ht : g * v2 ≤ rest * 4294967296 + z2) (hB : g < 4294967296) (hU : (high * 4294967296 + z2) * p ≤ U) (hY : Y ≤ (v1 * 4294967296 + v2 + 1) * p) (hY0 : (v1 * 4294967296 + v2) * p ≤ Y) : g * Y ≤ U + Y := by
  have h5 : g * (v1 * 4294967296 + v2) ≤ high * 4294967296 + z2 := by
    rw [Nat.mul_add, ← Nat.mul_assoc, ← hg, Nat.add_mul]
    omega
  have h6 : g * (v1 * 4294967296 + v2) * p ≤ (high * 4294967296 + z2) * p := Nat.mul_le_mul_right _ h5
  have h7 : g * Y ≤ g * ((v1 * 4294967296 + v2 + 1) * p) := Nat.mul_le_mul_left _ hY
  have h8 : g * ((v1 * 4294967296 + v2 + 1) * p) = g * (v1 * 4294967296 + v2) * p + g * p := by
    rw [← Nat.mul_assoc, Nat.mul_add g (v1 * 4294967296 + v2) 1, Nat.add_mul, Nat.mul_one]
  have h9 : g ≤ v1 * 4294967296 + v2 := by
    have : 1 * 4294967296 ≤ v1 * 4294967296 := Nat.mul_le_mul_right _ hv
    omega
  have h10 : g * p ≤ (v1 * 4294967296 + v2) * p := Nat.mul_le_mul_right _ h9
  omega
/-- A guess beyond a digit leaves a remainder of one digit. -/
theorem guess_big {g v1 rest z1 z0 : Nat} (hg : g * v1 + rest = z0 * 4294967296 + z1) (hz : z0 ≤ v1) (h1 : z1 < 4294967296) (hB : 4294967296 ≤ g) : rest < 4294967296 := by
  have h2 : 4294967296 * v1 ≤ g * v1 := Nat.mul_le_mul_right _ hB
  have h3 : z0 * 4294967296 ≤ v1 * 4294967296 := Nat.mul_le_mul_right _ hz
  rw [Nat.mul_comm v1 4294967296] at h3
  omega
/-- The top digits bound a row. -/
theorem top_two {ys : List Nat} {n : Nat} (h : Dg ys) (hn : 2 ≤ n) (hl : ys.length = n) : (ys[n - 1]'(by omega) * 4294967296 + ys[n - 2]'(by omega)) * 4294967296 ^ (n - 2) ≤ vd ys ∧ vd ys < (ys[n - 1]'(by omega) * 4294967296 + ys[n - 2]'(by omega) + 1) * 4294967296 ^ (n - 2) := by
  have h1 := vd_split ys (n - 2) (by omega)
  have h2 : ys.drop (n - 2) = [ys[n - 2]'(by omega), ys[n - 1]'(by omega)] := by
    rw [List.drop_eq_getElem_cons (by omega), List.drop_eq_getElem_cons (by omega), List.drop_eq_nil_of_le (by omega)]
    simp only [show n - 2 + 1 = n - 1 by omega]
  have h3 := vd_lt (dg_take h (n - 2))
  rw [List.length_take, Nat.min_eq_left (by omega)] at h3
  rw [h2] at h1
  simp only [vd, Nat.mul_zero, Nat.add_zero] at h1
  generalize ys[n - 2]'(by omega) = a at *
  generalize ys[n - 1]'(by omega) = b at *
  rw [Nat.mul_comm (4294967296 ^ (n - 2)), Nat.add_comm a, Nat.mul_comm _ b] at h1
  rw [Nat.add_mul _ 1]
  omega
theorem top_three {zs : List Nat} {m : Nat} (h : Dg zs) (hm : 3 ≤ m) (hl : zs.length = m) : ((zs[m - 1]'(by omega) * 4294967296 + zs[m - 2]'(by omega)) * 4294967296 + zs[m - 3]'(by omega)) * 4294967296 ^ (m - 3) ≤ vd zs ∧ vd zs < ((zs[m - 1]'(by omega) * 4294967296 + zs[m - 2]'(by omega)) * 4294967296 + zs[m - 3]'(by omega) + 1) * 4294967296 ^ (m - 3) := by
  have h1 := vd_split zs (m - 3) (by omega)
  have h2 : zs.drop (m - 3) = [zs[m - 3]'(by omega), zs[m - 2]'(by omega), zs[m - 1]'(by omega)] := by
    rw [List.drop_eq_getElem_cons (by omega), List.drop_eq_getElem_cons (by omega), List.drop_eq_getElem_cons (by omega), List.drop_eq_nil_of_le (by omega)]
    simp only [show m - 3 + 1 = m - 2 by omega, show m - 2 + 1 = m - 1 by omega]
  have h3 := vd_lt (dg_take h (m - 3))
  rw [List.length_take, Nat.min_eq_left (by omega)] at h3
  rw [h2] at h1
  simp only [vd, Nat.mul_zero, Nat.add_zero] at h1
  generalize zs[m - 3]'(by omega) = a at *
  generalize zs[m - 2]'(by omega) = b at *
  generalize zs[m - 1]'(by omega) = c at *
  have e : a + 4294967296 * (b + 4294967296 * c) = (c * 4294967296 + b) * 4294967296 + a := by show _ = (c * 4294967296 + b) * 4294967296 + a; omega
  rw [e, Nat.mul_comm (4294967296 ^ (m - 3))] at h1
  rw [Nat.add_mul _ 1]
  omega
/-- One digit of a multiple that is taken away. 'T': what stands over it. -/
theorem msub_step {zs ys : List Nat} {i j c b b' g M t r : Nat} (hk : i < ys.length) (hi : i + j < zs.length) (ht : t = c + g * ys[i]) (hr : r + b + t % 4294967296 = zs[i + j] + b' * 4294967296)
    (hS : vd zs + g * vd (ys.take i) * 4294967296 ^ j = M + (c + b) * 4294967296 ^ (i + j)) :
    vd (zs.set (i + j) r) + g * vd (ys.take (i + 1)) * 4294967296 ^ j = M + (t / 4294967296 + b') * 4294967296 ^ (i + 1 + j) := by
  have hs := vd_set zs (i + j) r hi
  have hb := Nat.div_add_mod t 4294967296
  generalize t / 4294967296 = q at *
  generalize t % 4294967296 = l at *
  have hy : vd (ys.take (i + 1)) = vd (ys.take i) + 4294967296 ^ i * ys[i] := by
    rw [List.take_succ_eq_append_getElem hk, vd_append, List.length_take, Nat.min_eq_left (by omega)]
    simp [vd]
  have e3 : g * (vd (ys.take i) + 4294967296 ^ i * ys[i]) * 4294967296 ^ j = g * vd (ys.take i) * 4294967296 ^ j + g * ys[i] * 4294967296 ^ (i + j) := by rw [Nat.pow_add]; grind
  have e4 : 4294967296 ^ (i + 1 + j) = 4294967296 ^ (i + j) * 4294967296 := by rw [show i + 1 + j = i + j + 1 by omega]; exact Nat.pow_succ _ _
  rw [hy, e3, e4]
  generalize 4294967296 ^ (i + j) = p at *
  have e1 : (r + b + l) * p = (zs[i + j] + b' * 4294967296) * p := by rw [hr]
  have e2 : (4294967296 * q + l) * p = (c + g * ys[i]) * p := by rw [hb, ht]
  have e5 : (q + b') * (p * 4294967296) = 4294967296 * q * p + b' * 4294967296 * p := by grind
  rw [e5]
  rw [Nat.add_mul, Nat.add_mul, Nat.add_mul] at e1
  rw [Nat.add_mul, Nat.add_mul] at e2
  rw [Nat.add_mul] at hS
  omega
/-- One digit of what is added back. -/
theorem madd_step {zs ys : List Nat} {i j c M t : Nat} (hk : i < ys.length) (hi : i + j < zs.length) (ht : t = c + (zs[i + j] + ys[i]))
    (hS : vd zs + c * 4294967296 ^ (i + j) = M + vd (ys.take i) * 4294967296 ^ j) :
    vd (zs.set (i + j) (t % 4294967296)) + t / 4294967296 * 4294967296 ^ (i + 1 + j) = M + vd (ys.take (i + 1)) * 4294967296 ^ j := by
  have hs := vd_set zs (i + j) (t % 4294967296) hi
  have hb := Nat.div_add_mod t 4294967296
  generalize t / 4294967296 = q at *
  generalize t % 4294967296 = l at *
  have hy : vd (ys.take (i + 1)) = vd (ys.take i) + 4294967296 ^ i * ys[i] := by
    rw [List.take_succ_eq_append_getElem hk, vd_append, List.length_take, Nat.min_eq_left (by omega)]
    simp [vd]
  have e3 : (vd (ys.take i) + 4294967296 ^ i * ys[i]) * 4294967296 ^ j = vd (ys.take i) * 4294967296 ^ j + ys[i] * 4294967296 ^ (i + j) := by rw [Nat.pow_add]; grind
  have e4 : 4294967296 ^ (i + 1 + j) = 4294967296 ^ (i + j) * 4294967296 := by rw [show i + 1 + j = i + j + 1 by omega]; exact Nat.pow_succ _ _
  rw [hy, e3, e4]
  generalize 4294967296 ^ (i + j) = p at *
  have e2 : (4294967296 * q + l) * p = (c + (zs[i + j] + ys[i])) * p := by rw [hb, ht]
  have e5 : q * (p * 4294967296) = 4294967296 * q * p := by grind
  rw [e5]
  rw [Nat.add_mul, Nat.add_mul, Nat.add_mul] at e2
  omega
/-- Only the digits from 'j' to 'j + n' differ. -/
structure Same (zs zs' : List Nat) (j n : Nat) : Prop where
  len : zs'.length = zs.length
  dg : Dg zs'
  lo : zs'.take j = zs.take j
  hi : zs'.drop (j + n + 1) = zs.drop (j + n + 1)
theorem same_refl {zs : List Nat} {j n : Nat} (h : Dg zs) : Same zs zs j n := ⟨rfl, h, rfl, rfl⟩
theorem Same.set {zs zs' : List Nat} {j n : Nat} (h : Same zs zs' j n) (k x : Nat) (h1 : j ≤ k) (h2 : k ≤ j + n) (hx : x < 4294967296) : Same zs (zs'.set k x) j n :=
  ⟨by rw [List.length_set]; exact h.len, dg_set h.dg _ _ hx, by rw [List.take_set_of_le h1]; exact h.lo, by rw [List.drop_set_of_lt (by omega)]; exact h.hi⟩
theorem Same.cut {zs zs' : List Nat} {j n : Nat} (h : Same zs zs' j n) (hj : j ≤ zs.length) : vd zs' = vd (zs.take j) + 4294967296 ^ j * vd (zs'.drop j) := by
  rw [vd_split zs' j (by rw [h.len]; exact hj), h.lo]
theorem Same.small {zs zs' : List Nat} {j n : Nat} (h : Same zs zs' j n) (hj : j + n < zs.length) (h0 : vd (zs.drop (j + n + 1)) = 0) : vd (zs'.drop j) < 4294967296 ^ (n + 1) := by
  have h1 := vd_split (zs'.drop j) (n + 1) (by rw [List.length_drop, h.len]; omega)
  rw [List.drop_drop, show j + (n + 1) = j + n + 1 by omega, h.hi, h0, Nat.mul_zero, Nat.add_zero] at h1
  have h2 := vd_lt (dg_take (dg_drop h.dg j) (n + 1))
  rw [List.length_take, List.length_drop, h.len, Nat.min_eq_left (by omega)] at h2
  omega
theorem high_zero {zs : List Nat} {j n : Nat} (hj : j + n < zs.length) (h : vd (zs.drop j) < 4294967296 ^ (n + 1)) : vd (zs.drop (j + n + 1)) = 0 := by
  have h1 := vd_split (zs.drop j) (n + 1) (by rw [List.length_drop]; omega)
  rw [List.drop_drop, show j + (n + 1) = j + n + 1 by omega] at h1
  rcases Nat.eq_zero_or_pos (vd (zs.drop (j + n + 1))) with h2 | h2
  · exact h2
  · have h3 : 4294967296 ^ (n + 1) * 1 ≤ 4294967296 ^ (n + 1) * vd (zs.drop (j + n + 1)) := Nat.mul_le_mul_left _ h2
    omega
/-- What is known ahead of a round. -/
theorem round_pre {zs ys : List Nat} {j n Y : Nat} (hDz : Dg zs) (hDy : Dg ys) (hn : 2 ≤ n) (hly : ys.length = n) (hY : vd ys = Y) (hj : j + n < zs.length) (hlt : vd (zs.drop (j + 1)) < Y) :
    vd (zs.drop (j + n + 1)) = 0 ∧
    ((zs[j + n] * 4294967296 + zs[j + n - 1]'(by omega)) * 4294967296 + zs[j + n - 2]'(by omega)) * 4294967296 ^ (n - 2) ≤ vd (zs.drop j) ∧
    vd (zs.drop j) < ((zs[j + n] * 4294967296 + zs[j + n - 1]'(by omega)) * 4294967296 + zs[j + n - 2]'(by omega) + 1) * 4294967296 ^ (n - 2) ∧
    (ys[n - 1]'(by omega) * 4294967296 + ys[n - 2]'(by omega)) * 4294967296 ^ (n - 2) ≤ Y ∧ Y < (ys[n - 1]'(by omega) * 4294967296 + ys[n - 2]'(by omega) + 1) * 4294967296 ^ (n - 2) ∧
    zs[j + n] ≤ ys[n - 1]'(by omega) ∧ vd (zs.drop j) < 4294967296 * Y := by
  obtain ⟨y1, y2⟩ := top_two hDy hn hly
  rw [hY] at y1 y2
  have hYB : Y < 4294967296 ^ n := by rw [← hY, ← hly]; exact vd_lt hDy
  have hz0 := dg_get hDz (show j < zs.length by omega)
  have hU : vd (zs.drop j) < 4294967296 * Y := by
    rw [vd_drop zs j (by omega)]
    omega
  have hUB : vd (zs.drop j) < 4294967296 ^ (n + 1) := by rw [Nat.pow_succ]; omega
  have h0 := high_zero hj hUB
  have hs : vd (zs.drop j) = vd ((zs.drop j).take (n + 1)) := by
    have h1 := vd_split (zs.drop j) (n + 1) (by rw [List.length_drop]; omega)
    rw [List.drop_drop, show j + (n + 1) = j + n + 1 by omega, h0, Nat.mul_zero, Nat.add_zero] at h1
    exact h1
  have hl3 : ((zs.drop j).take (n + 1)).length = n + 1 := by rw [List.length_take, List.length_drop]; omega
  obtain ⟨t1, t2⟩ := top_three (dg_take (dg_drop hDz j) (n + 1)) (by omega) hl3
  rw [← hs] at t1 t2
  simp only [List.getElem_take, List.getElem_drop, show n + 1 - 1 = n by omega, show n + 1 - 2 = n - 1 by omega, show n + 1 - 3 = n - 2 by omega, show j + (n - 1) = j + n - 1 by omega, show j + (n - 2) = j + n - 2 by omega] at t1 t2
  refine ⟨h0, t1, t2, y1, y2, ?_, hU⟩
  have hy2 := dg_get hDy (show n - 2 < ys.length by omega)
  have hp : 0 < 4294967296 ^ (n - 2) := Nat.pow_pos (by omega)
  have h5 : ((zs[j + n] * 4294967296 + zs[j + n - 1]'(by omega)) * 4294967296 + zs[j + n - 2]'(by omega)) * 4294967296 ^ (n - 2) < (4294967296 * (ys[n - 1]'(by omega) * 4294967296 + ys[n - 2]'(by omega) + 1)) * 4294967296 ^ (n - 2) := by
    rw [Nat.mul_assoc 4294967296]
    omega
  have h6 := Nat.lt_of_mul_lt_mul_right h5
  omega
/-- The multiple is taken away. -/
theorem round_sub {zs z1 z2 ys : List Nat} {j n Y g c b e β z0 : Nat} (hs1 : Same zs z1 j n) (hj : j + n < zs.length) (hly : ys.length = n) (hY : vd ys = Y)
    (h1 : vd z1 + g * vd (ys.take n) * 4294967296 ^ j = vd zs + (c + b) * 4294967296 ^ (n + j)) (hd : z1[j + n]'(by rw [hs1.len]; exact hj) = z0) (he : e + b + c = z0 + β * 4294967296) (h2 : z2 = z1.set (j + n) e) (hs2 : Same zs z2 j n) :
    vd (z2.drop j) + g * Y = vd (zs.drop j) + β * 4294967296 ^ (n + 1) := by
  have hl1 : j + n < z1.length := by rw [hs1.len]; exact hj
  have hset := vd_set z1 (j + n) e hl1
  rw [hd, ← h2] at hset
  have hc2 := hs2.cut (by omega)
  have hc0 := vd_split zs j (by omega)
  rw [List.take_of_length_le (by omega), hY] at h1
  rw [hc0] at h1
  rw [hc2] at hset
  have hp : 0 < 4294967296 ^ j := Nat.pow_pos (by omega)
  have e1 : 4294967296 ^ (j + n) = 4294967296 ^ j * 4294967296 ^ n := Nat.pow_add _ _ _
  have e2 : 4294967296 ^ (n + j) = 4294967296 ^ j * 4294967296 ^ n := by rw [Nat.add_comm]; exact e1
  have e3 : 4294967296 ^ (n + 1) = 4294967296 ^ n * 4294967296 := Nat.pow_succ _ _
  rw [e1] at hset
  rw [e2] at h1
  rw [e3]
  generalize (4294967296 : Nat) ^ n = R at *
  generalize (4294967296 : Nat) ^ j = P at *
  generalize vd (zs.take j) = low at *
  generalize vd (z2.drop j) = U2 at *
  generalize vd (zs.drop j) = U at *
  generalize vd z1 = V at *
  have e4 : (e + b + c) * (P * R) = (z0 + β * 4294967296) * (P * R) := by rw [he]
  have e5 : P * (U2 + g * Y) = P * (U + β * (R * 4294967296)) := by
    have f1 : P * (U2 + g * Y) = P * U2 + g * Y * P := by grind
    have f2 : P * (U + β * (R * 4294967296)) = P * U + β * 4294967296 * (P * R) := by grind
    rw [f1, f2]
    rw [Nat.add_mul, Nat.add_mul, Nat.add_mul] at e4
    rw [Nat.add_mul] at h1
    omega
  exact Nat.eq_of_mul_eq_mul_left hp e5
/-- The divisor is added back. -/
theorem round_add {zs z2 z3 z4 ys : List Nat} {j n Y c e e' o : Nat} (hs2 : Same zs z2 j n) (hs3 : Same zs z3 j n) (hj : j + n < zs.length) (hly : ys.length = n) (hY : vd ys = Y)
    (h1 : vd z3 + c * 4294967296 ^ (n + j) = vd z2 + vd (ys.take n) * 4294967296 ^ j) (hd : z3[j + n]'(by rw [hs3.len]; exact hj) = e) (he : e' + o * 4294967296 = e + c) (h2 : z4 = z3.set (j + n) e') (hs4 : Same zs z4 j n) :
    vd (z4.drop j) + o * 4294967296 ^ (n + 1) = vd (z2.drop j) + Y := by
  have hl1 : j + n < z3.length := by rw [hs3.len]; exact hj
  have hset := vd_set z3 (j + n) e' hl1
  rw [hd, ← h2] at hset
  have hc4 := hs4.cut (by omega)
  have hc2 := hs2.cut (by omega)
  rw [List.take_of_length_le (by omega), hY] at h1
  rw [hc2] at h1
  rw [hc4] at hset
  have hp : 0 < 4294967296 ^ j := Nat.pow_pos (by omega)
  have e1 : 4294967296 ^ (j + n) = 4294967296 ^ j * 4294967296 ^ n := Nat.pow_add _ _ _
  have e2 : 4294967296 ^ (n + j) = 4294967296 ^ j * 4294967296 ^ n := by rw [Nat.add_comm]; exact e1
  have e3 : 4294967296 ^ (n + 1) = 4294967296 ^ n * 4294967296 := Nat.pow_succ _ _
  rw [e1] at hset
  rw [e2] at h1
  rw [e3]
  generalize (4294967296 : Nat) ^ n = R at *
  generalize (4294967296 : Nat) ^ j = P at *
  generalize vd (zs.take j) = low at *
  generalize vd (z4.drop j) = U4 at *
  generalize vd (z2.drop j) = U2 at *
  generalize vd z3 = V at *
  have e4 : (e' + o * 4294967296) * (P * R) = (e + c) * (P * R) := by rw [he]
  have e5 : P * (U4 + o * (R * 4294967296)) = P * (U2 + Y) := by
    have f1 : P * (U4 + o * (R * 4294967296)) = P * U4 + o * 4294967296 * (P * R) := by grind
    have f2 : P * (U2 + Y) = P * U2 + Y * P := by grind
    rw [f1, f2]
    rw [Nat.add_mul, Nat.add_mul] at e4
    omega
  exact Nat.eq_of_mul_eq_mul_left hp e5
/-- The guess was right. -/
theorem round_right {U U2 g Y R : Nat} (h : U2 + g * Y = U + 0 * R) (hg : U < (g + 1) * Y) : U = U2 + g * Y ∧ U2 < Y := by
  rw [Nat.add_mul, Nat.one_mul] at hg
  omega
/-- The guess was too great by one. -/
theorem round_back {U U2 U4 g Y R o : Nat} (h : U2 + g * Y = U + 1 * R) (hle : g * Y ≤ U + Y) (h2 : U2 < R) (h4 : U4 < R) (ho : o ≤ 1) (hb : U4 + o * R = U2 + Y) (hg : 0 < g) : U = U4 + (g - 1) * Y ∧ U4 < Y := by
  obtain ⟨k, rfl⟩ : ∃ k, g = k + 1 := ⟨g - 1, by omega⟩
  rw [Nat.add_mul, Nat.one_mul] at h hle
  simp only [Nat.add_sub_cancel]
  have : o = 0 ∨ o = 1 := by omega
  rcases this with rfl | rfl <;> omega
/-- A round's gain. -/
theorem round_gain {zs z' os : List Nat} {A Y j n q : Nat} (hs : Same zs z' j n) (hj : j ≤ zs.length) (hi : j < os.length) (h0 : os[j] = 0) (hA : A = vd zs + Y * vd os) (hU : vd (zs.drop j) = vd (z'.drop j) + q * Y) : A = vd z' + Y * vd (os.set j q) := by
  have h1 := vd_set os j q hi
  rw [h0, Nat.zero_mul, Nat.add_zero] at h1
  rw [h1, hA, hs.cut hj, vd_split zs j hj, hU]
  grind
/-- The end. -/
theorem div_end {a b s r q : Nat} (h : a * 2 ^ s = r + b * 2 ^ s * q) (hr : r < b * 2 ^ s) : q = a / b ∧ r = a % b * 2 ^ s := by
  have hp : 0 < 2 ^ s := Nat.pow_pos (by omega)
  have hb : 0 < b := by
    rcases Nat.eq_zero_or_pos b with h0 | h0
    · subst h0; simp at hr
    · exact h0
  have h1 : q = a * 2 ^ s / (b * 2 ^ s) := by
    rw [h, Nat.add_mul_div_left _ _ (Nat.mul_pos hb hp), Nat.div_eq_of_lt hr, Nat.zero_add]
  have h2 : r = a * 2 ^ s % (b * 2 ^ s) := by
    rw [h, Nat.add_mul_mod_self_left, Nat.mod_eq_of_lt hr]
  rw [Nat.mul_div_mul_right _ _ hp] at h1
  rw [Nat.mul_mod_mul_right] at h2
  exact ⟨h1, h2⟩
end Go.Vt
/- Division of magnitudes. Conditions: the lengths that each statement names. -/
set_option linter.unusedSimpArgs false
set_option linter.unusedVariables false
set_option maxHeartbeats 2000000
set_option maxRecDepth 100000
set_option maxHeartbeats 20000000
namespace Go.Vt
open Go.RowKit Go.Proofs
/-- A call that turns the caller's own blocks in a way that is told by a state. -/
theorem wo_callX {P : Program} {w0 : World} {n : Nat} {ops : Array Oper} {L : List Blk} {E : Env} {Q : Exit → Act → World → Prop} {rest : List Oper} {ty : TypeId} {pos : String} {aft : Array Edge} {gd : Option (Nat × Bool)}
    {f : FuncId} {xs : List Operand} {l : List Value} {ats : Array TypeId} {t : Tmp} {S : Type} (I : S → Prop) (val : S → Value) (mem : S → List Blk) (hl : Env.evs E xs = some l) [hf : CallC P f] (hc : ∀ w, Own w0 L w → Calls P f l.toArray w fun e w' => ∃ s, I s ∧ RetO (val s) w0 (mem s) e w')
    (hg : guardB ops E gd = some true) (hd : Nat.blt t n = true) (h : ∀ s, I s → JO P w0 n ops Q rest ((t, val s) :: E) (mem s)) : JO P w0 n ops Q (⟨some t, .call ⟨.value (.func f), xs.toArray, ats⟩, ty, pos, aft, gd⟩ :: rest) E L :=
  jo_c (S := {s : S // I s}) (o := ⟨some t, .call ⟨.value (.func f), xs.toArray, ats⟩, ty, pos, aft, gd⟩) hg hd (fun s => val s.1) (fun s => mem s.1) (fun _ _ ha => run_call hf.out ha hl)
    (fun w hw => (hc w hw).mono fun _ _ ⟨s, hs, he, ho⟩ => ⟨⟨s, hs⟩, he, ho⟩) (fun s => h s.1 s.2)
theorem shifted_spec' (b c : Nat) (xs : List Nat) (s : Nat) (fz : Nat × Nat) (hs : s < 32) (hD : Dg xs) (hx : xs.length ≤ 1099511627776) (w : World) (hw : w.heap[b]? = some (.cells (dig .u32 xs) 206 fz)) :
    Calls Tryz.prog 148 [.slice (some ⟨b, 0, none⟩) xs.length c, .int .i64 s].toArray w (RetB (fun b => .slice (some ⟨b, 0, none⟩) (xs.length + 1) (xs.length + 1)) (dig .u32 (dgs (vd xs * 2 ^ s) (xs.length + 1))) 206 w) := by
  obtain ⟨os, h1, h2, h3, h4⟩ := shifted_spec b c xs s fz hs hD hx w hw
  rw [dgs_of h2 h1 h3] at h4
  exact h4
instance sp_lz (x : Nat) : SpecC Tryz.prog 147 [.int .u32 x] (.int .i64 (32 - (Lib.bitLen x : Int))) (x < 4294967296) := ⟨fun h w => (Tryz.bits_LeadingZeros32 x w (by omega) (by omega)).mono fun e w' ⟨h1, h2⟩ => by subst h2; exact ⟨h1, Ext.refl _⟩⟩
theorem bit32 {x : Nat} (h0 : x ≠ 0) (h : x < 4294967296) : 1 ≤ Lib.bitLen x ∧ Lib.bitLen x ≤ 32 ∧ x < 2 ^ Lib.bitLen x := by
  obtain ⟨h1, h2, h3⟩ := bitLen_spec (x := x) (by omega) h0
  refine ⟨h1, ?_, h3⟩
  rcases Nat.lt_or_ge 32 (Lib.bitLen x) with h4 | h4
  · have h5 : (2 : Nat) ^ 32 ≤ 2 ^ (Lib.bitLen x - 1) := Nat.pow_le_pow_right (by omega) (by omega)
    omega
  · exact h4
/-- The number of digits. -/
theorem digs_low {b n : Nat} (hb : b ≠ 0) (hn : n = ((mag b).size + 3) / 4) : 1 ≤ n ∧ 4294967296 ^ (n - 1) ≤ b ∧ b < 4294967296 ^ n := by
  have h1 : 1 ≤ (mag b).size := by
    rcases Nat.eq_zero_or_pos (mag b).size with h1 | h1
    · exfalso
      have : (mag b).size ≤ 0 := by omega
      rw [mag_size] at this
      omega
    · exact h1
  refine ⟨by omega, ?_, ?_⟩
  · rw [pow_dig4]
    rcases Nat.lt_or_ge b (256 ^ (4 * (n - 1))) with h2 | h2
    · have := mag_size.2 h2
      omega
    · exact h2
  · rw [pow_dig4]
    have h2 : b < 256 ^ (mag b).size := mag_size.1 (Nat.le_refl _)
    exact Nat.lt_of_lt_of_le h2 (Nat.pow_le_pow_right (by omega) (by omega))
/-- The greatest digit. -/
theorem top_digit {b n : Nat} (hb : b ≠ 0) (hn : n = ((mag b).size + 3) / 4) : ∃ t, (dgs b n)[n - 1]? = some t ∧ t ≠ 0 ∧ t < 4294967296 ∧ t * 4294967296 ^ (n - 1) ≤ b ∧ b < (t + 1) * 4294967296 ^ (n - 1) := by
  obtain ⟨h1, h2, h3⟩ := digs_low hb hn
  have hl := dgs_len n b
  have hD := dgs_dg n b
  have hv : vd (dgs b n) = b := by rw [vd_dgs, Nat.mod_eq_of_lt h3]
  generalize dgs b n = ds at *
  have hi : n - 1 < ds.length := by omega
  refine ⟨ds[n - 1], by simp [hi], ?_, dg_get hD hi, ?_⟩
  · intro h0
    have h4 := vd_split ds (n - 1) (by omega)
    rw [List.drop_eq_getElem_cons hi, List.drop_eq_nil_of_le (by omega), h0] at h4
    have h5 := vd_lt (dg_take hD (n - 1))
    rw [List.length_take, Nat.min_eq_left (by omega)] at h5
    simp [vd] at h4
    omega
  · have h4 := vd_split ds (n - 1) (by omega)
    rw [List.drop_eq_getElem_cons hi, List.drop_eq_nil_of_le (by omega), hv] at h4
    have h5 := vd_lt (dg_take hD (n - 1))
    rw [List.length_take, Nat.min_eq_left (by omega)] at h5
    simp only [vd, Nat.mul_zero, Nat.add_zero] at h4
    rw [Nat.mul_comm (4294967296 ^ (n - 1))] at h4
    rw [Nat.add_mul, Nat.one_mul]
    omega
theorem dgs_snoc {a n : Nat} (h : a < 4294967296 ^ n) : dgs a (n + 1) = dgs a n ++ [0] := by
  symm
  refine dgs_of (dg_append (dgs_dg _ _) (fun d hd => by simp at hd; omega)) (by simp [dgs_len]) ?_
  rw [vd_append, vd_dgs, Nat.mod_eq_of_lt h]
  simp [vd]
/-- What stands ahead of a round: 'k' digits of the quotient are to come. -/
structure KI (A Y n m k : Nat) (zs os : List Nat) : Prop where
  hk : k ≤ m
  lz : zs.length = m + n
  dz : Dg zs
  lo : os.length = m
  dO : Dg os
  z0 : ∀ i, i < k → os[i]? = some 0
  eq : A = vd zs + Y * vd os
  lt : vd (zs.drop k) < Y
theorem shift_top {b s t n : Nat} (hn : 1 ≤ n) (hs : s ≤ 32) (h : b < (t + 1) * 4294967296 ^ (n - 1)) (ht : t < 2 ^ (32 - s)) : b * 2 ^ s < 4294967296 ^ n := by
  have hp : 0 < 2 ^ s := Nat.pow_pos (by omega)
  have h1 : b * 2 ^ s < (t + 1) * 4294967296 ^ (n - 1) * 2 ^ s := Nat.mul_lt_mul_of_pos_right h hp
  have h2 : (t + 1) * 2 ^ s ≤ 2 ^ (32 - s) * 2 ^ s := Nat.mul_le_mul_right _ ht
  rw [← Nat.pow_add, show 32 - s + s = 32 by omega] at h2
  have h3 : (t + 1) * 2 ^ s * 4294967296 ^ (n - 1) ≤ 2 ^ 32 * 4294967296 ^ (n - 1) := Nat.mul_le_mul_right _ h2
  have h4 : 2 ^ 32 * 4294967296 ^ (n - 1) = 4294967296 ^ n := by
    obtain ⟨k, rfl⟩ : ∃ k, n = k + 1 := ⟨n - 1, by omega⟩
    rw [Nat.add_sub_cancel, show (4294967296 : Nat) ^ (k + 1) = 4294967296 ^ k * 4294967296 from Nat.pow_succ _ _, Nat.mul_comm]
  have h5 : (t + 1) * 4294967296 ^ (n - 1) * 2 ^ s = (t + 1) * 2 ^ s * 4294967296 ^ (n - 1) := by rw [Nat.mul_assoc, Nat.mul_comm (4294967296 ^ (n - 1)), ← Nat.mul_assoc]
  omega
theorem ki_start {a b s n m nx : Nat} (ha : a < 4294967296 ^ nx) (hb : 4294967296 ^ (n - 1) ≤ b) (hn : 1 ≤ n) (hm : nx + 1 = m + n) (hs : s < 32) : KI (a * 2 ^ s) (b * 2 ^ s) n m m (dgs (a * 2 ^ s) (nx + 1)) (List.replicate m 0) := by
  obtain ⟨hp1, hp2⟩ := pow31 hs
  have hA : a * 2 ^ s < 4294967296 ^ (nx + 1) := by
    rw [Nat.pow_succ]
    exact Nat.mul_lt_mul'' ha (by omega)
  have hv : vd (dgs (a * 2 ^ s) (nx + 1)) = a * 2 ^ s := by rw [vd_dgs, Nat.mod_eq_of_lt hA]
  refine ⟨Nat.le_refl _, by rw [dgs_len, hm], dgs_dg _ _, by simp, dg_zero _, fun i hi => by simp [hi], by rw [hv, vd_zero]; simp, ?_⟩
  have h1 := vd_split (dgs (a * 2 ^ s) (nx + 1)) m (by rw [dgs_len]; omega)
  rw [hv] at h1
  have h2 : a * 2 ^ s < 4294967296 ^ nx * 2 ^ s := Nat.mul_lt_mul_of_pos_right ha (by omega)
  have h3 : 4294967296 ^ nx = 4294967296 ^ m * 4294967296 ^ (n - 1) := by rw [← Nat.pow_add]; congr 1; omega
  have h4 : 4294967296 ^ m * vd ((dgs (a * 2 ^ s) (nx + 1)).drop m) < 4294967296 ^ m * (4294967296 ^ (n - 1) * 2 ^ s) := by
    rw [← Nat.mul_assoc, ← h3]
    omega
  have h5 := Nat.lt_of_mul_lt_mul_left h4
  have h6 : 4294967296 ^ (n - 1) * 2 ^ s ≤ b * 2 ^ s := Nat.mul_le_mul_right _ hb
  omega
theorem rest_digit {zs : List Nat} {W i s : Nat} (hD : Dg zs) (hv : vd zs = W * 2 ^ s) (hi : i + 1 < zs.length) (hs : s < 32) : (zs[i + 1] * 4294967296 + zs[i]) / 2 ^ s % 4294967296 = W / 4294967296 ^ i % 4294967296 := by
  have hp : 0 < 2 ^ s := Nat.pow_pos (by omega)
  have h0 := vd_digit zs hD i (by omega)
  have h1 := vd_digit zs hD (i + 1) hi
  rw [Nat.pow_succ, ← Nat.div_div_eq_div_mul] at h1
  have hW : W = vd zs / 2 ^ s := by rw [hv, Nat.mul_div_cancel _ hp]
  have e1 : W / 4294967296 ^ i = vd zs / 4294967296 ^ i / 2 ^ s := by rw [hW, Nat.div_div_eq_div_mul, Nat.div_div_eq_div_mul, Nat.mul_comm]
  rw [e1, ← h0, ← h1]
  generalize vd zs / 4294967296 ^ i = Z
  have h2 : Z / 4294967296 % 4294967296 * 4294967296 + Z % 4294967296 = Z % (4294967296 * 4294967296) := by rw [Nat.mod_mul]; omega
  rw [h2]
  have h3 := Nat.div_add_mod Z (4294967296 * 4294967296)
  generalize Z % (4294967296 * 4294967296) = r at *
  generalize Z / (4294967296 * 4294967296) = k at *
  have h4 : (4294967296 : Nat) * 4294967296 * k = 2 ^ s * (4294967296 * (2 ^ (32 - s) * k)) := by
    have h5 : (4294967296 : Nat) = 2 ^ s * 2 ^ (32 - s) := by rw [← Nat.pow_add, show s + (32 - s) = 32 by omega]
    have h6 : (4294967296 : Nat) * 4294967296 * k = 4294967296 * (4294967296 * k) := Nat.mul_assoc _ _ _
    rw [h6]
    conv => lhs; rw [h5]
    rw [show 2 ^ s * 2 ^ (32 - s) * (2 ^ s * 2 ^ (32 - s) * k) = 2 ^ s * ((2 ^ s * 2 ^ (32 - s)) * (2 ^ (32 - s) * k)) by grind, ← h5]
  rw [← h3, h4, Nat.mul_add_div hp, Nat.mul_add_mod]
theorem row_step {l : List Nat} {i n : Nat} (hl : l.length = n) (hi : i < n) : (l.take i ++ List.replicate (n - i) 0).set i (l[i]'(by omega)) = l.take (i + 1) ++ List.replicate (n - (i + 1)) 0 := by
  have h1 : (l.take i).length = i := by rw [List.length_take]; omega
  obtain ⟨k, hk⟩ : ∃ k, n - i = k + 1 := ⟨n - i - 1, by omega⟩
  rw [hk, show n - (i + 1) = k by omega, List.set_append_right _ _ (by omega), h1, Nat.sub_self, List.replicate_succ, List.set_cons_zero, List.take_succ_eq_append_getElem (by omega), List.append_assoc]
  rfl
theorem v1_pos {Y v1 v2 n : Nat} (hn : 2 ≤ n) (h : 4294967296 ^ (n - 1) ≤ Y) (hY : Y < (v1 * 4294967296 + v2 + 1) * 4294967296 ^ (n - 2)) (h2 : v2 < 4294967296) : 0 < v1 := by
  rcases Nat.eq_zero_or_pos v1 with h0 | h0
  · exfalso
    subst h0
    have h1 : (0 * 4294967296 + v2 + 1) * 4294967296 ^ (n - 2) ≤ 4294967296 * 4294967296 ^ (n - 2) := Nat.mul_le_mul_right _ (by omega)
    have h3 : 4294967296 ^ (n - 1) = 4294967296 * 4294967296 ^ (n - 2) := by
      rw [show n - 1 = n - 2 + 1 by omega, Nat.pow_succ, Nat.mul_comm]
    omega
  · exact h0
theorem div_spec (a b : Nat) (hb0 : b ≠ 0) (ha : (mag a).size ≤ 1099511627776) (hb : (mag b).size ≤ 1099511627776) (w : World) : Calls Tryz.prog 115 [.string (mag a), .string (mag b)].toArray w (Ret (.tuple #[.string (mag (a / b)), .string (mag (a % b))]) w) := by
  refine fn_intro Tryz.func115 rfl Tryz.ntmps115 rfl ?_
  repeat (refine wkA ?_; try intro _)
  refine j_cond rfl (fun h => ?_) (fun h => ?_)
  · rw [Bool.and_eq_true] at h
    have h1 := lo_sm h.1
    have h2 := lo_sm h.2
    have h3 := lo_lt a
    have h4 := lo_lt b
    rw [h1] at h3
    rw [h2] at h4
    simp only [h1, h2]
    have hqd : (a : Int) / (b : Int) = ((a / b : Nat) : Int) := rfl
    have hrd : (a : Int) % (b : Int) = ((a % b : Nat) : Int) := rfl
    have hq2 : a / b ≤ a := Nat.div_le_self _ _
    have hr2 : a % b ≤ a := Nat.mod_le _ _
    repeat (refine wkA ?_; try intro _)
    refine jD 10 10 (h := ?_)
    (repeat (refine wkH ?_))
    refine hq (wl_quou rfl rfl ?_) rfl rfl ?_
    · omega
    rw [hqd]
    (repeat (first | refine wkH ?_ | (refine tC rfl rfl ?_ ?_; focus (omega))))
    refine hq (wl_remu rfl rfl ?_) rfl rfl ?_
    · omega
    rw [hrd]
    (repeat (first | refine wkH ?_ | (refine tC rfl rfl ?_ ?_; focus (omega))))
    refine jh_nil (jn_nil ?_)
    repeat (refine wkA ?_; try intro _)
    exact jx_ret_two rfl (resv_tmp rfl) (resv_tmp rfl) (fun w hw => ret_ok hw)
  · repeat (refine wkA ?_; try intro _)
    refine j_cond rfl (fun h => ?_) (fun h => ?_)
    · have hlt := cmp_neg.1 (of_decide_eq_true h)
      repeat (refine wkA ?_; try intro _)
      rw [Nat.div_eq_of_lt (by omega), Nat.mod_eq_of_lt (by omega)]
      exact jx_ret_two rfl (resv_tmp rfl) (resv_tmp rfl) (fun w hw => ret_ok hw)
    · have hge : b ≤ a := by
        have := of_decide_eq_false h
        rw [cmp_neg] at this
        omega
      repeat (refine wkA ?_; try intro _)
      refine wo_callB rfl (fun w' _ => digits_spec b hb w') rfl rfl ?_
      intro bY
      obtain ⟨nb, hnb⟩ : ∃ nb, nb = ((mag b).size + 3) / 4 := ⟨_, rfl⟩
      obtain ⟨na, hna⟩ : ∃ na, na = ((mag a).size + 3) / 4 := ⟨_, rfl⟩
      simp only [← hnb]
      obtain ⟨hn1, hbl, hbh⟩ := digs_low hb0 hnb
      obtain ⟨t, ht, ht0, htB, htl, hth⟩ := top_digit hb0 hnb
      have hvb : vd (dgs b nb) = b := by rw [hnb, digits_val]
      have hlb := dgs_len nb b
      have hDb := dgs_dg nb b
      repeat (refine wkA ?_; try intro _)
      refine j_cond rfl (fun h => ?_) (fun h => ?_)
      · have hone : nb = 1 := by have := of_decide_eq_true h; omega
        subst hone
        repeat (refine wkA ?_; try intro _)
        refine wo_callB rfl (fun w' _ => digits_spec a ha w') rfl rfl ?_
        intro bx
        simp only [← hna]
        repeat (refine wkA ?_; try intro _)
        refine jq (wl_loadD rfl (show (dgs b 1)[0 + (0 : Int).toNat * 1]? = some t from ht)) rfl rfl ?_
        have htb : t = b := by
          simp only [Nat.sub_self, Nat.pow_zero, Nat.mul_one] at htl hth
          omega
        have hva : vd (dgs a na) = a := by rw [hna, digits_val]
        have hla := dgs_len na a
        have hDa := dgs_dg na a
        generalize dgs a na = xs at *
        subst hla
        refine wo_callX (S := List Nat) (fun qs => qs.length = xs.length ∧ Dg qs ∧ vd qs = vd xs / t) (fun _ => .int .u32 ((vd xs % t : Nat) : Int)) (fun qs => [⟨bx, dig .u32 qs, 206⟩, ⟨bY, dig .u32 (dgs b 1), 206⟩]) rfl
          (fun w' hw' => (short_spec bx xs.length xs t hDa (by omega) htB (by omega) _ w' _ hw').mono fun e w2 ⟨qs, g1, g2, g3, g4⟩ => ⟨qs, ⟨g1, g2, g3⟩, g4⟩) rfl rfl (fun qs hqs => ?_)
        obtain ⟨g1, g2, g3⟩ := hqs
        repeat (refine wkA ?_; try intro _)
        refine jq (wl_callW rfl (fun w' hw' => bytes_spec bx xs.length xs.length qs (0, 0) (by omega) (Nat.le_refl _) (by omega) g2 w' (hw'.mem _ MemC.out).2)) rfl rfl ?_
        have e1 : vd (qs.take xs.length) = a / b := by rw [List.take_of_length_le (by omega), g3, hva, htb]
        have e2 : vd xs % t = a % b := by rw [hva, htb]
        rw [e1]
        have hrb : a % b < 4294967296 := by have := Nat.mod_lt a (Nat.pos_of_ne_zero hb0); omega
        simp only [e2]
        repeat (first | (refine wkA ?_; try intro _) | (refine sC rfl rfl ?_ ?_; focus (omega)))
        exact jx_ret_two rfl (resv_tmp rfl) (resv_tmp rfl) (fun w hw => ret_ok hw)
      · have hn2 : 2 ≤ nb := by have := of_decide_eq_false h; omega
        have hnle : nb ≤ na := by have := size_mono hge; omega
        obtain ⟨l1, l2, l3⟩ := bit32 ht0 htB
        obtain ⟨s, hs⟩ : ∃ s, s = 32 - Lib.bitLen t := ⟨_, rfl⟩
        have es : (32 : Int) - Lib.bitLen t = (s : Int) := by omega
        have hs32 : s < 32 := by omega
        rw [show Lib.bitLen t = 32 - s by omega] at l3
        have hYB := shift_top hn1 (by omega) hth l3
        obtain ⟨hp1, hp2⟩ := pow31 hs32
        repeat (refine wkA ?_; try intro _)
        refine jq (wl_loadD rfl (show (dgs b nb)[0 + ((nb : Int) - 1).toNat * 1]? = some t by rw [show 0 + ((nb : Int) - 1).toNat * 1 = nb - 1 by omega]; exact ht)) rfl rfl ?_
        repeat (first | (refine wkA ?_; try intro _) | (refine sC rfl rfl ?_ ?_; focus (exact htB)))
        simp only [es]
        refine wo_callB rfl (fun w' _ => digits_spec a ha w') rfl rfl ?_
        intro bxa
        simp only [← hna]
        have hva : vd (dgs a na) = a := by rw [hna, digits_val]
        have hla := dgs_len na a
        have hDa := dgs_dg na a
        have haB : a < 4294967296 ^ na := (digs_low (by omega) hna).2.2
        generalize dgs a na = xs at *
        subst hla
        generalize dgs b nb = ys0 at *
        subst hlb
        repeat (refine wkA ?_; try intro _)
        refine wo_callB rfl (fun w' hw' => shifted_spec' bxa xs.length xs s (0, 0) hs32 hDa (by omega) w' (hw'.mem _ MemC.out).2) rfl rfl ?_
        intro bx
        rw [hva]
        repeat (refine wkA ?_; try intro _)
        refine wo_callB rfl (fun w' hw' => shifted_spec' bY ys0.length ys0 s (0, 0) hs32 hDb (by omega) w' (hw'.mem _ MemC.out).2) rfl rfl ?_
        intro b2
        rw [hvb, dgs_snoc hYB]
        repeat (refine wkA ?_; try intro _)
        refine jq (wl_slice_hi rfl rfl (by omega)) rfl rfl ?_
        rw [Int.toNat_natCast]
        repeat (refine wkA ?_; try intro _)
        obtain ⟨n, hn⟩ : ∃ n, n = ys0.length := ⟨_, rfl⟩
        obtain ⟨m, hm⟩ : ∃ m, xs.length + 1 = m + n := ⟨xs.length + 1 - n, by omega⟩
        have em : ((xs.length + 1 : Nat) : Int) - (ys0.length : Int) = (m : Int) := by omega
        simp only [em]
        simp only [← hn]
        refine wo_makeD (k := .u32) (B := 4) (m := m) rfl rfl ⟨by omega, by omega⟩ rfl rfl ?_
        intro bo
        repeat (refine wkA ?_; try intro _)
        have hki := ki_start (s := s) haB (by rw [hn]; exact hbl) (by omega) hm hs32
        have hlX := dgs_len (xs.length + 1) (a * 2 ^ s)
        generalize dgs (a * 2 ^ s) (xs.length + 1) = Xs at *
        rw [← hn] at hYB
        have hvY : vd (dgs (b * 2 ^ s) n) = b * 2 ^ s := by rw [vd_dgs, Nat.mod_eq_of_lt hYB]
        have hlY := dgs_len n (b * 2 ^ s)
        have hDY := dgs_dg n (b * 2 ^ s)
        generalize dgs (b * 2 ^ s) n = ys at *
        simp only [hm]
        have hYlow : 4294967296 ^ (n - 1) ≤ b * 2 ^ s := by
          have h1 : b * 1 ≤ b * 2 ^ s := Nat.mul_le_mul_left _ hp1
          rw [hn]
          omega
        generalize hY : b * 2 ^ s = Y at *
        have hm40 : m + n ≤ 1099511627776 := by omega
        clear hvb hDb hva hDa ht hth htl
        refine j_loop (S := Nat × List Nat × List Nat) (fun t => KI (a * 2 ^ s) Y n m t.1 t.2.1 t.2.2)
          (fun t => [(9, .slice (some ⟨b2, 0, none⟩) n (n + 1)), (12, .int .i64 s), (13, .slice (some ⟨bx, 0, none⟩) (m + n) (m + n)), (14, .int .i64 n), (15, .slice (some ⟨bo, 0, none⟩) m m), (16, .int .i64 ((t.1 : Int) - 1))])
          (fun t => [⟨bo, dig .u32 t.2.2, 206⟩, ⟨b2, dig .u32 (ys ++ [0]), 206⟩, ⟨bx, dig .u32 t.2.1, 206⟩]) (fun t => t.1) (m, Xs, List.replicate m 0) hki
          (by repeat (first | exact sub_nil | refine sub_cons rfl ?_)) (by repeat (first | exact List.Sublist.refl _ | exact List.nil_sublist _ | refine List.Sublist.cons_cons _ ?_ | refine List.Sublist.cons _ ?_)) (fun t ht => ?_)
        obtain ⟨k, zs, os⟩ := t
        simp only at ht ⊢
        repeat (refine wkA ?_; try intro _)
        refine j_cond rfl (fun h => ?_) (fun h => ?_)
        · have hpos : 0 < k := by have := of_decide_eq_true h; omega
          obtain ⟨j, rfl⟩ : ∃ j, k = j + 1 := ⟨k - 1, by omega⟩
          obtain ⟨kk, klz, kdz, klo, kdo, kz0, keq, klt⟩ := ht
          have hjn : j + n < zs.length := by omega
          have hj1 : j + n - 1 < zs.length := by omega
          have hj2 : j + n - 2 < zs.length := by omega
          have hy1 : n - 1 < ys.length := by omega
          have hy2 : n - 2 < ys.length := by omega
          obtain ⟨p0, p1, p2, p3, p4, p5, p6⟩ := round_pre kdz hDY (by omega) hlY hvY hjn klt
          have hz0 := dg_get kdz hjn
          have hz1 := dg_get kdz hj1
          have hz2 := dg_get kdz hj2
          have hv1 := dg_get hDY hy1
          have hv2 := dg_get hDY hy2
          have g1 : zs[j + n]? = some zs[j + n] := List.getElem?_eq_getElem hjn
          have g2 : zs[j + n - 1]? = some zs[j + n - 1] := List.getElem?_eq_getElem hj1
          have g3 : zs[j + n - 2]? = some zs[j + n - 2] := List.getElem?_eq_getElem hj2
          have g4 : (ys ++ [0])[n - 1]? = some ys[n - 1] := by rw [List.getElem?_append_left hy1]; exact List.getElem?_eq_getElem hy1
          have g5 : (ys ++ [0])[n - 2]? = some ys[n - 2] := by rw [List.getElem?_append_left hy2]; exact List.getElem?_eq_getElem hy2
          generalize hz0' : zs[j + n] = z0 at *
          generalize zs[j + n - 1] = z1 at *
          generalize zs[j + n - 2] = z2 at *
          generalize ys[n - 1] = v1 at *
          generalize ys[n - 2] = v2 at *
          have hv10 : 0 < v1 := v1_pos (by omega) hYlow p4 hv2
          have ej : ((j + 1 : Nat) : Int) - 1 = (j : Int) := by omega
          simp only [ej]
          repeat (refine wkA ?_; try intro _)
          refine jD 18 18 (h := ?_)
          (repeat (refine wkH ?_))
          refine hq (wl_loadD rfl (show zs[0 + ((j : Int) + (n : Int)).toNat * 1]? = some z0 by rw [show 0 + ((j : Int) + (n : Int)).toNat * 1 = j + n by omega]; exact g1)) rfl rfl ?_
          (repeat (refine wkH ?_))
          refine hq (wl_shl rfl rfl (by decide)) rfl rfl ?_
          (repeat (refine wkH ?_))
          refine hq (wl_loadD rfl (show zs[0 + ((j : Int) + (n : Int) - 1).toNat * 1]? = some z1 by rw [show 0 + ((j : Int) + (n : Int) - 1).toNat * 1 = j + n - 1 by omega]; exact g2)) rfl rfl ?_
          (repeat (refine wkH ?_))
          refine hq (wl_or rfl rfl) rfl rfl ?_
          rw [or_word _ _ hz0 hz1]
          (repeat (refine wkH ?_))
          refine jh_nil (jn_nil ?_)
          obtain ⟨high, hhigh⟩ : ∃ high, high = z0 * 4294967296 + z1 := ⟨_, rfl⟩
          simp only [← hhigh] at p1 p2 ⊢
          have hqd : ((high : Nat) : Int) / (v1 : Int) = ((high / v1 : Nat) : Int) := rfl
          have hrd : ((high : Nat) : Int) % (v1 : Int) = ((high % v1 : Nat) : Int) := rfl
          repeat (refine wkA ?_; try intro _)
          (refine j_late [0, 1, 2, 3, 4, 5, 6, 7, 8, 9, 10, 11, 12, 13, 14, 15] [16, 17] (_) (h := ?_); refine wkI ?_)
          (repeat (refine wkH ?_))
          refine hq (wl_loadD rfl (show (ys ++ [0])[0 + ((n : Int) - 1).toNat * 1]? = some v1 by rw [show 0 + ((n : Int) - 1).toNat * 1 = n - 1 by omega]; exact g4)) rfl rfl ?_
          (repeat (refine wkH ?_))
          refine hq (wl_quou rfl rfl ?_) rfl rfl ?_
          · omega
          rw [hqd]
          (repeat (refine wkH ?_))
          refine hq (wl_loadD rfl (show (ys ++ [0])[0 + ((n : Int) - 1).toNat * 1]? = some v1 by rw [show 0 + ((n : Int) - 1).toNat * 1 = n - 1 by omega]; exact g4)) rfl rfl ?_
          (repeat (refine wkH ?_))
          refine hq (wl_remu rfl rfl ?_) rfl rfl ?_
          · omega
          rw [hrd]
          (repeat (refine wkH ?_))
          refine jh_nil ?_
          refine je_assign rfl rfl rfl (List.Sublist.refl _) (je_assign rfl rfl rfl (List.Sublist.refl _) (je_nil ?_))
          have hst := guess_start hv10 hz2 p2 p3
          have hdm := Nat.div_add_mod high v1
          have hml := Nat.mod_lt high hv10
          have hgh : high / v1 ≤ high := Nat.div_le_self _ _
          generalize high / v1 = g0 at *
          generalize high % v1 = r0 at *
          generalize hU : vd (zs.drop j) = U at *
          refine jx_id (jx_then ?_)
          refine j_mid (S := Nat) (fun g => g < 4294967296 ∧ U < (g + 1) * Y ∧ g * Y ≤ U + Y)
            (fun g => [(9, .slice (some ⟨b2, 0, none⟩) n (n + 1)), (12, .int .i64 s), (13, .slice (some ⟨bx, 0, none⟩) (m + n) (m + n)), (14, .int .i64 n), (15, .slice (some ⟨bo, 0, none⟩) m m), (16, .int .i64 j), (18, .int .u64 g)])
            (fun _ => [⟨bo, dig .u32 os, 206⟩, ⟨b2, dig .u32 (ys ++ [0]), 206⟩, ⟨bx, dig .u32 zs, 206⟩]) ?_ (fun g hg => ?_)
          · repeat (refine wkA ?_; try intro _)
            refine j_loop (S := Nat × Nat) (fun t => t.1 * v1 + t.2 = high ∧ t.1 ≤ high ∧ t.2 < 4294967296 ∧ U < (t.1 + 1) * Y)
              (fun t => [(9, .slice (some ⟨b2, 0, none⟩) n (n + 1)), (12, .int .i64 s), (13, .slice (some ⟨bx, 0, none⟩) (m + n) (m + n)), (14, .int .i64 n), (15, .slice (some ⟨bo, 0, none⟩) m m), (16, .int .i64 j), (18, .int .u64 t.1), (19, .int .u64 t.2)])
              (fun _ => [⟨bo, dig .u32 os, 206⟩, ⟨b2, dig .u32 (ys ++ [0]), 206⟩, ⟨bx, dig .u32 zs, 206⟩]) (fun t => t.1) (g0, r0) ⟨by rw [Nat.mul_comm]; exact hdm, hgh, by simp only; omega, hst⟩
              (by repeat (first | exact sub_nil | refine sub_cons rfl ?_)) (List.Sublist.refl _) (fun t ht => ?_)
            obtain ⟨g, r⟩ := t
            obtain ⟨q1, q2, q3, q4⟩ := ht
            simp only at q1 q2 q3 q4 ⊢
            refine j_mid (S := Unit) (fun _ => U < g * Y)
              (fun _ => [(9, .slice (some ⟨b2, 0, none⟩) n (n + 1)), (12, .int .i64 s), (13, .slice (some ⟨bx, 0, none⟩) (m + n) (m + n)), (14, .int .i64 n), (15, .slice (some ⟨bo, 0, none⟩) m m), (16, .int .i64 j), (18, .int .u64 g), (19, .int .u64 r)])
              (fun _ => [⟨bo, dig .u32 os, 206⟩, ⟨b2, dig .u32 (ys ++ [0]), 206⟩, ⟨bx, dig .u32 zs, 206⟩]) ?_ (fun _ hgr => ?_)
            · refine j_seq ?_
              rcases Nat.lt_or_ge g 4294967296 with hB | hB
              · have hdec : decide ((4294967296 : Int) ≤ (g : Int)) = false := decide_eq_false (by omega)
                obtain ⟨hw1, hw2⟩ := mul_word (c := 0) (o := 0) (by omega) (by omega) hB hv2
                refine jD 24 24 (h := ?_)
                (repeat (refine wkH ?_))
                simp only [hdec]
                (repeat (refine wkH ?_))
                refine hq (wl_loadD rfl (show (ys ++ [0])[0 + ((n : Int) - 2).toNat * 1]? = some v2 by rw [show 0 + ((n : Int) - 2).toNat * 1 = n - 2 by omega]; exact g5)) rfl rfl ?_
                refine hq (wl_cvu rfl ?_) rfl rfl ?_
                · omega
                refine hq (wl_mulu rfl rfl ?_) rfl rfl ?_
                · rw [← Int.natCast_mul]; omega
                rw [← Int.natCast_mul]
                (repeat (refine wkH ?_))
                refine hq (wl_shl rfl rfl (by decide)) rfl rfl ?_
                (repeat (refine wkH ?_))
                refine hq (wl_loadD rfl (show zs[0 + ((j : Int) + (n : Int) - 2).toNat * 1]? = some z2 by rw [show 0 + ((j : Int) + (n : Int) - 2).toNat * 1 = j + n - 2 by omega]; exact g3)) rfl rfl ?_
                (repeat (refine wkH ?_))
                refine hq (wl_or rfl rfl) rfl rfl ?_
                rw [or_word _ _ q3 hz2]
                (repeat (refine wkH ?_))
                refine jh_nil (jn_nil ?_)
                repeat (refine wkA ?_; try intro _)
                refine j_cond rfl (fun h => ?_) (fun h => ?_)
                · have hlt : r * 4294967296 + z2 < g * v2 := by have := of_decide_eq_true h; omega
                  repeat (refine wkA ?_; try intro _)
                  exact jx_mid () (guess_less q1 hlt p2 p3) (by repeat (first | exact sub_nil | refine sub_cons rfl ?_)) (List.Sublist.refl _)
                · have hle : g * v2 ≤ r * 4294967296 + z2 := by have := of_decide_eq_false h; omega
                  repeat (refine wkA ?_; try intro _)
                  exact jx_mid g ⟨hB, q4, guess_end hv10 q1 hle hB p1 (Nat.le_of_lt p4) p3⟩ (by repeat (first | exact sub_nil | refine sub_cons rfl ?_)) (List.Sublist.refl _)
              · have hdec : decide ((4294967296 : Int) ≤ (g : Int)) = true := decide_eq_true (by omega)
                refine jD 24 24 (h := ?_)
                (repeat (refine wkH ?_))
                simp only [hdec]
                (repeat (refine wkH ?_))
                refine jh_nil (jn_nil ?_)
                repeat (refine wkA ?_; try intro _)
                exact jx_mid () (Nat.lt_of_lt_of_le p6 (Nat.mul_le_mul_right _ hB)) (by repeat (first | exact sub_nil | refine sub_cons rfl ?_)) (List.Sublist.refl _)
            · have hg1 : 1 ≤ g := by
                rcases Nat.eq_zero_or_pos g with h0 | h0
                · subst h0; omega
                · exact h0
              obtain ⟨g', rfl⟩ : ∃ g', g = g' + 1 := ⟨g - 1, by omega⟩
              have hwr : IntKind.u64.wrap (((g' + 1 : Nat) : Int) - 1) = (g' : Int) := by rw [IntWalk.u64_in _ (by omega)]; omega
              rw [Nat.add_mul, Nat.one_mul] at q1
              have q1' : g' * v1 + (r + v1) = high := by omega
              repeat (refine wkA ?_; try intro _)
              simp only [hwr]
              refine jq (wl_loadD rfl (show (ys ++ [0])[0 + ((n : Int) - 1).toNat * 1]? = some v1 by rw [show 0 + ((n : Int) - 1).toNat * 1 = n - 1 by omega]; exact g4)) rfl rfl ?_
              repeat (refine wkA ?_; try intro _)
              refine j_cond rfl (fun h => ?_) (fun h => ?_)
              · have hbig : 4294967296 ≤ r + v1 := by have := of_decide_eq_true h; omega
                have hB : g' < 4294967296 := by
                  rcases Nat.lt_or_ge g' 4294967296 with h1 | h1
                  · exact h1
                  · have := guess_big (q1'.trans hhigh) p5 hz1 h1
                    omega
                have hle : g' * v2 ≤ (r + v1) * 4294967296 + z2 := by
                  have h1 : g' * v2 ≤ 4294967296 * 4294967296 := Nat.mul_le_mul (by omega) (by omega)
                  omega
                repeat (refine wkA ?_; try intro _)
                exact jx_mid g' ⟨hB, hgr, guess_end hv10 q1' hle hB p1 (Nat.le_of_lt p4) p3⟩ (by repeat (first | exact sub_nil | refine sub_cons rfl ?_)) (List.Sublist.refl _)
              · have hsm : r + v1 < 4294967296 := by have := of_decide_eq_false h; omega
                repeat (refine wkA ?_; try intro _)
                exact jx_loop (g', r + v1) ⟨q1', by simp only; omega, hsm, hgr⟩ (by repeat (first | exact sub_nil | refine sub_cons rfl ?_)) (List.Sublist.refl _) (by simp only; omega)
          · obtain ⟨hgB, hgU, hgY⟩ := hg
            repeat (refine wkA ?_; try intro _)
            refine j_loop (S := Nat × List Nat × Nat × Nat) (fun t => t.1 ≤ n ∧ Same zs t.2.1 j n ∧ t.2.1[j + n]? = some z0 ∧ t.2.2.1 < 4294967296 ∧ t.2.2.2 ≤ 1 ∧ vd t.2.1 + g * vd (ys.take t.1) * 4294967296 ^ j = vd zs + (t.2.2.1 + t.2.2.2) * 4294967296 ^ (t.1 + j))
              (fun t => [(9, .slice (some ⟨b2, 0, none⟩) n (n + 1)), (12, .int .i64 s), (13, .slice (some ⟨bx, 0, none⟩) (m + n) (m + n)), (14, .int .i64 n), (15, .slice (some ⟨bo, 0, none⟩) m m), (16, .int .i64 j), (18, .int .u64 g), (20, .int .i64 t.2.2.2), (21, .int .u64 t.2.2.1), (167, .int .i64 n), (168, .int .i64 t.1)])
              (fun t => [⟨bo, dig .u32 os, 206⟩, ⟨b2, dig .u32 (ys ++ [0]), 206⟩, ⟨bx, dig .u32 t.2.1, 206⟩]) (fun t => n - t.1) (0, zs, 0, 0) ⟨Nat.zero_le _, same_refl kdz, g1, by simp, by simp, by simp [vd]⟩
              (by repeat (first | exact sub_nil | refine sub_cons rfl ?_)) (List.Sublist.refl _) (fun t ht => ?_)
            obtain ⟨i, zq, c, bw⟩ := t
            obtain ⟨hi, hsm, hzt, hc, hbw, hinv⟩ := ht
            simp only at hi hsm hzt hc hbw hinv ⊢
            repeat (refine wkA ?_; try intro _)
            refine j_cond rfl (fun h => ?_) (fun h => ?_)
            · have hin : i < n := by have := of_decide_eq_true h; omega
              have hiy : i < ys.length := by omega
              have hiz : i + j < zq.length := by rw [hsm.len]; omega
              have hdy := dg_get hDY hiy
              have hdz := dg_get hsm.dg hiz
              obtain ⟨hw1, hw2⟩ := mul_word (o := 0) hc (by omega) hgB hdy
              obtain ⟨T, hT⟩ : ∃ T, T = c + g * ys[i] := ⟨_, rfl⟩
              repeat (refine wkA ?_; try intro _)
              refine jq (wl_loadD rfl (show (ys ++ [0])[0 + (i : Int).toNat * 1]? = some ys[i] by rw [show 0 + (i : Int).toNat * 1 = i by omega, List.getElem?_append_left hiy]; exact List.getElem?_eq_getElem hiy)) rfl rfl ?_
              refine jq (wl_cvu rfl ?_) rfl rfl ?_
              · omega
              refine jq (wl_mulu rfl rfl ?_) rfl rfl ?_
              · rw [← Int.natCast_mul]; omega
              rw [← Int.natCast_mul]
              repeat (refine wkA ?_; try intro _)
              rw [show (c : Int) + ((g * ys[i] : Nat) : Int) = (T : Int) by omega]
              refine jq (wl_loadD rfl (show zq[0 + ((i : Int) + (j : Int)).toNat * 1]? = some zq[i + j] by rw [show 0 + ((i : Int) + (j : Int)).toNat * 1 = i + j by omega]; exact List.getElem?_eq_getElem hiz)) rfl rfl ?_
              refine jq (wl_cv64 rfl ?_) rfl rfl ?_
              · omega
              refine jq (yl_move rfl) rfl rfl ?_
              refine jq (wl_sub64 rfl rfl ?_) rfl rfl ?_
              · omega
              refine jq (yl_move rfl) rfl rfl ?_
              refine jq (wl_cv rfl) rfl rfl ?_
              rw [IntKind.wrap_u32, show (T : Int) % 4294967296 = ((T % 4294967296 : Nat) : Int) by omega]
              repeat (refine wkA ?_; try intro _)
              refine jq (wl_shr rfl rfl (by decide)) rfl rfl ?_
              rw [p32, show (T : Int) / 4294967296 = ((T / 4294967296 : Nat) : Int) by omega]
              repeat (refine wkA ?_; try intro _)
              refine j_cond rfl (fun h => ?_) (fun h => ?_)
              · have hneg : (zq[i + j] : Int) - bw - ((T % 4294967296 : Nat) : Int) < 0 := of_decide_eq_true h
                obtain ⟨r, hr⟩ : ∃ r : Nat, (r : Int) = (zq[i + j] : Int) - bw - ((T % 4294967296 : Nat) : Int) + 4294967296 := ⟨((zq[i + j] : Int) - bw - ((T % 4294967296 : Nat) : Int) + 4294967296).toNat, by omega⟩
                have gs := msub_step (b' := 1) hiy hiz hT (by omega : r + bw + T % 4294967296 = zq[i + j] + 1 * 4294967296) hinv
                repeat (refine wkA ?_; try intro _)
                simp only [← hr]
                refine wo_storeD rfl rfl (by omega) rfl ?_
                rw [show 0 + ((i : Int) + (j : Int)).toNat * 1 = i + j by omega]
                repeat (refine wkA ?_; try intro _)
                exact jx_loop (i + 1, _, T / 4294967296, 1) ⟨hin, hsm.set _ _ (by omega) (by omega) (by omega), by simp only; rw [List.getElem?_set_ne (by omega)]; exact hzt, by simp only; omega, by simp, gs⟩ (by repeat (first | exact sub_nil | refine sub_cons rfl ?_)) (List.Sublist.refl _) (by simp only; omega)
              · have hneg : ¬ (zq[i + j] : Int) - bw - ((T % 4294967296 : Nat) : Int) < 0 := of_decide_eq_false h
                obtain ⟨r, hr⟩ : ∃ r : Nat, (r : Int) = (zq[i + j] : Int) - bw - ((T % 4294967296 : Nat) : Int) := ⟨((zq[i + j] : Int) - bw - ((T % 4294967296 : Nat) : Int)).toNat, by omega⟩
                have gs := msub_step (b' := 0) hiy hiz hT (by omega : r + bw + T % 4294967296 = zq[i + j] + 0 * 4294967296) hinv
                simp only [← hr]
                repeat (refine wkA ?_; try intro _)
                refine wo_storeD rfl rfl (by omega) rfl ?_
                rw [show 0 + ((i : Int) + (j : Int)).toNat * 1 = i + j by omega]
                repeat (refine wkA ?_; try intro _)
                exact jx_loop (i + 1, _, T / 4294967296, 0) ⟨hin, hsm.set _ _ (by omega) (by omega) (by omega), by simp only; rw [List.getElem?_set_ne (by omega)]; exact hzt, by simp only; omega, by simp, gs⟩ (by repeat (first | exact sub_nil | refine sub_cons rfl ?_)) (List.Sublist.refl _) (by simp only; omega)
            · have hgei : i = n := by have := of_decide_eq_false h; omega
              subst hgei
              have hjz : j + i < zq.length := by rw [hsm.len]; exact hjn
              obtain ⟨e, β, hβ, heB, hee⟩ : ∃ e β : Nat, β ≤ 1 ∧ e < 4294967296 ∧ e + bw + c = z0 + β * 4294967296 := by
                by_cases hlt : z0 < bw + c
                · exact ⟨z0 + 4294967296 - bw - c, 1, by omega, by omega, by omega⟩
                · exact ⟨z0 - bw - c, 0, by omega, by omega, by omega⟩
              have hwe : IntKind.u32.wrap ((z0 : Int) - bw - c) = (e : Int) := by rw [IntKind.wrap_u32]; omega
              have hzv : zq[j + i] = z0 := by rw [List.getElem?_eq_getElem hjz] at hzt; exact Option.some.inj hzt
              repeat (refine wkA ?_; try intro _)
              refine jq (wl_loadD rfl (show zq[0 + ((j : Int) + (i : Int)).toNat * 1]? = some z0 by rw [show 0 + ((j : Int) + (i : Int)).toNat * 1 = j + i by omega]; exact hzt)) rfl rfl ?_
              repeat (refine wkA ?_; try intro _)
              rw [hwe]
              refine wo_storeD rfl rfl (by omega) rfl ?_
              rw [show 0 + ((j : Int) + (i : Int)).toNat * 1 = j + i by omega]
              have hs2 := hsm.set (j + i) e (by omega) (by omega) heB
              have hsub := round_sub hsm hjn hlY hvY hinv hzv hee rfl hs2
              have h2s := hs2.small hjn p0
              have hge : (zq.set (j + i) e)[j + i]? = some e := by rw [List.getElem?_set_self hjz]
              generalize zq.set (j + i) e = zw at *
              rw [hU] at hsub
              repeat (refine wkA ?_; try intro _)
              refine j_cut (S := Nat × List Nat) (fun t => Same zs t.2 j i ∧ U = vd (t.2.drop j) + t.1 * Y ∧ vd (t.2.drop j) < Y ∧ t.1 < 4294967296)
                (fun t => [(9, .slice (some ⟨b2, 0, none⟩) i (i + 1)), (12, .int .i64 s), (13, .slice (some ⟨bx, 0, none⟩) (m + i) (m + i)), (14, .int .i64 i), (15, .slice (some ⟨bo, 0, none⟩) m m), (16, .int .i64 j), (18, .int .u64 t.1)])
                (fun t => [⟨bo, dig .u32 os, 206⟩, ⟨b2, dig .u32 (ys ++ [0]), 206⟩, ⟨bx, dig .u32 t.2, 206⟩]) ?_ (fun t ht => ?_)
              · refine j_cond rfl (fun h => ?_) (fun h => ?_)
                · have hneg : (z0 : Int) - bw - c < 0 := of_decide_eq_true h
                  have hβ1 : β = 1 := by omega
                  subst hβ1
                  have hg1 : 0 < g := by
                    rcases Nat.eq_zero_or_pos g with h0 | h0
                    · subst h0; omega
                    · exact h0
                  have hwr : IntKind.u64.wrap ((g : Int) - 1) = ((g - 1 : Nat) : Int) := by rw [IntWalk.u64_in _ (by omega)]; omega
                  repeat (refine wkA ?_; try intro _)
                  simp only [hwr]
                  refine j_loop (S := Nat × List Nat × Nat) (fun t => t.1 ≤ i ∧ Same zs t.2.1 j i ∧ t.2.1[j + i]? = some e ∧ t.2.2 ≤ 1 ∧ vd t.2.1 + t.2.2 * 4294967296 ^ (t.1 + j) = vd zw + vd (ys.take t.1) * 4294967296 ^ j)
                    (fun t => [(9, .slice (some ⟨b2, 0, none⟩) i (i + 1)), (12, .int .i64 s), (13, .slice (some ⟨bx, 0, none⟩) (m + i) (m + i)), (14, .int .i64 i), (15, .slice (some ⟨bo, 0, none⟩) m m), (16, .int .i64 j), (18, .int .u64 ((g - 1 : Nat) : Int)), (25, .int .u64 t.2.2), (230, .int .i64 i), (231, .int .i64 t.1)])
                    (fun t => [⟨bo, dig .u32 os, 206⟩, ⟨b2, dig .u32 (ys ++ [0]), 206⟩, ⟨bx, dig .u32 t.2.1, 206⟩]) (fun t => i - t.1) (0, zw, 0) ⟨Nat.zero_le _, hs2, hge, by simp, by simp [vd]⟩
                    (by repeat (first | exact sub_nil | refine sub_cons rfl ?_)) (List.Sublist.refl _) (fun t ht => ?_)
                  obtain ⟨k, z3, c3⟩ := t
                  obtain ⟨hk, hs3, he3, hc3, hin3⟩ := ht
                  simp only at hk hs3 he3 hc3 hin3 ⊢
                  repeat (refine wkA ?_; try intro _)
                  refine j_cond rfl (fun h => ?_) (fun h => ?_)
                  · have hkn : k < i := by have := of_decide_eq_true h; omega
                    have hky : k < ys.length := by omega
                    have hkz : k + j < z3.length := by rw [hs3.len]; omega
                    have hdy := dg_get hDY hky
                    have hdz := dg_get hs3.dg hkz
                    obtain ⟨T, hT⟩ : ∃ T, T = c3 + (z3[k + j] + ys[k]) := ⟨_, rfl⟩
                    repeat (refine wkA ?_; try intro _)
                    refine jD 16 16 (h := ?_)
                    (repeat (refine wkH ?_))
                    refine hq (wl_loadD rfl (show z3[0 + ((k : Int) + (j : Int)).toNat * 1]? = some z3[k + j] by rw [show 0 + ((k : Int) + (j : Int)).toNat * 1 = k + j by omega]; exact List.getElem?_eq_getElem hkz)) rfl rfl ?_
                    (repeat (refine wkH ?_))
                    refine hq (wl_loadD rfl (show (ys ++ [0])[0 + (k : Int).toNat * 1]? = some ys[k] by rw [show 0 + (k : Int).toNat * 1 = k by omega, List.getElem?_append_left hky]; exact List.getElem?_eq_getElem hky)) rfl rfl ?_
                    (repeat (refine wkH ?_))
                    refine jh_nil (jn_nil ?_)
                    rw [show (c3 : Int) + ((z3[k + j] : Nat) + (ys[k] : Nat)) = (T : Int) by omega]
                    repeat (refine wkA ?_; try intro _)
                    refine jq (wl_shr rfl rfl (by decide)) rfl rfl ?_
                    repeat (refine wkA ?_; try intro _)
                    rw [p32, IntKind.wrap_u32, show (T : Int) % 4294967296 = ((T % 4294967296 : Nat) : Int) by omega, show (T : Int) / 4294967296 = ((T / 4294967296 : Nat) : Int) by omega]
                    refine wo_storeD rfl rfl (by omega) rfl ?_
                    rw [show 0 + ((k : Int) + (j : Int)).toNat * 1 = k + j by omega]
                    have gs := madd_step hky hkz hT hin3
                    repeat (refine wkA ?_; try intro _)
                    exact jx_loop (k + 1, _, T / 4294967296) ⟨hkn, hs3.set _ _ (by omega) (by omega) (Nat.mod_lt _ (by omega)), by simp only; rw [List.getElem?_set_ne (by omega)]; exact he3, by simp only; omega, gs⟩ (by repeat (first | exact sub_nil | refine sub_cons rfl ?_)) (List.Sublist.refl _) (by simp only; omega)
                  · have hki : k = i := by have := of_decide_eq_false h; omega
                    subst hki
                    have hjz3 : j + k < z3.length := by rw [hs3.len]; exact hjn
                    have hzv3 : z3[j + k] = e := by rw [List.getElem?_eq_getElem hjz3] at he3; exact Option.some.inj he3
                    repeat (refine wkA ?_; try intro _)
                    refine jq (wl_loadD rfl (show z3[0 + ((j : Int) + (k : Int)).toNat * 1]? = some e by rw [show 0 + ((j : Int) + (k : Int)).toNat * 1 = j + k by omega]; exact he3)) rfl rfl ?_
                    repeat (refine wkA ?_; try intro _)
                    rw [IntKind.wrap_u32, show ((e : Int) + c3) % 4294967296 = (((e + c3) % 4294967296 : Nat) : Int) by omega]
                    refine wo_storeD rfl rfl (by omega) rfl ?_
                    rw [show 0 + ((j : Int) + (k : Int)).toNat * 1 = j + k by omega]
                    have hs4 := hs3.set (j + k) ((e + c3) % 4294967296) (by omega) (by omega) (Nat.mod_lt _ (by omega))
                    have hadd := round_add (o := (e + c3) / 4294967296) hs2 hs3 hjn hlY hvY hin3 hzv3 (by omega) rfl hs4
                    have hback := round_back hsub hgY h2s (hs4.small hjn p0) (by omega) hadd hg1
                    repeat (refine wkA ?_; try intro _)
                    exact jx_mid (g - 1, _) ⟨hs4, hback.1, hback.2, by simp only; omega⟩ (by repeat (first | exact sub_nil | refine sub_cons rfl ?_)) (List.Sublist.refl _)
                · have hneg : ¬ (z0 : Int) - bw - c < 0 := of_decide_eq_false h
                  have hβ0 : β = 0 := by omega
                  subst hβ0
                  have hri := round_right hsub hgU
                  repeat (refine wkA ?_; try intro _)
                  exact jx_mid (g, zw) ⟨hs2, hri.1, hri.2, hgB⟩ (by repeat (first | exact sub_nil | refine sub_cons rfl ?_)) (List.Sublist.refl _)
              · obtain ⟨q, z'⟩ := t
                obtain ⟨hs', hUq, hlt', hqB⟩ := ht
                simp only at hs' hUq hlt' hqB ⊢
                repeat (refine wkA ?_; try intro _)
                refine wo_storeD rfl rfl (by omega) rfl ?_
                rw [show 0 + (j : Int).toNat * 1 = j by omega]
                repeat (refine wkA ?_; try intro _)
                have hjo : j < os.length := by omega
                have hoj : os[j] = 0 := by
                  have := kz0 j (by omega)
                  rw [List.getElem?_eq_getElem hjo] at this
                  exact Option.some.inj this
                exact jx_loop (j, z', os.set j q) ⟨by simp only; omega, by simp only; rw [hs'.len]; exact klz, hs'.dg, by simp only [List.length_set]; exact klo, dg_set kdo _ _ hqB, fun i' hi' => by
                  simp only at hi' ⊢
                  rw [List.getElem?_set_ne (by omega)]
                  exact kz0 i' (by omega), round_gain hs' (by omega) hjo hoj keq (by rw [hU]; exact hUq), hlt'⟩ (by repeat (first | exact sub_nil | refine sub_cons rfl ?_)) (List.Sublist.refl _) (by simp only; omega)
        · have hk0 : k = 0 := by have := of_decide_eq_false h; omega
          subst hk0
          obtain ⟨kk, klz, kdz, klo, kdo, kz0, keq, klt⟩ := ht
          rw [List.drop_zero, ← hY] at klt
          rw [← hY] at keq
          obtain ⟨hquo, hrem⟩ := div_end keq klt
          obtain ⟨W, hW⟩ : ∃ W, W = a % b := ⟨_, rfl⟩
          rw [← hW] at hrem
          have hWB : W < 4294967296 ^ n := by
            have h1 := Nat.mod_lt a (Nat.pos_of_ne_zero hb0)
            rw [hn]
            omega
          have hvW : vd (dgs W n) = W := by rw [vd_dgs, Nat.mod_eq_of_lt hWB]
          have hlW := dgs_len n W
          have hDW := dgs_dg n W
          generalize dgs W n = ws at *
          repeat (refine wkA ?_; try intro _)
          refine wo_makeD (k := .u32) (B := 4) (m := n) rfl rfl ⟨by omega, by omega⟩ rfl rfl ?_
          intro br
          repeat (refine wkA ?_; try intro _)
          refine j_loop (S := Nat) (fun i => i ≤ n)
            (fun i => [(12, .int .i64 s), (13, .slice (some ⟨bx, 0, none⟩) (m + n) (m + n)), (15, .slice (some ⟨bo, 0, none⟩) m m), (27, .slice (some ⟨br, 0, none⟩) n n), (276, .int .i64 n), (277, .int .i64 i)])
            (fun i => [⟨br, dig .u32 (ws.take i ++ List.replicate (n - i) 0), 206⟩, ⟨bo, dig .u32 os, 206⟩, ⟨bx, dig .u32 zs, 206⟩]) (fun i => n - i) 0 (Nat.zero_le _)
            (by repeat (first | exact sub_nil | refine sub_cons rfl ?_)) (by repeat (first | exact List.Sublist.refl _ | exact List.nil_sublist _ | refine List.Sublist.cons_cons _ ?_ | refine List.Sublist.cons _ ?_)) (fun i hi => ?_)
          repeat (refine wkA ?_; try intro _)
          refine j_cond rfl (fun h => ?_) (fun h => ?_)
          · have hin : i < n := by have := of_decide_eq_true h; omega
            have h1z : i + 1 < zs.length := by omega
            have h0z : i < zs.length := by omega
            have hd1 := dg_get kdz h1z
            have hd0 := dg_get kdz h0z
            have hdig := rest_digit kdz hrem h1z hs32
            have hwi := vd_digit ws hDW i (by omega)
            rw [hvW] at hwi
            rw [hwi] at hdig
            have hrow := row_step hlW hin
            obtain ⟨N, hN⟩ : ∃ N, N = (zs[i + 1] * 4294967296 + zs[i]) / 2 ^ s := ⟨_, rfl⟩
            have hNi : ((zs[i + 1] * 4294967296 + zs[i] : Nat) : Int) / ((2 ^ s : Nat) : Int) = (N : Int) := by rw [hN]; rfl
            rw [← hN] at hdig
            have hlen : (ws.take i ++ List.replicate (n - i) 0).length = n := by rw [List.length_append, List.length_take, List.length_replicate]; omega
            repeat (refine wkA ?_; try intro _)
            refine jD 19 19 (h := ?_)
            (repeat (refine wkH ?_))
            refine hq (wl_loadD rfl (show zs[0 + ((i : Int) + 1).toNat * 1]? = some zs[i + 1] by rw [show 0 + ((i : Int) + 1).toNat * 1 = i + 1 by omega]; exact List.getElem?_eq_getElem h1z)) rfl rfl ?_
            (repeat (refine wkH ?_))
            refine hq (wl_shl rfl rfl (by decide)) rfl rfl ?_
            (repeat (refine wkH ?_))
            refine hq (wl_loadD rfl (show zs[0 + (i : Int).toNat * 1]? = some zs[i] by rw [show 0 + (i : Int).toNat * 1 = i by omega]; exact List.getElem?_eq_getElem h0z)) rfl rfl ?_
            (repeat (refine wkH ?_))
            refine hq (wl_or rfl rfl) rfl rfl ?_
            rw [or_word _ _ hd1 hd0]
            (repeat (refine wkH ?_))
            refine hq (wl_shr rfl rfl (by simp only [IntKind.bits]; omega)) rfl rfl ?_
            rw [pow2i, hNi]
            refine hq (wl_cv rfl) rfl rfl ?_
            rw [IntKind.wrap_u32, show (N : Int) % 4294967296 = ((N % 4294967296 : Nat) : Int) by omega, hdig]
            (repeat (refine wkH ?_))
            refine jh_nil (jn_nil ?_)
            repeat (refine wkA ?_; try intro _)
            refine wo_storeD rfl rfl (by omega) rfl ?_
            rw [show 0 + (i : Int).toNat * 1 = i by omega, hrow]
            repeat (refine wkA ?_; try intro _)
            exact jx_loop (i + 1) hin (by repeat (first | exact sub_nil | refine sub_cons rfl ?_)) (List.Sublist.refl _) (by omega)
          · have hge' : i = n := by have := of_decide_eq_false h; omega
            subst hge'
            have e1 : os.take m = os := List.take_of_length_le (by omega)
            have e3 : ws.take i ++ List.replicate (i - i) 0 = ws := by
              rw [Nat.sub_self, List.replicate_zero, List.append_nil]
              exact List.take_of_length_le (by omega)
            have e2 : (ws.take i ++ List.replicate (i - i) 0).take i = ws := by
              rw [e3]
              exact List.take_of_length_le (by omega)
            repeat (refine wkA ?_; try intro _)
            refine jq (wl_callW rfl (fun w' hw' => bytes_spec bo m m os (0, 0) (by omega) (Nat.le_refl _) (by omega) kdo w' (hw'.mem _ MemC.out).2)) rfl rfl ?_
            rw [e1, hquo]
            repeat (refine wkA ?_; try intro _)
            refine jq (wl_callW rfl (fun w' hw' => bytes_spec br i i (ws.take i ++ List.replicate (i - i) 0) (0, 0) (by rw [e3]; omega) (Nat.le_refl _) (by omega) (by rw [e3]; exact hDW) w' (hw'.mem _ MemC.out).2)) rfl rfl ?_
            rw [e2, hvW, hW]
            repeat (refine wkA ?_; try intro _)
            exact jx_ret_two rfl (resv_tmp rfl) (resv_tmp rfl) (fun w hw => ret_ok hw)
end Go.Vt
/- Division with remainder and the greatest common divisor of integers. Conditions: the lengths that each statement names. -/
set_option linter.unusedSimpArgs false
set_option linter.unusedVariables false
set_option maxHeartbeats 2000000
set_option maxRecDepth 100000
namespace Go.Vt
open Go.RowKit Go.Proofs
instance sp_div (a b : Nat) : SpecC Tryz.prog 115 [.string (mag a), .string (mag b)] (.tuple #[.string (mag (a / b)), .string (mag (a % b))]) (b ≠ 0 ∧ (mag a).size ≤ LIM ∧ (mag b).size ≤ LIM) := ⟨fun h w => div_spec a b h.1 h.2.1 h.2.2 w⟩
theorem divmod_eq (a b : Int) (hb : b ≠ 0) (q r : Nat) (hq : q = a.natAbs / b.natAbs) (hr : r = a.natAbs % b.natAbs) :
    (a < 0 ∧ r ≠ 0 → sg (decide (a < 0) != decide (b < 0)) (q + 1) = a / b ∧ ((b.natAbs - r : Nat) : Int) = a % b) ∧ (¬ (a < 0 ∧ r ≠ 0) → sg (decide (a < 0) != decide (b < 0)) q = a / b ∧ (r : Int) = a % b) := by
  have hb' : 0 < b.natAbs := by omega
  have h1 := Nat.div_add_mod a.natAbs b.natAbs
  have h2 := Nat.mod_lt a.natAbs hb'
  rw [← hq, ← hr] at h1
  rw [← hr] at h2
  have key : ∀ (x : Int) (y : Int), a = b * x + y → 0 ≤ y → y < b.natAbs → x = a / b ∧ y = a % b := by
    intro x y e h3 h4
    rcases Int.lt_or_le b 0 with h0 | h0
    · have := (Int.ediv_emod_unique' (a := a) (b := b) (r := y) (q := x) h0).2 ⟨by omega, h3, by omega⟩
      exact ⟨this.1.symm, this.2.symm⟩
    · have := (Int.ediv_emod_unique (a := a) (b := b) (r := y) (q := x) (by omega)).2 ⟨by omega, h3, by omega⟩
      exact ⟨this.1.symm, this.2.symm⟩
  have hm : ((b.natAbs * q : Nat) : Int) = (b.natAbs : Int) * (q : Int) := by simp
  unfold sg
  refine ⟨fun ⟨ha, hr0⟩ => ?_, fun hn => ?_⟩
  · refine key _ _ ?_ (by omega) (by omega)
    rcases Int.lt_or_le b 0 with hb0 | hb0
    · simp only [ha, hb0, decide_true, bne_self_eq_false, Bool.false_eq_true, if_false]
      have : b = -(b.natAbs : Int) := by omega
      rw [this, Int.natAbs_neg, Int.natAbs_natCast, Int.natCast_add, Int.mul_add, Int.neg_mul, ← hm]
      omega
    · have hb1 : ¬ b < 0 := by omega
      simp only [ha, hb1, decide_true, decide_false, Bool.bne_false, if_true]
      have : b = (b.natAbs : Int) := by omega
      rw [this, Int.natAbs_natCast, Int.natCast_add, Int.mul_neg, Int.mul_add, ← hm]
      omega
  · refine key _ _ ?_ (by omega) (by omega)
    rcases Int.lt_or_le a 0 with ha | ha
    · have hr0 : r = 0 := by
        rcases Nat.eq_zero_or_pos r with h | h
        · exact h
        · exact absurd ⟨ha, by omega⟩ hn
      rcases Int.lt_or_le b 0 with hb0 | hb0
      · simp only [ha, hb0, decide_true, bne_self_eq_false, Bool.false_eq_true, if_false]
        have : b = -(b.natAbs : Int) := by omega
        rw [this, Int.neg_mul, ← hm]
        omega
      · have hb1 : ¬ b < 0 := by omega
        simp only [ha, hb1, decide_true, decide_false, Bool.bne_false, if_true]
        have : b = (b.natAbs : Int) := by omega
        rw [this, Int.mul_neg, ← hm]
        omega
    · have ha1 : ¬ a < 0 := by omega
      rcases Int.lt_or_le b 0 with hb0 | hb0
      · simp only [ha1, hb0, decide_true, decide_false, Bool.bne_true, Bool.not_false, if_true]
        have : b = -(b.natAbs : Int) := by omega
        rw [this, Int.neg_mul, Int.mul_neg, Int.neg_neg, ← hm]
        omega
      · have hb1 : ¬ b < 0 := by omega
        simp only [ha1, hb1, decide_false, bne_self_eq_false, Bool.false_eq_true, if_false]
        have : b = (b.natAbs : Int) := by omega
        rw [this, ← hm]
        omega
theorem mag_one : (⟨#[1]⟩ : ByteArray) = mag 1 := by decide
instance sp_DivMod (a b : Int) : SpecC Tryz.prog 116 [vI a, vI b] (.tuple #[vI (a / b), vI (a % b), .int .i64 0]) (b ≠ 0 ∧ mg a ≤ LIM ∧ mg b ≤ LIM) := ⟨fun hp w => by
  obtain ⟨hb, ha, hbl⟩ := hp
  have hb' : b.natAbs ≠ 0 := by omega
  obtain ⟨k1, k2⟩ := divmod_eq a b hb _ _ rfl rfl
  have hsq : (mag (a.natAbs / b.natAbs)).size ≤ LIM := Nat.le_trans (size_mono (Nat.div_le_self _ _)) ha
  have hlt : a.natAbs % b.natAbs ≤ b.natAbs := Nat.le_of_lt (Nat.mod_lt _ (by omega))
  refine fn_intro Tryz.func116 rfl Tryz.ntmps116 rfl ?_
  repeat (refine wkA ?_; try intro _)
  refine j_cond rfl (fun h => ?_) (fun h => ?_)
  · have := mag_eq_empty.1 (of_decide_eq_true h)
    omega
  repeat (first | (refine wkA ?_; try intro _) | (refine sC rfl rfl ?_ ?_; focus (first | exact trivial | exact ⟨hb', ha, hbl⟩)))
  generalize hq : a.natAbs / b.natAbs = q at *
  generalize hr : a.natAbs % b.natAbs = r at *
  by_cases hA : a < 0
  · simp only [decide_eq_true hA]
    repeat (refine wkA ?_; try intro _)
    refine j_cond rfl (fun h => ?_) (fun h => ?_)
    · have hn : ¬ mag r = ⟨#[]⟩ := by simpa using h
      obtain ⟨e1, e2⟩ := k1 ⟨hA, fun h0 => hn (mag_eq_empty.2 h0)⟩
      (refine j_late [0, 1, 2, 3, 4, 5] [6, 7] (_) (h := ?_); refine wkI ?_)
      rw [mag_one]
      (repeat (first | refine wkH ?_ | (refine tC rfl rfl ?_ ?_; focus (first | exact trivial | exact ⟨hsq, by decide⟩ | exact ⟨hbl, hlt⟩))))
      refine jh_nil ?_
      refine je_assign rfl rfl rfl (List.Sublist.refl _) (je_assign rfl rfl rfl (List.Sublist.refl _) (je_nil ?_))
      repeat (refine wkA ?_; try intro _)
      exact jx_ret_three rfl (wr_cell rfl) (wr_cell rfl) (resv_tmp rfl) (fun w hw => by rw [e1, show sg false (b.natAbs - r) = a % b from e2]; exact ret_ok hw)
    · have hn : mag r = ⟨#[]⟩ := by simpa using h
      obtain ⟨e1, e2⟩ := k2 (fun h => h.2 (mag_eq_empty.1 hn))
      repeat (refine wkA ?_; try intro _)
      exact jx_ret_three rfl (wr_cell rfl) (wr_cell rfl) (resv_tmp rfl) (fun w hw => by rw [e1, show sg false r = a % b from e2]; exact ret_ok hw)
  · simp only [decide_eq_false hA]
    obtain ⟨e1, e2⟩ := k2 (fun h => hA h.1)
    repeat (refine wkA ?_; try intro _)
    exact jx_ret_three rfl (wr_cell rfl) (wr_cell rfl) (resv_tmp rfl) (fun w hw => by rw [e1, show sg false r = a % b from e2]; exact ret_ok hw)⟩
theorem gcd_spec (a b : Int) (ha : mg a ≤ LIM) (hb : mg b ≤ LIM) (w : World) : Calls Tryz.prog 77 [vI a, vI b].toArray w (Ret (vI (Int.gcd a b)) w) := by
  refine fn_intro Tryz.func77 rfl Tryz.ntmps77 rfl ?_
  repeat (refine wkA ?_; try intro _)
  (refine j_late [0, 1, 2, 3] [4, 5] (_) (h := ?_); refine wkI ?_)
  (repeat (refine wkH ?_))
  refine jh_nil ?_
  refine je_assign rfl rfl rfl (List.Sublist.refl _) (je_assign rfl rfl rfl (List.Sublist.refl _) (je_nil ?_))
  repeat (refine wkA ?_; try intro _)
  rename_i ba bb bc
  refine j_loop (S := Nat × Nat) (fun s => Nat.gcd s.1 s.2 = Int.gcd a b ∧ (mag s.1).size ≤ LIM ∧ (mag s.2).size ≤ LIM) (fun s => [(4, .pointer (some ⟨bc, 0, none⟩)), (5, .string (mag s.1)), (6, .string (mag s.2))]) (fun _ => [⟨bc, e_api_Int z_api_Int, 30⟩]) (fun s => s.2) (a.natAbs, b.natAbs) ⟨rfl, ha, hb⟩
    sbB sbl (fun s hs => ?_)
  obtain ⟨x, y⟩ := s
  obtain ⟨hg, hx, hy⟩ := hs
  simp only at hg hx hy ⊢
  repeat (refine wkA ?_; try intro _)
  refine j_cond rfl (fun h => ?_) (fun h => ?_)
  · have hn : ¬ mag y = ⟨#[]⟩ := by simpa using h
    have hy0 : y ≠ 0 := fun h0 => hn (mag_eq_empty.2 h0)
    repeat (refine wkA ?_; try intro _)
    refine j_cond rfl (fun h => ?_) (fun h => ?_)
    · have hxy : sm x = true ∧ sm y = true := by simpa using h
      repeat (refine wkA ?_; try intro _)
      refine j_loop (S := Nat × Nat) (fun s => Nat.gcd s.1 s.2 = Int.gcd a b ∧ s.1 < 18446744073709551616 ∧ s.2 < 18446744073709551616) (fun s => [(4, .pointer (some ⟨bc, 0, none⟩)), (7, .int .u64 s.1), (8, .int .u64 s.2)]) (fun _ => [⟨bc, e_api_Int z_api_Int, 30⟩]) (fun s => s.2) (lo x, lo y) ⟨by simp only [lo_sm hxy.1, lo_sm hxy.2]; exact hg, lo_lt _, lo_lt _⟩
        sbB sbl (fun s hs => ?_)
      obtain ⟨u, v⟩ := s
      obtain ⟨hg, hu, hv⟩ := hs
      simp only at hg hu hv ⊢
      repeat (refine wkA ?_; try intro _)
      refine j_cond rfl (fun h => ?_) (fun h => ?_)
      · have hv0 : v ≠ 0 := fun h0 => by subst h0; simp at h
        have hm := Nat.mod_lt u (Nat.pos_of_ne_zero hv0)
        have hum : ((u : Int) % (v : Int)) = ((u % v : Nat) : Int) := rfl
        repeat (refine wkA ?_; try intro _)
        (refine j_late [0, 1, 2, 3] [4, 5] ([]) (h := ?_); refine wkI ?_)
        (repeat (refine wkH ?_))
        refine hq (wl_remu rfl rfl ?_) rfl rfl ?_
        · omega
        rw [hum]
        refine jh_nil ?_
        refine je_assign rfl rfl rfl (List.nil_sublist _) (je_assign rfl rfl rfl (List.nil_sublist _) (je_nil ?_))
        repeat (refine wkA ?_; try intro _)
        exact jx_loop (v, u % v) ⟨by simp only; rw [← hg, Nat.gcd_comm u v, Nat.gcd_comm v, Nat.gcd_rec v u], by omega, by omega⟩ sbB sbl hm
      · have hv0 : v = 0 := by
          have : (v : Int) = 0 := by simpa using h
          omega
        subst hv0
        rw [Nat.gcd_zero_right] at hg
        subst hg
        repeat (first | (refine wkA ?_; try intro _) | (refine sC rfl rfl ?_ ?_; focus (first | exact trivial | omega)))
        exact wx_cell rfl rfl (fun w hw => ret_ok hw)
    · repeat (first | (refine wkA ?_; try intro _) | (refine sC rfl rfl ?_ ?_; focus (first | exact trivial | exact ⟨hy0, hx, hy⟩)))
      have hm := Nat.mod_lt x (Nat.pos_of_ne_zero hy0)
      exact jx_loop (y, x % y) ⟨by simp only; rw [← hg, Nat.gcd_comm x y, Nat.gcd_comm y, Nat.gcd_rec y x], hy, Nat.le_trans (size_mono (Nat.mod_le _ _)) hx⟩ sbB sbl hm
  · have hn : mag y = ⟨#[]⟩ := by simpa using h
    have hy0 := mag_eq_empty.1 hn
    subst hy0
    rw [Nat.gcd_zero_right] at hg
    subst hg
    repeat (refine wkA ?_; try intro _)
    exact wx_cell rfl rfl (fun w hw => ret_ok hw)
instance sp_Gcd (a b : Int) : SpecC Tryz.prog 77 [vI a, vI b] (vI (Int.gcd a b)) (mg a ≤ LIM ∧ mg b ≤ LIM) := ⟨fun h w => gcd_spec a b h.1 h.2 w⟩
end Go.Vt
/- The fractions of the program: rational numbers in canonical form. Conditions: the lengths that each statement names. -/
set_option linter.unusedSimpArgs false
set_option linter.unusedVariables false
set_option maxHeartbeats 2000000
set_option maxRecDepth 100000
namespace Go.Vt
open Go.RowKit Go.Proofs
/-- The denominator as it is kept, the fraction, its length. -/
def dn (q : Rat) : Int := if q.den = 1 then 0 else q.den
def Q (q : Rat) : api_Rat := ⟨I q.num, I (dn q)⟩
abbrev vQ (q : Rat) : Value := .agg (e_api_Rat (Q q))
def M (q : Rat) : Nat := max (mg q.num) (mg q.den)
abbrev LQ : Nat := 274877906944
theorem I_inj {a b : Int} : I a = I b ↔ a = b := by
  refine ⟨fun h => ?_, fun h => by rw [h]⟩
  have h1 := congrArg api_Int.Neg h
  have h2 := congrArg api_Int.Mag h
  simp only [I] at h1 h2
  have h3 := mag_inj.1 h2
  by_cases ha : a < 0 <;> by_cases hb : b < 0 <;> simp [ha, hb] at h1 <;> omega
theorem dn_inj {p q : Rat} : dn p = dn q ↔ p.den = q.den := by
  have h1 := p.den_pos
  have h2 := q.den_pos
  unfold dn
  split <;> split <;> omega
theorem Q_inj {p q : Rat} : Q p = Q q ↔ p = q := by
  refine ⟨fun h => ?_, fun h => by rw [h]⟩
  have h1 := I_inj.1 (congrArg api_Rat.Num h)
  have h2 := dn_inj.1 (I_inj.1 (congrArg api_Rat.Den h))
  exact Rat.ext h1 h2
theorem z_I : z_api_Int = I 0 := by decide
theorem z_Q : z_api_Rat = Q 0 := by decide
instance (priority := high) zeroI : ZeroC Tryz.prog 30 (vI 0) (e_api_Int (I 0)) := ⟨by have h := @ZeroC.out Tryz.prog 30 (.agg (e_api_Int z_api_Int)) (e_api_Int z_api_Int) inferInstance; rw [z_I] at h; exact h, rfl⟩
instance (priority := high) zeroQ : ZeroC Tryz.prog 32 (vQ 0) (e_api_Rat (Q 0)) := ⟨by have h := @ZeroC.out Tryz.prog 32 (.agg (e_api_Rat z_api_Rat)) (e_api_Rat z_api_Rat) inferInstance; rw [z_Q] at h; exact h, rfl⟩
instance (priority := high) bdI0 : BdC Tryz.prog 30 [] (vI 0) := ⟨by have h := @BdC.out Tryz.prog 30 [] (.agg (e_api_Int z_api_Int)) inferInstance; rw [z_I] at h; exact h⟩
instance (priority := high) bdQ0 : BdC Tryz.prog 32 [] (vQ 0) := ⟨by have h := @BdC.out Tryz.prog 32 [] (.agg (e_api_Rat z_api_Rat)) inferInstance; rw [z_Q] at h; exact h⟩
instance (priority := high) ldQ_num (q : Rat) : LdC Tryz.prog 30 (e_api_Rat (Q q)) 0 (vI q.num) := ⟨ldv_agg 2 (by kernel_rfl) (by kernel_rfl) (by kernel_rfl)⟩
instance (priority := high) ldQ_den (q : Rat) : LdC Tryz.prog 30 (e_api_Rat (Q q)) 2 (vI (dn q)) := ⟨ldv_agg 2 (by kernel_rfl) (by kernel_rfl) (by kernel_rfl)⟩
instance (priority := high) eqI (a b : Int) : BinC Tryz.prog .eql 30 (vI a) (vI b) (.bool (decide (a = b))) := by
  have h : decide (I a = I b) = decide (a = b) := by rw [decide_eq_decide]; exact I_inj
  exact h ▸ (inferInstance : BinC Tryz.prog .eql 30 (vI a) (vI b) (.bool (decide (I a = I b))))
instance (priority := high) eqQ (a b : Rat) : BinC Tryz.prog .eql 32 (vQ a) (vQ b) (.bool (decide (a = b))) := by
  have h : decide (Q a = Q b) = decide (a = b) := by rw [decide_eq_decide]; exact Q_inj
  exact h ▸ (inferInstance : BinC Tryz.prog .eql 32 (vQ a) (vQ b) (.bool (decide (Q a = Q b))))
theorem M_num (q : Rat) : mg q.num ≤ M q := Nat.le_max_left _ _
theorem M_den (q : Rat) : mg q.den ≤ M q := Nat.le_max_right _ _
theorem mg_ofNat (n : Nat) : mg (n : Int) = (mag n).size := by unfold mg; rw [Int.natAbs_natCast]
theorem natAbs_ediv (a : Int) (g : Nat) (h : (g : Int) ∣ a) : (a / (g : Int)).natAbs ≤ a.natAbs := by
  obtain ⟨k, rfl⟩ := h
  rcases Nat.eq_zero_or_pos g with h | h
  · subst h; simp
  · rw [Int.mul_ediv_cancel_left _ (by omega), Int.natAbs_mul, Int.natAbs_natCast]
    exact Nat.le_mul_of_pos_left _ h
theorem M_divInt {a b : Int} {k : Nat} (ha : mg a ≤ k) (hb : mg b ≤ k) (h1 : 1 ≤ k) : M (Rat.divInt a b) ≤ k := by
  refine Nat.max_le.2 ⟨?_, ?_⟩
  · refine Nat.le_trans (mg_mono ?_) ha
    rw [Rat.num_divInt]
    refine Nat.le_trans (natAbs_ediv _ _ ?_) ?_
    · exact Int.dvd_trans (Int.gcd_dvd_right ..) (Int.dvd_mul_left _ _)
    · rw [Int.natAbs_mul]
      have : b.sign.natAbs ≤ 1 := by rw [Int.natAbs_sign]; split <;> omega
      calc b.sign.natAbs * a.natAbs ≤ 1 * a.natAbs := Nat.mul_le_mul_right _ this
        _ = a.natAbs := Nat.one_mul _
  · rw [Rat.den_divInt, mg_ofNat]
    split
    · exact Nat.le_trans (by decide) h1
    · exact Nat.le_trans (size_mono (Nat.div_le_self _ _)) hb
theorem den_ne (q : Rat) : (q.den : Int) ≠ 0 := by have := q.den_pos; omega
theorem add_divInt (a b : Rat) : a + b = Rat.divInt (a.num * b.den + b.num * a.den) (a.den * b.den) := by
  rw [Rat.add_def', ← Rat.divInt_ofNat, Int.natCast_mul]
theorem mul_divInt (a b : Rat) : a * b = Rat.divInt (a.num * b.num) (a.den * b.den) := by
  rw [Rat.mul_def', ← Rat.divInt_ofNat, Int.natCast_mul]
theorem div_divInt (a b : Rat) : a / b = Rat.divInt (a.num * b.den) (a.den * b.num) := by
  conv => lhs; rw [Rat.div_def, ← Rat.num_divInt_den a, ← Rat.num_divInt_den b, Rat.inv_divInt, Rat.divInt_mul_divInt]
theorem mg_pos {q : Rat} : 1 ≤ M q := by
  refine Nat.le_trans ?_ (M_den q)
  rw [mg_ofNat]
  rcases Nat.eq_zero_or_pos (mag q.den).size with h | h
  · have h1 := (mag_size (n := q.den) (k := 0)).1 (by omega)
    have := q.den_pos
    simp at h1
    omega
  · exact h
theorem M_add (a b : Rat) : M (a + b) ≤ M a + M b + 1 := by
  rw [add_divInt]
  have h1 := M_num a
  have h2 := M_den a
  have h3 := M_num b
  have h4 := M_den b
  refine M_divInt (mg_add (k := M a + M b) ?_ ?_) ?_ (by omega)
  · exact Nat.le_trans (mg_mul _ _) (by omega)
  · exact Nat.le_trans (mg_mul _ _) (by omega)
  · exact Nat.le_trans (mg_mul _ _) (by omega)
theorem M_mul (a b : Rat) : M (a * b) ≤ M a + M b := by
  rw [mul_divInt]
  have h1 := M_num a
  have h2 := M_den a
  have h3 := M_num b
  have h4 := M_den b
  have h5 := @mg_pos a
  exact M_divInt (Nat.le_trans (mg_mul _ _) (by omega)) (Nat.le_trans (mg_mul _ _) (by omega)) (by omega)
theorem M_div (a b : Rat) : M (a / b) ≤ M a + M b := by
  rw [div_divInt]
  have h1 := M_num a
  have h2 := M_den a
  have h3 := M_num b
  have h4 := M_den b
  have h5 := @mg_pos a
  exact M_divInt (Nat.le_trans (mg_mul _ _) (by omega)) (Nat.le_trans (mg_mul _ _) (by omega)) (by omega)
theorem M_neg (a : Rat) : M (-a) = M a := by unfold M; rw [Rat.neg_num, Rat.neg_den, mg_neg]
theorem M_sub (a b : Rat) : M (a - b) ≤ M a + M b + 1 := by rw [Rat.sub_eq_add_neg, ← M_neg b]; exact M_add _ _
/-- A bound of a fraction's length, found by its form. -/
class MB (q : Rat) (k : outParam Nat) : Prop where out : M q ≤ k
instance mb_add (a b : Rat) (j k : Nat) [h1 : MB a j] [h2 : MB b k] : MB (a + b) (j + k + 1) := ⟨by have := M_add a b; have := h1.out; have := h2.out; omega⟩
instance mb_sub (a b : Rat) (j k : Nat) [h1 : MB a j] [h2 : MB b k] : MB (a - b) (j + k + 1) := ⟨by have := M_sub a b; have := h1.out; have := h2.out; omega⟩
instance mb_mul (a b : Rat) (j k : Nat) [h1 : MB a j] [h2 : MB b k] : MB (a * b) (j + k) := ⟨by have := M_mul a b; have := h1.out; have := h2.out; omega⟩
instance mb_div (a b : Rat) (j k : Nat) [h1 : MB a j] [h2 : MB b k] : MB (a / b) (j + k) := ⟨by have := M_div a b; have := h1.out; have := h2.out; omega⟩
instance mb_zero : MB 0 1 := ⟨by decide⟩
theorem M_int (n : Int) : M (n : Rat) = max (mg n) 1 := by unfold M; rw [Rat.num_intCast, Rat.den_intCast]; rfl
theorem M_int8 {n : Int} (h : -9223372036854775808 ≤ n ∧ n ≤ 9223372036854775807) : M (n : Rat) ≤ 8 := by
  rw [M_int]
  refine Nat.max_le.2 ⟨mg_small ?_, by decide⟩
  have : (256 : Nat) ^ 8 = 18446744073709551616 := by decide
  omega
theorem MB.le {q : Rat} {k : Nat} [h : MB q k] (hk : Nat.ble k LQ = true) : M q ≤ LQ := Nat.le_trans h.out (Nat.le_of_ble_eq_true hk)
instance sp_one : SpecC Tryz.prog 79 [] (vI 1) True := ⟨fun _ w => by
  refine fn_intro Tryz.func79 rfl Tryz.ntmps79 rfl ?_
  repeat (first | (refine wkA ?_; try intro _) | (refine sC rfl rfl ?_ ?_; focus (first | exact trivial | omega)))
  exact wx_cell rfl rfl (fun w hw => ret_ok hw)⟩
theorem dn_zero {q : Rat} : dn q = 0 ↔ q.den = 1 := by
  have := q.den_pos
  unfold dn
  split <;> omega
instance sp_Den (q : Rat) : SpecC Tryz.prog 46 [vQ q] (vI q.den) True := ⟨fun _ w => by
  refine fn_intro Tryz.func46 rfl Tryz.ntmps46 rfl ?_
  repeat (refine wkA ?_; try intro _)
  refine j_cond rfl (fun h => ?_) (fun h => ?_)
  · have h1 := dn_zero.1 (of_decide_eq_true h)
    rw [h1]
    repeat (refine wkA ?_; try intro _)
    exact wx_cell rfl rfl (fun w hw => ret_ok hw)
  · have h1 : ¬ q.den = 1 := fun h0 => of_decide_eq_false h (dn_zero.2 h0)
    have h2 : dn q = q.den := by unfold dn; rw [if_neg h1]
    repeat (refine wkA ?_; try intro _)
    exact wx_cell rfl rfl (fun w hw => by rw [← h2]; exact ret_ok hw)⟩
instance sp_quotient (a b : Int) : SpecC Tryz.prog 78 [vI a, vI b] (vI (a / b)) (b ≠ 0 ∧ mg a ≤ LIM ∧ mg b ≤ LIM) := ⟨fun hp w => by
  refine fn_intro Tryz.func78 rfl Tryz.ntmps78 rfl ?_
  repeat (refine wkA ?_; try intro _)
  exact wx_cell rfl rfl (fun w hw => ret_ok hw)⟩
theorem canon_pos {x y : Int} (hy : 0 < y) : (Rat.divInt x y).num = x / (Int.gcd x y : Int) ∧ ((Rat.divInt x y).den : Int) = y / (Int.gcd x y : Int) := by
  refine ⟨?_, ?_⟩
  · rw [Rat.num_divInt, Int.sign_eq_one_of_pos hy, Int.one_mul, Int.gcd_comm]
  · rw [Rat.den_divInt, if_neg (by omega), Int.gcd_comm, Int.natCast_ediv]
    congr 1
    omega
instance sp_canonical (x y : Int) : SpecC Tryz.prog 44 [vI x, vI y] (vQ (Rat.divInt x y)) (y ≠ 0 ∧ mg x ≤ LIM ∧ mg y ≤ LIM) := ⟨fun hp w => by
  obtain ⟨hy, hx, hl⟩ := hp
  refine fn_intro Tryz.func44 rfl Tryz.ntmps44 rfl ?_
  repeat (refine wkA ?_; try intro _)
  rename_i ba bb bc
  refine j_cut (S := Int × Int) (fun s => 0 < s.2 ∧ Rat.divInt s.1 s.2 = Rat.divInt x y ∧ mg s.1 ≤ LIM ∧ mg s.2 ≤ LIM) (fun _ => [(2, .pointer (some ⟨ba, 0, none⟩)), (3, .pointer (some ⟨bb, 0, none⟩)), (4, .pointer (some ⟨bc, 0, none⟩))]) (fun s => [⟨bc, e_api_Rat (Q 0), 32⟩, ⟨bb, e_api_Int (I s.2), 30⟩, ⟨ba, e_api_Int (I s.1), 30⟩]) ?_ (fun s hs => ?_)
  · refine j_cond rfl (fun h => ?_) (fun h => ?_)
    · have hneg : y < 0 := Int.sign_neg_iff.1 (of_decide_eq_true h)
      repeat (refine wkA ?_; try intro _)
      (refine jD 4 4 (h := ?_); (repeat (refine wkH ?_)); refine jh_nil ?_; (repeat (refine wn_new ?_; intro _)); refine jn_nil ?_)
      repeat (refine wkA ?_; try intro _)
      exact jx_mid (-x, -y) ⟨by simp only; omega, Rat.neg_divInt_neg _ _, by simp only [mg_neg]; exact hx, by simp only [mg_neg]; exact hl⟩ sbB sbl
    · have hpos : 0 < y := by
        have h1 : ¬ y.sign < 0 := of_decide_eq_false h
        have h2 : ¬ y < 0 := fun h3 => h1 (Int.sign_neg_iff.2 h3)
        omega
      repeat (refine wkA ?_; try intro _)
      exact jx_mid (x, y) ⟨hpos, rfl, hx, hl⟩ sbB sbl
  obtain ⟨p, q⟩ := s
  obtain ⟨hq0, heq, hp, hq⟩ := hs
  simp only at hq0 heq hp hq ⊢
  obtain ⟨e1, e2⟩ := canon_pos (x := p) hq0
  have hg0 : ((Int.gcd p q : Nat) : Int) ≠ 0 := by
    have := Int.gcd_pos_of_ne_zero_right p (Int.ne_of_gt hq0)
    omega
  have hg1 : mg (Int.gcd p q : Nat) ≤ LIM := by
    refine Nat.le_trans (mg_mono ?_) hq
    rw [Int.natAbs_natCast]
    exact Nat.le_of_dvd (by omega) (Int.gcd_dvd_natAbs_right p q)
  rw [← heq]
  generalize hgd : ((Int.gcd p q : Nat) : Int) = g at *
  repeat (first | (refine wkA ?_; try intro _) | (refine sC rfl rfl ?_ ?_; focus (first | exact trivial | assumption | exact ⟨hp, hq⟩)))
  rw [hgd]
  (refine jD 6 6 (h := ?_); (repeat (first | refine wkH ?_ | (refine tC rfl rfl ?_ ?_; focus (first | exact trivial | exact ⟨hg0, hp, hg1⟩ | exact ⟨hg0, hq, hg1⟩)))); refine jh_nil ?_; (repeat (refine wn_new ?_; intro _)); refine jn_nil ?_)
  rw [← e1, ← e2]
  repeat (refine wkA ?_; try intro _)
  (refine jD 3 3 (h := ?_); (repeat (refine wkH ?_)); refine jh_nil ?_; (repeat (refine wn_new ?_; intro _)); refine jn_nil ?_)
  repeat (refine wkA ?_; try intro _)
  have key : ∀ d : Int, (if (Rat.divInt p q).den = 1 then 0 else ((Rat.divInt p q).den : Int)) = d → (⟨I (Rat.divInt p q).num, I d⟩ : api_Rat) = Q (Rat.divInt p q) := fun d hd => by rw [← hd]; rfl
  refine j_cond rfl (fun h => ?_) (fun h => ?_)
  · have h1 : (Rat.divInt p q).den = 1 := by have := of_decide_eq_true h; omega
    repeat (refine wkA ?_; try intro _)
    exact wx_cell rfl rfl (fun w hw => by rw [key 0 (by rw [if_pos h1])]; exact ret_ok hw)
  · have h1 : ¬ (Rat.divInt p q).den = 1 := fun h0 => of_decide_eq_false h (by omega)
    repeat (refine wkA ?_; try intro _)
    exact wx_cell rfl rfl (fun w hw => by rw [key _ (by rw [if_neg h1])]; exact ret_ok hw)⟩
instance sp_Make (x y : Int) : SpecC Tryz.prog 40 [vI x, vI y] (.tuple #[vQ (Rat.divInt x y), .int .i64 (if y = 0 then 6 else 0)]) (mg x ≤ LIM ∧ mg y ≤ LIM) := ⟨fun hp w => by
  refine fn_intro Tryz.func40 rfl Tryz.ntmps40 rfl ?_
  repeat (refine wkA ?_; try intro _)
  refine j_cond rfl (fun h => ?_) (fun h => ?_)
  · have h1 : y = 0 := Int.sign_eq_zero_iff_zero.1 (of_decide_eq_true h)
    subst h1
    rw [Rat.divInt_zero, if_pos rfl]
    repeat (refine wkA ?_; try intro _)
    exact jx_ret_two rfl (wr_cell rfl) (resv_tmp rfl) (fun w hw => ret_ok hw)
  · have h1 : ¬ y = 0 := fun h0 => of_decide_eq_false h (by rw [h0]; rfl)
    rw [if_neg h1]
    repeat (first | (refine wkA ?_; try intro _) | (refine sC rfl rfl ?_ ?_; focus (first | exact trivial | exact ⟨h1, hp.1, hp.2⟩)))
    exact jx_ret_two rfl (wr_cell rfl) (resv_tmp rfl) (fun w hw => ret_ok hw)⟩
theorem mg_int8 {n : Int} (h : -9223372036854775808 ≤ n ∧ n ≤ 9223372036854775807) : mg n ≤ LIM := by
  refine Nat.le_trans (mg_small (k := 8) ?_) (by decide)
  have : (256 : Nat) ^ 8 = 18446744073709551616 := by decide
  omega
instance sp_RFromInts (x y : Int) : SpecC Tryz.prog 19 [.int .i64 x, .int .i64 y] (.tuple #[vQ (Rat.divInt x y), .int .i64 (if y = 0 then 6 else 0)]) ((-9223372036854775808 ≤ x ∧ x ≤ 9223372036854775807) ∧ (-9223372036854775808 ≤ y ∧ y ≤ 9223372036854775807)) := ⟨fun hp w => by
  refine fn_intro Tryz.func19 rfl Tryz.ntmps19 rfl ?_
  repeat (first | (refine wkA ?_; try intro _) | (refine sC rfl rfl ?_ ?_; focus (first | exact trivial | exact hp.1 | exact hp.2 | exact ⟨mg_int8 hp.1, mg_int8 hp.2⟩)))
  exact jx_ret_two rfl (wr_cell rfl) (resv_tmp rfl) (fun w hw => ret_ok hw)⟩
theorem Q_int (n : Int) : (⟨I n, I 0⟩ : api_Rat) = Q (n : Rat) := rfl
instance sp_RFromInt (n : Int) : SpecC Tryz.prog 23 [.int .i64 n] (vQ (n : Rat)) (-9223372036854775808 ≤ n ∧ n ≤ 9223372036854775807) := ⟨fun hp w => by
  refine fn_intro Tryz.func23 rfl Tryz.ntmps23 rfl ?_
  repeat (refine wkA ?_; try intro _)
  exact wx_cell rfl rfl (fun w hw => by rw [z_I, Q_int]; exact ret_ok hw)⟩
/-- Both numerators over a common denominator. -/
def crs (a b : Rat) : Int × Int × Int := if a.den = b.den then (a.num, b.num, a.den) else (a.num * b.den, b.num * a.den, a.den * b.den)
theorem crs_len (a b : Rat) : mg (crs a b).1 ≤ M a + M b ∧ mg (crs a b).2.1 ≤ M a + M b ∧ mg (crs a b).2.2 ≤ M a + M b := by
  have h1 := M_num a
  have h2 := M_den a
  have h3 := M_num b
  have h4 := M_den b
  have h5 := mg_mul a.num b.den
  have h6 := mg_mul b.num a.den
  have h7 := mg_mul a.den b.den
  unfold crs
  split <;> exact ⟨by simp only; omega, by simp only; omega, by simp only; omega⟩
theorem crs_pos (a b : Rat) : 0 < (crs a b).2.2 := by
  have h1 := a.den_pos
  have h2 := b.den_pos
  unfold crs
  split
  · show (0 : Int) < a.den
    omega
  · exact Int.mul_pos (by omega) (by omega)
theorem crs_val (a b : Rat) : a = Rat.divInt (crs a b).1 (crs a b).2.2 ∧ b = Rat.divInt (crs a b).2.1 (crs a b).2.2 := by
  have ha := den_ne a
  have hb := den_ne b
  unfold crs
  split
  · rename_i h
    exact ⟨(Rat.num_divInt_den a).symm, by rw [h]; exact (Rat.num_divInt_den b).symm⟩
  · refine ⟨?_, ?_⟩
    · conv => lhs; rw [← Rat.num_divInt_den a]
      exact (Rat.divInt_mul_right hb).symm
    · conv => lhs; rw [← Rat.num_divInt_den b]
      rw [Int.mul_comm (a.den : Int)]
      exact (Rat.divInt_mul_right ha).symm
theorem crs_add (a b : Rat) : Rat.divInt ((crs a b).1 + (crs a b).2.1) (crs a b).2.2 = a + b := by
  have h := crs_pos a b
  obtain ⟨h1, h2⟩ := crs_val a b
  have h3 : (crs a b).2.2 ≠ 0 := by omega
  have e : a + b = Rat.divInt (crs a b).1 (crs a b).2.2 + Rat.divInt (crs a b).2.1 (crs a b).2.2 := by rw [← h1, ← h2]
  rw [e, Rat.divInt_add_divInt _ _ h3 h3, ← Int.add_mul]
  exact (Rat.divInt_mul_right h3).symm
/-- How two fractions compare. -/
def cq (a b : Rat) : Int := if a < b then -1 else if b < a then 1 else 0
theorem crs_cmp (a b : Rat) : Lib.compareInt (crs a b).1 (crs a b).2.1 = cq a b := by
  have key : ∀ x y : Rat, x < y ↔ x.num * y.den < y.num * x.den := Rat.lt_iff
  have h : ((crs a b).1 < (crs a b).2.1 ↔ a < b) ∧ ((crs a b).2.1 < (crs a b).1 ↔ b < a) := by
    unfold crs
    rw [key a b, key b a]
    have h1 := a.den_pos
    split
    · rename_i hd
      rw [hd]
      have h2 : (0 : Int) < b.den := by have := b.den_pos; omega
      exact ⟨(Int.mul_lt_mul_right h2).symm, (Int.mul_lt_mul_right h2).symm⟩
    · exact ⟨Iff.rfl, Iff.rfl⟩
  unfold Lib.compareInt cq
  simp only [h.1, h.2, GT.gt]
instance sp_cross (a b : Rat) : SpecC Tryz.prog 48 [vQ a, vQ b] (.tuple #[vI (crs a b).1, vI (crs a b).2.1, vI (crs a b).2.2]) (M a ≤ LQ ∧ M b ≤ LQ) := ⟨fun hp w => by
  have hL : LQ ≤ LIM := by decide
  have h1 := Nat.le_trans (Nat.le_trans (M_num a) hp.1) hL
  have h2 := Nat.le_trans (Nat.le_trans (M_den a) hp.1) hL
  have h3 := Nat.le_trans (Nat.le_trans (M_num b) hp.2) hL
  have h4 := Nat.le_trans (Nat.le_trans (M_den b) hp.2) hL
  refine fn_intro Tryz.func48 rfl Tryz.ntmps48 rfl ?_
  repeat (refine wkA ?_; try intro _)
  refine j_cond rfl (fun h => ?_) (fun h => ?_)
  · have hd : a.den = b.den := dn_inj.1 (of_decide_eq_true h)
    rw [show crs a b = (a.num, b.num, (a.den : Int)) by unfold crs; rw [if_pos hd]]
    repeat (refine wkA ?_; try intro _)
    rename_i ba bb bc bd be
    (refine j_late [0, 1, 2, 3, 4, 5] [6, 7, 8] ([⟨bb, e_api_Rat (Q b), 32⟩, ⟨ba, e_api_Rat (Q a), 32⟩]) (h := ?_); refine wkI ?_)
    (repeat (refine wkH ?_))
    refine jh_nil ?_
    refine we_store rfl rfl rfl sbl (we_store rfl rfl rfl sbl (we_store rfl rfl rfl sbl (je_nil ?_)))
    repeat (refine wkA ?_; try intro _)
    exact jx_ret_three rfl (wr_cell rfl) (wr_cell rfl) (wr_cell rfl) (fun w hw => ret_ok hw)
  · have hd : ¬ a.den = b.den := fun h0 => of_decide_eq_false h (dn_inj.2 h0)
    rw [show crs a b = (a.num * b.den, b.num * a.den, (a.den : Int) * b.den) by unfold crs; rw [if_neg hd]]
    repeat (refine wkA ?_; try intro _)
    (refine jD 15 15 (h := ?_); (repeat (refine wkH ?_)); refine jh_nil ?_; (repeat (refine wn_new ?_; intro _)); refine jn_nil ?_)
    repeat (refine wkA ?_; try intro _)
    exact jx_ret_three rfl (wr_cell rfl) (wr_cell rfl) (wr_cell rfl) (fun w hw => ret_ok hw)⟩
theorem LQ2 {j k : Nat} (h : j ≤ LQ ∧ k ≤ LQ) : j + k + 1 ≤ LIM := by
  have h1 : LQ + LQ + 1 ≤ LIM := by decide
  exact Nat.le_trans (Nat.add_le_add_right (Nat.add_le_add h.1 h.2) 1) h1
instance sp_RAdd (a b : Rat) : SpecC Tryz.prog 42 [vQ a, vQ b] (vQ (a + b)) (M a ≤ LQ ∧ M b ≤ LQ) := ⟨fun hp w => by
  obtain ⟨h1, h2, h3⟩ := crs_len a b
  have hL := LQ2 hp
  have g1 : mg (crs a b).1 ≤ LIM := Nat.le_trans (Nat.le_succ_of_le h1) hL
  have g2 : mg (crs a b).2.1 ≤ LIM := Nat.le_trans (Nat.le_succ_of_le h2) hL
  have g3 : mg (crs a b).2.2 ≤ LIM := Nat.le_trans (Nat.le_succ_of_le h3) hL
  have g4 : mg ((crs a b).1 + (crs a b).2.1) ≤ LIM := Nat.le_trans (mg_add h1 h2) hL
  have g5 : (crs a b).2.2 ≠ 0 := Int.ne_of_gt (crs_pos a b)
  refine fn_intro Tryz.func42 rfl Tryz.ntmps42 rfl ?_
  repeat (refine wkA ?_; try intro _)
  (refine jD 5 5 (h := ?_); (repeat (first | refine wkH ?_ | (refine tC rfl rfl ?_ ?_; focus (first | exact ⟨by assumption, by assumption⟩ | exact ⟨g5, g4, g3⟩)))); refine jh_nil ?_; (repeat (refine wn_new ?_; intro _)); refine jn_nil ?_)
  rw [crs_add]
  repeat (refine wkA ?_; try intro _)
  exact wx_cell rfl rfl (fun w hw => ret_ok hw)⟩
instance sp_RMul (a b : Rat) : SpecC Tryz.prog 22 [vQ a, vQ b] (vQ (a * b)) (M a ≤ LQ ∧ M b ≤ LQ) := ⟨fun hp w => by
  have hL : LQ ≤ LIM := by decide
  have hM := LQ2 hp
  have h1 := Nat.le_trans (Nat.le_trans (M_num a) hp.1) hL
  have h2 := Nat.le_trans (Nat.le_trans (M_den a) hp.1) hL
  have h3 := Nat.le_trans (Nat.le_trans (M_num b) hp.2) hL
  have h4 := Nat.le_trans (Nat.le_trans (M_den b) hp.2) hL
  have g1 : mg (a.num * b.num) ≤ LIM := Nat.le_trans (mg_mul _ _) (Nat.le_trans (Nat.le_succ_of_le (Nat.add_le_add (M_num a) (M_num b))) hM)
  have g2 : mg ((a.den : Int) * b.den) ≤ LIM := Nat.le_trans (mg_mul _ _) (Nat.le_trans (Nat.le_succ_of_le (Nat.add_le_add (M_den a) (M_den b))) hM)
  have g3 : (a.den : Int) * b.den ≠ 0 := Int.mul_ne_zero (den_ne a) (den_ne b)
  refine fn_intro Tryz.func22 rfl Tryz.ntmps22 rfl ?_
  repeat (refine wkA ?_; try intro _)
  (refine jD 11 11 (h := ?_); (repeat (first | refine wkH ?_ | (refine tC rfl rfl ?_ ?_; focus (first | exact trivial | exact ⟨by assumption, by assumption⟩ | exact ⟨g3, g1, g2⟩)))); refine jh_nil ?_; (repeat (refine wn_new ?_; intro _)); refine jn_nil ?_)
  rw [← mul_divInt]
  repeat (refine wkA ?_; try intro _)
  exact wx_cell rfl rfl (fun w hw => ret_ok hw)⟩
instance sp_RDiv (a b : Rat) : SpecC Tryz.prog 96 [vQ a, vQ b] (.tuple #[vQ (a / b), .int .i64 (if b = 0 then 6 else 0)]) (M a ≤ LQ ∧ M b ≤ LQ) := ⟨fun hp w => by
  have hL : LQ ≤ LIM := by decide
  have hM := LQ2 hp
  have h1 := Nat.le_trans (Nat.le_trans (M_num a) hp.1) hL
  have h2 := Nat.le_trans (Nat.le_trans (M_den a) hp.1) hL
  have h3 := Nat.le_trans (Nat.le_trans (M_num b) hp.2) hL
  have h4 := Nat.le_trans (Nat.le_trans (M_den b) hp.2) hL
  have g1 : mg (a.num * b.den) ≤ LIM := Nat.le_trans (mg_mul _ _) (Nat.le_trans (Nat.le_succ_of_le (Nat.add_le_add (M_num a) (M_den b))) hM)
  have g2 : mg ((a.den : Int) * b.num) ≤ LIM := Nat.le_trans (mg_mul _ _) (Nat.le_trans (Nat.le_succ_of_le (Nat.add_le_add (M_den a) (M_num b))) hM)
  have hz : ((a.den : Int) * b.num = 0) ↔ b = 0 := by
    rw [Int.mul_eq_zero, Rat.num_eq_zero]
    exact ⟨fun h => h.resolve_left (den_ne a), .inr⟩
  refine fn_intro Tryz.func96 rfl Tryz.ntmps96 rfl ?_
  repeat (refine wkA ?_; try intro _)
  (refine jD 13 13 (h := ?_); (repeat (refine wkH ?_)); refine jh_nil ?_; (repeat (refine wn_new ?_; intro _)); refine jn_nil ?_)
  rw [← div_divInt]
  simp only [hz]
  repeat (refine wkA ?_; try intro _)
  exact jx_ret_two rfl (wr_cell rfl) (resv_tmp rfl) (fun w hw => ret_ok hw)⟩
theorem Q_neg (q : Rat) : (⟨I (-q.num), I (dn q)⟩ : api_Rat) = Q (-q) := rfl
instance sp_RNeg (a : Rat) : SpecC Tryz.prog 43 [vQ a] (vQ (-a)) True := ⟨fun _ w => by
  refine fn_intro Tryz.func43 rfl Tryz.ntmps43 rfl ?_
  repeat (refine wkA ?_; try intro _)
  (refine jD 6 6 (h := ?_); (repeat (refine wkH ?_)); refine jh_nil ?_; (repeat (refine wn_new ?_; intro _)); refine jn_nil ?_)
  rw [Q_neg]
  repeat (refine wkA ?_; try intro _)
  exact wx_cell rfl rfl (fun w hw => ret_ok hw)⟩
instance sp_RSub (a b : Rat) : SpecC Tryz.prog 21 [vQ a, vQ b] (vQ (a - b)) (M a ≤ LQ ∧ M b ≤ LQ) := ⟨fun hp w => by
  have h1 := hp.1
  have h2 : M (-b) ≤ LQ := by rw [M_neg]; exact hp.2
  refine fn_intro Tryz.func21 rfl Tryz.ntmps21 rfl ?_
  repeat (refine wkA ?_; try intro _)
  (refine jD 4 4 (h := ?_); (repeat (refine wkH ?_)); refine jh_nil ?_; (repeat (refine wn_new ?_; intro _)); refine jn_nil ?_)
  rw [← Rat.sub_eq_add_neg]
  repeat (refine wkA ?_; try intro _)
  exact wx_cell rfl rfl (fun w hw => ret_ok hw)⟩
instance sp_RCompare (a b : Rat) : SpecC Tryz.prog 25 [vQ a, vQ b] (.int .i64 (cq a b)) (M a ≤ LQ ∧ M b ≤ LQ) := ⟨fun hp w => by
  refine fn_intro Tryz.func25 rfl Tryz.ntmps25 rfl ?_
  repeat (refine wkA ?_; try intro _)
  refine j_cond rfl (fun h => ?_) (fun h => ?_)
  · have h1 : a = b := of_decide_eq_true h
    rw [show cq a b = 0 by unfold cq; rw [h1, if_neg Rat.lt_irrefl, if_neg Rat.lt_irrefl]]
    repeat (refine wkA ?_; try intro _)
    exact jx_ret_tmp rfl rfl (fun w hw => ret_ok hw)
  · repeat (refine wkA ?_; try intro _)
    rw [crs_cmp]
    repeat (refine wkA ?_; try intro _)
    exact jx_ret_tmp rfl rfl (fun w hw => ret_ok hw)⟩
instance sp_RSign (a : Rat) : SpecC Tryz.prog 24 [vQ a] (.int .i64 a.num.sign) True := ⟨fun _ w => by
  refine fn_intro Tryz.func24 rfl Tryz.ntmps24 rfl ?_
  repeat (refine wkA ?_; try intro _)
  exact jx_ret_tmp rfl rfl (fun w hw => ret_ok hw)⟩
theorem cq_le {a b : Rat} : cq a b ≤ 0 ↔ a ≤ b := by unfold cq; grind
theorem cq_gt {a b : Rat} : 0 < cq a b ↔ b < a := by unfold cq; grind
theorem cq_lt {a b : Rat} : cq a b < 0 ↔ a < b := by unfold cq; grind
theorem cq_eq {a b : Rat} : cq a b = 0 ↔ a = b := by unfold cq; grind
end Go.Vt
/- Structs in which fractions lie: as Lean structures over Rat, with their encodings and what loads, literals and comparisons give. Written by a program (gen_enc.py). Conditions: none. -/
set_option linter.unusedVariables false
set_option linter.unusedSimpArgs false
set_option maxRecDepth 100000
namespace Go.Vt
open Go.RowKit Go.Proofs
structure R_intake_Timed where
  T : Rat
  Report : api_Report
  deriving DecidableEq
def q_intake_Timed (x : R_intake_Timed) : intake_Timed := ⟨Q x.T, x.Report⟩
def zR_intake_Timed : R_intake_Timed := ⟨0, z_api_Report⟩
theorem q_intake_Timed_inj {x y : R_intake_Timed} : q_intake_Timed x = q_intake_Timed y ↔ x = y := by
  cases x; cases y; simp only [q_intake_Timed, intake_Timed.mk.injEq, R_intake_Timed.mk.injEq, Q_inj, I_inj]
instance (priority := high) rz_36 : ZeroC Tryz.prog 36 (.agg (e_intake_Timed (q_intake_Timed zR_intake_Timed))) (e_intake_Timed (q_intake_Timed zR_intake_Timed)) := ⟨by kernel_rfl, rfl⟩
instance (priority := high) rl_36_36_0 (x : R_intake_Timed) : LdC Tryz.prog 36 (e_intake_Timed (q_intake_Timed x)) 0 (.agg (e_intake_Timed (q_intake_Timed x))) := ⟨ldv_agg 12 (by kernel_rfl) (by kernel_rfl) (by kernel_rfl)⟩
instance (priority := high) rl_36_32_0 (x : R_intake_Timed) : LdC Tryz.prog 32 (e_intake_Timed (q_intake_Timed x)) 0 (vQ x.T) := ⟨ldv_agg 4 (by kernel_rfl) (by kernel_rfl) (by kernel_rfl)⟩
instance (priority := high) rl_36_3_5 (x : R_intake_Timed) : LdC Tryz.prog 3 (e_intake_Timed (q_intake_Timed x)) 5 (.int .i64 x.Report.Seq) := ⟨ldv_one (by kernel_rfl) (by kernel_rfl)⟩
instance (priority := high) rl_36_3_9 (x : R_intake_Timed) : LdC Tryz.prog 3 (e_intake_Timed (q_intake_Timed x)) 9 (.int .i64 x.Report.X) := ⟨ldv_one (by kernel_rfl) (by kernel_rfl)⟩
instance (priority := high) rl_36_3_10 (x : R_intake_Timed) : LdC Tryz.prog 3 (e_intake_Timed (q_intake_Timed x)) 10 (.int .i64 x.Report.Y) := ⟨ldv_one (by kernel_rfl) (by kernel_rfl)⟩
instance (priority := high) rb_36_0_1 (x0 : Rat) (x1 : api_Report) : BdC Tryz.prog 36 [(0, vQ x0), (1, .agg (e_api_Report x1))] (.agg (e_intake_Timed (q_intake_Timed ⟨x0, x1⟩))) := ⟨fun w => by kernel_rfl⟩
structure R_api_Point where
  X : Rat
  Y : Rat
  deriving DecidableEq
def q_api_Point (x : R_api_Point) : api_Point := ⟨Q x.X, Q x.Y⟩
def zR_api_Point : R_api_Point := ⟨0, 0⟩
instance (priority := high) rz_65 : ZeroC Tryz.prog 65 (.agg (e_api_Point (q_api_Point zR_api_Point))) (e_api_Point (q_api_Point zR_api_Point)) := ⟨by kernel_rfl, rfl⟩
instance (priority := high) rl_65_65_0 (x : R_api_Point) : LdC Tryz.prog 65 (e_api_Point (q_api_Point x)) 0 (.agg (e_api_Point (q_api_Point x))) := ⟨ldv_agg 8 (by kernel_rfl) (by kernel_rfl) (by kernel_rfl)⟩
instance (priority := high) rl_65_32_0 (x : R_api_Point) : LdC Tryz.prog 32 (e_api_Point (q_api_Point x)) 0 (vQ x.X) := ⟨ldv_agg 4 (by kernel_rfl) (by kernel_rfl) (by kernel_rfl)⟩
instance (priority := high) rl_65_32_4 (x : R_api_Point) : LdC Tryz.prog 32 (e_api_Point (q_api_Point x)) 4 (vQ x.Y) := ⟨ldv_agg 4 (by kernel_rfl) (by kernel_rfl) (by kernel_rfl)⟩
instance (priority := high) rb_65_0_1 (x0 : Rat) (x1 : Rat) : BdC Tryz.prog 65 [(0, vQ x0), (1, vQ x1)] (.agg (e_api_Point (q_api_Point ⟨x0, x1⟩))) := ⟨fun w => by kernel_rfl⟩
structure R_api_Real where
  P : Rat
  R : Rat
  Neg : Bool
  deriving DecidableEq
def q_api_Real (x : R_api_Real) : api_Real := ⟨Q x.P, Q x.R, x.Neg⟩
def zR_api_Real : R_api_Real := ⟨0, 0, false⟩
theorem q_api_Real_inj {x y : R_api_Real} : q_api_Real x = q_api_Real y ↔ x = y := by
  cases x; cases y; simp only [q_api_Real, api_Real.mk.injEq, R_api_Real.mk.injEq, Q_inj, I_inj]
instance (priority := high) rz_81 : ZeroC Tryz.prog 81 (.agg (e_api_Real (q_api_Real zR_api_Real))) (e_api_Real (q_api_Real zR_api_Real)) := ⟨by kernel_rfl, rfl⟩
instance (priority := high) rl_81_81_0 (x : R_api_Real) : LdC Tryz.prog 81 (e_api_Real (q_api_Real x)) 0 (.agg (e_api_Real (q_api_Real x))) := ⟨ldv_agg 9 (by kernel_rfl) (by kernel_rfl) (by kernel_rfl)⟩
instance (priority := high) rl_81_32_0 (x : R_api_Real) : LdC Tryz.prog 32 (e_api_Real (q_api_Real x)) 0 (vQ x.P) := ⟨ldv_agg 4 (by kernel_rfl) (by kernel_rfl) (by kernel_rfl)⟩
instance (priority := high) rl_81_32_4 (x : R_api_Real) : LdC Tryz.prog 32 (e_api_Real (q_api_Real x)) 4 (vQ x.R) := ⟨ldv_agg 4 (by kernel_rfl) (by kernel_rfl) (by kernel_rfl)⟩
instance (priority := high) rl_81_4_8 (x : R_api_Real) : LdC Tryz.prog 4 (e_api_Real (q_api_Real x)) 8 (.bool x.Neg) := ⟨ldv_one (by kernel_rfl) (by kernel_rfl)⟩
instance (priority := high) rb_81_0 (x0 : Rat) : BdC Tryz.prog 81 [(0, vQ x0)] (.agg (e_api_Real (q_api_Real ⟨x0, 0, false⟩))) := ⟨fun w => by kernel_rfl⟩
instance (priority := high) reql_81 (x y : R_api_Real) : BinC Tryz.prog .eql 81 (.agg (e_api_Real (q_api_Real x))) (.agg (e_api_Real (q_api_Real y))) (.bool (decide (x = y))) := by
  have h : decide (q_api_Real x = q_api_Real y) = decide (x = y) := by rw [decide_eq_decide]; exact q_api_Real_inj
  exact h ▸ (inferInstance : BinC Tryz.prog .eql 81 (.agg (e_api_Real (q_api_Real x))) (.agg (e_api_Real (q_api_Real y))) (.bool (decide (q_api_Real x = q_api_Real y))))
structure R_api_Interval where
  From : R_api_Real
  To : R_api_Real
  OpenFrom : Bool
  OpenTo : Bool
  deriving DecidableEq
def q_api_Interval (x : R_api_Interval) : api_Interval := ⟨q_api_Real x.From, q_api_Real x.To, x.OpenFrom, x.OpenTo⟩
def zR_api_Interval : R_api_Interval := ⟨zR_api_Real, zR_api_Real, false, false⟩
theorem q_api_Interval_inj {x y : R_api_Interval} : q_api_Interval x = q_api_Interval y ↔ x = y := by
  cases x; cases y; simp only [q_api_Interval, api_Interval.mk.injEq, R_api_Interval.mk.injEq, Q_inj, I_inj, q_api_Real_inj, q_api_Real_inj]
instance (priority := high) rz_83 : ZeroC Tryz.prog 83 (.agg (e_api_Interval (q_api_Interval zR_api_Interval))) (e_api_Interval (q_api_Interval zR_api_Interval)) := ⟨by kernel_rfl, rfl⟩
instance (priority := high) rl_83_83_0 (x : R_api_Interval) : LdC Tryz.prog 83 (e_api_Interval (q_api_Interval x)) 0 (.agg (e_api_Interval (q_api_Interval x))) := ⟨ldv_agg 20 (by kernel_rfl) (by kernel_rfl) (by kernel_rfl)⟩
instance (priority := high) rl_83_81_0 (x : R_api_Interval) : LdC Tryz.prog 81 (e_api_Interval (q_api_Interval x)) 0 (.agg (e_api_Real (q_api_Real x.From))) := ⟨ldv_agg 9 (by kernel_rfl) (by kernel_rfl) (by kernel_rfl)⟩
instance (priority := high) rl_83_81_9 (x : R_api_Interval) : LdC Tryz.prog 81 (e_api_Interval (q_api_Interval x)) 9 (.agg (e_api_Real (q_api_Real x.To))) := ⟨ldv_agg 9 (by kernel_rfl) (by kernel_rfl) (by kernel_rfl)⟩
instance (priority := high) rl_83_4_18 (x : R_api_Interval) : LdC Tryz.prog 4 (e_api_Interval (q_api_Interval x)) 18 (.bool x.OpenFrom) := ⟨ldv_one (by kernel_rfl) (by kernel_rfl)⟩
instance (priority := high) rl_83_4_19 (x : R_api_Interval) : LdC Tryz.prog 4 (e_api_Interval (q_api_Interval x)) 19 (.bool x.OpenTo) := ⟨ldv_one (by kernel_rfl) (by kernel_rfl)⟩
instance (priority := high) rb_83_0_1 (x0 : R_api_Real) (x1 : R_api_Real) : BdC Tryz.prog 83 [(0, .agg (e_api_Real (q_api_Real x0))), (1, .agg (e_api_Real (q_api_Real x1)))] (.agg (e_api_Interval (q_api_Interval ⟨x0, x1, false, false⟩))) := ⟨fun w => by kernel_rfl⟩
instance (priority := high) rb_83_0_1_2 (x0 : R_api_Real) (x1 : R_api_Real) (x2 : Bool) : BdC Tryz.prog 83 [(0, .agg (e_api_Real (q_api_Real x0))), (1, .agg (e_api_Real (q_api_Real x1))), (2, .bool x2)] (.agg (e_api_Interval (q_api_Interval ⟨x0, x1, x2, false⟩))) := ⟨fun w => by kernel_rfl⟩
instance (priority := high) rb_83_0_1_2_3 (x0 : R_api_Real) (x1 : R_api_Real) (x2 : Bool) (x3 : Bool) : BdC Tryz.prog 83 [(0, .agg (e_api_Real (q_api_Real x0))), (1, .agg (e_api_Real (q_api_Real x1))), (2, .bool x2), (3, .bool x3)] (.agg (e_api_Interval (q_api_Interval ⟨x0, x1, x2, x3⟩))) := ⟨fun w => by kernel_rfl⟩
instance (priority := high) rb_83_1 (x1 : R_api_Real) : BdC Tryz.prog 83 [(1, .agg (e_api_Real (q_api_Real x1)))] (.agg (e_api_Interval (q_api_Interval ⟨zR_api_Real, x1, false, false⟩))) := ⟨fun w => by kernel_rfl⟩
instance (priority := high) reql_83 (x y : R_api_Interval) : BinC Tryz.prog .eql 83 (.agg (e_api_Interval (q_api_Interval x))) (.agg (e_api_Interval (q_api_Interval y))) (.bool (decide (x = y))) := by
  have h : decide (q_api_Interval x = q_api_Interval y) = decide (x = y) := by rw [decide_eq_decide]; exact q_api_Interval_inj
  exact h ▸ (inferInstance : BinC Tryz.prog .eql 83 (.agg (e_api_Interval (q_api_Interval x))) (.agg (e_api_Interval (q_api_Interval y))) (.bool (decide (q_api_Interval x = q_api_Interval y))))
structure R_api_Line where
  X0 : Rat
  X1 : Rat
  Y0 : Rat
  Y1 : Rat
  deriving DecidableEq
def q_api_Line (x : R_api_Line) : api_Line := ⟨Q x.X0, Q x.X1, Q x.Y0, Q x.Y1⟩
def zR_api_Line : R_api_Line := ⟨0, 0, 0, 0⟩
theorem q_api_Line_inj {x y : R_api_Line} : q_api_Line x = q_api_Line y ↔ x = y := by
  cases x; cases y; simp only [q_api_Line, api_Line.mk.injEq, R_api_Line.mk.injEq, Q_inj, I_inj]
instance (priority := high) rz_85 : ZeroC Tryz.prog 85 (.agg (e_api_Line (q_api_Line zR_api_Line))) (e_api_Line (q_api_Line zR_api_Line)) := ⟨by kernel_rfl, rfl⟩
instance (priority := high) rl_85_85_0 (x : R_api_Line) : LdC Tryz.prog 85 (e_api_Line (q_api_Line x)) 0 (.agg (e_api_Line (q_api_Line x))) := ⟨ldv_agg 16 (by kernel_rfl) (by kernel_rfl) (by kernel_rfl)⟩
instance (priority := high) rl_85_32_0 (x : R_api_Line) : LdC Tryz.prog 32 (e_api_Line (q_api_Line x)) 0 (vQ x.X0) := ⟨ldv_agg 4 (by kernel_rfl) (by kernel_rfl) (by kernel_rfl)⟩
instance (priority := high) rl_85_32_4 (x : R_api_Line) : LdC Tryz.prog 32 (e_api_Line (q_api_Line x)) 4 (vQ x.X1) := ⟨ldv_agg 4 (by kernel_rfl) (by kernel_rfl) (by kernel_rfl)⟩
instance (priority := high) rl_85_32_8 (x : R_api_Line) : LdC Tryz.prog 32 (e_api_Line (q_api_Line x)) 8 (vQ x.Y0) := ⟨ldv_agg 4 (by kernel_rfl) (by kernel_rfl) (by kernel_rfl)⟩
instance (priority := high) rl_85_32_12 (x : R_api_Line) : LdC Tryz.prog 32 (e_api_Line (q_api_Line x)) 12 (vQ x.Y1) := ⟨ldv_agg 4 (by kernel_rfl) (by kernel_rfl) (by kernel_rfl)⟩
instance (priority := high) rb_85_0_1_2_3 (x0 : Rat) (x1 : Rat) (x2 : Rat) (x3 : Rat) : BdC Tryz.prog 85 [(0, vQ x0), (1, vQ x1), (2, vQ x2), (3, vQ x3)] (.agg (e_api_Line (q_api_Line ⟨x0, x1, x2, x3⟩))) := ⟨fun w => by kernel_rfl⟩
instance (priority := high) rb_85_0_2 (x0 : Rat) (x2 : Rat) : BdC Tryz.prog 85 [(0, vQ x0), (2, vQ x2)] (.agg (e_api_Line (q_api_Line ⟨x0, 0, x2, 0⟩))) := ⟨fun w => by kernel_rfl⟩
instance (priority := high) rb_85_1 (x1 : Rat) : BdC Tryz.prog 85 [(1, vQ x1)] (.agg (e_api_Line (q_api_Line ⟨0, x1, 0, 0⟩))) := ⟨fun w => by kernel_rfl⟩
instance (priority := high) reql_85 (x y : R_api_Line) : BinC Tryz.prog .eql 85 (.agg (e_api_Line (q_api_Line x))) (.agg (e_api_Line (q_api_Line y))) (.bool (decide (x = y))) := by
  have h : decide (q_api_Line x = q_api_Line y) = decide (x = y) := by rw [decide_eq_decide]; exact q_api_Line_inj
  exact h ▸ (inferInstance : BinC Tryz.prog .eql 85 (.agg (e_api_Line (q_api_Line x))) (.agg (e_api_Line (q_api_Line y))) (.bool (decide (q_api_Line x = q_api_Line y))))
structure R_api_PointUnit where
  In : R_api_Interval
  F : R_api_Line
  deriving DecidableEq
def q_api_PointUnit (x : R_api_PointUnit) : api_PointUnit := ⟨q_api_Interval x.In, q_api_Line x.F⟩
def zR_api_PointUnit : R_api_PointUnit := ⟨zR_api_Interval, zR_api_Line⟩
theorem q_api_PointUnit_inj {x y : R_api_PointUnit} : q_api_PointUnit x = q_api_PointUnit y ↔ x = y := by
  cases x; cases y; simp only [q_api_PointUnit, api_PointUnit.mk.injEq, R_api_PointUnit.mk.injEq, Q_inj, I_inj, q_api_Interval_inj, q_api_Line_inj]
instance (priority := high) rz_87 : ZeroC Tryz.prog 87 (.agg (e_api_PointUnit (q_api_PointUnit zR_api_PointUnit))) (e_api_PointUnit (q_api_PointUnit zR_api_PointUnit)) := ⟨by kernel_rfl, rfl⟩
instance (priority := high) rl_87_87_0 (x : R_api_PointUnit) : LdC Tryz.prog 87 (e_api_PointUnit (q_api_PointUnit x)) 0 (.agg (e_api_PointUnit (q_api_PointUnit x))) := ⟨ldv_agg 36 (by kernel_rfl) (by kernel_rfl) (by kernel_rfl)⟩
instance (priority := high) rl_87_83_0 (x : R_api_PointUnit) : LdC Tryz.prog 83 (e_api_PointUnit (q_api_PointUnit x)) 0 (.agg (e_api_Interval (q_api_Interval x.In))) := ⟨ldv_agg 20 (by kernel_rfl) (by kernel_rfl) (by kernel_rfl)⟩
instance (priority := high) rl_87_81_0 (x : R_api_PointUnit) : LdC Tryz.prog 81 (e_api_PointUnit (q_api_PointUnit x)) 0 (.agg (e_api_Real (q_api_Real x.In.From))) := ⟨ldv_agg 9 (by kernel_rfl) (by kernel_rfl) (by kernel_rfl)⟩
instance (priority := high) rl_87_85_20 (x : R_api_PointUnit) : LdC Tryz.prog 85 (e_api_PointUnit (q_api_PointUnit x)) 20 (.agg (e_api_Line (q_api_Line x.F))) := ⟨ldv_agg 16 (by kernel_rfl) (by kernel_rfl) (by kernel_rfl)⟩
instance (priority := high) rb_87_0_1 (x0 : R_api_Interval) (x1 : R_api_Line) : BdC Tryz.prog 87 [(0, .agg (e_api_Interval (q_api_Interval x0))), (1, .agg (e_api_Line (q_api_Line x1)))] (.agg (e_api_PointUnit (q_api_PointUnit ⟨x0, x1⟩))) := ⟨fun w => by kernel_rfl⟩
instance (priority := high) rneq_87 (x y : R_api_PointUnit) : BinC Tryz.prog .neq 87 (.agg (e_api_PointUnit (q_api_PointUnit x))) (.agg (e_api_PointUnit (q_api_PointUnit y))) (.bool (!decide (x = y))) := by
  have h : decide (q_api_PointUnit x = q_api_PointUnit y) = decide (x = y) := by rw [decide_eq_decide]; exact q_api_PointUnit_inj
  exact h ▸ (inferInstance : BinC Tryz.prog .neq 87 (.agg (e_api_PointUnit (q_api_PointUnit x))) (.agg (e_api_PointUnit (q_api_PointUnit y))) (.bool (!decide (q_api_PointUnit x = q_api_PointUnit y))))
structure R_movingpoint_Sample where
  T : Rat
  P : R_api_Point
  deriving DecidableEq
def q_movingpoint_Sample (x : R_movingpoint_Sample) : movingpoint_Sample := ⟨Q x.T, q_api_Point x.P⟩
def zR_movingpoint_Sample : R_movingpoint_Sample := ⟨0, zR_api_Point⟩
instance (priority := high) rz_91 : ZeroC Tryz.prog 91 (.agg (e_movingpoint_Sample (q_movingpoint_Sample zR_movingpoint_Sample))) (e_movingpoint_Sample (q_movingpoint_Sample zR_movingpoint_Sample)) := ⟨by kernel_rfl, rfl⟩
instance (priority := high) rl_91_91_0 (x : R_movingpoint_Sample) : LdC Tryz.prog 91 (e_movingpoint_Sample (q_movingpoint_Sample x)) 0 (.agg (e_movingpoint_Sample (q_movingpoint_Sample x))) := ⟨ldv_agg 12 (by kernel_rfl) (by kernel_rfl) (by kernel_rfl)⟩
instance (priority := high) rl_91_32_0 (x : R_movingpoint_Sample) : LdC Tryz.prog 32 (e_movingpoint_Sample (q_movingpoint_Sample x)) 0 (vQ x.T) := ⟨ldv_agg 4 (by kernel_rfl) (by kernel_rfl) (by kernel_rfl)⟩
instance (priority := high) rl_91_32_4 (x : R_movingpoint_Sample) : LdC Tryz.prog 32 (e_movingpoint_Sample (q_movingpoint_Sample x)) 4 (vQ x.P.X) := ⟨ldv_agg 4 (by kernel_rfl) (by kernel_rfl) (by kernel_rfl)⟩
instance (priority := high) rl_91_32_8 (x : R_movingpoint_Sample) : LdC Tryz.prog 32 (e_movingpoint_Sample (q_movingpoint_Sample x)) 8 (vQ x.P.Y) := ⟨ldv_agg 4 (by kernel_rfl) (by kernel_rfl) (by kernel_rfl)⟩
instance (priority := high) rb_91_0_1 (x0 : Rat) (x1 : R_api_Point) : BdC Tryz.prog 91 [(0, vQ x0), (1, .agg (e_api_Point (q_api_Point x1)))] (.agg (e_movingpoint_Sample (q_movingpoint_Sample ⟨x0, x1⟩))) := ⟨fun w => by kernel_rfl⟩
structure R_api_Quad where
  C0 : Rat
  C1 : Rat
  C2 : Rat
  deriving DecidableEq
def q_api_Quad (x : R_api_Quad) : api_Quad := ⟨Q x.C0, Q x.C1, Q x.C2⟩
def zR_api_Quad : R_api_Quad := ⟨0, 0, 0⟩
theorem q_api_Quad_inj {x y : R_api_Quad} : q_api_Quad x = q_api_Quad y ↔ x = y := by
  cases x; cases y; simp only [q_api_Quad, api_Quad.mk.injEq, R_api_Quad.mk.injEq, Q_inj, I_inj]
instance (priority := high) rz_131 : ZeroC Tryz.prog 131 (.agg (e_api_Quad (q_api_Quad zR_api_Quad))) (e_api_Quad (q_api_Quad zR_api_Quad)) := ⟨by kernel_rfl, rfl⟩
instance (priority := high) rl_131_131_0 (x : R_api_Quad) : LdC Tryz.prog 131 (e_api_Quad (q_api_Quad x)) 0 (.agg (e_api_Quad (q_api_Quad x))) := ⟨ldv_agg 12 (by kernel_rfl) (by kernel_rfl) (by kernel_rfl)⟩
instance (priority := high) rl_131_32_0 (x : R_api_Quad) : LdC Tryz.prog 32 (e_api_Quad (q_api_Quad x)) 0 (vQ x.C0) := ⟨ldv_agg 4 (by kernel_rfl) (by kernel_rfl) (by kernel_rfl)⟩
instance (priority := high) rl_131_32_4 (x : R_api_Quad) : LdC Tryz.prog 32 (e_api_Quad (q_api_Quad x)) 4 (vQ x.C1) := ⟨ldv_agg 4 (by kernel_rfl) (by kernel_rfl) (by kernel_rfl)⟩
instance (priority := high) rl_131_32_8 (x : R_api_Quad) : LdC Tryz.prog 32 (e_api_Quad (q_api_Quad x)) 8 (vQ x.C2) := ⟨ldv_agg 4 (by kernel_rfl) (by kernel_rfl) (by kernel_rfl)⟩
instance (priority := high) rb_131_  : BdC Tryz.prog 131 [] (.agg (e_api_Quad (q_api_Quad ⟨0, 0, 0⟩))) := ⟨fun w => by kernel_rfl⟩
instance (priority := high) rb_131_0 (x0 : Rat) : BdC Tryz.prog 131 [(0, vQ x0)] (.agg (e_api_Quad (q_api_Quad ⟨x0, 0, 0⟩))) := ⟨fun w => by kernel_rfl⟩
instance (priority := high) rb_131_0_1 (x0 : Rat) (x1 : Rat) : BdC Tryz.prog 131 [(0, vQ x0), (1, vQ x1)] (.agg (e_api_Quad (q_api_Quad ⟨x0, x1, 0⟩))) := ⟨fun w => by kernel_rfl⟩
instance (priority := high) rb_131_0_1_2 (x0 : Rat) (x1 : Rat) (x2 : Rat) : BdC Tryz.prog 131 [(0, vQ x0), (1, vQ x1), (2, vQ x2)] (.agg (e_api_Quad (q_api_Quad ⟨x0, x1, x2⟩))) := ⟨fun w => by kernel_rfl⟩
instance (priority := high) reql_131 (x y : R_api_Quad) : BinC Tryz.prog .eql 131 (.agg (e_api_Quad (q_api_Quad x))) (.agg (e_api_Quad (q_api_Quad y))) (.bool (decide (x = y))) := by
  have h : decide (q_api_Quad x = q_api_Quad y) = decide (x = y) := by rw [decide_eq_decide]; exact q_api_Quad_inj
  exact h ▸ (inferInstance : BinC Tryz.prog .eql 131 (.agg (e_api_Quad (q_api_Quad x))) (.agg (e_api_Quad (q_api_Quad y))) (.bool (decide (q_api_Quad x = q_api_Quad y))))
structure R_pieces_Unit_api_Line where
  In : R_api_Interval
  F : R_api_Line
  deriving DecidableEq
def q_pieces_Unit_api_Line (x : R_pieces_Unit_api_Line) : pieces_Unit_api_Line := ⟨q_api_Interval x.In, q_api_Line x.F⟩
def zR_pieces_Unit_api_Line : R_pieces_Unit_api_Line := ⟨zR_api_Interval, zR_api_Line⟩
instance (priority := high) rz_136 : ZeroC Tryz.prog 136 (.agg (e_pieces_Unit_api_Line (q_pieces_Unit_api_Line zR_pieces_Unit_api_Line))) (e_pieces_Unit_api_Line (q_pieces_Unit_api_Line zR_pieces_Unit_api_Line)) := ⟨by kernel_rfl, rfl⟩
instance (priority := high) rl_136_136_0 (x : R_pieces_Unit_api_Line) : LdC Tryz.prog 136 (e_pieces_Unit_api_Line (q_pieces_Unit_api_Line x)) 0 (.agg (e_pieces_Unit_api_Line (q_pieces_Unit_api_Line x))) := ⟨ldv_agg 36 (by kernel_rfl) (by kernel_rfl) (by kernel_rfl)⟩
instance (priority := high) rl_136_83_0 (x : R_pieces_Unit_api_Line) : LdC Tryz.prog 83 (e_pieces_Unit_api_Line (q_pieces_Unit_api_Line x)) 0 (.agg (e_api_Interval (q_api_Interval x.In))) := ⟨ldv_agg 20 (by kernel_rfl) (by kernel_rfl) (by kernel_rfl)⟩
instance (priority := high) rl_136_81_0 (x : R_pieces_Unit_api_Line) : LdC Tryz.prog 81 (e_pieces_Unit_api_Line (q_pieces_Unit_api_Line x)) 0 (.agg (e_api_Real (q_api_Real x.In.From))) := ⟨ldv_agg 9 (by kernel_rfl) (by kernel_rfl) (by kernel_rfl)⟩
instance (priority := high) rl_136_81_9 (x : R_pieces_Unit_api_Line) : LdC Tryz.prog 81 (e_pieces_Unit_api_Line (q_pieces_Unit_api_Line x)) 9 (.agg (e_api_Real (q_api_Real x.In.To))) := ⟨ldv_agg 9 (by kernel_rfl) (by kernel_rfl) (by kernel_rfl)⟩
instance (priority := high) rl_136_4_18 (x : R_pieces_Unit_api_Line) : LdC Tryz.prog 4 (e_pieces_Unit_api_Line (q_pieces_Unit_api_Line x)) 18 (.bool x.In.OpenFrom) := ⟨ldv_one (by kernel_rfl) (by kernel_rfl)⟩
instance (priority := high) rl_136_4_19 (x : R_pieces_Unit_api_Line) : LdC Tryz.prog 4 (e_pieces_Unit_api_Line (q_pieces_Unit_api_Line x)) 19 (.bool x.In.OpenTo) := ⟨ldv_one (by kernel_rfl) (by kernel_rfl)⟩
instance (priority := high) rl_136_85_20 (x : R_pieces_Unit_api_Line) : LdC Tryz.prog 85 (e_pieces_Unit_api_Line (q_pieces_Unit_api_Line x)) 20 (.agg (e_api_Line (q_api_Line x.F))) := ⟨ldv_agg 16 (by kernel_rfl) (by kernel_rfl) (by kernel_rfl)⟩
instance (priority := high) rb_136_0_1 (x0 : R_api_Interval) (x1 : R_api_Line) : BdC Tryz.prog 136 [(0, .agg (e_api_Interval (q_api_Interval x0))), (1, .agg (e_api_Line (q_api_Line x1)))] (.agg (e_pieces_Unit_api_Line (q_pieces_Unit_api_Line ⟨x0, x1⟩))) := ⟨fun w => by kernel_rfl⟩
structure R_period_border where
  at_ : R_api_Real
  behind : Bool
  deriving DecidableEq
def q_period_border (x : R_period_border) : period_border := ⟨q_api_Real x.at_, x.behind⟩
def zR_period_border : R_period_border := ⟨zR_api_Real, false⟩
instance (priority := high) rz_178 : ZeroC Tryz.prog 178 (.agg (e_period_border (q_period_border zR_period_border))) (e_period_border (q_period_border zR_period_border)) := ⟨by kernel_rfl, rfl⟩
instance (priority := high) rl_178_178_0 (x : R_period_border) : LdC Tryz.prog 178 (e_period_border (q_period_border x)) 0 (.agg (e_period_border (q_period_border x))) := ⟨ldv_agg 10 (by kernel_rfl) (by kernel_rfl) (by kernel_rfl)⟩
instance (priority := high) rl_178_81_0 (x : R_period_border) : LdC Tryz.prog 81 (e_period_border (q_period_border x)) 0 (.agg (e_api_Real (q_api_Real x.at_))) := ⟨ldv_agg 9 (by kernel_rfl) (by kernel_rfl) (by kernel_rfl)⟩
instance (priority := high) rl_178_4_9 (x : R_period_border) : LdC Tryz.prog 4 (e_period_border (q_period_border x)) 9 (.bool x.behind) := ⟨ldv_one (by kernel_rfl) (by kernel_rfl)⟩
instance (priority := high) rb_178_0_1 (x0 : R_api_Real) (x1 : Bool) : BdC Tryz.prog 178 [(0, .agg (e_api_Real (q_api_Real x0))), (1, .bool x1)] (.agg (e_period_border (q_period_border ⟨x0, x1⟩))) := ⟨fun w => by kernel_rfl⟩
instance (priority := high) rneq_30 (a b : Int) : BinC Tryz.prog .neq 30 (vI a) (vI b) (.bool (!decide (a = b))) := by
  have h : decide (I a = I b) = decide (a = b) := by rw [decide_eq_decide]; exact I_inj
  exact h ▸ (inferInstance : BinC Tryz.prog .neq 30 (vI a) (vI b) (.bool (!decide (I a = I b))))
instance (priority := high) rneq_32 (a b : Rat) : BinC Tryz.prog .neq 32 (vQ a) (vQ b) (.bool (!decide (a = b))) := by
  have h : decide (Q a = Q b) = decide (a = b) := by rw [decide_eq_decide]; exact Q_inj
  exact h ▸ (inferInstance : BinC Tryz.prog .neq 32 (vQ a) (vQ b) (.bool (!decide (Q a = Q b))))
end Go.Vt
/- Points, quadratics and straight ways over rational numbers. Conditions: the lengths that each statement names. -/
set_option linter.unusedSimpArgs false
set_option linter.unusedVariables false
set_option maxHeartbeats 2000000
set_option maxRecDepth 100000
namespace Go.Vt
open Go.RowKit Go.Proofs
theorem MB.lt {q : Rat} {k B : Nat} [h : MB q k] (hk : Nat.ble k B = true) : M q ≤ B := Nat.le_trans h.out (Nat.le_of_ble_eq_true hk)
theorem mb2 {p q : Rat} {j k B C : Nat} [MB p j] [MB q k] (h1 : Nat.ble j B = true) (h2 : Nat.ble k C = true) : M p ≤ B ∧ M q ≤ C := ⟨MB.lt h1, MB.lt h2⟩
theorem mb4 {p q r s : Rat} {i j k l A B C D : Nat} [MB p i] [MB q j] [MB r k] [MB s l] (h1 : Nat.ble i A = true) (h2 : Nat.ble j B = true) (h3 : Nat.ble k C = true) (h4 : Nat.ble l D = true) : M p ≤ A ∧ M q ≤ B ∧ M r ≤ C ∧ M s ≤ D := ⟨MB.lt h1, MB.lt h2, MB.lt h3, MB.lt h4⟩
abbrev vR (r : R_api_Real) : Value := .agg (e_api_Real (q_api_Real r))
abbrev vP (p : R_api_Point) : Value := .agg (e_api_Point (q_api_Point p))
instance sp_FromRat (q : Rat) : SpecC Tryz.prog 58 [vQ q] (vR ⟨q, 0, false⟩) True := ⟨fun _ w => by
  refine fn_intro Tryz.func58 rfl Tryz.ntmps58 rfl ?_
  repeat (refine wkA ?_; try intro _)
  exact wx_cell rfl rfl (fun w hw => ret_ok hw)⟩
instance sp_RealFromInt (n : Int) : SpecC Tryz.prog 33 [.int .i64 n] (vR ⟨(n : Rat), 0, false⟩) (-9223372036854775808 ≤ n ∧ n ≤ 9223372036854775807) := ⟨fun hp w => by
  refine fn_intro Tryz.func33 rfl Tryz.ntmps33 rfl ?_
  repeat (refine wkA ?_; try intro _)
  exact wx_cell rfl rfl (fun w hw => ret_ok hw)⟩
instance sp_Rational (x : R_api_Real) : SpecC Tryz.prog 301 [vR x] (.tuple #[vQ (if x.R = 0 then x.P else 0), .bool (decide (x.R = 0))]) True := ⟨fun _ w => by
  refine fn_intro Tryz.func301 rfl Tryz.ntmps301 rfl ?_
  repeat (refine wkA ?_; try intro _)
  refine j_cond rfl (fun h => ?_) (fun h => ?_)
  · have h1 : ¬ x.R = 0 := by simpa using h
    rw [if_neg h1, decide_eq_false h1]
    repeat (refine wkA ?_; try intro _)
    exact jx_ret_two rfl (wr_cell rfl) (resv_tmp rfl) (fun w hw => ret_ok hw)
  · have h1 : x.R = 0 := by simpa using h
    rw [if_pos h1, decide_eq_true h1]
    repeat (refine wkA ?_; try intro _)
    exact jx_ret_two rfl (wr_cell rfl) (resv_tmp rfl) (fun w hw => ret_ok hw)⟩
instance sp_PAt (x y : Int) : SpecC Tryz.prog 52 [.int .i64 x, .int .i64 y] (vP ⟨(x : Rat), (y : Rat)⟩) ((-9223372036854775808 ≤ x ∧ x ≤ 9223372036854775807) ∧ (-9223372036854775808 ≤ y ∧ y ≤ 9223372036854775807)) := ⟨fun hp w => by
  refine fn_intro Tryz.func52 rfl Tryz.ntmps52 rfl ?_
  repeat (first | (refine wkA ?_; try intro _) | (refine sC rfl rfl ?_ ?_; focus (first | exact hp.1 | exact hp.2)))
  exact wx_cell rfl rfl (fun w hw => ret_ok hw)⟩
instance sp_PSub (p q : R_api_Point) : SpecC Tryz.prog 50 [vP p, vP q] (vP ⟨p.X - q.X, p.Y - q.Y⟩) (M p.X ≤ LQ ∧ M p.Y ≤ LQ ∧ M q.X ≤ LQ ∧ M q.Y ≤ LQ) := ⟨fun hp w => by
  obtain ⟨h1, h2, h3, h4⟩ := hp
  refine fn_intro Tryz.func50 rfl Tryz.ntmps50 rfl ?_
  repeat (refine wkA ?_; try intro _)
  (refine jD 11 11 (h := ?_); (repeat (refine wkH ?_)); refine jh_nil ?_; (repeat (refine wn_new ?_; intro _)); refine jn_nil ?_)
  repeat (refine wkA ?_; try intro _)
  exact wx_cell rfl rfl (fun w hw => ret_ok hw)⟩
instance sp_PDot (p q : R_api_Point) : SpecC Tryz.prog 51 [vP p, vP q] (vQ (p.X * q.X + p.Y * q.Y)) (M p.X ≤ 68719476736 ∧ M p.Y ≤ 68719476736 ∧ M q.X ≤ 68719476736 ∧ M q.Y ≤ 68719476736) := ⟨fun hp w => by
  obtain ⟨h1, h2, h3, h4⟩ := hp
  have := MB.mk h1
  have := MB.mk h2
  have := MB.mk h3
  have := MB.mk h4
  refine fn_intro Tryz.func51 rfl Tryz.ntmps51 rfl ?_
  repeat (refine wkA ?_; try intro _)
  (refine jD 11 11 (h := ?_); (repeat (refine wkH ?_)); refine jh_nil ?_; (repeat (refine wn_new ?_; intro _)); refine jn_nil ?_)
  repeat (refine wkA ?_; try intro _)
  exact wx_cell rfl rfl (fun w hw => ret_ok hw)⟩
/-- The square of a distance. -/
def d2 (p q : R_api_Point) : Rat := (p.X - q.X) * (p.X - q.X) + (p.Y - q.Y) * (p.Y - q.Y)
instance sp_Distance2 (p q : R_api_Point) : SpecC Tryz.prog 26 [vP p, vP q] (vQ (d2 p q)) (M p.X ≤ 8589934592 ∧ M p.Y ≤ 8589934592 ∧ M q.X ≤ 8589934592 ∧ M q.Y ≤ 8589934592) := ⟨fun hp w => by
  obtain ⟨h1, h2, h3, h4⟩ := hp
  have := MB.mk h1
  have := MB.mk h2
  have := MB.mk h3
  have := MB.mk h4
  unfold d2
  refine fn_intro Tryz.func26 rfl Tryz.ntmps26 rfl ?_
  repeat (refine wkA ?_; try intro _)
  exact wx_cell rfl rfl (fun w hw => ret_ok hw)⟩
instance mb_d2 (p q : R_api_Point) (i j k l : Nat) [h1 : MB p.X i] [h2 : MB p.Y j] [h3 : MB q.X k] [h4 : MB q.Y l] : MB (d2 p q) (2 * (i + j + k + l) + 5) := ⟨by
  unfold d2
  have := (inferInstance : MB ((p.X - q.X) * (p.X - q.X) + (p.Y - q.Y) * (p.Y - q.Y)) _).out
  omega⟩
instance sp_Linear (x y : Rat) : SpecC Tryz.prog 97 [vQ x, vQ y] (.agg (e_api_Quad (q_api_Quad ⟨x, y, 0⟩))) True := ⟨fun _ w => by
  refine fn_intro Tryz.func97 rfl Tryz.ntmps97 rfl ?_
  repeat (refine wkA ?_; try intro _)
  exact wx_cell rfl rfl (fun w hw => ret_ok hw)⟩
instance sp_Eval (q : R_api_Quad) (t : Rat) : SpecC Tryz.prog 303 [.agg (e_api_Quad (q_api_Quad q)), vQ t] (vQ (q.C0 + t * (q.C1 + t * q.C2))) (M q.C0 ≤ 34359738368 ∧ M q.C1 ≤ 34359738368 ∧ M q.C2 ≤ 34359738368 ∧ M t ≤ 34359738368) := ⟨fun hp w => by
  obtain ⟨h1, h2, h3, h4⟩ := hp
  have := MB.mk h1
  have := MB.mk h2
  have := MB.mk h3
  have := MB.mk h4
  refine fn_intro Tryz.func303 rfl Tryz.ntmps303 rfl ?_
  repeat (refine wkA ?_; try intro _)
  (refine jD 12 12 (h := ?_); (repeat (refine wkH ?_)); refine jh_nil ?_; (repeat (refine wn_new ?_; intro _)); refine jn_nil ?_)
  repeat (refine wkA ?_; try intro _)
  exact wx_cell rfl rfl (fun w hw => ret_ok hw)⟩
/-- The linear function through two values. -/
def lin (t v u w : Rat) : R_api_Quad := if u - t = 0 then zR_api_Quad else ⟨v - (w - v) / (u - t) * t, (w - v) / (u - t), 0⟩
instance sp_Between (t v u x : Rat) : SpecC Tryz.prog 65 [vQ t, vQ v, vQ u, vQ x] (.tuple #[.agg (e_api_Quad (q_api_Quad (lin t v u x))), .int .i64 (if u - t = 0 then 6 else 0)]) (M t ≤ 34359738368 ∧ M v ≤ 34359738368 ∧ M u ≤ 34359738368 ∧ M x ≤ 34359738368) := ⟨fun hp w => by
  obtain ⟨h1, h2, h3, h4⟩ := hp
  have := MB.mk h1
  have := MB.mk h2
  have := MB.mk h3
  have := MB.mk h4
  refine fn_intro Tryz.func65 rfl Tryz.ntmps65 rfl ?_
  repeat (refine wkA ?_; try intro _)
  (refine j_late [0, 1, 2, 3, 4, 5, 6, 7, 8, 9] [10, 11, 12] (_) (h := ?_); refine wkI ?_; (repeat (refine wkH ?_)); refine jh_nil ?_; (repeat (first | (refine eA rfl rfl ?_; intro _) | refine eT rfl ?_ | refine eS rfl rfl ?_)); refine je_nil ?_)
  repeat (refine wkA ?_; try intro _)
  by_cases hz : u - t = 0
  · unfold lin
    simp only [if_pos hz]
    repeat (refine wkA ?_; try intro _)
    exact jx_ret_two rfl (wr_cell rfl) (resv_tmp rfl) (fun w hw => ret_ok hw)
  · unfold lin
    simp only [if_neg hz]
    repeat (refine wkA ?_; try intro _)
    (refine jD 7 7 (h := ?_); (repeat (refine wkH ?_)); refine jh_nil ?_; (repeat (refine wn_new ?_; intro _)); refine jn_nil ?_)
    repeat (refine wkA ?_; try intro _)
    exact jx_ret_two rfl (wr_cell rfl) (resv_tmp rfl) (fun w hw => ret_ok hw)⟩
end Go.Vt
