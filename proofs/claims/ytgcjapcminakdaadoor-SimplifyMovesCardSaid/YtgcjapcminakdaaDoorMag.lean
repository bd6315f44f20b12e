/- Plain mathematics: magnitudes as bytes, the most significant one first, without leading zeros. Conditions: none. -/
import Derived.Lib.Bytealg
import Derived.Lib.Small
import Derived.Lib.BitFns
set_option linter.unusedSimpArgs false
set_option linter.unusedVariables false
namespace Go.Vt

/-- The bytes of a number, the lowest one first. -/
def leF : Nat → Nat → List UInt8
  | 0, _ => []
  | f + 1, n => if n = 0 then [] else UInt8.ofNat (n % 256) :: leF f (n / 256)
def le (n : Nat) : List UInt8 := leF n n
def vle : List UInt8 → Nat
  | [] => 0
  | b :: l => b.toNat + 256 * vle l
theorem leF_fuel : ∀ (f g n : Nat), n ≤ f → n ≤ g → leF f n = leF g n
  | 0, 0, _, _, _ => rfl
  | 0, g + 1, n, h, _ => by have : n = 0 := by omega
                            subst this; simp [leF]
  | f + 1, 0, n, _, h => by have : n = 0 := by omega
                            subst this; simp [leF]
  | f + 1, g + 1, n, h1, h2 => by
    simp only [leF]
    split
    · rfl
    · rw [leF_fuel f g (n / 256) (by omega) (by omega)]
theorem le_zero : le 0 = [] := rfl
theorem le_step {n : Nat} (h : n ≠ 0) : le n = UInt8.ofNat (n % 256) :: le (n / 256) := by
  unfold le
  obtain ⟨m, rfl⟩ := Nat.exists_eq_succ_of_ne_zero h
  rw [leF, if_neg h, leF_fuel m _ _ (by omega) (Nat.le_refl _)]
theorem toNat_ofNat (n : Nat) : (UInt8.ofNat (n % 256)).toNat = n % 256 := by simp
theorem vle_le : ∀ n, vle (le n) = n := by
  intro n
  induction n using Nat.strongRecOn with
  | _ n ih =>
    by_cases h : n = 0
    · subst h; rfl
    · rw [le_step h, vle, ih (n / 256) (by omega), toNat_ofNat]
      omega
theorem le_inj {m n : Nat} (h : le m = le n) : m = n := by rw [← vle_le m, ← vle_le n, h]
/-- No zero at the high end. -/
def Top (l : List UInt8) : Prop := ∀ b, l.getLast? = some b → b ≠ 0
theorem top_le : ∀ n, Top (le n) := by
  intro n
  induction n using Nat.strongRecOn with
  | _ n ih =>
    by_cases h : n = 0
    · subst h; intro b hb; simp [le_zero] at hb
    · intro b hb
      rw [le_step h] at hb
      by_cases h2 : n / 256 = 0
      · rw [h2, le_zero] at hb
        simp only [List.getLast?_singleton, Option.some.injEq] at hb
        subst hb
        intro h0
        have := congrArg UInt8.toNat h0
        rw [toNat_ofNat] at this
        simp at this
        omega
      · rw [le_step h2, List.getLast?_cons_cons, ← le_step h2] at hb
        exact ih _ (by omega) b hb
theorem vle_pos {l : List UInt8} (h : Top l) (hl : l ≠ []) : vle l ≠ 0 := by
  induction l with
  | nil => exact absurd rfl hl
  | cons b l ih =>
    intro h0
    simp only [vle] at h0
    by_cases hn : l = []
    · subst hn
      have := h b rfl
      apply this
      apply UInt8.toNat_inj.1
      simp [vle] at h0
      simpa using h0
    · exact ih (fun c hc => h c (by
        cases l with
        | nil => exact absurd rfl hn
        | cons x y => rw [List.getLast?_cons_cons]; exact hc)) hn (by omega)
theorem le_vle {l : List UInt8} (h : Top l) : le (vle l) = l := by
  induction l with
  | nil => rfl
  | cons b l ih =>
    have ht : Top l := fun c hc => h c (by
      cases l with
      | nil => simp at hc
      | cons x y => rw [List.getLast?_cons_cons]; exact hc)
    have hne := vle_pos h (by simp)
    rw [le_step hne]
    have hb : b.toNat < 256 := UInt8.toNat_lt b
    simp only [vle] at hne ⊢
    have h1 : (b.toNat + 256 * vle l) % 256 = b.toNat := by omega
    have h2 : (b.toNat + 256 * vle l) / 256 = vle l := by omega
    rw [h1, h2, ih ht]
    congr 1
    apply UInt8.toNat_inj.1
    simp
theorem vle_lt (l : List UInt8) : vle l < 256 ^ l.length := by
  induction l with
  | nil => simp [vle]
  | cons b l ih =>
    have hb : b.toNat < 256 := UInt8.toNat_lt b
    simp only [vle, List.length_cons, Nat.pow_succ]
    omega
theorem vle_append (l m : List UInt8) : vle (l ++ m) = vle l + 256 ^ l.length * vle m := by
  induction l with
  | nil => simp [vle]
  | cons b l ih =>
    simp only [List.cons_append, vle, ih, List.length_cons, Nat.pow_succ, Nat.mul_add]
    rw [Nat.mul_comm (256 ^ l.length) 256, Nat.mul_assoc]
    omega
theorem le_len {n k : Nat} : (le n).length ≤ k ↔ n < 256 ^ k := by
  induction k generalizing n with
  | zero =>
    simp only [Nat.le_zero_eq, Nat.pow_zero, Nat.lt_one_iff, List.length_eq_zero_iff]
    constructor
    · intro h; rw [← vle_le n, h]; rfl
    · intro h; subst h; rfl
  | succ k ih =>
    by_cases h : n = 0
    · subst h; simp [le_zero, Nat.pow_pos]
    · rw [le_step h, List.length_cons, Nat.add_le_add_iff_right, ih, Nat.pow_succ]
      omega
theorem le_get : ∀ (i n : Nat), i < (le n).length → (le n)[i]? = some (UInt8.ofNat (n / 256 ^ i % 256)) := by
  intro i
  induction i with
  | zero =>
    intro n h
    have hn : n ≠ 0 := by intro h0; subst h0; simp [le_zero] at h
    rw [le_step hn]; simp
  | succ i ih =>
    intro n h
    have hn : n ≠ 0 := by intro h0; subst h0; simp [le_zero] at h
    rw [le_step hn] at h ⊢
    simp only [List.length_cons] at h
    simp only [List.getElem?_cons_succ]
    rw [ih _ (by omega), Nat.div_div_eq_div_mul, Nat.pow_succ, Nat.mul_comm]

/-- A magnitude: its bytes, the most significant one first. -/
def mag (n : Nat) : ByteArray := ⟨(le n).reverse.toArray⟩
/-- The number that bytes are. -/
def vmag (s : ByteArray) : Nat := vle s.data.toList.reverse
/-- No leading zero. -/
def Can (s : ByteArray) : Prop := Top s.data.toList.reverse
theorem vmag_mag (n : Nat) : vmag (mag n) = n := by simp [vmag, mag, vle_le]
theorem can_mag (n : Nat) : Can (mag n) := by simpa [Can, mag] using top_le n
theorem mag_vmag {s : ByteArray} (h : Can s) : mag (vmag s) = s := by
  unfold mag vmag
  rw [le_vle h]
  simp
theorem mag_zero : mag 0 = ByteArray.empty := rfl
theorem mag_inj {m n : Nat} : mag m = mag n ↔ m = n := ⟨fun h => by rw [← vmag_mag m, ← vmag_mag n, h], fun h => by rw [h]⟩
theorem mag_eq_empty {n : Nat} : mag n = ByteArray.empty ↔ n = 0 := by rw [← mag_zero, mag_inj]
theorem size_mag (n : Nat) : (mag n).size = (le n).length := by simp [mag, ByteArray.size]
theorem mag_size {n k : Nat} : (mag n).size ≤ k ↔ n < 256 ^ k := by rw [size_mag, le_len]
theorem mag_of_list {l : List UInt8} (h : Top l.reverse) : mag (vle l.reverse) = ⟨l.toArray⟩ := by
  unfold mag
  rw [le_vle h]
  simp

/-! ### Comparing -/
theorem vle_cmp : ∀ (a b : List UInt8), a.length = b.length → Lib.compareBytes a b = Lib.compareInt (vle a.reverse) (vle b.reverse)
  | [], [], _ => by simp [Lib.compareBytes, Lib.compareInt]
  | [], _ :: _, h => by simp at h
  | _ :: _, [], h => by simp at h
  | x :: a, y :: b, h => by
    have hl : a.length = b.length := by simpa using h
    simp only [List.reverse_cons, vle_append, List.length_reverse, vle, Nat.mul_zero, Nat.add_zero, Lib.compareBytes]
    have ha := vle_lt a.reverse
    have hb := vle_lt b.reverse
    rw [List.length_reverse] at ha hb
    rw [← hl] at hb ⊢
    by_cases hxy : x < y
    · rw [if_pos hxy]
      have h1 : x.toNat + 1 ≤ y.toNat := UInt8.lt_iff_toNat_lt.1 hxy
      have h2 : 256 ^ a.length * (x.toNat + 1) ≤ 256 ^ a.length * y.toNat := Nat.mul_le_mul_left _ h1
      rw [Nat.mul_add, Nat.mul_one] at h2
      unfold Lib.compareInt
      rw [if_pos (by omega)]
    · rw [if_neg hxy]
      by_cases hyx : y < x
      · rw [if_pos hyx]
        have h1 : y.toNat + 1 ≤ x.toNat := UInt8.lt_iff_toNat_lt.1 hyx
        have h2 : 256 ^ a.length * (y.toNat + 1) ≤ 256 ^ a.length * x.toNat := Nat.mul_le_mul_left _ h1
        rw [Nat.mul_add, Nat.mul_one] at h2
        unfold Lib.compareInt
        rw [if_neg (by omega), if_pos (by omega)]
      · rw [if_neg hyx, vle_cmp a b hl]
        have : x = y := by
          apply UInt8.toNat_inj.1
          have h1 : ¬ x.toNat < y.toNat := fun h => hxy (UInt8.lt_iff_toNat_lt.2 h)
          have h2 : ¬ y.toNat < x.toNat := fun h => hyx (UInt8.lt_iff_toNat_lt.2 h)
          omega
        subst this
        unfold Lib.compareInt
        split
        · rw [if_pos (by omega)]
        · split
          · rw [if_neg (by omega), if_pos (by omega)]
          · rw [if_neg (by omega), if_neg (by omega)]
/-- Length first, then the bytes: the order of the numbers. -/
theorem mag_cmp (a b : Nat) : (if Lib.compareInt (mag a).size (mag b).size ≠ 0 then Lib.compareInt (mag a).size (mag b).size else Lib.compareBytes (mag a).data.toList (mag b).data.toList) = Lib.compareInt a b := by
  have hlt : ∀ x y : Nat, (mag x).size < (mag y).size → x < y := fun x y h => by
    have h1 : x < 256 ^ (mag x).size := mag_size.1 (Nat.le_refl _)
    have h2 : ¬ y < 256 ^ (mag x).size := fun h2 => by
      have := mag_size.2 h2
      omega
    omega
  by_cases h1 : (mag a).size < (mag b).size
  · have h2 := hlt _ _ h1
    have e1 : Lib.compareInt (mag a).size (mag b).size = -1 := by unfold Lib.compareInt; rw [if_pos (by omega)]
    rw [e1]
    unfold Lib.compareInt
    rw [if_pos (by omega), if_pos (by omega)]
  · by_cases h3 : (mag b).size < (mag a).size
    · have h2 := hlt _ _ h3
      have e1 : Lib.compareInt (mag a).size (mag b).size = 1 := by unfold Lib.compareInt; rw [if_neg (by omega), if_pos (by omega)]
      rw [e1]
      unfold Lib.compareInt
      rw [if_pos (by omega), if_neg (by omega), if_pos (by omega)]
    · have e1 : Lib.compareInt (mag a).size (mag b).size = 0 := by unfold Lib.compareInt; rw [if_neg (by omega), if_neg (by omega)]
      have hsz : (mag a).data.toList.length = (mag b).data.toList.length := by
        have e2 : (mag a).size = (mag b).size := by omega
        exact e2
      rw [e1, if_neg (by simp), vle_cmp _ _ hsz]
      have ea : vle (mag a).data.toList.reverse = a := vmag_mag a
      have eb : vle (mag b).data.toList.reverse = b := vmag_mag b
      rw [ea, eb]

/-! ### The number of bytes -/
theorem bitLenAux_spec : ∀ (f x : Nat), x < 2 ^ f → (x = 0 ∧ Lib.bitLenAux f x = 0) ∨ (x ≠ 0 ∧ 1 ≤ Lib.bitLenAux f x ∧ 2 ^ (Lib.bitLenAux f x - 1) ≤ x ∧ x < 2 ^ Lib.bitLenAux f x)
  | 0, x, h => by
    have : x = 0 := by simpa using h
    exact .inl ⟨this, rfl⟩
  | f + 1, x, h => by
    simp only [Lib.bitLenAux]
    by_cases h0 : x = 0
    · simp [h0]
    · rw [if_neg h0]
      refine .inr ⟨h0, by omega, ?_⟩
      have hx : x / 2 < 2 ^ f := by rw [Nat.pow_succ] at h; omega
      rcases bitLenAux_spec f (x / 2) hx with ⟨h1, h2⟩ | ⟨h1, h2, h3, h4⟩
      · rw [h2]
        simp only [Nat.add_zero, Nat.sub_self, Nat.pow_zero, Nat.pow_one]
        omega
      · obtain ⟨k, hk⟩ : ∃ k, Lib.bitLenAux f (x / 2) = k + 1 := ⟨Lib.bitLenAux f (x / 2) - 1, by omega⟩
        rw [hk] at h3 h4 ⊢
        simp only [Nat.add_sub_cancel] at h3
        rw [show 1 + (k + 1) - 1 = k + 1 by omega, show 1 + (k + 1) = k + 1 + 1 by omega]
        rw [Nat.pow_succ] at h4
        rw [Nat.pow_succ, Nat.pow_succ]
        rw [Nat.pow_succ]
        omega
theorem bitLen_spec {x : Nat} (h : x < 2 ^ 64) (h0 : x ≠ 0) : 1 ≤ Lib.bitLen x ∧ 2 ^ (Lib.bitLen x - 1) ≤ x ∧ x < 2 ^ Lib.bitLen x := by
  rcases bitLenAux_spec 64 x h with h1 | h1
  · exact absurd h1.1 h0
  · exact h1.2
theorem bitLen_le {x : Nat} (h : x < 2 ^ 64) : Lib.bitLen x ≤ 64 := by
  by_cases h0 : x = 0
  · subst h0; decide
  · have := bitLen_spec h h0
    rcases Nat.lt_or_ge 64 (Lib.bitLen x) with h1 | h1
    · have h2 : (2 : Nat) ^ 64 ≤ 2 ^ (Lib.bitLen x - 1) := Nat.pow_le_pow_right (by omega) (by omega)
      omega
    · exact h1
theorem mag_bits {x : Nat} (h : x < 2 ^ 64) (h0 : x ≠ 0) : (mag x).size = (Lib.bitLen x + 7) / 8 := by
  obtain ⟨h1, h2, h3⟩ := bitLen_spec h h0
  have p : ∀ k, 256 ^ k = 2 ^ (8 * k) := fun k => by rw [show (256 : Nat) = 2 ^ 8 by rfl, ← Nat.pow_mul]
  apply Nat.le_antisymm
  · rw [mag_size, p]
    exact Nat.lt_of_lt_of_le h3 (Nat.pow_le_pow_right (by omega) (by omega))
  · rcases Nat.lt_or_ge (mag x).size ((Lib.bitLen x + 7) / 8) with h4 | h4
    · have h5 : x < 256 ^ ((Lib.bitLen x + 7) / 8 - 1) := mag_size.1 (by omega)
      rw [p] at h5
      have h6 : (2 : Nat) ^ (8 * ((Lib.bitLen x + 7) / 8 - 1)) ≤ 2 ^ (Lib.bitLen x - 1) := Nat.pow_le_pow_right (by omega) (by omega)
      omega
    · exact h4
end Go.Vt
