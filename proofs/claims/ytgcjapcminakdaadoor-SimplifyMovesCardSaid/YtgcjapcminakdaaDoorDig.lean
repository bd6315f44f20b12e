/- Plain mathematics: digits to the base 2^32, the lowest one first. Conditions: none. -/
import Derived.Test.YtgcjapcminakdaaDoorMag
import Derived.Lib.TrimByte
set_option linter.unusedSimpArgs false
set_option linter.unusedVariables false
namespace Go.Vt

abbrev BB : Nat := 4294967296
def vd : List Nat → Nat
  | [] => 0
  | d :: l => d + 4294967296 * vd l
/-- All digits are below the base. -/
def Dg (l : List Nat) : Prop := ∀ d ∈ l, d < 4294967296
theorem vd_append (l m : List Nat) : vd (l ++ m) = vd l + 4294967296 ^ l.length * vd m := by
  induction l with
  | nil => simp [vd]
  | cons b l ih =>
    simp only [List.cons_append, vd, ih, List.length_cons, Nat.pow_succ, Nat.mul_add]
    rw [Nat.mul_comm (4294967296 ^ l.length) 4294967296, Nat.mul_assoc]
    omega
theorem vd_split (l : List Nat) (i : Nat) (h : i ≤ l.length) : vd l = vd (l.take i) + 4294967296 ^ i * vd (l.drop i) := by
  have := vd_append (l.take i) (l.drop i)
  rw [List.take_append_drop, List.length_take, Nat.min_eq_left h] at this
  exact this
theorem vd_lt {l : List Nat} (h : Dg l) : vd l < 4294967296 ^ l.length := by
  induction l with
  | nil => simp [vd]
  | cons b l ih =>
    have h1 := h b (.head _)
    have h2 := ih (fun d hd => h d (.tail _ hd))
    simp only [vd, List.length_cons, Nat.pow_succ]
    omega
theorem dg_take {l : List Nat} (h : Dg l) (i : Nat) : Dg (l.take i) := fun d hd => h d (List.mem_of_mem_take hd)
theorem dg_drop {l : List Nat} (h : Dg l) (i : Nat) : Dg (l.drop i) := fun d hd => h d (List.mem_of_mem_drop hd)
theorem dg_set {l : List Nat} (h : Dg l) (i x : Nat) (hx : x < 4294967296) : Dg (l.set i x) := fun d hd => by
  rcases List.mem_or_eq_of_mem_set hd with h1 | h1
  · exact h d h1
  · omega
theorem dg_append {l m : List Nat} (h : Dg l) (k : Dg m) : Dg (l ++ m) := fun d hd => by
  rcases List.mem_append.1 hd with h1 | h1
  · exact h d h1
  · exact k d h1
theorem dg_zero (n : Nat) : Dg (List.replicate n 0) := fun d hd => by have := (List.mem_replicate.1 hd).2; omega
theorem vd_zero (n : Nat) : vd (List.replicate n 0) = 0 := by
  induction n with
  | zero => rfl
  | succ n ih => simp only [List.replicate_succ, vd, ih]
theorem dg_get {l : List Nat} (h : Dg l) {i : Nat} (hi : i < l.length) : l[i] < 4294967296 := h _ (List.getElem_mem hi)
/-- One digit is turned. -/
theorem vd_set : ∀ (l : List Nat) (i x : Nat) (h : i < l.length), vd (l.set i x) + l[i] * 4294967296 ^ i = vd l + x * 4294967296 ^ i
  | [], i, x, h => by simp at h
  | b :: l, 0, x, h => by simp [vd]; omega
  | b :: l, i + 1, x, h => by
    have ih := vd_set l i x (by simpa using h)
    simp only [List.set_cons_succ, vd, List.getElem_cons_succ, Nat.pow_succ]
    have e1 : l[i]'(by simpa using h) * (4294967296 ^ i * 4294967296) = 4294967296 * (l[i]'(by simpa using h) * 4294967296 ^ i) := by
      rw [← Nat.mul_assoc, Nat.mul_comm]
    have e2 : x * (4294967296 ^ i * 4294967296) = 4294967296 * (x * 4294967296 ^ i) := by rw [← Nat.mul_assoc, Nat.mul_comm]
    rw [e1, e2]
    omega
theorem vd_get_le (l : List Nat) (i : Nat) (h : i < l.length) : l[i] * 4294967296 ^ i ≤ vd l := by
  have := vd_set l i 0 h
  omega
theorem vd_inj : ∀ {l m : List Nat}, Dg l → Dg m → l.length = m.length → vd l = vd m → l = m
  | [], [], _, _, _, _ => rfl
  | [], _ :: _, _, _, h, _ => by simp at h
  | _ :: _, [], _, _, h, _ => by simp at h
  | a :: l, b :: m, hl, hm, h, hv => by
    have h1 := hl a (.head _)
    have h2 := hm b (.head _)
    simp only [vd] at hv
    have e : a = b := by omega
    subst e
    congr 1
    exact vd_inj (fun d hd => hl d (.tail _ hd)) (fun d hd => hm d (.tail _ hd)) (by simpa using h) (by omega)

/-! ### Zeros at the high end -/
/-- How many digits are left without the zeros at the high end. -/
def tl : List Nat → Nat
  | [] => 0
  | d :: l => if tl l = 0 then (if d = 0 then 0 else 1) else tl l + 1
theorem tl_le : ∀ l : List Nat, tl l ≤ l.length
  | [] => Nat.le_refl _
  | d :: l => by
    have := tl_le l
    simp only [tl, List.length_cons]
    split
    · split <;> omega
    · omega
theorem tl_snoc (l : List Nat) (d : Nat) : tl (l ++ [d]) = if d = 0 then tl l else l.length + 1 := by
  induction l with
  | nil => simp [tl]
  | cons b l ih =>
    simp only [List.cons_append, tl, ih, List.length_cons]
    by_cases h : d = 0
    · simp [h]
    · simp [h]
theorem vd_tl (l : List Nat) : vd (l.take (tl l)) = vd l := by
  induction l with
  | nil => rfl
  | cons b l ih =>
    simp only [tl]
    split
    · rename_i h
      rw [h] at ih
      simp only [List.take_zero, vd] at ih
      split
      · rename_i hb
        subst hb
        simp [vd, ← ih]
      · simp [vd, ← ih]
    · simp [vd, ih]
theorem tl_zero {l : List Nat} (h : tl l = 0) : vd l = 0 := by
  have := vd_tl l
  rw [h] at this
  simpa [vd] using this.symm
theorem tl_take (l : List Nat) : tl (l.take (tl l)) = tl l := by
  induction l with
  | nil => rfl
  | cons b l ih =>
    have e : tl (b :: l) = if tl l = 0 then (if b = 0 then 0 else 1) else tl l + 1 := rfl
    by_cases h : tl l = 0
    · rw [h] at ih
      by_cases hb : b = 0
      · rw [e, if_pos h, if_pos hb]; rfl
      · rw [e, if_pos h, if_neg hb]
        simp [tl, hb]
    · rw [e, if_neg h, List.take_succ_cons]
      simp [tl, ih, h]
theorem tl_top {l : List Nat} (h : tl l ≠ 0) : ∃ hl : tl l - 1 < l.length, l[tl l - 1] ≠ 0 := by
  induction l with
  | nil => simp [tl] at h
  | cons b l ih =>
    have e : tl (b :: l) = if tl l = 0 then (if b = 0 then 0 else 1) else tl l + 1 := rfl
    by_cases h0 : tl l = 0
    · by_cases hb : b = 0
      · rw [e, if_pos h0, if_pos hb] at h; exact absurd rfl h
      · refine ⟨by rw [e, if_pos h0, if_neg hb]; simp, ?_⟩
        simp only [e, if_pos h0, if_neg hb]
        simpa using hb
    · obtain ⟨h1, h2⟩ := ih h0
      refine ⟨by rw [e, if_neg h0]; simp; omega, ?_⟩
      simp only [e, if_neg h0]
      obtain ⟨k, hk⟩ : ∃ k, tl l = k + 1 := ⟨tl l - 1, by omega⟩
      simp only [hk, Nat.add_sub_cancel] at h2 ⊢
      simpa using h2

/-! ### Bytes and digits -/
theorem pow_dig (i : Nat) : 256 ^ i = 4294967296 ^ (i / 4) * 256 ^ (i % 4) := by
  have h : i = 4 * (i / 4) + i % 4 := by omega
  have e : (4294967296 : Nat) = 256 ^ 4 := by decide
  rw [e, ← Nat.pow_mul, ← Nat.pow_add, ← h]
theorem pow_dig4 (i : Nat) : (4294967296 : Nat) ^ i = 256 ^ (4 * i) := by
  have e : (4294967296 : Nat) = 256 ^ 4 := by decide
  rw [e, ← Nat.pow_mul]
/-- Leading zero bytes off: a magnitude. -/
theorem mag_trim (l : List UInt8) : mag (vle l.reverse) = ⟨(Lib.trimLeftB l 0).toArray⟩ := by
  unfold Lib.trimLeftB
  induction l with
  | nil => rfl
  | cons b l ih =>
    by_cases h : b = 0
    · subst h
      rw [List.dropWhile_cons_of_pos (by rfl), ← ih]
      congr 1
      simp [vle_append, vle]
    · rw [List.dropWhile_cons_of_neg (by simpa using h)]
      refine mag_of_list (fun c hc => ?_)
      rw [List.reverse_cons, List.getLast?_append] at hc
      simp at hc
      rw [← hc]
      exact h
end Go.Vt
