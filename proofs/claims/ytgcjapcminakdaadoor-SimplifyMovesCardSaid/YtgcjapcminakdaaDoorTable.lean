/- Plain mathematics: the program's table finds what the reference's search finds. Conditions: none. -/
import Derived.Test.YtgcjapcminakdaaDoorBest
set_option linter.unusedSimpArgs false
set_option linter.unusedVariables false
namespace Go.Vt

/-- 'k' is the least one of least cost among those that are enough, from 'a' on, below 'b'. -/
def Bst (ok : Nat → Bool) (c : Nat → Int) (a b k : Nat) : Prop := a ≤ k ∧ k < b ∧ ok k = true ∧ ∀ k', a ≤ k' → k' < b → ok k' = true → c k ≤ c k' ∧ (c k = c k' → k ≤ k')
theorem Bst.uniq {ok : Nat → Bool} {c : Nat → Int} {a b k j : Nat} (h : Bst ok c a b k) (g : Bst ok c a b j) : k = j := by
  obtain ⟨h1, h2, h3, h4⟩ := h
  obtain ⟨g1, g2, g3, g4⟩ := g
  have e1 := h4 j g1 g2 g3
  have e2 := g4 k h1 h2 h3
  have e3 : c k = c j := by omega
  have := e1.2 e3
  have := e2.2 e3.symm
  omega
variable {ok : Nat → Nat → Bool} {l i : Nat} {s : List Int × List Int}
theorem inn_best (h : WF l s) (hi : i < l) (h0 : gi s.1 (i : Int) = 0) : ∀ q, q ≤ l - i →
    (gi (inn ok l i q s).1 (i : Int) = 0 ∧ ∀ k, l - q < k → k ≤ l → ok i k = false) ∨
    ∃ k : Nat, gi (inn ok l i q s).1 (i : Int) = k ∧ gi (inn ok l i q s).2 (i : Int) = gi s.2 (k : Int) + 1 ∧ Bst (ok i) (fun k => gi s.2 (k : Int)) (l - q + 1) (l + 1) k
  | 0, _ => .inl ⟨h0, fun k h1 h2 => by omega⟩
  | q + 1, hq => by
    have hw := h.inn (ok := ok) hi q (by omega)
    obtain ⟨kq, hkq⟩ : ∃ kq, kq = l - q := ⟨_, rfl⟩
    have hik : i ≠ kq := by omega
    have hoth := inn_other (ok := ok) h hi hik q (by omega)
    have e1 : inn ok l i (q + 1) s = stp ok i kq (inn ok l i q s) := by rw [inn, ← hkq]
    have ih := inn_best h hi h0 q (by omega)
    rw [e1]
    generalize inn ok l i q s = t at *
    have hset : (gi t.1 (i : Int) = 0 ∨ gi t.2 (kq : Int) + 1 ≤ gi t.2 (i : Int)) ∧ ok i kq = true → gi (stp ok i kq t).1 (i : Int) = kq ∧ gi (stp ok i kq t).2 (i : Int) = gi s.2 (kq : Int) + 1 := fun hc => by
      unfold stp
      rw [if_pos hc]
      simp only [gi_set (show i < t.1.length by rw [hw.l1]; omega), gi_set (show i < t.2.length by rw [hw.l2]; omega), if_true]
      exact ⟨trivial, by rw [hoth.2]⟩
    have hkeep : ¬ ((gi t.1 (i : Int) = 0 ∨ gi t.2 (kq : Int) + 1 ≤ gi t.2 (i : Int)) ∧ ok i kq = true) → stp ok i kq t = t := fun hc => by
      unfold stp
      rw [if_neg hc]
    rcases ih with ⟨g1, g2⟩ | ⟨k, g1, g2, g3, g4, g5, g6⟩
    · cases hok : ok i kq with
      | false =>
        rw [hkeep (by rw [hok]; simp)]
        refine .inl ⟨g1, fun k h1 h2 => ?_⟩
        rcases (by omega : k = kq ∨ l - q < k) with rfl | h3
        · exact hok
        · exact g2 k h3 h2
      | true =>
        obtain ⟨e2, e3⟩ := hset ⟨.inl g1, hok⟩
        refine .inr ⟨kq, e2, e3, by omega, by omega, hok, fun k' h1 h2 h3 => ?_⟩
        rcases (by omega : k' = kq ∨ l - q < k') with rfl | h4
        · exact ⟨Int.le_refl _, fun _ => Nat.le_refl _⟩
        · rw [g2 k' h4 (by omega)] at h3
          cases h3
    · by_cases hc : gi t.2 (kq : Int) + 1 ≤ gi t.2 (i : Int) ∧ ok i kq = true
      · obtain ⟨e2, e3⟩ := hset ⟨.inr hc.1, hc.2⟩
        have h5 : gi s.2 (kq : Int) ≤ gi s.2 (k : Int) := by
          have := hc.1
          rw [hoth.2, g2] at this
          omega
        refine .inr ⟨kq, e2, e3, by omega, by omega, hc.2, fun k' h1 h2 h3 => ?_⟩
        rcases (by omega : k' = kq ∨ l - q + 1 ≤ k') with rfl | h4
        · exact ⟨Int.le_refl _, fun _ => Nat.le_refl _⟩
        · have h6 := (g6 k' h4 h2 h3).1
          exact ⟨by simp only at h6 ⊢; omega, fun _ => by omega⟩
      · rw [hkeep (fun h => hc ⟨h.1.resolve_left (by omega), h.2⟩)]
        refine .inr ⟨k, g1, g2, by omega, g4, g5, fun k' h1 h2 h3 => ?_⟩
        rcases (by omega : k' = kq ∨ l - q + 1 ≤ k') with rfl | h4
        · have h7 : ¬ gi t.2 (k' : Int) + 1 ≤ gi t.2 (i : Int) := fun h => hc ⟨h, h3⟩
          rw [hoth.2, g2] at h7
          exact ⟨by simp only; omega, fun h => by simp only at h; omega⟩
        · exact g6 k' h4 h2 h3
/-- What is done stays. -/
theorem ou_stay {m : Nat} {j : Nat} (hj : l - m ≤ j) (hm : m ≤ l) : ∀ d, m + d ≤ l → gi (ou ok l (m + d)).1 (j : Int) = gi (ou ok l m).1 (j : Int) ∧ gi (ou ok l (m + d)).2 (j : Int) = gi (ou ok l m).2 (j : Int)
  | 0, _ => ⟨rfl, rfl⟩
  | d + 1, hd => by
    have ih := ou_stay hj hm d (by omega)
    have hw := WF.ou (ok := ok) (l := l) (m + d) (by omega)
    have := inn_other (ok := ok) hw (show l - 1 - (m + d) < l by omega) (show l - 1 - (m + d) ≠ j by omega) (m + d + 1) (by omega)
    rw [show m + (d + 1) = (m + d) + 1 by omega, ou]
    exact ⟨this.1.trans ih.1, this.2.trans ih.2⟩
theorem ou_zero {j : Nat} : ∀ m, m ≤ l → j < l - m → gi (ou ok l m).1 (j : Int) = 0
  | 0, _, _ => by simp only [ou, gi_rep]
  | m + 1, hm, hj => by
    have hw := WF.ou (ok := ok) (l := l) m (by omega)
    rw [ou, (inn_other (ok := ok) hw (show l - 1 - m < l by omega) (show l - 1 - m ≠ j by omega) (m + 1) (by omega)).1]
    exact ou_zero m (by omega) (by omega)
/-- The table: the least next one of least cost. -/
theorem ou_best (hok : ∀ i, i < l → ok i (i + 1) = true) (hi : i < l) : ∃ k : Nat, gi (ou ok l l).1 (i : Int) = k ∧ gi (ou ok l l).2 (i : Int) = gi (ou ok l l).2 (k : Int) + 1 ∧ Bst (ok i) (fun k => gi (ou ok l l).2 (k : Int)) (i + 1) (l + 1) k := by
  obtain ⟨m, hm⟩ : ∃ m, l = i + 1 + m := ⟨l - i - 1, by omega⟩
  have hi' : i = l - 1 - m := by omega
  have hw := WF.ou (ok := ok) (l := l) m (by omega)
  have s1 := ou_stay (ok := ok) (l := l) (m := m + 1) (j := i) (by omega) (by omega) (l - (m + 1)) (by omega)
  rw [show m + 1 + (l - (m + 1)) = l by omega] at s1
  have s2 : ∀ k : Nat, i < k → gi (ou ok l l).2 (k : Int) = gi (ou ok l m).2 (k : Int) := fun k hk => by
    have := (ou_stay (ok := ok) (l := l) (m := m) (j := k) (by omega) (by omega) (l - m) (by omega)).2
    rwa [show m + (l - m) = l by omega] at this
  have hb := inn_best (ok := ok) hw hi (ou_zero m (by omega) (by omega)) (m + 1) (by omega)
  have e : ou ok l (m + 1) = inn ok l i (m + 1) (ou ok l m) := by rw [ou, ← hi']
  rw [← e] at hb
  rcases hb with ⟨_, h2⟩ | ⟨k, h1, h2, h3, h4, h5, h6⟩
  · have := h2 (i + 1) (by omega) (by omega)
    rw [hok i hi] at this
    cases this
  · have hik : i < k := by omega
    refine ⟨k, s1.1.trans h1, ?_, by omega, h4, h5, fun k' g1 g2 g3 => ?_⟩
    · rw [s1.2, h2, s2 k hik]
    · have := h6 k' (by omega) g2 g3
      simp only [s2 k hik, s2 k' (by omega)]
      exact this
theorem chn_len (hok : ∀ i, i < l → ok i (i + 1) = true) : ∀ (f i : Nat), i ≤ l → l - i ≤ f → ((chn (ou ok l l).1 l f (i : Int)).length : Int) = gi (ou ok l l).2 (i : Int)
  | 0, i, h1, h2 => by
    have : i = l := by omega
    subst this
    have hw := (WF.ou (ok := ok) (l := i) i (Nat.le_refl _)).b2 i (Nat.le_refl _)
    simp only [chn, List.length_nil]
    omega
  | f + 1, i, h1, h2 => by
    rw [chn]
    by_cases hi : i < l
    · obtain ⟨k, g1, g2, g3, g4, _⟩ := ou_best hok hi
      rw [if_pos (by omega), g1, g2, List.length_cons]
      have := chn_len hok f k (by omega) (by omega)
      omega
    · have : i = l := by omega
      subst this
      have hw := (WF.ou (ok := ok) (l := i) i (Nat.le_refl _)).b2 i (Nat.le_refl _)
      rw [if_neg (by omega)]
      simp only [List.length_nil]
      omega
theorem chn_fuel (hok : ∀ i, i < l → ok i (i + 1) = true) : ∀ (f g i : Nat), i ≤ l → l - i ≤ f → l - i ≤ g → chn (ou ok l l).1 l f (i : Int) = chn (ou ok l l).1 l g (i : Int)
  | 0, 0, _, _, _, _ => rfl
  | 0, g + 1, i, h1, h2, _ => by rw [chn, chn, if_neg (by omega)]
  | f + 1, 0, i, h1, _, h3 => by rw [chn, chn, if_neg (by omega)]
  | f + 1, g + 1, i, h1, h2, h3 => by
    rw [chn, chn]
    by_cases hi : i < l
    · obtain ⟨k, g1, _, g3, g4, _⟩ := ou_best hok hi
      rw [if_pos (by omega), if_pos (by omega), g1, chn_fuel hok f g k (by omega) (by omega) (by omega)]
    · rw [if_neg (by omega), if_neg (by omega)]
theorem lx_app (xs ys : List Int) : ∀ bg : List Int, lx (bg ++ xs) (bg ++ ys) = lx xs ys
  | [] => rfl
  | b :: bg => by simp only [List.cons_append, lx, if_true]; exact lx_app xs ys bg
theorem btr_app (bg xs ys : List Int) : btr (bg ++ xs) (bg ++ ys) = btr xs ys := by
  unfold btr
  rw [lx_app]
  simp only [List.length_append, Nat.add_left_cancel_iff, Nat.add_lt_add_iff_left]
/-- What the search has found. -/
theorem bf_best {bg : List Int} {T : Nat → List Int} {c : Nat → Int} {o : Nat → Bool} {i : Nat} {g : Nat → List Int} : ∀ q, (∀ k, i < k → k ≤ i + q → g k = bg ++ ((k : Int) :: T k) ∧ ((T k).length : Int) = c k) →
    (bf g o i q = [] ∧ ∀ k, i < k → k ≤ i + q → o k = false) ∨ ∃ k, bf g o i q = g k ∧ Bst o c (i + 1) (i + 1 + q) k
  | 0, _ => .inl ⟨rfl, fun k h1 h2 => by omega⟩
  | q + 1, hg => by
    have ih := bf_best (c := c) (o := o) (bg := bg) (T := T) (i := i) (g := g) q (fun k h1 h2 => hg k h1 (by omega))
    obtain ⟨kq, hkq⟩ : ∃ kq, kq = i + 1 + q := ⟨_, rfl⟩
    have hgq := hg kq (by omega) (by omega)
    rw [bf, ← hkq]
    rcases ih with ⟨g1, g2⟩ | ⟨k, g1, g3, g4, g5, g6⟩
    · cases hok : o kq with
      | false =>
        rw [if_neg (by simp)]
        refine .inl ⟨g1, fun k h1 h2 => ?_⟩
        rcases (by omega : k = kq ∨ k ≤ i + q) with rfl | h3
        · exact hok
        · exact g2 k h1 h3
      | true =>
        rw [if_pos ⟨rfl, .inl g1⟩]
        refine .inr ⟨kq, rfl, by omega, by omega, hok, fun k' h1 h2 h3 => ?_⟩
        rcases (by omega : k' = kq ∨ k' ≤ i + q) with rfl | h4
        · exact ⟨Int.le_refl _, fun _ => Nat.le_refl _⟩
        · rw [g2 k' (by omega) h4] at h3
          cases h3
    · have hgk := hg k (by omega) (by omega)
      have hb : btr (g kq) (bf g o i q) = decide (c kq < c k) := by
        rw [g1, hgq.1, hgk.1, btr_app]
        unfold btr
        simp only [List.length_cons, Nat.add_right_cancel_iff, Nat.add_lt_add_iff_right]
        split
        · rename_i hl
          rw [lx, if_neg (by omega)]
          rw [decide_eq_decide]
          omega
        · rw [decide_eq_decide]
          omega
      have hne : bf g o i q ≠ [] := by rw [g1, hgk.1]; simp
      by_cases hc : o kq = true ∧ c kq < c k
      · rw [if_pos ⟨hc.1, .inr (by rw [hb]; exact decide_eq_true hc.2)⟩]
        refine .inr ⟨kq, rfl, by omega, by omega, hc.1, fun k' h1 h2 h3 => ?_⟩
        rcases (by omega : k' = kq ∨ k' < i + 1 + q) with rfl | h4
        · exact ⟨Int.le_refl _, fun _ => Nat.le_refl _⟩
        · have h6 := (g6 k' h1 h4 h3).1
          exact ⟨by omega, fun _ => by omega⟩
      · rw [if_neg (fun h => hc ⟨h.1, of_decide_eq_true (by rw [← hb]; exact h.2.resolve_left hne)⟩)]
        refine .inr ⟨k, g1, g3, by omega, g5, fun k' h1 h2 h3 => ?_⟩
        rcases (by omega : k' = kq ∨ k' < i + 1 + q) with rfl | h4
        · have h7 : ¬ c k' < c k := fun h => hc ⟨h3, h⟩
          exact ⟨by omega, fun _ => by omega⟩
        · exact g6 k' h1 h4 h3
theorem bst_chn (hok : ∀ i, i < l → ok i (i + 1) = true) : ∀ (f : Nat) (bg : List Int), lst bg ≤ l → l - lst bg ≤ f → bst ok l f bg = bg ++ chn (ou ok l l).1 l f (lst bg : Int)
  | 0, bg, h1, h2 => by rw [bst, chn, List.append_nil]
  | f + 1, bg, h1, h2 => by
    rw [bst, chn]
    by_cases hl : lst bg = l
    · rw [if_pos hl, if_neg (by omega), List.append_nil]
    · have hi : lst bg < l := by omega
      obtain ⟨k, g1, g2, g3⟩ := ou_best hok hi
      rw [if_neg hl, if_pos (by omega), g1]
      have hb := bf_best (bg := bg) (T := fun k => chn (ou ok l l).1 l f (k : Int)) (c := fun k => gi (ou ok l l).2 (k : Int)) (o := ok (lst bg)) (i := lst bg) (g := fun k : Nat => bst ok l f (bg ++ [(k : Int)])) (l - lst bg) (fun k h3 h4 => by
        refine ⟨?_, chn_len hok f k (by omega) (by omega)⟩
        rw [bst_chn hok f (bg ++ [(k : Int)]) (by rw [lst_snoc]; omega) (by rw [lst_snoc]; omega), lst_snoc, List.append_assoc]
        rfl)
      rcases hb with ⟨_, h5⟩ | ⟨j, h5, h6⟩
      · have := h5 (lst bg + 1) (by omega) (by omega)
        rw [hok _ hi] at this
        cases this
      · rw [show lst bg + 1 + (l - lst bg) = l + 1 by omega] at h6
        have := h6.uniq g3
        subst this
        rw [h5]
        have hjl : j < l + 1 := h6.2.1
        have hij : lst bg + 1 ≤ j := h6.1
        rw [bst_chn hok f (bg ++ [(j : Int)]) (by rw [lst_snoc]; omega) (by rw [lst_snoc]; omega), lst_snoc, List.append_assoc]
        rfl
/-- The program's list is the reference's. -/
theorem kept_best (hok : ∀ i, i < l → ok i (i + 1) = true) : keptL ok l = bst ok l l [0] := by
  have h : lst [0] = 0 := rfl
  rw [bst_chn hok l [0] (by rw [h]; omega) (by rw [h]; omega), h]
  rfl
end Go.Vt
