/- P31.5 walked. Conditions: those that each statement names. -/
import Derived.Test.YtgcjapcminakdaaDoorErr
set_option linter.unusedSimpArgs false
set_option linter.unusedVariables false
set_option maxRecDepth 100000
namespace Go.Vt
open Go.RowKit Go.Proofs

instance (priority := low) sm_Error2O (w0 : World) (L : List Blk) (I : R_api_Interval) (b n c g cg : Nat) (pts : List R_movingpoint_Sample) (sp : List Value) (T : TypeId) (ks : List Int) (spk : List Value) (Tk : TypeId) [h : AtC w0 L b (row rS pts sp) T] [h2 : AtC w0 L g (row (eI .i64) ks spk) Tk] : SpecM Tryd.prog w0 L 18 [vRun I b n c, vL g ks cg] (vErr n pts ks) (RunOk pts n c ∧ 1 ≤ n ∧ ks.length ≤ 9223372036854775807 ∧ ks.length ≤ cg) := ⟨fun hp w hw =>
  error2_spec I b n c pts sp T ks _ hp.1 hp.2.1 hp.2.2.1 w (h.out w hw) (ArgS.own h2 hw hp.2.2.2)⟩

/-! ### Ways of steps -/
inductive Pth (ok : Nat → Nat → Bool) (l : Nat) : Nat → Nat → Prop
  | done : Pth ok l l 0
  | step {i k m : Nat} : ok i k = true → i < k → k ≤ l → Pth ok l k m → Pth ok l i (m + 1)
theorem Pth.le {ok : Nat → Nat → Bool} {l i m : Nat} (h : Pth ok l i m) : i ≤ l := by
  cases h with
  | done => exact Nat.le_refl _
  | step _ h1 h2 _ => omega
theorem Pth.mono {ok ok' : Nat → Nat → Bool} {l i m : Nat} (hm : ∀ i k, ok i k = true → ok' i k = true) (h : Pth ok l i m) : Pth ok' l i m := by
  induction h with
  | done => exact .done
  | step h1 h2 h3 _ ih => exact .step (hm _ _ h1) h2 h3 ih
theorem Pth.best {ok : Nat → Nat → Bool} {l i m : Nat} (hok : ∀ i, i < l → ok i (i + 1) = true) (h : Pth ok l i m) : gi (ou ok l l).2 (i : Int) ≤ m := by
  induction h with
  | done =>
    have := (WF.ou (ok := ok) (l := l) l (Nat.le_refl _)).b2 l (Nat.le_refl _)
    omega
  | @step i k m h1 h2 h3 h4 ih =>
    obtain ⟨k', g1, g2, g3⟩ := ou_best hok (show i < l by omega)
    have := (g3.2.2.2 _ (by omega) (by omega) h1).1
    simp only at this
    omega
theorem pth_chn {ok : Nat → Nat → Bool} {l : Nat} (hok : ∀ i, i < l → ok i (i + 1) = true) : ∀ (f i : Nat), i ≤ l → l - i ≤ f → Pth ok l i (chn (ou ok l l).1 l f (i : Int)).length
  | 0, i, h1, h2 => by
    obtain rfl : i = l := by omega
    exact .done
  | f + 1, i, h1, h2 => by
    rw [chn]
    by_cases hi : i < l
    · obtain ⟨k, g1, _, g3, g4, g5, _⟩ := ou_best hok hi
      rw [if_pos (by omega), g1, List.length_cons]
      exact .step g5 (by omega) (by omega) (pth_chn hok f k (by omega) (by omega))
    · obtain rfl : i = l := by omega
      rw [if_neg (by omega)]
      exact .done
theorem gd_ok {o : Nat → Bool} {i : Nat} (h : o (i + 1) = true) : ∀ q, o (gd o i q) = true
  | 0 => h
  | q + 1 => by
    rw [gd]
    split
    · assumption
    · exact gd_ok h q
theorem pth_gch {ok : Nat → Nat → Bool} {l : Nat} (hok : ∀ i, ok i (i + 1) = true) : ∀ (f i : Nat), i ≤ l → l - i ≤ f → Pth ok l i (gch ok l f i).length
  | 0, i, h1, h2 => by
    obtain rfl : i = l := by omega
    exact .done
  | f + 1, i, h1, h2 => by
    rw [gch]
    by_cases hi : i < l
    · have hg := gd_lt (ok i) i (l - i - 1)
      rw [if_pos hi, List.length_cons]
      exact .step (gd_ok (hok i) _) hg.1 (by omega) (pth_gch hok f _ (by omega) (by omega))
    · obtain rfl : i = l := by omega
      rw [if_neg hi]
      exact .done
/-- No list is shorter than the program's. -/
theorem kept_le_greedy {ok : Nat → Nat → Bool} {l : Nat} (hok : ∀ i, ok i (i + 1) = true) : (keptL ok l).length ≤ (greL ok l).length := by
  have h1 := (pth_gch (ok := ok) (l := l) hok l 0 (Nat.zero_le _) (by omega)).best (fun i _ => hok i)
  have h2 := chn_len (ok := ok) (l := l) (fun i _ => hok i) l 0 (Nat.zero_le _) (by omega)
  unfold keptL greL
  simp only [List.length_cons]
  have h2' : ((chn (ou ok l l).1 l l 0).length : Int) = gi (ou ok l l).2 ((0 : Nat) : Int) := h2
  omega
/-- What is enough for more needs no more. -/
theorem kept_mono {ok ok' : Nat → Nat → Bool} {l : Nat} (hok : ∀ i, ok i (i + 1) = true) (hm : ∀ i k, ok i k = true → ok' i k = true) : (keptL ok' l).length ≤ (keptL ok l).length := by
  have h1 := ((pth_chn (ok := ok) (l := l) (fun i _ => hok i) l 0 (Nat.zero_le _) (by omega)).mono hm).best (fun i _ => hm _ _ (hok i))
  have h2 := chn_len (ok := ok') (l := l) (fun i _ => hm _ _ (hok i)) l 0 (Nat.zero_le _) (by omega)
  unfold keptL
  simp only [List.length_cons]
  have h2' : ((chn (ou ok' l l).1 l l 0).length : Int) = gi (ou ok' l l).2 ((0 : Nat) : Int) := h2
  have h1' : gi (ou ok' l l).2 ((0 : Nat) : Int) ≤ ((chn (ou ok l l).1 l l 0).length : Int) := h1
  omega
/-- A list that goes up from an index to the last one, each step enough. -/
def Up (ok : Nat → Nat → Bool) (l : Nat) : Nat → List Int → Prop
  | i, [] => i = l
  | i, k :: ks => ∃ j : Nat, k = j ∧ ok i j = true ∧ i < j ∧ j ≤ l ∧ Up ok l j ks
theorem up_gch {ok : Nat → Nat → Bool} {l : Nat} (hok : ∀ i, ok i (i + 1) = true) : ∀ (f i : Nat), i ≤ l → l - i ≤ f → Up ok l i (gch ok l f i)
  | 0, i, h1, h2 => by show i = l; omega
  | f + 1, i, h1, h2 => by
    rw [gch]
    by_cases hi : i < l
    · have hg := gd_lt (ok i) i (l - i - 1)
      rw [if_pos hi]
      exact ⟨_, rfl, gd_ok (hok i) _, hg.1, by omega, up_gch hok f _ (by omega) (by omega)⟩
    · rw [if_neg hi]
      show i = l
      omega
theorem gi_succ {α : Type} [Inhabited α] (x : α) (xs : List α) (m : Nat) : gi (x :: xs) ((m + 1 : Nat) : Int) = gi xs (m : Int) := by
  unfold gi
  simp only [Int.toNat_natCast, List.getD_cons_succ]
theorem gi_zero {α : Type} [Inhabited α] (x : α) (xs : List α) : gi (x :: xs) ((0 : Nat) : Int) = x := rfl
theorem up_all {ok : Nat → Nat → Bool} {l : Nat} : ∀ (ks : List Int) (i : Nat), Up ok l i ks → (∀ m, m < ks.length → ∃ p q : Nat, gi ((i : Int) :: ks) (m : Int) = p ∧ gi ((i : Int) :: ks) ((m + 1 : Nat) : Int) = q ∧ p < q ∧ q ≤ l ∧ ok p q = true) ∧ gi ((i : Int) :: ks) (ks.length : Int) = l
  | [], i, h => ⟨fun m hm => by simp at hm, by
    have h' : i = l := h
    rw [h']
    rfl⟩
  | k :: ks, i, ⟨j, hk, h1, h2, h3, h4⟩ => by
    subst hk
    have ih := up_all ks j h4
    refine ⟨fun m hm => ?_, ?_⟩
    · cases m with
      | zero => exact ⟨i, j, rfl, rfl, h2, h3, h1⟩
      | succ m =>
        obtain ⟨p, q, g1, g2, g3⟩ := ih.1 m (by simpa using hm)
        refine ⟨p, q, ?_, ?_, g3⟩
        · rw [gi_succ]; exact g1
        · rw [gi_succ]; exact g2
    · rw [List.length_cons, gi_succ]
      exact ih.2
theorem up_ir {ok : Nat → Nat → Bool} {l i : Nat} {ks : List Int} (h : Up ok l i ks) : ∀ d, d ≤ ks.length → ir ((i : Int) :: ks) d = true
  | 0, _ => rfl
  | d + 1, hd => by
    obtain ⟨p, q, g1, g2, g3, _⟩ := (up_all ks i h).1 d (by omega)
    rw [ir, up_ir h d (by omega), g1, g2, decide_eq_true (by omega)]
    rfl
theorem up_rgt {ok : Nat → Nat → Bool} {l : Nat} {ks : List Int} (h : Up ok l 0 ks) : rgt (l + 1) (0 :: ks) = true := by
  have h1 := (up_all ks 0 h).2
  unfold rgt
  rw [List.length_cons, Nat.add_sub_cancel, decide_eq_true (by simp), decide_eq_true (show gi (0 :: ks) 0 = 0 from rfl), show ir (0 :: ks) ks.length = true from up_ir (i := 0) h _ (Nat.le_refl _)]
  rw [show ((ks.length + 1 : Nat) : Int) - 1 = (ks.length : Int) by omega]
  have h2 : gi (0 :: ks) (ks.length : Int) = l := h1
  rw [h2, decide_eq_true (by omega)]
  rfl
theorem up_er {pts : List R_movingpoint_Sample} {mo : Rat} {l : Nat} {ks : List Int} (h0 : 0 ≤ mo) (h : Up (okd pts mo) l 0 ks) : ∀ d, d ≤ ks.length → er pts (0 :: ks) d ≤ mo
  | 0, _ => h0
  | d + 1, hd => by
    obtain ⟨p, q, g1, g2, g3, g4, g5⟩ := (up_all ks 0 h).1 d (by omega)
    have g1' : gi (0 :: ks) (d : Int) = p := g1
    have g2' : gi (0 :: ks) ((d + 1 : Nat) : Int) = q := g2
    rw [er, g1', g2', Rat.max_def]
    have := up_er h0 h d (by omega)
    have h5 : dv pts p q (q - p - 1) ≤ mo := of_decide_eq_true g5
    simp only [Int.toNat_natCast]
    split <;> assumption
theorem gd_congr {o o' : Nat → Bool} {i : Nat} : ∀ q, (∀ k, i < k → k ≤ i + 1 + q → o k = o' k) → gd o i q = gd o' i q
  | 0, _ => rfl
  | q + 1, h => by rw [gd, gd, h _ (by omega) (by omega), gd_congr q (fun k h1 h2 => h k h1 (by omega))]
theorem gch_congr {ok ok' : Nat → Nat → Bool} {l : Nat} (h : ∀ i k, i < k → k ≤ l → ok i k = ok' i k) : ∀ f i, gch ok l f i = gch ok' l f i
  | 0, _ => rfl
  | f + 1, i => by
    rw [gch, gch]
    split
    · rw [gd_congr _ (fun k h1 h2 => h i k h1 (by omega)), gch_congr h f]
    · rfl
theorem greedy_ref (ws : List WStep) (d : Rat) : greL (okr (ptsW ws) (d * d)) ((ptsW ws).length - 1) = greL (okd (ptsW ws) (d * d)) ((ptsW ws).length - 1) := by
  have hl := ptsW_len ws
  unfold greL
  rw [gch_congr (fun i k h1 h2 => okr_okd (ptsW_inc ws i k h1 (by omega)))]
theorem okd_mono {pts : List R_movingpoint_Sample} {a b : Rat} (h : a ≤ b) (i k : Nat) (h1 : okd pts a i k = true) : okd pts b i k = true := decide_eq_true (Rat.le_trans (of_decide_eq_true h1) h)
theorem sq_le {a b : Rat} (h : 0 ≤ a) (hb : 0 ≤ b) : a * a ≤ (a + b) * (a + b) := by
  have h1 := Rat.mul_nonneg h hb
  have h2 := Rat.mul_nonneg hb hb
  grind
theorem greL_len (ok : Nat → Nat → Bool) (l : Nat) : (greL ok l).length ≤ l + 1 := by
  have : ∀ f i, (gch ok l f i).length ≤ f := fun f => by
    induction f with
    | zero => intro i; rw [gch]; exact Nat.le_refl _
    | succ f ih =>
      intro i
      rw [gch]
      split
      · rw [List.length_cons]; have := ih (gd (ok i) i (l - i - 1)); omega
      · simp
  unfold greL
  rw [List.length_cons]
  have := this l 0
  omega
end Go.Vt
