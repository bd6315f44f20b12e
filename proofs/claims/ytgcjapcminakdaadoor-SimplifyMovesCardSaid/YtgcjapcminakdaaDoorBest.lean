/- The best kept breakpoints: the reference's search among all lists. Conditions: the lengths that each statement names. -/
import Derived.Test.YtgcjapcminakdaaDoorKept
set_option linter.unusedSimpArgs false
set_option linter.unusedVariables false
set_option maxRecDepth 100000
namespace Go.Vt
open Go.RowKit Go.Proofs

/-- Is the straight way enough, by the reference's deviation? -/
def okr (pts : List R_movingpoint_Sample) (mo : Rat) (i k : Nat) : Bool := decide (rv pts i k (k - i - 1) ≤ mo)
def lx : List Int → List Int → Bool
  | x :: xs, y :: ys => if x = y then lx xs ys else decide (x < y)
  | _, _ => false
def btr (xs ys : List Int) : Bool := if xs.length = ys.length then lx xs ys else decide (xs.length < ys.length)
theorem lx_nil (ys : List Int) : lx [] ys = false := by cases ys <;> rfl
theorem lx_self : ∀ xs, lx xs xs = false
  | [] => rfl
  | x :: xs => by simp [lx, lx_self xs]
theorem better_spec (a b ca cb : Nat) (xs ys : List Int) (spx spy : List Value) (Tx Ty : TypeId) (hx : xs.length ≤ 1099511627776) (w : World) (hwx : ∃ fz, w.heap[a]? = some (.cells (row (eI .i64) xs spx) Tx fz)) (hwy : ∃ fz, w.heap[b]? = some (.cells (row (eI .i64) ys spy) Ty fz)) :
    Calls Tryd.prog 53 [vL a xs ca, vL b ys cb].toArray w (Ret (.bool (btr xs ys)) w) := by
  have := FoC.mk hwx
  have := FoC.mk hwy
  refine fn_intro Tryd.func53 rfl Tryd.ntmps53 rfl ?_
  repeat (first | refine sX rfl rfl ?_ | (refine sS rfl rfl ?_ ?_; focus omega) | (refine sC rfl rfl ?_ ?_; focus (first | exact trivial | assumption | exact ⟨by assumption, by assumption⟩ | exact mb2 rfl rfl | exact mb4 rfl rfl rfl rfl)) | refine cX ?_ | refine cY ?_ | (refine sA rfl rfl ?_; intro _) | refine sT rfl ?_ | refine sF rfl ?_ | (refine sR rfl ?_ ?_; focus omega) | (refine sB rfl rfl ?_; intro _) | (refine sN rfl rfl ?_ ?_; (focus (first | exact trivial | assumption | exact ⟨by assumption, by assumption⟩ | exact mb2 rfl rfl | exact mb4 rfl rfl rfl rfl)); intro _; simp only [List.cons_append, List.nil_append]) | refine sW rfl rfl ?_ | refine sK rfl rfl ?_ | refine j_if rfl ?_ | refine j_else rfl ?_ | refine Go.Vt.jq (wl_pickT rfl rfl) rfl rfl ?_ | refine Go.Vt.jq (wl_pickF rfl rfl) rfl rfl ?_)
  refine j_cond rfl (fun h => ?_) (fun h => ?_)
  · have hl : ¬ xs.length = ys.length := by
      have : ¬ (xs.length : Int) = ys.length := by simpa using h
      omega
    repeat (first | refine sX rfl rfl ?_ | (refine sS rfl rfl ?_ ?_; focus omega) | (refine sC rfl rfl ?_ ?_; focus (first | exact trivial | assumption | exact ⟨by assumption, by assumption⟩ | exact mb2 rfl rfl | exact mb4 rfl rfl rfl rfl)) | refine cX ?_ | refine cY ?_ | (refine sA rfl rfl ?_; intro _) | refine sT rfl ?_ | refine sF rfl ?_ | (refine sR rfl ?_ ?_; focus omega) | (refine sB rfl rfl ?_; intro _) | (refine sN rfl rfl ?_ ?_; (focus (first | exact trivial | assumption | exact ⟨by assumption, by assumption⟩ | exact mb2 rfl rfl | exact mb4 rfl rfl rfl rfl)); intro _; simp only [List.cons_append, List.nil_append]) | refine sW rfl rfl ?_ | refine sK rfl rfl ?_ | refine j_if rfl ?_ | refine j_else rfl ?_ | refine Go.Vt.jq (wl_pickT rfl rfl) rfl rfl ?_ | refine Go.Vt.jq (wl_pickF rfl rfl) rfl rfl ?_)
    rw [show decide ((xs.length : Int) < (ys.length : Int)) = btr xs ys by unfold btr; rw [if_neg hl, decide_eq_decide]; omega]
    exact jx_ret_tmp rfl rfl (fun w hw => ret_ok hw)
  have hl : xs.length = ys.length := by
    have : (xs.length : Int) = ys.length := by simpa using h
    omega
  have hb : btr xs ys = lx xs ys := by unfold btr; rw [if_pos hl]
  rw [hb]
  repeat (first | refine sX rfl rfl ?_ | (refine sS rfl rfl ?_ ?_; focus omega) | (refine sC rfl rfl ?_ ?_; focus (first | exact trivial | assumption | exact ⟨by assumption, by assumption⟩ | exact mb2 rfl rfl | exact mb4 rfl rfl rfl rfl)) | refine cX ?_ | refine cY ?_ | (refine sA rfl rfl ?_; intro _) | refine sT rfl ?_ | refine sF rfl ?_ | (refine sR rfl ?_ ?_; focus omega) | (refine sB rfl rfl ?_; intro _) | (refine sN rfl rfl ?_ ?_; (focus (first | exact trivial | assumption | exact ⟨by assumption, by assumption⟩ | exact mb2 rfl rfl | exact mb4 rfl rfl rfl rfl)); intro _; simp only [List.cons_append, List.nil_append]) | refine sW rfl rfl ?_ | refine sK rfl rfl ?_ | refine j_if rfl ?_ | refine j_else rfl ?_ | refine Go.Vt.jq (wl_pickT rfl rfl) rfl rfl ?_ | refine Go.Vt.jq (wl_pickF rfl rfl) rfl rfl ?_)
  refine j_loop (S := Nat) (fun m => m ≤ xs.length ∧ lx xs ys = lx (xs.drop m) (ys.drop m)) (fun m => [(0, vL a xs ca), (1, vL b ys cb), (5, .int .i64 (m : Nat))]) (fun _ => []) (fun m => xs.length - m) 0 ⟨Nat.zero_le _, rfl⟩ (by repeat (first | exact sub_nil | refine sub_cons rfl ?_ | refine sub_cons' rfl (by congr 1; omega) ?_)) sbl (fun m hm => ?_)
  obtain ⟨hm, ht⟩ := hm
  repeat (first | refine sX rfl rfl ?_ | (refine sS rfl rfl ?_ ?_; focus omega) | (refine sC rfl rfl ?_ ?_; focus (first | exact trivial | assumption | exact ⟨by assumption, by assumption⟩ | exact mb2 rfl rfl | exact mb4 rfl rfl rfl rfl)) | refine cX ?_ | refine cY ?_ | (refine sA rfl rfl ?_; intro _) | refine sT rfl ?_ | refine sF rfl ?_ | (refine sR rfl ?_ ?_; focus omega) | (refine sB rfl rfl ?_; intro _) | (refine sN rfl rfl ?_ ?_; (focus (first | exact trivial | assumption | exact ⟨by assumption, by assumption⟩ | exact mb2 rfl rfl | exact mb4 rfl rfl rfl rfl)); intro _; simp only [List.cons_append, List.nil_append]) | refine sW rfl rfl ?_ | refine sK rfl rfl ?_ | refine j_if rfl ?_ | refine j_else rfl ?_ | refine Go.Vt.jq (wl_pickT rfl rfl) rfl rfl ?_ | refine Go.Vt.jq (wl_pickF rfl rfl) rfl rfl ?_)
  refine j_cond rfl (fun h => ?_) (fun h => ?_)
  · have hlt : m < xs.length := by have := of_decide_eq_true h; omega
    rw [List.drop_eq_getElem_cons hlt, List.drop_eq_getElem_cons (show m < ys.length by omega), lx] at ht
    repeat (first | refine sX rfl rfl ?_ | (refine sS rfl rfl ?_ ?_; focus omega) | (refine sC rfl rfl ?_ ?_; focus (first | exact trivial | assumption | exact ⟨by assumption, by assumption⟩ | exact mb2 rfl rfl | exact mb4 rfl rfl rfl rfl)) | refine cX ?_ | refine cY ?_ | (refine sA rfl rfl ?_; intro _) | refine sT rfl ?_ | refine sF rfl ?_ | (refine sR rfl ?_ ?_; focus omega) | (refine sB rfl rfl ?_; intro _) | (refine sN rfl rfl ?_ ?_; (focus (first | exact trivial | assumption | exact ⟨by assumption, by assumption⟩ | exact mb2 rfl rfl | exact mb4 rfl rfl rfl rfl)); intro _; simp only [List.cons_append, List.nil_append]) | refine sW rfl rfl ?_ | refine sK rfl rfl ?_ | refine j_if rfl ?_ | refine j_else rfl ?_ | refine Go.Vt.jq (wl_pickT rfl rfl) rfl rfl ?_ | refine Go.Vt.jq (wl_pickF rfl rfl) rfl rfl ?_)
    (refine jD 9 9 mixed (by kernel_rfl) ?_; (repeat (first | refine tX rfl rfl ?_ | (refine tS rfl rfl ?_ ?_; focus omega) | (refine tC rfl rfl ?_ ?_; focus (first | exact trivial | assumption | exact ⟨by assumption, by assumption⟩ | exact mb2 rfl rfl | exact mb4 rfl rfl rfl rfl)) | refine tW rfl rfl ?_ | refine tK rfl rfl ?_ | refine Go.Vt.hq (wl_pickT rfl rfl) rfl rfl ?_ | refine Go.Vt.hq (wl_pickF rfl rfl) rfl rfl ?_)); refine jh_nil ?_; (repeat (refine wn_new ?_; intro _)); refine jn_nil ?_)
    repeat (first | refine sX rfl rfl ?_ | (refine sS rfl rfl ?_ ?_; focus omega) | (refine sC rfl rfl ?_ ?_; focus (first | exact trivial | assumption | exact ⟨by assumption, by assumption⟩ | exact mb2 rfl rfl | exact mb4 rfl rfl rfl rfl)) | refine cX ?_ | refine cY ?_ | (refine sA rfl rfl ?_; intro _) | refine sT rfl ?_ | refine sF rfl ?_ | (refine sR rfl ?_ ?_; focus omega) | (refine sB rfl rfl ?_; intro _) | (refine sN rfl rfl ?_ ?_; (focus (first | exact trivial | assumption | exact ⟨by assumption, by assumption⟩ | exact mb2 rfl rfl | exact mb4 rfl rfl rfl rfl)); intro _; simp only [List.cons_append, List.nil_append]) | refine sW rfl rfl ?_ | refine sK rfl rfl ?_ | refine j_if rfl ?_ | refine j_else rfl ?_ | refine Go.Vt.jq (wl_pickT rfl rfl) rfl rfl ?_ | refine Go.Vt.jq (wl_pickF rfl rfl) rfl rfl ?_)
    rw [gi_nat hlt, gi_nat (xs := ys) (by omega)]
    refine j_cond rfl (fun h => ?_) (fun h => ?_)
    · have hne : ¬ xs[m] = ys[m] := by simpa using h
      rw [if_neg hne] at ht
      repeat (first | refine sX rfl rfl ?_ | (refine sS rfl rfl ?_ ?_; focus omega) | (refine sC rfl rfl ?_ ?_; focus (first | exact trivial | assumption | exact ⟨by assumption, by assumption⟩ | exact mb2 rfl rfl | exact mb4 rfl rfl rfl rfl)) | refine cX ?_ | refine cY ?_ | (refine sA rfl rfl ?_; intro _) | refine sT rfl ?_ | refine sF rfl ?_ | (refine sR rfl ?_ ?_; focus omega) | (refine sB rfl rfl ?_; intro _) | (refine sN rfl rfl ?_ ?_; (focus (first | exact trivial | assumption | exact ⟨by assumption, by assumption⟩ | exact mb2 rfl rfl | exact mb4 rfl rfl rfl rfl)); intro _; simp only [List.cons_append, List.nil_append]) | refine sW rfl rfl ?_ | refine sK rfl rfl ?_ | refine j_if rfl ?_ | refine j_else rfl ?_ | refine Go.Vt.jq (wl_pickT rfl rfl) rfl rfl ?_ | refine Go.Vt.jq (wl_pickF rfl rfl) rfl rfl ?_)
      (refine j_late [0, 1, 2, 3, 4, 5, 6, 7, 8] [9] ([]) mixed (by kernel_rfl) (by decide) sbl ?_; simp only [picks, List.getElem?_cons_succ, List.getElem?_cons_zero]; (repeat (first | refine tX rfl rfl ?_ | (refine tS rfl rfl ?_ ?_; focus omega) | (refine tC rfl rfl ?_ ?_; focus (first | exact trivial | assumption | exact ⟨by assumption, by assumption⟩ | exact mb2 rfl rfl | exact mb4 rfl rfl rfl rfl)) | refine tW rfl rfl ?_ | refine tK rfl rfl ?_ | refine Go.Vt.hq (wl_pickT rfl rfl) rfl rfl ?_ | refine Go.Vt.hq (wl_pickF rfl rfl) rfl rfl ?_)); refine jh_nil ?_; (repeat (first | (refine eA rfl rfl ?_; intro _) | refine eT rfl ?_ | refine eS rfl rfl ?_ | refine eF rfl ?_ | refine eX rfl rfl ?_ | (refine eB rfl rfl ?_; intro _) | (refine eN rfl rfl ?_ ?_; (focus (first | exact trivial | assumption | exact ⟨by assumption, by assumption⟩ | exact mb2 rfl rfl | exact mb4 rfl rfl rfl rfl)); intro _; simp only [List.cons_append, List.nil_append]))); refine je_nil ?_)
      repeat (first | refine sX rfl rfl ?_ | (refine sS rfl rfl ?_ ?_; focus omega) | (refine sC rfl rfl ?_ ?_; focus (first | exact trivial | assumption | exact ⟨by assumption, by assumption⟩ | exact mb2 rfl rfl | exact mb4 rfl rfl rfl rfl)) | refine cX ?_ | refine cY ?_ | (refine sA rfl rfl ?_; intro _) | refine sT rfl ?_ | refine sF rfl ?_ | (refine sR rfl ?_ ?_; focus omega) | (refine sB rfl rfl ?_; intro _) | (refine sN rfl rfl ?_ ?_; (focus (first | exact trivial | assumption | exact ⟨by assumption, by assumption⟩ | exact mb2 rfl rfl | exact mb4 rfl rfl rfl rfl)); intro _; simp only [List.cons_append, List.nil_append]) | refine sW rfl rfl ?_ | refine sK rfl rfl ?_ | refine j_if rfl ?_ | refine j_else rfl ?_ | refine Go.Vt.jq (wl_pickT rfl rfl) rfl rfl ?_ | refine Go.Vt.jq (wl_pickF rfl rfl) rfl rfl ?_)
      rw [gi_nat hlt, gi_nat (xs := ys) (by omega), ← ht]
      exact jx_ret_tmp rfl rfl (fun w hw => ret_ok hw)
    · have heq : xs[m] = ys[m] := by simpa using h
      rw [if_pos heq] at ht
      repeat (first | refine sX rfl rfl ?_ | (refine sS rfl rfl ?_ ?_; focus omega) | (refine sC rfl rfl ?_ ?_; focus (first | exact trivial | assumption | exact ⟨by assumption, by assumption⟩ | exact mb2 rfl rfl | exact mb4 rfl rfl rfl rfl)) | refine cX ?_ | refine cY ?_ | (refine sA rfl rfl ?_; intro _) | refine sT rfl ?_ | refine sF rfl ?_ | (refine sR rfl ?_ ?_; focus omega) | (refine sB rfl rfl ?_; intro _) | (refine sN rfl rfl ?_ ?_; (focus (first | exact trivial | assumption | exact ⟨by assumption, by assumption⟩ | exact mb2 rfl rfl | exact mb4 rfl rfl rfl rfl)); intro _; simp only [List.cons_append, List.nil_append]) | refine sW rfl rfl ?_ | refine sK rfl rfl ?_ | refine j_if rfl ?_ | refine j_else rfl ?_ | refine Go.Vt.jq (wl_pickT rfl rfl) rfl rfl ?_ | refine Go.Vt.jq (wl_pickF rfl rfl) rfl rfl ?_)
      exact jx_loop (m + 1) ⟨hlt, ht⟩ (by repeat (first | exact sub_nil | refine sub_cons rfl ?_ | refine sub_cons' rfl (by congr 1; omega) ?_)) sbl (by omega)
  · have hge : m = xs.length := by have := of_decide_eq_false h; omega
    subst hge
    have hf : lx xs ys = false := by rw [ht, List.drop_length]; exact lx_nil _
    rw [hf]
    repeat (first | refine sX rfl rfl ?_ | (refine sS rfl rfl ?_ ?_; focus omega) | (refine sC rfl rfl ?_ ?_; focus (first | exact trivial | assumption | exact ⟨by assumption, by assumption⟩ | exact mb2 rfl rfl | exact mb4 rfl rfl rfl rfl)) | refine cX ?_ | refine cY ?_ | (refine sA rfl rfl ?_; intro _) | refine sT rfl ?_ | refine sF rfl ?_ | (refine sR rfl ?_ ?_; focus omega) | (refine sB rfl rfl ?_; intro _) | (refine sN rfl rfl ?_ ?_; (focus (first | exact trivial | assumption | exact ⟨by assumption, by assumption⟩ | exact mb2 rfl rfl | exact mb4 rfl rfl rfl rfl)); intro _; simp only [List.cons_append, List.nil_append]) | refine sW rfl rfl ?_ | refine sK rfl rfl ?_ | refine j_if rfl ?_ | refine j_else rfl ?_ | refine Go.Vt.jq (wl_pickT rfl rfl) rfl rfl ?_ | refine Go.Vt.jq (wl_pickF rfl rfl) rfl rfl ?_)
    exact jx_ret_tmp rfl rfl (fun w hw => ret_ok hw)
instance sm_better (w0 : World) (L : List Blk) (a b ca cb : Nat) (xs ys : List Int) (spx spy : List Value) (Tx Ty : TypeId) [h1 : AtC w0 L a (row (eI .i64) xs spx) Tx] [h2 : AtC w0 L b (row (eI .i64) ys spy) Ty] : SpecM Tryd.prog w0 L 53 [vL a xs ca, vL b ys cb] (.bool (btr xs ys)) (xs.length ≤ 1099511627776) := ⟨fun hp w hw => better_spec a b ca cb xs ys spx spy Tx Ty hp w (h1.out w hw) (h2.out w hw)⟩
/-- The first 'q' breakpoints behind 'i' are tried. -/
def bf (g : Nat → List Int) (ok : Nat → Bool) (i : Nat) : Nat → List Int
  | 0 => []
  | q + 1 => if ok (i + 1 + q) = true ∧ (bf g ok i q = [] ∨ btr (g (i + 1 + q)) (bf g ok i q) = true) then g (i + 1 + q) else bf g ok i q
/-- The last one of a list. -/
def lst (bg : List Int) : Nat := (gi bg ((bg.length : Int) - 1)).toNat
/-- The best list that begins with 'bg'. -/
def bst (ok : Nat → Nat → Bool) (l : Nat) : Nat → List Int → List Int
  | 0, bg => bg
  | f + 1, bg => if lst bg = l then bg else bf (fun k : Nat => bst ok l f (bg ++ [(k : Int)])) (ok (lst bg)) (lst bg) (l - lst bg)
theorem lst_snoc (bg : List Int) (k : Nat) : lst (bg ++ [(k : Int)]) = k := by
  unfold lst gi
  have e : ((((bg ++ [(k : Int)]).length : Nat) : Int) - 1).toNat = bg.length := by rw [List.length_append, List.length_singleton]; omega
  rw [e, List.getD_eq_getElem?_getD, List.getElem?_append_right (Nat.le_refl _), Nat.sub_self]
  rfl
theorem bf_ne {g : Nat → List Int} {ok : Nat → Bool} {i : Nat} (h0 : ok (i + 1) = true) : ∀ q, (∀ k, i < k → k ≤ i + q → g k ≠ []) → 1 ≤ q → bf g ok i q ≠ []
  | 0, _, h => by omega
  | q + 1, hg, _ => by
    rw [bf]
    split
    · exact hg _ (by omega) (by omega)
    · rename_i hn
      rcases Nat.eq_zero_or_pos q with h | h
      · subst h
        exact absurd ⟨h0, .inl rfl⟩ hn
      · exact bf_ne h0 q (fun k h1 h2 => hg k h1 (by omega)) h
theorem bst_ne {ok : Nat → Nat → Bool} {l : Nat} (h0 : ∀ i, i < l → ok i (i + 1) = true) : ∀ (f : Nat) (bg : List Int), bg ≠ [] → lst bg ≤ l → bst ok l f bg ≠ []
  | 0, bg, h, _ => h
  | f + 1, bg, h, hl => by
    rw [bst]
    split
    · exact h
    · rename_i hn
      exact bf_ne (h0 _ (by omega)) _ (fun k _ h2 => bst_ne h0 f _ (by simp) (by rw [lst_snoc]; omega)) (by omega)
theorem bf_len {g : Nat → List Int} {ok : Nat → Bool} {i m : Nat} : ∀ q, (∀ k, i < k → k ≤ i + q → (g k).length ≤ m) → (bf g ok i q).length ≤ m
  | 0, _ => Nat.zero_le _
  | q + 1, hg => by
    rw [bf]
    split
    · exact hg _ (by omega) (by omega)
    · exact bf_len q (fun k h1 h2 => hg k h1 (by omega))
theorem bst_len {ok : Nat → Nat → Bool} {l : Nat} : ∀ (f : Nat) (bg : List Int), bg.length ≤ lst bg + 1 → lst bg ≤ l → (bst ok l f bg).length ≤ l + 1
  | 0, bg, h, hl => by rw [bst]; omega
  | f + 1, bg, h, hl => by
    rw [bst]
    split
    · omega
    · exact bf_len _ (fun k h1 h2 => bst_len f _ (by rw [lst_snoc]; simp; omega) (by rw [lst_snoc]; omega))
theorem okr_next {pts : List R_movingpoint_Sample} {mo : Rat} (h : 0 ≤ mo) (i : Nat) : okr pts mo i (i + 1) = true := by
  unfold okr
  rw [show i + 1 - i - 1 = 0 by omega]
  exact decide_eq_true h
/-- What the search returns: the list that it was given, or a new one. -/
abbrev SBst (bg r : List Int) := { o : Option (Nat × Nat × List Value) // o = none → r = bg }
def vBst (bb : Nat) (bg : List Int) (cb : Nat) (r : List Int) : Option (Nat × Nat × List Value) → Value
  | none => vL bb bg cb
  | some s => vL s.1 r s.2.1
def mBst (T : TypeId) (r : List Int) : Option (Nat × Nat × List Value) → List Blk
  | none => []
  | some s => [⟨s.1, row (eI .i64) r s.2.2, T⟩]
/-- The list found so far, none yet or in memory. -/
def vOut (r : List Int) : Option (Nat × Nat × List Value) → Value
  | none => .slice none 0 0
  | some s => vL s.1 r s.2.1
theorem best_spec (I : R_api_Interval) (b l c : Nat) (mo : Rat) (pts : List R_movingpoint_Sample) (sp : List Value) (T : TypeId) (hr : RunOk pts (l + 1) c) (hl : l ≤ 1048576) (hmo : M mo ≤ LQ) (h0 : 0 ≤ mo) : ∀ (f : Nat) (bg : List Int) (bb cb : Nat) (spb : List Value) (Tb : TypeId), l - lst bg ≤ f → 1 ≤ bg.length → bg.length ≤ cb → (lst bg ≤ l ∧ bg.length ≤ lst bg + 1 ∧ 0 ≤ gi bg ((bg.length : Int) - 1)) → ∀ w : World, (∃ fz, w.heap[b]? = some (.cells (row rS pts sp) T fz)) → (∃ fz, w.heap[bb]? = some (.cells (row (eI .i64) bg spb) Tb fz)) →
    Calls Tryd.prog 37 [vRun I b (l + 1) c, vL bb bg cb, vQ mo].toArray w (RetM (SBst bg (bst (okr pts mo) l f bg)) (fun s => vBst bb bg cb (bst (okr pts mo) l f bg) s.1) (fun s => mBst 3 (bst (okr pts mo) l f bg) s.1) w) := by
  intro f
  induction f with
  | zero =>
    intro bg bb cb spb Tb hf hb1 hcb hbg w hw hwb
    obtain ⟨hg1, hg2, hg3⟩ := hbg
    have := FoC.mk hw
    have := FoC.mk hwb
    have hlast : gi bg ((bg.length : Int) - 1) = (l : Int) := by unfold lst at hf hg1; omega
    refine fn_intro Tryd.func37 rfl Tryd.ntmps37 rfl ?_
    repeat (first | refine sX rfl rfl ?_ | (refine sS rfl rfl ?_ ?_; focus omega) | (refine sC rfl rfl ?_ ?_; focus (first | exact trivial | assumption | exact ⟨by assumption, by assumption⟩ | exact mb2 rfl rfl | exact mb4 rfl rfl rfl rfl)) | refine cX ?_ | refine cY ?_ | (refine sA rfl rfl ?_; intro _) | refine sT rfl ?_ | refine sF rfl ?_ | (refine sR rfl ?_ ?_; focus omega) | (refine sB rfl rfl ?_; intro _) | (refine sN rfl rfl ?_ ?_; (focus (first | exact trivial | assumption | exact ⟨by assumption, by assumption⟩ | exact mb2 rfl rfl | exact mb4 rfl rfl rfl rfl)); intro _; simp only [List.cons_append, List.nil_append]) | refine sW rfl rfl ?_ | refine sK rfl rfl ?_ | refine j_if rfl ?_ | refine j_else rfl ?_ | refine Go.Vt.jq (wl_pickT rfl rfl) rfl rfl ?_ | refine Go.Vt.jq (wl_pickF rfl rfl) rfl rfl ?_)
    refine j_if (by rw [hlast, decide_eq_true (by omega)]; rfl) ?_
    repeat (first | refine sX rfl rfl ?_ | (refine sS rfl rfl ?_ ?_; focus omega) | (refine sC rfl rfl ?_ ?_; focus (first | exact trivial | assumption | exact ⟨by assumption, by assumption⟩ | exact mb2 rfl rfl | exact mb4 rfl rfl rfl rfl)) | refine cX ?_ | refine cY ?_ | (refine sA rfl rfl ?_; intro _) | refine sT rfl ?_ | refine sF rfl ?_ | (refine sR rfl ?_ ?_; focus omega) | (refine sB rfl rfl ?_; intro _) | (refine sN rfl rfl ?_ ?_; (focus (first | exact trivial | assumption | exact ⟨by assumption, by assumption⟩ | exact mb2 rfl rfl | exact mb4 rfl rfl rfl rfl)); intro _; simp only [List.cons_append, List.nil_append]) | refine sW rfl rfl ?_ | refine sK rfl rfl ?_ | refine j_if rfl ?_ | refine j_else rfl ?_ | refine Go.Vt.jq (wl_pickT rfl rfl) rfl rfl ?_ | refine Go.Vt.jq (wl_pickF rfl rfl) rfl rfl ?_)
    exact jx_ret_tmp rfl rfl (fun w hw => ⟨⟨none, fun _ => rfl⟩, rfl, hw.sub (List.nil_sublist _)⟩)
  | succ f ih =>
    intro bg bb cb spb Tb hf hb1 hcb hbg w hw hwb
    obtain ⟨hg1, hg2, hg3⟩ := hbg
    have := FoC.mk hw
    have := FoC.mk hwb
    refine fn_intro Tryd.func37 rfl Tryd.ntmps37 rfl ?_
    repeat (first | refine sX rfl rfl ?_ | (refine sS rfl rfl ?_ ?_; focus omega) | (refine sC rfl rfl ?_ ?_; focus (first | exact trivial | assumption | exact ⟨by assumption, by assumption⟩ | exact mb2 rfl rfl | exact mb4 rfl rfl rfl rfl)) | refine cX ?_ | refine cY ?_ | (refine sA rfl rfl ?_; intro _) | refine sT rfl ?_ | refine sF rfl ?_ | (refine sR rfl ?_ ?_; focus omega) | (refine sB rfl rfl ?_; intro _) | (refine sN rfl rfl ?_ ?_; (focus (first | exact trivial | assumption | exact ⟨by assumption, by assumption⟩ | exact mb2 rfl rfl | exact mb4 rfl rfl rfl rfl)); intro _; simp only [List.cons_append, List.nil_append]) | refine sW rfl rfl ?_ | refine sK rfl rfl ?_ | refine j_if rfl ?_ | refine j_else rfl ?_ | refine Go.Vt.jq (wl_pickT rfl rfl) rfl rfl ?_ | refine Go.Vt.jq (wl_pickF rfl rfl) rfl rfl ?_)
    by_cases hlast : lst bg = l
    · have hli : gi bg ((bg.length : Int) - 1) = (l : Int) := by unfold lst at hlast; omega
      refine j_if (by rw [hli, decide_eq_true (by omega)]; rfl) ?_
      have hbst : bst (okr pts mo) l (f + 1) bg = bg := by rw [bst, if_pos hlast]
      rw [hbst]
      repeat (first | refine sX rfl rfl ?_ | (refine sS rfl rfl ?_ ?_; focus omega) | (refine sC rfl rfl ?_ ?_; focus (first | exact trivial | assumption | exact ⟨by assumption, by assumption⟩ | exact mb2 rfl rfl | exact mb4 rfl rfl rfl rfl)) | refine cX ?_ | refine cY ?_ | (refine sA rfl rfl ?_; intro _) | refine sT rfl ?_ | refine sF rfl ?_ | (refine sR rfl ?_ ?_; focus omega) | (refine sB rfl rfl ?_; intro _) | (refine sN rfl rfl ?_ ?_; (focus (first | exact trivial | assumption | exact ⟨by assumption, by assumption⟩ | exact mb2 rfl rfl | exact mb4 rfl rfl rfl rfl)); intro _; simp only [List.cons_append, List.nil_append]) | refine sW rfl rfl ?_ | refine sK rfl rfl ?_ | refine j_if rfl ?_ | refine j_else rfl ?_ | refine Go.Vt.jq (wl_pickT rfl rfl) rfl rfl ?_ | refine Go.Vt.jq (wl_pickF rfl rfl) rfl rfl ?_)
      exact jx_ret_tmp rfl rfl (fun w hw => ⟨⟨none, fun _ => rfl⟩, rfl, hw.sub (List.nil_sublist _)⟩)
    have hli : gi bg ((bg.length : Int) - 1) = (lst bg : Int) := by unfold lst; omega
    obtain ⟨i, hi⟩ : ∃ i, i = lst bg := ⟨_, rfl⟩
    rw [← hi] at hli hg1 hg2 hlast hf
    refine j_else (by rw [hli, decide_eq_false (by omega)]; rfl) ?_
    have hbst : bst (okr pts mo) l (f + 1) bg = bf (fun k : Nat => bst (okr pts mo) l f (bg ++ [(k : Int)])) (okr pts mo i) i (l - i) := by rw [bst, if_neg (by rw [← hi]; exact hlast), ← hi]
    rw [hbst]
    obtain ⟨g, hgd⟩ : ∃ g : Nat → List Int, g = fun k : Nat => bst (okr pts mo) l f (bg ++ [(k : Int)]) := ⟨_, rfl⟩
    rw [← hgd]
    rw [hli]
    repeat (first | refine sX rfl rfl ?_ | (refine sS rfl rfl ?_ ?_; focus omega) | (refine sC rfl rfl ?_ ?_; focus (first | exact trivial | assumption | exact ⟨by assumption, by assumption⟩ | exact mb2 rfl rfl | exact mb4 rfl rfl rfl rfl)) | refine cX ?_ | refine cY ?_ | (refine sA rfl rfl ?_; intro _) | refine sT rfl ?_ | refine sF rfl ?_ | (refine sR rfl ?_ ?_; focus omega) | (refine sB rfl rfl ?_; intro _) | (refine sN rfl rfl ?_ ?_; (focus (first | exact trivial | assumption | exact ⟨by assumption, by assumption⟩ | exact mb2 rfl rfl | exact mb4 rfl rfl rfl rfl)); intro _; simp only [List.cons_append, List.nil_append]) | refine sW rfl rfl ?_ | refine sK rfl rfl ?_ | refine j_if rfl ?_ | refine j_else rfl ?_ | refine Go.Vt.jq (wl_pickT rfl rfl) rfl rfl ?_ | refine Go.Vt.jq (wl_pickF rfl rfl) rfl rfl ?_)
    rename_i b3 b5
    have hlen : ∀ k q, i < k → k ≤ l → btr (g k) q = btr (g k) q := fun _ _ _ _ => rfl
    have hgne : ∀ k, i < k → k ≤ l → g k ≠ [] := fun k h1 h2 => by rw [hgd]; exact bst_ne (fun i _ => okr_next h0 i) f _ (by simp) (by rw [lst_snoc]; exact h2)
    obtain ⟨o, ho⟩ : ∃ o : Nat → List Int, o = bf g (okr pts mo i) i := ⟨_, rfl⟩
    have hone : ∀ q, i + q ≤ l → 1 ≤ q → o q ≠ [] := fun q h1 h2 => by rw [ho]; exact bf_ne (okr_next h0 i) q (fun k g1 g2 => hgne k g1 (by omega)) h2
    have hstep : ∀ q, o (q + 1) = if okr pts mo i (i + 1 + q) = true ∧ (o q = [] ∨ btr (g (i + 1 + q)) (o q) = true) then g (i + 1 + q) else o q := fun q => by rw [ho, bf]
    rw [← ho]
    have hL1 : ((l + 1 : Nat) : Int) - 1 = (l : Int) := by omega
    simp only [hL1]
    refine j_loop (S := Nat × Option (Nat × Nat × List Value)) (fun s => i + s.1 ≤ l ∧ (s.2 = none ↔ s.1 = 0)) (fun s => [(1, vL bb bg cb), (3, .pointer (some ⟨b3, 0, none⟩)), (5, .pointer (some ⟨b5, 0, none⟩)), (7, .int .i64 (l : Nat)), (8, .int .i64 (i : Nat)), (9, vOut (o s.1) s.2), (10, .int .i64 ((i : Int) + 1 + (s.1 : Nat)))])
      (fun s => mBst 3 (o s.1) s.2 ++ [⟨b5, e_api_Rat (Q mo), 28⟩, ⟨b3, cRun I b (l + 1) c, 35⟩]) (fun s => l - i - s.1) (0, none) ⟨by simp only; omega, by simp⟩ (by repeat (first | exact sub_nil | refine sub_cons rfl ?_ | refine sub_cons' rfl (by congr 1; omega) ?_)) (by repeat (first | exact List.Sublist.refl _ | exact List.nil_sublist _ | refine List.Sublist.cons_cons _ ?_ | refine List.Sublist.cons _ ?_)) (fun s hs => ?_)
    obtain ⟨q, og⟩ := s
    obtain ⟨hq, hog⟩ := hs
    simp only at hq hog ⊢
    have ek : (i : Int) + 1 + (q : Int) = ((i + 1 + q : Nat) : Int) := by omega
    simp only [ek]
    obtain ⟨k, hk⟩ : ∃ k, k = i + 1 + q := ⟨_, rfl⟩
    simp only [← hk]
    repeat (first | refine sX rfl rfl ?_ | (refine sS rfl rfl ?_ ?_; focus omega) | (refine sC rfl rfl ?_ ?_; focus (first | exact trivial | assumption | exact ⟨by assumption, by assumption⟩ | exact mb2 rfl rfl | exact mb4 rfl rfl rfl rfl)) | refine cX ?_ | refine cY ?_ | (refine sA rfl rfl ?_; intro _) | refine sT rfl ?_ | refine sF rfl ?_ | (refine sR rfl ?_ ?_; focus omega) | (refine sB rfl rfl ?_; intro _) | (refine sN rfl rfl ?_ ?_; (focus (first | exact trivial | assumption | exact ⟨by assumption, by assumption⟩ | exact mb2 rfl rfl | exact mb4 rfl rfl rfl rfl)); intro _; simp only [List.cons_append, List.nil_append]) | refine sW rfl rfl ?_ | refine sK rfl rfl ?_ | refine j_if rfl ?_ | refine j_else rfl ?_ | refine Go.Vt.jq (wl_pickT rfl rfl) rfl rfl ?_ | refine Go.Vt.jq (wl_pickF rfl rfl) rfl rfl ?_)
    refine j_cond rfl (fun h => ?_) (fun h => ?_)
    · have hkl : k ≤ l := by have := of_decide_eq_true h; omega
      repeat (first | refine sX rfl rfl ?_ | (refine sS rfl rfl ?_ ?_; focus omega) | (refine sC rfl rfl ?_ ?_; focus (first | exact trivial | assumption | exact ⟨by assumption, by assumption⟩ | exact mb2 rfl rfl | exact mb4 rfl rfl rfl rfl)) | refine cX ?_ | refine cY ?_ | (refine sA rfl rfl ?_; intro _) | refine sT rfl ?_ | refine sF rfl ?_ | (refine sR rfl ?_ ?_; focus omega) | (refine sB rfl rfl ?_; intro _) | (refine sN rfl rfl ?_ ?_; (focus (first | exact trivial | assumption | exact ⟨by assumption, by assumption⟩ | exact mb2 rfl rfl | exact mb4 rfl rfl rfl rfl)); intro _; simp only [List.cons_append, List.nil_append]) | refine sW rfl rfl ?_ | refine sK rfl rfl ?_ | refine j_if rfl ?_ | refine j_else rfl ?_ | refine Go.Vt.jq (wl_pickT rfl rfl) rfl rfl ?_ | refine Go.Vt.jq (wl_pickF rfl rfl) rfl rfl ?_)
      (refine jD 7 7 mixed (by kernel_rfl) ?_; (repeat (first | refine tX rfl rfl ?_ | (refine tS rfl rfl ?_ ?_; focus omega) | (refine tC rfl rfl ?_ ?_; focus (first | exact ⟨hr, by omega, by omega, by omega⟩ | exact ⟨Nat.le_trans (M_rv hr.2.2.2 _ _ _) (by decide), hmo⟩)) | refine tW rfl rfl ?_ | refine tK rfl rfl ?_ | refine Go.Vt.hq (wl_pickT rfl rfl) rfl rfl ?_ | refine Go.Vt.hq (wl_pickF rfl rfl) rfl rfl ?_)); refine jh_nil ?_; (repeat (refine wn_new ?_; intro _)); refine jn_nil ?_)
      repeat (first | refine sX rfl rfl ?_ | (refine sS rfl rfl ?_ ?_; focus omega) | (refine sC rfl rfl ?_ ?_; focus (first | exact trivial | assumption | exact ⟨by assumption, by assumption⟩ | exact mb2 rfl rfl | exact mb4 rfl rfl rfl rfl)) | refine cX ?_ | refine cY ?_ | (refine sA rfl rfl ?_; intro _) | refine sT rfl ?_ | refine sF rfl ?_ | (refine sR rfl ?_ ?_; focus omega) | (refine sB rfl rfl ?_; intro _) | (refine sN rfl rfl ?_ ?_; (focus (first | exact trivial | assumption | exact ⟨by assumption, by assumption⟩ | exact mb2 rfl rfl | exact mb4 rfl rfl rfl rfl)); intro _; simp only [List.cons_append, List.nil_append]) | refine sW rfl rfl ?_ | refine sK rfl rfl ?_ | refine j_if rfl ?_ | refine j_else rfl ?_ | refine Go.Vt.jq (wl_pickT rfl rfl) rfl rfl ?_ | refine Go.Vt.jq (wl_pickF rfl rfl) rfl rfl ?_)
      simp only [Int.toNat_natCast]
      have hokc : decide (0 < cq (rv pts i k (k - i - 1)) mo) = !okr pts mo i k := by
        unfold okr
        rw [← decide_not, decide_eq_decide, cq_gt]
        exact Rat.not_le.symm
      rw [hokc]
      have hsk := hstep q
      rw [← hk] at hsk
      cases hcase : okr pts mo i k with
      | false =>
        have hq0 : q ≠ 0 := fun h0 => by
          subst h0
          rw [hk, show i + 1 + 0 = i + 1 by omega, okr_next h0] at hcase
          cases hcase
        rw [if_neg (by rw [hcase]; simp)] at hsk
        rw [← hsk]
        repeat (first | refine sX rfl rfl ?_ | (refine sS rfl rfl ?_ ?_; focus omega) | (refine sC rfl rfl ?_ ?_; focus (first | exact trivial | assumption | exact ⟨by assumption, by assumption⟩ | exact mb2 rfl rfl | exact mb4 rfl rfl rfl rfl)) | refine cX ?_ | refine cY ?_ | (refine sA rfl rfl ?_; intro _) | refine sT rfl ?_ | refine sF rfl ?_ | (refine sR rfl ?_ ?_; focus omega) | (refine sB rfl rfl ?_; intro _) | (refine sN rfl rfl ?_ ?_; (focus (first | exact trivial | assumption | exact ⟨by assumption, by assumption⟩ | exact mb2 rfl rfl | exact mb4 rfl rfl rfl rfl)); intro _; simp only [List.cons_append, List.nil_append]) | refine sW rfl rfl ?_ | refine sK rfl rfl ?_ | refine j_if rfl ?_ | refine j_else rfl ?_ | refine Go.Vt.jq (wl_pickT rfl rfl) rfl rfl ?_ | refine Go.Vt.jq (wl_pickF rfl rfl) rfl rfl ?_)
        exact jx_loop (q + 1, og) ⟨by simp only; omega, fun h => absurd (hog.1 h) hq0, fun h => absurd h (by simp only; omega)⟩ (by repeat (first | exact sub_nil | refine sub_cons rfl ?_ | refine sub_cons' rfl (by congr 1; omega) ?_)) (by repeat (first | exact List.Sublist.refl _ | exact List.nil_sublist _ | refine List.Sublist.cons_cons _ ?_ | refine List.Sublist.cons _ ?_)) (by simp only; omega)
      | true =>
        repeat (first | refine sX rfl rfl ?_ | (refine sS rfl rfl ?_ ?_; focus omega) | (refine sC rfl rfl ?_ ?_; focus (first | exact trivial | assumption | exact ⟨by assumption, by assumption⟩ | exact mb2 rfl rfl | exact mb4 rfl rfl rfl rfl)) | refine cX ?_ | refine cY ?_ | (refine sA rfl rfl ?_; intro _) | refine sT rfl ?_ | refine sF rfl ?_ | (refine sR rfl ?_ ?_; focus omega) | (refine sB rfl rfl ?_; intro _) | (refine sN rfl rfl ?_ ?_; (focus (first | exact trivial | assumption | exact ⟨by assumption, by assumption⟩ | exact mb2 rfl rfl | exact mb4 rfl rfl rfl rfl)); intro _; simp only [List.cons_append, List.nil_append]) | refine sW rfl rfl ?_ | refine sK rfl rfl ?_ | refine j_if rfl ?_ | refine j_else rfl ?_ | refine Go.Vt.jq (wl_pickT rfl rfl) rfl rfl ?_ | refine Go.Vt.jq (wl_pickF rfl rfl) rfl rfl ?_)
        have ihI : ∀ (L : List Blk) (bb' cb' : Nat) (spb' : List Value) (Tb' : TypeId) [AtC w L bb' (row (eI .i64) (bg ++ [(k : Int)]) spb') Tb'], SpecR Tryd.prog w L 37 [vRun I b (l + 1) c, vL bb' (bg ++ [(k : Int)]) cb', vQ mo] (SBst (bg ++ [(k : Int)]) (g k)) (fun s => vBst bb' (bg ++ [(k : Int)]) cb' (g k) s.1) (fun s => mBst 3 (g k) s.1) (bg.length + 1 ≤ cb') := fun L bb' cb' spb' Tb' hA => ⟨fun hp w' hw' => by
          have hgk : g k = bst (okr pts mo) l f (bg ++ [(k : Int)]) := by rw [hgd]
          rw [hgk]
          obtain ⟨fz, hf1⟩ := hw
          have hlk := lst_snoc bg k
          refine ih (bg ++ [(k : Int)]) bb' cb' spb' Tb' (by rw [hlk]; omega) (by simp) (by simpa using hp) ⟨by rw [hlk]; exact hkl, by rw [hlk]; simp; omega, ?_⟩ w' ⟨fz, by rw [hw'.ext.block b (lt_of_block hf1)]; exact hf1⟩ (hA.out w' hw')
          have h3 : gi (bg ++ [(k : Int)]) (((bg ++ [(k : Int)]).length : Int) - 1) = (k : Int) := by
            have e : ((((bg ++ [(k : Int)]).length : Nat) : Int) - 1).toNat = bg.length := by rw [List.length_append, List.length_singleton]; omega
            unfold gi
            rw [e, List.getD_eq_getElem?_getD, List.getElem?_append_right (Nat.le_refl _), Nat.sub_self]
            rfl
          rw [h3]
          omega⟩
        refine j_cut (S := Nat × Nat × List Value) (fun _ => True) (fun s => [(11, vL s.1 (g k) s.2.1), (1, vL bb bg cb), (3, .pointer (some ⟨b3, 0, none⟩)), (5, .pointer (some ⟨b5, 0, none⟩)), (7, .int .i64 (l : Nat)), (8, .int .i64 (i : Nat)), (9, vOut (o q) og), (10, .int .i64 (k : Nat))])
          (fun s => ⟨s.1, row (eI .i64) (g k) s.2.2, 3⟩ :: (mBst 3 (o q) og ++ [⟨b5, e_api_Rat (Q mo), 28⟩, ⟨b3, cRun I b (l + 1) c, 35⟩])) ?_ (fun s _ => ?_)
        · (refine j_late [0, 1, 2, 3, 4, 5, 6, 7, 10] [8, 9, 11, 12] ([⟨b5, e_api_Rat (Q mo), 28⟩, ⟨b3, cRun I b (l + 1) c, 35⟩]) mixed (by kernel_rfl) (by decide) sbl ?_; simp only [picks, List.getElem?_cons_succ, List.getElem?_cons_zero])
          repeat (first | refine tX rfl rfl ?_ | (refine tS rfl rfl ?_ ?_; focus omega) | (refine tC rfl rfl ?_ ?_; focus (first | exact trivial | assumption | exact ⟨by assumption, by assumption⟩ | exact mb2 rfl rfl | exact mb4 rfl rfl rfl rfl)) | refine tW rfl rfl ?_ | refine tK rfl rfl ?_ | refine Go.Vt.hq (wl_pickT rfl rfl) rfl rfl ?_ | refine Go.Vt.hq (wl_pickF rfl rfl) rfl rfl ?_)
          refine jh_nil ?_
          refine eB rfl rfl ?_
          intro bz
          refine eQ rfl rfl ?_ rfl ?_ ?_
          · rfl
          · exact ⟨by omega, by omega, by omega⟩
          intro bA cA spA h1 h2
          rw [show bg.length + 1 = (bg ++ [(k : Int)]).length by simp]
          refine eN rfl rfl h1 ?_
          intro sx
          obtain ⟨x, hx⟩ := sx
          refine eS rfl rfl ?_
          refine je_nil ?_
          rcases x with _ | ⟨bx, cx, spx⟩
          · have hgk := hx rfl
            simp only [vBst, mBst, List.nil_append]
            rw [← hgk]
            exact jx_mid (bA, cA, spA) trivial (by repeat (first | exact sub_nil | refine sub_cons rfl ?_ | refine sub_cons' rfl (by congr 1; omega) ?_)) (by repeat (first | exact List.Sublist.refl _ | exact List.nil_sublist _ | refine List.Sublist.cons_cons _ ?_ | refine List.Sublist.cons _ ?_))
          · simp only [vBst, mBst, List.nil_append, List.cons_append]
            exact jx_mid (bx, cx, spx) trivial (by repeat (first | exact sub_nil | refine sub_cons rfl ?_ | refine sub_cons' rfl (by congr 1; omega) ?_)) (by repeat (first | exact List.Sublist.refl _ | exact List.nil_sublist _ | refine List.Sublist.cons_cons _ ?_ | refine List.Sublist.cons _ ?_))
        · obtain ⟨bx, cx, spx⟩ := s
          simp only
          rcases og with _ | ⟨bo, co, spo⟩
          · have hq0 : q = 0 := hog.1 rfl
            have ho0 : o q = [] := by rw [hq0, ho]; rfl
            rw [if_pos ⟨hcase, .inl ho0⟩] at hsk
            simp only [vOut, mBst, List.nil_append]
            rw [← hsk]
            repeat (first | refine sX rfl rfl ?_ | (refine sS rfl rfl ?_ ?_; focus omega) | (refine sC rfl rfl ?_ ?_; focus (first | exact trivial | assumption | exact ⟨by assumption, by assumption⟩ | exact mb2 rfl rfl | exact mb4 rfl rfl rfl rfl)) | refine cX ?_ | refine cY ?_ | (refine sA rfl rfl ?_; intro _) | refine sT rfl ?_ | refine sF rfl ?_ | (refine sR rfl ?_ ?_; focus omega) | (refine sB rfl rfl ?_; intro _) | (refine sN rfl rfl ?_ ?_; (focus (first | exact trivial | assumption | exact ⟨by assumption, by assumption⟩ | exact mb2 rfl rfl | exact mb4 rfl rfl rfl rfl)); intro _; simp only [List.cons_append, List.nil_append]) | refine sW rfl rfl ?_ | refine sK rfl rfl ?_ | refine j_if rfl ?_ | refine j_else rfl ?_ | refine Go.Vt.jq (wl_pickT rfl rfl) rfl rfl ?_ | refine Go.Vt.jq (wl_pickF rfl rfl) rfl rfl ?_)
            exact jx_loop (q + 1, some (bx, cx, spx)) ⟨by simp only; omega, by simp⟩ (by repeat (first | exact sub_nil | refine sub_cons rfl ?_ | refine sub_cons' rfl (by congr 1; omega) ?_)) (by repeat (first | exact List.Sublist.refl _ | exact List.nil_sublist _ | refine List.Sublist.cons_cons _ ?_ | refine List.Sublist.cons _ ?_)) (by simp only; omega)
          · have hq1 : q ≠ 0 := fun h0 => by
              have := hog.2 h0
              cases this
            have hon := hone q (by omega) (by omega)
            have hol : ¬ ((o q).length : Int) = 0 := fun h0 => hon (List.length_eq_zero_iff.1 (by omega))
            simp only [vOut, mBst, List.cons_append, List.nil_append]
            repeat (first | refine sX rfl rfl ?_ | (refine sS rfl rfl ?_ ?_; focus omega) | (refine sC rfl rfl ?_ ?_; focus (first | exact trivial | assumption | exact ⟨by assumption, by assumption⟩ | exact mb2 rfl rfl | exact mb4 rfl rfl rfl rfl)) | refine cX ?_ | refine cY ?_ | (refine sA rfl rfl ?_; intro _) | refine sT rfl ?_ | refine sF rfl ?_ | (refine sR rfl ?_ ?_; focus omega) | (refine sB rfl rfl ?_; intro _) | (refine sN rfl rfl ?_ ?_; (focus (first | exact trivial | assumption | exact ⟨by assumption, by assumption⟩ | exact mb2 rfl rfl | exact mb4 rfl rfl rfl rfl)); intro _; simp only [List.cons_append, List.nil_append]) | refine sW rfl rfl ?_ | refine sK rfl rfl ?_ | refine j_if rfl ?_ | refine j_else rfl ?_ | refine Go.Vt.jq (wl_pickT rfl rfl) rfl rfl ?_ | refine Go.Vt.jq (wl_pickF rfl rfl) rfl rfl ?_)
            simp only [decide_eq_false hol]
            repeat (first | refine sX rfl rfl ?_ | (refine sS rfl rfl ?_ ?_; focus omega) | (refine sC rfl rfl ?_ ?_; focus (first | exact trivial | omega)) | refine cX ?_ | refine cY ?_ | (refine sA rfl rfl ?_; intro _) | refine sT rfl ?_ | refine sF rfl ?_ | (refine sR rfl ?_ ?_; focus omega) | (refine sB rfl rfl ?_; intro _) | (refine sN rfl rfl ?_ ?_; (focus (first | exact trivial | omega)); intro _; simp only [List.cons_append, List.nil_append]) | refine sW rfl rfl ?_ | refine sK rfl rfl ?_ | refine j_if rfl ?_ | refine j_else rfl ?_ | refine Go.Vt.jq (wl_pickT rfl rfl) rfl rfl ?_ | refine Go.Vt.jq (wl_pickF rfl rfl) rfl rfl ?_)
            have hgl : (g k).length ≤ 1099511627776 := by
              rw [hgd]
              have := bst_len (ok := okr pts mo) (l := l) f (bg ++ [(k : Int)]) (by rw [lst_snoc]; simp; omega) (by rw [lst_snoc]; exact hkl)
              simp only
              omega
            repeat (first | refine sX rfl rfl ?_ | (refine sS rfl rfl ?_ ?_; focus omega) | (refine sC rfl rfl ?_ ?_; focus (first | exact trivial | assumption | exact ⟨by assumption, by assumption⟩ | exact mb2 rfl rfl | exact mb4 rfl rfl rfl rfl)) | refine cX ?_ | refine cY ?_ | (refine sA rfl rfl ?_; intro _) | refine sT rfl ?_ | refine sF rfl ?_ | (refine sR rfl ?_ ?_; focus omega) | (refine sB rfl rfl ?_; intro _) | (refine sN rfl rfl ?_ ?_; (focus (first | exact trivial | assumption | exact ⟨by assumption, by assumption⟩ | exact mb2 rfl rfl | exact mb4 rfl rfl rfl rfl)); intro _; simp only [List.cons_append, List.nil_append]) | refine sW rfl rfl ?_ | refine sK rfl rfl ?_ | refine j_if rfl ?_ | refine j_else rfl ?_ | refine Go.Vt.jq (wl_pickT rfl rfl) rfl rfl ?_ | refine Go.Vt.jq (wl_pickF rfl rfl) rfl rfl ?_)
            refine j_cond rfl (fun h => ?_) (fun h => ?_)
            · rw [if_pos ⟨hcase, .inr h⟩] at hsk
              rw [← hsk]
              repeat (first | refine sX rfl rfl ?_ | (refine sS rfl rfl ?_ ?_; focus omega) | (refine sC rfl rfl ?_ ?_; focus (first | exact trivial | assumption | exact ⟨by assumption, by assumption⟩ | exact mb2 rfl rfl | exact mb4 rfl rfl rfl rfl)) | refine cX ?_ | refine cY ?_ | (refine sA rfl rfl ?_; intro _) | refine sT rfl ?_ | refine sF rfl ?_ | (refine sR rfl ?_ ?_; focus omega) | (refine sB rfl rfl ?_; intro _) | (refine sN rfl rfl ?_ ?_; (focus (first | exact trivial | assumption | exact ⟨by assumption, by assumption⟩ | exact mb2 rfl rfl | exact mb4 rfl rfl rfl rfl)); intro _; simp only [List.cons_append, List.nil_append]) | refine sW rfl rfl ?_ | refine sK rfl rfl ?_ | refine j_if rfl ?_ | refine j_else rfl ?_ | refine Go.Vt.jq (wl_pickT rfl rfl) rfl rfl ?_ | refine Go.Vt.jq (wl_pickF rfl rfl) rfl rfl ?_)
              exact jx_loop (q + 1, some (bx, cx, spx)) ⟨by simp only; omega, by simp⟩ (by repeat (first | exact sub_nil | refine sub_cons rfl ?_ | refine sub_cons' rfl (by congr 1; omega) ?_)) (by repeat (first | exact List.Sublist.refl _ | exact List.nil_sublist _ | refine List.Sublist.cons_cons _ ?_ | refine List.Sublist.cons _ ?_)) (by simp only; omega)
            · rw [if_neg (fun h1 => h1.2.elim hon (fun h2 => by rw [h] at h2; cases h2))] at hsk
              rw [← hsk]
              repeat (first | refine sX rfl rfl ?_ | (refine sS rfl rfl ?_ ?_; focus omega) | (refine sC rfl rfl ?_ ?_; focus (first | exact trivial | assumption | exact ⟨by assumption, by assumption⟩ | exact mb2 rfl rfl | exact mb4 rfl rfl rfl rfl)) | refine cX ?_ | refine cY ?_ | (refine sA rfl rfl ?_; intro _) | refine sT rfl ?_ | refine sF rfl ?_ | (refine sR rfl ?_ ?_; focus omega) | (refine sB rfl rfl ?_; intro _) | (refine sN rfl rfl ?_ ?_; (focus (first | exact trivial | assumption | exact ⟨by assumption, by assumption⟩ | exact mb2 rfl rfl | exact mb4 rfl rfl rfl rfl)); intro _; simp only [List.cons_append, List.nil_append]) | refine sW rfl rfl ?_ | refine sK rfl rfl ?_ | refine j_if rfl ?_ | refine j_else rfl ?_ | refine Go.Vt.jq (wl_pickT rfl rfl) rfl rfl ?_ | refine Go.Vt.jq (wl_pickF rfl rfl) rfl rfl ?_)
              exact jx_loop (q + 1, some (bo, co, spo)) ⟨by simp only; omega, by simp⟩ (by repeat (first | exact sub_nil | refine sub_cons rfl ?_ | refine sub_cons' rfl (by congr 1; omega) ?_)) (by repeat (first | exact List.Sublist.refl _ | exact List.nil_sublist _ | refine List.Sublist.cons_cons _ ?_ | refine List.Sublist.cons _ ?_)) (by simp only; omega)
    · have hqe : q = l - i := by have := of_decide_eq_false h; omega
      subst hqe
      rcases og with _ | ⟨bo, co, spo⟩
      · have := hog.1 rfl
        omega
      · simp only [vOut, mBst, List.cons_append, List.nil_append]
        repeat (first | refine sX rfl rfl ?_ | (refine sS rfl rfl ?_ ?_; focus omega) | (refine sC rfl rfl ?_ ?_; focus (first | exact trivial | assumption | exact ⟨by assumption, by assumption⟩ | exact mb2 rfl rfl | exact mb4 rfl rfl rfl rfl)) | refine cX ?_ | refine cY ?_ | (refine sA rfl rfl ?_; intro _) | refine sT rfl ?_ | refine sF rfl ?_ | (refine sR rfl ?_ ?_; focus omega) | (refine sB rfl rfl ?_; intro _) | (refine sN rfl rfl ?_ ?_; (focus (first | exact trivial | assumption | exact ⟨by assumption, by assumption⟩ | exact mb2 rfl rfl | exact mb4 rfl rfl rfl rfl)); intro _; simp only [List.cons_append, List.nil_append]) | refine sW rfl rfl ?_ | refine sK rfl rfl ?_ | refine j_if rfl ?_ | refine j_else rfl ?_ | refine Go.Vt.jq (wl_pickT rfl rfl) rfl rfl ?_ | refine Go.Vt.jq (wl_pickF rfl rfl) rfl rfl ?_)
        refine jx_ret_tmp rfl rfl (fun w hw => ⟨⟨some (bo, co, spo), fun h => by cases h⟩, rfl, hw.sub ?_⟩)
        exact (by repeat (first | exact List.Sublist.refl _ | exact List.nil_sublist _ | refine List.Sublist.cons_cons _ ?_ | refine List.Sublist.cons _ ?_))
end Go.Vt
