/- The best kept breakpoints: the program's table. Conditions: the lengths that each statement names. -/
import Derived.Test.YtgcjapcminakdaaDoorRef
set_option linter.unusedSimpArgs false
set_option linter.unusedVariables false
set_option maxRecDepth 100000
namespace Go.Vt
open Go.RowKit Go.Proofs

/-- The samples of a run in memory: how many, how short. -/
def RunOk (pts : List R_movingpoint_Sample) (n c : Nat) : Prop := pts.length = n ∧ n ≤ c ∧ n ≤ 1099511627776 ∧ Bnd pts
/-- Is the straight way from 'i' to 'k' enough? -/
def okd (pts : List R_movingpoint_Sample) (mo : Rat) (i k : Nat) : Bool := decide (dv pts i k (k - i - 1) ≤ mo)
abbrev rS := r_movingpoint_Sample
abbrev cRun (r : R_api_Interval) (b n c : Nat) : Array Value := e_simplify_Run (q_simplify_Run ⟨r, ⟨some ⟨b, 0, none⟩, n, c⟩⟩)
theorem enough1_spec (I : R_api_Interval) (b n c i j b1 b2 : Nat) (mo : Rat) (pts : List R_movingpoint_Sample) (sp : List Value) (T T1 T2 : TypeId) (hr : RunOk pts n c) (hmo : M mo ≤ LQ) (hij : i < j) (hj : j < n) (w : World) (hw : ∃ fz, w.heap[b]? = some (.cells (row rS pts sp) T fz)) (hw1 : ∃ fz, w.heap[b1]? = some (.cells (cRun I b n c) T1 fz)) (hw2 : ∃ fz, w.heap[b2]? = some (.cells (e_api_Rat (Q mo)) T2 fz)) :
    Calls Tryd.prog 50 [.int .i64 i, .int .i64 j, .pointer (some ⟨b1, 0, none⟩), .pointer (some ⟨b2, 0, none⟩)].toArray w (Ret (.bool (okd pts mo i j)) w) := by
  have := FoC.mk hw
  have := FoC.mk hw1
  have := FoC.mk hw2
  have h1 := M_dv hr.2.2.2 i j (j - i - 1)
  refine fn_intro Tryd.func50 rfl Tryd.ntmps50 rfl ?_
  repeat (first | refine sX rfl rfl ?_ | (refine sS rfl rfl ?_ ?_; focus omega) | (refine sC rfl rfl ?_ ?_; focus (first | exact trivial | assumption | exact ⟨by assumption, by assumption⟩ | exact mb2 rfl rfl | exact mb4 rfl rfl rfl rfl)) | refine cX ?_ | refine cY ?_ | (refine sA rfl rfl ?_; intro _) | refine sT rfl ?_ | refine sF rfl ?_ | (refine sR rfl ?_ ?_; focus omega) | (refine sB rfl rfl ?_; intro _) | (refine sN rfl rfl ?_ ?_; (focus (first | exact trivial | assumption | exact ⟨by assumption, by assumption⟩ | exact mb2 rfl rfl | exact mb4 rfl rfl rfl rfl)); intro _; simp only [List.cons_append, List.nil_append]) | refine sW rfl rfl ?_ | refine sK rfl rfl ?_ | refine j_if rfl ?_ | refine j_else rfl ?_ | refine Go.Vt.jq (wl_pickT rfl rfl) rfl rfl ?_ | refine Go.Vt.jq (wl_pickF rfl rfl) rfl rfl ?_)
  (refine jD 7 7 mixed (by kernel_rfl) ?_; (repeat (first | refine tX rfl rfl ?_ | (refine tS rfl rfl ?_ ?_; focus omega) | (refine tC rfl rfl ?_ ?_; focus (first | exact ⟨hr, by omega, by omega, by omega⟩ | exact ⟨Nat.le_trans h1 (by decide), hmo⟩)) | refine tW rfl rfl ?_ | refine tK rfl rfl ?_ | refine Go.Vt.hq (wl_pickT rfl rfl) rfl rfl ?_ | refine Go.Vt.hq (wl_pickF rfl rfl) rfl rfl ?_)); refine jh_nil ?_; (repeat (refine wn_new ?_; intro _)); refine jn_nil ?_)
  repeat (first | refine sX rfl rfl ?_ | (refine sS rfl rfl ?_ ?_; focus omega) | (refine sC rfl rfl ?_ ?_; focus (first | exact trivial | assumption | exact ⟨by assumption, by assumption⟩ | exact mb2 rfl rfl | exact mb4 rfl rfl rfl rfl)) | refine cX ?_ | refine cY ?_ | (refine sA rfl rfl ?_; intro _) | refine sT rfl ?_ | refine sF rfl ?_ | (refine sR rfl ?_ ?_; focus omega) | (refine sB rfl rfl ?_; intro _) | (refine sN rfl rfl ?_ ?_; (focus (first | exact trivial | assumption | exact ⟨by assumption, by assumption⟩ | exact mb2 rfl rfl | exact mb4 rfl rfl rfl rfl)); intro _; simp only [List.cons_append, List.nil_append]) | refine sW rfl rfl ?_ | refine sK rfl rfl ?_ | refine j_if rfl ?_ | refine j_else rfl ?_ | refine Go.Vt.jq (wl_pickT rfl rfl) rfl rfl ?_ | refine Go.Vt.jq (wl_pickF rfl rfl) rfl rfl ?_)
  simp only [Int.toNat_natCast]
  rw [show decide (cq (dv pts i j (j - i - 1)) mo ≤ 0) = okd pts mo i j by unfold okd; rw [decide_eq_decide]; exact cq_le]
  exact jx_ret_tmp rfl rfl (fun w hw => ret_ok hw)
instance sm_enough1 (w0 : World) (L : List Blk) (I : R_api_Interval) (b n c b1 b2 : Nat) (i j : Int) (mo : Rat) (pts : List R_movingpoint_Sample) (sp : List Value) (T T1 T2 : TypeId) [h1 : AtC w0 L b1 (cRun I b n c) T1] [h2 : AtC w0 L b2 (e_api_Rat (Q mo)) T2] [h : AtC w0 L b (row rS pts sp) T] : SpecM Tryd.prog w0 L 50 [.int .i64 i, .int .i64 j, .pointer (some ⟨b1, 0, none⟩), .pointer (some ⟨b2, 0, none⟩)] (.bool (okd pts mo i.toNat j.toNat)) (RunOk pts n c ∧ M mo ≤ LQ ∧ 0 ≤ i ∧ i < j ∧ j < n) := ⟨fun hp w hw => by
  obtain ⟨g1, g2, g3, g4, g5⟩ := hp
  have := enough1_spec I b n c i.toNat j.toNat b1 b2 mo pts sp T T1 T2 g1 g2 (by omega) (by omega) w (h.out w hw) (h1.out w hw) (h2.out w hw)
  rw [show ((i.toNat : Nat) : Int) = i by omega, show ((j.toNat : Nat) : Int) = j by omega] at this
  exact this⟩
instance sr_enough (w0 : World) (L : List Blk) (I : R_api_Interval) (b n c : Nat) (d : Rat) : SpecR Tryd.prog w0 L 35 [vRun I b n c, vQ d] (Nat × Nat) (fun s => .func (.func 50) #[] #[.pointer (some ⟨s.1, 0, none⟩), .pointer (some ⟨s.2, 0, none⟩)]) (fun s => [⟨s.2, e_api_Rat (Q (d * d)), 28⟩, ⟨s.1, cRun I b n c, 35⟩]) (M d ≤ LQ) := ⟨fun hp w _ => by
  refine fn_intro Tryd.func35 rfl Tryd.ntmps35 rfl ?_
  repeat (first | refine sX rfl rfl ?_ | (refine sS rfl rfl ?_ ?_; focus omega) | (refine sC rfl rfl ?_ ?_; focus (first | exact trivial | assumption | exact ⟨by assumption, by assumption⟩ | exact mb2 rfl rfl | exact mb4 rfl rfl rfl rfl)) | refine cX ?_ | refine cY ?_ | (refine sA rfl rfl ?_; intro _) | refine sT rfl ?_ | refine sF rfl ?_ | (refine sR rfl ?_ ?_; focus omega) | (refine sB rfl rfl ?_; intro _) | (refine sN rfl rfl ?_ ?_; (focus (first | exact trivial | assumption | exact ⟨by assumption, by assumption⟩ | exact mb2 rfl rfl | exact mb4 rfl rfl rfl rfl)); intro _; simp only [List.cons_append, List.nil_append]) | refine sW rfl rfl ?_ | refine sK rfl rfl ?_ | refine j_if rfl ?_ | refine j_else rfl ?_ | refine Go.Vt.jq (wl_pickT rfl rfl) rfl rfl ?_ | refine Go.Vt.jq (wl_pickF rfl rfl) rfl rfl ?_)
  rename_i b1 b2 b3
  exact jx_ret_tmp rfl rfl (fun w hw => ⟨(b1, b3), rfl, hw.sub sbl⟩)⟩

/-! ### The table, in plain mathematics -/
theorem gi_set {xs : List Int} {i j : Nat} {z : Int} (hi : i < xs.length) : gi (xs.set i z) (j : Int) = if i = j then z else gi xs (j : Int) := by
  unfold gi
  simp only [Int.toNat_natCast, List.getD_eq_getElem?_getD, List.getElem?_set]
  split
  · simp [hi]
  · rfl
/-- One test: from 'i' by 'k'. -/
def stp (ok : Nat → Nat → Bool) (i k : Nat) (s : List Int × List Int) : List Int × List Int := if (gi s.1 (i : Int) = 0 ∨ gi s.2 (k : Int) + 1 ≤ gi s.2 (i : Int)) ∧ ok i k = true then (s.1.set i (k : Int), s.2.set i (gi s.2 (k : Int) + 1)) else s
/-- All tests from 'i', the last one first. -/
def inn (ok : Nat → Nat → Bool) (l i : Nat) : Nat → List Int × List Int → List Int × List Int
  | 0, s => s
  | q + 1, s => stp ok i (l - q) (inn ok l i q s)
/-- The last 'm' places. -/
def ou (ok : Nat → Nat → Bool) (l : Nat) : Nat → List Int × List Int
  | 0 => (List.replicate (l + 1) 0, List.replicate (l + 1) 0)
  | m + 1 => inn ok l (l - 1 - m) (m + 1) (ou ok l m)
structure WF (l : Nat) (s : List Int × List Int) : Prop where
  l1 : s.1.length = l + 1
  l2 : s.2.length = l + 1
  b2 : ∀ j : Nat, j ≤ l → 0 ≤ gi s.2 (j : Int) ∧ gi s.2 (j : Int) ≤ (l : Int) - j
  b1 : ∀ j : Nat, j ≤ l → gi s.1 (j : Int) = 0 ∨ ((j : Int) < gi s.1 (j : Int) ∧ gi s.1 (j : Int) ≤ l)
variable {ok : Nat → Nat → Bool} {l i k : Nat} {s : List Int × List Int}
theorem WF.stp (h : WF l s) (hik : i < k) (hk : k ≤ l) : WF l (Go.Vt.stp ok i k s) := by
  unfold Go.Vt.stp
  split
  · have hk2 := h.b2 k hk
    refine ⟨by simpa using h.l1, by simpa using h.l2, fun j hj => ?_, fun j hj => ?_⟩
    · rw [gi_set (by rw [h.l2]; omega)]
      split
      · omega
      · exact h.b2 j hj
    · rw [gi_set (by rw [h.l1]; omega)]
      split
      · omega
      · exact h.b1 j hj
  · exact h
theorem WF.inn (h : WF l s) (hi : i < l) : ∀ q, q ≤ l - i → WF l (Go.Vt.inn ok l i q s)
  | 0, _ => h
  | q + 1, hq => (WF.inn h hi q (by omega)).stp (by omega) (by omega)
theorem gi_rep (m j : Nat) : gi (List.replicate m (0 : Int)) (j : Int) = 0 := by
  unfold gi
  simp only [Int.toNat_natCast, List.getD_eq_getElem?_getD, List.getElem?_replicate]
  split <;> rfl
theorem WF.ou : ∀ m, m ≤ l → WF l (Go.Vt.ou ok l m)
  | 0, _ => ⟨by simp [Go.Vt.ou], by simp [Go.Vt.ou], fun j hj => by simp only [Go.Vt.ou, gi_rep]; omega, fun j hj => by simp only [Go.Vt.ou, gi_rep]; exact .inl trivial⟩
  | m + 1, hm => (WF.ou m (by omega)).inn (by omega) _ (by omega)
/-- Elsewhere nothing turns. -/
theorem stp_other {j : Nat} (h : WF l s) (hi : i ≤ l) (hij : i ≠ j) : gi (stp ok i k s).1 (j : Int) = gi s.1 (j : Int) ∧ gi (stp ok i k s).2 (j : Int) = gi s.2 (j : Int) := by
  unfold stp
  split
  · simp only [gi_set (show i < s.1.length by rw [h.l1]; omega), gi_set (show i < s.2.length by rw [h.l2]; omega), if_neg hij]
    exact ⟨trivial, trivial⟩
  · exact ⟨rfl, rfl⟩
theorem inn_other {j : Nat} (h : WF l s) (hi : i < l) (hij : i ≠ j) : ∀ q, q ≤ l - i → gi (inn ok l i q s).1 (j : Int) = gi s.1 (j : Int) ∧ gi (inn ok l i q s).2 (j : Int) = gi s.2 (j : Int)
  | 0, _ => ⟨rfl, rfl⟩
  | q + 1, hq => by
    have h1 := inn_other h hi hij q (by omega)
    have h2 := stp_other (ok := ok) (k := l - q) (h.inn (ok := ok) hi q (by omega)) (by omega) hij
    exact ⟨h2.1.trans h1.1, h2.2.trans h1.2⟩
theorem stp_set (h : WF l s) (hi : i ≤ l) (hk : k ≠ 0) (hok : ok i k = true) : gi (stp ok i k s).1 (i : Int) ≠ 0 := by
  unfold stp
  split
  · rw [gi_set (by rw [h.l1]; omega), if_pos rfl]
    omega
  · rename_i hn
    intro h0
    exact hn ⟨.inl h0, hok⟩
theorem ou_next (hok : ∀ i, i < l → ok i (i + 1) = true) : ∀ m, m ≤ l → ∀ j : Nat, j < l → l - m ≤ j → (j : Int) < gi (ou ok l m).1 (j : Int) ∧ gi (ou ok l m).1 (j : Int) ≤ l
  | 0, _, j, h1, h2 => by omega
  | m + 1, hm, j, h1, h2 => by
    have hw := WF.ou (ok := ok) m (show m ≤ l by omega)
    have hi : l - 1 - m < l := by omega
    by_cases hj : l - 1 - m = j
    · have hb := (WF.ou (ok := ok) (m + 1) hm).b1 j (by omega)
      have hne : gi (ou ok l (m + 1)).1 (j : Int) ≠ 0 := by
        rw [← hj, ou, inn]
        refine stp_set (hw.inn hi m (by omega)) (by omega) (by omega) ?_
        have := hok (l - 1 - m) hi
        rwa [show l - m = l - 1 - m + 1 by omega]
      exact hb.resolve_left hne
    · have h3 := ou_next hok m (by omega) j h1 (by omega)
      have h4 := inn_other (ok := ok) hw hi hj (m + 1) (by omega)
      rw [ou, h4.1]
      exact h3
/-- The way along the table. -/
def chn (nx : List Int) (l : Nat) : Nat → Int → List Int
  | 0, _ => []
  | f + 1, i => if i < l then gi nx i :: chn nx l f (gi nx i) else []
def keptL (ok : Nat → Nat → Bool) (l : Nat) : List Int := 0 :: chn (ou ok l l).1 l l 0
theorem okd_next {pts : List R_movingpoint_Sample} {d : Rat} (i : Nat) : okd pts (d * d) i (i + 1) = true := by
  unfold okd
  rw [show i + 1 - i - 1 = 0 by omega]
  refine decide_eq_true ?_
  have : 0 ≤ d * d := by
    rcases Rat.le_total (a := 0) (b := d) with h | h
    · exact Rat.mul_nonneg h h
    · have h2 : 0 ≤ -d := by grind
      have := Rat.mul_nonneg h2 h2
      grind
  exact this
theorem sign_nonneg {q : Rat} (h : 0 ≤ q) : ¬ q.num.sign < 0 := by
  intro h1
  have h2 := Int.sign_neg_iff.1 h1
  have h3 := Rat.num_nonneg.2 h
  omega
theorem sign_neg {q : Rat} (h : q < 0) : q.num.sign < 0 := by
  refine Int.sign_neg_iff.2 ?_
  have h3 : ¬ 0 ≤ q.num := fun h1 => by
    have := Rat.num_nonneg.1 h1
    grind
  omega
theorem kept_spec (I : R_api_Interval) (b l c : Nat) (d : Rat) (pts : List R_movingpoint_Sample) (sp : List Value) (T : TypeId) (hr : RunOk pts (l + 1) c) (hl : l ≤ 1048576) (hd : M d ≤ 1073741824) (hd0 : 0 ≤ d) (w : World) (hw : ∃ fz, w.heap[b]? = some (.cells (row rS pts sp) T fz)) :
    Calls Tryd.prog 9 [vRun I b (l + 1) c, vQ d].toArray w (RetM { s : Nat × Nat × List Value // (keptL (okd pts (d * d)) l).length ≤ s.2.1 } (fun s => .tuple #[vL s.1.1 (keptL (okd pts (d * d)) l) s.1.2.1, .int .i64 0]) (fun s => [⟨s.1.1, row (eI .i64) (keptL (okd pts (d * d)) l) s.1.2.2, 3⟩]) w) := by
  have := FoC.mk hw
  have hdd : M (d * d) ≤ LQ := Nat.le_trans (M_mul d d) (by have : LQ = 274877906944 := rfl; omega)
  have hd' : M d ≤ LQ := Nat.le_trans hd (by decide)
  refine fn_intro Tryd.func9 rfl Tryd.ntmps9 rfl ?_
  repeat (first | refine sX rfl rfl ?_ | (refine sS rfl rfl ?_ ?_; focus omega) | (refine sC rfl rfl ?_ ?_; focus (first | exact trivial | assumption | exact ⟨by assumption, by assumption⟩ | exact mb2 rfl rfl | exact mb4 rfl rfl rfl rfl)) | refine cX ?_ | refine cY ?_ | (refine sA rfl rfl ?_; intro _) | refine sT rfl ?_ | refine sF rfl ?_ | (refine sR rfl ?_ ?_; focus omega) | (refine sB rfl rfl ?_; intro _) | (refine sN rfl rfl ?_ ?_; (focus (first | exact trivial | assumption | exact ⟨by assumption, by assumption⟩ | exact mb2 rfl rfl | exact mb4 rfl rfl rfl rfl)); intro _; simp only [List.cons_append, List.nil_append]) | refine sW rfl rfl ?_ | refine sK rfl rfl ?_ | refine j_if rfl ?_ | refine j_else rfl ?_ | refine Go.Vt.jq (wl_pickT rfl rfl) rfl rfl ?_ | refine Go.Vt.jq (wl_pickF rfl rfl) rfl rfl ?_)
  refine j_else (by rw [decide_eq_false (sign_nonneg hd0)]; rfl) ?_
  repeat (first | refine sX rfl rfl ?_ | (refine sS rfl rfl ?_ ?_; focus omega) | (refine sC rfl rfl ?_ ?_; focus (first | exact trivial | assumption | exact ⟨by assumption, by assumption⟩ | exact mb2 rfl rfl | exact mb4 rfl rfl rfl rfl)) | refine cX ?_ | refine cY ?_ | (refine sA rfl rfl ?_; intro _) | refine sT rfl ?_ | refine sF rfl ?_ | (refine sR rfl ?_ ?_; focus omega) | (refine sB rfl rfl ?_; intro _) | (refine sN rfl rfl ?_ ?_; (focus (first | exact trivial | assumption | exact ⟨by assumption, by assumption⟩ | exact mb2 rfl rfl | exact mb4 rfl rfl rfl rfl)); intro _; simp only [List.cons_append, List.nil_append]) | refine sW rfl rfl ?_ | refine sK rfl rfl ?_ | refine j_if rfl ?_ | refine j_else rfl ?_ | refine Go.Vt.jq (wl_pickT rfl rfl) rfl rfl ?_ | refine Go.Vt.jq (wl_pickF rfl rfl) rfl rfl ?_)
  rename_i b2 b3 q
  obtain ⟨b1, bm⟩ := q
  have e1 : ((l + 1 : Nat) : Int) - 1 = (l : Int) := by omega
  have e2 : (l : Int) + 1 = ((l + 1 : Nat) : Int) := by omega
  simp only [e1, e2]
  refine sM rfl rfl ⟨by omega, by omega⟩ ?_
  intro bn
  repeat (first | refine sX rfl rfl ?_ | (refine sS rfl rfl ?_ ?_; focus omega) | (refine sC rfl rfl ?_ ?_; focus (first | exact trivial | assumption | exact ⟨by assumption, by assumption⟩ | exact mb2 rfl rfl | exact mb4 rfl rfl rfl rfl)) | refine cX ?_ | refine cY ?_ | (refine sA rfl rfl ?_; intro _) | refine sT rfl ?_ | refine sF rfl ?_ | (refine sR rfl ?_ ?_; focus omega) | (refine sB rfl rfl ?_; intro _) | (refine sN rfl rfl ?_ ?_; (focus (first | exact trivial | assumption | exact ⟨by assumption, by assumption⟩ | exact mb2 rfl rfl | exact mb4 rfl rfl rfl rfl)); intro _; simp only [List.cons_append, List.nil_append]) | refine sW rfl rfl ?_ | refine sK rfl rfl ?_ | refine j_if rfl ?_ | refine j_else rfl ?_ | refine Go.Vt.jq (wl_pickT rfl rfl) rfl rfl ?_ | refine Go.Vt.jq (wl_pickF rfl rfl) rfl rfl ?_)
  simp only [e2]
  refine sM rfl rfl ⟨by omega, by omega⟩ ?_
  intro bl
  repeat (first | refine sX rfl rfl ?_ | (refine sS rfl rfl ?_ ?_; focus omega) | (refine sC rfl rfl ?_ ?_; focus (first | exact trivial | assumption | exact ⟨by assumption, by assumption⟩ | exact mb2 rfl rfl | exact mb4 rfl rfl rfl rfl)) | refine cX ?_ | refine cY ?_ | (refine sA rfl rfl ?_; intro _) | refine sT rfl ?_ | refine sF rfl ?_ | (refine sR rfl ?_ ?_; focus omega) | (refine sB rfl rfl ?_; intro _) | (refine sN rfl rfl ?_ ?_; (focus (first | exact trivial | assumption | exact ⟨by assumption, by assumption⟩ | exact mb2 rfl rfl | exact mb4 rfl rfl rfl rfl)); intro _; simp only [List.cons_append, List.nil_append]) | refine sW rfl rfl ?_ | refine sK rfl rfl ?_ | refine j_if rfl ?_ | refine j_else rfl ?_ | refine Go.Vt.jq (wl_pickT rfl rfl) rfl rfl ?_ | refine Go.Vt.jq (wl_pickF rfl rfl) rfl rfl ?_)
  generalize hok : okd pts (d * d) = ok at *
  refine j_loop (S := Nat) (fun m => m ≤ l) (fun m => [(5, .int .i64 0), (6, .func (.func 50) #[] #[.pointer (some ⟨b1, 0, none⟩), .pointer (some ⟨bm, 0, none⟩)]), (7, .int .i64 (l : Nat)), (8, .slice (some ⟨bn, 0, none⟩) (l + 1) (l + 1)), (9, .slice (some ⟨bl, 0, none⟩) (l + 1) (l + 1)), (10, .int .i64 ((l : Int) - 1 - (m : Nat)))])
    (fun m => [⟨bl, row (eI .i64) (ou ok l m).2 [], 3⟩, ⟨bn, row (eI .i64) (ou ok l m).1 [], 3⟩, ⟨bm, e_api_Rat (Q (d * d)), 28⟩, ⟨b1, cRun I b (l + 1) c, 35⟩]) (fun m => l - m) 0 (Nat.zero_le _)
    (by repeat (first | exact sub_nil | refine sub_cons rfl ?_ | refine sub_cons' rfl (by congr 1; omega) ?_)) (by repeat (first | exact List.Sublist.refl _ | exact List.nil_sublist _ | refine List.Sublist.cons_cons _ ?_ | refine List.Sublist.cons _ ?_)) (fun m hm => ?_)
  have hwf := WF.ou (ok := ok) (l := l) m hm
  repeat (first | refine sX rfl rfl ?_ | (refine sS rfl rfl ?_ ?_; focus omega) | (refine sC rfl rfl ?_ ?_; focus (first | exact trivial | assumption | exact ⟨by assumption, by assumption⟩ | exact mb2 rfl rfl | exact mb4 rfl rfl rfl rfl)) | refine cX ?_ | refine cY ?_ | (refine sA rfl rfl ?_; intro _) | refine sT rfl ?_ | refine sF rfl ?_ | (refine sR rfl ?_ ?_; focus omega) | (refine sB rfl rfl ?_; intro _) | (refine sN rfl rfl ?_ ?_; (focus (first | exact trivial | assumption | exact ⟨by assumption, by assumption⟩ | exact mb2 rfl rfl | exact mb4 rfl rfl rfl rfl)); intro _; simp only [List.cons_append, List.nil_append]) | refine sW rfl rfl ?_ | refine sK rfl rfl ?_ | refine j_if rfl ?_ | refine j_else rfl ?_ | refine Go.Vt.jq (wl_pickT rfl rfl) rfl rfl ?_ | refine Go.Vt.jq (wl_pickF rfl rfl) rfl rfl ?_)
  refine j_cond rfl (fun h => ?_) (fun h => ?_)
  · have hlt : m < l := by have := of_decide_eq_true h; omega
    obtain ⟨i, hi⟩ : ∃ i, i = l - 1 - m := ⟨_, rfl⟩
    have hil : i < l := by omega
    have ei : (l : Int) - 1 - (m : Int) = (i : Int) := by omega
    simp only [ei]
    repeat (first | refine sX rfl rfl ?_ | (refine sS rfl rfl ?_ ?_; focus omega) | (refine sC rfl rfl ?_ ?_; focus (first | exact trivial | assumption | exact ⟨by assumption, by assumption⟩ | exact mb2 rfl rfl | exact mb4 rfl rfl rfl rfl)) | refine cX ?_ | refine cY ?_ | (refine sA rfl rfl ?_; intro _) | refine sT rfl ?_ | refine sF rfl ?_ | (refine sR rfl ?_ ?_; focus omega) | (refine sB rfl rfl ?_; intro _) | (refine sN rfl rfl ?_ ?_; (focus (first | exact trivial | assumption | exact ⟨by assumption, by assumption⟩ | exact mb2 rfl rfl | exact mb4 rfl rfl rfl rfl)); intro _; simp only [List.cons_append, List.nil_append]) | refine sW rfl rfl ?_ | refine sK rfl rfl ?_ | refine j_if rfl ?_ | refine j_else rfl ?_ | refine Go.Vt.jq (wl_pickT rfl rfl) rfl rfl ?_ | refine Go.Vt.jq (wl_pickF rfl rfl) rfl rfl ?_)
    refine j_loop (S := Nat) (fun q => q ≤ l - i) (fun q => [(5, .int .i64 0), (6, .func (.func 50) #[] #[.pointer (some ⟨b1, 0, none⟩), .pointer (some ⟨bm, 0, none⟩)]), (7, .int .i64 (l : Nat)), (8, .slice (some ⟨bn, 0, none⟩) (l + 1) (l + 1)), (9, .slice (some ⟨bl, 0, none⟩) (l + 1) (l + 1)), (10, .int .i64 (i : Nat)), (11, .int .i64 ((l : Int) - (q : Nat)))])
      (fun q => [⟨bl, row (eI .i64) (inn ok l i q (ou ok l m)).2 [], 3⟩, ⟨bn, row (eI .i64) (inn ok l i q (ou ok l m)).1 [], 3⟩, ⟨bm, e_api_Rat (Q (d * d)), 28⟩, ⟨b1, cRun I b (l + 1) c, 35⟩]) (fun q => l - i - q) 0 (Nat.zero_le _)
      (by repeat (first | exact sub_nil | refine sub_cons rfl ?_ | refine sub_cons' rfl (by congr 1; omega) ?_)) (by repeat (first | exact List.Sublist.refl _ | exact List.nil_sublist _ | refine List.Sublist.cons_cons _ ?_ | refine List.Sublist.cons _ ?_)) (fun q hq => ?_)
    have hwq := hwf.inn (ok := ok) hil q hq
    obtain ⟨s, hs⟩ : ∃ s, s = inn ok l i q (ou ok l m) := ⟨_, rfl⟩
    have hsn : inn ok l i (q + 1) (ou ok l m) = stp ok i (l - q) s := by rw [inn, ← hs]
    simp only [← hs] at hwq ⊢
    repeat (first | refine sX rfl rfl ?_ | (refine sS rfl rfl ?_ ?_; focus omega) | (refine sC rfl rfl ?_ ?_; focus (first | exact trivial | assumption | exact ⟨by assumption, by assumption⟩ | exact mb2 rfl rfl | exact mb4 rfl rfl rfl rfl)) | refine cX ?_ | refine cY ?_ | (refine sA rfl rfl ?_; intro _) | refine sT rfl ?_ | refine sF rfl ?_ | (refine sR rfl ?_ ?_; focus omega) | (refine sB rfl rfl ?_; intro _) | (refine sN rfl rfl ?_ ?_; (focus (first | exact trivial | assumption | exact ⟨by assumption, by assumption⟩ | exact mb2 rfl rfl | exact mb4 rfl rfl rfl rfl)); intro _; simp only [List.cons_append, List.nil_append]) | refine sW rfl rfl ?_ | refine sK rfl rfl ?_ | refine j_if rfl ?_ | refine j_else rfl ?_ | refine Go.Vt.jq (wl_pickT rfl rfl) rfl rfl ?_ | refine Go.Vt.jq (wl_pickF rfl rfl) rfl rfl ?_)
    refine j_cond rfl (fun h => ?_) (fun h => ?_)
    · obtain ⟨k, hk⟩ : ∃ k, k = l - q := ⟨_, rfl⟩
      have hik : i < k := by have := of_decide_eq_true h; omega
      have hkl : k ≤ l := by omega
      have ek : (l : Int) - (q : Int) = (k : Int) := by omega
      rw [← hk] at hsn
      obtain ⟨w1, w2, w3, w4⟩ := hwq
      have b2i := w3 i (by omega)
      have b2k := w3 k hkl
      simp only [ek]
      repeat (first | refine sX rfl rfl ?_ | (refine sS rfl rfl ?_ ?_; focus omega) | (refine sC rfl rfl ?_ ?_; focus (first | exact trivial | assumption | exact ⟨by assumption, by assumption⟩ | exact mb2 rfl rfl | exact mb4 rfl rfl rfl rfl)) | refine cX ?_ | refine cY ?_ | (refine sA rfl rfl ?_; intro _) | refine sT rfl ?_ | refine sF rfl ?_ | (refine sR rfl ?_ ?_; focus omega) | (refine sB rfl rfl ?_; intro _) | (refine sN rfl rfl ?_ ?_; (focus (first | exact trivial | assumption | exact ⟨by assumption, by assumption⟩ | exact mb2 rfl rfl | exact mb4 rfl rfl rfl rfl)); intro _; simp only [List.cons_append, List.nil_append]) | refine sW rfl rfl ?_ | refine sK rfl rfl ?_ | refine j_if rfl ?_ | refine j_else rfl ?_ | refine Go.Vt.jq (wl_pickT rfl rfl) rfl rfl ?_ | refine Go.Vt.jq (wl_pickF rfl rfl) rfl rfl ?_)
      have hcall : RunOk pts (l + 1) c ∧ M (d * d) ≤ LQ ∧ (0 : Int) ≤ (i : Int) ∧ (i : Int) < (k : Int) ∧ (k : Int) < ((l + 1 : Nat) : Int) := ⟨hr, hdd, by omega, by omega, by omega⟩
      have yes : ok i k = true → (gi s.1 (i : Int) = 0 ∨ gi s.2 (k : Int) + 1 ≤ gi s.2 (i : Int)) → stp ok i k s = (s.1.set i (k : Int), s.2.set i (gi s.2 (k : Int) + 1)) := fun h1 h2 => by unfold stp; rw [if_pos ⟨h2, h1⟩]
      have no : ¬ ((gi s.1 (i : Int) = 0 ∨ gi s.2 (k : Int) + 1 ≤ gi s.2 (i : Int)) ∧ ok i k = true) → stp ok i k s = s := fun h1 => by unfold stp; rw [if_neg h1]
      refine j_cut (S := Bool) (fun v => v = decide ((gi s.1 (i : Int) = 0 ∨ gi s.2 (k : Int) + 1 ≤ gi s.2 (i : Int)) ∧ ok i k = true)) (fun v => [(64, .bool v), (5, .int .i64 0), (6, .func (.func 50) #[] #[.pointer (some ⟨b1, 0, none⟩), .pointer (some ⟨bm, 0, none⟩)]), (7, .int .i64 (l : Nat)), (8, .slice (some ⟨bn, 0, none⟩) (l + 1) (l + 1)), (9, .slice (some ⟨bl, 0, none⟩) (l + 1) (l + 1)), (10, .int .i64 (i : Nat)), (11, .int .i64 (k : Nat))])
        (fun _ => [⟨bl, row (eI .i64) s.2 [], 3⟩, ⟨bn, row (eI .i64) s.1 [], 3⟩, ⟨bm, e_api_Rat (Q (d * d)), 28⟩, ⟨b1, cRun I b (l + 1) c, 35⟩]) ?_ (fun v hv => ?_)
      · by_cases h0 : gi s.1 (i : Int) = 0
        · refine jD 23 23 mixed (by kernel_rfl) ?_
          repeat (first | refine tX rfl rfl ?_ | (refine tS rfl rfl ?_ ?_; focus omega) | (refine tC rfl rfl ?_ ?_; focus (first | exact trivial | assumption | exact ⟨by assumption, by assumption⟩ | exact mb2 rfl rfl | exact mb4 rfl rfl rfl rfl)) | refine tW rfl rfl ?_ | refine tK rfl rfl ?_ | refine Go.Vt.hq (wl_pickT rfl rfl) rfl rfl ?_ | refine Go.Vt.hq (wl_pickF rfl rfl) rfl rfl ?_)
          simp only [decide_eq_true h0]
          repeat (first | refine tX rfl rfl ?_ | (refine tS rfl rfl ?_ ?_; focus omega) | (refine tC rfl rfl ?_ ?_; focus (exact hcall)) | refine tW rfl rfl ?_ | refine tK rfl rfl ?_ | refine Go.Vt.hq (wl_pickT rfl rfl) rfl rfl ?_ | refine Go.Vt.hq (wl_pickF rfl rfl) rfl rfl ?_)
          refine jh_nil ?_
          refine jn_nil ?_
          repeat (first | refine sX rfl rfl ?_ | (refine sS rfl rfl ?_ ?_; focus omega) | (refine sC rfl rfl ?_ ?_; focus (first | exact trivial | assumption | exact ⟨by assumption, by assumption⟩ | exact mb2 rfl rfl | exact mb4 rfl rfl rfl rfl)) | refine cX ?_ | refine cY ?_ | (refine sA rfl rfl ?_; intro _) | refine sT rfl ?_ | refine sF rfl ?_ | (refine sR rfl ?_ ?_; focus omega) | (refine sB rfl rfl ?_; intro _) | (refine sN rfl rfl ?_ ?_; (focus (first | exact trivial | assumption | exact ⟨by assumption, by assumption⟩ | exact mb2 rfl rfl | exact mb4 rfl rfl rfl rfl)); intro _; simp only [List.cons_append, List.nil_append]) | refine sW rfl rfl ?_ | refine sK rfl rfl ?_ | refine j_if rfl ?_ | refine j_else rfl ?_ | refine Go.Vt.jq (wl_pickT rfl rfl) rfl rfl ?_ | refine Go.Vt.jq (wl_pickF rfl rfl) rfl rfl ?_)
          simp only [Int.toNat_natCast, hok]
          exact jx_mid (ok i k) (by simp [h0]) (by repeat (first | exact sub_nil | refine sub_cons rfl ?_ | refine sub_cons' rfl (by congr 1; omega) ?_)) sbl
        · by_cases h1 : gi s.2 (k : Int) + 1 ≤ gi s.2 (i : Int)
          · refine jD 23 23 mixed (by kernel_rfl) ?_
            repeat (first | refine tX rfl rfl ?_ | (refine tS rfl rfl ?_ ?_; focus omega) | (refine tC rfl rfl ?_ ?_; focus (first | exact trivial | assumption | exact ⟨by assumption, by assumption⟩ | exact mb2 rfl rfl | exact mb4 rfl rfl rfl rfl)) | refine tW rfl rfl ?_ | refine tK rfl rfl ?_ | refine Go.Vt.hq (wl_pickT rfl rfl) rfl rfl ?_ | refine Go.Vt.hq (wl_pickF rfl rfl) rfl rfl ?_)
            simp only [decide_eq_false h0]
            repeat (first | refine tX rfl rfl ?_ | (refine tS rfl rfl ?_ ?_; focus omega) | (refine tC rfl rfl ?_ ?_; focus (first | exact trivial | assumption | exact ⟨by assumption, by assumption⟩ | exact mb2 rfl rfl | exact mb4 rfl rfl rfl rfl)) | refine tW rfl rfl ?_ | refine tK rfl rfl ?_ | refine Go.Vt.hq (wl_pickT rfl rfl) rfl rfl ?_ | refine Go.Vt.hq (wl_pickF rfl rfl) rfl rfl ?_)
            simp only [decide_eq_true h1]
            repeat (first | refine tX rfl rfl ?_ | (refine tS rfl rfl ?_ ?_; focus omega) | (refine tC rfl rfl ?_ ?_; focus (exact hcall)) | refine tW rfl rfl ?_ | refine tK rfl rfl ?_ | refine Go.Vt.hq (wl_pickT rfl rfl) rfl rfl ?_ | refine Go.Vt.hq (wl_pickF rfl rfl) rfl rfl ?_)
            refine jh_nil ?_
            refine jn_nil ?_
            repeat (first | refine sX rfl rfl ?_ | (refine sS rfl rfl ?_ ?_; focus omega) | (refine sC rfl rfl ?_ ?_; focus (first | exact trivial | assumption | exact ⟨by assumption, by assumption⟩ | exact mb2 rfl rfl | exact mb4 rfl rfl rfl rfl)) | refine cX ?_ | refine cY ?_ | (refine sA rfl rfl ?_; intro _) | refine sT rfl ?_ | refine sF rfl ?_ | (refine sR rfl ?_ ?_; focus omega) | (refine sB rfl rfl ?_; intro _) | (refine sN rfl rfl ?_ ?_; (focus (first | exact trivial | assumption | exact ⟨by assumption, by assumption⟩ | exact mb2 rfl rfl | exact mb4 rfl rfl rfl rfl)); intro _; simp only [List.cons_append, List.nil_append]) | refine sW rfl rfl ?_ | refine sK rfl rfl ?_ | refine j_if rfl ?_ | refine j_else rfl ?_ | refine Go.Vt.jq (wl_pickT rfl rfl) rfl rfl ?_ | refine Go.Vt.jq (wl_pickF rfl rfl) rfl rfl ?_)
            simp only [Int.toNat_natCast, hok]
            exact jx_mid (ok i k) (by simp [h1]) (by repeat (first | exact sub_nil | refine sub_cons rfl ?_ | refine sub_cons' rfl (by congr 1; omega) ?_)) sbl
          · refine jD 23 23 mixed (by kernel_rfl) ?_
            repeat (first | refine tX rfl rfl ?_ | (refine tS rfl rfl ?_ ?_; focus omega) | (refine tC rfl rfl ?_ ?_; focus (first | exact trivial | assumption | exact ⟨by assumption, by assumption⟩ | exact mb2 rfl rfl | exact mb4 rfl rfl rfl rfl)) | refine tW rfl rfl ?_ | refine tK rfl rfl ?_ | refine Go.Vt.hq (wl_pickT rfl rfl) rfl rfl ?_ | refine Go.Vt.hq (wl_pickF rfl rfl) rfl rfl ?_)
            simp only [decide_eq_false h0]
            repeat (first | refine tX rfl rfl ?_ | (refine tS rfl rfl ?_ ?_; focus omega) | (refine tC rfl rfl ?_ ?_; focus (first | exact trivial | assumption | exact ⟨by assumption, by assumption⟩ | exact mb2 rfl rfl | exact mb4 rfl rfl rfl rfl)) | refine tW rfl rfl ?_ | refine tK rfl rfl ?_ | refine Go.Vt.hq (wl_pickT rfl rfl) rfl rfl ?_ | refine Go.Vt.hq (wl_pickF rfl rfl) rfl rfl ?_)
            simp only [decide_eq_false h1]
            repeat (first | refine tX rfl rfl ?_ | (refine tS rfl rfl ?_ ?_; focus omega) | (refine tC rfl rfl ?_ ?_; focus (exact hcall)) | refine tW rfl rfl ?_ | refine tK rfl rfl ?_ | refine Go.Vt.hq (wl_pickT rfl rfl) rfl rfl ?_ | refine Go.Vt.hq (wl_pickF rfl rfl) rfl rfl ?_)
            refine jh_nil ?_
            refine jn_nil ?_
            repeat (first | refine sX rfl rfl ?_ | (refine sS rfl rfl ?_ ?_; focus omega) | (refine sC rfl rfl ?_ ?_; focus (first | exact trivial | assumption | exact ⟨by assumption, by assumption⟩ | exact mb2 rfl rfl | exact mb4 rfl rfl rfl rfl)) | refine cX ?_ | refine cY ?_ | (refine sA rfl rfl ?_; intro _) | refine sT rfl ?_ | refine sF rfl ?_ | (refine sR rfl ?_ ?_; focus omega) | (refine sB rfl rfl ?_; intro _) | (refine sN rfl rfl ?_ ?_; (focus (first | exact trivial | assumption | exact ⟨by assumption, by assumption⟩ | exact mb2 rfl rfl | exact mb4 rfl rfl rfl rfl)); intro _; simp only [List.cons_append, List.nil_append]) | refine sW rfl rfl ?_ | refine sK rfl rfl ?_ | refine j_if rfl ?_ | refine j_else rfl ?_ | refine Go.Vt.jq (wl_pickT rfl rfl) rfl rfl ?_ | refine Go.Vt.jq (wl_pickF rfl rfl) rfl rfl ?_)
            exact jx_mid false (by simp [h0, h1]) (by repeat (first | exact sub_nil | refine sub_cons rfl ?_ | refine sub_cons' rfl (by congr 1; omega) ?_)) sbl
      · have hst : stp ok i k s = if v = true then (s.1.set i (k : Int), s.2.set i (gi s.2 (k : Int) + 1)) else s := by
          rw [hv]
          by_cases hc : (gi s.1 (i : Int) = 0 ∨ gi s.2 (k : Int) + 1 ≤ gi s.2 (i : Int)) ∧ ok i k = true
          · rw [yes hc.2 hc.1, decide_eq_true hc, if_pos rfl]
          · rw [no hc, decide_eq_false hc, if_neg (by simp)]
        refine j_cond rfl (fun h => ?_) (fun h => ?_)
        · rw [h, if_pos rfl] at hst
          repeat (first | refine sX rfl rfl ?_ | (refine sS rfl rfl ?_ ?_; focus omega) | (refine sC rfl rfl ?_ ?_; focus (first | exact trivial | assumption | exact ⟨by assumption, by assumption⟩ | exact mb2 rfl rfl | exact mb4 rfl rfl rfl rfl)) | refine cX ?_ | refine cY ?_ | (refine sA rfl rfl ?_; intro _) | refine sT rfl ?_ | refine sF rfl ?_ | (refine sR rfl ?_ ?_; focus omega) | (refine sB rfl rfl ?_; intro _) | (refine sN rfl rfl ?_ ?_; (focus (first | exact trivial | assumption | exact ⟨by assumption, by assumption⟩ | exact mb2 rfl rfl | exact mb4 rfl rfl rfl rfl)); intro _; simp only [List.cons_append, List.nil_append]) | refine sW rfl rfl ?_ | refine sK rfl rfl ?_ | refine j_if rfl ?_ | refine j_else rfl ?_ | refine Go.Vt.jq (wl_pickT rfl rfl) rfl rfl ?_ | refine Go.Vt.jq (wl_pickF rfl rfl) rfl rfl ?_)
          exact jx_loop (q + 1) (by omega) (by repeat (first | exact sub_nil | refine sub_cons rfl ?_ | refine sub_cons' rfl (by congr 1; omega) ?_)) (by simp only [Int.toNat_natCast]; rw [hsn, hst]; exact sbl) (by omega)
        · rw [h, if_neg (by simp)] at hst
          repeat (first | refine sX rfl rfl ?_ | (refine sS rfl rfl ?_ ?_; focus omega) | (refine sC rfl rfl ?_ ?_; focus (first | exact trivial | assumption | exact ⟨by assumption, by assumption⟩ | exact mb2 rfl rfl | exact mb4 rfl rfl rfl rfl)) | refine cX ?_ | refine cY ?_ | (refine sA rfl rfl ?_; intro _) | refine sT rfl ?_ | refine sF rfl ?_ | (refine sR rfl ?_ ?_; focus omega) | (refine sB rfl rfl ?_; intro _) | (refine sN rfl rfl ?_ ?_; (focus (first | exact trivial | assumption | exact ⟨by assumption, by assumption⟩ | exact mb2 rfl rfl | exact mb4 rfl rfl rfl rfl)); intro _; simp only [List.cons_append, List.nil_append]) | refine sW rfl rfl ?_ | refine sK rfl rfl ?_ | refine j_if rfl ?_ | refine j_else rfl ?_ | refine Go.Vt.jq (wl_pickT rfl rfl) rfl rfl ?_ | refine Go.Vt.jq (wl_pickF rfl rfl) rfl rfl ?_)
          exact jx_loop (q + 1) (by omega) (by repeat (first | exact sub_nil | refine sub_cons rfl ?_ | refine sub_cons' rfl (by congr 1; omega) ?_)) (by rw [hsn, hst]; exact sbl) (by omega)
    · have hqe : q = m + 1 := by have := of_decide_eq_false h; omega
      rw [hqe, hi, ← ou] at hs
      subst hs
      repeat (first | refine sX rfl rfl ?_ | (refine sS rfl rfl ?_ ?_; focus omega) | (refine sC rfl rfl ?_ ?_; focus (first | exact trivial | assumption | exact ⟨by assumption, by assumption⟩ | exact mb2 rfl rfl | exact mb4 rfl rfl rfl rfl)) | refine cX ?_ | refine cY ?_ | (refine sA rfl rfl ?_; intro _) | refine sT rfl ?_ | refine sF rfl ?_ | (refine sR rfl ?_ ?_; focus omega) | (refine sB rfl rfl ?_; intro _) | (refine sN rfl rfl ?_ ?_; (focus (first | exact trivial | assumption | exact ⟨by assumption, by assumption⟩ | exact mb2 rfl rfl | exact mb4 rfl rfl rfl rfl)); intro _; simp only [List.cons_append, List.nil_append]) | refine sW rfl rfl ?_ | refine sK rfl rfl ?_ | refine j_if rfl ?_ | refine j_else rfl ?_ | refine Go.Vt.jq (wl_pickT rfl rfl) rfl rfl ?_ | refine Go.Vt.jq (wl_pickF rfl rfl) rfl rfl ?_)
      exact jx_loop (m + 1) hlt (by repeat (first | exact sub_nil | refine sub_cons rfl ?_ | refine sub_cons' rfl (by congr 1; omega) ?_)) sbl (by omega)
  · have hme : m = l := by have := of_decide_eq_false h; omega
    rw [hme] at hwf
    obtain ⟨w1, w2, w3, w4⟩ := hwf
    have hnx := ou_next (ok := ok) (l := l) (fun i _ => by rw [← hok]; exact okd_next i) l (Nat.le_refl _)
    obtain ⟨nx, hnxe⟩ : ∃ nx, nx = (ou ok l l).1 := ⟨_, rfl⟩
    have hkl : keptL ok l = 0 :: chn nx l l 0 := by rw [hnxe]; rfl
    rw [hme]
    simp only [← hnxe] at w1 hnx ⊢
    repeat (first | refine sX rfl rfl ?_ | (refine sS rfl rfl ?_ ?_; focus omega) | (refine sC rfl rfl ?_ ?_; focus (first | exact trivial | assumption | exact ⟨by assumption, by assumption⟩ | exact mb2 rfl rfl | exact mb4 rfl rfl rfl rfl)) | refine cX ?_ | refine cY ?_ | (refine sA rfl rfl ?_; intro _) | refine sT rfl ?_ | refine sF rfl ?_ | (refine sR rfl ?_ ?_; focus omega) | (refine sB rfl rfl ?_; intro _) | (refine sN rfl rfl ?_ ?_; (focus (first | exact trivial | assumption | exact ⟨by assumption, by assumption⟩ | exact mb2 rfl rfl | exact mb4 rfl rfl rfl rfl)); intro _; simp only [List.cons_append, List.nil_append]) | refine sW rfl rfl ?_ | refine sK rfl rfl ?_ | refine j_if rfl ?_ | refine j_else rfl ?_ | refine Go.Vt.jq (wl_pickT rfl rfl) rfl rfl ?_ | refine Go.Vt.jq (wl_pickF rfl rfl) rfl rfl ?_)
    rename_i bo
    refine j_loop (S := Nat × List Int × Nat × Nat × List Value) (fun s => s.1 ≤ l ∧ (∃ f, l - s.1 ≤ f ∧ s.2.1 ++ chn nx l f (s.1 : Int) = keptL ok l) ∧ s.2.1.length ≤ s.1 + 1 ∧ s.2.1.length ≤ s.2.2.2.1 ∧ s.2.2.2.2.length = (s.2.2.2.1 - s.2.1.length) * 1)
      (fun s => [(5, .int .i64 0), (7, .int .i64 (l : Nat)), (8, .slice (some ⟨bn, 0, none⟩) (l + 1) (l + 1)), (12, vL s.2.2.1 s.2.1 s.2.2.2.1), (13, .int .i64 (s.1 : Nat))]) (fun s => [⟨s.2.2.1, row (eI .i64) s.2.1 s.2.2.2.2, 3⟩, ⟨bn, row (eI .i64) nx [], 3⟩]) (fun s => l - s.1) (0, [0], bo, 1, [])
      ⟨Nat.zero_le _, ⟨l, Nat.le_refl _, hkl.symm⟩, Nat.le_refl _, Nat.le_refl _, rfl⟩ (by repeat (first | exact sub_nil | refine sub_cons rfl ?_ | refine sub_cons' rfl (by congr 1; omega) ?_)) (by repeat (first | exact List.Sublist.refl _ | exact List.nil_sublist _ | refine List.Sublist.cons_cons _ ?_ | refine List.Sublist.cons _ ?_)) (fun s hs => ?_)
    obtain ⟨i, acc, bo, co, so⟩ := s
    obtain ⟨hil, ⟨f, hf, hch⟩, ha1, ha2, ha3⟩ := hs
    simp only at hil hf hch ha1 ha2 ha3 ⊢
    repeat (first | refine sX rfl rfl ?_ | (refine sS rfl rfl ?_ ?_; focus omega) | (refine sC rfl rfl ?_ ?_; focus (first | exact trivial | assumption | exact ⟨by assumption, by assumption⟩ | exact mb2 rfl rfl | exact mb4 rfl rfl rfl rfl)) | refine cX ?_ | refine cY ?_ | (refine sA rfl rfl ?_; intro _) | refine sT rfl ?_ | refine sF rfl ?_ | (refine sR rfl ?_ ?_; focus omega) | (refine sB rfl rfl ?_; intro _) | (refine sN rfl rfl ?_ ?_; (focus (first | exact trivial | assumption | exact ⟨by assumption, by assumption⟩ | exact mb2 rfl rfl | exact mb4 rfl rfl rfl rfl)); intro _; simp only [List.cons_append, List.nil_append]) | refine sW rfl rfl ?_ | refine sK rfl rfl ?_ | refine j_if rfl ?_ | refine j_else rfl ?_ | refine Go.Vt.jq (wl_pickT rfl rfl) rfl rfl ?_ | refine Go.Vt.jq (wl_pickF rfl rfl) rfl rfl ?_)
    refine j_cond rfl (fun h => ?_) (fun h => ?_)
    · have hlt : i < l := by have := of_decide_eq_true h; omega
      obtain ⟨g1, g2⟩ := hnx i hlt (by omega)
      obtain ⟨z, hz⟩ : ∃ z : Nat, gi nx (i : Int) = (z : Int) := ⟨(gi nx (i : Int)).toNat, by omega⟩
      repeat (first | refine sX rfl rfl ?_ | (refine sS rfl rfl ?_ ?_; focus omega) | (refine sC rfl rfl ?_ ?_; focus (first | exact trivial | assumption | exact ⟨by assumption, by assumption⟩ | exact mb2 rfl rfl | exact mb4 rfl rfl rfl rfl)) | refine cX ?_ | refine cY ?_ | (refine sA rfl rfl ?_; intro _) | refine sT rfl ?_ | refine sF rfl ?_ | (refine sR rfl ?_ ?_; focus omega) | (refine sB rfl rfl ?_; intro _) | (refine sN rfl rfl ?_ ?_; (focus (first | exact trivial | assumption | exact ⟨by assumption, by assumption⟩ | exact mb2 rfl rfl | exact mb4 rfl rfl rfl rfl)); intro _; simp only [List.cons_append, List.nil_append]) | refine sW rfl rfl ?_ | refine sK rfl rfl ?_ | refine j_if rfl ?_ | refine j_else rfl ?_ | refine Go.Vt.jq (wl_pickT rfl rfl) rfl rfl ?_ | refine Go.Vt.jq (wl_pickF rfl rfl) rfl rfl ?_)
      simp only [hz]
      repeat (first | refine sX rfl rfl ?_ | (refine sS rfl rfl ?_ ?_; focus omega) | (refine sC rfl rfl ?_ ?_; focus (first | exact trivial | assumption | exact ⟨by assumption, by assumption⟩ | exact mb2 rfl rfl | exact mb4 rfl rfl rfl rfl)) | refine cX ?_ | refine cY ?_ | (refine sA rfl rfl ?_; intro _) | refine sT rfl ?_ | refine sF rfl ?_ | (refine sR rfl ?_ ?_; focus omega) | (refine sB rfl rfl ?_; intro _) | (refine sN rfl rfl ?_ ?_; (focus (first | exact trivial | assumption | exact ⟨by assumption, by assumption⟩ | exact mb2 rfl rfl | exact mb4 rfl rfl rfl rfl)); intro _; simp only [List.cons_append, List.nil_append]) | refine sW rfl rfl ?_ | refine sK rfl rfl ?_ | refine j_if rfl ?_ | refine j_else rfl ?_ | refine Go.Vt.jq (wl_pickT rfl rfl) rfl rfl ?_ | refine Go.Vt.jq (wl_pickF rfl rfl) rfl rfl ?_)
      rename_i bz
      refine sP rfl rfl ?_ ⟨ha2, ha3⟩ rfl ?_ ?_
      · rfl
      · exact ⟨by omega, by omega⟩
      intro b' c' sp' h1 h2
      rw [show acc.length + 1 = (acc ++ [(z : Int)]).length by simp] at h1 h2 ⊢
      repeat (first | refine sX rfl rfl ?_ | (refine sS rfl rfl ?_ ?_; focus omega) | (refine sC rfl rfl ?_ ?_; focus (first | exact trivial | assumption | exact ⟨by assumption, by assumption⟩ | exact mb2 rfl rfl | exact mb4 rfl rfl rfl rfl)) | refine cX ?_ | refine cY ?_ | (refine sA rfl rfl ?_; intro _) | refine sT rfl ?_ | refine sF rfl ?_ | (refine sR rfl ?_ ?_; focus omega) | (refine sB rfl rfl ?_; intro _) | (refine sN rfl rfl ?_ ?_; (focus (first | exact trivial | assumption | exact ⟨by assumption, by assumption⟩ | exact mb2 rfl rfl | exact mb4 rfl rfl rfl rfl)); intro _; simp only [List.cons_append, List.nil_append]) | refine sW rfl rfl ?_ | refine sK rfl rfl ?_ | refine j_if rfl ?_ | refine j_else rfl ?_ | refine Go.Vt.jq (wl_pickT rfl rfl) rfl rfl ?_ | refine Go.Vt.jq (wl_pickF rfl rfl) rfl rfl ?_)
      refine jx_loop (z, acc ++ [(z : Int)], b', c', sp') ⟨by simp only; omega, ?_, by simp only [List.length_append, List.length_singleton]; omega, h1, h2⟩ (by repeat (first | exact sub_nil | refine sub_cons rfl ?_ | refine sub_cons' rfl (by congr 1; omega) ?_)) (by repeat (first | exact List.Sublist.refl _ | exact List.nil_sublist _ | refine List.Sublist.cons_cons _ ?_ | refine List.Sublist.cons _ ?_)) (by simp only; omega)
      obtain ⟨f', rfl⟩ : ∃ f', f = f' + 1 := ⟨f - 1, by omega⟩
      refine ⟨f', by simp only; omega, ?_⟩
      rw [chn, if_pos (by omega), hz] at hch
      simp only
      rw [← hch, List.append_assoc]
      rfl
    · have hge : i = l := by have := of_decide_eq_false h; omega
      subst hge
      have hnil : chn nx i f (i : Int) = [] := by
        cases f with
        | zero => rfl
        | succ f => rw [chn, if_neg (by omega)]
      rw [hnil, List.append_nil] at hch
      subst hch
      repeat (first | refine sX rfl rfl ?_ | (refine sS rfl rfl ?_ ?_; focus omega) | (refine sC rfl rfl ?_ ?_; focus (first | exact trivial | assumption | exact ⟨by assumption, by assumption⟩ | exact mb2 rfl rfl | exact mb4 rfl rfl rfl rfl)) | refine cX ?_ | refine cY ?_ | (refine sA rfl rfl ?_; intro _) | refine sT rfl ?_ | refine sF rfl ?_ | (refine sR rfl ?_ ?_; focus omega) | (refine sB rfl rfl ?_; intro _) | (refine sN rfl rfl ?_ ?_; (focus (first | exact trivial | assumption | exact ⟨by assumption, by assumption⟩ | exact mb2 rfl rfl | exact mb4 rfl rfl rfl rfl)); intro _; simp only [List.cons_append, List.nil_append]) | refine sW rfl rfl ?_ | refine sK rfl rfl ?_ | refine j_if rfl ?_ | refine j_else rfl ?_ | refine Go.Vt.jq (wl_pickT rfl rfl) rfl rfl ?_ | refine Go.Vt.jq (wl_pickF rfl rfl) rfl rfl ?_)
      exact jx_ret_two rfl (resv_tmp rfl) (resv_tmp rfl) (fun w hw => ⟨⟨(bo, co, so), ha2⟩, rfl, hw.sub sbl⟩)
abbrev SL3 (xs : List Int) := { s : Nat × Nat × List Value // xs.length ≤ s.2.1 }
instance sr_Kept (w0 : World) (L : List Blk) (I : R_api_Interval) (b n c : Nat) (d : Rat) (pts : List R_movingpoint_Sample) (sp : List Value) (T : TypeId) [h : AtC w0 L b (row rS pts sp) T] : SpecR Tryd.prog w0 L 9 [vRun I b n c, vQ d] (SL3 (keptL (okd pts (d * d)) (n - 1))) (fun s => .tuple #[vL s.1.1 (keptL (okd pts (d * d)) (n - 1)) s.1.2.1, .int .i64 0]) (fun s => [⟨s.1.1, row (eI .i64) (keptL (okd pts (d * d)) (n - 1)) s.1.2.2, 3⟩]) (RunOk pts n c ∧ (1 ≤ n ∧ n ≤ 1048576) ∧ M d ≤ 1073741824 ∧ 0 ≤ d) := ⟨fun hp w hw => by
  obtain ⟨g1, ⟨g2, g3⟩, g4, g5⟩ := hp
  obtain ⟨l, rfl⟩ : ∃ l, n = l + 1 := ⟨n - 1, by omega⟩
  exact kept_spec I b l c d pts sp T g1 (by omega) g4 g5 w (h.out w hw)⟩
instance sm_KeptNeg (I : R_api_Interval) (b n c : Nat) (d : Rat) : SpecC Tryd.prog 9 [vRun I b n c, vQ d] (.tuple #[.slice none 0 0, .int .i64 2]) (d < 0) := ⟨fun hp w => by
  refine fn_intro Tryd.func9 rfl Tryd.ntmps9 rfl ?_
  repeat (first | refine sX rfl rfl ?_ | (refine sS rfl rfl ?_ ?_; focus omega) | (refine sC rfl rfl ?_ ?_; focus (first | exact trivial | assumption | exact ⟨by assumption, by assumption⟩ | exact mb2 rfl rfl | exact mb4 rfl rfl rfl rfl)) | refine cX ?_ | refine cY ?_ | (refine sA rfl rfl ?_; intro _) | refine sT rfl ?_ | refine sF rfl ?_ | (refine sR rfl ?_ ?_; focus omega) | (refine sB rfl rfl ?_; intro _) | (refine sN rfl rfl ?_ ?_; (focus (first | exact trivial | assumption | exact ⟨by assumption, by assumption⟩ | exact mb2 rfl rfl | exact mb4 rfl rfl rfl rfl)); intro _; simp only [List.cons_append, List.nil_append]) | refine sW rfl rfl ?_ | refine sK rfl rfl ?_ | refine j_if rfl ?_ | refine j_else rfl ?_ | refine Go.Vt.jq (wl_pickT rfl rfl) rfl rfl ?_ | refine Go.Vt.jq (wl_pickF rfl rfl) rfl rfl ?_)
  refine j_if (by rw [decide_eq_true (sign_neg hp)]; rfl) ?_
  repeat (first | refine sX rfl rfl ?_ | (refine sS rfl rfl ?_ ?_; focus omega) | (refine sC rfl rfl ?_ ?_; focus (first | exact trivial | assumption | exact ⟨by assumption, by assumption⟩ | exact mb2 rfl rfl | exact mb4 rfl rfl rfl rfl)) | refine cX ?_ | refine cY ?_ | (refine sA rfl rfl ?_; intro _) | refine sT rfl ?_ | refine sF rfl ?_ | (refine sR rfl ?_ ?_; focus omega) | (refine sB rfl rfl ?_; intro _) | (refine sN rfl rfl ?_ ?_; (focus (first | exact trivial | assumption | exact ⟨by assumption, by assumption⟩ | exact mb2 rfl rfl | exact mb4 rfl rfl rfl rfl)); intro _; simp only [List.cons_append, List.nil_append]) | refine sW rfl rfl ?_ | refine sK rfl rfl ?_ | refine j_if rfl ?_ | refine j_else rfl ?_ | refine Go.Vt.jq (wl_pickT rfl rfl) rfl rfl ?_ | refine Go.Vt.jq (wl_pickF rfl rfl) rfl rfl ?_)
  exact jx_ret_two rfl (resv_tmp rfl) (resv_tmp rfl) (fun w hw => ret_ok hw)⟩
end Go.Vt
