/- The examples of the chapter, and the reference's best list. Conditions: those that each statement names. -/
import Derived.Test.YtgcjapcminakdaaDoorRun
import Derived.Test.YtgcjapcminakdaaDoorTable
import Derived.Test.YtgcjapcminakdaaDoorLogicN
set_option linter.unusedSimpArgs false
set_option linter.unusedVariables false
set_option maxRecDepth 100000
namespace Go.Vt
open Go.RowKit Go.Proofs

theorem sq_nonneg (d : Rat) : 0 ≤ d * d := by
  rcases Rat.le_total (a := 0) (b := d) with h | h
  · exact Rat.mul_nonneg h h
  · have h2 : 0 ≤ -d := by grind
    have := Rat.mul_nonneg h2 h2
    grind
instance sr_best (w0 : World) (L : List Blk) (I : R_api_Interval) (b n c : Nat) (mo : Rat) (pts : List R_movingpoint_Sample) (sp : List Value) (T : TypeId) (bb cb : Nat) (spb : List Value) (Tb : TypeId) [h : AtC w0 L b (row rS pts sp) T] [h2 : AtC w0 L bb (row (eI .i64) [0] spb) Tb] : SpecR Tryd.prog w0 L 37 [vRun I b n c, .slice (some ⟨bb, 0, none⟩) 1 cb, vQ mo] (SBst [0] (bst (okr pts mo) (n - 1) (n - 1) [0])) (fun s => vBst bb [0] cb (bst (okr pts mo) (n - 1) (n - 1) [0]) s.1) (fun s => mBst 3 (bst (okr pts mo) (n - 1) (n - 1) [0]) s.1) (RunOk pts n c ∧ (1 ≤ n ∧ n ≤ 1048576) ∧ M mo ≤ LQ ∧ 0 ≤ mo ∧ 1 ≤ cb) := ⟨fun hp w hw => by
  obtain ⟨g1, ⟨g2, g3⟩, g4, g5, g6⟩ := hp
  obtain ⟨l, rfl⟩ : ∃ l, n = l + 1 := ⟨n - 1, by omega⟩
  have h0 : lst [0] = 0 := rfl
  exact best_spec I b l c mo pts sp T g1 (by omega) g4 g5 l [0] bb cb spb Tb (by omega) (Nat.le_refl _) g6 ⟨by omega, by rw [h0]; exact Nat.le_refl _, Int.le_refl _⟩ w (h.out w hw) (h2.out w hw)⟩
instance sr_rkept (w0 : World) (L : List Blk) (I : R_api_Interval) (b n c : Nat) (d : Rat) (pts : List R_movingpoint_Sample) (sp : List Value) (T : TypeId) [h : AtC w0 L b (row rS pts sp) T] : SpecR Tryd.prog w0 L 13 [vRun I b n c, vQ d] (Nat × Nat × List Value) (fun s => vL s.1 (bst (okr pts (d * d)) (n - 1) (n - 1) [0]) s.2.1) (fun s => [⟨s.1, row (eI .i64) (bst (okr pts (d * d)) (n - 1) (n - 1) [0]) s.2.2, 3⟩]) (RunOk pts n c ∧ (1 ≤ n ∧ n ≤ 1048576) ∧ M d ≤ 1073741824) := ⟨fun hp w hw => by
  obtain ⟨g1, g2, g4⟩ := hp
  have := FoC.mk (h.out w hw)
  have g5 : M (d * d) ≤ LQ := Nat.le_trans (M_mul d d) (by have : LQ = 274877906944 := rfl; omega)
  have g6 : 0 ≤ d * d := sq_nonneg d
  refine fn_intro Tryd.func13 rfl Tryd.ntmps13 rfl ?_
  repeat (first | refine sX rfl rfl ?_ | (refine sS rfl rfl ?_ ?_; focus omega) | (refine sC rfl rfl ?_ ?_; focus (first | exact ⟨g1, g2, g5, g6, Nat.le_refl _⟩ | exact ⟨Nat.le_trans g4 (by decide), Nat.le_trans g4 (by decide)⟩)) | refine cX ?_ | refine cY ?_ | (refine sA rfl rfl ?_; intro _) | refine sT rfl ?_ | refine sF rfl ?_ | (refine sR rfl ?_ ?_; focus omega) | (refine sB rfl rfl ?_; intro _) | (refine sN rfl rfl ?_ ?_; (focus (first | exact ⟨g1, g2, g5, g6, Nat.le_refl _⟩ | exact ⟨Nat.le_trans g4 (by decide), Nat.le_trans g4 (by decide)⟩)); intro _; simp only [List.cons_append, List.nil_append]) | refine sW rfl rfl ?_ | refine sK rfl rfl ?_ | refine j_if rfl ?_ | refine j_else rfl ?_ | refine Go.Vt.jq (wl_pickT rfl rfl) rfl rfl ?_ | refine Go.Vt.jq (wl_pickF rfl rfl) rfl rfl ?_)
  rename_i b2 b3
  (refine j_late [0, 2, 3, 4] [1, 5, 6] ([⟨b3, e_api_Rat (Q d), 28⟩, ⟨b2, cRun I b n c, 35⟩]) mixed (by kernel_rfl) (by decide) sbl ?_; simp only [picks, List.getElem?_cons_succ, List.getElem?_cons_zero])
  repeat (first | refine tX rfl rfl ?_ | (refine tS rfl rfl ?_ ?_; focus omega) | (refine tC rfl rfl ?_ ?_; focus (exact ⟨Nat.le_trans g4 (by decide), Nat.le_trans g4 (by decide)⟩)) | refine tW rfl rfl ?_ | refine tK rfl rfl ?_ | refine Go.Vt.hq (wl_pickT rfl rfl) rfl rfl ?_ | refine Go.Vt.hq (wl_pickF rfl rfl) rfl rfl ?_)
  refine jh_nil ?_
  refine eB rfl rfl ?_
  intro bz
  refine eN rfl rfl ⟨g1, g2, g5, g6, Nat.le_refl _⟩ ?_
  intro sx
  obtain ⟨x, hx⟩ := sx
  refine eS rfl rfl ?_
  refine je_nil ?_
  rcases x with _ | ⟨bx, cx, spx⟩
  · have hgk := hx rfl
    simp only [vBst, mBst, List.nil_append]
    repeat (first | refine sX rfl rfl ?_ | (refine sS rfl rfl ?_ ?_; focus omega) | (refine sC rfl rfl ?_ ?_; focus (first | exact trivial | assumption | exact ⟨by assumption, by assumption⟩ | exact mb2 rfl rfl | exact mb4 rfl rfl rfl rfl)) | refine cX ?_ | refine cY ?_ | (refine sA rfl rfl ?_; intro _) | refine sT rfl ?_ | refine sF rfl ?_ | (refine sR rfl ?_ ?_; focus omega) | (refine sB rfl rfl ?_; intro _) | (refine sN rfl rfl ?_ ?_; (focus (first | exact trivial | assumption | exact ⟨by assumption, by assumption⟩ | exact mb2 rfl rfl | exact mb4 rfl rfl rfl rfl)); intro _; simp only [List.cons_append, List.nil_append]) | refine sW rfl rfl ?_ | refine sK rfl rfl ?_ | refine j_if rfl ?_ | refine j_else rfl ?_ | refine Go.Vt.jq (wl_pickT rfl rfl) rfl rfl ?_ | refine Go.Vt.jq (wl_pickF rfl rfl) rfl rfl ?_)
    rw [hgk]
    exact jx_ret_tmp rfl rfl (fun w hw => ⟨(bz, 1, []), rfl, hw.sub (by repeat (first | exact List.Sublist.refl _ | exact List.nil_sublist _ | refine List.Sublist.cons_cons _ ?_ | refine List.Sublist.cons _ ?_))⟩)
  · simp only [vBst, mBst, List.nil_append, List.cons_append]
    repeat (first | refine sX rfl rfl ?_ | (refine sS rfl rfl ?_ ?_; focus omega) | (refine sC rfl rfl ?_ ?_; focus (first | exact trivial | assumption | exact ⟨by assumption, by assumption⟩ | exact mb2 rfl rfl | exact mb4 rfl rfl rfl rfl)) | refine cX ?_ | refine cY ?_ | (refine sA rfl rfl ?_; intro _) | refine sT rfl ?_ | refine sF rfl ?_ | (refine sR rfl ?_ ?_; focus omega) | (refine sB rfl rfl ?_; intro _) | (refine sN rfl rfl ?_ ?_; (focus (first | exact trivial | assumption | exact ⟨by assumption, by assumption⟩ | exact mb2 rfl rfl | exact mb4 rfl rfl rfl rfl)); intro _; simp only [List.cons_append, List.nil_append]) | refine sW rfl rfl ?_ | refine sK rfl rfl ?_ | refine j_if rfl ?_ | refine j_else rfl ?_ | refine Go.Vt.jq (wl_pickT rfl rfl) rfl rfl ?_ | refine Go.Vt.jq (wl_pickF rfl rfl) rfl rfl ?_)
    exact jx_ret_tmp rfl rfl (fun w hw => ⟨(bx, cx, spx), rfl, hw.sub (by repeat (first | exact List.Sublist.refl _ | exact List.nil_sublist _ | refine List.Sublist.cons_cons _ ?_ | refine List.Sublist.cons _ ?_))⟩)⟩

/-! ### The examples -/
def zzP : List R_movingpoint_Sample := [⟨((0 : Int) : Rat), ⟨((0 : Int) : Rat), ((0 : Int) : Rat)⟩⟩, ⟨((1 : Int) : Rat), ⟨((1 : Int) : Rat), ((1 : Int) : Rat)⟩⟩, ⟨((2 : Int) : Rat), ⟨((2 : Int) : Rat), ((0 : Int) : Rat)⟩⟩, ⟨((3 : Int) : Rat), ⟨((3 : Int) : Rat), ((1 : Int) : Rat)⟩⟩, ⟨((4 : Int) : Rat), ⟨((4 : Int) : Rat), ((0 : Int) : Rat)⟩⟩]
abbrev liP : List R_movingpoint_Sample := [⟨((0 : Int) : Rat), ⟨((0 : Int) : Rat), ((0 : Int) : Rat)⟩⟩, ⟨((1 : Int) : Rat), ⟨((1 : Int) : Rat), ((0 : Int) : Rat)⟩⟩, ⟨((2 : Int) : Rat), ⟨((4 : Int) : Rat), ((0 : Int) : Rat)⟩⟩]
theorem kn_a : keptL (okd zzP ((((1 : Int) : Rat)) * ((1 : Int) : Rat))) (5 - 1) = [0, 4] := by decide +kernel
theorem kn_b : keptL (okd zzP (Rat.divInt 1 2 * Rat.divInt 1 2)) (5 - 1) = [0, 1, 2, 3, 4] := by decide +kernel
theorem kn_d : dv liP 0 2 1 = ((1 : Int) : Rat) := by decide +kernel
instance sr_zigzag (w0 : World) (L : List Blk) : SpecR Tryd.prog w0 L 29 [] Nat (fun b => vRun ⟨⟨0, 0, false⟩, ⟨((4 : Int) : Rat), 0, false⟩, false, false⟩ b 5 5) (fun b => [⟨b, row rS zzP [], 52⟩]) True := ⟨fun _ w hw => by
  refine fn_intro Tryd.func29 rfl Tryd.ntmps29 rfl ?_
  repeat (first | refine sX rfl rfl ?_ | (refine sS rfl rfl ?_ ?_; focus omega) | (refine sC rfl rfl ?_ ?_; focus (first | exact ⟨by omega, by omega⟩ | exact ⟨⟨by omega, by omega⟩, ⟨by omega, by omega⟩, ⟨by omega, by omega⟩⟩)) | refine cX ?_ | refine cY ?_ | (refine sA rfl rfl ?_; intro _) | refine sT rfl ?_ | refine sF rfl ?_ | (refine sR rfl ?_ ?_; focus omega) | (refine sB rfl rfl ?_; intro _) | (refine sN rfl rfl ?_ ?_; (focus (first | exact ⟨by omega, by omega⟩ | exact ⟨⟨by omega, by omega⟩, ⟨by omega, by omega⟩, ⟨by omega, by omega⟩⟩)); intro _; simp only [List.cons_append, List.nil_append]) | refine sW rfl rfl ?_ | refine sK rfl rfl ?_ | refine j_if rfl ?_ | refine j_else rfl ?_ | refine Go.Vt.jq (wl_pickT rfl rfl) rfl rfl ?_ | refine Go.Vt.jq (wl_pickF rfl rfl) rfl rfl ?_)
  rename_i b0 bN
  exact wx_cell rfl rfl (fun w hw => ⟨bN, rfl, hw.sub (by repeat (first | exact List.Sublist.refl _ | exact List.nil_sublist _ | refine List.Sublist.cons_cons _ ?_ | refine List.Sublist.cons _ ?_))⟩)⟩
instance sm_dev2 (w0 : World) (L : List Blk) (I : R_api_Interval) (b n c : Nat) (i j : Int) (pts : List R_movingpoint_Sample) (sp : List Value) (T : TypeId) [h : AtC w0 L b (row r_movingpoint_Sample pts sp) T] : SpecM Tryd.prog w0 L 32 [vRun I b n c, .int .i64 i, .int .i64 j] (.tuple #[vQ (dv pts i.toNat j.toNat (j.toNat - i.toNat - 1)), .int .i64 0]) ((pts.length = n ∧ n ≤ c ∧ n ≤ 1099511627776 ∧ Bnd pts) ∧ 0 ≤ i ∧ i < j ∧ j < n) := ⟨fun hp w hw => by
  obtain ⟨g1, g2, g3, g4⟩ := hp
  have := FoC.mk (h.out w hw)
  refine fn_intro Tryd.func32 rfl Tryd.ntmps32 rfl ?_
  have e1 : ¬ j = 0 := by omega
  have e2 : ¬ i < 0 := by omega
  have e3 : ¬ j ≤ i := by omega
  have e4 : ¬ (n : Int) ≤ j := by omega
  repeat (first | refine sX rfl rfl ?_ | (refine sS rfl rfl ?_ ?_; focus omega) | (refine sC rfl rfl ?_ ?_; focus (first | exact trivial | assumption | exact ⟨by assumption, by assumption⟩ | exact mb2 rfl rfl | exact mb4 rfl rfl rfl rfl)) | refine cX ?_ | refine cY ?_ | (refine sA rfl rfl ?_; intro _) | refine sT rfl ?_ | refine sF rfl ?_ | (refine sR rfl ?_ ?_; focus omega) | (refine sB rfl rfl ?_; intro _) | (refine sN rfl rfl ?_ ?_; (focus (first | exact trivial | assumption | exact ⟨by assumption, by assumption⟩ | exact mb2 rfl rfl | exact mb4 rfl rfl rfl rfl)); intro _; simp only [List.cons_append, List.nil_append]) | refine sW rfl rfl ?_ | refine sK rfl rfl ?_ | refine j_if rfl ?_ | refine j_else rfl ?_ | refine Go.Vt.jq (wl_pickT rfl rfl) rfl rfl ?_ | refine Go.Vt.jq (wl_pickF rfl rfl) rfl rfl ?_)
  by_cases hi : i = 0
  · simp only [decide_eq_true hi]
    repeat (first | refine sX rfl rfl ?_ | (refine sS rfl rfl ?_ ?_; focus omega) | (refine sC rfl rfl ?_ ?_; focus (first | exact trivial | assumption | exact ⟨by assumption, by assumption⟩ | exact mb2 rfl rfl | exact mb4 rfl rfl rfl rfl)) | refine cX ?_ | refine cY ?_ | (refine sA rfl rfl ?_; intro _) | refine sT rfl ?_ | refine sF rfl ?_ | (refine sR rfl ?_ ?_; focus omega) | (refine sB rfl rfl ?_; intro _) | (refine sN rfl rfl ?_ ?_; (focus (first | exact trivial | assumption | exact ⟨by assumption, by assumption⟩ | exact mb2 rfl rfl | exact mb4 rfl rfl rfl rfl)); intro _; simp only [List.cons_append, List.nil_append]) | refine sW rfl rfl ?_ | refine sK rfl rfl ?_ | refine j_if rfl ?_ | refine j_else rfl ?_ | refine Go.Vt.jq (wl_pickT rfl rfl) rfl rfl ?_ | refine Go.Vt.jq (wl_pickF rfl rfl) rfl rfl ?_)
    simp only [decide_eq_false e1]
    repeat (first | refine sX rfl rfl ?_ | (refine sS rfl rfl ?_ ?_; focus omega) | (refine sC rfl rfl ?_ ?_; focus (first | exact trivial | assumption | exact ⟨by assumption, by assumption⟩ | exact mb2 rfl rfl | exact mb4 rfl rfl rfl rfl)) | refine cX ?_ | refine cY ?_ | (refine sA rfl rfl ?_; intro _) | refine sT rfl ?_ | refine sF rfl ?_ | (refine sR rfl ?_ ?_; focus omega) | (refine sB rfl rfl ?_; intro _) | (refine sN rfl rfl ?_ ?_; (focus (first | exact trivial | assumption | exact ⟨by assumption, by assumption⟩ | exact mb2 rfl rfl | exact mb4 rfl rfl rfl rfl)); intro _; simp only [List.cons_append, List.nil_append]) | refine sW rfl rfl ?_ | refine sK rfl rfl ?_ | refine j_if rfl ?_ | refine j_else rfl ?_ | refine Go.Vt.jq (wl_pickT rfl rfl) rfl rfl ?_ | refine Go.Vt.jq (wl_pickF rfl rfl) rfl rfl ?_)
    simp only [decide_eq_false e2]
    repeat (first | refine sX rfl rfl ?_ | (refine sS rfl rfl ?_ ?_; focus omega) | (refine sC rfl rfl ?_ ?_; focus (first | exact trivial | assumption | exact ⟨by assumption, by assumption⟩ | exact mb2 rfl rfl | exact mb4 rfl rfl rfl rfl)) | refine cX ?_ | refine cY ?_ | (refine sA rfl rfl ?_; intro _) | refine sT rfl ?_ | refine sF rfl ?_ | (refine sR rfl ?_ ?_; focus omega) | (refine sB rfl rfl ?_; intro _) | (refine sN rfl rfl ?_ ?_; (focus (first | exact trivial | assumption | exact ⟨by assumption, by assumption⟩ | exact mb2 rfl rfl | exact mb4 rfl rfl rfl rfl)); intro _; simp only [List.cons_append, List.nil_append]) | refine sW rfl rfl ?_ | refine sK rfl rfl ?_ | refine j_if rfl ?_ | refine j_else rfl ?_ | refine Go.Vt.jq (wl_pickT rfl rfl) rfl rfl ?_ | refine Go.Vt.jq (wl_pickF rfl rfl) rfl rfl ?_)
    simp only [decide_eq_false e3]
    repeat (first | refine sX rfl rfl ?_ | (refine sS rfl rfl ?_ ?_; focus omega) | (refine sC rfl rfl ?_ ?_; focus (first | exact trivial | assumption | exact ⟨by assumption, by assumption⟩ | exact mb2 rfl rfl | exact mb4 rfl rfl rfl rfl)) | refine cX ?_ | refine cY ?_ | (refine sA rfl rfl ?_; intro _) | refine sT rfl ?_ | refine sF rfl ?_ | (refine sR rfl ?_ ?_; focus omega) | (refine sB rfl rfl ?_; intro _) | (refine sN rfl rfl ?_ ?_; (focus (first | exact trivial | assumption | exact ⟨by assumption, by assumption⟩ | exact mb2 rfl rfl | exact mb4 rfl rfl rfl rfl)); intro _; simp only [List.cons_append, List.nil_append]) | refine sW rfl rfl ?_ | refine sK rfl rfl ?_ | refine j_if rfl ?_ | refine j_else rfl ?_ | refine Go.Vt.jq (wl_pickT rfl rfl) rfl rfl ?_ | refine Go.Vt.jq (wl_pickF rfl rfl) rfl rfl ?_)
    simp only [decide_eq_false e4]
    repeat (first | refine sX rfl rfl ?_ | (refine sS rfl rfl ?_ ?_; focus omega) | (refine sC rfl rfl ?_ ?_; focus (exact ⟨g1, g2, g3, g4⟩)) | refine cX ?_ | refine cY ?_ | (refine sA rfl rfl ?_; intro _) | refine sT rfl ?_ | refine sF rfl ?_ | (refine sR rfl ?_ ?_; focus omega) | (refine sB rfl rfl ?_; intro _) | (refine sN rfl rfl ?_ ?_; (focus (exact ⟨g1, g2, g3, g4⟩)); intro _; simp only [List.cons_append, List.nil_append]) | refine sW rfl rfl ?_ | refine sK rfl rfl ?_ | refine j_if rfl ?_ | refine j_else rfl ?_ | refine Go.Vt.jq (wl_pickT rfl rfl) rfl rfl ?_ | refine Go.Vt.jq (wl_pickF rfl rfl) rfl rfl ?_)
    exact jx_ret_two rfl (wr_cell rfl) (resv_tmp rfl) (fun w hw => ret_ok hw)
  · simp only [decide_eq_false hi]
    repeat (first | refine sX rfl rfl ?_ | (refine sS rfl rfl ?_ ?_; focus omega) | (refine sC rfl rfl ?_ ?_; focus (first | exact trivial | assumption | exact ⟨by assumption, by assumption⟩ | exact mb2 rfl rfl | exact mb4 rfl rfl rfl rfl)) | refine cX ?_ | refine cY ?_ | (refine sA rfl rfl ?_; intro _) | refine sT rfl ?_ | refine sF rfl ?_ | (refine sR rfl ?_ ?_; focus omega) | (refine sB rfl rfl ?_; intro _) | (refine sN rfl rfl ?_ ?_; (focus (first | exact trivial | assumption | exact ⟨by assumption, by assumption⟩ | exact mb2 rfl rfl | exact mb4 rfl rfl rfl rfl)); intro _; simp only [List.cons_append, List.nil_append]) | refine sW rfl rfl ?_ | refine sK rfl rfl ?_ | refine j_if rfl ?_ | refine j_else rfl ?_ | refine Go.Vt.jq (wl_pickT rfl rfl) rfl rfl ?_ | refine Go.Vt.jq (wl_pickF rfl rfl) rfl rfl ?_)
    simp only [decide_eq_false e2]
    repeat (first | refine sX rfl rfl ?_ | (refine sS rfl rfl ?_ ?_; focus omega) | (refine sC rfl rfl ?_ ?_; focus (first | exact trivial | assumption | exact ⟨by assumption, by assumption⟩ | exact mb2 rfl rfl | exact mb4 rfl rfl rfl rfl)) | refine cX ?_ | refine cY ?_ | (refine sA rfl rfl ?_; intro _) | refine sT rfl ?_ | refine sF rfl ?_ | (refine sR rfl ?_ ?_; focus omega) | (refine sB rfl rfl ?_; intro _) | (refine sN rfl rfl ?_ ?_; (focus (first | exact trivial | assumption | exact ⟨by assumption, by assumption⟩ | exact mb2 rfl rfl | exact mb4 rfl rfl rfl rfl)); intro _; simp only [List.cons_append, List.nil_append]) | refine sW rfl rfl ?_ | refine sK rfl rfl ?_ | refine j_if rfl ?_ | refine j_else rfl ?_ | refine Go.Vt.jq (wl_pickT rfl rfl) rfl rfl ?_ | refine Go.Vt.jq (wl_pickF rfl rfl) rfl rfl ?_)
    simp only [decide_eq_false e3]
    repeat (first | refine sX rfl rfl ?_ | (refine sS rfl rfl ?_ ?_; focus omega) | (refine sC rfl rfl ?_ ?_; focus (first | exact trivial | assumption | exact ⟨by assumption, by assumption⟩ | exact mb2 rfl rfl | exact mb4 rfl rfl rfl rfl)) | refine cX ?_ | refine cY ?_ | (refine sA rfl rfl ?_; intro _) | refine sT rfl ?_ | refine sF rfl ?_ | (refine sR rfl ?_ ?_; focus omega) | (refine sB rfl rfl ?_; intro _) | (refine sN rfl rfl ?_ ?_; (focus (first | exact trivial | assumption | exact ⟨by assumption, by assumption⟩ | exact mb2 rfl rfl | exact mb4 rfl rfl rfl rfl)); intro _; simp only [List.cons_append, List.nil_append]) | refine sW rfl rfl ?_ | refine sK rfl rfl ?_ | refine j_if rfl ?_ | refine j_else rfl ?_ | refine Go.Vt.jq (wl_pickT rfl rfl) rfl rfl ?_ | refine Go.Vt.jq (wl_pickF rfl rfl) rfl rfl ?_)
    simp only [decide_eq_false e4]
    repeat (first | refine sX rfl rfl ?_ | (refine sS rfl rfl ?_ ?_; focus omega) | (refine sC rfl rfl ?_ ?_; focus (exact ⟨g1, g2, g3, g4⟩)) | refine cX ?_ | refine cY ?_ | (refine sA rfl rfl ?_; intro _) | refine sT rfl ?_ | refine sF rfl ?_ | (refine sR rfl ?_ ?_; focus omega) | (refine sB rfl rfl ?_; intro _) | (refine sN rfl rfl ?_ ?_; (focus (exact ⟨g1, g2, g3, g4⟩)); intro _; simp only [List.cons_append, List.nil_append]) | refine sW rfl rfl ?_ | refine sK rfl rfl ?_ | refine j_if rfl ?_ | refine j_else rfl ?_ | refine Go.Vt.jq (wl_pickT rfl rfl) rfl rfl ?_ | refine Go.Vt.jq (wl_pickF rfl rfl) rfl rfl ?_)
    exact jx_ret_two rfl (wr_cell rfl) (resv_tmp rfl) (fun w hw => ret_ok hw)⟩
instance (priority := low) sm_same' (w0 : World) (L : List Blk) (a b ca cb n m : Nat) (xs ys : List Int) (spx spy : List Value) (Tx Ty : TypeId) [h1 : AtC w0 L a (row (eI .i64) xs spx) Tx] [h2 : AtC w0 L b (row (eI .i64) ys spy) Ty] : SpecM Tryd.prog w0 L 12 [.slice (some ⟨a, 0, none⟩) n ca, .slice (some ⟨b, 0, none⟩) m cb] (.bool (decide (xs = ys))) ((n = xs.length ∧ m = ys.length) ∧ n ≤ 1099511627776) := ⟨fun hp w hw => by
  obtain ⟨⟨rfl, rfl⟩, hp⟩ := hp
  exact same_spec a b ca cb xs ys spx spy Tx Ty hp w (h1.out w hw) (h2.out w hw)⟩
theorem bnd_of {pts : List R_movingpoint_Sample} (h : ∀ x ∈ pts, M x.T ≤ PB ∧ M x.P.X ≤ PB ∧ M x.P.Y ≤ PB) : Bnd pts := fun i => by
  by_cases hi : i.toNat < pts.length
  · rw [gi_eq hi]
    exact h _ (List.getElem_mem hi)
  · have : gi pts i = default := by unfold gi; simp only [List.getD_eq_getElem?_getD, List.getElem?_eq_none (by omega : pts.length ≤ i.toNat)]; rfl
    rw [this]
    exact ⟨by decide +kernel, by decide +kernel, by decide +kernel⟩
theorem bnd_zz : Bnd zzP := bnd_of (by decide +kernel)
theorem bnd_li : Bnd liP := bnd_of (by decide +kernel)
/-- The chapter's examples hold. -/
instance sm_known : SpecC Tryd.prog 7 [] (.bool true) True := ⟨fun _ w => by
  refine fn_intro Tryd.func7 rfl Tryd.ntmps7 rfl ?_
  have r1 : RunOk zzP 5 5 := ⟨rfl, Nat.le_refl _, by decide, bnd_zz⟩
  have r2 : RunOk liP 3 3 := ⟨rfl, Nat.le_refl _, by decide, bnd_li⟩
  repeat (first | refine sX rfl rfl ?_ | (refine sS rfl rfl ?_ ?_; focus omega) | (refine sC rfl rfl ?_ ?_; focus (first | exact trivial | exact ⟨by omega, by omega⟩ | exact ⟨⟨by omega, by omega⟩, ⟨by omega, by omega⟩⟩ | exact ⟨⟨by omega, by omega⟩, ⟨by omega, by omega⟩, ⟨by omega, by omega⟩⟩ | exact ⟨r1, by decide, by decide +kernel, by decide +kernel⟩ | exact ⟨r2, by decide, by decide, by decide⟩)) | refine cX ?_ | refine cY ?_ | (refine sA rfl rfl ?_; intro _) | refine sT rfl ?_ | refine sF rfl ?_ | (refine sR rfl ?_ ?_; focus omega) | (refine sB rfl rfl ?_; intro _) | (refine sN rfl rfl ?_ ?_; (focus (first | exact trivial | exact ⟨by omega, by omega⟩ | exact ⟨⟨by omega, by omega⟩, ⟨by omega, by omega⟩⟩ | exact ⟨⟨by omega, by omega⟩, ⟨by omega, by omega⟩, ⟨by omega, by omega⟩⟩ | exact ⟨r1, by decide, by decide +kernel, by decide +kernel⟩ | exact ⟨r2, by decide, by decide, by decide⟩)); intro _; simp only [List.cons_append, List.nil_append]) | refine sW rfl rfl ?_ | refine sK rfl rfl ?_ | refine j_if rfl ?_ | refine j_else rfl ?_ | refine Go.Vt.jq (wl_pickT rfl rfl) rfl rfl ?_ | refine Go.Vt.jq (wl_pickF rfl rfl) rfl rfl ?_)
  rename_i bh bz sa
  obtain ⟨⟨ba, ca, spa⟩, ha⟩ := sa
  simp only [kn_a] at ha ⊢
  (refine j_late3 [1] [0, 2] [3, 4, 5, 6, 7] ([⟨ba, row (eI .i64) [0, 4] spa, 3⟩, ⟨bh, e_api_Rat (Q (Rat.divInt 1 2)), 28⟩]) mixed (by kernel_rfl) (by decide) (by repeat (first | exact List.Sublist.refl _ | exact List.nil_sublist _ | refine List.Sublist.cons_cons _ ?_ | refine List.Sublist.cons _ ?_ | refine List.Sublist.trans ?_ (List.sublist_append_right _ _))) ?_; simp only [picks, List.getElem?_cons_succ, List.getElem?_cons_zero])
  repeat (first | refine tX rfl rfl ?_ | (refine tS rfl rfl ?_ ?_; focus omega) | (refine tC rfl rfl ?_ ?_; focus (first | exact trivial | exact ⟨by omega, by omega⟩ | exact ⟨⟨by omega, by omega⟩, ⟨by omega, by omega⟩⟩ | exact ⟨⟨by omega, by omega⟩, ⟨by omega, by omega⟩, ⟨by omega, by omega⟩⟩ | exact ⟨r1, by decide, by decide +kernel, by decide +kernel⟩ | exact ⟨r2, by decide, by decide, by decide⟩)) | refine tW rfl rfl ?_ | refine tK rfl rfl ?_ | refine Go.Vt.hq (wl_pickT rfl rfl) rfl rfl ?_ | refine Go.Vt.hq (wl_pickF rfl rfl) rfl rfl ?_)
  refine jh_nil ?_
  refine eN rfl rfl trivial ?_
  intro bz2
  simp only [List.cons_append, List.nil_append]
  refine eN rfl rfl ⟨r1, by decide, by decide +kernel, by decide +kernel⟩ ?_
  intro sb
  simp only [List.cons_append, List.nil_append]
  refine je_nil ?_
  repeat (first | refine tX rfl rfl ?_ | (refine tS rfl rfl ?_ ?_; focus omega) | (refine tC rfl rfl ?_ ?_; focus (first | exact trivial | exact ⟨by omega, by omega⟩ | exact ⟨⟨by omega, by omega⟩, ⟨by omega, by omega⟩⟩ | exact ⟨⟨by omega, by omega⟩, ⟨by omega, by omega⟩, ⟨by omega, by omega⟩⟩ | exact ⟨r1, by decide, by decide +kernel, by decide +kernel⟩ | exact ⟨r2, by decide, by decide, by decide⟩)) | refine tW rfl rfl ?_ | refine tK rfl rfl ?_ | refine Go.Vt.hq (wl_pickT rfl rfl) rfl rfl ?_ | refine Go.Vt.hq (wl_pickF rfl rfl) rfl rfl ?_)
  refine jh_nil ?_
  obtain ⟨⟨bb, cb, spb⟩, hb⟩ := sb
  simp only [kn_b] at hb ⊢
  repeat (first | refine sX rfl rfl ?_ | (refine sS rfl rfl ?_ ?_; focus omega) | (refine sC rfl rfl ?_ ?_; focus (first | exact trivial | exact ⟨by omega, by omega⟩ | exact ⟨⟨by omega, by omega⟩, ⟨by omega, by omega⟩⟩ | exact ⟨⟨by omega, by omega⟩, ⟨by omega, by omega⟩, ⟨by omega, by omega⟩⟩ | exact ⟨r1, by decide, by decide +kernel, by decide +kernel⟩ | exact ⟨r2, by decide, by decide, by decide⟩)) | refine cX ?_ | refine cY ?_ | (refine sA rfl rfl ?_; intro _) | refine sT rfl ?_ | refine sF rfl ?_ | (refine sR rfl ?_ ?_; focus omega) | (refine sB rfl rfl ?_; intro _) | (refine sN rfl rfl ?_ ?_; (focus (first | exact trivial | exact ⟨by omega, by omega⟩ | exact ⟨⟨by omega, by omega⟩, ⟨by omega, by omega⟩⟩ | exact ⟨⟨by omega, by omega⟩, ⟨by omega, by omega⟩, ⟨by omega, by omega⟩⟩ | exact ⟨r1, by decide, by decide +kernel, by decide +kernel⟩ | exact ⟨r2, by decide, by decide, by decide⟩)); intro _; simp only [List.cons_append, List.nil_append]) | refine sW rfl rfl ?_ | refine sK rfl rfl ?_ | refine j_if rfl ?_ | refine j_else rfl ?_ | refine Go.Vt.jq (wl_pickT rfl rfl) rfl rfl ?_ | refine Go.Vt.jq (wl_pickF rfl rfl) rfl rfl ?_)
  rename_i bp bq br
  rw [show dv _ (Int.toNat 0) (Int.toNat 2) (Int.toNat 2 - Int.toNat 0 - 1) = ((1 : Int) : Rat) from kn_d]
  (refine j_phases [([0, 1, 2, 3], [4, 5, 6, 7, 8, 9, 10, 11]), ([12], [13, 14, 15, 16, 17, 18, 19, 20]), ([21], [22, 23, 24, 25])] ([⟨br, e_api_Rat (Q ((1 : Int) : Rat)), 28⟩, ⟨bb, row (eI .i64) [0, 1, 2, 3, 4] spb, 3⟩, ⟨ba, row (eI .i64) [0, 4] spa, 3⟩]) mixed (by kernel_rfl) (by repeat (first | exact List.Sublist.refl _ | exact List.nil_sublist _ | refine List.Sublist.cons_cons _ ?_ | refine List.Sublist.cons _ ?_ | refine List.Sublist.trans ?_ (List.sublist_append_right _ _))) ?_; simp only [JP, picks, List.getElem?_cons_succ, List.getElem?_cons_zero])
  repeat (first | refine tX rfl rfl ?_ | (refine tS rfl rfl ?_ ?_; focus omega) | (refine tC rfl rfl ?_ ?_; focus (first | exact trivial | exact ⟨by omega, by omega⟩ | exact ⟨⟨by omega, by omega⟩, ⟨by omega, by omega⟩⟩ | exact ⟨⟨by omega, by omega⟩, ⟨by omega, by omega⟩, ⟨by omega, by omega⟩⟩ | exact ⟨r1, by decide, by decide +kernel, by decide +kernel⟩ | exact ⟨r2, by decide, by decide, by decide⟩)) | refine tW rfl rfl ?_ | refine tK rfl rfl ?_ | refine Go.Vt.hq (wl_pickT rfl rfl) rfl rfl ?_ | refine Go.Vt.hq (wl_pickF rfl rfl) rfl rfl ?_)
  simp only [decide_eq_true (show (0 : Int) = 0 from rfl)]
  repeat (first | refine tX rfl rfl ?_ | (refine tS rfl rfl ?_ ?_; focus omega) | (refine tC rfl rfl ?_ ?_; focus (first | exact trivial | exact ⟨by omega, by omega⟩)) | refine tW rfl rfl ?_ | refine tK rfl rfl ?_ | refine Go.Vt.hq (wl_pickT rfl rfl) rfl rfl ?_ | refine Go.Vt.hq (wl_pickF rfl rfl) rfl rfl ?_)
  repeat (first | refine eS rfl rfl ?_ | refine uP rfl rfl rfl rfl ?_ | refine uQ rfl rfl rfl rfl ?_ | refine eX rfl rfl ?_ | (refine uS rfl rfl ?_ ?_; focus omega) | (refine uC rfl rfl ?_ ?_; focus (first | exact trivial | exact ⟨by omega, by omega⟩ | exact ⟨⟨rfl, rfl⟩, by decide⟩)) | refine uW rfl rfl ?_ | refine eF rfl ?_ | refine eT rfl ?_ | (refine eA rfl rfl ?_; intro _) | (refine eB rfl rfl ?_; intro _) | (refine eN rfl rfl ?_ ?_; (focus (first | exact trivial | exact ⟨by omega, by omega⟩ | exact ⟨⟨rfl, rfl⟩, by decide⟩)); intro _; simp only [List.cons_append, List.nil_append]) | refine je_nil ?_ | refine tX rfl rfl ?_ | (refine tS rfl rfl ?_ ?_; focus omega) | (refine tC rfl rfl ?_ ?_; focus (first | exact trivial | exact ⟨by omega, by omega⟩ | exact ⟨⟨rfl, rfl⟩, by decide⟩)) | refine tW rfl rfl ?_ | refine tK rfl rfl ?_ | refine Go.Vt.hq (wl_pickT rfl rfl) rfl rfl ?_ | refine Go.Vt.hq (wl_pickF rfl rfl) rfl rfl ?_ | refine jh_nil ?_)
  repeat (first | refine sX rfl rfl ?_ | (refine sS rfl rfl ?_ ?_; focus omega) | (refine sC rfl rfl ?_ ?_; focus (first | exact trivial | assumption | exact ⟨by assumption, by assumption⟩ | exact mb2 rfl rfl | exact mb4 rfl rfl rfl rfl)) | refine cX ?_ | refine cY ?_ | (refine sA rfl rfl ?_; intro _) | refine sT rfl ?_ | refine sF rfl ?_ | (refine sR rfl ?_ ?_; focus omega) | (refine sB rfl rfl ?_; intro _) | (refine sN rfl rfl ?_ ?_; (focus (first | exact trivial | assumption | exact ⟨by assumption, by assumption⟩ | exact mb2 rfl rfl | exact mb4 rfl rfl rfl rfl)); intro _; simp only [List.cons_append, List.nil_append]) | refine sW rfl rfl ?_ | refine sK rfl rfl ?_ | refine j_if rfl ?_ | refine j_else rfl ?_ | refine Go.Vt.jq (wl_pickT rfl rfl) rfl rfl ?_ | refine Go.Vt.jq (wl_pickF rfl rfl) rfl rfl ?_)
  exact jx_ret_tmp rfl rfl (fun w hw => by rw [decide_eq_true (show ((1 : Int) : Rat) = ((1 : Int) : Rat) from rfl)]; exact ret_ok hw)⟩
end Go.Vt
