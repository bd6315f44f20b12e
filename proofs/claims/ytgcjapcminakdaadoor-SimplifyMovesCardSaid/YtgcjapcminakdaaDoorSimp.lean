/- Straight ways between samples and their deviations. Conditions: the lengths and indexes that each statement names. -/
import Derived.Test.YtgcjapcminakdaaDoorGeo
import Derived.Test.YtgcjapcminakdaaDoorRow
set_option linter.unusedSimpArgs false
set_option linter.unusedVariables false
set_option maxRecDepth 100000
namespace Go.Vt
open Go.RowKit Go.Proofs

abbrev vLn (f : R_api_Line) : Value := .agg (e_api_Line (q_api_Line f))
abbrev vRun (r : R_api_Interval) (b n c : Nat) : Value := .agg (e_simplify_Run (q_simplify_Run ⟨r, ⟨some ⟨b, 0, none⟩, n, c⟩⟩))
def stl (a b : R_movingpoint_Sample) : R_api_Line := ⟨(lin a.T a.P.X b.T b.P.X).C0, (lin a.T a.P.X b.T b.P.X).C1, (lin a.T a.P.Y b.T b.P.Y).C0, (lin a.T a.P.Y b.T b.P.Y).C1⟩
/-- The position of a line at a rational instant. -/
def pos (f : R_api_Line) (t : Rat) : R_api_Point := ⟨f.X0 + t * (f.X1 + t * 0), f.Y0 + t * (f.Y1 + t * 0)⟩
instance mb_lin0 (t v u x : Rat) (i j k l : Nat) [h1 : MB t i] [h2 : MB v j] [h3 : MB u k] [h4 : MB x l] : MB (lin t v u x).C0 (2 * i + 2 * j + k + l + 4) := ⟨by
  unfold lin
  split
  · exact Nat.le_trans (mb_zero.out) (by omega)
  · have := (inferInstance : MB (v - (x - v) / (u - t) * t) _).out
    simp only
    omega⟩
instance mb_lin1 (t v u x : Rat) (i j k l : Nat) [h1 : MB t i] [h2 : MB v j] [h3 : MB u k] [h4 : MB x l] : MB (lin t v u x).C1 (i + j + k + l + 3) := ⟨by
  unfold lin
  split
  · exact Nat.le_trans (mb_zero.out) (by omega)
  · have := (inferInstance : MB ((x - v) / (u - t)) _).out
    simp only
    omega⟩
instance mb_stlX0 (a b : R_movingpoint_Sample) (i j k l : Nat) [MB a.T i] [MB a.P.X j] [MB b.T k] [MB b.P.X l] : MB (stl a b).X0 (2 * i + 2 * j + k + l + 4) := inferInstanceAs (MB (lin a.T a.P.X b.T b.P.X).C0 _)
instance mb_stlX1 (a b : R_movingpoint_Sample) (i j k l : Nat) [MB a.T i] [MB a.P.X j] [MB b.T k] [MB b.P.X l] : MB (stl a b).X1 (i + j + k + l + 3) := inferInstanceAs (MB (lin a.T a.P.X b.T b.P.X).C1 _)
instance mb_stlY0 (a b : R_movingpoint_Sample) (i j k l : Nat) [MB a.T i] [MB a.P.Y j] [MB b.T k] [MB b.P.Y l] : MB (stl a b).Y0 (2 * i + 2 * j + k + l + 4) := inferInstanceAs (MB (lin a.T a.P.Y b.T b.P.Y).C0 _)
instance mb_stlY1 (a b : R_movingpoint_Sample) (i j k l : Nat) [MB a.T i] [MB a.P.Y j] [MB b.T k] [MB b.P.Y l] : MB (stl a b).Y1 (i + j + k + l + 3) := inferInstanceAs (MB (lin a.T a.P.Y b.T b.P.Y).C1 _)
instance mb_posX (f : R_api_Line) (t : Rat) (i j k : Nat) [MB f.X0 i] [MB f.X1 j] [MB t k] : MB (pos f t).X (i + (k + (j + (k + 1) + 1)) + 1) := inferInstanceAs (MB (f.X0 + t * (f.X1 + t * 0)) _)
instance mb_posY (f : R_api_Line) (t : Rat) (i j k : Nat) [MB f.Y0 i] [MB f.Y1 j] [MB t k] : MB (pos f t).Y (i + (k + (j + (k + 1) + 1)) + 1) := inferInstanceAs (MB (f.Y0 + t * (f.Y1 + t * 0)) _)
theorem mb5 {p q r s t : Rat} {i j k l m A B C D F : Nat} [MB p i] [MB q j] [MB r k] [MB s l] [MB t m] (h1 : Nat.ble i A = true) (h2 : Nat.ble j B = true) (h3 : Nat.ble k C = true) (h4 : Nat.ble l D = true) (h5 : Nat.ble m F = true) : M p ≤ A ∧ M q ≤ B ∧ M r ≤ C ∧ M s ≤ D ∧ M t ≤ F := ⟨MB.lt h1, MB.lt h2, MB.lt h3, MB.lt h4, MB.lt h5⟩
instance sp_straight (a b : R_movingpoint_Sample) : SpecC Tryd.prog 61 [vS a, vS b] (vLn (stl a b)) ((M a.T ≤ 34359738368 ∧ M a.P.X ≤ 34359738368 ∧ M a.P.Y ≤ 34359738368) ∧ (M b.T ≤ 34359738368 ∧ M b.P.X ≤ 34359738368 ∧ M b.P.Y ≤ 34359738368)) := ⟨fun hp w => by
  obtain ⟨⟨h1, h2, h3⟩, h4, h5, h6⟩ := hp
  refine fn_intro Tryd.func61 rfl Tryd.ntmps61 rfl ?_
  repeat (first | refine sX rfl rfl ?_ | (refine sS rfl rfl ?_ ?_; focus omega) | (refine sC rfl rfl ?_ ?_; focus (exact ⟨by assumption, by assumption, by assumption, by assumption⟩)) | refine cX ?_ | refine cY ?_ | (refine sA rfl rfl ?_; intro _) | refine sT rfl ?_ | refine sF rfl ?_ | (refine sR rfl ?_ ?_; focus omega) | (refine sB rfl rfl ?_; intro _) | (refine sN rfl rfl ?_ ?_; (focus (exact ⟨by assumption, by assumption, by assumption, by assumption⟩)); intro _; simp only [List.cons_append, List.nil_append]) | refine sW rfl rfl ?_ | refine sK rfl rfl ?_ | refine j_if rfl ?_ | refine j_else rfl ?_ | refine Go.Vt.jq (wl_pickT rfl rfl) rfl rfl ?_ | refine Go.Vt.jq (wl_pickF rfl rfl) rfl rfl ?_)
  exact wx_cell rfl rfl (fun w hw => ret_ok hw)⟩
instance sp_sample (f : R_api_Line) (t : R_api_Real) : SpecC Tryd.prog 63 [vLn f, vR t] (vS ⟨t.P, pos f t.P⟩) (t.R = 0 ∧ M t.P ≤ 34359738368 ∧ M f.X0 ≤ 34359738368 ∧ M f.X1 ≤ 34359738368 ∧ M f.Y0 ≤ 34359738368 ∧ M f.Y1 ≤ 34359738368) := ⟨fun hp w => by
  obtain ⟨h0, h1, h2, h3, h4, h5⟩ := hp
  have h6 : M 0 ≤ 34359738368 := Nat.le_trans mb_zero.out (by decide)
  refine fn_intro Tryd.func63 rfl Tryd.ntmps63 rfl ?_
  repeat (first | refine sX rfl rfl ?_ | (refine sS rfl rfl ?_ ?_; focus omega) | (refine sC rfl rfl ?_ ?_; focus (first | exact trivial | assumption | exact ⟨by assumption, by assumption⟩ | exact mb2 rfl rfl | exact mb4 rfl rfl rfl rfl)) | refine cX ?_ | refine cY ?_ | (refine sA rfl rfl ?_; intro _) | refine sT rfl ?_ | refine sF rfl ?_ | (refine sR rfl ?_ ?_; focus omega) | (refine sB rfl rfl ?_; intro _) | (refine sN rfl rfl ?_ ?_; (focus (first | exact trivial | assumption | exact ⟨by assumption, by assumption⟩ | exact mb2 rfl rfl | exact mb4 rfl rfl rfl rfl)); intro _; simp only [List.cons_append, List.nil_append]) | refine sW rfl rfl ?_ | refine sK rfl rfl ?_ | refine j_if rfl ?_ | refine j_else rfl ?_ | refine Go.Vt.jq (wl_pickT rfl rfl) rfl rfl ?_ | refine Go.Vt.jq (wl_pickF rfl rfl) rfl rfl ?_)
  simp only [if_pos h0]
  (refine jD 7 8 mixed (by kernel_rfl) ?_; (repeat (first | refine tX rfl rfl ?_ | (refine tS rfl rfl ?_ ?_; focus omega) | (refine tC rfl rfl ?_ ?_; focus (first | exact trivial | exact ⟨by assumption, by assumption, by assumption, by assumption⟩)) | refine tW rfl rfl ?_ | refine tK rfl rfl ?_ | refine Go.Vt.hq (wl_pickT rfl rfl) rfl rfl ?_ | refine Go.Vt.hq (wl_pickF rfl rfl) rfl rfl ?_)); refine jh_nil ?_; (repeat (refine wn_new ?_; intro _)); refine jn_nil ?_)
  repeat (first | refine sX rfl rfl ?_ | (refine sS rfl rfl ?_ ?_; focus omega) | (refine sC rfl rfl ?_ ?_; focus (first | exact trivial | assumption | exact ⟨by assumption, by assumption⟩ | exact mb2 rfl rfl | exact mb4 rfl rfl rfl rfl)) | refine cX ?_ | refine cY ?_ | (refine sA rfl rfl ?_; intro _) | refine sT rfl ?_ | refine sF rfl ?_ | (refine sR rfl ?_ ?_; focus omega) | (refine sB rfl rfl ?_; intro _) | (refine sN rfl rfl ?_ ?_; (focus (first | exact trivial | assumption | exact ⟨by assumption, by assumption⟩ | exact mb2 rfl rfl | exact mb4 rfl rfl rfl rfl)); intro _; simp only [List.cons_append, List.nil_append]) | refine sW rfl rfl ?_ | refine sK rfl rfl ?_ | refine j_if rfl ?_ | refine j_else rfl ?_ | refine Go.Vt.jq (wl_pickT rfl rfl) rfl rfl ?_ | refine Go.Vt.jq (wl_pickF rfl rfl) rfl rfl ?_)
  (refine jD 7 8 mixed (by kernel_rfl) ?_; (repeat (first | refine tX rfl rfl ?_ | (refine tS rfl rfl ?_ ?_; focus omega) | (refine tC rfl rfl ?_ ?_; focus (first | exact trivial | exact ⟨by assumption, by assumption, by assumption, by assumption⟩)) | refine tW rfl rfl ?_ | refine tK rfl rfl ?_ | refine Go.Vt.hq (wl_pickT rfl rfl) rfl rfl ?_ | refine Go.Vt.hq (wl_pickF rfl rfl) rfl rfl ?_)); refine jh_nil ?_; (repeat (refine wn_new ?_; intro _)); refine jn_nil ?_)
  repeat (first | refine sX rfl rfl ?_ | (refine sS rfl rfl ?_ ?_; focus omega) | (refine sC rfl rfl ?_ ?_; focus (first | exact trivial | assumption | exact ⟨by assumption, by assumption⟩ | exact mb2 rfl rfl | exact mb4 rfl rfl rfl rfl)) | refine cX ?_ | refine cY ?_ | (refine sA rfl rfl ?_; intro _) | refine sT rfl ?_ | refine sF rfl ?_ | (refine sR rfl ?_ ?_; focus omega) | (refine sB rfl rfl ?_; intro _) | (refine sN rfl rfl ?_ ?_; (focus (first | exact trivial | assumption | exact ⟨by assumption, by assumption⟩ | exact mb2 rfl rfl | exact mb4 rfl rfl rfl rfl)); intro _; simp only [List.cons_append, List.nil_append]) | refine sW rfl rfl ?_ | refine sK rfl rfl ?_ | refine j_if rfl ?_ | refine j_else rfl ?_ | refine Go.Vt.jq (wl_pickT rfl rfl) rfl rfl ?_ | refine Go.Vt.jq (wl_pickF rfl rfl) rfl rfl ?_)
  exact wx_cell rfl rfl (fun w hw => ret_ok hw)⟩

/-! ### Deviations -/
abbrev PB : Nat := 1048576
/-- The samples are short. -/
def Bnd (pts : List R_movingpoint_Sample) : Prop := ∀ i : Int, M (gi pts i).T ≤ PB ∧ M (gi pts i).P.X ≤ PB ∧ M (gi pts i).P.Y ≤ PB
/-- The greatest squared distance of the breakpoints behind 'i', of which there are 'n', from the straight way from 'i' to 'j'. -/
def dv (pts : List R_movingpoint_Sample) (i j : Nat) : Nat → Rat
  | 0 => 0
  | n + 1 => max (dv pts i j n) (d2 (gi pts ((i : Int) + 1 + n)).P (pos (stl (gi pts (i : Int)) (gi pts (j : Int))) (gi pts ((i : Int) + 1 + n)).T))
theorem M_max (a b : Rat) : M (max a b) ≤ max (M a) (M b) := by rw [Rat.max_def]; split <;> omega
theorem M_dv {pts : List R_movingpoint_Sample} (hB : Bnd pts) (i j : Nat) : ∀ n, M (dv pts i j n) ≤ 67108864
  | 0 => Nat.le_trans mb_zero.out (by decide)
  | n + 1 => by
    have g1 : ∀ i, MB (gi pts i).T PB := fun i => ⟨(hB i).1⟩
    have g2 : ∀ i, MB (gi pts i).P.X PB := fun i => ⟨(hB i).2.1⟩
    have g3 : ∀ i, MB (gi pts i).P.Y PB := fun i => ⟨(hB i).2.2⟩
    have h1 := M_dv hB i j n
    have h2 : M (d2 (gi pts ((i : Int) + 1 + n)).P (pos (stl (gi pts (i : Int)) (gi pts (j : Int))) (gi pts ((i : Int) + 1 + n)).T)) ≤ 67108864 := by
      exact MB.lt rfl
    exact Nat.le_trans (M_max _ _) (by omega)
theorem dev_spec (I : R_api_Interval) (b n c i j : Nat) (pts : List R_movingpoint_Sample) (sp : List Value) (T : TypeId) (hn : pts.length = n) (hc : n ≤ c) (hB : Bnd pts) (hij : i < j) (hj : j < n) (h63 : n ≤ 1099511627776) (w : World) (hw : ∃ fz, w.heap[b]? = some (.cells (row r_movingpoint_Sample pts sp) T fz)) :
    Calls Tryd.prog 43 [vRun I b n c, .int .i64 i, .int .i64 j].toArray w (Ret (vQ (dv pts i j (j - i - 1))) w) := by
  have := FoC.mk hw
  have g1 : ∀ i, MB (gi pts i).T PB := fun i => ⟨(hB i).1⟩
  have g2 : ∀ i, MB (gi pts i).P.X PB := fun i => ⟨(hB i).2.1⟩
  have g3 : ∀ i, MB (gi pts i).P.Y PB := fun i => ⟨(hB i).2.2⟩
  refine fn_intro Tryd.func43 rfl Tryd.ntmps43 rfl ?_
  repeat (first | refine sX rfl rfl ?_ | (refine sS rfl rfl ?_ ?_; focus omega) | (refine sC rfl rfl ?_ ?_; focus (first | exact trivial | assumption | exact ⟨by assumption, by assumption⟩ | exact mb2 rfl rfl | exact mb4 rfl rfl rfl rfl)) | refine cX ?_ | refine cY ?_ | (refine sA rfl rfl ?_; intro _) | refine sT rfl ?_ | refine sF rfl ?_ | (refine sR rfl ?_ ?_; focus omega) | (refine sB rfl rfl ?_; intro _) | (refine sN rfl rfl ?_ ?_; (focus (first | exact trivial | assumption | exact ⟨by assumption, by assumption⟩ | exact mb2 rfl rfl | exact mb4 rfl rfl rfl rfl)); intro _; simp only [List.cons_append, List.nil_append]) | refine sW rfl rfl ?_ | refine sK rfl rfl ?_ | refine j_if rfl ?_ | refine j_else rfl ?_ | refine Go.Vt.jq (wl_pickT rfl rfl) rfl rfl ?_ | refine Go.Vt.jq (wl_pickF rfl rfl) rfl rfl ?_)
  refine j_cond rfl (fun h => ?_) (fun h => ?_)
  · have := of_decide_eq_true h
    omega
  repeat (first | refine sX rfl rfl ?_ | (refine sS rfl rfl ?_ ?_; focus omega) | (refine sC rfl rfl ?_ ?_; focus (first | exact trivial | assumption | exact ⟨by assumption, by assumption⟩ | exact mb2 rfl rfl | exact mb4 rfl rfl rfl rfl)) | refine cX ?_ | refine cY ?_ | (refine sA rfl rfl ?_; intro _) | refine sT rfl ?_ | refine sF rfl ?_ | (refine sR rfl ?_ ?_; focus omega) | (refine sB rfl rfl ?_; intro _) | (refine sN rfl rfl ?_ ?_; (focus (first | exact trivial | assumption | exact ⟨by assumption, by assumption⟩ | exact mb2 rfl rfl | exact mb4 rfl rfl rfl rfl)); intro _; simp only [List.cons_append, List.nil_append]) | refine sW rfl rfl ?_ | refine sK rfl rfl ?_ | refine j_if rfl ?_ | refine j_else rfl ?_ | refine Go.Vt.jq (wl_pickT rfl rfl) rfl rfl ?_ | refine Go.Vt.jq (wl_pickF rfl rfl) rfl rfl ?_)
  (refine jD 11 12 mixed (by kernel_rfl) ?_; (repeat (first | refine tX rfl rfl ?_ | (refine tS rfl rfl ?_ ?_; focus omega) | (refine tC rfl rfl ?_ ?_; focus (exact ⟨mb3 rfl rfl rfl, mb3 rfl rfl rfl⟩)) | refine tW rfl rfl ?_ | refine tK rfl rfl ?_ | refine Go.Vt.hq (wl_pickT rfl rfl) rfl rfl ?_ | refine Go.Vt.hq (wl_pickF rfl rfl) rfl rfl ?_)); refine jh_nil ?_; (repeat (refine wn_new ?_; intro _)); refine jn_nil ?_)
  repeat (first | refine sX rfl rfl ?_ | (refine sS rfl rfl ?_ ?_; focus omega) | (refine sC rfl rfl ?_ ?_; focus (first | exact trivial | assumption | exact ⟨by assumption, by assumption⟩ | exact mb2 rfl rfl | exact mb4 rfl rfl rfl rfl)) | refine cX ?_ | refine cY ?_ | (refine sA rfl rfl ?_; intro _) | refine sT rfl ?_ | refine sF rfl ?_ | (refine sR rfl ?_ ?_; focus omega) | (refine sB rfl rfl ?_; intro _) | (refine sN rfl rfl ?_ ?_; (focus (first | exact trivial | assumption | exact ⟨by assumption, by assumption⟩ | exact mb2 rfl rfl | exact mb4 rfl rfl rfl rfl)); intro _; simp only [List.cons_append, List.nil_append]) | refine sW rfl rfl ?_ | refine sK rfl rfl ?_ | refine j_if rfl ?_ | refine j_else rfl ?_ | refine Go.Vt.jq (wl_pickT rfl rfl) rfl rfl ?_ | refine Go.Vt.jq (wl_pickF rfl rfl) rfl rfl ?_)
  rename_i b3 b6 b7 b8
  refine j_loop (S := Nat) (fun m => m ≤ j - i - 1) (fun m => [(6, .pointer (some ⟨b6, 0, none⟩)), (7, .pointer (some ⟨b7, 0, none⟩)), (8, .pointer (some ⟨b8, 0, none⟩)), (32, .slice (some ⟨b, 0 + ((i : Int) + 1).toNat * 12, none⟩) ((j : Int) - ((i : Int) + 1)).toNat ((c : Int) - ((i : Int) + 1)).toNat), (33, .int .i64 (((j : Int) - ((i : Int) + 1)).toNat : Nat)), (34, .int .i64 (m : Nat))])
    (fun m => [⟨b8, e_api_Line (q_api_Line (stl (gi pts i) (gi pts j))), 97⟩, ⟨b7, e_api_Rat (Q (dv pts i j m)), 28⟩, ⟨b6, e_api_Rat (Q 0), 28⟩]) (fun m => j - i - 1 - m) 0 (Nat.zero_le _)
    (by repeat (first | exact sub_nil | refine sub_cons rfl ?_ | refine sub_cons' rfl (by congr 1; omega) ?_)) (by repeat (first | exact List.Sublist.refl _ | exact List.nil_sublist _ | refine List.Sublist.cons_cons _ ?_ | refine List.Sublist.cons _ ?_)) (fun m hm => ?_)
  repeat (first | refine sX rfl rfl ?_ | (refine sS rfl rfl ?_ ?_; focus omega) | (refine sC rfl rfl ?_ ?_; focus (first | exact trivial | assumption | exact ⟨by assumption, by assumption⟩ | exact mb2 rfl rfl | exact mb4 rfl rfl rfl rfl)) | refine cX ?_ | refine cY ?_ | (refine sA rfl rfl ?_; intro _) | refine sT rfl ?_ | refine sF rfl ?_ | (refine sR rfl ?_ ?_; focus omega) | (refine sB rfl rfl ?_; intro _) | (refine sN rfl rfl ?_ ?_; (focus (first | exact trivial | assumption | exact ⟨by assumption, by assumption⟩ | exact mb2 rfl rfl | exact mb4 rfl rfl rfl rfl)); intro _; simp only [List.cons_append, List.nil_append]) | refine sW rfl rfl ?_ | refine sK rfl rfl ?_ | refine j_if rfl ?_ | refine j_else rfl ?_ | refine Go.Vt.jq (wl_pickT rfl rfl) rfl rfl ?_ | refine Go.Vt.jq (wl_pickF rfl rfl) rfl rfl ?_)
  refine j_cond rfl (fun h => ?_) (fun h => ?_)
  · have hlt : m < j - i - 1 := by have := of_decide_eq_true h; omega
    repeat (first | refine sX rfl rfl ?_ | (refine sS rfl rfl ?_ ?_; focus omega) | (refine sC rfl rfl ?_ ?_; focus (first | exact trivial | assumption | exact ⟨by assumption, by assumption⟩ | exact mb2 rfl rfl | exact mb4 rfl rfl rfl rfl)) | refine cX ?_ | refine cY ?_ | (refine sA rfl rfl ?_; intro _) | refine sT rfl ?_ | refine sF rfl ?_ | (refine sR rfl ?_ ?_; focus omega) | (refine sB rfl rfl ?_; intro _) | (refine sN rfl rfl ?_ ?_; (focus (first | exact trivial | assumption | exact ⟨by assumption, by assumption⟩ | exact mb2 rfl rfl | exact mb4 rfl rfl rfl rfl)); intro _; simp only [List.cons_append, List.nil_append]) | refine sW rfl rfl ?_ | refine sK rfl rfl ?_ | refine j_if rfl ?_ | refine j_else rfl ?_ | refine Go.Vt.jq (wl_pickT rfl rfl) rfl rfl ?_ | refine Go.Vt.jq (wl_pickF rfl rfl) rfl rfl ?_)
    (refine jD 9 10 mixed (by kernel_rfl) ?_; (repeat (first | refine tX rfl rfl ?_ | (refine tS rfl rfl ?_ ?_; focus omega) | (refine tC rfl rfl ?_ ?_; focus (first | exact trivial | exact ⟨rfl, mb5 rfl rfl rfl rfl rfl⟩ | exact mb4 rfl rfl rfl rfl)) | refine tW rfl rfl ?_ | refine tK rfl rfl ?_ | refine Go.Vt.hq (wl_pickT rfl rfl) rfl rfl ?_ | refine Go.Vt.hq (wl_pickF rfl rfl) rfl rfl ?_)); refine jh_nil ?_; (repeat (refine wn_new ?_; intro _)); refine jn_nil ?_)
    have h1 := M_dv hB i j m
    repeat (first | refine sX rfl rfl ?_ | (refine sS rfl rfl ?_ ?_; focus omega) | (refine sC rfl rfl ?_ ?_; focus (exact ⟨Nat.le_trans h1 (by decide), MB.lt rfl⟩)) | refine cX ?_ | refine cY ?_ | (refine sA rfl rfl ?_; intro _) | refine sT rfl ?_ | refine sF rfl ?_ | (refine sR rfl ?_ ?_; focus omega) | (refine sB rfl rfl ?_; intro _) | (refine sN rfl rfl ?_ ?_; (focus (exact ⟨Nat.le_trans h1 (by decide), MB.lt rfl⟩)); intro _; simp only [List.cons_append, List.nil_append]) | refine sW rfl rfl ?_ | refine sK rfl rfl ?_ | refine j_if rfl ?_ | refine j_else rfl ?_ | refine Go.Vt.jq (wl_pickT rfl rfl) rfl rfl ?_ | refine Go.Vt.jq (wl_pickF rfl rfl) rfl rfl ?_)
    exact jx_loop (m + 1) hlt (by repeat (first | exact sub_nil | refine sub_cons rfl ?_ | refine sub_cons' rfl (by congr 1; omega) ?_)) (by repeat (first | exact List.Sublist.refl _ | exact List.nil_sublist _ | refine List.Sublist.cons_cons _ ?_ | refine List.Sublist.cons _ ?_)) (by omega)
  · have hge : m = j - i - 1 := by have := of_decide_eq_false h; omega
    subst hge
    repeat (first | refine sX rfl rfl ?_ | (refine sS rfl rfl ?_ ?_; focus omega) | (refine sC rfl rfl ?_ ?_; focus (first | exact trivial | assumption | exact ⟨by assumption, by assumption⟩ | exact mb2 rfl rfl | exact mb4 rfl rfl rfl rfl)) | refine cX ?_ | refine cY ?_ | (refine sA rfl rfl ?_; intro _) | refine sT rfl ?_ | refine sF rfl ?_ | (refine sR rfl ?_ ?_; focus omega) | (refine sB rfl rfl ?_; intro _) | (refine sN rfl rfl ?_ ?_; (focus (first | exact trivial | assumption | exact ⟨by assumption, by assumption⟩ | exact mb2 rfl rfl | exact mb4 rfl rfl rfl rfl)); intro _; simp only [List.cons_append, List.nil_append]) | refine sW rfl rfl ?_ | refine sK rfl rfl ?_ | refine j_if rfl ?_ | refine j_else rfl ?_ | refine Go.Vt.jq (wl_pickT rfl rfl) rfl rfl ?_ | refine Go.Vt.jq (wl_pickF rfl rfl) rfl rfl ?_)
    exact wx_cell rfl rfl (fun w hw => ret_ok hw)
instance sm_dev (w0 : World) (L : List Blk) (I : R_api_Interval) (b n c : Nat) (i j : Int) (pts : List R_movingpoint_Sample) (sp : List Value) (T : TypeId) [h : AtC w0 L b (row r_movingpoint_Sample pts sp) T] : SpecM Tryd.prog w0 L 43 [vRun I b n c, .int .i64 i, .int .i64 j] (vQ (dv pts i.toNat j.toNat (j.toNat - i.toNat - 1))) ((pts.length = n ∧ n ≤ c ∧ n ≤ 1099511627776 ∧ Bnd pts) ∧ 0 ≤ i ∧ i < j ∧ j < n) := ⟨fun hp w hw => by
  obtain ⟨⟨h1, h2, h3, h4⟩, h5, h6, h7⟩ := hp
  have := dev_spec I b n c i.toNat j.toNat pts sp T h1 h2 h4 (by omega) (by omega) h3 w (h.out w hw)
  rw [show ((i.toNat : Nat) : Int) = i by omega, show ((j.toNat : Nat) : Int) = j by omega] at this
  exact this⟩
end Go.Vt
