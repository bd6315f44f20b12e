/- SimplifyNear holds for every input that the card takes. Conditions: none. (part 3 of 6.) Conditions: those that each statement names. -/
import Derived.Test.YtgcjapcminakdaaGreatDoorCards
import Derived.Test.YtgcjapcminakdaaGreatDoorTie
import Derived.WalkKit
import Derived.ProofKit
import Derived.OpenShut
import Derived.Deep.DeepHandedRow
import Derived.Deep.DeepLaidRun
import Derived.Deep.SlicePairs
import Derived.Carry
import Derived.Lib.LaidU8
import Derived.Laws.Cover3
import Derived.Laws.Pointers
import Derived.Test.YtgcjapcminakdaaGreatDoorNr2
/- Rows of structs and integers: encodings, literals, stores of parts. Written by a program (gen_row.py). Conditions: none. -/
set_option linter.unusedVariables false
set_option maxRecDepth 100000
namespace Go.Vt
open Go.RowKit Go.Proofs
abbrev r_api_Real (x : R_api_Real) : Array Value := e_api_Real (q_api_Real x)
instance : Inhabited R_api_Real := ⟨zR_api_Real⟩
instance enc_api_Real : EncC r_api_Real 9 := ⟨fun _ => CsC.size, fun _ => CsC.one⟩
abbrev r_api_Interval (x : R_api_Interval) : Array Value := e_api_Interval (q_api_Interval x)
instance : Inhabited R_api_Interval := ⟨zR_api_Interval⟩
instance enc_api_Interval : EncC r_api_Interval 20 := ⟨fun _ => CsC.size, fun _ => CsC.one⟩
abbrev r_simplify_Run (x : R_simplify_Run) : Array Value := e_simplify_Run (q_simplify_Run x)
instance : Inhabited R_simplify_Run := ⟨zR_simplify_Run⟩
instance enc_simplify_Run : EncC r_simplify_Run 21 := ⟨fun _ => CsC.size, fun _ => CsC.one⟩
abbrev r_movingpoint_Sample (x : R_movingpoint_Sample) : Array Value := e_movingpoint_Sample (q_movingpoint_Sample x)
instance : Inhabited R_movingpoint_Sample := ⟨zR_movingpoint_Sample⟩
instance enc_movingpoint_Sample : EncC r_movingpoint_Sample 12 := ⟨fun _ => CsC.size, fun _ => CsC.one⟩
abbrev r_api_PointUnit (x : R_api_PointUnit) : Array Value := e_api_PointUnit (q_api_PointUnit x)
instance : Inhabited R_api_PointUnit := ⟨zR_api_PointUnit⟩
instance enc_api_PointUnit : EncC r_api_PointUnit 36 := ⟨fun _ => CsC.size, fun _ => CsC.one⟩
abbrev r_pieces_Unit_api_Line (x : R_pieces_Unit_api_Line) : Array Value := e_pieces_Unit_api_Line (q_pieces_Unit_api_Line x)
instance : Inhabited R_pieces_Unit_api_Line := ⟨zR_pieces_Unit_api_Line⟩
instance enc_pieces_Unit_api_Line : EncC r_pieces_Unit_api_Line 36 := ⟨fun _ => CsC.size, fun _ => CsC.one⟩
instance : Inhabited viatorlaw15_Step := ⟨z_viatorlaw15_Step⟩
instance enc_viatorlaw15_Step : EncC e_viatorlaw15_Step 4 := ⟨fun _ => CsC.size, fun _ => CsC.one⟩
instance st_32_0 (x : R_api_Interval) (v : R_api_Real) : StC Tryz.prog 30 (e_api_Interval (q_api_Interval x)) 0 (.agg (e_api_Real (q_api_Real v))) (e_api_Interval (q_api_Interval { x with From := v })) := ⟨by kernel_rfl, by kernel_rfl, by kernel_rfl, by kernel_rfl⟩
instance st_32_1 (x : R_api_Interval) (v : R_api_Real) : StC Tryz.prog 30 (e_api_Interval (q_api_Interval x)) 9 (.agg (e_api_Real (q_api_Real v))) (e_api_Interval (q_api_Interval { x with To := v })) := ⟨by kernel_rfl, by kernel_rfl, by kernel_rfl, by kernel_rfl⟩
instance st_32_2 (x : R_api_Interval) (v : Bool) : StC Tryz.prog 4 (e_api_Interval (q_api_Interval x)) 18 (.bool v) (e_api_Interval (q_api_Interval { x with OpenFrom := v })) := ⟨by kernel_rfl, by kernel_rfl, by kernel_rfl, by kernel_rfl⟩
instance st_32_3 (x : R_api_Interval) (v : Bool) : StC Tryz.prog 4 (e_api_Interval (q_api_Interval x)) 19 (.bool v) (e_api_Interval (q_api_Interval { x with OpenTo := v })) := ⟨by kernel_rfl, by kernel_rfl, by kernel_rfl, by kernel_rfl⟩
instance st_35_0_1 (x : R_simplify_Run) (v : R_api_Real) : StC Tryz.prog 30 (e_simplify_Run (q_simplify_Run x)) 9 (.agg (e_api_Real (q_api_Real v))) (e_simplify_Run (q_simplify_Run { x with In := { x.In with To := v } })) := ⟨by kernel_rfl, by kernel_rfl, by kernel_rfl, by kernel_rfl⟩
instance st_35_0_3 (x : R_simplify_Run) (v : Bool) : StC Tryz.prog 4 (e_simplify_Run (q_simplify_Run x)) 19 (.bool v) (e_simplify_Run (q_simplify_Run { x with In := { x.In with OpenTo := v } })) := ⟨by kernel_rfl, by kernel_rfl, by kernel_rfl, by kernel_rfl⟩
instance st_35_1 (x : R_simplify_Run) (a : Option Addr) (l c : Nat) : StC Tryz.prog 33 (e_simplify_Run (q_simplify_Run x)) 20 (.slice a l c) (e_simplify_Run (q_simplify_Run { x with Points := ⟨a, l, c⟩ })) := ⟨by kernel_rfl, by kernel_rfl, by kernel_rfl, by kernel_rfl⟩
instance st_47_1 (x : R_movingpoint_Sample) (v : R_api_Point) : StC Tryz.prog 45 (e_movingpoint_Sample (q_movingpoint_Sample x)) 4 (.agg (e_api_Point (q_api_Point v))) (e_movingpoint_Sample (q_movingpoint_Sample { x with P := v })) := ⟨by kernel_rfl, by kernel_rfl, by kernel_rfl, by kernel_rfl⟩
instance st_163_0_1 (x : R_pieces_Unit_api_Line) (v : R_api_Real) : StC Tryz.prog 30 (e_pieces_Unit_api_Line (q_pieces_Unit_api_Line x)) 9 (.agg (e_api_Real (q_api_Real v))) (e_pieces_Unit_api_Line (q_pieces_Unit_api_Line { x with In := { x.In with To := v } })) := ⟨by kernel_rfl, by kernel_rfl, by kernel_rfl, by kernel_rfl⟩
instance st_163_0_2 (x : R_pieces_Unit_api_Line) (v : Bool) : StC Tryz.prog 4 (e_pieces_Unit_api_Line (q_pieces_Unit_api_Line x)) 18 (.bool v) (e_pieces_Unit_api_Line (q_pieces_Unit_api_Line { x with In := { x.In with OpenFrom := v } })) := ⟨by kernel_rfl, by kernel_rfl, by kernel_rfl, by kernel_rfl⟩
instance st_163_0_3 (x : R_pieces_Unit_api_Line) (v : Bool) : StC Tryz.prog 4 (e_pieces_Unit_api_Line (q_pieces_Unit_api_Line x)) 19 (.bool v) (e_pieces_Unit_api_Line (q_pieces_Unit_api_Line { x with In := { x.In with OpenTo := v } })) := ⟨by kernel_rfl, by kernel_rfl, by kernel_rfl, by kernel_rfl⟩
instance st_163_1 (x : R_pieces_Unit_api_Line) (v : R_api_Line) : StC Tryz.prog 66 (e_pieces_Unit_api_Line (q_pieces_Unit_api_Line x)) 20 (.agg (e_api_Line (q_api_Line v))) (e_pieces_Unit_api_Line (q_pieces_Unit_api_Line { x with F := v })) := ⟨by kernel_rfl, by kernel_rfl, by kernel_rfl, by kernel_rfl⟩
theorem bsr_33_1 (x0 : R_movingpoint_Sample) (w : World) : (Instr.buildSlice 33 1 [(0, .agg (e_movingpoint_Sample (q_movingpoint_Sample x0)))].toArray).run Tryz.prog w = .ok (.slice (some ⟨w.heap.size, 0, none⟩) 1 1) (w.alloc (.cells (row (r_movingpoint_Sample) [x0] []) 47)) := by kernel_rfl
instance (priority := high) bsi_33_1 (x0 : R_movingpoint_Sample) : BsC Tryz.prog 33 1 [(0, .agg (e_movingpoint_Sample (q_movingpoint_Sample x0)))] (row (r_movingpoint_Sample) [x0] []) 47 := ⟨bsr_33_1 x0⟩
theorem bsr_33_3 (x0 x1 x2 : R_movingpoint_Sample) (w : World) : (Instr.buildSlice 33 3 [(0, .agg (e_movingpoint_Sample (q_movingpoint_Sample x0))), (1, .agg (e_movingpoint_Sample (q_movingpoint_Sample x1))), (2, .agg (e_movingpoint_Sample (q_movingpoint_Sample x2)))].toArray).run Tryz.prog w = .ok (.slice (some ⟨w.heap.size, 0, none⟩) 3 3) (w.alloc (.cells (row (r_movingpoint_Sample) [x0, x1, x2] []) 47)) := by kernel_rfl
instance (priority := high) bsi_33_3 (x0 x1 x2 : R_movingpoint_Sample) : BsC Tryz.prog 33 3 [(0, .agg (e_movingpoint_Sample (q_movingpoint_Sample x0))), (1, .agg (e_movingpoint_Sample (q_movingpoint_Sample x1))), (2, .agg (e_movingpoint_Sample (q_movingpoint_Sample x2)))] (row (r_movingpoint_Sample) [x0, x1, x2] []) 47 := ⟨bsr_33_3 x0 x1 x2⟩
theorem bsr_33_5 (x0 x1 x2 x3 x4 : R_movingpoint_Sample) (w : World) : (Instr.buildSlice 33 5 [(0, .agg (e_movingpoint_Sample (q_movingpoint_Sample x0))), (1, .agg (e_movingpoint_Sample (q_movingpoint_Sample x1))), (2, .agg (e_movingpoint_Sample (q_movingpoint_Sample x2))), (3, .agg (e_movingpoint_Sample (q_movingpoint_Sample x3))), (4, .agg (e_movingpoint_Sample (q_movingpoint_Sample x4)))].toArray).run Tryz.prog w = .ok (.slice (some ⟨w.heap.size, 0, none⟩) 5 5) (w.alloc (.cells (row (r_movingpoint_Sample) [x0, x1, x2, x3, x4] []) 47)) := by kernel_rfl
instance (priority := high) bsi_33_5 (x0 x1 x2 x3 x4 : R_movingpoint_Sample) : BsC Tryz.prog 33 5 [(0, .agg (e_movingpoint_Sample (q_movingpoint_Sample x0))), (1, .agg (e_movingpoint_Sample (q_movingpoint_Sample x1))), (2, .agg (e_movingpoint_Sample (q_movingpoint_Sample x2))), (3, .agg (e_movingpoint_Sample (q_movingpoint_Sample x3))), (4, .agg (e_movingpoint_Sample (q_movingpoint_Sample x4)))] (row (r_movingpoint_Sample) [x0, x1, x2, x3, x4] []) 47 := ⟨bsr_33_5 x0 x1 x2 x3 x4⟩
theorem bsr_41_1 (x0 : R_api_PointUnit) (w : World) : (Instr.buildSlice 41 1 [(0, .agg (e_api_PointUnit (q_api_PointUnit x0)))].toArray).run Tryz.prog w = .ok (.slice (some ⟨w.heap.size, 0, none⟩) 1 1) (w.alloc (.cells (row (r_api_PointUnit) [x0] []) 68)) := by kernel_rfl
instance (priority := high) bsi_41_1 (x0 : R_api_PointUnit) : BsC Tryz.prog 41 1 [(0, .agg (e_api_PointUnit (q_api_PointUnit x0)))] (row (r_api_PointUnit) [x0] []) 68 := ⟨bsr_41_1 x0⟩
theorem bsr_62_1 (x0 : R_simplify_Run) (w : World) : (Instr.buildSlice 62 1 [(0, .agg (e_simplify_Run (q_simplify_Run x0)))].toArray).run Tryz.prog w = .ok (.slice (some ⟨w.heap.size, 0, none⟩) 1 1) (w.alloc (.cells (row (r_simplify_Run) [x0] []) 35)) := by kernel_rfl
instance (priority := high) bsi_62_1 (x0 : R_simplify_Run) : BsC Tryz.prog 62 1 [(0, .agg (e_simplify_Run (q_simplify_Run x0)))] (row (r_simplify_Run) [x0] []) 35 := ⟨bsr_62_1 x0⟩
theorem bsr_87_1 (x0 : R_api_Interval) (w : World) : (Instr.buildSlice 87 1 [(0, .agg (e_api_Interval (q_api_Interval x0)))].toArray).run Tryz.prog w = .ok (.slice (some ⟨w.heap.size, 0, none⟩) 1 1) (w.alloc (.cells (row (r_api_Interval) [x0] []) 32)) := by kernel_rfl
instance (priority := high) bsi_87_1 (x0 : R_api_Interval) : BsC Tryz.prog 87 1 [(0, .agg (e_api_Interval (q_api_Interval x0)))] (row (r_api_Interval) [x0] []) 32 := ⟨bsr_87_1 x0⟩
theorem bsr_89_1 (x0 : Int) (w : World) : (Instr.buildSlice 89 1 [(0, .int .i64 x0)].toArray).run Tryz.prog w = .ok (.slice (some ⟨w.heap.size, 0, none⟩) 1 1) (w.alloc (.cells (row (eI .i64) [x0] []) 3)) := by kernel_rfl
instance (priority := high) bsi_89_1 (x0 : Int) : BsC Tryz.prog 89 1 [(0, .int .i64 x0)] (row (eI .i64) [x0] []) 3 := ⟨bsr_89_1 x0⟩
theorem bsr_89_2 (x0 x1 : Int) (w : World) : (Instr.buildSlice 89 2 [(0, .int .i64 x0), (1, .int .i64 x1)].toArray).run Tryz.prog w = .ok (.slice (some ⟨w.heap.size, 0, none⟩) 2 2) (w.alloc (.cells (row (eI .i64) [x0, x1] []) 3)) := by kernel_rfl
instance (priority := high) bsi_89_2 (x0 x1 : Int) : BsC Tryz.prog 89 2 [(0, .int .i64 x0), (1, .int .i64 x1)] (row (eI .i64) [x0, x1] []) 3 := ⟨bsr_89_2 x0 x1⟩
theorem bsr_89_3 (x0 x1 x2 : Int) (w : World) : (Instr.buildSlice 89 3 [(0, .int .i64 x0), (1, .int .i64 x1), (2, .int .i64 x2)].toArray).run Tryz.prog w = .ok (.slice (some ⟨w.heap.size, 0, none⟩) 3 3) (w.alloc (.cells (row (eI .i64) [x0, x1, x2] []) 3)) := by kernel_rfl
instance (priority := high) bsi_89_3 (x0 x1 x2 : Int) : BsC Tryz.prog 89 3 [(0, .int .i64 x0), (1, .int .i64 x1), (2, .int .i64 x2)] (row (eI .i64) [x0, x1, x2] []) 3 := ⟨bsr_89_3 x0 x1 x2⟩
theorem bsr_89_5 (x0 x1 x2 x3 x4 : Int) (w : World) : (Instr.buildSlice 89 5 [(0, .int .i64 x0), (1, .int .i64 x1), (2, .int .i64 x2), (3, .int .i64 x3), (4, .int .i64 x4)].toArray).run Tryz.prog w = .ok (.slice (some ⟨w.heap.size, 0, none⟩) 5 5) (w.alloc (.cells (row (eI .i64) [x0, x1, x2, x3, x4] []) 3)) := by kernel_rfl
instance (priority := high) bsi_89_5 (x0 x1 x2 x3 x4 : Int) : BsC Tryz.prog 89 5 [(0, .int .i64 x0), (1, .int .i64 x1), (2, .int .i64 x2), (3, .int .i64 x3), (4, .int .i64 x4)] (row (eI .i64) [x0, x1, x2, x3, x4] []) 3 := ⟨bsr_89_5 x0 x1 x2 x3 x4⟩
theorem bsr_116_1 (x0 : R_pieces_Unit_api_Line) (w : World) : (Instr.buildSlice 116 1 [(0, .agg (e_pieces_Unit_api_Line (q_pieces_Unit_api_Line x0)))].toArray).run Tryz.prog w = .ok (.slice (some ⟨w.heap.size, 0, none⟩) 1 1) (w.alloc (.cells (row (r_pieces_Unit_api_Line) [x0] []) 163)) := by kernel_rfl
instance (priority := high) bsi_116_1 (x0 : R_pieces_Unit_api_Line) : BsC Tryz.prog 116 1 [(0, .agg (e_pieces_Unit_api_Line (q_pieces_Unit_api_Line x0)))] (row (r_pieces_Unit_api_Line) [x0] []) 163 := ⟨bsr_116_1 x0⟩
theorem bsr_128_1 (x0 : R_api_Real) (w : World) : (Instr.buildSlice 128 1 [(0, .agg (e_api_Real (q_api_Real x0)))].toArray).run Tryz.prog w = .ok (.slice (some ⟨w.heap.size, 0, none⟩) 1 1) (w.alloc (.cells (row (r_api_Real) [x0] []) 30)) := by kernel_rfl
instance (priority := high) bsi_128_1 (x0 : R_api_Real) : BsC Tryz.prog 128 1 [(0, .agg (e_api_Real (q_api_Real x0)))] (row (r_api_Real) [x0] []) 30 := ⟨bsr_128_1 x0⟩
end Go.Vt
/- Straight ways between samples and their deviations. Conditions: the lengths and indexes that each statement names. -/
set_option linter.unusedSimpArgs false
set_option linter.unusedVariables false
set_option maxHeartbeats 2000000
set_option maxRecDepth 100000
namespace Go.Vt
open Go.RowKit Go.Proofs
abbrev vLn (f : R_api_Line) : Value := .agg (e_api_Line (q_api_Line f))
abbrev vRun (r : R_api_Interval) (b n c : Nat) : Value := .agg (e_simplify_Run (q_simplify_Run ⟨r, ⟨some ⟨b, 0, none⟩, n, c⟩⟩))
def stl (a b : R_movingpoint_Sample) : R_api_Line := ⟨(lin a.T a.P.X b.T b.P.X).C0, (lin a.T a.P.X b.T b.P.X).C1, (lin a.T a.P.Y b.T b.P.Y).C0, (lin a.T a.P.Y b.T b.P.Y).C1⟩
/-- The position of a line at a rational instant. -/
def pos (f : R_api_Line) (t : Rat) : R_api_Point := ⟨f.X0 + t * (f.X1 + t * 0), f.Y0 + t * (f.Y1 + t * 0)⟩
instance mb_lin0 (t v u x : Rat) (i j k l : Nat) [h1 : MB t i] [h2 : MB v j] [h3 : MB u k] [h4 : MB x l] : MB (lin t v u x).C0 (2 * i + 2 * j + k + l + 4) := ⟨by
  unfold lin
  split
  · exact Nat.le_trans (mb_zero.out) (by omega)
  · have := (inferInstance : MB (v - (x - v) / (u - t) * t) _).out
    simp only
    omega⟩
instance mb_lin1 (t v u x : Rat) (i j k l : Nat) [h1 : MB t i] [h2 : MB v j] [h3 : MB u k] [h4 : MB x l] : MB (lin t v u x).C1 (i + j + k + l + 3) := ⟨by
  unfold lin
  split
  · exact Nat.le_trans (mb_zero.out) (by omega)
  · have := (inferInstance : MB ((x - v) / (u - t)) _).out
    simp only
    omega⟩
instance mb_stlX0 (a b : R_movingpoint_Sample) (i j k l : Nat) [MB a.T i] [MB a.P.X j] [MB b.T k] [MB b.P.X l] : MB (stl a b).X0 (2 * i + 2 * j + k + l + 4) := inferInstanceAs (MB (lin a.T a.P.X b.T b.P.X).C0 _)
instance mb_stlX1 (a b : R_movingpoint_Sample) (i j k l : Nat) [MB a.T i] [MB a.P.X j] [MB b.T k] [MB b.P.X l] : MB (stl a b).X1 (i + j + k + l + 3) := inferInstanceAs (MB (lin a.T a.P.X b.T b.P.X).C1 _)
instance mb_stlY0 (a b : R_movingpoint_Sample) (i j k l : Nat) [MB a.T i] [MB a.P.Y j] [MB b.T k] [MB b.P.Y l] : MB (stl a b).Y0 (2 * i + 2 * j + k + l + 4) := inferInstanceAs (MB (lin a.T a.P.Y b.T b.P.Y).C0 _)
instance mb_stlY1 (a b : R_movingpoint_Sample) (i j k l : Nat) [MB a.T i] [MB a.P.Y j] [MB b.T k] [MB b.P.Y l] : MB (stl a b).Y1 (i + j + k + l + 3) := inferInstanceAs (MB (lin a.T a.P.Y b.T b.P.Y).C1 _)
instance mb_posX (f : R_api_Line) (t : Rat) (i j k : Nat) [MB f.X0 i] [MB f.X1 j] [MB t k] : MB (pos f t).X (i + (k + (j + (k + 1) + 1)) + 1) := inferInstanceAs (MB (f.X0 + t * (f.X1 + t * 0)) _)
instance mb_posY (f : R_api_Line) (t : Rat) (i j k : Nat) [MB f.Y0 i] [MB f.Y1 j] [MB t k] : MB (pos f t).Y (i + (k + (j + (k + 1) + 1)) + 1) := inferInstanceAs (MB (f.Y0 + t * (f.Y1 + t * 0)) _)
theorem mb5 {p q r s t : Rat} {i j k l m A B C D F : Nat} [MB p i] [MB q j] [MB r k] [MB s l] [MB t m] (h1 : Nat.ble i A = true) (h2 : Nat.ble j B = true) (h3 : Nat.ble k C = true) (h4 : Nat.ble l D = true) (h5 : Nat.ble m F = true) : M p ≤ A ∧ M q ≤ B ∧ M r ≤ C ∧ M s ≤ D ∧ M t ≤ F := ⟨MB.lt h1, MB.lt h2, MB.lt h3, MB.lt h4, MB.lt h5⟩
instance sp_straight (a b : R_movingpoint_Sample) : SpecC Tryz.prog 70 [vS a, vS b] (vLn (stl a b)) ((M a.T ≤ 34359738368 ∧ M a.P.X ≤ 34359738368 ∧ M a.P.Y ≤ 34359738368) ∧ (M b.T ≤ 34359738368 ∧ M b.P.X ≤ 34359738368 ∧ M b.P.Y ≤ 34359738368)) := ⟨fun hp w => by
  obtain ⟨⟨h1, h2, h3⟩, h4, h5, h6⟩ := hp
  refine fn_intro Tryz.func70 rfl Tryz.ntmps70 rfl ?_
  repeat (first | (refine wkB ?_; try intro _) | (refine sC rfl rfl ?_ ?_; focus (exact ⟨by assumption, by assumption, by assumption, by assumption⟩)) | (refine sN rfl rfl ?_ ?_; (focus (exact ⟨by assumption, by assumption, by assumption, by assumption⟩)); intro _; (try simp only [List.cons_append, List.nil_append, List.append_nil])))
  exact wx_cell rfl rfl (fun w hw => ret_ok hw)⟩
instance sp_sample (f : R_api_Line) (t : R_api_Real) : SpecC Tryz.prog 77 [vLn f, vR t] (vS ⟨t.P, pos f t.P⟩) (t.R = 0 ∧ M t.P ≤ 34359738368 ∧ M f.X0 ≤ 34359738368 ∧ M f.X1 ≤ 34359738368 ∧ M f.Y0 ≤ 34359738368 ∧ M f.Y1 ≤ 34359738368) := ⟨fun hp w => by
  obtain ⟨h0, h1, h2, h3, h4, h5⟩ := hp
  have h6 : M 0 ≤ 34359738368 := Nat.le_trans mb_zero.out (by decide)
  refine fn_intro Tryz.func77 rfl Tryz.ntmps77 rfl ?_
  repeat (refine wkB ?_; try intro _)
  simp only [if_pos h0]
  (refine jD 7 8 (h := ?_); (repeat (first | refine wkH ?_ | (refine tC rfl rfl ?_ ?_; focus (first | exact trivial | exact ⟨by assumption, by assumption, by assumption, by assumption⟩)))); refine jh_nil ?_; (repeat (refine wn_new ?_; intro _)); refine jn_nil ?_)
  repeat (refine wkB ?_; try intro _)
  (refine jD 7 8 (h := ?_); (repeat (first | refine wkH ?_ | (refine tC rfl rfl ?_ ?_; focus (first | exact trivial | exact ⟨by assumption, by assumption, by assumption, by assumption⟩)))); refine jh_nil ?_; (repeat (refine wn_new ?_; intro _)); refine jn_nil ?_)
  repeat (refine wkB ?_; try intro _)
  exact wx_cell rfl rfl (fun w hw => ret_ok hw)⟩
abbrev PB : Nat := 1048576
/-- The samples are short. -/
def Bnd (pts : List R_movingpoint_Sample) : Prop := ∀ i : Int, M (gi pts i).T ≤ PB ∧ M (gi pts i).P.X ≤ PB ∧ M (gi pts i).P.Y ≤ PB
/-- The greatest squared distance of the breakpoints behind 'i', of which there are 'n', from the straight way from 'i' to 'j'. -/
def dv (pts : List R_movingpoint_Sample) (i j : Nat) : Nat → Rat
  | 0 => 0
  | n + 1 => max (dv pts i j n) (d2 (gi pts ((i : Int) + 1 + n)).P (pos (stl (gi pts (i : Int)) (gi pts (j : Int))) (gi pts ((i : Int) + 1 + n)).T))
theorem M_max (a b : Rat) : M (max a b) ≤ max (M a) (M b) := by rw [Rat.max_def]; split <;> omega
theorem M_dv {pts : List R_movingpoint_Sample} (hB : Bnd pts) (i j : Nat) : ∀ n, M (dv pts i j n) ≤ 67108864
  | 0 => Nat.le_trans mb_zero.out (by decide)
  | n + 1 => by
    have g1 : ∀ i, MB (gi pts i).T PB := fun i => ⟨(hB i).1⟩
    have g2 : ∀ i, MB (gi pts i).P.X PB := fun i => ⟨(hB i).2.1⟩
    have g3 : ∀ i, MB (gi pts i).P.Y PB := fun i => ⟨(hB i).2.2⟩
    have h1 := M_dv hB i j n
    have h2 : M (d2 (gi pts ((i : Int) + 1 + n)).P (pos (stl (gi pts (i : Int)) (gi pts (j : Int))) (gi pts ((i : Int) + 1 + n)).T)) ≤ 67108864 := by
      exact MB.lt rfl
    exact Nat.le_trans (M_max _ _) (by omega)
theorem dev_spec (I : R_api_Interval) (b n c i j : Nat) (pts : List R_movingpoint_Sample) (sp : List Value) (T : TypeId) (hn : pts.length = n) (hc : n ≤ c) (hB : Bnd pts) (hij : i < j) (hj : j < n) (h63 : n ≤ 1099511627776) (w : World) (hw : ∃ fz, w.heap[b]? = some (.cells (row r_movingpoint_Sample pts sp) T fz)) :
    Calls Tryz.prog 46 [vRun I b n c, .int .i64 i, .int .i64 j].toArray w (Ret (vQ (dv pts i j (j - i - 1))) w) := by
  have := FoC.mk hw
  have g1 : ∀ i, MB (gi pts i).T PB := fun i => ⟨(hB i).1⟩
  have g2 : ∀ i, MB (gi pts i).P.X PB := fun i => ⟨(hB i).2.1⟩
  have g3 : ∀ i, MB (gi pts i).P.Y PB := fun i => ⟨(hB i).2.2⟩
  refine fn_intro Tryz.func46 rfl Tryz.ntmps46 rfl ?_
  repeat (refine wkB ?_; try intro _)
  refine j_cond rfl (fun h => ?_) (fun h => ?_)
  · have := of_decide_eq_true h
    omega
  repeat (refine wkB ?_; try intro _)
  (refine jD 11 12 (h := ?_); (repeat (first | refine wkH ?_ | (refine tC rfl rfl ?_ ?_; focus (exact ⟨mb3 rfl rfl rfl, mb3 rfl rfl rfl⟩)))); refine jh_nil ?_; (repeat (refine wn_new ?_; intro _)); refine jn_nil ?_)
  repeat (refine wkB ?_; try intro _)
  rename_i b3 b6 b7 b8
  refine j_loop (S := Nat) (fun m => m ≤ j - i - 1) (fun m => [(6, .pointer (some ⟨b6, 0, none⟩)), (7, .pointer (some ⟨b7, 0, none⟩)), (8, .pointer (some ⟨b8, 0, none⟩)), (32, .slice (some ⟨b, 0 + ((i : Int) + 1).toNat * 12, none⟩) ((j : Int) - ((i : Int) + 1)).toNat ((c : Int) - ((i : Int) + 1)).toNat), (33, .int .i64 (((j : Int) - ((i : Int) + 1)).toNat : Nat)), (34, .int .i64 (m : Nat))])
    (fun m => [⟨b8, e_api_Line (q_api_Line (stl (gi pts i) (gi pts j))), 66⟩, ⟨b7, e_api_Rat (Q (dv pts i j m)), 28⟩, ⟨b6, e_api_Rat (Q 0), 28⟩]) (fun m => j - i - 1 - m) 0 (Nat.zero_le _)
    sbB slB (fun m hm => ?_)
  repeat (refine wkB ?_; try intro _)
  refine j_cond rfl (fun h => ?_) (fun h => ?_)
  · have hlt : m < j - i - 1 := by have := of_decide_eq_true h; omega
    repeat (refine wkB ?_; try intro _)
    (refine jD 9 10 (h := ?_); (repeat (first | refine wkH ?_ | (refine tC rfl rfl ?_ ?_; focus (first | exact trivial | exact ⟨rfl, mb5 rfl rfl rfl rfl rfl⟩ | exact mb4 rfl rfl rfl rfl)))); refine jh_nil ?_; (repeat (refine wn_new ?_; intro _)); refine jn_nil ?_)
    have h1 := M_dv hB i j m
    repeat (first | (refine wkB ?_; try intro _) | (refine sC rfl rfl ?_ ?_; focus (exact ⟨Nat.le_trans h1 (by decide), MB.lt rfl⟩)) | (refine sN rfl rfl ?_ ?_; (focus (exact ⟨Nat.le_trans h1 (by decide), MB.lt rfl⟩)); intro _; (try simp only [List.cons_append, List.nil_append, List.append_nil])))
    exact jx_loop (m + 1) hlt sbB slB (by omega)
  · have hge : m = j - i - 1 := by have := of_decide_eq_false h; omega
    subst hge
    repeat (refine wkB ?_; try intro _)
    exact wx_cell rfl rfl (fun w hw => ret_ok hw)
instance sm_dev (w0 : World) (L : List Blk) (I : R_api_Interval) (b n c : Nat) (i j : Int) (pts : List R_movingpoint_Sample) (sp : List Value) (T : TypeId) [h : AtC w0 L b (row r_movingpoint_Sample pts sp) T] : SpecM Tryz.prog w0 L 46 [vRun I b n c, .int .i64 i, .int .i64 j] (vQ (dv pts i.toNat j.toNat (j.toNat - i.toNat - 1))) ((pts.length = n ∧ n ≤ c ∧ n ≤ 1099511627776 ∧ Bnd pts) ∧ 0 ≤ i ∧ i < j ∧ j < n) := ⟨fun hp w hw => by
  obtain ⟨⟨h1, h2, h3, h4⟩, h5, h6, h7⟩ := hp
  have := dev_spec I b n c i.toNat j.toNat pts sp T h1 h2 h4 (by omega) (by omega) h3 w (h.out w hw)
  rw [show ((i.toNat : Nat) : Int) = i by omega, show ((j.toNat : Nat) : Int) = j by omega] at this
  exact this⟩
end Go.Vt
/- The reference's deviations, and the functions on lists of indexes. Conditions: the lengths and indexes that each statement names. -/
set_option linter.unusedSimpArgs false
set_option linter.unusedVariables false
set_option maxHeartbeats 2000000
set_option maxRecDepth 100000
namespace Go.Vt
open Go.RowKit Go.Proofs
def btw (a b : R_movingpoint_Sample) (t : Rat) : R_api_Point := if b.T - a.T = 0 then a.P else ⟨a.P.X + (b.P.X - a.P.X) * ((t - a.T) / (b.T - a.T)), a.P.Y + (b.P.Y - a.P.Y) * ((t - a.T) / (b.T - a.T))⟩
theorem btw_pos (a b : R_movingpoint_Sample) (t : Rat) (h : a.T < b.T) : pos (stl a b) t = btw a b t := by
  have h1 : b.T - a.T ≠ 0 := by grind
  unfold pos stl btw lin
  simp only [if_neg h1]
  congr 1 <;> grind
abbrev vL (b : Nat) (xs : List Int) (c : Nat) : Value := .slice (some ⟨b, 0, none⟩) xs.length c
theorem same_spec (a b ca cb : Nat) (xs ys : List Int) (spx spy : List Value) (Tx Ty : TypeId) (hx : xs.length ≤ 1099511627776) (w : World) (hwx : ∃ fz, w.heap[a]? = some (.cells (row (eI .i64) xs spx) Tx fz)) (hwy : ∃ fz, w.heap[b]? = some (.cells (row (eI .i64) ys spy) Ty fz)) :
    Calls Tryz.prog 43 [vL a xs ca, vL b ys cb].toArray w (Ret (.bool (decide (xs = ys))) w) := by
  have := FoC.mk hwx
  have := FoC.mk hwy
  refine fn_intro Tryz.func43 rfl Tryz.ntmps43 rfl ?_
  repeat (refine wkB ?_; try intro _)
  refine j_cond rfl (fun h => ?_) (fun h => ?_)
  · have hl : ¬ xs.length = ys.length := by
      have : ¬ (xs.length : Int) = ys.length := by simpa using h
      omega
    repeat (refine wkB ?_; try intro _)
    rw [decide_eq_false (fun h => hl (by rw [h]))]
    exact jx_ret_tmp rfl rfl (fun w hw => ret_ok hw)
  have hl : xs.length = ys.length := by
    have : (xs.length : Int) = ys.length := by simpa using h
    omega
  repeat (refine wkB ?_; try intro _)
  refine j_loop (S := Nat) (fun m => m ≤ xs.length ∧ xs.take m = ys.take m) (fun m => [(0, vL a xs ca), (1, vL b ys cb), (5, .int .i64 (m : Nat))]) (fun _ => []) (fun m => xs.length - m) 0 ⟨Nat.zero_le _, by simp⟩ sbB sbl (fun m hm => ?_)
  obtain ⟨hm, ht⟩ := hm
  repeat (refine wkB ?_; try intro _)
  refine j_cond rfl (fun h => ?_) (fun h => ?_)
  · have hlt : m < xs.length := by have := of_decide_eq_true h; omega
    repeat (refine wkB ?_; try intro _)
    (refine jD 9 9 (h := ?_); (repeat (refine wkH ?_)); refine jh_nil ?_; (repeat (refine wn_new ?_; intro _)); refine jn_nil ?_)
    repeat (refine wkB ?_; try intro _)
    rw [gi_nat hlt, gi_nat (xs := ys) (by omega)]
    refine j_cond rfl (fun h => ?_) (fun h => ?_)
    · have hne : ¬ xs[m] = ys[m] := by simpa using h
      repeat (refine wkB ?_; try intro _)
      rw [decide_eq_false (fun h => hne (by subst h; rfl))]
      exact jx_ret_tmp rfl rfl (fun w hw => ret_ok hw)
    · have heq : xs[m] = ys[m] := by simpa using h
      repeat (refine wkB ?_; try intro _)
      exact jx_loop (m + 1) ⟨hlt, by rw [List.take_succ_eq_append_getElem hlt, List.take_succ_eq_append_getElem (by omega), ht, heq]⟩ sbB sbl (by omega)
  · have hge : m = xs.length := by have := of_decide_eq_false h; omega
    subst hge
    rw [List.take_of_length_le (Nat.le_refl _), List.take_of_length_le (by omega)] at ht
    repeat (refine wkB ?_; try intro _)
    rw [decide_eq_true ht]
    exact jx_ret_tmp rfl rfl (fun w hw => ret_ok hw)
end Go.Vt
/- The best kept breakpoints: the program's table. Conditions: the lengths that each statement names. -/
set_option linter.unusedSimpArgs false
set_option linter.unusedVariables false
set_option maxHeartbeats 2000000
set_option maxRecDepth 100000
namespace Go.Vt
open Go.RowKit Go.Proofs
/-- The samples of a run in memory: how many, how short. -/
def RunOk (pts : List R_movingpoint_Sample) (n c : Nat) : Prop := pts.length = n ∧ n ≤ c ∧ n ≤ 1099511627776 ∧ Bnd pts
/-- Is the straight way from 'i' to 'k' enough? -/
def okd (pts : List R_movingpoint_Sample) (mo : Rat) (i k : Nat) : Bool := decide (dv pts i k (k - i - 1) ≤ mo)
abbrev rS := r_movingpoint_Sample
abbrev cRun (r : R_api_Interval) (b n c : Nat) : Array Value := e_simplify_Run (q_simplify_Run ⟨r, ⟨some ⟨b, 0, none⟩, n, c⟩⟩)
theorem enough1_spec (I : R_api_Interval) (b n c i j b1 b2 : Nat) (mo : Rat) (pts : List R_movingpoint_Sample) (sp : List Value) (T T1 T2 : TypeId) (hr : RunOk pts n c) (hmo : M mo ≤ LQ) (hij : i < j) (hj : j < n) (w : World) (hw : ∃ fz, w.heap[b]? = some (.cells (row rS pts sp) T fz)) (hw1 : ∃ fz, w.heap[b1]? = some (.cells (cRun I b n c) T1 fz)) (hw2 : ∃ fz, w.heap[b2]? = some (.cells (e_api_Rat (Q mo)) T2 fz)) :
    Calls Tryz.prog 130 [.int .i64 i, .int .i64 j, .pointer (some ⟨b1, 0, none⟩), .pointer (some ⟨b2, 0, none⟩)].toArray w (Ret (.bool (okd pts mo i j)) w) := by
  have := FoC.mk hw
  have := FoC.mk hw1
  have := FoC.mk hw2
  have h1 := M_dv hr.2.2.2 i j (j - i - 1)
  refine fn_intro Tryz.func130 rfl Tryz.ntmps130 rfl ?_
  repeat (refine wkB ?_; try intro _)
  (refine jD 7 7 (h := ?_); (repeat (first | refine wkH ?_ | (refine tC rfl rfl ?_ ?_; focus (first | exact ⟨hr, by omega, by omega, by omega⟩ | exact ⟨Nat.le_trans h1 (by decide), hmo⟩)))); refine jh_nil ?_; (repeat (refine wn_new ?_; intro _)); refine jn_nil ?_)
  repeat (refine wkB ?_; try intro _)
  simp only [Int.toNat_natCast]
  rw [show decide (cq (dv pts i j (j - i - 1)) mo ≤ 0) = okd pts mo i j by unfold okd; rw [decide_eq_decide]; exact cq_le]
  exact jx_ret_tmp rfl rfl (fun w hw => ret_ok hw)
instance sm_enough1 (w0 : World) (L : List Blk) (I : R_api_Interval) (b n c b1 b2 : Nat) (i j : Int) (mo : Rat) (pts : List R_movingpoint_Sample) (sp : List Value) (T T1 T2 : TypeId) [h1 : AtC w0 L b1 (cRun I b n c) T1] [h2 : AtC w0 L b2 (e_api_Rat (Q mo)) T2] [h : AtC w0 L b (row rS pts sp) T] : SpecM Tryz.prog w0 L 130 [.int .i64 i, .int .i64 j, .pointer (some ⟨b1, 0, none⟩), .pointer (some ⟨b2, 0, none⟩)] (.bool (okd pts mo i.toNat j.toNat)) (RunOk pts n c ∧ M mo ≤ LQ ∧ 0 ≤ i ∧ i < j ∧ j < n) := ⟨fun hp w hw => by
  obtain ⟨g1, g2, g3, g4, g5⟩ := hp
  have := enough1_spec I b n c i.toNat j.toNat b1 b2 mo pts sp T T1 T2 g1 g2 (by omega) (by omega) w (h.out w hw) (h1.out w hw) (h2.out w hw)
  rw [show ((i.toNat : Nat) : Int) = i by omega, show ((j.toNat : Nat) : Int) = j by omega] at this
  exact this⟩
instance sr_enough (w0 : World) (L : List Blk) (I : R_api_Interval) (b n c : Nat) (d : Rat) : SpecR Tryz.prog w0 L 90 [vRun I b n c, vQ d] (Nat × Nat) (fun s => .func (.func 130) #[] #[.pointer (some ⟨s.1, 0, none⟩), .pointer (some ⟨s.2, 0, none⟩)]) (fun s => [⟨s.2, e_api_Rat (Q (d * d)), 28⟩, ⟨s.1, cRun I b n c, 35⟩]) (M d ≤ LQ) := ⟨fun hp w _ => by
  refine fn_intro Tryz.func90 rfl Tryz.ntmps90 rfl ?_
  repeat (refine wkB ?_; try intro _)
  rename_i b1 b2 b3
  exact jx_ret_tmp rfl rfl (fun w hw => ⟨(b1, b3), rfl, hw.sub sbl⟩)⟩
theorem gi_set {xs : List Int} {i j : Nat} {z : Int} (hi : i < xs.length) : gi (xs.set i z) (j : Int) = if i = j then z else gi xs (j : Int) := by
  unfold gi
  simp only [Int.toNat_natCast, List.getD_eq_getElem?_getD, List.getElem?_set]
  split
  · simp [hi]
  · rfl
/-- One test: from 'i' by 'k'. -/
def stp (ok : Nat → Nat → Bool) (i k : Nat) (s : List Int × List Int) : List Int × List Int := if (gi s.1 (i : Int) = 0 ∨ gi s.2 (k : Int) + 1 ≤ gi s.2 (i : Int)) ∧ ok i k = true then (s.1.set i (k : Int), s.2.set i (gi s.2 (k : Int) + 1)) else s
/-- All tests from 'i', the last one first. -/
def inn (ok : Nat → Nat → Bool) (l i : Nat) : Nat → List Int × List Int → List Int × List Int
  | 0, s => s
  | q + 1, s => stp ok i (l - q) (inn ok l i q s)
/-- The last 'm' places. -/
def ou (ok : Nat → Nat → Bool) (l : Nat) : Nat → List Int × List Int
  | 0 => (List.replicate (l + 1) 0, List.replicate (l + 1) 0)
  | m + 1 => inn ok l (l - 1 - m) (m + 1) (ou ok l m)
structure WF (l : Nat) (s : List Int × List Int) : Prop where
  l1 : s.1.length = l + 1
  l2 : s.2.length = l + 1
  b2 : ∀ j : Nat, j ≤ l → 0 ≤ gi s.2 (j : Int) ∧ gi s.2 (j : Int) ≤ (l : Int) - j
  b1 : ∀ j : Nat, j ≤ l → gi s.1 (j : Int) = 0 ∨ ((j : Int) < gi s.1 (j : Int) ∧ gi s.1 (j : Int) ≤ l)
variable {ok : Nat → Nat → Bool} {l i k : Nat} {s : List Int × List Int}
theorem WF.stp (h : WF l s) (hik : i < k) (hk : k ≤ l) : WF l (Go.Vt.stp ok i k s) := by
  unfold Go.Vt.stp
  split
  · have hk2 := h.b2 k hk
    refine ⟨by simpa using h.l1, by simpa using h.l2, fun j hj => ?_, fun j hj => ?_⟩
    · rw [gi_set (by rw [h.l2]; omega)]
      split
      · omega
      · exact h.b2 j hj
    · rw [gi_set (by rw [h.l1]; omega)]
      split
      · omega
      · exact h.b1 j hj
  · exact h
theorem WF.inn (h : WF l s) (hi : i < l) : ∀ q, q ≤ l - i → WF l (Go.Vt.inn ok l i q s)
  | 0, _ => h
  | q + 1, hq => (WF.inn h hi q (by omega)).stp (by omega) (by omega)
theorem gi_rep (m j : Nat) : gi (List.replicate m (0 : Int)) (j : Int) = 0 := by
  unfold gi
  simp only [Int.toNat_natCast, List.getD_eq_getElem?_getD, List.getElem?_replicate]
  split <;> rfl
theorem WF.ou : ∀ m, m ≤ l → WF l (Go.Vt.ou ok l m)
  | 0, _ => ⟨by simp [Go.Vt.ou], by simp [Go.Vt.ou], fun j hj => by simp only [Go.Vt.ou, gi_rep]; omega, fun j hj => by simp only [Go.Vt.ou, gi_rep]; exact .inl trivial⟩
  | m + 1, hm => (WF.ou m (by omega)).inn (by omega) _ (by omega)
/-- Elsewhere nothing turns. -/
theorem stp_other {j : Nat} (h : WF l s) (hi : i ≤ l) (hij : i ≠ j) : gi (stp ok i k s).1 (j : Int) = gi s.1 (j : Int) ∧ gi (stp ok i k s).2 (j : Int) = gi s.2 (j : Int) := by
  unfold stp
  split
  · simp only [gi_set (show i < s.1.length by rw [h.l1]; omega), gi_set (show i < s.2.length by rw [h.l2]; omega), if_neg hij]
    exact ⟨trivial, trivial⟩
  · exact ⟨rfl, rfl⟩
theorem inn_other {j : Nat} (h : WF l s) (hi : i < l) (hij : i ≠ j) : ∀ q, q ≤ l - i → gi (inn ok l i q s).1 (j : Int) = gi s.1 (j : Int) ∧ gi (inn ok l i q s).2 (j : Int) = gi s.2 (j : Int)
  | 0, _ => ⟨rfl, rfl⟩
  | q + 1, hq => by
    have h1 := inn_other h hi hij q (by omega)
    have h2 := stp_other (ok := ok) (k := l - q) (h.inn (ok := ok) hi q (by omega)) (by omega) hij
    exact ⟨h2.1.trans h1.1, h2.2.trans h1.2⟩
theorem stp_set (h : WF l s) (hi : i ≤ l) (hk : k ≠ 0) (hok : ok i k = true) : gi (stp ok i k s).1 (i : Int) ≠ 0 := by
  unfold stp
  split
  · rw [gi_set (by rw [h.l1]; omega), if_pos rfl]
    omega
  · rename_i hn
    intro h0
    exact hn ⟨.inl h0, hok⟩
theorem ou_next (hok : ∀ i, i < l → ok i (i + 1) = true) : ∀ m, m ≤ l → ∀ j : Nat, j < l → l - m ≤ j → (j : Int) < gi (ou ok l m).1 (j : Int) ∧ gi (ou ok l m).1 (j : Int) ≤ l
  | 0, _, j, h1, h2 => by omega
  | m + 1, hm, j, h1, h2 => by
    have hw := WF.ou (ok := ok) m (show m ≤ l by omega)
    have hi : l - 1 - m < l := by omega
    by_cases hj : l - 1 - m = j
    · have hb := (WF.ou (ok := ok) (m + 1) hm).b1 j (by omega)
      have hne : gi (ou ok l (m + 1)).1 (j : Int) ≠ 0 := by
        rw [← hj, ou, inn]
        refine stp_set (hw.inn hi m (by omega)) (by omega) (by omega) ?_
        have := hok (l - 1 - m) hi
        rwa [show l - m = l - 1 - m + 1 by omega]
      exact hb.resolve_left hne
    · have h3 := ou_next hok m (by omega) j h1 (by omega)
      have h4 := inn_other (ok := ok) hw hi hj (m + 1) (by omega)
      rw [ou, h4.1]
      exact h3
/-- The way along the table. -/
def chn (nx : List Int) (l : Nat) : Nat → Int → List Int
  | 0, _ => []
  | f + 1, i => if i < l then gi nx i :: chn nx l f (gi nx i) else []
def keptL (ok : Nat → Nat → Bool) (l : Nat) : List Int := 0 :: chn (ou ok l l).1 l l 0
theorem okd_next {pts : List R_movingpoint_Sample} {d : Rat} (i : Nat) : okd pts (d * d) i (i + 1) = true := by
  unfold okd
  rw [show i + 1 - i - 1 = 0 by omega]
  refine decide_eq_true ?_
  have : 0 ≤ d * d := by
    rcases Rat.le_total (a := 0) (b := d) with h | h
    · exact Rat.mul_nonneg h h
    · have h2 : 0 ≤ -d := by grind
      have := Rat.mul_nonneg h2 h2
      grind
  exact this
theorem sign_nonneg {q : Rat} (h : 0 ≤ q) : ¬ q.num.sign < 0 := by
  intro h1
  have h2 := Int.sign_neg_iff.1 h1
  have h3 := Rat.num_nonneg.2 h
  omega
theorem kept_spec (I : R_api_Interval) (b l c : Nat) (d : Rat) (pts : List R_movingpoint_Sample) (sp : List Value) (T : TypeId) (hr : RunOk pts (l + 1) c) (hl : l ≤ 1048576) (hd : M d ≤ 1073741824) (hd0 : 0 ≤ d) (w : World) (hw : ∃ fz, w.heap[b]? = some (.cells (row rS pts sp) T fz)) :
    Calls Tryz.prog 39 [vRun I b (l + 1) c, vQ d].toArray w (RetM { s : Nat × Nat × List Value // (keptL (okd pts (d * d)) l).length ≤ s.2.1 } (fun s => .tuple #[vL s.1.1 (keptL (okd pts (d * d)) l) s.1.2.1, .int .i64 0]) (fun s => [⟨s.1.1, row (eI .i64) (keptL (okd pts (d * d)) l) s.1.2.2, 3⟩]) w) := by
  have := FoC.mk hw
  have hdd : M (d * d) ≤ LQ := Nat.le_trans (M_mul d d) (by have : LQ = 274877906944 := rfl; omega)
  have hd' : M d ≤ LQ := Nat.le_trans hd (by decide)
  refine fn_intro Tryz.func39 rfl Tryz.ntmps39 rfl ?_
  repeat (refine wkB ?_; try intro _)
  refine j_else (by rw [decide_eq_false (sign_nonneg hd0)]; rfl) ?_
  repeat (refine wkB ?_; try intro _)
  rename_i b2 b3 q
  obtain ⟨b1, bm⟩ := q
  have e1 : ((l + 1 : Nat) : Int) - 1 = (l : Int) := by omega
  have e2 : (l : Int) + 1 = ((l + 1 : Nat) : Int) := by omega
  simp only [e1, e2]
  refine sM rfl rfl ⟨by omega, by omega⟩ ?_
  intro bn
  repeat (refine wkB ?_; try intro _)
  simp only [e2]
  refine sM rfl rfl ⟨by omega, by omega⟩ ?_
  intro bl
  repeat (refine wkB ?_; try intro _)
  generalize hok : okd pts (d * d) = ok at *
  refine j_loop (S := Nat) (fun m => m ≤ l) (fun m => [(5, .int .i64 0), (6, .func (.func 130) #[] #[.pointer (some ⟨b1, 0, none⟩), .pointer (some ⟨bm, 0, none⟩)]), (7, .int .i64 (l : Nat)), (8, .slice (some ⟨bn, 0, none⟩) (l + 1) (l + 1)), (9, .slice (some ⟨bl, 0, none⟩) (l + 1) (l + 1)), (10, .int .i64 ((l : Int) - 1 - (m : Nat)))])
    (fun m => [⟨bl, row (eI .i64) (ou ok l m).2 [], 3⟩, ⟨bn, row (eI .i64) (ou ok l m).1 [], 3⟩, ⟨bm, e_api_Rat (Q (d * d)), 28⟩, ⟨b1, cRun I b (l + 1) c, 35⟩]) (fun m => l - m) 0 (Nat.zero_le _)
    sbB slB (fun m hm => ?_)
  have hwf := WF.ou (ok := ok) (l := l) m hm
  repeat (refine wkB ?_; try intro _)
  refine j_cond rfl (fun h => ?_) (fun h => ?_)
  · have hlt : m < l := by have := of_decide_eq_true h; omega
    obtain ⟨i, hi⟩ : ∃ i, i = l - 1 - m := ⟨_, rfl⟩
    have hil : i < l := by omega
    have ei : (l : Int) - 1 - (m : Int) = (i : Int) := by omega
    simp only [ei]
    repeat (refine wkB ?_; try intro _)
    refine j_loop (S := Nat) (fun q => q ≤ l - i) (fun q => [(5, .int .i64 0), (6, .func (.func 130) #[] #[.pointer (some ⟨b1, 0, none⟩), .pointer (some ⟨bm, 0, none⟩)]), (7, .int .i64 (l : Nat)), (8, .slice (some ⟨bn, 0, none⟩) (l + 1) (l + 1)), (9, .slice (some ⟨bl, 0, none⟩) (l + 1) (l + 1)), (10, .int .i64 (i : Nat)), (11, .int .i64 ((l : Int) - (q : Nat)))])
      (fun q => [⟨bl, row (eI .i64) (inn ok l i q (ou ok l m)).2 [], 3⟩, ⟨bn, row (eI .i64) (inn ok l i q (ou ok l m)).1 [], 3⟩, ⟨bm, e_api_Rat (Q (d * d)), 28⟩, ⟨b1, cRun I b (l + 1) c, 35⟩]) (fun q => l - i - q) 0 (Nat.zero_le _)
      sbB slB (fun q hq => ?_)
    have hwq := hwf.inn (ok := ok) hil q hq
    obtain ⟨s, hs⟩ : ∃ s, s = inn ok l i q (ou ok l m) := ⟨_, rfl⟩
    have hsn : inn ok l i (q + 1) (ou ok l m) = stp ok i (l - q) s := by rw [inn, ← hs]
    simp only [← hs] at hwq ⊢
    repeat (refine wkB ?_; try intro _)
    refine j_cond rfl (fun h => ?_) (fun h => ?_)
    · obtain ⟨k, hk⟩ : ∃ k, k = l - q := ⟨_, rfl⟩
      have hik : i < k := by have := of_decide_eq_true h; omega
      have hkl : k ≤ l := by omega
      have ek : (l : Int) - (q : Int) = (k : Int) := by omega
      rw [← hk] at hsn
      obtain ⟨w1, w2, w3, w4⟩ := hwq
      have b2i := w3 i (by omega)
      have b2k := w3 k hkl
      simp only [ek]
      repeat (refine wkB ?_; try intro _)
      have hcall : RunOk pts (l + 1) c ∧ M (d * d) ≤ LQ ∧ (0 : Int) ≤ (i : Int) ∧ (i : Int) < (k : Int) ∧ (k : Int) < ((l + 1 : Nat) : Int) := ⟨hr, hdd, by omega, by omega, by omega⟩
      have yes : ok i k = true → (gi s.1 (i : Int) = 0 ∨ gi s.2 (k : Int) + 1 ≤ gi s.2 (i : Int)) → stp ok i k s = (s.1.set i (k : Int), s.2.set i (gi s.2 (k : Int) + 1)) := fun h1 h2 => by unfold stp; rw [if_pos ⟨h2, h1⟩]
      have no : ¬ ((gi s.1 (i : Int) = 0 ∨ gi s.2 (k : Int) + 1 ≤ gi s.2 (i : Int)) ∧ ok i k = true) → stp ok i k s = s := fun h1 => by unfold stp; rw [if_neg h1]
      refine j_cut (S := Bool) (fun v => v = decide ((gi s.1 (i : Int) = 0 ∨ gi s.2 (k : Int) + 1 ≤ gi s.2 (i : Int)) ∧ ok i k = true)) (fun v => [(64, .bool v), (5, .int .i64 0), (6, .func (.func 130) #[] #[.pointer (some ⟨b1, 0, none⟩), .pointer (some ⟨bm, 0, none⟩)]), (7, .int .i64 (l : Nat)), (8, .slice (some ⟨bn, 0, none⟩) (l + 1) (l + 1)), (9, .slice (some ⟨bl, 0, none⟩) (l + 1) (l + 1)), (10, .int .i64 (i : Nat)), (11, .int .i64 (k : Nat))])
        (fun _ => [⟨bl, row (eI .i64) s.2 [], 3⟩, ⟨bn, row (eI .i64) s.1 [], 3⟩, ⟨bm, e_api_Rat (Q (d * d)), 28⟩, ⟨b1, cRun I b (l + 1) c, 35⟩]) ?_ (fun v hv => ?_)
      · by_cases h0 : gi s.1 (i : Int) = 0
        · refine jD 23 23 (h := ?_)
          (repeat (refine wkH ?_))
          simp only [decide_eq_true h0]
          (repeat (first | refine wkH ?_ | (refine tC rfl rfl ?_ ?_; focus (exact hcall))))
          refine jh_nil ?_
          refine jn_nil ?_
          repeat (refine wkB ?_; try intro _)
          simp only [Int.toNat_natCast, hok]
          exact jx_mid (ok i k) (by simp [h0]) sbB sbl
        · by_cases h1 : gi s.2 (k : Int) + 1 ≤ gi s.2 (i : Int)
          · refine jD 23 23 (h := ?_)
            (repeat (refine wkH ?_))
            simp only [decide_eq_false h0]
            (repeat (refine wkH ?_))
            simp only [decide_eq_true h1]
            (repeat (first | refine wkH ?_ | (refine tC rfl rfl ?_ ?_; focus (exact hcall))))
            refine jh_nil ?_
            refine jn_nil ?_
            repeat (refine wkB ?_; try intro _)
            simp only [Int.toNat_natCast, hok]
            exact jx_mid (ok i k) (by simp [h1]) sbB sbl
          · refine jD 23 23 (h := ?_)
            (repeat (refine wkH ?_))
            simp only [decide_eq_false h0]
            (repeat (refine wkH ?_))
            simp only [decide_eq_false h1]
            (repeat (first | refine wkH ?_ | (refine tC rfl rfl ?_ ?_; focus (exact hcall))))
            refine jh_nil ?_
            refine jn_nil ?_
            repeat (refine wkB ?_; try intro _)
            exact jx_mid false (by simp [h0, h1]) sbB sbl
      · have hst : stp ok i k s = if v = true then (s.1.set i (k : Int), s.2.set i (gi s.2 (k : Int) + 1)) else s := by
          rw [hv]
          by_cases hc : (gi s.1 (i : Int) = 0 ∨ gi s.2 (k : Int) + 1 ≤ gi s.2 (i : Int)) ∧ ok i k = true
          · rw [yes hc.2 hc.1, decide_eq_true hc, if_pos rfl]
          · rw [no hc, decide_eq_false hc, if_neg (by simp)]
        refine j_cond rfl (fun h => ?_) (fun h => ?_)
        · rw [h, if_pos rfl] at hst
          repeat (refine wkB ?_; try intro _)
          exact jx_loop (q + 1) (by omega) sbB (by simp only [Int.toNat_natCast]; rw [hsn, hst]; exact sbl) (by omega)
        · rw [h, if_neg (by simp)] at hst
          repeat (refine wkB ?_; try intro _)
          exact jx_loop (q + 1) (by omega) sbB (by rw [hsn, hst]; exact sbl) (by omega)
    · have hqe : q = m + 1 := by have := of_decide_eq_false h; omega
      rw [hqe, hi, ← ou] at hs
      subst hs
      repeat (refine wkB ?_; try intro _)
      exact jx_loop (m + 1) hlt sbB sbl (by omega)
  · have hme : m = l := by have := of_decide_eq_false h; omega
    rw [hme] at hwf
    obtain ⟨w1, w2, w3, w4⟩ := hwf
    have hnx := ou_next (ok := ok) (l := l) (fun i _ => by rw [← hok]; exact okd_next i) l (Nat.le_refl _)
    obtain ⟨nx, hnxe⟩ : ∃ nx, nx = (ou ok l l).1 := ⟨_, rfl⟩
    have hkl : keptL ok l = 0 :: chn nx l l 0 := by rw [hnxe]; rfl
    rw [hme]
    simp only [← hnxe] at w1 hnx ⊢
    repeat (refine wkB ?_; try intro _)
    rename_i bo
    refine j_loop (S := Nat × List Int × Nat × Nat × List Value) (fun s => s.1 ≤ l ∧ (∃ f, l - s.1 ≤ f ∧ s.2.1 ++ chn nx l f (s.1 : Int) = keptL ok l) ∧ s.2.1.length ≤ s.1 + 1 ∧ s.2.1.length ≤ s.2.2.2.1 ∧ s.2.2.2.2.length = (s.2.2.2.1 - s.2.1.length) * 1)
      (fun s => [(5, .int .i64 0), (7, .int .i64 (l : Nat)), (8, .slice (some ⟨bn, 0, none⟩) (l + 1) (l + 1)), (12, vL s.2.2.1 s.2.1 s.2.2.2.1), (13, .int .i64 (s.1 : Nat))]) (fun s => [⟨s.2.2.1, row (eI .i64) s.2.1 s.2.2.2.2, 3⟩, ⟨bn, row (eI .i64) nx [], 3⟩]) (fun s => l - s.1) (0, [0], bo, 1, [])
      ⟨Nat.zero_le _, ⟨l, Nat.le_refl _, hkl.symm⟩, Nat.le_refl _, Nat.le_refl _, rfl⟩ sbB slB (fun s hs => ?_)
    obtain ⟨i, acc, bo, co, so⟩ := s
    obtain ⟨hil, ⟨f, hf, hch⟩, ha1, ha2, ha3⟩ := hs
    simp only at hil hf hch ha1 ha2 ha3 ⊢
    repeat (refine wkB ?_; try intro _)
    refine j_cond rfl (fun h => ?_) (fun h => ?_)
    · have hlt : i < l := by have := of_decide_eq_true h; omega
      obtain ⟨g1, g2⟩ := hnx i hlt (by omega)
      obtain ⟨z, hz⟩ : ∃ z : Nat, gi nx (i : Int) = (z : Int) := ⟨(gi nx (i : Int)).toNat, by omega⟩
      repeat (refine wkB ?_; try intro _)
      simp only [hz]
      repeat (refine wkB ?_; try intro _)
      rename_i bz
      refine sP rfl rfl ?_ ⟨ha2, ha3⟩ rfl ?_ ?_
      · rfl
      · exact ⟨by omega, by omega⟩
      intro b' c' sp' h1 h2
      rw [show acc.length + 1 = (acc ++ [(z : Int)]).length by simp] at h1 h2 ⊢
      repeat (refine wkB ?_; try intro _)
      refine jx_loop (z, acc ++ [(z : Int)], b', c', sp') ⟨by simp only; omega, ?_, by simp only [List.length_append, List.length_singleton]; omega, h1, h2⟩ sbB slB (by simp only; omega)
      obtain ⟨f', rfl⟩ : ∃ f', f = f' + 1 := ⟨f - 1, by omega⟩
      refine ⟨f', by simp only; omega, ?_⟩
      rw [chn, if_pos (by omega), hz] at hch
      simp only
      rw [← hch, List.append_assoc]
      rfl
    · have hge : i = l := by have := of_decide_eq_false h; omega
      subst hge
      have hnil : chn nx i f (i : Int) = [] := by
        cases f with
        | zero => rfl
        | succ f => rw [chn, if_neg (by omega)]
      rw [hnil, List.append_nil] at hch
      subst hch
      repeat (refine wkB ?_; try intro _)
      exact jx_ret_two rfl (resv_tmp rfl) (resv_tmp rfl) (fun w hw => ⟨⟨(bo, co, so), ha2⟩, rfl, hw.sub sbl⟩)
abbrev SL3 (xs : List Int) := { s : Nat × Nat × List Value // xs.length ≤ s.2.1 }
instance sr_Kept (w0 : World) (L : List Blk) (I : R_api_Interval) (b n c : Nat) (d : Rat) (pts : List R_movingpoint_Sample) (sp : List Value) (T : TypeId) [h : AtC w0 L b (row rS pts sp) T] : SpecR Tryz.prog w0 L 39 [vRun I b n c, vQ d] (SL3 (keptL (okd pts (d * d)) (n - 1))) (fun s => .tuple #[vL s.1.1 (keptL (okd pts (d * d)) (n - 1)) s.1.2.1, .int .i64 0]) (fun s => [⟨s.1.1, row (eI .i64) (keptL (okd pts (d * d)) (n - 1)) s.1.2.2, 3⟩]) (RunOk pts n c ∧ (1 ≤ n ∧ n ≤ 1048576) ∧ M d ≤ 1073741824 ∧ 0 ≤ d) := ⟨fun hp w hw => by
  obtain ⟨g1, ⟨g2, g3⟩, g4, g5⟩ := hp
  obtain ⟨l, rfl⟩ : ∃ l, n = l + 1 := ⟨n - 1, by omega⟩
  exact kept_spec I b l c d pts sp T g1 (by omega) g4 g5 w (h.out w hw)⟩
end Go.Vt
/- The best kept breakpoints: the reference's search among all lists. Conditions: the lengths that each statement names. -/
set_option linter.unusedSimpArgs false
set_option linter.unusedVariables false
set_option maxHeartbeats 2000000
set_option maxRecDepth 100000
namespace Go.Vt
open Go.RowKit Go.Proofs
def lx : List Int → List Int → Bool
  | x :: xs, y :: ys => if x = y then lx xs ys else decide (x < y)
  | _, _ => false
def btr (xs ys : List Int) : Bool := if xs.length = ys.length then lx xs ys else decide (xs.length < ys.length)
/-- The first 'q' breakpoints behind 'i' are tried. -/
def bf (g : Nat → List Int) (ok : Nat → Bool) (i : Nat) : Nat → List Int
  | 0 => []
  | q + 1 => if ok (i + 1 + q) = true ∧ (bf g ok i q = [] ∨ btr (g (i + 1 + q)) (bf g ok i q) = true) then g (i + 1 + q) else bf g ok i q
end Go.Vt
/- Slices that came in, wherever they lie, under the program logic. Conditions: those that each rule names. -/
set_option linter.unusedSimpArgs false
set_option linter.unusedVariables false
set_option maxHeartbeats 2000000
set_option linter.unusedSectionVars false
namespace Go.Vt
open Go.RowKit
/-- At place 'o' of block 'b' lies a row. -/
class RowC (w0 : World) (L : List Blk) (b o : Nat) (α : outParam Type) (enc : outParam (α → Array Value)) (xs : outParam (List α)) : Prop where
  out : ∀ w, Own w0 L w → ∃ cs T fz, w.heap[b]? = some (.cells cs T fz) ∧ ∀ (i f k : Nat) (u : Value) (hi : i < xs.length), (∀ x, (enc x).size = k) → (enc xs[i])[f]? = some u → cs[o + i * k + f]? = some u ∧ o + xs.length * k ≤ cs.size
/-- A slice that came in. -/
structure ArgS {α : Type} (w0 : World) (v : Value) (enc : α → Array Value) (xs : List α) : Prop where
  out : (v = .slice none 0 0 ∧ xs = []) ∨ ∃ (a : Addr) (c : Nat), v = .slice (some a) xs.length c ∧ xs.length ≤ c ∧ ∀ (i f k : Nat) (u : Value) (hi : i < xs.length), (∀ x, (enc x).size = k) → (enc xs[i])[f]? = some u → w0.cell? (a.add (i * k + f)) = some u
class ArgC (w0 : World) (v : Value) (α : outParam Type) (enc : outParam (α → Array Value)) (xs : outParam (List α)) : Prop where
  out : ArgS w0 v enc xs
theorem cell_some {w : World} {a : Addr} {v : Value} (h : w.cell? a = some v) : a = ⟨a.block, a.off, none⟩ ∧ ∃ cs T fz, w.heap[a.block]? = some (.cells cs T fz) ∧ cs[a.off]? = some v := by
  unfold World.cell? at h
  split at h
  · rename_i c T fz hb
    split at h
    · cases h
    · rename_i hs
      obtain ⟨b, o, s⟩ := a
      cases s with
      | none => exact ⟨rfl, c, T, fz, hb, h⟩
      | some s => exact absurd rfl hs
  · cases h
/-- A slice that is not empty: its block. -/
theorem ArgS.blk {α : Type} {w0 : World} {v : Value} {enc : α → Array Value} {xs : List α} {k : Nat} [he : EncC enc (k + 1)] (h : ArgS w0 v enc xs) (hne : xs ≠ []) (L : List Blk) : ∃ b o c, v = .slice (some ⟨b, o, none⟩) xs.length c ∧ xs.length ≤ c ∧ RowC w0 L b o α enc xs := by
  rcases h.out with ⟨_, h0⟩ | ⟨a, c, hv, hc, hcell⟩
  · exact absurd h0 hne
  have hlen : 0 < xs.length := List.length_pos_iff.2 hne
  have hfirst : ∃ u, (enc xs[0])[0]? = some u := by
    have := he.size xs[0]
    exact ⟨(enc xs[0])[0]'(by omega), by simp⟩
  obtain ⟨u, hu⟩ := hfirst
  have h0 := hcell 0 0 (k + 1) u hlen he.size hu
  rw [Nat.zero_mul, Nat.add_zero] at h0
  have ha : a.add 0 = a := by simp [Addr.add]
  rw [ha] at h0
  obtain ⟨hae, cs, T, fz, hb, _⟩ := cell_some h0
  obtain ⟨b, o, s⟩ := a
  simp only [Addr.mk.injEq, true_and] at hae
  subst hae
  refine ⟨b, o, c, hv, hc, ⟨fun w hw => ⟨cs, T, fz, by rw [hw.ext.block b (lt_of_block hb)]; exact hb, fun i f k' u hi hk hu => ?_⟩⟩⟩
  have h1 := hcell i f k' u hi hk hu
  rw [addr_add, cell_block hb] at h1
  refine ⟨by rw [Nat.add_assoc]; exact h1, ?_⟩
  have hkk : k' = k + 1 := by rw [← hk xs[0], he.size xs[0]]
  subst hkk
  have hl : xs.length - 1 < xs.length := by omega
  obtain ⟨u2, hu2⟩ : ∃ u, (enc xs[xs.length - 1])[k]? = some u := ⟨(enc xs[xs.length - 1])[k]'(by rw [he.size]; omega), by simp⟩
  have h2 := hcell (xs.length - 1) k (k + 1) u2 hl he.size hu2
  rw [addr_add, cell_block hb] at h2
  have h3 : o + ((xs.length - 1) * (k + 1) + k) < cs.size := by
    rcases Nat.lt_or_ge (o + ((xs.length - 1) * (k + 1) + k)) cs.size with h | h
    · exact h
    · rw [Array.getElem?_eq_none h] at h2; cases h2
  have h4 : xs.length * (k + 1) = (xs.length - 1) * (k + 1) + (k + 1) := by
    rw [← Nat.succ_mul]
    congr 1
    omega
  omega
section
variable {P : Program} {w0 : World} {n : Nat} {ops : Array Oper} {L : List Blk} {E : Env} {v : Value} {x : Operand} {T : TypeId}
variable {α : Type} [Inhabited α] {enc : α → Array Value} {k b o f : Nat} {xs : List α} {i : Int}
theorem yl_rowG [he : EncC enc k] [h : RowC w0 L b o α enc xs] {d : Option Tmp} {ty : TypeId} {pos : String} {aft : Array Edge} {gd : Option (Nat × Bool)} (hk : 0 < k) (hx : Env.ev E x = some (.pointer (some ⟨b, o + i.toNat * k + f, none⟩))) (hi : i.toNat < xs.length) (hv : LdV P T (enc (gi xs i)) f v) : Yl P w0 n L E ⟨d, .load T x, ty, pos, aft, gd⟩ v :=
  yl_run (fun _ => loadVar T ⟨b, o + i.toNat * k + f, none⟩) (fun a ha => by
    simp only [execOp, ha.ev hx, Instr.loadAt, Instr.sureAddr]
    rfl) (fun a w _ hw => by
      obtain ⟨cs, T0, fz, hb, hc⟩ := h.out w hw
      rw [gi_eq hi] at hv
      refine run_loadVar hb ?_
      have hsz := he.size xs[i.toNat]
      have hle := Nat.mul_le_mul_right k (show i.toNat + 1 ≤ xs.length from hi)
      rw [Nat.add_mul, Nat.one_mul] at hle
      rcases hv with ⟨m, ha, hs, rfl⟩ | ⟨ho, hv⟩
      · have hbig := (hc i.toNat 0 k _ hi he.size (show (enc xs[i.toNat])[0]? = some ((enc xs[i.toNat])[0]'(by omega)) by simp)).2
        refine .inl ⟨m, ha, by omega, ?_⟩
        congr 1
        apply Array.ext_getElem?
        intro j
        rw [Array.getElem?_extract, Array.getElem?_extract]
        by_cases hj : j < m
        · rw [if_pos (by omega), if_pos (by omega)]
          have hfj : f + j < (enc xs[i.toNat]).size := by omega
          have := (hc i.toNat (f + j) k _ hi he.size (show (enc xs[i.toNat])[f + j]? = some ((enc xs[i.toNat])[f + j]'hfj) by simp)).1
          rw [show o + i.toNat * k + f + j = o + i.toNat * k + (f + j) by omega, this]
          simp
        · rw [if_neg (by omega), if_neg (by omega)]
      · exact .inr ⟨ho, (hc i.toNat f k v hi he.size hv).1⟩)
instance (priority := low) ys_rowG0 [IsC (evl E x) (.pointer (some ⟨b, o + i.toNat * k, none⟩))] [h : RowC w0 L b o α enc xs] [he : EncC enc k] [hv : LdC P T (enc (gi xs i)) 0 v] : YsC P w0 n L E (.load T x) v (0 < k ∧ i.toNat < xs.length) := ⟨fun hi _ _ _ _ _ => yl_rowG (f := 0) (k := k) hi.1 (by rw [Nat.add_zero]; exact isE) hi.2 hv.out⟩
instance (priority := low) ys_rowGF [IsC (evl E x) (.pointer (some ⟨b, o + i.toNat * k + f, none⟩))] [h : RowC w0 L b o α enc xs] [he : EncC enc k] [hv : LdC P T (enc (gi xs i)) f v] : YsC P w0 n L E (.load T x) v (0 < k ∧ i.toNat < xs.length) := ⟨fun hi _ _ _ _ _ => yl_rowG hi.1 isE hi.2 hv.out⟩
instance (priority := low) ys_remk {kd : IntKind} {T' : TypeId} {y : Operand} {a c : Int} [hx : IsC (evl E x) (.int kd a)] [hy : IsC (evl E y) (.int kd c)] : YsC P w0 n L E (.binOp .rem T x y T') (.int kd (a % c)) (0 ≤ a ∧ 1 ≤ c) := ⟨fun h _ _ _ _ _ => yl_arith isE isE fun w => by rw [run_rem _ _ (by omega), IntWalk.rem_in _ _ h.1]⟩
end
end Go.Vt
/- The runs of the statements: their decoding. Conditions: those that each statement names. -/
set_option linter.unusedSimpArgs false
set_option linter.unusedVariables false
set_option maxHeartbeats 2000000
set_option maxRecDepth 100000
namespace Go.Vt
open Go.RowKit Go.Proofs
instance sp_at (t x y : Int) : SpecC Tryz.prog 42 [.int .i64 t, .int .i64 x, .int .i64 y] (vS ⟨(t : Rat), ⟨(x : Rat), (y : Rat)⟩⟩) ((-9223372036854775808 ≤ t ∧ t ≤ 9223372036854775807) ∧ (-9223372036854775808 ≤ x ∧ x ≤ 9223372036854775807) ∧ (-9223372036854775808 ≤ y ∧ y ≤ 9223372036854775807)) := ⟨fun hp w => by
  obtain ⟨h1, h2, h3⟩ := hp
  refine fn_intro Tryz.func42 rfl Tryz.ntmps42 rfl ?_
  repeat (refine wkB ?_; try intro _)
  exact wx_cell rfl rfl (fun w hw => ret_ok hw)⟩
def dst (n : Int) : Rat := Rat.divInt (n % 128) 4
instance sp_distance (n : Int) : SpecC Tryz.prog 30 [.int .u8 n] (vQ (dst n)) (0 ≤ n ∧ n ≤ 255) := ⟨fun hp w => by
  refine fn_intro Tryz.func30 rfl Tryz.ntmps30 rfl ?_
  repeat (first | (refine wkB ?_; try intro _) | (refine sC rfl rfl ?_ ?_; focus (exact ⟨⟨by omega, by omega⟩, ⟨by omega, by omega⟩⟩)) | (refine sN rfl rfl ?_ ?_; (focus (exact ⟨⟨by omega, by omega⟩, ⟨by omega, by omega⟩⟩)); intro _; (try simp only [List.cons_append, List.nil_append, List.append_nil])))
  exact wx_cell rfl rfl (fun w hw => ret_ok hw)⟩
theorem Upd.app {b : Nat} {cs cs' : Array Value} {T : TypeId} {L L' : List Blk} (h : Upd b cs T cs' L L') : ∀ A : List Blk, Upd b cs T cs' (A ++ L) (A ++ L')
  | [] => h
  | _ :: A => (h.app A).there
instance (priority := low) updSkip (b : Nat) (cs' : Array Value) (A L L' : List Blk) (cs : Array Value) (T : TypeId) [h : UpdC b cs' L cs T L'] : UpdC b cs' (A ++ L) cs T (A ++ L') := ⟨h.out.app A⟩
/-- The header of a slice that grows, and its block. -/
def hSl (n : Nat) : Option (Nat × Nat × List Value) → Sl
  | none => ⟨none, 0, 0⟩
  | some s => ⟨some ⟨s.1, 0, none⟩, n, s.2.1⟩
def mSl (T : TypeId) (ps : List R_movingpoint_Sample) : Option (Nat × Nat × List Value) → List Blk
  | none => []
  | some s => [⟨s.1, row rS ps s.2.2, T⟩]
theorem ArgS.form {α : Type} {w0 : World} {v : Value} {enc : α → Array Value} {xs : List α} (h : ArgS w0 v enc xs) : ∃ p c, v = .slice p xs.length c := by
  rcases h.out with ⟨h1, h2⟩ | ⟨a, c, h1, _⟩
  · subst h2
    exact ⟨none, 0, h1⟩
  · exact ⟨some a, c, h1⟩
theorem ArgS.to {α : Type} {w0 w : World} {v : Value} {enc : α → Array Value} {xs : List α} (h : ArgS w0 v enc xs) (hx : Ext w0 w) : ArgS w v enc xs := by
  rcases h.out with h1 | ⟨a, c, h1, h2, h3⟩
  · exact ⟨.inl h1⟩
  · refine ⟨.inr ⟨a, c, h1, h2, fun i f k u hi hk hu => ?_⟩⟩
    have h4 := h3 i f k u hi hk hu
    obtain ⟨hae, cs, T, fz, hb, hc⟩ := cell_some h4
    rw [hae]
    have hb' : w.heap[(a.add (i * k + f)).block]? = some (.cells cs T fz) := by rw [hx.block _ (lt_of_block hb)]; exact hb
    rw [cell_block hb']
    exact hc
end Go.Vt
/- What the rows of this seat share: the witness's world with its two tables, and the reading of a way. Conditions: none. -/
set_option linter.unusedSimpArgs false
set_option linter.unusedVariables false
set_option maxHeartbeats 2000000
namespace Go.Proofs.YtgcjapcminakdaaGreatDoor
open Go.ChangeShapes Go.WideShapes Go.ChangeAt Go.RowKit Go.Deep Go.Vt
set_option maxRecDepth 100000
theorem rown : ownKnob Tryz.prog.godebug = none := by kernel_rfl
theorem rlaidOut : laidOutB Tryz.prog = true := by kernel_rfl
theorem runder5 : Tryz.prog.underlying 5 = some (.int .u8) := by kernel_rfl
theorem rcells5 : Tryz.prog.cellsOf 5 = 1 := by kernel_rfl
theorem u8_wf {n : Int} (h : (Lit.int .u8 n).wf = true) : 0 ≤ n ∧ n ≤ 255 := by
  simp only [Lit.wf, Bool.and_eq_true, decide_eq_true_eq] at h
  exact ⟨h.1, h.2⟩
def cAcc : Array Value := #[.int .u8 128, .int .u8 191, .int .u8 160, .int .u8 191, .int .u8 128, .int .u8 159, .int .u8 144, .int .u8 191, .int .u8 128, .int .u8 143, .int .u8 0, .int .u8 0, .int .u8 0, .int .u8 0, .int .u8 0, .int .u8 0, .int .u8 0, .int .u8 0, .int .u8 0, .int .u8 0, .int .u8 0, .int .u8 0, .int .u8 0, .int .u8 0, .int .u8 0, .int .u8 0, .int .u8 0, .int .u8 0, .int .u8 0, .int .u8 0, .int .u8 0, .int .u8 0]
def cFirst : Array Value := (Pinned.utf8FirstZ.map fun (n : Nat) => Value.int .u8 (n : Int)).toArray
def putCells (cs : Array Value) : Obj → Obj
  | .cells _ t frozen => .cells cs t frozen
  | o => o
/-- The settled world, its tables as their initialisers lay them. -/
noncomputable def laidWorld (os : Os) : World :=
  { World.holding Tryz.prog os ⟨#[], #[], []⟩ with heap := ((World.holding Tryz.prog os ⟨#[], #[], []⟩).heap.modify 1 (putCells cFirst)).modify 2 (putCells cAcc) }
theorem laid_met (os : Os) (args : Array Value) : laidMet Tryz.prog Rows.simplifyDeviatesRow.laid ((laidWorld os).forCall (fun _ _ => 0) ⟨#[], args, []⟩).memory :=
  laidMet_of_run3 8 (by kernel_rfl) (by kernel_rfl) (by kernel_rfl)
end Go.Proofs.YtgcjapcminakdaaGreatDoor
/- A region that draws its order: values, then effects, then values that look at what the effects brought. Conditions: the closed check 'late3B'. -/
set_option linter.unusedSimpArgs false
set_option linter.unusedVariables false
set_option maxHeartbeats 2000000
set_option linter.unusedSectionVars false
namespace Go.Vt
open Go.RowKit
section
variable {P : Program} {w0 : World} {n : Nat} {ops : Array Oper} {L L' Lw : List Blk} {E : Env}
variable {Q : Exit → Act → World → Prop} {Z : List Nat}
def lexF (ops : Array Oper) (k : Array Bool → Bool) : List Nat → Array Bool → Bool
  | [], listed => k listed
  | h :: hs, listed => (Region.ready .any ops listed).contains h && Region.free .any ops listed h && lexF ops k hs (listed.setIfInBounds h true)
def seqF (ops : Array Oper) (k : Array Bool → Bool) : List Nat → Array Bool → Bool
  | [], listed => k listed
  | i :: es, listed => decide (Region.ready .any ops listed = [i]) && seqF ops k es (listed.setIfInBounds i true)
def late3B (ops : Array Oper) (hs es ts : List Nat) : Bool :=
  Region.noSelect ops && decide (hs.length + (es.length + ts.length) = ops.size) && lexF ops (seqF ops (lexG ops [] ts) es) hs (Array.replicate ops.size false)
theorem wpG_of_ecF {F G : List Blk → Act → Prop} {N : Nat} {k : Array Bool → Bool} (hk : ∀ listed L a, k listed = true → Weak w0 Lw L → G L a → wpG P w0 ops [] Lw F N listed [] L a) : ∀ (es : List Nat) (listed : Array Bool) (L : List Blk) (a : Act), seqF ops k es listed = true → Weak w0 Lw L → EC P w0 ops [] Lw G es L a → wpG P w0 ops [] Lw F (es.length + N) listed es L a
  | [], listed, L, a, hB, hw, h => by
    rw [List.length_nil, Nat.zero_add]
    exact hk listed L a hB hw h
  | i :: es, listed, L, a, hB, hw, h => by
    simp only [seqF, Bool.and_eq_true, decide_eq_true_eq] at hB
    rw [show (i :: es).length + N = (es.length + N) + 1 by simp only [List.length_cons]; omega]
    refine ⟨by rw [hB.1]; simp, fun j hj => ?_⟩
    rw [hB.1] at hj
    have : j = i := by simpa using hj
    subst this
    obtain ⟨o, ho, hE⟩ := h
    exact ⟨o, ho, .inr ⟨es, rfl, hE.mono fun L' u hw' hK => wpG_of_ecF hk es _ _ _ hB.2 hw' hK⟩⟩
theorem wpG_of_ahF {l : List Oper} {F : List Blk → Act → Prop} {es : List Nat} {G : Act → Prop} {N : Nat} {k : Array Bool → Bool} (hk : ∀ listed a, k listed = true → G a → wpG P w0 l.toArray [] Lw F N listed es L a) (hsel : Region.noSelect l.toArray = true) (hw : Weak w0 Lw L) : ∀ (hs : List Nat) (listed : Array Bool) (a : Act), lexF l.toArray k hs listed = true →
    AH P w0 Lw l.toArray G (picks l hs) a → wpG P w0 l.toArray [] Lw F (hs.length + N) listed es L a
  | [], listed, a, hB, h => by
    rw [List.length_nil, Nat.zero_add]
    exact hk listed a hB h
  | i :: hs, listed, a, hB, h => by
    simp only [lexF, Bool.and_eq_true] at hB
    obtain ⟨⟨hr, hf⟩, hB'⟩ := hB
    have hr' : i ∈ Region.ready .any l.toArray listed := by simpa using hr
    obtain ⟨_, o, ho, _⟩ := mem_ready.1 hr'
    have ho' : l[i]? = some o := by simpa using ho
    simp only [picks, ho', AH] at h
    obtain ⟨v, hy, h⟩ := h
    rw [show (i :: hs).length + N = (hs.length + N) + 1 by simp only [List.length_cons]; omega]
    exact wpG_first ho (Region.noSelect_spec hsel) (fun z o hz _ => by simp at hz) _ _ _ _ _ (Region.free_spec ho hf) hr' hy hw (wpG_of_ahF hk hsel hw hs _ _ hB' h)
theorem j_late3 {id : Nat} {l : List Oper} (hs es ts : List Nat) (Lw : List Blk) (hm : P.follows .mixedOrders = true := by exact mixed) (hB : late3B l.toArray hs es ts = true := by kernel_rfl) (he : es.all (fun i => decide (i < l.length)) = true := by decide) (hL : Lw.Sublist L := by first | exact List.Sublist.refl _ | exact List.nil_sublist _ | exact sbl | (repeat (first | exact List.Sublist.refl _ | exact List.nil_sublist _ | refine List.Sublist.cons_cons _ ?_ | refine List.Sublist.cons _ ?_ | refine List.Sublist.trans ?_ (List.sublist_append_right _ _))))
    (h : JH P w0 n Lw l.toArray (fun E' => JE P w0 n l.toArray Lw (fun E1 L1 => JH P w0 n Lw l.toArray (fun E2 => JX w0 n .normal Q E2 L1) (picks l ts) E1) (picks l es) E' L) (picks l hs) E) : J P w0 n (.region id l.toArray true) Q E L := by
  refine ⟨fun a w ha hw => ?_⟩
  simp only [late3B, Bool.and_eq_true, decide_eq_true_eq] at hB
  obtain ⟨⟨hsel, hlen⟩, hlex⟩ := hB
  refine wp_region_any hm ?_
  have H : wpG P w0 l.toArray [] Lw (fun L a => ∀ w, Own w0 L w → Q .normal a w) (hs.length + (es.length + (ts.length + ([] : List Nat).length))) (Array.replicate l.toArray.size false) es L a :=
    wpG_of_ahF (k := seqF l.toArray (lexG l.toArray [] ts) es) (G := fun a => EC P w0 l.toArray [] Lw (fun L1 a1 => AH P w0 Lw l.toArray (fun a2 => ∀ w, Own w0 L1 w → Q .normal a2 w) (picks l ts) a1) es L a) (fun listed a hb hG => wpG_of_ecF (fun listed L1 a1 hb1 hw1 hG1 => wpG_of_ah hsel hw1 ts listed a1 rfl hb1 hG1) es listed L a hb (weak_sub hL) hG) hsel (weak_sub hL) hs _ a hlex
      (ah_of_jh (n := n) (fun E' a' ha' hK => ec_of_je (n := n) (Lj := Lw) (fun E1 L1 a1 ha1 h1 => ah_of_jh (n := n) (fun E2 a2 ha2 hx w hw => hx.out a2 w ha2 hw) _ _ _ ha1 h1) es E' L a' he (fun _ _ => rfl) ha' hK) _ _ _ ha h)
  have := wpAny_of_wpG (P := P) (Q := Q) (fun L a w hF hw => hF w hw) _ _ _ _ _ w.drew (hw.to (Ext.drew w)) H
  rw [List.length_nil, Nat.add_zero, hlen] at this
  exact this
def phB (ops : Array Oper) : List (List Nat × List Nat) → Array Bool → Bool
  | [], listed => (Region.ready .any ops listed).isEmpty
  | p :: ps, listed => lexF ops (seqF ops (phB ops ps) p.2) p.1 listed
def phN : List (List Nat × List Nat) → Nat
  | [] => 0
  | p :: ps => p.1.length + (p.2.length + phN ps)
def phE : List (List Nat × List Nat) → List Nat
  | [] => []
  | p :: ps => p.2 ++ phE ps
def phA (ops : Array Oper) (ps : List (List Nat × List Nat)) : Bool :=
  Region.noSelect ops && decide (phN ps = ops.size) && ps.all (fun p => p.2.all (fun i => decide (i < ops.size))) && phB ops ps (Array.replicate ops.size false)
def PH (P : Program) (w0 : World) (l : List Oper) (Lw : List Blk) (F : List Blk → Act → Prop) : List (List Nat × List Nat) → List Blk → Act → Prop
  | [], L, a => F L a
  | p :: ps, L, a => AH P w0 Lw l.toArray (fun a1 => EC P w0 l.toArray [] Lw (fun L1 a2 => PH P w0 l Lw F ps L1 a2) p.2 L a1) (picks l p.1) a
/-- The phases under an environment. -/
def JP (P : Program) (w0 : World) (n : Nat) (l : List Oper) (Lw : List Blk) (K : Env → List Blk → Prop) : List (List Nat × List Nat) → Env → List Blk → Prop
  | [], E, L => K E L
  | p :: ps, E, L => JH P w0 n Lw l.toArray (fun E' => JE P w0 n l.toArray Lw (fun E1 L1 => JP P w0 n l Lw K ps E1 L1) (picks l p.2) E' L) (picks l p.1) E
theorem wpG_of_ecR {F G : List Blk → Act → Prop} {N : Nat} {R : List Nat} {k : Array Bool → Bool} (hk : ∀ listed L a, k listed = true → Weak w0 Lw L → G L a → wpG P w0 ops [] Lw F N listed R L a) : ∀ (es : List Nat) (listed : Array Bool) (L : List Blk) (a : Act), seqF ops k es listed = true → Weak w0 Lw L → EC P w0 ops [] Lw G es L a → wpG P w0 ops [] Lw F (es.length + N) listed (es ++ R) L a
  | [], listed, L, a, hB, hw, h => by
    rw [List.length_nil, Nat.zero_add]
    exact hk listed L a hB hw h
  | i :: es, listed, L, a, hB, hw, h => by
    simp only [seqF, Bool.and_eq_true, decide_eq_true_eq] at hB
    rw [show (i :: es).length + N = (es.length + N) + 1 by simp only [List.length_cons]; omega]
    refine ⟨by rw [hB.1]; simp, fun j hj => ?_⟩
    rw [hB.1] at hj
    have : j = i := by simpa using hj
    subst this
    obtain ⟨o, ho, hE⟩ := h
    exact ⟨o, ho, .inr ⟨es ++ R, rfl, hE.mono fun L' u hw' hK => wpG_of_ecR hk es _ _ _ hB.2 hw' hK⟩⟩
theorem wpG_of_ph {l : List Oper} {F : List Blk → Act → Prop} (hsel : Region.noSelect l.toArray = true) : ∀ (ps : List (List Nat × List Nat)) (listed : Array Bool) (L : List Blk) (a : Act), phB l.toArray ps listed = true → Weak w0 Lw L → PH P w0 l Lw F ps L a → wpG P w0 l.toArray [] Lw F (phN ps) listed (phE ps) L a
  | [], listed, L, a, hB, hw, h => ⟨rfl, by simpa [phB] using hB, h⟩
  | p :: ps, listed, L, a, hB, hw, h =>
    wpG_of_ahF (fun listed a1 hb hG => wpG_of_ecR (fun listed L1 a2 hb2 hw2 hG2 => wpG_of_ph hsel ps listed L1 a2 hb2 hw2 hG2) p.2 listed L a1 hb hw hG) hsel hw p.1 listed a hB h
theorem ph_of_jp {l : List Oper} {K : Env → List Blk → Prop} {F : List Blk → Act → Prop} (hK : ∀ E L a, Rep n E a → K E L → F L a) : ∀ (ps : List (List Nat × List Nat)) (E : Env) (L : List Blk) (a : Act), ps.all (fun p => p.2.all (fun i => decide (i < l.length))) = true → Rep n E a → JP P w0 n l Lw K ps E L → PH P w0 l Lw F ps L a
  | [], E, L, a, _, ha, h => hK E L a ha h
  | p :: ps, E, L, a, hi, ha, h => by
    simp only [List.all_cons, Bool.and_eq_true] at hi
    exact ah_of_jh (n := n) (fun E' a' ha' hK' => ec_of_je (n := n) (Lj := Lw) (fun E1 L1 a1 ha1 h1 => ph_of_jp hK ps E1 L1 a1 hi.2 ha1 h1) p.2 E' L a' hi.1 (fun _ _ => rfl) ha' hK') _ _ _ ha h
theorem j_phases {id : Nat} {l : List Oper} (ps : List (List Nat × List Nat)) (Lw : List Blk) (hm : P.follows .mixedOrders = true := by exact mixed) (hB : phA l.toArray ps = true := by kernel_rfl) (hL : Lw.Sublist L := by first | exact List.Sublist.refl _ | exact List.nil_sublist _ | exact sbl | (repeat (first | exact List.Sublist.refl _ | exact List.nil_sublist _ | refine List.Sublist.cons_cons _ ?_ | refine List.Sublist.cons _ ?_ | refine List.Sublist.trans ?_ (List.sublist_append_right _ _))))
    (h : JP P w0 n l Lw (fun E2 L2 => JX w0 n .normal Q E2 L2) ps E L) : J P w0 n (.region id l.toArray true) Q E L := by
  refine ⟨fun a w ha hw => ?_⟩
  simp only [phA, Bool.and_eq_true, decide_eq_true_eq] at hB
  obtain ⟨⟨⟨hsel, hlen⟩, hall⟩, hlex⟩ := hB
  refine wp_region_any hm ?_
  have H := wpG_of_ph (P := P) (F := fun L a => ∀ w, Own w0 L w → Q .normal a w) hsel ps _ L a hlex (weak_sub hL) (ph_of_jp (n := n) (fun E2 L2 a2 ha2 hx w hw => hx.out a2 w ha2 hw) ps E L a (by simpa using hall) ha h)
  have := wpAny_of_wpG (P := P) (Q := Q) (fun L a w hF hw => hF w hw) _ _ _ _ _ w.drew (hw.to (Ext.drew w)) H
  rw [hlen] at this
  exact this
end
section
variable {P : Program} {w0 : World} {n : Nat} {ops : Array Oper} {L Lw : List Blk} {E : Env} {K : Env → List Blk → Prop} {rest : List Oper} {v : Value} {op : Op} {S : Prop}
variable {ty : TypeId} {pos : String} {aft : Array Edge} {gd : Option (Nat × Bool)} {t : Tmp}
theorem eV (h : Yl P w0 n L E ⟨some t, op, ty, pos, aft, gd⟩ v) (hg : guardB ops E gd = some true) (hd : Nat.blt t n = true) (hw : Lw.Sublist L) (k : JE P w0 n ops Lw K rest ((t, v) :: E) L) : JE P w0 n ops Lw K (⟨some t, op, ty, pos, aft, gd⟩ :: rest) E L :=
  ⟨hg, hd, Unit, fun _ => v, fun _ => L, fun a w ha hw => by
    have h1 := h.out a w ha hw
    unfold calm at h1
    generalize (execOp a.eval ⟨some t, op, ty, pos, aft, gd⟩).run P w = r at *
    cases r with
    | ok x w' =>
      cases x <;> simp only [calmUpon] at h1 <;> simp only [Hap]
      case value u => exact ⟨(), h1.1, hw.to h1.2⟩
      case skip => exact ⟨(), h1.1.symm, hw.to h1.2⟩
      case enter f args =>
        obtain ⟨rfl, h2⟩ := h1
        exact h2.mono fun e w'' ⟨he, hx⟩ => ⟨_, he, (), rfl, hw.to hx⟩
    | halt x w' => simp only [calmUpon] at h1, fun _ => weak_sub hw, fun _ => k⟩
theorem uS [h : YsC P w0 n L E op v S] (hg : guardB ops E gd = some true) (hd : Nat.blt t n = true) [hw : SblC Lw L] (s : S) (k : JE P w0 n ops Lw K rest ((t, v) :: E) L) : JE P w0 n ops Lw K (⟨some t, op, ty, pos, aft, gd⟩ :: rest) E L := eV (h.out s _ _ _ _ _) hg hd hw.out k
theorem uC [h : YcC P w0 n L E op v S] (hg : guardB ops E gd = some true) (hd : Nat.blt t n = true) [hw : SblC Lw L] (s : S) (k : JE P w0 n ops Lw K rest ((t, v) :: E) L) : JE P w0 n ops Lw K (⟨some t, op, ty, pos, aft, gd⟩ :: rest) E L := eV (h.out s _ _ _ _ _) hg hd hw.out k
theorem uW [h : YwC P w0 n L E op v] (hg : guardB ops E gd = some true) (hd : Nat.blt t n = true) [hw : SblC Lw L] (k : JE P w0 n ops Lw K rest ((t, v) :: E) L) : JE P w0 n ops Lw K (⟨some t, op, ty, pos, aft, gd⟩ :: rest) E L := eV (h.out _ _ _ _ _) hg hd hw.out k
theorem uP {c x y : Operand} (hc : Env.ev E c = some (.bool true)) (hx : Env.ev E x = some v) (hg : guardB ops E gd = some true) (hd : Nat.blt t n = true) [hw : SblC Lw L] (k : JE P w0 n ops Lw K rest ((t, v) :: E) L) : JE P w0 n ops Lw K (⟨some t, .pick c x y, ty, pos, aft, gd⟩ :: rest) E L := eV (wl_pickT hc hx) hg hd hw.out k
theorem uQ {c x y : Operand} (hc : Env.ev E c = some (.bool false)) (hx : Env.ev E y = some v) (hg : guardB ops E gd = some true) (hd : Nat.blt t n = true) [hw : SblC Lw L] (k : JE P w0 n ops Lw K rest ((t, v) :: E) L) : JE P w0 n ops Lw K (⟨some t, .pick c x y, ty, pos, aft, gd⟩ :: rest) E L := eV (wl_pickF hc hx) hg hd hw.out k
end
theorem wkP {P Q : Prop} (k : Q) (h : Wr Q → P := by intro hq; simp only [JP, picks, List.getElem?_cons_succ, List.getElem?_cons_zero]; exact hq.out) : P := h ⟨k⟩
/-- The walk in tails. -/
theorem wkT {P Q : Prop} (k : Q) (h : Wr Q → P := by intro hq; (first | refine eS rfl rfl ?_ | refine uP rfl rfl rfl rfl ?_ | refine uQ rfl rfl rfl rfl ?_ | refine eX rfl rfl ?_ | (refine uS rfl rfl ?_ ?_; focus omega) | (refine uC rfl rfl ?_ ?_; focus (first | exact trivial | assumption | constructor <;> assumption | exact mb2 rfl rfl | exact mb4 rfl rfl rfl rfl)) | refine uW rfl rfl ?_ | refine eF rfl ?_ | refine eT rfl ?_ | (refine eA rfl rfl ?_) | (refine eB rfl rfl ?_) | (refine eN rfl rfl ?_ ?_; (focus (first | exact trivial | assumption | constructor <;> assumption | exact mb2 rfl rfl | exact mb4 rfl rfl rfl rfl)); (try simp only [List.cons_append, List.nil_append, List.append_nil])) | refine je_nil ?_ | refine tX rfl rfl ?_ | (refine tS rfl rfl ?_ ?_; focus omega) | (refine tC rfl rfl ?_ ?_; focus (first | exact trivial | assumption | constructor <;> assumption | exact mb2 rfl rfl | exact mb4 rfl rfl rfl rfl)) | refine tW rfl rfl ?_ | refine tK rfl rfl ?_ | refine Go.Vt.hq (wl_pickT rfl rfl) rfl rfl ?_ | refine Go.Vt.hq (wl_pickF rfl rfl) rfl rfl ?_ | refine jh_nil ?_ | (refine wn_new ?_) | refine jn_nil ?_); (repeat (first | refine eS rfl rfl ?_ | refine uP rfl rfl rfl rfl ?_ | refine uQ rfl rfl rfl rfl ?_ | refine eX rfl rfl ?_ | (refine uS rfl rfl ?_ ?_; focus omega) | (refine uC rfl rfl ?_ ?_; focus (first | exact trivial | assumption | constructor <;> assumption | exact mb2 rfl rfl | exact mb4 rfl rfl rfl rfl)) | refine uW rfl rfl ?_ | refine eF rfl ?_ | refine eT rfl ?_ | (refine eA rfl rfl ?_) | (refine eB rfl rfl ?_) | (refine eN rfl rfl ?_ ?_; (focus (first | exact trivial | assumption | constructor <;> assumption | exact mb2 rfl rfl | exact mb4 rfl rfl rfl rfl)); (try simp only [List.cons_append, List.nil_append, List.append_nil])) | refine je_nil ?_ | refine tX rfl rfl ?_ | (refine tS rfl rfl ?_ ?_; focus omega) | (refine tC rfl rfl ?_ ?_; focus (first | exact trivial | assumption | constructor <;> assumption | exact mb2 rfl rfl | exact mb4 rfl rfl rfl rfl)) | refine tW rfl rfl ?_ | refine tK rfl rfl ?_ | refine Go.Vt.hq (wl_pickT rfl rfl) rfl rfl ?_ | refine Go.Vt.hq (wl_pickF rfl rfl) rfl rfl ?_ | refine jh_nil ?_ | (refine wn_new ?_) | refine jn_nil ?_)); exact hq.out) : P := h ⟨k⟩
end Go.Vt
/- Slices of the call's own that may be nil, under the program logic: how they lie, appends onto them, their handing on. Conditions: those that each rule names. -/
set_option linter.unusedSimpArgs false
set_option linter.unusedVariables false
set_option maxHeartbeats 2000000
set_option linter.unusedSectionVars false
namespace Go.Vt
open Go.RowKit
/-- How a list lies: nowhere, or in a block: its number, its capacity, what lies spare. -/
structure SlS {α : Type} (enc : α → Array Value) (k : Nat) (xs : List α) where
  s : Option (Nat × Nat × List Value)
  nil : s = none ↔ xs = []
  ok : ∀ t, s = some t → xs.length ≤ t.2.1 ∧ t.2.2.length = (t.2.1 - xs.length) * k
section
variable {α : Type} {enc : α → Array Value} {k : Nat} {xs : List α}
def SlS.no : SlS enc k [] := ⟨none, ⟨fun _ => rfl, fun _ => rfl⟩, (fun _ h => by cases h)⟩
def SlS.at_ (b c : Nat) (sp : List Value) (h : xs.length ≤ c ∧ sp.length = (c - xs.length) * k) (h0 : xs ≠ []) : SlS enc k xs := ⟨some (b, c, sp), ⟨fun h => by (cases h), fun h => absurd h h0⟩, (fun t ht => by injection ht with ht; subst ht; exact h)⟩
def vO (n : Nat) : Option (Nat × Nat × List Value) → Value
  | none => .slice none 0 0
  | some t => .slice (some ⟨t.1, 0, none⟩) n t.2.1
def mO (enc : α → Array Value) (T : TypeId) (xs : List α) : Option (Nat × Nat × List Value) → List Blk
  | none => []
  | some t => [⟨t.1, row enc xs t.2.2, T⟩]
/-- The slice, and its block. -/
def vSl (s : SlS enc k xs) : Value := vO xs.length s.s
def mS (T : TypeId) (s : SlS enc k xs) : List Blk := mO enc T xs s.s
theorem SlS.cases (T : TypeId) (s : SlS enc k xs) : (xs = [] ∧ vSl s = .slice none 0 0 ∧ mS T s = []) ∨ ∃ b c sp, (xs.length ≤ c ∧ sp.length = (c - xs.length) * k) ∧ vSl s = .slice (some ⟨b, 0, none⟩) xs.length c ∧ mS T s = [⟨b, row enc xs sp, T⟩] ∧ xs ≠ [] := by
  obtain ⟨s, h1, h2⟩ := s
  cases s with
  | none => exact .inl ⟨h1.1 rfl, rfl, rfl⟩
  | some t => exact .inr ⟨t.1, t.2.1, t.2.2, h2 t rfl, rfl, rfl, fun h => by have := h1.2 h; cases this⟩
end
/-- The list of blocks begins, after turns, with those of a slice. -/
class OwnS {α : Type} {enc : α → Array Value} {k : Nat} {xs : List α} (T : outParam TypeId) (s : SlS enc k xs) (L : List Blk) (L1 : outParam (List Blk)) : Prop where
  out : L.Perm (mS T s ++ L1)
section
variable {α : Type} {enc : α → Array Value} {k : Nat} {xs : List α}
instance (priority := high) osHere (T : TypeId) (s : SlS enc k xs) (L : List Blk) : OwnS T s (mS T s ++ L) L := ⟨.refl _⟩
instance (priority := high) osHere0 (T : TypeId) (s : SlS enc k xs) : OwnS T s (mS T s) [] := ⟨by rw [List.append_nil]⟩
instance (priority := low) osThere (T : TypeId) (s : SlS enc k xs) (e : Blk) (L L1 : List Blk) [h : OwnS T s L L1] : OwnS T s (e :: L) (e :: L1) := ⟨(h.out.cons e).trans (List.perm_middle.symm)⟩
instance (priority := low) osSkip {β : Type} {enc' : β → Array Value} {k' : Nat} {ys : List β} (T T' : TypeId) (s : SlS enc k xs) (u : SlS enc' k' ys) (L L1 : List Blk) [h : OwnS T s L L1] : OwnS T s (mS T' u ++ L) (mS T' u ++ L1) := ⟨by
  refine (h.out.append_left _).trans ?_
  rw [← List.append_assoc, ← List.append_assoc]
  exact (List.perm_append_comm).append_right _⟩
instance (priority := low) delSkip (A : List Blk) (b : Nat) (cs : Array Value) (T : TypeId) (L L1 : List Blk) [h : DelC b L cs T L1] : DelC b (A ++ L) cs T (A ++ L1) := ⟨(h.out.append_left A).trans List.perm_middle⟩
instance (priority := high) sblP (X A B : List Blk) [h : SblC A B] : SblC (X ++ A) (X ++ B) := ⟨h.out.append_left X⟩
instance (priority := high) sblR (X : List Blk) : SblC X X := ⟨List.Sublist.refl _⟩
/-- A slice that is known, the call's own or not. -/
class LstC (w0 : World) (L : List Blk) (v : Value) (α : outParam Type) (enc : outParam (α → Array Value)) (xs : outParam (List α)) : Prop where
  out : ∀ w, Own w0 L w → ArgS w v enc xs
end
instance (priority := low) lstArg (w0 : World) (L : List Blk) (v : Value) (α : Type) (enc : α → Array Value) (xs : List α) [h : ArgC w0 v α enc xs] : LstC w0 L v α enc xs := ⟨fun _ hw => h.out.to hw.ext⟩
theorem argS_row {α : Type} {enc : α → Array Value} {k : Nat} [he : EncC enc k] {w : World} {b c : Nat} {xs : List α} {sp : List Value} {T : TypeId} {fz : Nat × Nat} (hb : w.heap[b]? = some (.cells (row enc xs sp) T fz)) (hc : xs.length ≤ c) : ArgS w (.slice (some ⟨b, 0, none⟩) xs.length c) enc xs := by
  refine ⟨.inr ⟨⟨b, 0, none⟩, c, rfl, hc, fun i f k' u hi hk hu => ?_⟩⟩
  rw [addr_add, cell_block hb]
  obtain rfl : k' = k := by rw [← hk xs[i]]; exact he.size _
  have hf : f < k' := by
    rcases Nat.lt_or_ge f k' with h1 | h1
    · exact h1
    · rw [Array.getElem?_eq_none (by rw [hk]; exact h1)] at hu
      cases hu
  rw [Nat.zero_add, row_get xs sp i f hi hf]
  exact hu
instance lstOwn {α : Type} {enc : α → Array Value} {k : Nat} {xs : List α} [he : EncC enc k] (w0 : World) (L L1 : List Blk) (T : TypeId) (s : SlS enc k xs) [h : OwnS T s L L1] : LstC w0 L (vSl s) α enc xs := ⟨fun w hw => by
  have hp := hw.perm h.out
  rcases s.cases T with ⟨rfl, hv, hm⟩ | ⟨b, c, sp, h1, hv, hm, -⟩
  · rw [hv]
    exact ⟨.inl ⟨rfl, rfl⟩⟩
  · rw [hm] at hp
    rw [hv]
    obtain ⟨fz, hb⟩ : ∃ fz, w.heap[b]? = some (.cells (row enc xs sp) T fz) := ⟨(0, 0), (hp.mem _ (.head _)).2⟩
    exact argS_row hb h1.1⟩
section
variable {P : Program} {w0 : World} {n : Nat} {ops : Array Oper} {L L1 : List Blk} {E : Env}
variable {Q : Exit → Act → World → Prop} {rest : List Oper}
variable {ty : TypeId} {pos : String} {aft : Array Edge} {gd : Option (Nat × Bool)} {t : Tmp} {x y : Operand}
instance yk_len_vS {α : Type} {enc : α → Array Value} {k : Nat} {xs : List α} {S e : TypeId} {s : SlS enc k xs} [hx : IsC (evl E x) (vSl s)] [hu : UndC P S (.slice e)] : YlC P w0 n L E (.call ⟨.builtin .len, #[x], #[S]⟩) (.int .i64 xs.length) := ⟨fun d ty pos aft gd => by
  rcases s.cases 0 with ⟨rfl, hv, -⟩ | ⟨b, c, sp, h1, hv, -, -⟩
  · have : IsC (evl E x) (.slice none 0 0) := ⟨by rw [hx.out, hv]⟩
    exact (yk_len_sl (P := P) (w0 := w0) (n := n) (L := L) (E := E) (x := x) (S := S) (e := e) (p := none) (l := 0) (c := 0)).out d ty pos aft gd
  · have : IsC (evl E x) (.slice (some ⟨b, 0, none⟩) xs.length c) := ⟨by rw [hx.out, hv]⟩
    exact (yk_len_sl (P := P) (w0 := w0) (n := n) (L := L) (E := E) (x := x) (S := S) (e := e) (p := some ⟨b, 0, none⟩) (l := xs.length) (c := c)).out d ty pos aft gd⟩
section
variable {α : Type} {enc : α → Array Value} {S T T2 : TypeId} {b2 m c2 k B : Nat} {xs ys : List α} {z : Value} {zc : Array Value} {s : SlS enc k xs}
variable [hx : IsC (evl E x) (vSl s)] [hy : IsC (evl E y) (.slice (some ⟨b2, 0, none⟩) m c2)] [hd : OwnS T s L L1] [h2 : AtC w0 L b2 (row enc ys []) T2] [hT : UndC P S (.slice T)] [hz : ZeroC P T z zc] [he : EncC enc k] [hk : SizeC P T k] [hB : BytesC P T B]
include hx hy hd h2 hT hz he hk hB
theorem app_runU (hm : ys.length = m) (hzk : zc.size = k) (hb : 0 < m ∧ (xs.length + m) * B ≤ 140737488355328 ∧ xs.length + m ≤ 9223372036854775807) (a : Act) (w : World) (ha : Rep n E a) (hw : Own w0 L w) :
    ∃ s' : SlS enc k (xs ++ ys), ∃ w', (execOp a.eval ⟨some t, .call ⟨.builtin .append, #[x, y], #[S, S]⟩, ty, pos, aft, gd⟩).run P w = .ok (.value (vSl s')) w' ∧ Own w0 (mS T s' ++ L1) w' := by
  have hp := hw.perm hd.out
  have hlen : (xs ++ ys).length = xs.length + m := by rw [List.length_append, hm]
  have hne : xs ++ ys ≠ [] := fun h0 => by rw [h0, List.length_nil] at hlen; omega
  obtain ⟨fz, hf⟩ := h2.out w hw
  rcases s.cases T with ⟨rfl, hv, hm0⟩ | ⟨b, c, sp, h1, hv, hm1, -⟩
  · have hx' : Env.ev E x = some (.slice none 0 0) := by rw [← evl_ev, hx.out, hv]
    rw [hm0, List.nil_append] at hp
    obtain ⟨s, w', hr, ho⟩ := run_app_nil (L := L1) (ty := ty) (b2 := b2) (off2 := 0) (m := m) (c2 := c2) (news := rowL enc ys) hT.out hz.out hz.cells hk.out hB.out hzk hp ⟨T2, fz, hf⟩ (by rw [rowL_len (k := k), hm]) (fun j u hu => by rw [Nat.zero_add]; simpa [row] using hu) hb.1 (by simpa using hb.2.1) (by simpa using hb.2.2)
    refine ⟨SlS.at_ s.1.1 s.1.2.1 s.1.2.2 (by rw [List.nil_append, hm]; exact s.2) hne, w', ?_, ho⟩
    have h3 := run_appop (d := some t) (pos := pos) (aft := aft) (gd := gd) ha hx' (isE (x := y)) hr
    rw [h3]
    show _ = Result.ok (Next.value (Value.slice _ ([] ++ ys).length _)) w'
    rw [List.nil_append, hm]
  · have hx' : Env.ev E x = some (.slice (some ⟨b, 0, none⟩) xs.length c) := by rw [← evl_ev, hx.out, hv]
    rw [hm1] at hp
    obtain ⟨s, w', hr, ho⟩ := run_app (L1 := L1) (ty := ty) (b := b) (len := xs.length) (c := c) (b2 := b2) (off2 := 0) (m := m) (c2 := c2) (xs := rowL enc xs) (sp := sp) (news := rowL enc ys) hT.out hz.out hz.cells hk.out hB.out hzk hp (.refl _) (rowL_len xs) h1.2 h1.1 ⟨T2, fz, hf⟩ (by rw [rowL_len (k := k), hm]) (fun j u hu => by rw [Nat.zero_add]; simpa [row] using hu) (row_one ys) hb.2.1 hb.2.2
    refine ⟨SlS.at_ s.1.1 s.1.2.1 s.1.2.2 (by rw [hlen]; exact s.2) hne, w', ?_, ?_⟩
    · have h3 := run_appop (d := some t) (pos := pos) (aft := aft) (gd := gd) ha hx' (isE (x := y)) hr
      rw [h3]
      show _ = Result.ok (Next.value (Value.slice _ (xs ++ ys).length _)) w'
      rw [hlen]
    · show Own w0 (⟨s.1.1, row enc (xs ++ ys) s.1.2.2, T⟩ :: L1) w'
      rw [row, rowL_append]
      exact ho
theorem sU (hg : guardB ops E gd = some true) (hd' : Nat.blt t n = true) (hm : ys.length = m) (hzk : zc.size = k) (hb : 0 < m ∧ (xs.length + m) * B ≤ 140737488355328 ∧ xs.length + m ≤ 9223372036854775807)
    (h : ∀ s' : SlS enc k (xs ++ ys), JO P w0 n ops Q rest ((t, vSl s') :: E) (mS T s' ++ L1)) : JO P w0 n ops Q (⟨some t, .call ⟨.builtin .append, #[x, y], #[S, S]⟩, ty, pos, aft, gd⟩ :: rest) E L :=
  jo_w (L' := SlS enc k (xs ++ ys)) (o := ⟨some t, .call ⟨.builtin .append, #[x, y], #[S, S]⟩, ty, pos, aft, gd⟩) hg hd' (fun s => vSl s) (fun s => mS T s ++ L1)
    (fun a w ha hw => by
      obtain ⟨s, w', hr, ho⟩ := app_runU (hx := hx) (hy := hy) (hd := hd) (h2 := h2) (hT := hT) (hz := hz) (he := he) (hk := hk) (hB := hB) hm hzk hb a w ha hw
      exact ⟨s, w', .inl hr, ho⟩) h
theorem eU {K : Env → List Blk → Prop} {Lw : List Blk} (hg : guardB ops E gd = some true) (hd' : Nat.blt t n = true) [hw : SblC Lw L1] (hm : ys.length = m) (hzk : zc.size = k) (hb : 0 < m ∧ (xs.length + m) * B ≤ 140737488355328 ∧ xs.length + m ≤ 9223372036854775807)
    (h : ∀ s' : SlS enc k (xs ++ ys), JE P w0 n ops Lw K rest ((t, vSl s') :: E) (mS T s' ++ L1)) : JE P w0 n ops Lw K (⟨some t, .call ⟨.builtin .append, #[x, y], #[S, S]⟩, ty, pos, aft, gd⟩ :: rest) E L :=
  je_old (S := SlS enc k (xs ++ ys)) (o := ⟨some t, .call ⟨.builtin .append, #[x, y], #[S, S]⟩, ty, pos, aft, gd⟩) hg hd' (fun s => vSl s) (fun s => mS T s ++ L1)
    (fun a w ha hw => by
      obtain ⟨s, w', hr, ho⟩ := app_runU (hx := hx) (hy := hy) (hd := hd) (h2 := h2) (hT := hT) (hz := hz) (he := he) (hk := hk) (hB := hB) hm hzk hb a w ha hw
      exact ⟨s, w', .inl hr, ho⟩) (fun _ => weak_sub (hw.out.trans (List.sublist_append_right _ _))) h
end
section
variable {α : Type} {enc : α → Array Value} {S T : TypeId} {b c b2 o2 m c2 k B : Nat} {ys : List α} {sp : List Value} {z : Value} {zc : Array Value}
variable [hx : IsC (evl E x) (.slice (some ⟨b, 0, none⟩) 0 c)] [hy : IsC (evl E y) (.slice (some ⟨b2, o2, none⟩) m c2)] [hd : DelC b L (row enc [] sp) T L1] [h2 : RowC w0 L b2 o2 α enc ys] [hT : UndC P S (.slice T)] [hz : ZeroC P T z zc] [he : EncC enc k] [hk : SizeC P T k] [hB : BytesC P T B]
include hx hy hd h2 hT hz he hk hB
theorem app_runG (hm : ys.length = m) (hne : ys ≠ []) (hs : sp.length = c * k) (hzk : zc.size = k) (hk0 : 0 < k) (hb : m * B ≤ 140737488355328 ∧ m ≤ 9223372036854775807) (a : Act) (w : World) (ha : Rep n E a) (hw : Own w0 L w) :
    ∃ s' : SlS enc k ys, ∃ w', (execOp a.eval ⟨some t, .call ⟨.builtin .append, #[x, y], #[S, S]⟩, ty, pos, aft, gd⟩).run P w = .ok (.value (vSl s')) w' ∧ Own w0 (mS T s' ++ L1) w' := by
  obtain ⟨cs, T2, fz, hf, hcell⟩ := h2.out w hw
  have hcs : ∀ j u, (rowL enc ys)[j]? = some u → cs[o2 + j]? = some u := fun j u hu => by
    have hj : j < (rowL enc ys).length := by
      rcases Nat.lt_or_ge j (rowL enc ys).length with h | h
      · exact h
      · rw [List.getElem?_eq_none h] at hu; cases hu
    rw [rowL_len (k := k)] at hj
    obtain ⟨q, f, rfl, hf'⟩ : ∃ q f, j = q * k + f ∧ f < k := ⟨j / k, j % k, by rw [Nat.mul_comm]; exact (Nat.div_add_mod j k).symm, Nat.mod_lt _ hk0⟩
    have hq : q < ys.length := by
      rcases Nat.lt_or_ge q ys.length with h3 | h3
      · exact h3
      · have := Nat.mul_le_mul_right k h3
        omega
    rw [rowL_get ys q f hq hf'] at hu
    rw [← Nat.add_assoc]
    exact (hcell q f k u hq he.size hu).1
  obtain ⟨⟨⟨b', c', sp'⟩, hs1⟩, w', hr, ho⟩ := run_app (L1 := L1) (ty := ty) (b := b) (len := 0) (c := c) (b2 := b2) (off2 := o2) (m := m) (c2 := c2) (xs := []) (sp := sp) (news := rowL enc ys) hT.out hz.out hz.cells hk.out hB.out hzk hw (by simpa [row, rowL_nil] using hd.out) (by simp) (by simpa using hs) (Nat.zero_le _) ⟨T2, fz, hf⟩ (by rw [rowL_len (k := k), hm]) hcs (row_one ys) (by simpa using hb.1) (by simpa using hb.2)
  simp only [Nat.zero_add] at hs1 hr ho
  refine ⟨SlS.at_ b' c' sp' (by rw [hm]; exact hs1) hne, w', ?_, ?_⟩
  · have h3 := run_appop (d := some t) (pos := pos) (aft := aft) (gd := gd) ha (isE (x := x)) (isE (x := y)) hr
    rw [h3]
    show _ = Result.ok (Next.value (Value.slice _ ys.length _)) w'
    rw [hm]
  · show Own w0 (⟨b', row enc ys sp', T⟩ :: L1) w'
    simpa [row] using ho
theorem sG (hg : guardB ops E gd = some true) (hd' : Nat.blt t n = true) (hm : ys.length = m) (hne : ys ≠ []) (hs : sp.length = c * k) (hzk : zc.size = k) (hk0 : 0 < k) (hb : m * B ≤ 140737488355328 ∧ m ≤ 9223372036854775807)
    (h : ∀ s' : SlS enc k ys, JO P w0 n ops Q rest ((t, vSl s') :: E) (mS T s' ++ L1)) : JO P w0 n ops Q (⟨some t, .call ⟨.builtin .append, #[x, y], #[S, S]⟩, ty, pos, aft, gd⟩ :: rest) E L :=
  jo_w (L' := SlS enc k ys) (o := ⟨some t, .call ⟨.builtin .append, #[x, y], #[S, S]⟩, ty, pos, aft, gd⟩) hg hd' (fun s => vSl s) (fun s => mS T s ++ L1)
    (fun a w ha hw => by
      obtain ⟨s, w', hr, ho⟩ := app_runG (hx := hx) (hy := hy) (hd := hd) (h2 := h2) (hT := hT) (hz := hz) (he := he) (hk := hk) (hB := hB) hm hne hs hzk hk0 hb a w ha hw
      exact ⟨s, w', .inl hr, ho⟩) h
end
end
/-- A list that is made from another one, element by element. -/
def mpN {α β : Type} [Inhabited α] (f : α → β) (xs : List α) : Nat → List β
  | 0 => []
  | m + 1 => mpN f xs m ++ [f (gi xs (m : Int))]
theorem mpN_len {α β : Type} [Inhabited α] (f : α → β) (xs : List α) : ∀ m, (mpN f xs m).length = m
  | 0 => rfl
  | m + 1 => by rw [mpN, List.length_append, mpN_len f xs m]; rfl
theorem mpN_take {α β : Type} [Inhabited α] (f : α → β) (xs : List α) : ∀ m, m ≤ xs.length → mpN f xs m = (xs.take m).map f
  | 0, _ => rfl
  | m + 1, h => by
    rw [mpN, mpN_take f xs m (by omega), List.take_succ_eq_append_getElem (by omega), List.map_append, gi_nat (by omega)]
    rfl
theorem mpN_all {α β : Type} [Inhabited α] (f : α → β) (xs : List α) : mpN f xs xs.length = xs.map f := by rw [mpN_take f xs _ (Nat.le_refl _), List.take_length]
end Go.Vt
/- Calls that turn their caller's own memory, under the program logic. Conditions: those that each rule names. -/
set_option linter.unusedSimpArgs false
set_option linter.unusedVariables false
set_option maxHeartbeats 2000000
set_option linter.unusedSectionVars false
namespace Go.Vt
open Go.RowKit
/-- What a call comes to that turns memory of its caller's own. -/
def RetX (w0 : World) (S : Type) (val : S → Value) (mem : S → List Blk) (e : Ending) (w' : World) : Prop := ∃ s, e = .returned (val s) ∧ Own w0 (mem s) w'
class SpecX (P : Program) (w0 : World) (L : List Blk) (f : FuncId) (args : List Value) (S : outParam Type) (val : outParam (S → Value)) (mem : outParam (S → List Blk)) (pre : outParam Prop) : Prop where
  out : pre → ∀ w, Own w0 L w → Calls P f args.toArray w (RetX w0 S val mem)
section
variable {P : Program} {w0 : World} {n : Nat} {ops : Array Oper} {L : List Blk} {E : Env}
variable {Q : Exit → Act → World → Prop} {rest : List Oper}
variable {ty : TypeId} {pos : String} {aft : Array Edge} {gd : Option (Nat × Bool)} {t : Tmp}
theorem fn_introL {f : FuncId} {fn : Func} {c : Code} {l : List Value} {w : World} {R : Ending → World → Prop} (hf : P.funcs[f]? = some fn) (hb : fn.body = some c) (hn : fn.ntmps = n) (hl : Nat.ble l.length n = true) [hE : EnvC l E]
    (hw : Own w0 L w) (h : J P w0 n c (bodyPost P fn R) E L) : Calls P f l.toArray w R := by
  rw [← hE.out] at h
  have hl' : l.length ≤ n := Nat.le_of_ble_eq_true hl
  refine calls_of_wp hf hb (h.out _ _ ⟨by simp [hn]; omega, rfl, fun k v hk => ?_⟩ hw)
  obtain ⟨_, h2⟩ := find_envOf l 0 k v hk
  have hlt : k < l.length := by
    rcases Nat.lt_or_ge k l.length with h' | h'
    · exact h'
    · simp [List.getElem?_eq_none h'] at h2
  simp only [Nat.sub_zero] at h2
  rw [Array.getElem?_append_left (by simpa using hlt)]
  simpa using h2
theorem jx_end0 {fn : Func} {R : Ending → World → Prop} (hres : fn.results = #[]) (h : ∀ w, Own w0 L w → R (.returned (.tuple #[])) w) : JX w0 n .normal (bodyPost P fn R) E L := jx_end (fun a w ha _ => by simp [results, hres]) h
theorem jx_ret0 {fn : Func} {R : Ending → World → Prop} (hres : fn.results = #[]) (h : ∀ w, Own w0 L w → R (.returned (.tuple #[])) w) : JX w0 n .ret (bodyPost P fn R) E L := jx_ret (fun a w ha _ => by simp [results, hres]) h
section
variable {S : Type} {val : S → Value} {mem : S → List Blk} {f : FuncId} {xs : List Operand} {l : List Value} {ats : Array TypeId} {pre : Prop}
theorem sZ [hf : CallC P f] [hl : IsC (evsl E xs) l] [hc : SpecX P w0 L f l S val mem pre] (hg : guardB ops E gd = some true) (hd : Nat.blt t n = true) (s : pre) (h : ∀ s, JO P w0 n ops Q rest ((t, val s) :: E) (mem s)) : JO P w0 n ops Q (⟨some t, .call ⟨.value (.func f), xs.toArray, ats⟩, ty, pos, aft, gd⟩ :: rest) E L :=
  jo_c (S := S) (o := ⟨some t, .call ⟨.value (.func f), xs.toArray, ats⟩, ty, pos, aft, gd⟩) hg hd val mem (fun _ _ ha => run_call hf.out ha isS) (fun w hw => hc.out s w hw) h
theorem sY {u : Tmp} {cap c : List Value} [hu : IsC (evl E (.tmp u)) (.func (.func f) #[] cap.toArray)] [hf : CallC P f] [hl : IsC (evsl E xs) l] [ha : AppC l cap c] [hc : SpecX P w0 L f c S val mem pre] (hg : guardB ops E gd = some true) (hd : Nat.blt t n = true) (s : pre) (h : ∀ s, JO P w0 n ops Q rest ((t, val s) :: E) (mem s)) : JO P w0 n ops Q (⟨some t, .call ⟨.value (.tmp u), xs.toArray, ats⟩, ty, pos, aft, gd⟩ :: rest) E L :=
  jo_c (S := S) (o := ⟨some t, .call ⟨.value (.tmp u), xs.toArray, ats⟩, ty, pos, aft, gd⟩) hg hd val mem (fun _ _ hr => run_callcl hf.out hr isE isS ha.out) (fun w hw => hc.out s w hw) h
end
end
end Go.Vt
/- A region that draws its order: values that look at memory ahead of all effects, values that look at no memory anywhere, then effects. Conditions: the closed check 'sgA'. -/
set_option linter.unusedSimpArgs false
set_option linter.unusedVariables false
set_option maxHeartbeats 2000000
set_option linter.unusedSectionVars false
namespace Go.Vt
open Go.RowKit
section
variable {P : Program} {w0 : World} {n : Nat} {ops : Array Oper} {L L' Lw : List Blk} {E : Env}
variable {Q : Exit → Act → World → Prop} {rest : List Oper} {v : Value} {Z : List Nat}
theorem wpG_first0 {i : Nat} {oi : Oper} {F : List Blk → Act → Prop} (hi : ops[i]? = some oi) (hsel : ∀ (j : Nat) (o : Oper) cs b, ops[j]? = some o → o.op ≠ .select cs b) :
    ∀ (f : Nat) (listed : Array Bool) (es : List Nat) (L : List Blk) (a : Act),
      (∀ j oj, ops[j]? = some oj → j ≠ i → listed.getD j true = false → (∀ e ∈ oj.after, Region.binds .any e = true → e.on ≠ i) → oi.apart ops oj = true) →
      i ∈ Region.ready .any ops listed → YieldsC P w0 [] ops oi v a →
      wpG P w0 ops Z Lw F f (listed.setIfInBounds i true) es L (a.put oi.dst v) → wpG P w0 ops Z Lw F (f + 1) listed es L a := by
  intro f
  induction f with
  | zero =>
    intro listed es L a _ hr hy H
    refine ⟨fun h => (by rw [h] at hr; cases hr), fun j hj => ?_⟩
    by_cases hji : j = i
    · subst hji
      exact ⟨oi, hi, .inl ⟨v, hy.weak (weak_sub (List.nil_sublist _)), H⟩⟩
    · have := ready_mono hj hji
      rw [H.2.1] at this
      cases this
  | succ f ih =>
    intro listed es L a hfree hr hy H
    have hun := (mem_ready.1 hr).1
    refine ⟨fun h => (by rw [h] at hr; cases hr), fun j hj => ?_⟩
    by_cases hji : j = i
    · subst hji
      exact ⟨oi, hi, .inl ⟨v, hy.weak (weak_sub (List.nil_sublist _)), H⟩⟩
    · obtain ⟨hjun, oj, hoj, hall⟩ := mem_ready.1 hj
      have hnot : ∀ e ∈ oj.after, Region.binds .any e = true → e.on ≠ i := fun e he hb heq => by
        have h1 := hall e he hb
        rw [heq, getD_both hun] at h1
        cases h1
      obtain ⟨h1, h2, h3⟩ := Oper.apart_spec (hfree j oj hoj hji hjun hnot)
      have hfree' : ∀ q oq, ops[q]? = some oq → q ≠ i → (listed.setIfInBounds j true).getD q true = false →
          (∀ e ∈ oq.after, Region.binds .any e = true → e.on ≠ i) → oi.apart ops oq = true := fun q oq hq hqi hun' hno => by
        refine hfree q oq hq hqi ?_ hno
        by_cases hjq : j = q
        · subst hjq; exact hjun
        · rw [getD_set_ne true hjq] at hun'; exact hun'
      have keep : ∀ u, YieldsC P w0 [] ops oi v (a.put oj.dst u) := fun u => hy.same (execOp_put oi (fun cs b => hsel i oi cs b hi) a oj.dst u h3) (wanted_put oi a oj.dst u h3)
      have hex : execOp (a.put oi.dst v).eval oj = execOp a.eval oj := execOp_put oj (fun cs b => hsel j oj cs b hoj) a oi.dst v h1
      have hwa : Region.wanted oj (yielded ops (a.put oi.dst v).tmps) = Region.wanted oj (yielded ops a.tmps) := wanted_put oj a oi.dst v h1
      have step : ∀ es' L' u, wpG P w0 ops Z Lw F f ((listed.setIfInBounds i true).setIfInBounds j true) es' L' ((a.put oi.dst v).put oj.dst u) → wpG P w0 ops Z Lw F (f + 1) (listed.setIfInBounds j true) es' L' (a.put oj.dst u) := fun es' L' u hh => by
        refine ih _ _ _ _ hfree' (ready_mono hr (Ne.symm hji)) (keep u) ?_
        rw [Array.setIfInBounds_comm _ _ hji, ← Act.put_comm a v u h2]
        exact hh
      obtain ⟨o, ho, hH⟩ := H.2 j (ready_mono hj hji)
      have : o = oj := Option.some.inj (ho.symm.trans hoj)
      subst this
      refine ⟨o, ho, ?_⟩
      rcases hH with ⟨u, hu, hK⟩ | ⟨es', he, hE⟩
      · exact .inl ⟨u, hu.same hex.symm hwa.symm, step _ _ _ hK⟩
      · refine .inr ⟨es', he, hwa ▸ hE.1, fun w hw1 => ?_⟩
        have hH := hE.2 w hw1
        rw [hex] at hH
        exact hH.mono fun u w' ⟨L', h5, h6, h7⟩ => ⟨L', h5, h6, step _ _ _ h7⟩
/-- What a value may look at. -/
def lk (b : Bool) (L : List Blk) : List Blk := match b with | true => [] | false => L
def sgN : List (Bool × List Nat) → Nat
  | [] => 0
  | p :: ps => p.2.length + sgN ps
def sgB (ops : Array Oper) (es : List Nat) : List (Bool × List Nat) → Array Bool → Bool
  | [], listed => seqE ops es listed
  | p :: ps, listed => (p.1 || zB ops es p.2) && lexF ops (sgB ops es ps) p.2 listed
def sgA (ops : Array Oper) (ps : List (Bool × List Nat)) (es : List Nat) : Bool :=
  Region.noSelect ops && decide (sgN ps + es.length = ops.size) && es.all (fun i => decide (i < ops.size)) && sgB ops es ps (Array.replicate ops.size false)
def SG (P : Program) (w0 : World) (L : List Blk) (l : List Oper) (G : Act → Prop) : List (Bool × List Nat) → Act → Prop
  | [], a => G a
  | p :: ps, a => AH P w0 (lk p.1 L) l.toArray (SG P w0 L l G ps) (picks l p.2) a
def JS (P : Program) (w0 : World) (n : Nat) (L : List Blk) (l : List Oper) (K : Env → Prop) : List (Bool × List Nat) → Env → Prop
  | [], E => K E
  | p :: ps, E => JH P w0 n (lk p.1 L) l.toArray (JS P w0 n L l K ps) (picks l p.2) E
theorem wpG_of_ahS {l : List Oper} {F : List Blk → Act → Prop} {es : List Nat} {G : Act → Prop} {N : Nat} {k : Array Bool → Bool} {pu : Bool} (hk : ∀ listed a, k listed = true → G a → wpG P w0 l.toArray Z L F N listed es L a) (hsel : Region.noSelect l.toArray = true) : ∀ (hs : List Nat) (listed : Array Bool) (a : Act), (pu || zB l.toArray Z hs) = true → lexF l.toArray k hs listed = true →
    AH P w0 (lk pu L) l.toArray G (picks l hs) a → wpG P w0 l.toArray Z L F (hs.length + N) listed es L a
  | [], listed, a, _, hB, h => by
    rw [List.length_nil, Nat.zero_add]
    exact hk listed a hB h
  | i :: hs, listed, a, hz, hB, h => by
    simp only [lexF, Bool.and_eq_true] at hB
    obtain ⟨⟨hr, hf⟩, hB'⟩ := hB
    have hr' : i ∈ Region.ready .any l.toArray listed := by simpa using hr
    obtain ⟨_, o, ho, _⟩ := mem_ready.1 hr'
    have ho' : l[i]? = some o := by simpa using ho
    simp only [picks, ho', AH] at h
    obtain ⟨v, hy, h⟩ := h
    rw [show (i :: hs).length + N = (hs.length + N) + 1 by simp only [List.length_cons]; omega]
    cases pu with
    | true => exact wpG_first0 ho (Region.noSelect_spec hsel) _ _ _ _ _ (Region.free_spec ho hf) hr' hy (wpG_of_ahS hk hsel hs _ _ rfl hB' h)
    | false =>
      simp only [Bool.false_or] at hz
      have hz' : zB l.toArray Z hs = true := by
        refine List.all_eq_true.2 fun z hzz => ?_
        have h1 := List.all_eq_true.1 hz z hzz
        cases ho : l.toArray[z]? with
        | none => rfl
        | some o =>
          simp only [ho] at h1
          exact List.all_eq_true.2 fun x hx => List.all_eq_true.1 h1 x (.tail _ hx)
      exact wpG_first ho (Region.noSelect_spec hsel) (zB_spec hz (.head _)) _ _ _ _ _ (Region.free_spec ho hf) hr' hy (weak_sub (List.Sublist.refl _)) (wpG_of_ahS hk hsel hs _ _ (by rw [Bool.false_or]; exact hz') hB' h)
theorem wpG_of_sg {l : List Oper} {F : List Blk → Act → Prop} {es : List Nat} (hsel : Region.noSelect l.toArray = true) : ∀ (ps : List (Bool × List Nat)) (listed : Array Bool) (a : Act), sgB l.toArray es ps listed = true → SG P w0 L l (EC P w0 l.toArray es L F es L) ps a → wpG P w0 l.toArray es L F (sgN ps + es.length) listed es L a
  | [], listed, a, hB, h => by
    rw [sgN, Nat.zero_add]
    exact wpG_of_ec es listed L a hB h
  | p :: ps, listed, a, hB, h => by
    simp only [sgB, Bool.and_eq_true] at hB
    rw [sgN, Nat.add_assoc]
    exact wpG_of_ahS (pu := p.1) (k := sgB l.toArray es ps) (G := SG P w0 L l (EC P w0 l.toArray es L F es L) ps) (fun listed a hb hG => wpG_of_sg hsel ps listed a hb hG) hsel p.2 listed a hB.1 hB.2 h
theorem sg_of_js {l : List Oper} {K : Env → Prop} {G : Act → Prop} (hK : ∀ E a, Rep n E a → K E → G a) : ∀ (ps : List (Bool × List Nat)) (E : Env) (a : Act), Rep n E a → JS P w0 n L l K ps E → SG P w0 L l G ps a
  | [], E, a, ha, h => hK E a ha h
  | p :: ps, E, a, ha, h => ah_of_jh (n := n) (fun E' a' ha' hK' => sg_of_js hK ps E' a' ha' hK') _ _ _ ha h
theorem j_seg {id : Nat} {l : List Oper} (ps : List (Bool × List Nat)) (es : List Nat) (hm : P.follows .mixedOrders = true := by exact mixed) (hB : sgA l.toArray ps es = true := by kernel_rfl)
    (h : JS P w0 n L l (fun E' => JE P w0 n l.toArray [] (fun E2 L2 => JX w0 n .normal Q E2 L2) (picks l es) E' L) ps E) : J P w0 n (.region id l.toArray true) Q E L := by
  refine ⟨fun a w ha hw => ?_⟩
  simp only [sgA, Bool.and_eq_true, decide_eq_true_eq] at hB
  obtain ⟨⟨⟨hsel, hlen⟩, hall⟩, hlex⟩ := hB
  refine wp_region_any hm ?_
  have hz : ∀ i ∈ es, lwZ es i L = [] := fun i hi => by
    unfold lwZ
    rw [if_pos (by simpa using hi)]
  have H := wpG_of_sg (P := P) (w0 := w0) (L := L) (F := fun L a => ∀ w, Own w0 L w → Q .normal a w) (es := es) hsel ps _ a hlex
    (sg_of_js (n := n) (fun E' a' ha' hK => ec_of_je (n := n) (fun E2 L2 a2 ha2 hx w hw => hx.out a2 w ha2 hw) es E' L a' (by simpa using hall) hz ha' hK) ps E a ha h)
  have := wpAny_of_wpG (P := P) (Q := Q) (fun L a w hF hw => hF w hw) _ _ _ _ _ w.drew (hw.to (Ext.drew w)) H
  rw [hlen] at this
  exact this
end
section
variable {P : Program} {w0 : World} {n : Nat} {ops : Array Oper} {L L' Lw : List Blk} {E : Env} {K : Env → List Blk → Prop}
variable {rest : List Oper} {ty : TypeId} {pos : String} {aft : Array Edge} {gd : Option (Nat × Bool)} {x y : Operand} {T T0 : TypeId}
variable {α : Type} {enc : α → Array Value} {k b : Nat} {xs : List α} {sp : List Value} {i : Int}
/-- An element is turned, in the tail. -/
theorem eR {u : Value} {z : α} [hx : IsC (evl E x) (.pointer (some ⟨b, 0 + i.toNat * k, none⟩))] [hy : IsC (evl E y) u] [hk : SizeC P T k] [MemC b L (row enc xs sp) T0] [he : EncC enc k] [hu : ValC enc u z] [hU : UpdC b (row enc (xs.set i.toNat z) sp) L (row enc xs sp) T0 L'] [hw : SblC Lw L']
    (hg : guardB ops E gd = some true) (s : i.toNat < xs.length) (h : JE P w0 n ops Lw K rest E L') : JE P w0 n ops Lw K (⟨none, .store T x y, ty, pos, aft, gd⟩ :: rest) E L := by
  have h1 := he.size z
  have hle := Nat.mul_le_mul_right k (show i.toNat + 1 ≤ xs.length from s)
  rw [Nat.add_mul] at hle
  exact je_store (u := u) k isE isE hU.out hk.out (by rw [hu.out, h1]) (by rw [row_size (k := k)]; exact Nat.ble_eq_true_of_le (by omega)) (by rw [hu.out]; exact he.one z) (by rw [hu.out, Nat.zero_add]; exact spl_row xs sp _ z s) hg hw.out h
end
theorem wkS {P Q : Prop} (k : Q) (h : Wr Q → P := by intro hq; simp only [JS, lk, picks, List.getElem?_cons_succ, List.getElem?_cons_zero]; exact hq.out) : P := h ⟨k⟩
end Go.Vt
/- Nil tests, methods of interface values under the program logic. Conditions: those that each rule names. -/
set_option linter.unusedSimpArgs false
set_option linter.unusedVariables false
set_option maxHeartbeats 2000000
set_option linter.unusedSectionVars false
set_option maxRecDepth 100000
namespace Go.Vt
open Go.RowKit Go.Proofs
section
variable {P : Program} {T e : TypeId}
theorem run_eql_slice_nil' (w : World) (a : Option Addr) (l c : Nat) (h : P.underlying T = some (.slice e)) : (binOp .eql T (.slice a l c) (.slice none 0 0)).run P w = .ok (.bool a.isNone) w := by
  simp only [binOp]
  simp [run_equal_slice_nil w T e a l c h]
instance bin_eql_nil0 [h : UndC P T (.slice e)] : BinC P .eql T (.slice none 0 0) (.slice none 0 0) (.bool true) := ⟨fun x y w => by rw [eqGuard_at_slice]; rfl, fun w => run_eql_slice_nil' w none 0 0 h.out⟩
instance bin_eql_nil1 {a : Addr} {l c : Nat} [h : UndC P T (.slice e)] : BinC P .eql T (.slice (some a) l c) (.slice none 0 0) (.bool false) := ⟨fun x y w => by rw [eqGuard_at_slice]; rfl, fun w => run_eql_slice_nil' w (some a) l c h.out⟩
/-- What a pointer points at. -/
class PtrC (P : Program) (T : TypeId) : Prop where
  out : P.underlying T = some (.pointer (P.pointee T))
instance bin_neq_ptr0 [h : PtrC P T] : BinC P .neq T (.pointer none) (.pointer none) (.bool false) := ⟨fun x y w => by rw [eqGuard_at_pointer]; rfl, fun w => run_neq_pointer_nil w T none h.out⟩
instance bin_neq_ptr1 {a : Addr} [h : PtrC P T] : BinC P .neq T (.pointer (some a)) (.pointer none) (.bool true) := ⟨fun x y w => by rw [eqGuard_at_pointer]; rfl, fun w => run_neq_pointer_nil w T (some a) h.out⟩
end
/-- No interface type. -/
class NifC (P : Program) (T : TypeId) : Prop where
  out : ∀ v w, (Instr.makeInterface T v).run P w = .ok (.iface T v) w
class MethC (P : Program) (t : TypeId) (v : Value) (name : String) (f : outParam FuncId) (r : outParam Value) : Prop where
  out : ∀ w, (method (P.types.size + Made.depth) t v name).run P w = .ok (f, r) w
class NahC (P : Program) (t : TypeId) (v : Value) (name : String) : Prop where
  out : ∀ w, (nilAhead (P.types.size + Made.depth) t v name).run P w = .ok (some false) w
section
variable {P : Program} {w0 : World} {n : Nat} {L : List Blk} {E : Env} {x : Operand} {v : Value}
variable {d : Option Tmp} {ty : TypeId} {pos : String} {aft : Array Edge} {gd : Option (Nat × Bool)}
instance yk_nilCheckP {a : Addr} [IsC (evl E x) (.pointer (some a))] : YlC P w0 n L E (.nilCheck x) (.pointer (some a)) := ⟨fun d ty pos aft gd => ⟨fun b w hb _ => by
  unfold calm
  simp only [execOp, hb.ev (isE (x := x)), Sem.run_pure]
  exact ⟨rfl, Ext.refl _⟩⟩⟩
instance yk_mkIface {T : TypeId} [hx : IsC (evl E x) v] [h : NifC P T] : YlC P w0 n L E (.makeInterface T x) (.iface T v) := ⟨fun d ty pos aft gd => yl_run (fun _ => Instr.makeInterface T v) (fun a ha => by simp only [execOp, ha.ev (isE (x := x))]) (fun a w _ _ => h.out v w)⟩
instance yk_mkMeth {name : String} {xs : List Operand} {l : List Value} [h : IsC (evsl E xs) l] : YlC P w0 n L E (.makeFunc (.method name) xs.toArray #[]) (.func (.method name) l.toArray #[]) := ⟨fun d ty pos aft gd => yl_run (fun _ => Instr.makeFunc (.method name) l.toArray #[]) (fun a ha => by
  have h1 : xs.toArray.map a.eval = l.toArray := by rw [← ha.evs xs l isS]; simp
  simp only [execOp, h1, Array.map_empty]) (fun a w _ _ => by simp [Instr.makeFunc])⟩
instance yk_nilCheckM {name : String} {t : TypeId} {u : Value} [hx : IsC (evl E x) (.func (.method name) [.iface t u].toArray #[])] [h : NahC P t u name] : YlC P w0 n L E (.nilCheck x) (.func (.method name) [.iface t u].toArray #[]) := ⟨fun d ty pos aft gd => ⟨fun b w hb _ => by
  unfold calm
  have h1 := h.out w
  have h2 : (execOp b.eval ⟨d, .nilCheck x, ty, pos, aft, gd⟩).run P w = .ok (.value (.func (.method name) [.iface t u].toArray #[])) w := by
    simp only [execOp, hb.ev (isE (x := x))]
    simp [Sem.run_bind, h1]
  rw [h2]
  exact ⟨rfl, Ext.refl _⟩⟩⟩
theorem run_invoke {name : String} {t : TypeId} {u r : Value} {f : FuncId} {xs : List Operand} {l : List Value} {ats : Array TypeId} {a : Act} {w : World} (hf : callableB P f = true) (hm : ∀ w, (method (P.types.size + Made.depth) t u name).run P w = .ok (f, r) w) (ha : Rep n E a) (hx : Env.ev E x = some (.iface t u)) (hl : Env.evs E xs = some l) :
    (execOp a.eval ⟨d, .call ⟨.invoke x name, xs.toArray, ats⟩, ty, pos, aft, gd⟩).run P w = .ok (.enter f (r :: l).toArray) w := by
  have h1 : xs.toArray.map a.eval = l.toArray := by rw [← ha.evs xs l hl]; simp
  simp only [execOp, resolve, h1, ha.ev hx, Sem.run_bind, Sem.run_pure, Result.andThen, invoke]
  have h2 : (#[Value.iface t u] ++ l.toArray)[0]? = some (.iface t u) := by simp
  have h3 : (#[Value.iface t u] ++ l.toArray).extract 1 (#[Value.iface t u] ++ l.toArray).size = l.toArray := by apply Array.ext'; simp
  simp only [h2, h3, callMethod, Sem.run_bind, hm, Result.andThen]
  have h4 : (#[r] ++ l.toArray) = (r :: l).toArray := by simp
  rw [show Sem.run P program w = Result.ok P w from rfl]
  simp only [hm, h4]
  exact run_callFunc hf _ _
instance yc_invoke {name : String} {t : TypeId} {u r : Value} {f : FuncId} {xs : List Operand} {l : List Value} {ats : Array TypeId} {pre : Prop} [hx : IsC (evl E x) (.iface t u)] [hl : IsC (evsl E xs) l] [hm : MethC P t u name f r] [hf : CallC P f] [h : SpecM P w0 L f (r :: l) v pre] : YcC P w0 n L E (.call ⟨.invoke x name, xs.toArray, ats⟩) v pre := ⟨fun hp _ _ _ _ _ => ⟨fun a w ha hw => by
  unfold calm
  rw [run_invoke hf.out hm.out ha isE isS]
  exact ⟨rfl, h.out hp w hw⟩⟩⟩
end
end Go.Vt
/- A part of an element of a row is turned. Conditions: those that the rule names. -/
set_option linter.unusedSimpArgs false
set_option linter.unusedVariables false
set_option maxHeartbeats 2000000
set_option linter.unusedSectionVars false
namespace Go.Vt
open Go.RowKit
section
variable {α : Type} {enc : α → Array Value} {k : Nat}
theorem spl_rowF [h : EncC enc k] (xs : List α) (sp : List Value) (i f : Nat) (z : α) (us : List Value) (hi : i < xs.length) (hf : f + us.length ≤ k) (hz : spl (enc xs[i]) f us = enc z) : spl (row enc xs sp) (i * k + f) us = row enc (xs.set i z) sp := by
  have hle := Nat.mul_le_mul_right k (show i + 1 ≤ xs.length from hi)
  rw [Nat.add_mul] at hle
  have hsz := h.size z
  have hsx := h.size xs[i]
  apply Array.ext_getElem?
  intro j
  rw [spl_get _ _ _ _ (by rw [row_size (k := k)]; omega)]
  by_cases h1 : i * k ≤ j ∧ j < i * k + k
  · obtain ⟨m, rfl⟩ : ∃ m, j = i * k + m := ⟨j - i * k, by omega⟩
    have hr := row_get (enc := enc) (k := k) (xs.set i z) sp i m (by simpa using hi) (by omega)
    rw [List.getElem_set_self] at hr
    rw [hr, ← hz, spl_get _ _ _ _ (by omega), row_get xs sp i m hi (by omega)]
    by_cases h2 : f ≤ m ∧ m < f + us.length
    · rw [if_pos (by omega), if_pos h2, show i * k + m - (i * k + f) = m - f by omega]
    · rw [if_neg (by omega), if_neg h2]
  · rw [if_neg (by omega)]
    rcases Nat.lt_or_ge j (xs.length * k) with h2 | h2
    · rcases Nat.eq_zero_or_pos k with h0 | h0
      · subst h0; simp at h2
      · obtain ⟨q, m, rfl, hm⟩ : ∃ q m, j = q * k + m ∧ m < k := ⟨j / k, j % k, by rw [Nat.mul_comm]; exact (Nat.div_add_mod j k).symm, Nat.mod_lt _ h0⟩
        have hq : q < xs.length := by
          rcases Nat.lt_or_ge q xs.length with h3 | h3
          · exact h3
          · have := Nat.mul_le_mul_right k h3
            omega
        have hqi : i ≠ q := by
          rintro rfl
          exact h1 ⟨by omega, by omega⟩
        rw [row_get xs sp q m hq hm, row_get _ sp q m (by simpa using hq) hm]
        simp [List.getElem_set_ne hqi]
    · rw [row, row, List.getElem?_toArray, List.getElem?_toArray, List.getElem?_append_right (by rw [rowL_len (k := k)]; exact h2), List.getElem?_append_right (by rw [rowL_len (k := k)]; simpa using h2)]
      simp [rowL_len (k := k)]
end
section
variable {P : Program} {w0 : World} {n : Nat} {ops : Array Oper} {L L' : List Blk} {E : Env}
variable {Q : Exit → Act → World → Prop} {rest : List Oper}
variable {ty : TypeId} {pos : String} {aft : Array Edge} {gd : Option (Nat × Bool)} {x y : Operand} {T T0 : TypeId}
variable {α : Type} [Inhabited α] {enc : α → Array Value} {k b f : Nat} {xs : List α} {sp : List Value} {i : Int}
/-- A part of an element is turned. -/
theorem sRF {u : Value} {cs1 : Array Value} [hx : IsC (evl E x) (.pointer (some ⟨b, 0 + i.toNat * k + f, none⟩))] [hy : IsC (evl E y) u] [MemC b L (row enc xs sp) T0] [he : EncC enc k] [hs : StC P T (enc (gi xs i)) f u cs1] (z : α) (hz : cs1 = enc z) [hU : UpdC b (row enc (xs.set i.toNat z) sp) L (row enc xs sp) T0 L']
    (hg : guardB ops E gd = some true) (s : i.toNat < xs.length) (h : JO P w0 n ops Q rest E L') : JO P w0 n ops Q (⟨none, .store T x y, ty, pos, aft, gd⟩ :: rest) E L := by
  have h1 := he.size (gi xs i)
  have hfit := Nat.le_of_ble_eq_true hs.fit
  have hle := Nat.mul_le_mul_right k (show i.toNat + 1 ≤ xs.length from s)
  rw [Nat.add_mul] at hle
  refine jo_store (u := u) u.cells.size isE isE hU.out hs.size rfl (by rw [row_size (k := k)]; exact Nat.ble_eq_true_of_le (by omega)) hs.one ?_ hg rfl h
  rw [Nat.zero_add]
  refine spl_rowF xs sp i.toNat f z u.cells.toList s (by simp only [Array.length_toList]; omega) ?_
  rw [← gi_eq s, hs.out, hz]
end
end Go.Vt
/- Comparing rational instants, intervals and linear functions. Conditions: the lengths that each statement names, and that the instants are rational. -/
set_option linter.unusedSimpArgs false
set_option linter.unusedVariables false
set_option maxHeartbeats 2000000
set_option maxRecDepth 100000
namespace Go.Vt
open Go.RowKit Go.Proofs
abbrev vIv (I : R_api_Interval) : Value := .agg (e_api_Interval (q_api_Interval I))
abbrev vQd (q : R_api_Quad) : Value := .agg (e_api_Quad (q_api_Quad q))
theorem sg0e (b : Int) {r : Rat} (h : r = 0) : b * r.num.sign = 0 := by
  subst h
  rw [show (0 : Rat).num.sign = 0 from rfl, Int.mul_zero]
theorem sign_sub (a b : Rat) : (a - b).num.sign = cq a b := by
  unfold cq
  split
  · rename_i h
    exact Int.sign_eq_neg_one_iff_neg.2 (by
      have h3 : ¬ 0 ≤ (a - b).num := fun h1 => by
        have := Rat.num_nonneg.1 h1
        grind
      omega)
  · split
    · rename_i h1 h2
      refine Int.sign_eq_one_iff_pos.2 ?_
      have h3 : 0 ≤ (a - b).num := Rat.num_nonneg.2 (by grind)
      have h4 : (a - b).num ≠ 0 := fun h0 => by
        have := Rat.num_eq_zero.1 h0
        grind
      omega
    · rename_i h1 h2
      have : a = b := by grind
      subst this
      rw [show a - a = 0 by grind]
      rfl
instance sp_factor (x : R_api_Real) : SpecC Tryz.prog 148 [vR x] (vQ (if x.Neg then ((-1 : Int) : Rat) else ((1 : Int) : Rat))) True := ⟨fun _ w => by
  refine fn_intro Tryz.func148 rfl Tryz.ntmps148 rfl ?_
  obtain ⟨p, r, b⟩ := x
  cases b
  · repeat (first | (refine wkB ?_; try intro _) | (refine sC rfl rfl ?_ ?_; focus (exact ⟨by decide, by decide⟩)) | (refine sN rfl rfl ?_ ?_; (focus (exact ⟨by decide, by decide⟩)); intro _; (try simp only [List.cons_append, List.nil_append, List.append_nil])))
    exact wx_cell rfl rfl (fun w hw => ret_ok hw)
  · repeat (first | (refine wkB ?_; try intro _) | (refine sC rfl rfl ?_ ?_; focus (exact ⟨by decide, by decide⟩)) | (refine sN rfl rfl ?_ ?_; (focus (exact ⟨by decide, by decide⟩)); intro _; (try simp only [List.cons_append, List.nil_append, List.append_nil])))
    exact wx_cell rfl rfl (fun w hw => ret_ok hw)⟩
instance sp_sign0 (a b r : Rat) : SpecC Tryz.prog 149 [vQ a, vQ b, vQ r] (.int .i64 a.num.sign) (r = 0) := ⟨fun hr w => by
  refine fn_intro Tryz.func149 rfl Tryz.ntmps149 rfl ?_
  have hz := sg0e b.num.sign hr
  repeat (refine wkB ?_; try intro _)
  (refine j_late [0, 1, 2, 3, 4, 5, 6] [7, 8] (_) (h := ?_); refine wkI ?_)
  (repeat (first | refine wkH ?_ | (refine tC rfl rfl ?_ ?_; focus (exact trivial))))
  repeat (refine wkT ?_; try intro _)
  simp only [hz]
  repeat (refine wkB ?_; try intro _)
  exact jx_ret_tmp rfl rfl (fun w hw => ret_ok hw)⟩
instance sp_RealCmp (x y : R_api_Real) : SpecC Tryz.prog 109 [vR x, vR y] (.int .i64 (cq x.P y.P)) ((x.R = 0 ∧ y.R = 0) ∧ M x.P ≤ LQ ∧ M y.P ≤ LQ) := ⟨fun hp w => by
  obtain ⟨⟨hx, hy⟩, h1, h2⟩ := hp
  refine fn_intro Tryz.func109 rfl Tryz.ntmps109 rfl ?_
  have hz := sg0e (-(if y.Neg then ((-1 : Int) : Rat) else ((1 : Int) : Rat))).num.sign hy
  repeat (refine wkB ?_; try intro _)
  (refine jD 10 13 (h := ?_); (repeat (first | refine wkH ?_ | (refine tC rfl rfl ?_ ?_; focus (first | exact trivial | exact ⟨h1, h2⟩)))); refine jh_nil ?_; (repeat (refine wn_new ?_; intro _)); refine jn_nil ?_)
  repeat (refine wkB ?_; try intro _)
  (refine j_late [0, 1, 2, 3, 4, 5, 6, 7, 8, 9, 10] [11, 12] (_) (h := ?_); refine wkI ?_)
  (repeat (first | refine wkH ?_ | (refine tC rfl rfl ?_ ?_; focus (first | exact trivial | exact hx))))
  repeat (refine wkT ?_; try intro _)
  simp only [hz, sign_sub]
  repeat (refine wkB ?_; try intro _)
  exact jx_ret_tmp rfl rfl (fun w hw => ret_ok hw)⟩
instance call_cmpCompare : CallC Tryz.prog 112 := ⟨by kernel_rfl⟩
instance call_cmpOr : CallC Tryz.prog 145 := ⟨by kernel_rfl⟩
instance sp_instant (I : R_api_Interval) : SpecC Tryz.prog 136 [vIv I] (.bool (decide (I.From = I.To))) True := ⟨fun _ w => by
  refine fn_intro Tryz.func136 rfl Tryz.ntmps136 rfl ?_
  repeat (refine wkB ?_; try intro _)
  exact jx_ret_tmp rfl rfl (fun w hw => ret_ok hw)⟩
/-- Does 'b' begin behind 'a'? -/
def aprt (a b : R_api_Interval) : Bool := decide (a.To.P < b.From.P) || (decide (a.To.P = b.From.P) && (a.OpenTo || b.OpenFrom))
instance sp_apart (a b : R_api_Interval) : SpecC Tryz.prog 134 [vIv a, vIv b] (.bool (aprt a b)) ((a.To.R = 0 ∧ b.From.R = 0) ∧ M a.To.P ≤ LQ ∧ M b.From.P ≤ LQ) := ⟨fun hp w => by
  refine fn_intro Tryz.func134 rfl Tryz.ntmps134 rfl ?_
  repeat (first | (refine wkB ?_; try intro _) | (refine sC rfl rfl ?_ ?_; focus (exact hp)) | (refine sN rfl rfl ?_ ?_; (focus (exact hp)); intro _; (try simp only [List.cons_append, List.nil_append, List.append_nil])))
  unfold aprt
  by_cases h1 : a.To.P < b.From.P
  · simp only [decide_eq_true (cq_lt.2 h1)]
    repeat (refine wkB ?_; try intro _)
    simp only [decide_eq_true h1]
    exact jx_ret_tmp rfl rfl (fun w hw => ret_ok hw)
  · simp only [decide_eq_false (fun h => h1 (cq_lt.1 h))]
    repeat (refine wkB ?_; try intro _)
    by_cases h2 : a.To.P = b.From.P
    · simp only [decide_eq_true (cq_eq.2 h2)]
      repeat (refine wkB ?_; try intro _)
      obtain ⟨fa, ta, oa, ca⟩ := a
      simp only at h1 h2 ⊢
      cases ca
      · repeat (refine wkB ?_; try intro _)
        simp only [decide_eq_false h1, decide_eq_true h2]
        exact jx_ret_tmp rfl rfl (fun w hw => ret_ok hw)
      · repeat (refine wkB ?_; try intro _)
        simp only [decide_eq_false h1, decide_eq_true h2]
        exact jx_ret_tmp rfl rfl (fun w hw => ret_ok hw)
    · simp only [decide_eq_false (fun h => h2 (cq_eq.1 h))]
      repeat (refine wkB ?_; try intro _)
      simp only [decide_eq_false h1, decide_eq_false h2]
      exact jx_ret_tmp rfl rfl (fun w hw => ret_ok hw)⟩
instance sp_Constant (c : Rat) : SpecC Tryz.prog 218 [vQ c] (vQd ⟨c, 0, 0⟩) True := ⟨fun _ w => by
  refine fn_intro Tryz.func218 rfl Tryz.ntmps218 rfl ?_
  repeat (refine wkB ?_; try intro _)
  exact wx_cell rfl rfl (fun w hw => ret_ok hw)⟩
instance sp_QSub (p q : R_api_Quad) : SpecC Tryz.prog 208 [vQd p, vQd q] (vQd ⟨p.C0 - q.C0, p.C1 - q.C1, p.C2 - q.C2⟩) ((M p.C0 ≤ LQ ∧ M q.C0 ≤ LQ) ∧ (M p.C1 ≤ LQ ∧ M q.C1 ≤ LQ) ∧ (M p.C2 ≤ LQ ∧ M q.C2 ≤ LQ)) := ⟨fun hp w => by
  obtain ⟨h1, h2, h3⟩ := hp
  refine fn_intro Tryz.func208 rfl Tryz.ntmps208 rfl ?_
  repeat (refine wkB ?_; try intro _)
  (refine jD 16 16 (h := ?_); (repeat (first | refine wkH ?_ | (refine tC rfl rfl ?_ ?_; focus (first | exact h1 | exact h2 | exact h3)))); refine jh_nil ?_; (repeat (refine wn_new ?_; intro _)); refine jn_nil ?_)
  repeat (refine wkB ?_; try intro _)
  exact wx_cell rfl rfl (fun w hw => ret_ok hw)⟩
instance sp_QReduce (q : R_api_Quad) (t : R_api_Real) : SpecC Tryz.prog 207 [vQd q, vR t] (vQd ⟨q.C0 + t.P * (q.C1 + t.P * q.C2), 0, 0⟩) (t.R = 0 ∧ M q.C0 ≤ 34359738368 ∧ M q.C1 ≤ 34359738368 ∧ M q.C2 ≤ 34359738368 ∧ M t.P ≤ 34359738368) := ⟨fun hp w => by
  obtain ⟨h0, h1⟩ := hp
  refine fn_intro Tryz.func207 rfl Tryz.ntmps207 rfl ?_
  repeat (refine wkB ?_; try intro _)
  simp only [if_pos h0, decide_eq_true h0]
  repeat (first | (refine wkB ?_; try intro _) | (refine sC rfl rfl ?_ ?_; focus (first | exact trivial | exact h1)) | (refine sN rfl rfl ?_ ?_; (focus (first | exact trivial | exact h1)); intro _; (try simp only [List.cons_append, List.nil_append, List.append_nil])))
  exact wx_cell rfl rfl (fun w hw => ret_ok hw)⟩
/-- Have two functions the same value? -/
def qsame (p q : R_api_Quad) (t : Rat) : Bool := decide ((⟨p.C0 - q.C0 + t * (p.C1 - q.C1 + t * (p.C2 - q.C2)), 0, 0⟩ : R_api_Quad) = ⟨0, 0, 0⟩)
theorem qsame_iff {p q : R_api_Quad} {t : Rat} : qsame p q t = true ↔ p.C0 - q.C0 + t * (p.C1 - q.C1 + t * (p.C2 - q.C2)) = 0 := by
  unfold qsame
  rw [decide_eq_true_iff]
  simp
instance sp_QSame (p q : R_api_Quad) (t : R_api_Real) : SpecC Tryz.prog 192 [vQd p, vQd q, vR t] (.bool (qsame p q t.P)) (t.R = 0 ∧ (M p.C0 ≤ 8589934592 ∧ M p.C1 ≤ 8589934592 ∧ M p.C2 ≤ 8589934592) ∧ (M q.C0 ≤ 8589934592 ∧ M q.C1 ≤ 8589934592 ∧ M q.C2 ≤ 8589934592) ∧ M t.P ≤ 8589934592) := ⟨fun hp w => by
  obtain ⟨h0, ⟨h1, h2, h3⟩, ⟨h4, h5, h6⟩, h7⟩ := hp
  have := MB.mk h1
  have := MB.mk h2
  have := MB.mk h3
  have := MB.mk h4
  have := MB.mk h5
  have := MB.mk h6
  have := MB.mk h7
  refine fn_intro Tryz.func192 rfl Tryz.ntmps192 rfl ?_
  repeat (refine wkB ?_; try intro _)
  (refine jD 7 7 (h := ?_); (repeat (first | refine wkH ?_ | (refine tC rfl rfl ?_ ?_; focus (first | exact ⟨mb2 rfl rfl, mb2 rfl rfl, mb2 rfl rfl⟩ | exact ⟨h0, MB.lt rfl, MB.lt rfl, MB.lt rfl, MB.lt rfl⟩)))); refine jh_nil ?_; (repeat (refine wn_new ?_; intro _)); refine jn_nil ?_)
  repeat (refine wkB ?_; try intro _)
  exact jx_ret_tmp rfl rfl (fun w hw => ret_ok hw)⟩
def lnX (f : R_api_Line) : R_api_Quad := ⟨f.X0, f.X1, 0⟩
def lnY (f : R_api_Line) : R_api_Quad := ⟨f.Y0, f.Y1, 0⟩
instance sp_coordinates (f : R_api_Line) : SpecC Tryz.prog 191 [vLn f] (.tuple #[vQd (lnX f), vQd (lnY f)]) True := ⟨fun _ w => by
  refine fn_intro Tryz.func191 rfl Tryz.ntmps191 rfl ?_
  repeat (refine wkB ?_; try intro _)
  (refine jD 10 10 (h := ?_); (repeat (refine wkH ?_)); refine jh_nil ?_; (repeat (refine wn_new ?_; intro _)); refine jn_nil ?_)
  repeat (refine wkB ?_; try intro _)
  exact jx_ret_two rfl (wr_cell rfl) (wr_cell rfl) (fun w hw => ret_ok hw)⟩
instance sp_LSame (f g : R_api_Line) (t : R_api_Real) (z : Array Value) : SpecC Tryz.prog 179 [.agg z, vLn f, vLn g, vR t] (.bool (qsame (lnX f) (lnX g) t.P && qsame (lnY f) (lnY g) t.P)) (t.R = 0 ∧ ((M f.X0 ≤ 8589934592 ∧ M f.X1 ≤ 8589934592) ∧ M f.Y0 ≤ 8589934592 ∧ M f.Y1 ≤ 8589934592) ∧ ((M g.X0 ≤ 8589934592 ∧ M g.X1 ≤ 8589934592) ∧ M g.Y0 ≤ 8589934592 ∧ M g.Y1 ≤ 8589934592) ∧ M t.P ≤ 8589934592) := ⟨fun hp w => by
  obtain ⟨h0, ⟨⟨h1, h2⟩, h3, h4⟩, ⟨⟨h5, h6⟩, h7, h8⟩, h9⟩ := hp
  have hm0 : M 0 ≤ 8589934592 := Nat.le_trans mb_zero.out (by decide)
  refine fn_intro Tryz.func179 rfl Tryz.ntmps179 rfl ?_
  repeat (first | (refine wkB ?_; try intro _) | (refine sC rfl rfl ?_ ?_; focus (first | exact trivial | exact ⟨h0, ⟨h1, h2, hm0⟩, ⟨h5, h6, hm0⟩, h9⟩)) | (refine sN rfl rfl ?_ ?_; (focus (first | exact trivial | exact ⟨h0, ⟨h1, h2, hm0⟩, ⟨h5, h6, hm0⟩, h9⟩)); intro _; (try simp only [List.cons_append, List.nil_append, List.append_nil])))
  rcases hb : qsame (lnX f) (lnX g) t.P with _ | _
  · repeat (refine wkB ?_; try intro _)
    exact jx_ret_tmp rfl rfl (fun w hw => ret_ok hw)
  · repeat (first | (refine wkB ?_; try intro _) | (refine sC rfl rfl ?_ ?_; focus (exact ⟨h0, ⟨h3, h4, hm0⟩, ⟨h7, h8, hm0⟩, h9⟩)) | (refine sN rfl rfl ?_ ?_; (focus (exact ⟨h0, ⟨h3, h4, hm0⟩, ⟨h7, h8, hm0⟩, h9⟩)); intro _; (try simp only [List.cons_append, List.nil_append, List.append_nil])))
    exact jx_ret_tmp rfl rfl (fun w hw => ret_ok hw)⟩
instance sp_LEqual (f g : R_api_Line) (z : Array Value) : SpecC Tryz.prog 258 [.agg z, vLn f, vLn g] (.bool (decide (f = g))) True := ⟨fun _ w => by
  refine fn_intro Tryz.func258 rfl Tryz.ntmps258 rfl ?_
  repeat (refine wkB ?_; try intro _)
  exact jx_ret_tmp rfl rfl (fun w hw => ret_ok hw)⟩
/-- The function at one instant. -/
def lred (f : R_api_Line) (t : Rat) : R_api_Line := ⟨f.X0 + t * (f.X1 + t * 0), 0, f.Y0 + t * (f.Y1 + t * 0), 0⟩
instance sp_LReduce (f : R_api_Line) (t : R_api_Real) (z : Array Value) : SpecC Tryz.prog 259 [.agg z, vLn f, vR t] (vLn (lred f t.P)) (t.R = 0 ∧ ((M f.X0 ≤ 8589934592 ∧ M f.X1 ≤ 8589934592) ∧ M f.Y0 ≤ 8589934592 ∧ M f.Y1 ≤ 8589934592) ∧ M t.P ≤ 8589934592) := ⟨fun hp w => by
  obtain ⟨h0, ⟨⟨h1, h2⟩, h3, h4⟩, h9⟩ := hp
  have hm0 : M 0 ≤ 34359738368 := Nat.le_trans mb_zero.out (by decide)
  have := MB.mk h1
  have := MB.mk h2
  have := MB.mk h3
  have := MB.mk h4
  have := MB.mk h9
  refine fn_intro Tryz.func259 rfl Tryz.ntmps259 rfl ?_
  repeat (refine wkB ?_; try intro _)
  (refine jD 6 6 (h := ?_); (repeat (first | refine wkH ?_ | (refine tC rfl rfl ?_ ?_; focus (first | exact ⟨h0, Nat.le_trans h1 (by decide), Nat.le_trans h2 (by decide), hm0, Nat.le_trans h9 (by decide)⟩ | exact ⟨h0, Nat.le_trans h3 (by decide), Nat.le_trans h4 (by decide), hm0, Nat.le_trans h9 (by decide)⟩)))); refine jh_nil ?_; (repeat (refine wn_new ?_; intro _)); refine jn_nil ?_)
  repeat (refine wkB ?_; try intro _)
  exact wx_cell rfl rfl (fun w hw => ret_ok hw)⟩
end Go.Vt
/- Units of moving points as units of pieces, and back, walked. Conditions: those that each statement names. -/
set_option linter.unusedSimpArgs false
set_option linter.unusedVariables false
set_option maxHeartbeats 2000000
set_option maxRecDepth 100000
namespace Go.Vt
open Go.RowKit Go.Proofs
abbrev PU := R_api_PointUnit
abbrev UL := R_pieces_Unit_api_Line
abbrev rP := r_api_PointUnit
abbrev rU := r_pieces_Unit_api_Line
abbrev vPU (u : PU) : Value := .agg (e_api_PointUnit (q_api_PointUnit u))
abbrev vUL (u : UL) : Value := .agg (e_pieces_Unit_api_Line (q_pieces_Unit_api_Line u))
abbrev vFn (f : FuncId) : Value := .func (.func f) #[] [].toArray
def toU (u : PU) : UL := ⟨u.In, u.F⟩
def ofU (u : UL) : PU := ⟨u.In, u.F⟩
instance sp_to1 (u : PU) : SpecC Tryz.prog 111 [vPU u] (vUL (toU u)) True := ⟨fun _ w => by
  refine fn_intro Tryz.func111 rfl Tryz.ntmps111 rfl ?_
  repeat (refine wkB ?_; try intro _)
  exact wx_cell rfl rfl (fun w hw => ret_ok hw)⟩
instance sp_from1 (u : UL) : SpecC Tryz.prog 139 [vUL u] (vPU (ofU u)) True := ⟨fun _ w => by
  refine fn_intro Tryz.func139 rfl Tryz.ntmps139 rfl ?_
  repeat (refine wkB ?_; try intro _)
  exact wx_cell rfl rfl (fun w hw => ret_ok hw)⟩
theorem mapTo_spec (v : Value) (us : List PU) (w : World) (hv : ArgS w v rP us) (hl : us.length ≤ 1048576) :
    Calls Tryz.prog 110 [v, vFn 111].toArray w (RetM (SlS rU 36 (mpN toU us us.length)) (fun s => vSl s) (fun s => mS 163 s) w) := by
  refine fn_intro Tryz.func110 rfl Tryz.ntmps110 rfl ?_
  obtain ⟨p, cp, rfl⟩ := hv.form
  repeat (refine wkB ?_; try intro _)
  refine j_loop (S := (m : Nat) × SlS rU 36 (mpN toU us m)) (fun s => s.1 ≤ us.length) (fun s => [(1, vFn 111), (5, vSl s.2), (8, .slice p us.length cp), (9, .int .i64 us.length), (10, .int .i64 (s.1 : Nat))]) (fun s => mS 163 s.2) (fun s => us.length - s.1) ⟨0, SlS.no⟩
    (Nat.zero_le _) sbB slB (fun s hm => ?_)
  obtain ⟨m, s⟩ := s
  simp only at hm ⊢
  repeat (refine wkB ?_; try intro _)
  refine j_cond rfl (fun h => ?_) (fun h => ?_)
  · have hlt : m < us.length := by have := of_decide_eq_true h; omega
    have hne : us ≠ [] := fun h0 => by rw [h0] at hlt; simp at hlt
    obtain ⟨bw, ow, cw, hvw, hcw, hrow⟩ := hv.blk (k := 35) hne []
    injection hvw with e1 e2 e3
    subst e1
    subst e3
    have hrow' : ∀ L, RowC w L bw ow PU rP us := fun L => ⟨fun w' hw' => hrow.out w' (hw'.sub (List.nil_sublist _))⟩
    repeat (refine wkB ?_; try intro _)
    have hml := mpN_len toU us m
    refine sU rfl rfl ?_ ?_ ?_ ?_
    · rfl
    · rfl
    · exact ⟨by decide, by omega, by omega⟩
    intro s'
    repeat (first | (refine wkB ?_; try intro _) | (refine sC rfl rfl ?_ ?_; focus (exact ⟨by omega, by omega⟩)) | (refine sN rfl rfl ?_ ?_; (focus (exact ⟨by omega, by omega⟩)); intro _; (try simp only [List.cons_append, List.nil_append, List.append_nil])))
    exact jx_loop ⟨m + 1, s'⟩ hlt sbB suB (by show us.length - (m + 1) < us.length - m; omega)
  · have hge : m = us.length := by have := of_decide_eq_false h; omega
    subst hge
    repeat (refine wkB ?_; try intro _)
    exact jx_ret_tmp rfl rfl (fun w hw => ⟨s, rfl, hw.sub sbl⟩)
theorem mapFrom_spec (v : Value) (us : List UL) (w : World) (hv : ArgS w v rU us) (hl : us.length ≤ 1048576) :
    Calls Tryz.prog 138 [v, vFn 139].toArray w (RetM (SlS rP 36 (mpN ofU us us.length)) (fun s => vSl s) (fun s => mS 68 s) w) := by
  refine fn_intro Tryz.func138 rfl Tryz.ntmps138 rfl ?_
  obtain ⟨p, cp, rfl⟩ := hv.form
  repeat (refine wkB ?_; try intro _)
  refine j_loop (S := (m : Nat) × SlS rP 36 (mpN ofU us m)) (fun s => s.1 ≤ us.length) (fun s => [(1, vFn 139), (5, vSl s.2), (8, .slice p us.length cp), (9, .int .i64 us.length), (10, .int .i64 (s.1 : Nat))]) (fun s => mS 68 s.2) (fun s => us.length - s.1) ⟨0, SlS.no⟩
    (Nat.zero_le _) sbB slB (fun s hm => ?_)
  obtain ⟨m, s⟩ := s
  simp only at hm ⊢
  repeat (refine wkB ?_; try intro _)
  refine j_cond rfl (fun h => ?_) (fun h => ?_)
  · have hlt : m < us.length := by have := of_decide_eq_true h; omega
    have hne : us ≠ [] := fun h0 => by rw [h0] at hlt; simp at hlt
    obtain ⟨bw, ow, cw, hvw, hcw, hrow⟩ := hv.blk (k := 35) hne []
    injection hvw with e1 e2 e3
    subst e1
    subst e3
    have hrow' : ∀ L, RowC w L bw ow UL rU us := fun L => ⟨fun w' hw' => hrow.out w' (hw'.sub (List.nil_sublist _))⟩
    repeat (refine wkB ?_; try intro _)
    have hml := mpN_len ofU us m
    refine sU rfl rfl ?_ ?_ ?_ ?_
    · rfl
    · rfl
    · exact ⟨by decide, by omega, by omega⟩
    intro s'
    repeat (first | (refine wkB ?_; try intro _) | (refine sC rfl rfl ?_ ?_; focus (exact ⟨by omega, by omega⟩)) | (refine sN rfl rfl ?_ ?_; (focus (exact ⟨by omega, by omega⟩)); intro _; (try simp only [List.cons_append, List.nil_append, List.append_nil])))
    exact jx_loop ⟨m + 1, s'⟩ hlt sbB suB (by show us.length - (m + 1) < us.length - m; omega)
  · have hge : m = us.length := by have := of_decide_eq_false h; omega
    subst hge
    repeat (refine wkB ?_; try intro _)
    exact jx_ret_tmp rfl rfl (fun w hw => ⟨s, rfl, hw.sub sbl⟩)
instance sr_mapTo (w0 : World) (L : List Blk) (v : Value) (us : List PU) [h : LstC w0 L v PU rP us] : SpecR Tryz.prog w0 L 110 [v, vFn 111] (SlS rU 36 (mpN toU us us.length)) (fun s => vSl s) (fun s => mS 163 s) (us.length ≤ 1048576) := ⟨fun hl w hw => mapTo_spec v us w (h.out w hw) hl⟩
instance sr_mapFrom (w0 : World) (L : List Blk) (v : Value) (us : List UL) [h : LstC w0 L v UL rU us] : SpecR Tryz.prog w0 L 138 [v, vFn 139] (SlS rP 36 (mpN ofU us us.length)) (fun s => vSl s) (fun s => mS 68 s) (us.length ≤ 1048576) := ⟨fun hl w hw => mapFrom_spec v us w (h.out w hw) hl⟩
theorem to_spec (v : Value) (us : List PU) (w : World) (hv : ArgS w v rP us) (hl : us.length ≤ 1048576) :
    Calls Tryz.prog 61 [v].toArray w (RetM (SlS rU 36 (mpN toU us us.length)) (fun s => vSl s) (fun s => mS 163 s) w) := by
  have := ArgC.mk hv
  refine fn_intro Tryz.func61 rfl Tryz.ntmps61 rfl ?_
  repeat (first | (refine wkB ?_; try intro _) | (refine sC rfl rfl ?_ ?_; focus (exact hl)) | (refine sN rfl rfl ?_ ?_; (focus (exact hl)); intro _; (try simp only [List.cons_append, List.nil_append, List.append_nil])))
  rename_i s
  exact jx_ret_tmp rfl rfl (fun w hw => ⟨s, rfl, hw.sub suB⟩)
theorem from_spec (v : Value) (us : List UL) (w : World) (hv : ArgS w v rU us) (hl : us.length ≤ 1048576) :
    Calls Tryz.prog 97 [v].toArray w (RetM (SlS rP 36 (mpN ofU us us.length)) (fun s => vSl s) (fun s => mS 68 s) w) := by
  have := ArgC.mk hv
  refine fn_intro Tryz.func97 rfl Tryz.ntmps97 rfl ?_
  repeat (first | (refine wkB ?_; try intro _) | (refine sC rfl rfl ?_ ?_; focus (exact hl)) | (refine sN rfl rfl ?_ ?_; (focus (exact hl)); intro _; (try simp only [List.cons_append, List.nil_append, List.append_nil])))
  rename_i s
  exact jx_ret_tmp rfl rfl (fun w hw => ⟨s, rfl, hw.sub suB⟩)
instance sr_to (w0 : World) (L : List Blk) (v : Value) (us : List PU) [h : LstC w0 L v PU rP us] : SpecR Tryz.prog w0 L 61 [v] (SlS rU 36 (mpN toU us us.length)) (fun s => vSl s) (fun s => mS 163 s) (us.length ≤ 1048576) := ⟨fun hl w hw => to_spec v us w (h.out w hw) hl⟩
instance sr_from (w0 : World) (L : List Blk) (v : Value) (us : List UL) [h : LstC w0 L v UL rU us] : SpecR Tryz.prog w0 L 97 [v] (SlS rP 36 (mpN ofU us us.length)) (fun s => vSl s) (fun s => mS 68 s) (us.length ≤ 1048576) := ⟨fun hl w hw => from_spec v us w (h.out w hw) hl⟩
end Go.Vt
/- The order of units and their sorting, walked. Conditions: those that each statement names. -/
set_option linter.unusedSimpArgs false
set_option linter.unusedVariables false
set_option maxHeartbeats 2000000
set_option maxRecDepth 100000
namespace Go.Vt
open Go.RowKit Go.Proofs
/-- The first of some numbers that is not zero. -/
def orL : List Int → Int
  | [] => 0
  | x :: r => if x = 0 then orL r else x
theorem orL_drop (xs : List Int) (m : Nat) (hm : m < xs.length) : orL (xs.drop m) = if gi xs (m : Int) = 0 then orL (xs.drop (m + 1)) else gi xs (m : Int) := by
  rw [List.drop_eq_getElem_cons hm, orL, gi_nat hm]
theorem cmpOr_spec (b c n : Nat) (xs : List Int) (sp : List Value) (T : TypeId) (hn : n = xs.length) (hl : n ≤ 1099511627776) (w : World) (hw : ∃ fz, w.heap[b]? = some (.cells (row (eI .i64) xs sp) T fz)) :
    Calls Tryz.prog 145 [.slice (some ⟨b, 0, none⟩) n c].toArray w (Ret (.int .i64 (orL xs)) w) := by
  have := FoC.mk hw
  refine fn_intro Tryz.func145 rfl Tryz.ntmps145 rfl ?_
  repeat (refine wkB ?_; try intro _)
  refine j_loop (S := Nat) (fun m => m ≤ n ∧ orL xs = orL (xs.drop m)) (fun m => [(3, .int .i64 0), (6, .slice (some ⟨b, 0, none⟩) n c), (7, .int .i64 n), (8, .int .i64 (m : Nat))]) (fun _ => []) (fun m => n - m) 0 ⟨Nat.zero_le _, by rw [List.drop_zero]⟩ sbB slB (fun m hm => ?_)
  obtain ⟨hm, ho⟩ := hm
  repeat (refine wkB ?_; try intro _)
  refine j_cond rfl (fun h => ?_) (fun h => ?_)
  · have hlt : m < n := by have := of_decide_eq_true h; omega
    have hlp : (m : Int).toNat < xs.length := by omega
    rw [orL_drop xs m (by omega)] at ho
    repeat (refine wkB ?_; try intro _)
    by_cases h0 : gi xs (m : Int) = 0
    · rw [if_pos h0] at ho
      simp only [decide_eq_true h0, Bool.not_true]
      repeat (first | (refine wkB ?_; try intro _) | (refine sC rfl rfl ?_ ?_; focus (exact ⟨by omega, by omega⟩)) | (refine sN rfl rfl ?_ ?_; (focus (exact ⟨by omega, by omega⟩)); intro _; (try simp only [List.cons_append, List.nil_append, List.append_nil])))
      exact jx_loop (m + 1) ⟨hlt, ho⟩ sbB slB (by omega)
    · rw [if_neg h0] at ho
      simp only [decide_eq_false h0, Bool.not_false]
      repeat (refine wkB ?_; try intro _)
      rw [ho]
      exact jx_ret_tmp rfl rfl (fun w hw => ret_ok hw)
  · have hge : m = n := by have := of_decide_eq_false h; omega
    subst hge
    rw [hn, List.drop_length] at ho
    repeat (refine wkB ?_; try intro _)
    rw [ho]
    exact jx_ret_tmp rfl rfl (fun w hw => ret_ok hw)
instance sm_cmpOr (w0 : World) (L : List Blk) (b c n : Nat) (xs : List Int) (sp : List Value) (T : TypeId) [h : AtC w0 L b (row (eI .i64) xs sp) T] : SpecM Tryz.prog w0 L 145 [.slice (some ⟨b, 0, none⟩) n c] (.int .i64 (orL xs)) (n = xs.length ∧ n ≤ 1099511627776) := ⟨fun hp w hw => cmpOr_spec b c n xs sp T hp.1 hp.2 w (h.out w hw)⟩
def opn (I : R_api_Interval) : Int := if I.OpenFrom then 1 else 0
instance sp_opn (I : R_api_Interval) : SpecC Tryz.prog 170 [vIv I] (.int .i64 (opn I)) True := ⟨fun _ w => by
  refine fn_intro Tryz.func170 rfl Tryz.ntmps170 rfl ?_
  obtain ⟨f, t, o, c⟩ := I
  cases o
  · repeat (refine wkB ?_; try intro _)
    exact jx_ret_tmp rfl rfl (fun w hw => ret_ok hw)
  · repeat (refine wkB ?_; try intro _)
    exact jx_ret_tmp rfl rfl (fun w hw => ret_ok hw)⟩
/-- Both ends are rational and short. -/
structure IvOk (K : Nat) (I : R_api_Interval) : Prop where
  r1 : I.From.R = 0
  r2 : I.To.R = 0
  n1 : I.From.Neg = false
  n2 : I.To.Neg = false
  m1 : M I.From.P ≤ K
  m2 : M I.To.P ≤ K
theorem IvOk.mono {K K' : Nat} {I : R_api_Interval} (h : IvOk K I) (hk : K ≤ K') : IvOk K' I := ⟨h.r1, h.r2, h.n1, h.n2, Nat.le_trans h.m1 hk, Nat.le_trans h.m2 hk⟩
abbrev BQ : Nat := 8589934592
/-- The order of units. -/
def cmpU (a b : UL) : Int := orL [cq a.In.From.P b.In.From.P, Lib.compareInt (opn a.In) (opn b.In), cq a.In.To.P b.In.To.P]
instance sp_cmpU (a b : UL) : SpecC Tryz.prog 169 [vUL a, vUL b] (.int .i64 (cmpU a b)) (IvOk BQ a.In ∧ IvOk BQ b.In) := ⟨fun hp w => by
  obtain ⟨h1, h2⟩ := hp
  refine fn_intro Tryz.func169 rfl Tryz.ntmps169 rfl ?_
  repeat (refine wkB ?_; try intro _)
  rename_i b2 b3
  (refine j_phases [([0, 1, 2, 3, 4, 5, 6, 7, 8, 9, 10, 11, 12, 13, 14, 15, 16, 17, 18, 19, 20, 21, 22], [23, 24, 25])] ([⟨b3, rU b, 163⟩, ⟨b2, rU a, 163⟩]) (h := ?_); refine wkP ?_)
  (repeat (first | refine wkH ?_ | (refine tC rfl rfl ?_ ?_; focus (first | exact trivial | exact ⟨⟨h1.r1, h2.r1⟩, Nat.le_trans h1.m1 (by decide), Nat.le_trans h2.m1 (by decide)⟩ | exact ⟨⟨h1.r2, h2.r2⟩, Nat.le_trans h1.m2 (by decide), Nat.le_trans h2.m2 (by decide)⟩))))
  repeat (first | (refine wkT ?_; try intro _) | (refine tC rfl rfl ?_ ?_; focus (exact ⟨rfl, by decide⟩)) | (refine uC rfl rfl ?_ ?_; focus (exact ⟨rfl, by decide⟩)) | (refine eN rfl rfl ?_ ?_; (focus (exact ⟨rfl, by decide⟩)); intro _; (try simp only [List.cons_append, List.nil_append, List.append_nil])))
  repeat (refine wkB ?_; try intro _)
  exact jx_ret_tmp rfl rfl (fun w hw => ret_ok hw)⟩
/-- Two neighbours change places. -/
def swp (xs : List UL) (j : Nat) : List UL := (xs.set (j + 1) (gi xs (j : Int))).set j (gi xs ((j + 1 : Nat) : Int))
/-- An element goes down as long as it is less than the one ahead of it. -/
def dwn (xs : List UL) : Nat → List UL
  | 0 => xs
  | j + 1 => if cmpU (gi xs ((j + 1 : Nat) : Int)) (gi xs (j : Int)) < 0 then dwn (swp xs j) j else xs
/-- The first elements are in order. -/
def srt (xs : List UL) : Nat → List UL
  | 0 => xs
  | i + 1 => dwn (srt xs i) (i + 1)
theorem swp_len (xs : List UL) (j : Nat) : (swp xs j).length = xs.length := by simp [swp]
theorem swp_mem {xs : List UL} {j : Nat} (h : j + 1 < xs.length) {u : UL} (hu : u ∈ swp xs j) : u ∈ xs := by
  unfold swp at hu
  rcases List.mem_or_eq_of_mem_set hu with h1 | h1
  · rcases List.mem_or_eq_of_mem_set h1 with h2 | h2
    · exact h2
    · rw [h2, gi_nat (by omega)]
      exact List.getElem_mem _
  · rw [h1, gi_nat h]
    exact List.getElem_mem _
theorem dwn_len : ∀ (j : Nat) (xs : List UL), (dwn xs j).length = xs.length
  | 0, _ => rfl
  | j + 1, xs => by
    rw [dwn]
    split
    · rw [dwn_len j, swp_len]
    · rfl
theorem dwn_mem : ∀ (j : Nat) (xs : List UL), j < xs.length → ∀ u ∈ dwn xs j, u ∈ xs
  | 0, _, _, _, h => h
  | j + 1, xs, hj, u, h => by
    rw [dwn] at h
    split at h
    · exact swp_mem hj (dwn_mem j _ (by rw [swp_len]; omega) u h)
    · exact h
theorem srt_len (xs : List UL) : ∀ i, (srt xs i).length = xs.length
  | 0 => rfl
  | i + 1 => by rw [srt, dwn_len, srt_len xs i]
theorem srt_mem (xs : List UL) : ∀ i, i < xs.length → ∀ u ∈ srt xs i, u ∈ xs
  | 0, _, _, h => h
  | i + 1, hi, u, h => by
    rw [srt] at h
    exact srt_mem xs i (by omega) u (dwn_mem _ _ (by rw [srt_len]; exact hi) u h)
theorem ins_spec (w0 w : World) (L1 : List Blk) (b c n : Nat) (xs : List UL) (sp : List Value) (T : TypeId) (hn : xs.length = n) (hl : n ≤ 1048576) (hok : ∀ u ∈ xs, IvOk BQ u.In) (hw : Own w0 (⟨b, row rU xs sp, T⟩ :: L1) w) :
    Calls Tryz.prog 201 [.slice (some ⟨b, 0, none⟩) n c, .int .i64 0, .int .i64 n, vFn 169].toArray w (RetX w0 Unit (fun _ => .tuple #[]) (fun _ => ⟨b, row rU (srt xs (n - 1)) sp, T⟩ :: L1)) := by
  refine fn_introL Tryz.func201 rfl Tryz.ntmps201 rfl hw ?_
  repeat (refine wkB ?_; try intro _)
  refine j_loop (S := Nat) (fun m => m ≤ n - 1) (fun m => [(0, .slice (some ⟨b, 0, none⟩) n c), (1, .int .i64 0), (2, .int .i64 n), (3, vFn 169), (8, .int .i64 ((m + 1 : Nat)))]) (fun m => ⟨b, row rU (srt xs m) sp, T⟩ :: L1) (fun m => n - 1 - m) 0 (Nat.zero_le _) sbB slB (fun m hm => ?_)
  have hsl := srt_len xs m
  repeat (refine wkB ?_; try intro _)
  refine j_cond rfl (fun h => ?_) (fun h => ?_)
  · have hlt : m + 1 < n := by have := of_decide_eq_true h; omega
    have hmem := srt_mem xs m (by omega)
    repeat (refine wkB ?_; try intro _)
    refine j_loop (S := Nat × List UL) (fun s => dwn s.2 s.1 = srt xs (m + 1) ∧ s.2.length = n ∧ s.1 ≤ m + 1 ∧ ∀ u ∈ s.2, IvOk BQ u.In) (fun s => [(0, .slice (some ⟨b, 0, none⟩) n c), (1, .int .i64 0), (2, .int .i64 n), (3, vFn 169), (8, .int .i64 ((m + 1 : Nat))), (9, .int .i64 ((s.1 : Nat)))]) (fun s => ⟨b, row rU s.2 sp, T⟩ :: L1) (fun s => s.1) (m + 1, srt xs m)
      ⟨rfl, by show (srt xs m).length = n; omega, Nat.le_refl _, fun u hu => hok u (hmem u hu)⟩ sbB slB (fun s hs => ?_)
    obtain ⟨j, ys⟩ := s
    obtain ⟨g1, g2, g3, g4⟩ := hs
    simp only at g1 g2 g3 g4 ⊢
    repeat (refine wkB ?_; try intro _)
    rcases j with _ | j
    · (refine jD 17 17 (h := ?_); (repeat (refine wkH ?_)); refine jh_nil ?_; (repeat (refine wn_new ?_; intro _)); refine jn_nil ?_)
      repeat (refine wkB ?_; try intro _)
      exact jx_loop (m + 1) (by omega) sbB (by rw [← g1]; exact List.Sublist.refl _) (by omega)
    · have hj1 : ((j : Int)).toNat < ys.length := by omega
      have hj2 : (((j + 1 : Nat) : Int)).toNat < ys.length := by omega
      have e1 : ((j + 1 : Nat) : Int) - 1 = (j : Int) := by omega
      have o1 := g4 _ (by rw [gi_nat (show j < ys.length by omega)]; exact List.getElem_mem _ : gi ys (j : Int) ∈ ys)
      have o2 := g4 _ (by rw [gi_nat (show j + 1 < ys.length by omega)]; exact List.getElem_mem _ : gi ys ((j + 1 : Nat) : Int) ∈ ys)
      rw [dwn] at g1
      refine jD 17 17 (h := ?_)
      (repeat (refine wkH ?_))
      simp only [decide_eq_true (show (0 : Int) < ((j + 1 : Nat) : Int) by omega), e1]
      (repeat (refine wkH ?_))
      simp only [e1]
      (repeat (first | refine wkH ?_ | (refine tC rfl rfl ?_ ?_; focus (exact ⟨o2, o1⟩))))
      refine jh_nil ?_
      refine jn_nil ?_
      repeat (refine wkB ?_; try intro _)
      by_cases hc : cmpU (gi ys ((j + 1 : Nat) : Int)) (gi ys (j : Int)) < 0
      · rw [if_pos hc] at g1
        simp only [decide_eq_true hc]
        repeat (refine wkB ?_; try intro _)
        (refine j_seg [(true, [0, 1, 2, 3, 4, 5, 6, 7, 8]), (false, [9]), (true, [10, 11, 12]), (false, [13]), (true, [14])] [15, 16, 17] (h := ?_); refine wkS ?_)
        (repeat (refine wkH ?_))
        simp only [e1]
        refine jh_nil ?_
        refine eR rfl ?_ ?_
        · omega
        refine uS rfl rfl ?_ ?_
        · omega
        refine eR rfl ?_ ?_
        · rw [List.length_set]; omega
        refine je_nil ?_
        simp only [Int.toNat_natCast]
        repeat (first | (refine wkB ?_; try intro _) | (refine sC rfl rfl ?_ ?_; focus (exact ⟨by omega, by omega⟩)) | (refine sN rfl rfl ?_ ?_; (focus (exact ⟨by omega, by omega⟩)); intro _; (try simp only [List.cons_append, List.nil_append, List.append_nil])))
        simp only [e1]
        exact jx_loop (j, swp ys j) ⟨g1, by rw [swp_len]; exact g2, by omega, fun u hu => g4 u (swp_mem (by omega) hu)⟩ sbB slB (by show j < j + 1; omega)
      · rw [if_neg hc] at g1
        simp only [decide_eq_false hc]
        repeat (first | (refine wkB ?_; try intro _) | (refine sC rfl rfl ?_ ?_; focus (exact ⟨by omega, by omega⟩)) | (refine sN rfl rfl ?_ ?_; (focus (exact ⟨by omega, by omega⟩)); intro _; (try simp only [List.cons_append, List.nil_append, List.append_nil])))
        exact jx_loop (m + 1) (by omega) sbB (by rw [← g1]; exact List.Sublist.refl _) (by omega)
  · have hge : m = n - 1 := by have := of_decide_eq_false h; omega
    subst hge
    repeat (refine wkB ?_; try intro _)
    exact jx_end0 rfl (fun w hw => ⟨(), rfl, hw⟩)
abbrev SrtS (xs : List UL) (s : SlS rU 36 xs) : Type := { s' : SlS rU 36 (srt xs (xs.length - 1)) // vSl s' = vSl s }
theorem insS_spec (w0 w : World) (L L1 : List Blk) (xs : List UL) (s : SlS rU 36 xs) (T : TypeId) [hd : OwnS T s L L1] (hl : xs.length ≤ 1048576) (hok : ∀ u ∈ xs, IvOk BQ u.In) (hw : Own w0 L w) :
    Calls Tryz.prog 201 [vSl s, .int .i64 0, .int .i64 xs.length, vFn 169].toArray w (RetX w0 (SrtS xs s) (fun _ => .tuple #[]) (fun s' => mS T s'.1 ++ L1)) := by
  have hw1 := hw.perm hd.out
  rcases s.cases T with ⟨rfl, hv, hm⟩ | ⟨b, c, sp, h1, hv, hm, hne⟩
  · suffices h : Calls Tryz.prog 201 [.slice none 0 0, .int .i64 0, .int .i64 (([] : List UL).length : Nat), vFn 169].toArray w (RetX w0 (SrtS [] s) (fun _ => .tuple #[]) (fun s' => mS T s'.1 ++ L1)) by
      rw [← hv] at h
      exact h
    refine fn_introL Tryz.func201 rfl Tryz.ntmps201 rfl hw1 ?_
    repeat (refine wkB ?_; try intro _)
    refine j_loop (S := Unit) (fun _ => True) (fun _ => [(2, .int .i64 (([] : List UL).length : Nat)), (8, .int .i64 1)]) (fun _ => mS T s ++ L1) (fun _ => 0) () trivial sbB slB (fun _ _ => ?_)
    repeat (refine wkB ?_; try intro _)
    simp only [decide_eq_false (show ¬ (1 : Int) < ((([] : List UL).length : Nat) : Int) by simp)]
    repeat (refine wkB ?_; try intro _)
    exact jx_end0 rfl (fun w hw => ⟨⟨s, rfl⟩, rfl, hw⟩)
  · suffices h : Calls Tryz.prog 201 [.slice (some ⟨b, 0, none⟩) xs.length c, .int .i64 0, .int .i64 xs.length, vFn 169].toArray w (RetX w0 (SrtS xs s) (fun _ => .tuple #[]) (fun s' => mS T s'.1 ++ L1)) by
      rw [← hv] at h
      exact h
    rw [hm] at hw1
    have hsl := srt_len xs (xs.length - 1)
    refine (ins_spec w0 w L1 b c xs.length xs sp T rfl hl hok hw1).mono fun e w' ⟨_, he, hw'⟩ => ?_
    exact ⟨⟨SlS.at_ b c sp (by rw [hsl]; exact h1) (fun h0 => hne (List.length_eq_zero_iff.1 (by rw [h0, List.length_nil] at hsl; exact hsl.symm))), by rw [hv]; show Value.slice _ (srt xs (xs.length - 1)).length c = _; rw [hsl]⟩, he, hw'⟩
instance sx_ins (w0 : World) (L L1 : List Blk) (xs : List UL) (s : SlS rU 36 xs) (T : TypeId) [hd : OwnS T s L L1] : SpecX Tryz.prog w0 L 201 [vSl s, .int .i64 0, .int .i64 xs.length, vFn 169] (SrtS xs s) (fun _ => .tuple #[]) (fun s' => mS T s'.1 ++ L1) (xs.length ≤ 1048576 ∧ ∀ u ∈ xs, IvOk BQ u.In) := ⟨fun hp w hw => insS_spec w0 w L L1 xs s T hp.1 hp.2 hw⟩
theorem stable_spec (w0 w : World) (L L1 : List Blk) (xs : List UL) (s : SlS rU 36 xs) (T : TypeId) [hd : OwnS T s L L1] (hl : xs.length ≤ 19) (hok : ∀ u ∈ xs, IvOk BQ u.In) (hw : Own w0 L w) :
    Calls Tryz.prog 184 [vSl s, .int .i64 xs.length, vFn 169].toArray w (RetX w0 (SrtS xs s) (fun _ => .tuple #[]) (fun s' => mS T s'.1 ++ L1)) := by
  refine fn_introL Tryz.func184 rfl Tryz.ntmps184 rfl hw ?_
  repeat (refine wkB ?_; try intro _)
  refine j_loop (S := Unit) (fun _ => True) (fun _ => [(0, vSl s), (1, .int .i64 xs.length), (2, vFn 169), (6, .int .i64 20), (7, .int .i64 0), (8, .int .i64 20)]) (fun _ => L) (fun _ => 0) () trivial sbB slB (fun _ _ => ?_)
  repeat (refine wkB ?_; try intro _)
  simp only [decide_eq_false (show ¬ (20 : Int) ≤ (xs.length : Int) by omega)]
  repeat (refine wkB ?_; try intro _)
  refine sZ rfl rfl ?_ ?_
  · exact ⟨by omega, hok⟩
  intro s'
  repeat (refine wkB ?_; try intro _)
  refine j_loop (S := Unit) (fun _ => True) (fun _ => [(1, .int .i64 xs.length), (6, .int .i64 20)]) (fun _ => mS T s'.1 ++ L1) (fun _ => 0) () trivial sbB slB (fun _ _ => ?_)
  repeat (refine wkB ?_; try intro _)
  simp only [decide_eq_false (show ¬ (20 : Int) < (xs.length : Int) by omega)]
  repeat (refine wkB ?_; try intro _)
  exact jx_end0 rfl (fun w hw => ⟨s', rfl, hw⟩)
instance sx_stable (w0 : World) (L L1 : List Blk) (xs : List UL) (s : SlS rU 36 xs) (T : TypeId) [hd : OwnS T s L L1] : SpecX Tryz.prog w0 L 184 [vSl s, .int .i64 xs.length, vFn 169] (SrtS xs s) (fun _ => .tuple #[]) (fun s' => mS T s'.1 ++ L1) (xs.length ≤ 19 ∧ ∀ u ∈ xs, IvOk BQ u.In) := ⟨fun hp w hw => stable_spec w0 w L L1 xs s T hp.1 hp.2 hw⟩
theorem sortStable_spec (w0 w : World) (L L1 : List Blk) (xs : List UL) (s : SlS rU 36 xs) (T : TypeId) [hd : OwnS T s L L1] (hl : xs.length ≤ 19) (hok : ∀ u ∈ xs, IvOk BQ u.In) (hw : Own w0 L w) :
    Calls Tryz.prog 168 [vSl s, vFn 169].toArray w (RetX w0 (SrtS xs s) (fun _ => .tuple #[]) (fun s' => mS T s'.1 ++ L1)) := by
  refine fn_introL Tryz.func168 rfl Tryz.ntmps168 rfl hw ?_
  repeat (refine wkB ?_; try intro _)
  refine sZ rfl rfl ?_ ?_
  · exact ⟨hl, hok⟩
  intro s'
  repeat (refine wkB ?_; try intro _)
  exact jx_end0 rfl (fun w hw => ⟨s', rfl, hw⟩)
instance sx_sortStable (w0 : World) (L L1 : List Blk) (xs : List UL) (s : SlS rU 36 xs) (T : TypeId) [hd : OwnS T s L L1] : SpecX Tryz.prog w0 L 168 [vSl s, vFn 169] (SrtS xs s) (fun _ => .tuple #[]) (fun s' => mS T s'.1 ++ L1) (xs.length ≤ 19 ∧ ∀ u ∈ xs, IvOk BQ u.In) := ⟨fun hp w hw => sortStable_spec w0 w L L1 xs s T hp.1 hp.2 hw⟩
end Go.Vt
/- Units sorted and divided into single instants and open intervals, walked. Conditions: those that each statement names. -/
set_option linter.unusedSimpArgs false
set_option linter.unusedVariables false
set_option maxHeartbeats 2000000
set_option maxRecDepth 100000
namespace Go.Vt
open Go.RowKit Go.Proofs
/-- A slice that is known, and nil where it is empty. -/
class LstN (w0 : World) (L : List Blk) (v : Value) (α : outParam Type) (enc : outParam (α → Array Value)) (xs : outParam (List α)) : Prop where
  out : ∀ w, Own w0 L w → ArgS w v enc xs
  nil : xs = [] → v = .slice none 0 0
instance lstNOwn {α : Type} {enc : α → Array Value} {k : Nat} {xs : List α} [he : EncC enc k] (w0 : World) (L L1 : List Blk) (T : TypeId) (s : SlS enc k xs) [h : OwnS T s L L1] : LstN w0 L (vSl s) α enc xs := ⟨(lstOwn w0 L L1 T s).out, fun h0 => by
  rcases s.cases T with ⟨-, hv, -⟩ | ⟨b, c, sp, h1, hv, hm, hne⟩
  · exact hv
  · exact absurd h0 hne⟩
instance bs_116_0 : BsC Tryz.prog 116 0 [] (row rU [] []) 163 := ⟨fun w => by kernel_rfl⟩
theorem clone_spec (v : Value) (us : List UL) (w : World) (hv : ArgS w v rU us) (hn : us = [] → v = .slice none 0 0) (hl : us.length ≤ 1048576) :
    Calls Tryz.prog 167 [v].toArray w (RetM (SlS rU 36 us) (fun s => vSl s) (fun s => mS 163 s) w) := by
  by_cases h0 : us = []
  · obtain rfl := hn h0
    subst h0
    refine fn_intro Tryz.func167 rfl Tryz.ntmps167 rfl ?_
    repeat (refine wkB ?_; try intro _)
    exact jx_ret_tmp rfl rfl (fun w hw => ⟨SlS.no, rfl, hw⟩)
  · obtain ⟨bw, ow, cw, rfl, hcw, hrow⟩ := hv.blk (k := 35) h0 []
    have hrow' : ∀ L, RowC w L bw ow UL rU us := fun L => ⟨fun w' hw' => hrow.out w' (hw'.sub (List.nil_sublist _))⟩
    refine fn_intro Tryz.func167 rfl Tryz.ntmps167 rfl ?_
    repeat (refine wkB ?_; try intro _)
    refine sG rfl rfl ?_ h0 ?_ ?_ ?_ ?_ ?_
    · rfl
    · rfl
    · rfl
    · decide
    · exact ⟨by omega, by omega⟩
    intro s'
    repeat (refine wkB ?_; try intro _)
    exact jx_ret_tmp rfl rfl (fun w hw => ⟨s', rfl, hw.sub suB⟩)
instance sr_clone (w0 : World) (L : List Blk) (v : Value) (us : List UL) [h : LstN w0 L v UL rU us] : SpecR Tryz.prog w0 L 167 [v] (SlS rU 36 us) (fun s => vSl s) (fun s => mS 163 s) (us.length ≤ 1048576) := ⟨fun hl w hw => clone_spec v us w (h.out w hw) h.nil hl⟩
instance call_sortStable : CallC Tryz.prog 168 := ⟨by kernel_rfl⟩
/-- Units in order. -/
def sor (us : List UL) : List UL := srt us (us.length - 1)
theorem sorted_spec (v : Value) (us : List UL) (w : World) (hv : ArgS w v rU us) (hn : us = [] → v = .slice none 0 0) (hl : us.length ≤ 19) (hok : ∀ u ∈ us, IvOk BQ u.In) :
    Calls Tryz.prog 133 [v].toArray w (RetM (SlS rU 36 (sor us)) (fun s => vSl s) (fun s => mS 163 s) w) := by
  have : ∀ L, LstN w L v UL rU us := fun L => ⟨fun w' hw' => hv.to hw'.ext, hn⟩
  refine fn_intro Tryz.func133 rfl Tryz.ntmps133 rfl ?_
  repeat (first | (refine wkB ?_; try intro _) | (refine sC rfl rfl ?_ ?_; focus (omega)) | (refine sN rfl rfl ?_ ?_; (focus (omega)); intro _; (try simp only [List.cons_append, List.nil_append, List.append_nil])))
  rename_i s
  refine sZ rfl rfl ?_ ?_
  · exact ⟨hl, hok⟩
  intro s'
  repeat (refine wkB ?_; try intro _)
  exact jx_ret_tmp rfl rfl (fun w hw => ⟨s'.1, by show Ending.returned (vSl s) = Ending.returned (vSl s'.1); rw [s'.2], hw.sub suB⟩)
instance sr_sorted (w0 : World) (L : List Blk) (v : Value) (us : List UL) [h : LstN w0 L v UL rU us] : SpecR Tryz.prog w0 L 133 [v] (SlS rU 36 (sor us)) (fun s => vSl s) (fun s => mS 163 s) (us.length ≤ 19 ∧ ∀ u ∈ us, IvOk BQ u.In) := ⟨fun hp w hw => sorted_spec v us w (h.out w hw) h.nil hp.1 hp.2⟩
end Go.Vt
/- Units divided into single instants and open intervals, walked. Conditions: those that each statement names. -/
set_option linter.unusedSimpArgs false
set_option linter.unusedVariables false
set_option maxHeartbeats 2000000
set_option maxRecDepth 100000
namespace Go.Vt
open Go.RowKit Go.Proofs
section
variable {P : Program} {α : Type} {enc : α → Array Value} {k : Nat} {xs ys : List α}
instance ldVS {T e : TypeId} {s : SlS enc k xs} [h : UndC P T (.slice e)] : LdC P T #[vSl s] 0 (vSl s) := ⟨ldv_one (by simp [oneB, h.out]) rfl⟩
theorem vSl_cells (s : SlS enc k xs) : (vSl s).cells = #[vSl s] := by
  rcases s.cases 0 with ⟨-, hv, -⟩ | ⟨b, c, sp, -, hv, -, -⟩ <;> rw [hv] <;> rfl
theorem vSl_one (s : SlS enc k xs) : (vSl s).oneCell' = true := by
  rcases s.cases 0 with ⟨-, hv, -⟩ | ⟨b, c, sp, -, hv, -, -⟩ <;> rw [hv] <;> rfl
instance stVS {T : TypeId} {v : Value} {s : SlS enc k xs} [h : SizeC P T 1] : StC P T #[v] 0 (vSl s) #[vSl s] := ⟨by rw [vSl_cells]; exact h.out, by rw [vSl_cells]; rfl, by rw [vSl_cells]; simp [vSl_one], by rw [vSl_cells]; rfl⟩
end
theorem j_permL {P : Program} {w0 : World} {n : Nat} {c : Code} {Q : Exit → Act → World → Prop} {E : Env} {L : List Blk} (L' : List Blk) (p : L.Perm L') (h : J P w0 n c Q E L') : J P w0 n c Q E L := ⟨fun a w ha hw => h.out a w ha (hw.perm p)⟩
/-- One instant. -/
def at1 (t : R_api_Real) (f : R_api_Line) : UL := ⟨⟨t, t, false, false⟩, f⟩
theorem atom1_spec (w0 w : World) (L2 : List Blk) (b : Nat) (xs : List UL) (s : SlS rU 36 xs) (t : R_api_Real) (f : R_api_Line) (hl : xs.length ≤ 1048576) (hw : Own w0 (mS 163 s ++ ⟨b, #[vSl s], 116⟩ :: L2) w) :
    Calls Tryz.prog 171 [vR t, vLn f, .pointer (some ⟨b, 0, none⟩)].toArray w (RetX w0 (SlS rU 36 (xs ++ [at1 t f])) (fun _ => .tuple #[]) (fun s' => mS 163 s' ++ ⟨b, #[vSl s'], 116⟩ :: L2)) := by
  refine fn_introL Tryz.func171 rfl Tryz.ntmps171 rfl hw ?_
  repeat (refine wkB ?_; try intro _)
  refine sU rfl rfl ?_ ?_ ?_ ?_
  · rfl
  · rfl
  · exact ⟨by decide, by omega, by omega⟩
  intro s'
  repeat (refine wkB ?_; try intro _)
  exact jx_end0 rfl (fun w hw => ⟨s', rfl, hw.sub suB⟩)
instance sx_atom1 (w0 : World) (L L1 L2 : List Blk) (b : Nat) {xs : List UL} (s : SlS rU 36 xs) (t : R_api_Real) (f : R_api_Line) [h1 : DelC b L #[vSl s] 116 L1] [h2 : OwnS 163 s L1 L2] : SpecX Tryz.prog w0 L 171 [vR t, vLn f, .pointer (some ⟨b, 0, none⟩)] (SlS rU 36 (xs ++ [at1 t f])) (fun _ => .tuple #[]) (fun s' => mS 163 s' ++ ⟨b, #[vSl s'], 116⟩ :: L2) (xs.length ≤ 1048576) := ⟨fun hl w hw =>
  atom1_spec w0 w L2 b xs s t f hl (hw.perm ((h1.out.trans (h2.out.cons _)).trans List.perm_middle.symm))⟩
/-- Without its ends. -/
def inn1 (u : UL) : UL := ⟨⟨u.In.From, u.In.To, true, true⟩, u.F⟩
/-- The parts of a unit. -/
def atU (u : UL) : List UL := (if u.In.OpenFrom = true then [] else [at1 u.In.From u.F]) ++ (if u.In.From = u.In.To then [] else inn1 u :: if u.In.OpenTo = true then [] else [at1 u.In.To u.F])
def atm (us : List UL) : Nat → List UL
  | 0 => []
  | m + 1 => atm us m ++ atU (gi us (m : Int))
theorem atU_len (u : UL) : (atU u).length ≤ 3 := by
  unfold atU
  split <;> split <;> (try split) <;> simp
theorem atm_len (us : List UL) : ∀ m, (atm us m).length ≤ 3 * m
  | 0 => Nat.le_refl _
  | m + 1 => by
    have := atm_len us m
    have := atU_len (gi us (m : Int))
    rw [atm, List.length_append]
    omega
theorem atoms_spec (v : Value) (us : List UL) (w : World) (hv : ArgS w v rU us) (hl : us.length ≤ 65536) :
    Calls Tryz.prog 135 [v].toArray w (RetM (SlS rU 36 (atm us us.length)) (fun s => vSl s) (fun s => mS 163 s) w) := by
  refine fn_intro Tryz.func135 rfl Tryz.ntmps135 rfl ?_
  obtain ⟨p, cp, rfl⟩ := hv.form
  repeat (refine wkB ?_; try intro _)
  rename_i b3
  refine j_loop (S := (xs : List UL) × Nat × SlS rU 36 xs) (fun s => s.2.1 ≤ us.length ∧ s.1 = atm us s.2.1) (fun s => [(3, .pointer (some ⟨b3, 0, none⟩)), (4, .func (.func 171) #[] [.pointer (some ⟨b3, 0, none⟩)].toArray), (8, .slice p us.length cp), (9, .int .i64 us.length), (10, .int .i64 (s.2.1 : Nat))]) (fun s => mS 163 s.2.2 ++ [⟨b3, #[vSl s.2.2], 116⟩]) (fun s => us.length - s.2.1) ⟨[], 0, SlS.no⟩
    ⟨Nat.zero_le _, rfl⟩ sbB slB (fun s hs => ?_)
  obtain ⟨xs, m, s⟩ := s
  obtain ⟨hm, hxs⟩ := hs
  simp only at hm hxs ⊢
  repeat (refine wkB ?_; try intro _)
  refine j_cond rfl (fun h => ?_) (fun h => ?_)
  · have hlt : m < us.length := by have := of_decide_eq_true h; omega
    have hne : us ≠ [] := fun h0 => by rw [h0] at hlt; simp at hlt
    obtain ⟨bw, ow, cw, hvw, hcw, hrow⟩ := hv.blk (k := 35) hne []
    injection hvw with e1 e2 e3
    subst e1
    subst e3
    have hrow' : ∀ L, RowC w L bw ow UL rU us := fun L => ⟨fun w' hw' => hrow.out w' (hw'.sub (List.nil_sublist _))⟩
    have hxl := atm_len us m
    rw [← hxs] at hxl
    obtain ⟨u, hu⟩ : ∃ u, u = gi us (m : Int) := ⟨_, rfl⟩
    have hnx : atm us (m + 1) = xs ++ atU u := by rw [atm, hxs, hu]
    repeat (refine wkB ?_; try intro _)
    simp only [← hu]
    rename_i b6
    refine j_permL (mS 163 s ++ [⟨b3, #[vSl s], 116⟩, ⟨b6, rU u, 163⟩]) (by
      have h1 := (List.perm_append_singleton (⟨b6, rU u, 163⟩ : Blk) (mS 163 s ++ [⟨b3, #[vSl s], 116⟩])).symm
      rw [List.append_assoc] at h1
      exact h1) ?_
    refine j_cut (S := (ys : List UL) × SlS rU 36 ys) (fun s' => s'.1 = xs ++ (if u.In.OpenFrom = true then [] else [at1 u.In.From u.F])) (fun s' => [(6, .pointer (some ⟨b6, 0, none⟩)), (3, .pointer (some ⟨b3, 0, none⟩)), (4, .func (.func 171) #[] [.pointer (some ⟨b3, 0, none⟩)].toArray), (8, .slice (some ⟨bw, ow, none⟩) us.length cp), (9, .int .i64 us.length), (10, .int .i64 (m : Nat))])
      (fun s' => mS 163 s'.2 ++ [⟨b3, #[vSl s'.2], 116⟩, ⟨b6, rU u, 163⟩]) ?_ (fun s' hs' => ?_)
    · rcases ho : u.In.OpenFrom with _ | _
      · repeat (refine wkB ?_; try intro _)
        refine sY rfl rfl ?_ ?_
        · omega
        intro s'
        repeat (refine wkB ?_; try intro _)
        exact jx_mid ⟨_, s'⟩ rfl sbB suB
      · repeat (refine wkB ?_; try intro _)
        exact jx_mid ⟨_, s⟩ (by rw [if_pos rfl, List.append_nil]) sbB suB
    obtain ⟨ys, s'⟩ := s'
    simp only at hs' ⊢
    have hyl : ys.length ≤ 3 * m + 1 := by rw [hs', List.length_append]; split <;> simp <;> omega
    repeat (refine wkB ?_; try intro _)
    by_cases hi : u.In.From = u.In.To
    · simp only [decide_eq_true hi]
      repeat (first | (refine wkB ?_; try intro _) | (refine sC rfl rfl ?_ ?_; focus (exact ⟨by omega, by omega⟩)) | (refine sN rfl rfl ?_ ?_; (focus (exact ⟨by omega, by omega⟩)); intro _; (try simp only [List.cons_append, List.nil_append, List.append_nil])))
      exact jx_loop ⟨ys, m + 1, s'⟩ ⟨hlt, by rw [hnx, atU, if_pos hi, List.append_nil]; exact hs'⟩ sbB suB (by show us.length - (m + 1) < us.length - m; omega)
    · simp only [decide_eq_false hi]
      repeat (refine wkB ?_; try intro _)
      refine sU rfl rfl ?_ ?_ ?_ ?_
      · rfl
      · rfl
      · exact ⟨by decide, by omega, by omega⟩
      intro s2
      repeat (refine wkB ?_; try intro _)
      rcases hc : u.In.OpenTo with _ | _
      · have e3 : ys ++ [inn1 u] ++ [at1 u.In.To u.F] = atm us (m + 1) := by
          rw [hnx, hs']
          unfold atU
          rw [if_neg hi, hc]
          simp
        repeat (refine wkB ?_; try intro _)
        refine sY rfl rfl ?_ ?_
        · simp only [List.length_append, List.length_singleton]; omega
        intro s3
        repeat (first | (refine wkB ?_; try intro _) | (refine sC rfl rfl ?_ ?_; focus (exact ⟨by omega, by omega⟩)) | (refine sN rfl rfl ?_ ?_; (focus (exact ⟨by omega, by omega⟩)); intro _; (try simp only [List.cons_append, List.nil_append, List.append_nil])))
        exact jx_loop ⟨_, m + 1, s3⟩ ⟨hlt, e3⟩ sbB suB (by show us.length - (m + 1) < us.length - m; omega)
      · have e3 : ys ++ [inn1 u] = atm us (m + 1) := by
          rw [hnx, hs']
          unfold atU
          rw [if_neg hi, hc]
          simp
        repeat (first | (refine wkB ?_; try intro _) | (refine sC rfl rfl ?_ ?_; focus (exact ⟨by omega, by omega⟩)) | (refine sN rfl rfl ?_ ?_; (focus (exact ⟨by omega, by omega⟩)); intro _; (try simp only [List.cons_append, List.nil_append, List.append_nil])))
        exact jx_loop ⟨_, m + 1, s2⟩ ⟨hlt, e3⟩ sbB suB (by show us.length - (m + 1) < us.length - m; omega)
  · have hge : m = us.length := by have := of_decide_eq_false h; omega
    subst hge
    subst hxs
    repeat (refine wkB ?_; try intro _)
    exact jx_ret_tmp rfl rfl (fun w hw => ⟨s, rfl, hw.sub suB⟩)
instance sr_atoms (w0 : World) (L : List Blk) (v : Value) (us : List UL) [h : LstC w0 L v UL rU us] : SpecR Tryz.prog w0 L 135 [v] (SlS rU 36 (atm us us.length)) (fun s => vSl s) (fun s => mS 163 s) (us.length ≤ 65536) := ⟨fun hl w hw => atoms_spec v us w (h.out w hw) hl⟩
end Go.Vt
/- Does the last unit hold an instant? Walked. Conditions: those that each statement names. -/
set_option linter.unusedSimpArgs false
set_option linter.unusedVariables false
set_option maxHeartbeats 2000000
set_option maxRecDepth 100000
namespace Go.Vt
open Go.RowKit Go.Proofs
/-- The last unit. -/
abbrev lstU (xs : List UL) : UL := gi xs ((xs.length : Int) - 1)
def hld (xs : List UL) (t : R_api_Real) : Bool := decide (0 < xs.length) && (decide ((lstU xs).In.To = t) && !(lstU xs).In.OpenTo)
theorem held_spec (v : Value) (xs : List UL) (t : R_api_Real) (w : World) (hv : ArgS w v rU xs) (hl : xs.length ≤ 1048576) :
    Calls Tryz.prog 137 [v, vR t].toArray w (Ret (.bool (hld xs t)) w) := by
  refine fn_intro Tryz.func137 rfl Tryz.ntmps137 rfl ?_
  obtain ⟨p, cp, rfl⟩ := hv.form
  repeat (refine wkB ?_; try intro _)
  by_cases h0 : 0 < xs.length
  · have hne : xs ≠ [] := fun h => by rw [h] at h0; simp at h0
    obtain ⟨bw, ow, cw, hvw, hcw, hrow⟩ := hv.blk (k := 35) hne []
    injection hvw with e1 e2 e3
    subst e1
    subst e3
    have hrow' : ∀ L, RowC w L bw ow UL rU xs := fun L => ⟨fun w' hw' => hrow.out w' (hw'.sub (List.nil_sublist _))⟩
    (refine j_late [0, 1, 2, 3, 4, 5, 6, 7, 8, 9, 10, 11, 12, 13, 14, 15, 16, 17, 18, 19, 20, 21, 22] [23] (_) (h := ?_); refine wkI ?_)
    (repeat (refine wkH ?_))
    simp only [decide_eq_true (show (0 : Int) < (xs.length : Int) by omega)]
    (repeat (refine wkH ?_))
    rcases h1 : decide ((lstU xs).In.To = t) with _ | _
    · repeat (refine wkT ?_; try intro _)
      repeat (refine wkB ?_; try intro _)
      unfold hld
      rw [h1, decide_eq_true h0]
      exact jx_ret_tmp rfl rfl (fun w hw => ret_ok hw)
    · repeat (refine wkT ?_; try intro _)
      repeat (refine wkB ?_; try intro _)
      unfold hld
      rw [h1, decide_eq_true h0]
      exact jx_ret_tmp rfl rfl (fun w hw => ret_ok hw)
  · (refine j_late [0, 1, 2, 3, 4, 5, 6, 7, 8, 9, 10, 11, 12, 13, 14, 15, 16, 17, 18, 19, 20, 21, 22] [23] (_) (h := ?_); refine wkI ?_)
    (repeat (refine wkH ?_))
    simp only [decide_eq_false (show ¬ (0 : Int) < (xs.length : Int) by omega)]
    (repeat (refine wkH ?_))
    repeat (refine wkT ?_; try intro _)
    repeat (refine wkB ?_; try intro _)
    unfold hld
    rw [decide_eq_false h0]
    exact jx_ret_tmp rfl rfl (fun w hw => ret_ok hw)
instance sm_held (w0 : World) (L : List Blk) (v : Value) (xs : List UL) (t : R_api_Real) [h : LstC w0 L v UL rU xs] : SpecM Tryz.prog w0 L 137 [v, vR t] (.bool (hld xs t)) (xs.length ≤ 1048576) := ⟨fun hl w hw => held_spec v xs t w (h.out w hw) hl⟩
abbrev vLines : Value := .iface 152 (.agg #[])
instance meth_Same : MethC Tryz.prog 152 (.agg #[]) "Same" 179 (.agg #[]) := ⟨fun w => by kernel_rfl⟩
instance meth_Equal : MethC Tryz.prog 152 (.agg #[]) "Equal" 258 (.agg #[]) := ⟨fun w => by kernel_rfl⟩
instance meth_Reduce : MethC Tryz.prog 152 (.agg #[]) "Reduce" 259 (.agg #[]) := ⟨fun w => by kernel_rfl⟩
instance nah_Same : NahC Tryz.prog 152 (.agg #[]) "Same" := ⟨fun w => by kernel_rfl⟩
instance nah_Equal : NahC Tryz.prog 152 (.agg #[]) "Equal" := ⟨fun w => by kernel_rfl⟩
instance nif_Lines : NifC Tryz.prog 152 := ⟨fun v w => by kernel_rfl⟩
instance ptr_Unit : PtrC Tryz.prog 193 := ⟨by kernel_rfl⟩
end Go.Vt
/- The normal form of units of lines, walked. Conditions: those that each statement names. -/
set_option linter.unusedSimpArgs false
set_option linter.unusedVariables false
set_option maxHeartbeats 2000000
set_option maxRecDepth 100000
namespace Go.Vt
open Go.RowKit Go.Proofs
abbrev KN : Nat := 1073741824
/-- The coefficients are short. -/
structure LnOk (K : Nat) (f : R_api_Line) : Prop where
  x0 : M f.X0 ≤ K
  x1 : M f.X1 ≤ K
  y0 : M f.Y0 ≤ K
  y1 : M f.Y1 ≤ K
structure UOk (u : UL) : Prop where
  i : IvOk KN u.In
  f : LnOk BQ u.F
structure UIn (u : UL) : Prop where
  i : IvOk KN u.In
  f : LnOk KN u.F
/-- Does the last unit end here, and is it longer than one instant? -/
def bef (xs : List UL) (t : R_api_Real) : Bool := decide (0 < xs.length) && (decide ((lstU xs).In.To = t) && !decide ((lstU xs).In.From = (lstU xs).In.To))
def smL (f g : R_api_Line) (t : Rat) : Bool := qsame (lnX f) (lnX g) t && qsame (lnY f) (lnY g) t
/-- The last unit is turned. -/
def turn (xs : List UL) (u : UL) : List UL := xs.set (xs.length - 1) u
def isI (u : UL) : Bool := decide (u.In.From = u.In.To)
/-- May the last unit be longer? -/
def cA (xs : List UL) (x : UL) : Bool := bef xs x.In.From && (!(lstU xs).In.OpenTo && decide ((lstU xs).F = x.F))
/-- Does the instant before belong to this unit? -/
def cB (l : List UL) (i : Nat) (xs : List UL) (x : UL) : Bool := decide (0 < i) && (isI (gi l ((i : Int) - 1)) && (decide ((gi l ((i : Int) - 1)).In.From = x.In.From) && !hld xs x.In.From))
def cC (xs : List UL) (x : UL) : Bool := bef xs x.In.From && smL (lstU xs).F x.F x.In.From.P
def cD (l : List UL) (i : Nat) (x : UL) : Bool := decide (i + 1 < l.length) && (decide ((gi l ((i : Int) + 1)).In.From = x.In.From) && smL (gi l ((i : Int) + 1)).F x.F x.In.From.P)
/-- The last unit, longer. -/
def ext (u x : UL) : UL := ⟨⟨u.In.From, x.In.To, u.In.OpenFrom, true⟩, u.F⟩
def clo (u : UL) : UL := ⟨⟨u.In.From, u.In.To, u.In.OpenFrom, false⟩, u.F⟩
def opF (x : UL) : UL := ⟨⟨x.In.From, x.In.To, false, x.In.OpenTo⟩, x.F⟩
def redU (x : UL) : UL := ⟨x.In, lred x.F x.In.From.P⟩
/-- One part more. -/
def nstp (l : List UL) (i : Nat) (xs : List UL) (x : UL) : List UL :=
  if isI x = false then
    if cA xs x = true then turn xs (ext (lstU xs) x) else xs ++ [if cB l i xs x = true then opF x else x]
  else if cC xs x = true then turn xs (clo (lstU xs))
  else if cD l i x = true then xs else xs ++ [redU x]
def nrm (l : List UL) : Nat → List UL
  | 0 => []
  | i + 1 => nstp l i (nrm l i) (gi l (i : Int))
/-- Are the first units apart? -/
def aprN (l : List UL) : Nat → Bool
  | 0 => true
  | m + 1 => aprN l m && !(decide (0 < m) && !aprt (gi l ((m : Int) - 1)).In (gi l (m : Int)).In)
def allU (us : List UL) : List UL := atm (sor us) (sor us).length
def nrmR (us : List UL) : List UL := if aprN (sor us) (sor us).length = true then nrm (allU us) (allU us).length else []
def nrmE (us : List UL) : Int := if aprN (sor us) (sor us).length = true then 0 else 11
theorem IvOk.at {K : Nat} {I : R_api_Interval} (h : IvOk K I) (o c : Bool) : IvOk K ⟨I.From, I.To, o, c⟩ := ⟨h.r1, h.r2, h.n1, h.n2, h.m1, h.m2⟩
theorem lred_ok {f : R_api_Line} {t : Rat} (h : LnOk KN f) (ht : M t ≤ KN) : LnOk BQ (lred f t) := by
  have := MB.mk h.x0
  have := MB.mk h.x1
  have := MB.mk h.y0
  have := MB.mk h.y1
  have := MB.mk ht
  unfold lred
  exact ⟨MB.lt rfl, MB.lt rfl, MB.lt rfl, MB.lt rfl⟩
theorem LnOk.mono {K K' : Nat} {f : R_api_Line} (h : LnOk K f) (hk : K ≤ K') : LnOk K' f := ⟨Nat.le_trans h.x0 hk, Nat.le_trans h.x1 hk, Nat.le_trans h.y0 hk, Nat.le_trans h.y1 hk⟩
theorem UIn.ok {u : UL} (h : UIn u) : UOk u := ⟨h.i, h.f.mono (by decide)⟩
theorem gi_mem {α : Type} [Inhabited α] {xs : List α} {i : Int} (h : i.toNat < xs.length) : gi xs i ∈ xs := by
  rw [gi_eq h]
  exact List.getElem_mem _
theorem turn_ok {xs : List UL} {u : UL} (h : ∀ v ∈ xs, UOk v) (hu : UOk u) : ∀ v ∈ turn xs u, UOk v := fun v hv => by
  rcases List.mem_or_eq_of_mem_set hv with h1 | h1
  · exact h v h1
  · rw [h1]; exact hu
theorem bef_len {xs : List UL} {t : R_api_Real} (h : bef xs t = true) : 0 < xs.length := by
  unfold bef at h
  simp only [Bool.and_eq_true, decide_eq_true_eq] at h
  exact h.1
theorem lst_ok {xs : List UL} (h : ∀ v ∈ xs, UOk v) (h0 : 0 < xs.length) : UOk (lstU xs) := h _ (gi_mem (by omega))
theorem nstp_ok {l : List UL} {i : Nat} {xs : List UL} {x : UL} (h : ∀ v ∈ xs, UOk v) (hx : UIn x) : ∀ v ∈ nstp l i xs x, UOk v := by
  unfold nstp
  split
  · split
    · rename_i hc
      have h0 : 0 < xs.length := by
        unfold cA at hc
        simp only [Bool.and_eq_true] at hc
        exact bef_len hc.1
      have hl := lst_ok h h0
      exact turn_ok h ⟨⟨hl.i.r1, hx.i.r2, hl.i.n1, hx.i.n2, hl.i.m1, hx.i.m2⟩, hl.f⟩
    · intro v hv
      rcases List.mem_append.1 hv with h1 | h1
      · exact h v h1
      · rw [List.mem_singleton] at h1
        subst h1
        split
        · exact ⟨hx.i.at _ _, hx.ok.f⟩
        · exact hx.ok
  · split
    · rename_i hc
      have h0 : 0 < xs.length := by
        unfold cC at hc
        simp only [Bool.and_eq_true] at hc
        exact bef_len hc.1
      have hl := lst_ok h h0
      exact turn_ok h ⟨hl.i.at _ _, hl.f⟩
    · split
      · exact h
      · intro v hv
        rcases List.mem_append.1 hv with h1 | h1
        · exact h v h1
        · rw [List.mem_singleton] at h1
          subst h1
          exact ⟨hx.i, lred_ok hx.f hx.i.m1⟩
theorem nrm_ok {l : List UL} (h : ∀ u ∈ l, UIn u) : ∀ m, m ≤ l.length → ∀ v ∈ nrm l m, UOk v
  | 0, _ => fun v hv => by cases hv
  | m + 1, hm => nstp_ok (nrm_ok h m (by omega)) (h _ (gi_mem (by omega)))
theorem nstp_len (l : List UL) (i : Nat) (xs : List UL) (x : UL) : (nstp l i xs x).length ≤ xs.length + 1 := by
  unfold nstp turn
  split
  · split <;> simp
  · split
    · simp
    · split <;> simp
theorem nrm_len (l : List UL) : ∀ m, (nrm l m).length ≤ m
  | 0 => Nat.le_refl _
  | m + 1 => by
    have := nrm_len l m
    have := nstp_len l m (nrm l m) (gi l (m : Int))
    rw [nrm]
    omega
theorem sor_len (us : List UL) : (sor us).length = us.length := srt_len us _
theorem sor_mem {us : List UL} {u : UL} (h : u ∈ sor us) : u ∈ us := by
  rcases Nat.eq_zero_or_pos us.length with h0 | h0
  · have h1 := sor_len us
    rw [h0] at h1
    rw [List.length_eq_zero_iff.1 h1] at h
    cases h
  · exact srt_mem us _ (by omega) u h
theorem atU_ok {u v : UL} (h : UIn u) (hv : v ∈ atU u) : UIn v := by
  unfold atU at hv
  have e1 : IvOk KN ⟨u.In.From, u.In.From, false, false⟩ := ⟨h.i.r1, h.i.r1, h.i.n1, h.i.n1, h.i.m1, h.i.m1⟩
  have e2 : IvOk KN ⟨u.In.To, u.In.To, false, false⟩ := ⟨h.i.r2, h.i.r2, h.i.n2, h.i.n2, h.i.m2, h.i.m2⟩
  rcases List.mem_append.1 hv with h1 | h1
  · split at h1
    · cases h1
    · rw [List.mem_singleton] at h1
      subst h1
      exact ⟨e1, h.f⟩
  · split at h1
    · cases h1
    · rcases List.mem_cons.1 h1 with h2 | h2
      · subst h2
        exact ⟨h.i.at _ _, h.f⟩
      · split at h2
        · cases h2
        · rw [List.mem_singleton] at h2
          subst h2
          exact ⟨e2, h.f⟩
theorem atm_ok {us : List UL} (h : ∀ u ∈ us, UIn u) : ∀ m, m ≤ us.length → ∀ v ∈ atm us m, UIn v
  | 0, _, v, hv => by cases hv
  | m + 1, hm, v, hv => by
    rw [atm] at hv
    rcases List.mem_append.1 hv with h1 | h1
    · exact atm_ok h m (by omega) v h1
    · exact atU_ok (h _ (gi_mem (by omega))) h1
theorem aprN_mono {l : List UL} {m : Nat} (h : aprN l m = false) : ∀ n, m ≤ n → aprN l n = false := fun n hn => by
  induction n with
  | zero => rw [show m = 0 by omega] at h; exact h
  | succ n ih =>
    rcases (by omega : m = n + 1 ∨ m ≤ n) with h1 | h1
    · rw [← h1]; exact h
    · rw [aprN, ih h1]; rfl
theorem SlS.turn {α : Type} {enc : α → Array Value} {k : Nat} {xs ys : List α} (T : TypeId) (h : xs = ys) (s : SlS enc k xs) : ∃ s' : SlS enc k ys, vSl s' = vSl s ∧ mS T s' = mS T s := by
  subst h
  exact ⟨s, rfl, rfl⟩
theorem SlS.put {α : Type} {enc : α → Array Value} {k n b c : Nat} {ys : List α} {sp : List Value} (T : TypeId) (hn : ys.length = n) (h : n ≤ c ∧ sp.length = (c - n) * k) (h0 : 0 < n) : ∃ s' : SlS enc k ys, vSl s' = .slice (some ⟨b, 0, none⟩) n c ∧ mS T s' = [⟨b, row enc ys sp, T⟩] := by
  subst hn
  exact ⟨SlS.at_ b c sp h (fun h1 => by rw [h1] at h0; simp at h0), rfl, rfl⟩
theorem turn_len (xs : List UL) (u : UL) : (turn xs u).length = xs.length := by simp [turn]
set_option maxHeartbeats 2000000 in
theorem pnormal_spec (v : Value) (us : List UL) (w : World) (hv : ArgS w v rU us) (hn : us = [] → v = .slice none 0 0) (hl : us.length ≤ 19) (hok : ∀ u ∈ us, UIn u) :
    Calls Tryz.prog 96 [vLines, v].toArray w (RetM (SlS rU 36 (nrmR us)) (fun s => .tuple #[vSl s, .int .i64 (nrmE us)]) (fun s => mS 163 s) w) := by
  have hN : ∀ L, LstN w L v UL rU us := fun L => ⟨fun w' hw' => hv.to hw'.ext, hn⟩
  have hsl := sor_len us
  have hso : ∀ u ∈ sor us, UIn u := fun u hu => hok u (sor_mem hu)
  refine fn_intro Tryz.func96 rfl Tryz.ntmps96 rfl ?_
  repeat (first | (refine wkB ?_; try intro _) | (refine sC rfl rfl ?_ ?_; focus (exact ⟨hl, fun u hu => (hok u hu).i.mono (by decide)⟩)) | (refine sN rfl rfl ?_ ?_; (focus (exact ⟨hl, fun u hu => (hok u hu).i.mono (by decide)⟩)); intro _; (try simp only [List.cons_append, List.nil_append, List.append_nil])))
  rename_i s1
  refine j_loop (S := Nat) (fun m => m ≤ (sor us).length ∧ aprN (sor us) m = true) (fun m => [(0, vLines), (1, vSl s1), (17, .int .i64 (sor us).length), (18, .int .i64 (m : Nat))]) (fun _ => mS 163 s1) (fun m => (sor us).length - m) 0
    ⟨Nat.zero_le _, rfl⟩ sbB suB (fun m hm => ?_)
  obtain ⟨hm, ham⟩ := hm
  repeat (refine wkB ?_; try intro _)
  refine j_cond rfl (fun h => ?_) (fun h => ?_)
  · have hlt : m < (sor us).length := by have := of_decide_eq_true h; omega
    rcases s1.cases 163 with ⟨h0, -, -⟩ | ⟨b1, c1, sp1, h1, hv1, hm1, hne⟩
    · rw [h0] at hlt; simp at hlt
    rw [hv1, hm1]
    have hap : aprN (sor us) (m + 1) = !(decide (0 < m) && !aprt (gi (sor us) ((m : Int) - 1)).In (gi (sor us) (m : Int)).In) := by rw [aprN, ham, Bool.true_and]
    have o1 := hso _ (gi_mem (i := (m : Int)) (by omega))
    repeat (refine wkB ?_; try intro _)
    rcases m with _ | m
    · (refine jD 17 17 (h := ?_); (repeat (refine wkH ?_)); refine jh_nil ?_; (repeat (refine wn_new ?_; intro _)); refine jn_nil ?_)
      repeat (first | (refine wkB ?_; try intro _) | (refine sC rfl rfl ?_ ?_; focus (exact ⟨by omega, by omega⟩)) | (refine sN rfl rfl ?_ ?_; (focus (exact ⟨by omega, by omega⟩)); intro _; (try simp only [List.cons_append, List.nil_append, List.append_nil])))
      exact jx_loop 1 ⟨hlt, by rw [hap]; rfl⟩ sbB suB (by omega)
    · have e1 : ((m + 1 : Nat) : Int) - 1 = (m : Int) := by omega
      have o2 := hso _ (gi_mem (i := (m : Int)) (by omega))
      rw [e1, decide_eq_true (show 0 < m + 1 by omega), Bool.true_and, Bool.not_not] at hap
      refine jD 17 17 (h := ?_)
      (repeat (refine wkH ?_))
      simp only [decide_eq_true (show (0 : Int) < ((m + 1 : Nat) : Int) by omega), e1]
      (repeat (refine wkH ?_))
      simp only [e1]
      (repeat (first | refine wkH ?_ | (refine tC rfl rfl ?_ ?_; focus (exact ⟨⟨o2.i.r2, o1.i.r1⟩, Nat.le_trans o2.i.m2 (by decide), Nat.le_trans o1.i.m1 (by decide)⟩))))
      refine jh_nil ?_
      refine jn_nil ?_
      repeat (refine wkB ?_; try intro _)
      rcases ha : aprt (gi (sor us) (m : Int)).In (gi (sor us) ((m + 1 : Nat) : Int)).In with _ | _
      · rw [ha] at hap
        repeat (refine wkB ?_; try intro _)
        have hf := aprN_mono hap (sor us).length hlt
        obtain ⟨s0, hs1, hs2⟩ := SlS.turn (enc := rU) (k := 36) 163 (show ([] : List UL) = nrmR us by unfold nrmR; rw [hf, if_neg (by decide)]) SlS.no
        have he : nrmE us = 11 := by unfold nrmE; rw [hf, if_neg (by decide)]
        exact jx_ret_two rfl (resv_tmp rfl) (resv_tmp rfl) (fun w hw => ⟨s0, by dsimp only; rw [hs1, he]; rfl, by dsimp only; rw [hs2]; exact hw.sub (List.nil_sublist _)⟩)
      · rw [ha] at hap
        repeat (first | (refine wkB ?_; try intro _) | (refine sC rfl rfl ?_ ?_; focus (exact ⟨by omega, by omega⟩)) | (refine sN rfl rfl ?_ ?_; (focus (exact ⟨by omega, by omega⟩)); intro _; (try simp only [List.cons_append, List.nil_append, List.append_nil])))
        exact jx_loop (m + 2) ⟨hlt, hap⟩ sbB suB (by omega)
  · have hge : m = (sor us).length := by have := of_decide_eq_false h; omega
    subst hge
    repeat (first | (refine wkB ?_; try intro _) | (refine sC rfl rfl ?_ ?_; focus (omega)) | (refine sN rfl rfl ?_ ?_; (focus (omega)); intro _; (try simp only [List.cons_append, List.nil_append, List.append_nil])))
    rename_i s8
    have hao : ∀ u ∈ atm (sor us) (sor us).length, UIn u := atm_ok hso _ (Nat.le_refl _)
    have hall := atm_len (sor us) (sor us).length
    have hR : nrmR us = nrm (atm (sor us) (sor us).length) (atm (sor us) (sor us).length).length := by unfold nrmR allU; rw [ham, if_pos rfl]
    have hE : nrmE us = 0 := by unfold nrmE; rw [ham, if_pos rfl]
    generalize atm (sor us) (sor us).length = al at *
    refine j_loop (S := (xs : List UL) × Nat × SlS rU 36 xs) (fun s => s.2.1 ≤ al.length ∧ s.1 = nrm al s.2.1) (fun s => [(0, vLines), (7, vSl s.2.2), (8, vSl s8), (41, vSl s8), (42, .int .i64 al.length), (43, .int .i64 (s.2.1 : Nat))]) (fun s => mS 163 s.2.2 ++ mS 163 s8) (fun s => al.length - s.2.1) ⟨[], 0, SlS.no⟩
      ⟨Nat.zero_le _, rfl⟩ sbB suB (fun s hs => ?_)
    obtain ⟨xs, i, s⟩ := s
    obtain ⟨hi, hxs⟩ := hs
    simp only at hi hxs ⊢
    repeat (refine wkB ?_; try intro _)
    refine j_cond rfl (fun h => ?_) (fun h => ?_)
    · have hlt : i < al.length := by have := of_decide_eq_true h; omega
      rcases s8.cases 163 with ⟨h0, -, -⟩ | ⟨b8, c8, sp8, h1, hv8, hm8, hne⟩
      · rw [h0] at hlt; simp at hlt
      rw [hv8, hm8]
      have hx0 := hao _ (gi_mem (i := (i : Int)) (by omega))
      have hnx : nrm al (i + 1) = nstp al i xs (gi al (i : Int)) := by rw [nrm, hxs]
      have hxo := nrm_ok hao i (by omega)
      have hxl := nrm_len al i
      rw [← hxs] at hxo hxl
      repeat (refine wkB ?_; try intro _)
      rename_i b10 b11
      obtain ⟨x, hx⟩ : ∃ x, x = gi al (i : Int) := ⟨_, rfl⟩
      simp only [← hx] at hx0 hnx ⊢
      refine j_permL (mS 163 s ++ [⟨b11, e_api_Real (q_api_Real x.In.From), 30⟩, ⟨b10, rU x, 163⟩, ⟨b8, row rU al sp8, 163⟩]) ((List.perm_middle.trans (List.perm_middle.cons _)).symm) ?_
      refine j_cut (S := Bool) (fun v => v = bef xs x.In.From) (fun v => [(75, .bool v), (0, vLines), (7, vSl s), (8, .slice (some ⟨b8, 0, none⟩) al.length c8), (9, .int .i64 (i : Nat)), (10, .pointer (some ⟨b10, 0, none⟩)), (11, .pointer (some ⟨b11, 0, none⟩)), (12, .pointer none), (13, .int .i64 xs.length), (41, .slice (some ⟨b8, 0, none⟩) al.length c8), (42, .int .i64 al.length), (43, .int .i64 (i : Nat))]) (fun _ => mS 163 s ++ [⟨b11, e_api_Real (q_api_Real x.In.From), 30⟩, ⟨b10, rU x, 163⟩, ⟨b8, row rU al sp8, 163⟩]) ?_ (fun v hv3 => ?_)
      · rcases s.cases 163 with ⟨h0, -, -⟩ | ⟨bo, co, so, ho, hvo, hmo, hneo⟩
        · refine jD 23 23 (h := ?_)
          (repeat (refine wkH ?_))
          simp only [decide_eq_false (show ¬ (0 : Int) < (xs.length : Int) by rw [h0]; simp)]
          (repeat (refine wkH ?_))
          refine jh_nil ?_
          refine jn_nil ?_
          repeat (refine wkB ?_; try intro _)
          exact jx_mid false (by rw [h0]; rfl) sbB suB
        · have hpo : 0 < xs.length := by rcases xs with _ | ⟨a, xs⟩; exact absurd rfl hneo; simp
          rw [hvo, hmo]
          simp only [List.cons_append, List.nil_append]
          refine jD 23 23 (h := ?_)
          (repeat (refine wkH ?_))
          simp only [decide_eq_true (show (0 : Int) < (xs.length : Int) by omega)]
          (repeat (refine wkH ?_))
          rcases hto : decide ((lstU xs).In.To = x.In.From) with _ | _
          · (repeat (refine wkH ?_))
            refine jh_nil ?_
            refine jn_nil ?_
            repeat (refine wkB ?_; try intro _)
            exact jx_mid false (by unfold bef; rw [hto, Bool.false_and, Bool.and_false]) sbB suB
          · (repeat (refine wkH ?_))
            refine jh_nil ?_
            refine jn_nil ?_
            repeat (refine wkB ?_; try intro _)
            exact jx_mid (!decide ((lstU xs).In.From = (lstU xs).In.To)) (by unfold bef; rw [hto, decide_eq_true hpo, Bool.true_and, Bool.true_and]) sbB suB
      refine j_cut (S := Option Addr) (fun p => (bef xs x.In.From = false ∧ p = none) ∨ (bef xs x.In.From = true ∧ ∃ bo co so, (xs.length ≤ co ∧ so.length = (co - xs.length) * 36) ∧ vSl s = .slice (some ⟨bo, 0, none⟩) xs.length co ∧ mS 163 s = [⟨bo, row rU xs so, 163⟩] ∧ p = some ⟨bo, 0 + ((xs.length : Int) - 1).toNat * 36, none⟩)) (fun p => [(0, vLines), (7, vSl s), (8, .slice (some ⟨b8, 0, none⟩) al.length c8), (9, .int .i64 (i : Nat)), (10, .pointer (some ⟨b10, 0, none⟩)), (11, .pointer (some ⟨b11, 0, none⟩)), (12, .pointer p), (13, .int .i64 xs.length), (41, .slice (some ⟨b8, 0, none⟩) al.length c8), (42, .int .i64 al.length), (43, .int .i64 (i : Nat))]) (fun _ => mS 163 s ++ [⟨b11, e_api_Real (q_api_Real x.In.From), 30⟩, ⟨b10, rU x, 163⟩, ⟨b8, row rU al sp8, 163⟩]) ?_ (fun p hp => ?_)
      · subst hv3
        rcases hb : bef xs x.In.From with _ | _
        · repeat (refine wkB ?_; try intro _)
          exact jx_mid none (.inl ⟨rfl, rfl⟩) sbB suB
        · have hpo := bef_len hb
          rcases s.cases 163 with ⟨h0, -, -⟩ | ⟨bo, co, so, ho, hvo, hmo, hneo⟩
          · rw [h0] at hpo; simp at hpo
          rw [hvo, hmo]
          simp only [List.cons_append, List.nil_append]
          repeat (refine wkB ?_; try intro _)
          exact jx_mid (some ⟨bo, 0 + ((xs.length : Int) - 1).toNat * 36, none⟩) (.inr ⟨trivial, bo, co, so, ho, rfl, rfl, rfl⟩) sbB suB
      repeat (refine wkB ?_; try intro _)
      rcases hI : isI x with _ | _
      · have hI' : decide (x.In.From = x.In.To) = false := hI
        simp only [hI']
        repeat (refine wkB ?_; try intro _)
        refine j_cut (S := Bool) (fun v => v = cA xs x) (fun v => [(117, .bool v), (0, vLines), (7, vSl s), (8, .slice (some ⟨b8, 0, none⟩) al.length c8), (9, .int .i64 (i : Nat)), (10, .pointer (some ⟨b10, 0, none⟩)), (11, .pointer (some ⟨b11, 0, none⟩)), (12, .pointer p), (13, .int .i64 xs.length), (41, .slice (some ⟨b8, 0, none⟩) al.length c8), (42, .int .i64 al.length), (43, .int .i64 (i : Nat))]) (fun _ => mS 163 s ++ [⟨b11, e_api_Real (q_api_Real x.In.From), 30⟩, ⟨b10, rU x, 163⟩, ⟨b8, row rU al sp8, 163⟩]) ?_ (fun v hv4 => ?_)
        · rcases hp with ⟨hb, rfl⟩ | ⟨hb, bo, co, so, ho, hvo, hmo, rfl⟩
          · (refine jD 23 23 (h := ?_); (repeat (refine wkH ?_)); refine jh_nil ?_; (repeat (refine wn_new ?_; intro _)); refine jn_nil ?_)
            repeat (refine wkB ?_; try intro _)
            exact jx_mid false (by unfold cA; rw [hb, Bool.false_and]) sbB suB
          · have hpo := bef_len hb
            rw [hvo, hmo]
            simp only [List.cons_append, List.nil_append]
            refine jD 23 23 (h := ?_)
            (repeat (refine wkH ?_))
            rcases hot : (lstU xs).In.OpenTo with _ | _
            · (repeat (refine wkH ?_))
              refine jh_nil ?_
              refine jn_nil ?_
              repeat (refine wkB ?_; try intro _)
              exact jx_mid (decide ((lstU xs).F = x.F)) (by unfold cA; rw [hb, hot, Bool.true_and, Bool.not_false, Bool.true_and]) sbB suB
            · (repeat (refine wkH ?_))
              refine jh_nil ?_
              refine jn_nil ?_
              repeat (refine wkB ?_; try intro _)
              exact jx_mid false (by unfold cA; rw [hb, hot, Bool.true_and, Bool.not_true, Bool.false_and]) sbB suB
        subst hv4
        refine j_cut (S := Unit) (fun _ => cA xs x = false) (fun _ => [(0, vLines), (7, vSl s), (8, .slice (some ⟨b8, 0, none⟩) al.length c8), (9, .int .i64 (i : Nat)), (10, .pointer (some ⟨b10, 0, none⟩)), (11, .pointer (some ⟨b11, 0, none⟩)), (13, .int .i64 xs.length), (41, .slice (some ⟨b8, 0, none⟩) al.length c8), (42, .int .i64 al.length), (43, .int .i64 (i : Nat))]) (fun _ => mS 163 s ++ [⟨b11, e_api_Real (q_api_Real x.In.From), 30⟩, ⟨b10, rU x, 163⟩, ⟨b8, row rU al sp8, 163⟩]) ?_ (fun _ hcA => ?_)
        · rcases hcA : cA xs x with _ | _
          · repeat (refine wkB ?_; try intro _)
            exact jx_mid () rfl sbB suB
          · have hb : bef xs x.In.From = true := by
              unfold cA at hcA
              simp only [Bool.and_eq_true] at hcA
              exact hcA.1
            have hpo := bef_len hb
            rcases hp with ⟨hb', -⟩ | ⟨-, bo, co, so, ho, hvo, hmo, rfl⟩
            · rw [hb] at hb'; cases hb'
            rw [hvo, hmo]
            simp only [List.cons_append, List.nil_append]
            have ek : ((xs.length : Int) - 1).toNat = xs.length - 1 := by omega
            repeat (refine wkB ?_; try intro _)
            refine sRF (i := (xs.length : Int) - 1) (f := 9) (⟨⟨(lstU xs).In.From, x.In.To, (lstU xs).In.OpenFrom, (lstU xs).In.OpenTo⟩, (lstU xs).F⟩ : UL) rfl rfl ?_ ?_
            · omega
            obtain ⟨zs, hzs⟩ : ∃ zs, zs = xs.set ((xs.length : Int) - 1).toNat (⟨⟨(lstU xs).In.From, x.In.To, (lstU xs).In.OpenFrom, (lstU xs).In.OpenTo⟩, (lstU xs).F⟩ : UL) := ⟨_, rfl⟩
            simp only [← hzs]
            have hzl : zs.length = xs.length := by rw [hzs]; simp
            have hg : gi zs ((xs.length : Int) - 1) = ⟨⟨(lstU xs).In.From, x.In.To, (lstU xs).In.OpenFrom, (lstU xs).In.OpenTo⟩, (lstU xs).F⟩ := by
              rw [gi_eq (by omega)]
              simp only [hzs, List.getElem_set_self]
            repeat (refine wkB ?_; try intro _)
            refine sRF (i := (xs.length : Int) - 1) (f := 19) (⟨⟨(gi zs ((xs.length : Int) - 1)).In.From, (gi zs ((xs.length : Int) - 1)).In.To, (gi zs ((xs.length : Int) - 1)).In.OpenFrom, true⟩, (gi zs ((xs.length : Int) - 1)).F⟩ : UL) rfl rfl ?_ ?_
            · omega
            have hfin : zs.set ((xs.length : Int) - 1).toNat (⟨⟨(gi zs ((xs.length : Int) - 1)).In.From, (gi zs ((xs.length : Int) - 1)).In.To, (gi zs ((xs.length : Int) - 1)).In.OpenFrom, true⟩, (gi zs ((xs.length : Int) - 1)).F⟩ : UL) = turn xs (ext (lstU xs) x) := by
              rw [hg, hzs, List.set_set, ek]
              rfl
            rw [hfin]
            obtain ⟨s', hv', hm'⟩ := SlS.put (enc := rU) (k := 36) (b := bo) 163 (turn_len xs (ext (lstU xs) x)) ho hpo
            rw [← hv']
            repeat (first | (refine wkB ?_; try intro _) | (refine sC rfl rfl ?_ ?_; focus (exact ⟨by omega, by omega⟩)) | (refine sN rfl rfl ?_ ?_; (focus (exact ⟨by omega, by omega⟩)); intro _; (try simp only [List.cons_append, List.nil_append, List.append_nil])))
            exact jx_loop ⟨turn xs (ext (lstU xs) x), i + 1, s'⟩ ⟨hlt, by rw [hnx, nstp, if_pos hI, if_pos hcA]⟩ sbB (by dsimp only; rw [hm']; exact suB) (by show al.length - (i + 1) < al.length - i; omega)
        refine j_seq ?_
        refine j_cut (S := UL) (fun y => y = if cB al i xs x = true then opF x else x) (fun _ => [(0, vLines), (7, vSl s), (8, .slice (some ⟨b8, 0, none⟩) al.length c8), (9, .int .i64 (i : Nat)), (10, .pointer (some ⟨b10, 0, none⟩)), (11, .pointer (some ⟨b11, 0, none⟩)), (13, .int .i64 xs.length), (41, .slice (some ⟨b8, 0, none⟩) al.length c8), (42, .int .i64 al.length), (43, .int .i64 (i : Nat))]) (fun y => mS 163 s ++ [⟨b11, e_api_Real (q_api_Real x.In.From), 30⟩, ⟨b10, rU y, 163⟩, ⟨b8, row rU al sp8, 163⟩]) ?_ (fun y hy => ?_)
        · refine j_seq ?_
          refine j_cut (S := Bool) (fun v => v = cB al i xs x) (fun v => [(156, .bool v), (0, vLines), (7, vSl s), (8, .slice (some ⟨b8, 0, none⟩) al.length c8), (9, .int .i64 (i : Nat)), (10, .pointer (some ⟨b10, 0, none⟩)), (11, .pointer (some ⟨b11, 0, none⟩)), (13, .int .i64 xs.length), (41, .slice (some ⟨b8, 0, none⟩) al.length c8), (42, .int .i64 al.length), (43, .int .i64 (i : Nat))]) (fun _ => mS 163 s ++ [⟨b11, e_api_Real (q_api_Real x.In.From), 30⟩, ⟨b10, rU x, 163⟩, ⟨b8, row rU al sp8, 163⟩]) ?_ (fun v hv5 => ?_)
          · by_cases hi0 : 0 < i
            · have ep : ((i : Int) - 1).toNat < al.length := by omega
              refine jD 28 28 (h := ?_)
              (repeat (refine wkH ?_))
              simp only [decide_eq_true (show (0 : Int) < (i : Int) by omega)]
              (repeat (refine wkH ?_))
              rcases hi1 : isI (gi al ((i : Int) - 1)) with _ | _
              · have hi1' : decide ((gi al ((i : Int) - 1)).In.From = (gi al ((i : Int) - 1)).In.To) = false := hi1
                simp only [hi1']
                (repeat (refine wkH ?_))
                refine jh_nil ?_
                refine jn_nil ?_
                repeat (refine wkB ?_; try intro _)
                exact jx_mid false (by unfold cB; rw [hi1, Bool.false_and, Bool.and_false]) sbB suB
              · have hi1' : decide ((gi al ((i : Int) - 1)).In.From = (gi al ((i : Int) - 1)).In.To) = true := hi1
                simp only [hi1']
                (repeat (refine wkH ?_))
                rcases hft : decide ((gi al ((i : Int) - 1)).In.From = x.In.From) with _ | _
                · (repeat (refine wkH ?_))
                  refine jh_nil ?_
                  refine jn_nil ?_
                  repeat (refine wkB ?_; try intro _)
                  exact jx_mid false (by unfold cB; rw [hft, Bool.false_and, Bool.and_false, Bool.and_false]) sbB suB
                · (repeat (first | refine wkH ?_ | (refine tC rfl rfl ?_ ?_; focus (omega))))
                  refine jh_nil ?_
                  refine jn_nil ?_
                  repeat (refine wkB ?_; try intro _)
                  exact jx_mid (!hld xs x.In.From) (by unfold cB; rw [hi1, hft, decide_eq_true hi0, Bool.true_and, Bool.true_and, Bool.true_and]) sbB suB
            · refine jD 28 28 (h := ?_)
              (repeat (refine wkH ?_))
              simp only [decide_eq_false (show ¬ (0 : Int) < (i : Int) by omega)]
              (repeat (refine wkH ?_))
              refine jh_nil ?_
              refine jn_nil ?_
              repeat (refine wkB ?_; try intro _)
              exact jx_mid false (by unfold cB; rw [decide_eq_false hi0, Bool.false_and]) sbB suB
          · subst hv5
            rcases hcB : cB al i xs x with _ | _
            · repeat (refine wkB ?_; try intro _)
              exact jx_mid x (by rw [if_neg (by decide)]) sbB suB
            · repeat (refine wkB ?_; try intro _)
              exact jx_mid (opF x) (by rw [if_pos rfl]) sbB suB
        repeat (refine wkB ?_; try intro _)
        refine sU rfl rfl ?_ ?_ ?_ ?_
        · rfl
        · rfl
        · exact ⟨by decide, by omega, by omega⟩
        intro s'
        repeat (first | (refine wkB ?_; try intro _) | (refine sC rfl rfl ?_ ?_; focus (exact ⟨by omega, by omega⟩)) | (refine sN rfl rfl ?_ ?_; (focus (exact ⟨by omega, by omega⟩)); intro _; (try simp only [List.cons_append, List.nil_append, List.append_nil])))
        exact jx_loop ⟨xs ++ [y], i + 1, s'⟩ ⟨hlt, by show xs ++ [y] = nrm al (i + 1); rw [hnx, nstp, if_pos hI, hcA, if_neg (by decide), hy]⟩ sbB suB (by show al.length - (i + 1) < al.length - i; omega)
      · have hI' : decide (x.In.From = x.In.To) = true := hI
        simp only [hI']
        repeat (refine wkB ?_; try intro _)
        have htM : M x.In.From.P ≤ 8589934592 := Nat.le_trans hx0.i.m1 (by decide)
        have hxf : (M x.F.X0 ≤ 8589934592 ∧ M x.F.X1 ≤ 8589934592) ∧ M x.F.Y0 ≤ 8589934592 ∧ M x.F.Y1 ≤ 8589934592 := ⟨⟨Nat.le_trans hx0.f.x0 (by decide), Nat.le_trans hx0.f.x1 (by decide)⟩, Nat.le_trans hx0.f.y0 (by decide), Nat.le_trans hx0.f.y1 (by decide)⟩
        refine j_cut (S := Bool) (fun v => v = cC xs x) (fun v => [(163, .bool v), (0, vLines), (7, vSl s), (8, .slice (some ⟨b8, 0, none⟩) al.length c8), (9, .int .i64 (i : Nat)), (10, .pointer (some ⟨b10, 0, none⟩)), (11, .pointer (some ⟨b11, 0, none⟩)), (12, .pointer p), (13, .int .i64 xs.length), (41, .slice (some ⟨b8, 0, none⟩) al.length c8), (42, .int .i64 al.length), (43, .int .i64 (i : Nat))]) (fun _ => mS 163 s ++ [⟨b11, e_api_Real (q_api_Real x.In.From), 30⟩, ⟨b10, rU x, 163⟩, ⟨b8, row rU al sp8, 163⟩]) ?_ (fun v hv4 => ?_)
        · rcases hp with ⟨hb, rfl⟩ | ⟨hb, bo, co, so, ho, hvo, hmo, rfl⟩
          · (refine j_late [0, 1, 2, 3, 4, 5, 6, 7, 8, 9, 10, 11, 12, 13, 14, 15] [16] (_) (h := ?_); refine wkI ?_)
            (repeat (refine wkH ?_))
            repeat (refine wkT ?_; try intro _)
            repeat (refine wkB ?_; try intro _)
            exact jx_mid false (by unfold cC; rw [hb, Bool.false_and]) sbB suB
          · have hpo := bef_len hb
            have hlo := (lst_ok hxo hpo).f
            rw [hvo, hmo]
            simp only [List.cons_append, List.nil_append]
            (refine j_late [0, 1, 2, 3, 4, 5, 6, 7, 8, 9, 10, 11, 12, 13, 14, 15] [16] (_) (h := ?_); refine wkI ?_)
            (repeat (first | refine wkH ?_ | (refine tC rfl rfl ?_ ?_; focus (exact ⟨hx0.i.r1, ⟨⟨hlo.x0, hlo.x1⟩, hlo.y0, hlo.y1⟩, hxf, htM⟩))))
            repeat (refine wkT ?_; try intro _)
            repeat (refine wkB ?_; try intro _)
            exact jx_mid (smL (lstU xs).F x.F x.In.From.P) (by unfold cC; rw [hb, Bool.true_and]) sbB suB
        subst hv4
        rcases hcC : cC xs x with _ | _
        · refine j_else (by rfl) ?_
          (first | refine sX rfl rfl ?_ | (refine sS rfl rfl ?_ ?_; focus omega) | (refine sC rfl rfl ?_ ?_; focus (first | exact trivial | assumption | constructor <;> assumption | exact mb2 rfl rfl | exact mb4 rfl rfl rfl rfl)) | refine cX ?_ | refine cY ?_ | (refine sA rfl rfl ?_; intro _) | refine sT rfl ?_ | refine sF rfl ?_ | (refine sR rfl ?_ ?_; focus omega) | (refine sB rfl rfl ?_; intro _) | (refine sN rfl rfl ?_ ?_; (focus (first | exact trivial | assumption | constructor <;> assumption | exact mb2 rfl rfl | exact mb4 rfl rfl rfl rfl)); intro _; (try simp only [List.cons_append, List.nil_append, List.append_nil])) | refine sW rfl rfl ?_ | refine sK rfl rfl ?_ | refine j_if rfl ?_ | refine j_else rfl ?_ | refine pkT rfl rfl rfl rfl ?_ | refine pkF rfl rfl rfl rfl ?_)
          refine j_cut (S := Bool) (fun v => v = cD al i x) (fun v => [(184, .bool v), (0, vLines), (7, vSl s), (8, .slice (some ⟨b8, 0, none⟩) al.length c8), (9, .int .i64 (i : Nat)), (10, .pointer (some ⟨b10, 0, none⟩)), (11, .pointer (some ⟨b11, 0, none⟩)), (13, .int .i64 xs.length), (41, .slice (some ⟨b8, 0, none⟩) al.length c8), (42, .int .i64 al.length), (43, .int .i64 (i : Nat))]) (fun _ => mS 163 s ++ [⟨b11, e_api_Real (q_api_Real x.In.From), 30⟩, ⟨b10, rU x, 163⟩, ⟨b8, row rU al sp8, 163⟩]) ?_ (fun v hv5 => ?_)
          · by_cases hi1 : i + 1 < al.length
            · have hya := hao _ (gi_mem (i := (i : Int) + 1) (by omega))
              have hyf : (M (gi al ((i : Int) + 1)).F.X0 ≤ 8589934592 ∧ M (gi al ((i : Int) + 1)).F.X1 ≤ 8589934592) ∧ M (gi al ((i : Int) + 1)).F.Y0 ≤ 8589934592 ∧ M (gi al ((i : Int) + 1)).F.Y1 ≤ 8589934592 := ⟨⟨Nat.le_trans hya.f.x0 (by decide), Nat.le_trans hya.f.x1 (by decide)⟩, Nat.le_trans hya.f.y0 (by decide), Nat.le_trans hya.f.y1 (by decide)⟩
              (refine j_late [0, 1, 2, 3, 4, 5, 6, 7, 8, 9, 10, 11, 12, 13, 14, 15, 16, 17, 18, 19, 20, 21, 22, 23, 24, 25, 26, 27, 28, 29, 30, 31] [32] (_) (h := ?_); refine wkI ?_)
              (repeat (refine wkH ?_))
              simp only [decide_eq_true (show (i : Int) + 1 < (al.length : Int) by omega)]
              (repeat (refine wkH ?_))
              rcases hft : decide ((gi al ((i : Int) + 1)).In.From = x.In.From) with _ | _
              · (repeat (refine wkH ?_))
                repeat (refine wkT ?_; try intro _)
                repeat (refine wkB ?_; try intro _)
                exact jx_mid false (by unfold cD; rw [hft, Bool.false_and, Bool.and_false]) sbB suB
              · (repeat (first | refine wkH ?_ | (refine tC rfl rfl ?_ ?_; focus (exact ⟨hx0.i.r1, hyf, hxf, htM⟩))))
                repeat (refine wkT ?_; try intro _)
                repeat (refine wkB ?_; try intro _)
                exact jx_mid (smL (gi al ((i : Int) + 1)).F x.F x.In.From.P) (by unfold cD; rw [hft, decide_eq_true hi1, Bool.true_and, Bool.true_and]) sbB suB
            · (refine j_late [0, 1, 2, 3, 4, 5, 6, 7, 8, 9, 10, 11, 12, 13, 14, 15, 16, 17, 18, 19, 20, 21, 22, 23, 24, 25, 26, 27, 28, 29, 30, 31] [32] (_) (h := ?_); refine wkI ?_)
              (repeat (refine wkH ?_))
              simp only [decide_eq_false (show ¬ (i : Int) + 1 < (al.length : Int) by omega)]
              (repeat (refine wkH ?_))
              repeat (refine wkT ?_; try intro _)
              repeat (refine wkB ?_; try intro _)
              exact jx_mid false (by unfold cD; rw [decide_eq_false hi1, Bool.false_and]) sbB suB
          subst hv5
          rcases hcD : cD al i x with _ | _
          · repeat (first | (refine wkB ?_; try intro _) | (refine sC rfl rfl ?_ ?_; focus (exact ⟨hx0.i.r1, hxf, htM⟩)) | (refine sN rfl rfl ?_ ?_; (focus (exact ⟨hx0.i.r1, hxf, htM⟩)); intro _; (try simp only [List.cons_append, List.nil_append, List.append_nil])))
            refine sU rfl rfl ?_ ?_ ?_ ?_
            · rfl
            · rfl
            · exact ⟨by decide, by omega, by omega⟩
            intro s'
            repeat (first | (refine wkB ?_; try intro _) | (refine sC rfl rfl ?_ ?_; focus (exact ⟨by omega, by omega⟩)) | (refine sN rfl rfl ?_ ?_; (focus (exact ⟨by omega, by omega⟩)); intro _; (try simp only [List.cons_append, List.nil_append, List.append_nil])))
            exact jx_loop ⟨_, i + 1, s'⟩ ⟨hlt, by show xs ++ [redU x] = nrm al (i + 1); rw [hnx, nstp, hI, if_neg (by decide), hcC, if_neg (by decide), hcD, if_neg (by decide)]⟩ sbB suB (by show al.length - (i + 1) < al.length - i; omega)
          · repeat (first | (refine wkB ?_; try intro _) | (refine sC rfl rfl ?_ ?_; focus (exact ⟨by omega, by omega⟩)) | (refine sN rfl rfl ?_ ?_; (focus (exact ⟨by omega, by omega⟩)); intro _; (try simp only [List.cons_append, List.nil_append, List.append_nil])))
            exact jx_loop ⟨xs, i + 1, s⟩ ⟨hlt, by show xs = nrm al (i + 1); rw [hnx, nstp, hI, if_neg (by decide), hcC, if_neg (by decide), hcD, if_pos rfl]⟩ sbB suB (by show al.length - (i + 1) < al.length - i; omega)
        · have hb : bef xs x.In.From = true := by
            unfold cC at hcC
            simp only [Bool.and_eq_true] at hcC
            exact hcC.1
          have hpo := bef_len hb
          rcases hp with ⟨hb', -⟩ | ⟨-, bo, co, so, ho, hvo, hmo, rfl⟩
          · rw [hb] at hb'; cases hb'
          rw [hvo, hmo]
          simp only [List.cons_append, List.nil_append]
          have ek : ((xs.length : Int) - 1).toNat = xs.length - 1 := by omega
          repeat (refine wkB ?_; try intro _)
          refine sRF (i := (xs.length : Int) - 1) (f := 19) (clo (lstU xs)) rfl rfl ?_ ?_
          · omega
          rw [ek]
          obtain ⟨s', hv', hm'⟩ := SlS.put (enc := rU) (k := 36) (b := bo) 163 (turn_len xs (clo (lstU xs))) ho hpo
          rw [← hv']
          repeat (first | (refine wkB ?_; try intro _) | (refine sC rfl rfl ?_ ?_; focus (exact ⟨by omega, by omega⟩)) | (refine sN rfl rfl ?_ ?_; (focus (exact ⟨by omega, by omega⟩)); intro _; (try simp only [List.cons_append, List.nil_append, List.append_nil])))
          exact jx_loop ⟨turn xs (clo (lstU xs)), i + 1, s'⟩ ⟨hlt, by show turn xs (clo (lstU xs)) = nrm al (i + 1); rw [hnx, nstp, hI, if_neg (by decide), if_pos hcC]⟩ sbB (by dsimp only; rw [hm']; exact suB) (by show al.length - (i + 1) < al.length - i; omega)
    · have hge : i = al.length := by have := of_decide_eq_false h; omega
      subst hge
      subst hxs
      repeat (refine wkB ?_; try intro _)
      obtain ⟨s0, hs1, hs2⟩ := SlS.turn 163 hR.symm s
      exact jx_ret_two rfl (resv_tmp rfl) (resv_tmp rfl) (fun w hw => ⟨s0, by dsimp only; rw [hs1, hE], by dsimp only; rw [hs2]; exact hw.sub suB⟩)
end Go.Vt
/- The normal form of a moving point; its position at an instant: walked. Conditions: those that each statement names. -/
set_option linter.unusedSimpArgs false
set_option linter.unusedVariables false
set_option maxHeartbeats 2000000
set_option maxRecDepth 100000
namespace Go.Vt
open Go.RowKit Go.Proofs
instance sr_pnormal (w0 : World) (L : List Blk) (v : Value) (us : List UL) [h : LstN w0 L v UL rU us] : SpecR Tryz.prog w0 L 96 [vLines, v] (SlS rU 36 (nrmR us)) (fun s => .tuple #[vSl s, .int .i64 (nrmE us)]) (fun s => mS 163 s) (us.length ≤ 19 ∧ ∀ u ∈ us, UIn u) := ⟨fun hp w hw => pnormal_spec v us w (h.out w hw) h.nil hp.1 hp.2⟩
theorem nrmR_len (us : List UL) : (nrmR us).length ≤ 3 * us.length := by
  unfold nrmR
  split
  · have h1 := nrm_len (allU us) (allU us).length
    have h2 := atm_len (sor us) (sor us).length
    have h3 := sor_len us
    unfold allU at h1 ⊢
    omega
  · simp
instance bd_Lines : BdC Tryz.prog 152 [] (.agg #[]) := ⟨fun w => by kernel_rfl⟩
/-- The units of a moving point, as they are normal. -/
def mNorm (us : List PU) : List PU := mpN ofU (nrmR (mpN toU us us.length)) (nrmR (mpN toU us us.length)).length
theorem mnormal_spec (v : Value) (us : List PU) (w : World) (hv : ArgS w v rP us) (hl : us.length ≤ 19) (hok : ∀ u ∈ mpN toU us us.length, UIn u) :
    Calls Tryz.prog 51 [v].toArray w (RetM (SlS rP 36 (mNorm us)) (fun s => .tuple #[vSl s, .int .i64 (nrmE (mpN toU us us.length))]) (fun s => mS 68 s) w) := by
  have := ArgC.mk hv
  have hml := mpN_len toU us us.length
  have hnl := nrmR_len (mpN toU us us.length)
  refine fn_intro Tryz.func51 rfl Tryz.ntmps51 rfl ?_
  repeat (first | (refine wkB ?_; try intro _) | (refine sC rfl rfl ?_ ?_; focus (first | exact trivial | omega | exact ⟨by omega, hok⟩)) | (refine sN rfl rfl ?_ ?_; (focus (first | exact trivial | omega | exact ⟨by omega, hok⟩)); intro _; (try simp only [List.cons_append, List.nil_append, List.append_nil])))
  rename_i s1 s2 s3
  exact jx_ret_two rfl (resv_tmp rfl) (resv_tmp rfl) (fun w hw => ⟨s3, rfl, hw.sub suB⟩)
instance sr_mnormal (w0 : World) (L : List Blk) (v : Value) (us : List PU) [h : LstC w0 L v PU rP us] : SpecR Tryz.prog w0 L 51 [v] (SlS rP 36 (mNorm us)) (fun s => .tuple #[vSl s, .int .i64 (nrmE (mpN toU us us.length))]) (fun s => mS 68 s) (us.length ≤ 19 ∧ ∀ u ∈ mpN toU us us.length, UIn u) := ⟨fun hp w hw => mnormal_spec v us w (h.out w hw) hp.1 hp.2⟩
end Go.Vt
/- The unit that contains an instant, found. Conditions: those that each statement names. -/
set_option linter.unusedSimpArgs false
set_option linter.unusedVariables false
set_option maxHeartbeats 2000000
set_option maxRecDepth 100000
namespace Go.Vt
open Go.RowKit Go.Proofs
/-- The first unit that does not end ahead of an instant. -/
structure Cut (us : List UL) (t : Rat) (k : Nat) : Prop where
  le : k ≤ us.length
  lo : ∀ j : Nat, j < k → (gi us (j : Int)).In.To.P < t
  hi : ∀ j : Nat, k ≤ j → j < us.length → t ≤ (gi us (j : Int)).In.To.P
instance sp_endCmp (u : UL) (t : R_api_Real) : SpecC Tryz.prog 108 [vUL u, vR t] (.int .i64 (cq u.In.To.P t.P)) ((u.In.To.R = 0 ∧ t.R = 0) ∧ M u.In.To.P ≤ LQ ∧ M t.P ≤ LQ) := ⟨fun hp w => by
  refine fn_intro Tryz.func108 rfl Tryz.ntmps108 rfl ?_
  repeat (first | (refine wkB ?_; try intro _) | (refine sC rfl rfl ?_ ?_; focus (exact hp)) | (refine sN rfl rfl ?_ ?_; (focus (exact hp)); intro _; (try simp only [List.cons_append, List.nil_append, List.append_nil])))
  exact jx_ret_tmp rfl rfl (fun w hw => ret_ok hw)⟩
theorem bsearch_spec (v : Value) (us : List UL) (t : R_api_Real) (k : Nat) (hk : Cut us t.P k) (w : World) (hv : ArgS w v rU us) (hl : us.length ≤ 1048576) (ht : t.R = 0) (htM : M t.P ≤ LQ) (hok : ∀ u ∈ us, IvOk BQ u.In) :
    Calls Tryz.prog 107 [v, vR t, vFn 108].toArray w (Ret (.tuple #[.int .i64 (k : Nat), .bool (decide (k < us.length) && decide (cq (gi us (k : Int)).In.To.P t.P = 0))]) w) := by
  refine fn_intro Tryz.func107 rfl Tryz.ntmps107 rfl ?_
  obtain ⟨p, cp, rfl⟩ := hv.form
  have hpre : ∀ j : Nat, j < us.length → ((gi us (j : Int)).In.To.R = 0 ∧ t.R = 0) ∧ M (gi us (j : Int)).In.To.P ≤ LQ ∧ M t.P ≤ LQ := fun j hj => by
    have h1 := hok _ (gi_mem (i := (j : Int)) (by omega))
    exact ⟨⟨h1.r2, ht⟩, Nat.le_trans h1.m2 (by decide), htM⟩
  repeat (refine wkB ?_; try intro _)
  rename_i b4
  refine j_loop (S := Nat × Nat) (fun s => s.1 ≤ k ∧ k ≤ s.2 ∧ s.2 ≤ us.length) (fun s => [(0, .slice p us.length cp), (2, vFn 108), (4, .pointer (some ⟨b4, 0, none⟩)), (8, .int .i64 us.length), (9, .int .i64 (s.1 : Nat)), (10, .int .i64 (s.2 : Nat))]) (fun _ => [⟨b4, e_api_Real (q_api_Real t), 30⟩]) (fun s => s.2 - s.1) (0, us.length)
    ⟨Nat.zero_le _, hk.le, Nat.le_refl _⟩ sbB slB (fun s hs => ?_)
  obtain ⟨lo, hi⟩ := s
  obtain ⟨h1, h2, h3⟩ := hs
  simp only at h1 h2 h3 ⊢
  repeat (refine wkB ?_; try intro _)
  refine j_cond rfl (fun h => ?_) (fun h => ?_)
  · have hlt : lo < hi := by have := of_decide_eq_true h; omega
    have hne : us ≠ [] := fun h0 => by rw [h0] at h3; simp at h3; omega
    obtain ⟨bw, ow, cw, hvw, hcw, hrow⟩ := hv.blk (k := 35) hne []
    injection hvw with e1 e2 e3
    subst e1
    subst e3
    have hrow' : ∀ L, RowC w L bw ow UL rU us := fun L => ⟨fun w' hw' => hrow.out w' (hw'.sub (List.nil_sublist _))⟩
    repeat (refine wkB ?_; try intro _)
    refine jq (wl_shr rfl rfl (by decide)) rfl rfl ?_
    obtain ⟨m, hm⟩ : ∃ m, m = (lo + hi) / 2 := ⟨_, rfl⟩
    have em : ((lo : Int) + (hi : Int)) / 2 ^ (1 : Int).toNat = (m : Int) := by
      rw [show (2 : Int) ^ (1 : Int).toNat = 2 from rfl]
      omega
    simp only [em]
    have hml : lo ≤ m ∧ m < hi := by omega
    have hpm := hpre m (by omega)
    repeat (refine wkB ?_; try intro _)
    (refine jD 8 8 (h := ?_); (repeat (first | refine wkH ?_ | (refine tC rfl rfl ?_ ?_; focus (exact hpm)))); refine jh_nil ?_; (repeat (refine wn_new ?_; intro _)); refine jn_nil ?_)
    repeat (refine wkB ?_; try intro _)
    by_cases hc : cq (gi us (m : Int)).In.To.P t.P < 0
    · simp only [decide_eq_true hc]
      have hmk : m < k := by
        rcases Nat.lt_or_ge m k with h1 | h1
        · exact h1
        · have := hk.hi m h1 (by omega)
          have := cq_lt.1 hc
          grind
      repeat (first | (refine wkB ?_; try intro _) | (refine sC rfl rfl ?_ ?_; focus (exact ⟨by omega, by omega⟩)) | (refine sN rfl rfl ?_ ?_; (focus (exact ⟨by omega, by omega⟩)); intro _; (try simp only [List.cons_append, List.nil_append, List.append_nil])))
      exact jx_loop (m + 1, hi) ⟨hmk, h2, h3⟩ sbB slB (by show hi - (m + 1) < hi - lo; omega)
    · simp only [decide_eq_false hc]
      have hmk : k ≤ m := by
        rcases Nat.lt_or_ge m k with h1 | h1
        · exact absurd (cq_lt.2 (hk.lo m h1)) hc
        · exact h1
      repeat (refine wkB ?_; try intro _)
      exact jx_loop (lo, m) ⟨h1, hmk, by show m ≤ us.length; omega⟩ sbB slB (by show m - lo < hi - lo; omega)
  · have hge : lo = k ∧ hi = k := by have := of_decide_eq_false h; omega
    obtain ⟨rfl, rfl⟩ := hge
    repeat (refine wkB ?_; try intro _)
    by_cases hlt : hi < us.length
    · have hne : us ≠ [] := fun h0 => by rw [h0] at hlt; simp at hlt
      obtain ⟨bw, ow, cw, hvw, hcw, hrow⟩ := hv.blk (k := 35) hne []
      injection hvw with e1 e2 e3
      subst e1
      subst e3
      have hrow' : ∀ L, RowC w L bw ow UL rU us := fun L => ⟨fun w' hw' => hrow.out w' (hw'.sub (List.nil_sublist _))⟩
      have hpm := hpre hi hlt
      (refine j_late [0, 1, 2, 3, 4, 5, 6, 7, 8, 9, 10, 11, 12, 13] [14, 15] (_) (h := ?_); refine wkI ?_)
      (repeat (refine wkH ?_))
      simp only [decide_eq_true (show (hi : Int) < (us.length : Int) by omega)]
      (repeat (first | refine wkH ?_ | (refine tC rfl rfl ?_ ?_; focus (exact hpm))))
      repeat (refine wkT ?_; try intro _)
      repeat (refine wkB ?_; try intro _)
      rw [decide_eq_true hlt, Bool.true_and]
      exact jx_ret_two rfl (resv_tmp rfl) (resv_tmp rfl) (fun w hw => ret_ok hw)
    · (refine j_late [0, 1, 2, 3, 4, 5, 6, 7, 8, 9, 10, 11, 12, 13] [14, 15] (_) (h := ?_); refine wkI ?_)
      (repeat (refine wkH ?_))
      simp only [decide_eq_false (show ¬ (hi : Int) < (us.length : Int) by omega)]
      (repeat (refine wkH ?_))
      repeat (refine wkT ?_; try intro _)
      repeat (refine wkB ?_; try intro _)
      rw [decide_eq_false hlt, Bool.false_and]
      exact jx_ret_two rfl (resv_tmp rfl) (resv_tmp rfl) (fun w hw => ret_ok hw)
end Go.Vt
/- Functions in pieces over a dense order of instants: what a list of units says, and that its normal form is determined by it. Conditions: those that each statement names. -/
set_option linter.unusedSectionVars false
set_option linter.unusedVariables false
set_option linter.unusedSimpArgs false
namespace Go.Vt
/-- An interval with a function on it. -/
structure GU (T F : Type) where
  a : T
  b : T
  oa : Bool
  ob : Bool
  f : F
/-- Functions of time: their values, and the least of those that have one value at an instant. -/
class Fv (F T : Type) (V : outParam Type) [LT T] where
  va : F → T → V
  red : F → T → F
  va_red : ∀ f t, va (red f t) t = va f t
  red_eq : ∀ f g t, va f t = va g t → red f t = red g t
  agree : ∀ (f g : F) (a b : T), a < b → (∀ t, a < t → t < b → va f t = va g t) → f = g
class Dns (T : Type) [LT T] : Prop where
  out : ∀ a b : T, a < b → ∃ c, a < c ∧ c < b
open Fv (va red)
section
variable {T F V : Type} [LE T] [LT T] [Std.LawfulOrderLT T] [Std.IsLinearOrder T] [Dns T] [Fv F T V]
def GU.mem (u : GU T F) (t : T) : Prop := (u.a < t ∨ (u.a = t ∧ u.oa = false)) ∧ (t < u.b ∨ (t = u.b ∧ u.ob = false))
def GU.ok (u : GU T F) : Prop := u.a < u.b ∨ (u.a = u.b ∧ u.oa = false ∧ u.ob = false)
def GU.bfr (u w : GU T F) : Prop := u.b < w.a ∨ (u.b = w.a ∧ (u.ob = true ∨ w.oa = true))
theorem dens2 {a b c : T} (h : a < b) (k : a < c) : ∃ t, a < t ∧ t < b ∧ t < c := by
  obtain ⟨x, h1, h2⟩ := Dns.out a b h
  obtain ⟨y, h3, h4⟩ := Dns.out a c k
  rcases Std.le_total (a := x) (b := y) with h5 | h5
  · exact ⟨x, h1, h2, by grind⟩
  · exact ⟨y, h3, by grind, h4⟩
theorem agree2 {f g : F} {a b c : T} (h : a < b) (k : a < c) (hv : ∀ t, a < t → t < b → t < c → va f t = va g t) : f = g := by
  rcases Std.le_total (a := b) (b := c) with h5 | h5
  · exact Fv.agree f g a b h fun t h1 h2 => hv t h1 h2 (by grind)
  · exact Fv.agree f g a c k fun t h1 h2 => hv t h1 (by grind) h2
theorem GU.ok.pt {u : GU T F} (h : u.ok) : ∃ t, u.mem t := by
  rcases h with h | ⟨h1, h2, h3⟩
  · obtain ⟨c, h1, h2⟩ := Dns.out _ _ h
    exact ⟨c, .inl h1, .inl h2⟩
  · exact ⟨u.a, .inr ⟨rfl, h2⟩, .inr ⟨h1, h3⟩⟩
theorem GU.bfr.dis {u w : GU T F} (h : u.bfr w) {t : T} (h1 : u.mem t) (h2 : w.mem t) : False := by
  unfold GU.mem GU.bfr at *
  grind
theorem GU.bfr.tr {u v w : GU T F} (hv : v.ok) (h : u.bfr v) (k : v.bfr w) : u.bfr w := by
  unfold GU.ok GU.bfr at *
  grind
/-- What a list of units says. -/
def Has (l : List (GU T F)) (t : T) (v : V) : Prop := ∃ u ∈ l, u.mem t ∧ va u.f t = v
theorem has_nil {t : T} {v : V} : ¬ Has ([] : List (GU T F)) t v := fun ⟨u, hu, _⟩ => by cases hu
theorem has_cons {u : GU T F} {l : List (GU T F)} {t : T} {v : V} : Has (u :: l) t v ↔ (u.mem t ∧ va u.f t = v) ∨ Has l t v := by
  unfold Has
  simp
theorem has_app {l m : List (GU T F)} {t : T} {v : V} : Has (l ++ m) t v ↔ Has l t v ∨ Has m t v := by
  unfold Has
  constructor
  · rintro ⟨u, hu, h⟩
    rcases List.mem_append.1 hu with h1 | h1
    · exact .inl ⟨u, h1, h⟩
    · exact .inr ⟨u, h1, h⟩
  · rintro (⟨u, hu, h⟩ | ⟨u, hu, h⟩)
    · exact ⟨u, List.mem_append_left _ hu, h⟩
    · exact ⟨u, List.mem_append_right _ hu, h⟩
theorem has_one {u : GU T F} {t : T} {v : V} : Has [u] t v ↔ (u.mem t ∧ va u.f t = v) := by
  rw [has_cons]
  exact ⟨fun h => h.resolve_right has_nil, .inl⟩
/-- A unit and a later one, as they are in a normal form. -/
structure Adj (u w : GU T F) : Prop where
  bf : u.bfr w
  n1 : u.b = w.a → u.ob = false → u.a < u.b → u.f ≠ w.f
  n2 : u.b = w.a → w.oa = false → va u.f w.a ≠ va w.f w.a
  n3 : u.b = w.a → u.a = u.b → va u.f w.a ≠ va w.f w.a
structure NF (l : List (GU T F)) : Prop where
  ok : ∀ u ∈ l, u.ok
  rd : ∀ u ∈ l, u.a = u.b → u.f = red u.f u.a
  pw : l.Pairwise Adj
theorem NF.nil : NF ([] : List (GU T F)) := ⟨(fun _ h => by cases h), (fun _ h => by cases h), List.Pairwise.nil⟩
theorem NF.tail {u : GU T F} {l : List (GU T F)} (h : NF (u :: l)) : NF l :=
  ⟨fun w hw => h.ok w (.tail _ hw), fun w hw => h.rd w (.tail _ hw), (List.pairwise_cons.1 h.pw).2⟩
theorem pw_tri {α : Type} {R : α → α → Prop} : ∀ {l : List α}, l.Pairwise R → ∀ u ∈ l, ∀ w ∈ l, u = w ∨ R u w ∨ R w u
  | [], _, _, h, _, _ => by cases h
  | x :: l, hp, u, hu, w, hw => by
    obtain ⟨h1, h2⟩ := List.pairwise_cons.1 hp
    rcases List.mem_cons.1 hu with rfl | hu
    · rcases List.mem_cons.1 hw with rfl | hw
      · exact .inl rfl
      · exact .inr (.inl (h1 w hw))
    · rcases List.mem_cons.1 hw with h3 | hw
      · exact .inr (.inr (by rw [h3]; exact h1 u hu))
      · exact pw_tri h2 u hu w hw
/-- What is said of an instant is said by the one unit that contains it. -/
theorem NF.fn {l : List (GU T F)} (h : NF l) {u : GU T F} (hu : u ∈ l) {t : T} {v : V} (hm : u.mem t) (hv : Has l t v) : va u.f t = v := by
  obtain ⟨w, hw, h1, h2⟩ := hv
  rcases pw_tri h.pw u hu w hw with rfl | h3 | h3
  · exact h2
  · exact (h3.bf.dis hm h1).elim
  · exact (h3.bf.dis h1 hm).elim
section
variable {u u' : GU T F} {l l' : List (GU T F)}
theorem hd_le (h : NF (u :: l)) {w : GU T F} (hw : w ∈ u :: l) : u.a ≤ w.a := by
  rcases List.mem_cons.1 hw with rfl | hw
  · exact Std.le_refl _
  · have h1 := (List.pairwise_cons.1 h.pw).1 w hw
    have h2 := h.ok u (.head _)
    have h3 := h1.bf
    unfold GU.ok GU.bfr at *
    grind
theorem tl_ge (h : NF (u :: l)) {w : GU T F} (hw : w ∈ l) : u.b ≤ w.a := by
  have h3 := ((List.pairwise_cons.1 h.pw).1 w hw).bf
  unfold GU.bfr at *
  grind
theorem hd_a (h : NF (u :: l)) (h' : NF (u' :: l')) (H : ∀ t v, Has (u :: l) t v → Has (u' :: l') t v) : ¬ u.a < u'.a := fun hlt => by
  have hok := h.ok u (.head _)
  obtain ⟨t, ht, htl⟩ : ∃ t, u.mem t ∧ t < u'.a := by
    rcases hok with h1 | ⟨h1, h2, h3⟩
    · obtain ⟨t, h2, h3, h4⟩ := dens2 h1 hlt
      exact ⟨t, ⟨.inl h2, .inl h3⟩, h4⟩
    · exact ⟨u.a, ⟨.inr ⟨rfl, h2⟩, .inr ⟨h1, h3⟩⟩, hlt⟩
  obtain ⟨w, hw, h1, h2⟩ := H t _ ⟨u, .head _, ht, rfl⟩
  have h3 := hd_le h' hw
  unfold GU.mem at h1
  grind
theorem hd_oa (h : NF (u :: l)) (h' : NF (u' :: l')) (H : ∀ t v, Has (u :: l) t v → Has (u' :: l') t v) (ha : u.a = u'.a) (ho : u.oa = false) : u'.oa = false := by
  have hok := h.ok u (.head _)
  have hok' := h'.ok u' (.head _)
  have hm : u.mem u.a := by unfold GU.mem GU.ok at *; grind
  obtain ⟨w, hw, h1, h2⟩ := H u.a _ ⟨u, .head _, hm, rfl⟩
  rcases List.mem_cons.1 hw with rfl | hw
  · unfold GU.mem at h1; grind
  · have h3 := tl_ge h' hw
    unfold GU.mem GU.ok at *
    grind
/-- If what a unit's other covers behind it is said, the next unit begins where it ends, with the other's function. -/
theorem nxt (h : NF (u :: l)) (h' : NF (u' :: l')) (H : ∀ t v, Has (u :: l) t v ↔ Has (u' :: l') t v) (hle : u'.a ≤ u.b) (hlt : u.b < u'.b) (hob : u.ob = false) : ∃ w ∈ l, w.a = u.b ∧ w.f = u'.f := by
  have cov : ∀ t, u.b < t → t < u'.b → ∃ w ∈ l, w.mem t ∧ va w.f t = va u'.f t := fun t h1 h2 => by
    obtain ⟨w, hw, h3, h4⟩ := (H t (va u'.f t)).2 ⟨u', .head _, ⟨.inl (by grind), .inl h2⟩, rfl⟩
    rcases List.mem_cons.1 hw with rfl | hw
    · unfold GU.mem at h3; grind
    · exact ⟨w, hw, h3, h4⟩
  cases l with
  | nil =>
    obtain ⟨t, h1, h2⟩ := Dns.out _ _ hlt
    obtain ⟨w, hw, _⟩ := cov t h1 h2
    cases hw
  | cons w l =>
    have hge := tl_ge h (.head _)
    have hb := ((List.pairwise_cons.1 h.pw).1 w (.head _)).bf
    have hok := h.ok w (.tail _ (.head _))
    have hwa : w.a = u.b := by
      rcases Std.le_total (a := w.a) (b := u.b) with h1 | h1
      · grind
      · rcases Classical.em (w.a = u.b) with h2 | h2
        · exact h2
        · obtain ⟨t, h3, h4, h5⟩ := dens2 hlt (show u.b < w.a by grind)
          obtain ⟨x, hx, h6, -⟩ := cov t h3 h4
          have h7 := hd_le h.tail hx
          unfold GU.mem at h6
          grind
    refine ⟨w, .head _, hwa, ?_⟩
    have hlong : w.a < w.b := by unfold GU.ok GU.bfr at *; grind
    refine agree2 (a := u.b) (b := w.b) (c := u'.b) (by grind) hlt fun t h1 h2 h3 => ?_
    have hmw : w.mem t := ⟨.inl (by grind), .inl h2⟩
    have hmu : u'.mem t := ⟨.inl (by grind), .inl h3⟩
    have := (H t _).1 ⟨w, .tail _ (.head _), hmw, rfl⟩
    exact (h'.fn (.head _) hmu this).symm
theorem hd_long (h : NF (u :: l)) (h' : NF (u' :: l')) (H : ∀ t v, Has (u :: l) t v ↔ Has (u' :: l') t v) (ha : u.a = u'.a) (ho : u.oa = u'.oa) (hi : u.a = u.b) : ¬ u'.a < u'.b := fun hlt => by
  have hok := h.ok u (.head _)
  obtain ⟨o1, o2⟩ : u.oa = false ∧ u.ob = false := by unfold GU.ok at hok; grind
  obtain ⟨w, hw, h1, h2⟩ := nxt h h' H (by grind) (by grind) o2
  have hadj := (List.pairwise_cons.1 h.pw).1 w hw
  refine hadj.n3 h1.symm hi ?_
  have hmu : u.mem w.a := ⟨.inr ⟨by grind, o1⟩, .inr ⟨h1, o2⟩⟩
  have hmu' : u'.mem w.a := ⟨.inr ⟨by grind, by grind⟩, .inl (by grind)⟩
  have := h.fn (.head _) hmu ((H w.a _).2 ⟨u', .head _, hmu', rfl⟩)
  rw [this, h2]
theorem hd_b (h : NF (u :: l)) (h' : NF (u' :: l')) (H : ∀ t v, Has (u :: l) t v ↔ Has (u' :: l') t v) (ha : u.a = u'.a) (hl : u.a < u.b) (hf : u.f = u'.f) : ¬ u.b < u'.b := fun hlt => by
  rcases ho : u.ob with _ | _
  · obtain ⟨w, hw, h1, h2⟩ := nxt h h' H (by grind) hlt ho
    exact ((List.pairwise_cons.1 h.pw).1 w hw).n1 h1.symm ho hl (by rw [hf, h2])
  · have hmu' : u'.mem u.b := ⟨.inl (by grind), .inl hlt⟩
    obtain ⟨w, hw, h1, h2⟩ := (H u.b (va u'.f u.b)).2 ⟨u', .head _, hmu', rfl⟩
    rcases List.mem_cons.1 hw with rfl | hw
    · unfold GU.mem at h1; grind
    · have h3 := tl_ge h hw
      have h4 : w.a = u.b ∧ w.oa = false := by unfold GU.mem at h1; grind
      refine ((List.pairwise_cons.1 h.pw).1 w hw).n2 h4.1.symm h4.2 ?_
      rw [h4.1, h2, hf]
theorem hd_ob (h : NF (u :: l)) (h' : NF (u' :: l')) (H : ∀ t v, Has (u :: l) t v ↔ Has (u' :: l') t v) (hb : u.b = u'.b) (hl : u.a < u.b) (hl' : u'.a < u'.b) (hf : u.f = u'.f) (ho : u.ob = false) : u'.ob = false := by
  rcases ho' : u'.ob with _ | _
  · rfl
  · have hmu : u.mem u.b := ⟨.inl hl, .inr ⟨rfl, ho⟩⟩
    obtain ⟨w, hw, h1, h2⟩ := (H u.b (va u.f u.b)).1 ⟨u, .head _, hmu, rfl⟩
    rcases List.mem_cons.1 hw with rfl | hw
    · unfold GU.mem at h1; grind
    · have h3 := tl_ge h' hw
      have h4 : w.a = u'.b ∧ w.oa = false := by unfold GU.mem at h1; grind
      refine absurd ?_ (((List.pairwise_cons.1 h'.pw).1 w hw).n2 h4.1.symm h4.2)
      rw [h4.1, ← hb, h2, hf]
theorem hd_eq (h : NF (u :: l)) (h' : NF (u' :: l')) (H : ∀ t v, Has (u :: l) t v ↔ Has (u' :: l') t v) : u = u' := by
  have H' : ∀ t v, Has (u' :: l') t v ↔ Has (u :: l) t v := fun t v => (H t v).symm
  have ha : u.a = u'.a := by
    have h1 := hd_a h h' fun t v => (H t v).1
    have h2 := hd_a h' h fun t v => (H' t v).1
    grind
  have ho : u.oa = u'.oa := by
    have h1 := hd_oa h h' (fun t v => (H t v).1) ha
    have h2 := hd_oa h' h (fun t v => (H' t v).1) ha.symm
    cases hq : u.oa <;> cases hq' : u'.oa <;> simp_all
  have hok := h.ok u (.head _)
  have hok' := h'.ok u' (.head _)
  rcases hok with hl | ⟨hi, i1, i2⟩
  · have hl' : u'.a < u'.b := by
      rcases hok' with h1 | ⟨h1, -, -⟩
      · exact h1
      · exact absurd hl (hd_long h' h H' ha.symm ho.symm h1)
    have hf : u.f = u'.f := by
      refine agree2 (a := u.a) (b := u.b) (c := u'.b) hl (by grind) fun t h1 h2 h3 => ?_
      have hm : u.mem t := ⟨.inl h1, .inl h2⟩
      have hm' : u'.mem t := ⟨.inl (by grind), .inl h3⟩
      exact h.fn (.head _) hm ((H t _).2 ⟨u', .head _, hm', rfl⟩)
    have hb : u.b = u'.b := by
      have h1 := hd_b h h' H ha hl hf
      have h2 := hd_b h' h H' ha.symm hl' hf.symm
      grind
    have hob : u.ob = u'.ob := by
      have h1 := hd_ob h h' H hb hl hl' hf
      have h2 := hd_ob h' h H' hb.symm hl' hl hf.symm
      cases hq : u.ob <;> cases hq' : u'.ob <;> simp_all
    cases u
    cases u'
    simp_all
  · have hi' : u'.a = u'.b ∧ u'.oa = false ∧ u'.ob = false := by
      rcases hok' with h1 | h1
      · exact absurd h1 (hd_long h h' H ha ho hi)
      · exact h1
    have hm : u.mem u.a := ⟨.inr ⟨rfl, i1⟩, .inr ⟨hi, i2⟩⟩
    have hm' : u'.mem u.a := ⟨.inr ⟨ha.symm, hi'.2.1⟩, .inr ⟨by grind, hi'.2.2⟩⟩
    have hv := h.fn (.head _) hm ((H u.a _).2 ⟨u', .head _, hm', rfl⟩)
    have hf : u.f = u'.f := by
      rw [h.rd u (.head _) hi, h'.rd u' (.head _) hi'.1, ← ha]
      exact Fv.red_eq _ _ _ hv
    have hb : u.b = u'.b := by grind
    cases u
    cases u'
    simp_all
end
theorem NF.pts {u : GU T F} {l : List (GU T F)} (h : NF (u :: l)) : ∃ t v, Has (u :: l) t v := by
  obtain ⟨t, ht⟩ := (h.ok u (.head _)).pt
  exact ⟨t, _, u, .head _, ht, rfl⟩
/-- The normal form is determined by what it says. -/
theorem NF.uniq : ∀ {l l' : List (GU T F)}, NF l → NF l' → (∀ t v, Has l t v ↔ Has l' t v) → l = l'
  | [], [], _, _, _ => rfl
  | [], u :: l, _, h', H => by
    obtain ⟨t, v, h⟩ := h'.pts
    exact absurd ((H t v).2 h) has_nil
  | u :: l, [], h, _, H => by
    obtain ⟨t, v, h⟩ := h.pts
    exact absurd ((H t v).1 h) has_nil
  | u :: l, u' :: l', h, h', H => by
    have e := hd_eq h h' H
    subst e
    have no : ∀ {l : List (GU T F)} (h : NF (u :: l)) {t : T} {v : V}, u.mem t → ¬ Has l t v := fun h t v hm ⟨w, hw, h1, _⟩ => ((List.pairwise_cons.1 h.pw).1 w hw).bf.dis hm h1
    rw [NF.uniq h.tail h'.tail fun t v => ?_]
    constructor
    · intro h1
      rcases has_cons.1 ((H t v).1 (has_cons.2 (.inr h1))) with h2 | h2
      · exact absurd h1 (no h h2.1)
      · exact h2
    · intro h1
      rcases has_cons.1 ((H t v).2 (has_cons.2 (.inr h1))) with h2 | h2
      · exact absurd h1 (no h' h2.1)
      · exact h2
def Held (xs : List (GU T F)) (t : T) : Prop := ∃ ys u, xs = ys ++ [u] ∧ u.b = t ∧ u.ob = false
def NoExt (xs : List (GU T F)) (x : GU T F) : Prop := ∀ ys u, xs = ys ++ [u] → u.b = x.a → u.a ≠ u.b → u.ob = false → u.f ≠ x.f
def NoClo (xs : List (GU T F)) (x : GU T F) : Prop := ∀ ys u, xs = ys ++ [u] → u.b = x.a → u.a ≠ u.b → va u.f x.a ≠ va x.f x.a
def PvI (pv : Option (GU T F)) (x : GU T F) : Prop := ∃ q, pv = some q ∧ q.a = q.b ∧ q.a = x.a
def NxI (nx : Option (GU T F)) (x : GU T F) : Prop := ∃ n, nx = some n ∧ n.a = x.a ∧ va n.f x.a = va x.f x.a
inductive Stp (pv nx : Option (GU T F)) : List (GU T F) → GU T F → List (GU T F) → Prop where
  | ext {ys u x} : x.a ≠ x.b → u.b = x.a → u.a ≠ u.b → u.ob = false → u.f = x.f → Stp pv nx (ys ++ [u]) x (ys ++ [⟨u.a, x.b, u.oa, true, u.f⟩])
  | appO {xs x} : x.a ≠ x.b → NoExt xs x → PvI pv x → ¬ Held xs x.a → Stp pv nx xs x (xs ++ [⟨x.a, x.b, false, x.ob, x.f⟩])
  | appN {xs x} : x.a ≠ x.b → NoExt xs x → ¬ (PvI pv x ∧ ¬ Held xs x.a) → Stp pv nx xs x (xs ++ [x])
  | clo {ys u x} : x.a = x.b → u.b = x.a → u.a ≠ u.b → va u.f x.a = va x.f x.a → Stp pv nx (ys ++ [u]) x (ys ++ [⟨u.a, u.b, u.oa, false, u.f⟩])
  | lft {xs x} : x.a = x.b → NoClo xs x → NxI nx x → Stp pv nx xs x xs
  | rdc {xs x} : x.a = x.b → NoClo xs x → ¬ NxI nx x → Stp pv nx xs x (xs ++ [⟨x.a, x.b, x.oa, x.ob, red x.f x.a⟩])
inductive Mk : Option (GU T F) → List (GU T F) → List (GU T F) → List (GU T F) → Prop where
  | nil {pv xs} : Mk pv xs [] xs
  | cons {pv xs x xs' rest out} : Stp pv rest.head? xs x xs' → Mk (some x) xs' rest out → Mk pv xs (x :: rest) out
/-- A single instant, or an interval without its ends. -/
def GU.atom (x : GU T F) : Prop := (x.a = x.b ∧ x.oa = false ∧ x.ob = false) ∨ (x.a < x.b ∧ x.oa = true ∧ x.ob = true)
theorem GU.atom.ok {x : GU T F} (h : x.atom) : x.ok := by
  unfold GU.atom GU.ok at *
  grind
/-- What is known between two parts. 'S': what all parts say. -/
structure Inv (pv : Option (GU T F)) (xs rem : List (GU T F)) (S : T → V → Prop) : Prop where
  nf : NF xs
  at_ : ∀ x ∈ rem, x.atom
  ch : rem.Pairwise GU.bfr
  sep : ∀ u ∈ xs, ∀ x ∈ rem, u.bfr x
  st : (∃ q x rest, pv = some q ∧ q.a = q.b ∧ q.oa = false ∧ q.ob = false ∧ rem = x :: rest ∧ x.a = q.a ∧ x.oa = true ∧ va x.f q.a = va q.f q.a ∧ (∀ u ∈ xs, u.bfr q) ∧ NoClo xs q ∧ ∀ t v, S t v ↔ Has xs t v ∨ (t = q.a ∧ va q.f t = v) ∨ Has rem t v)
    ∨ ((∀ q, pv = some q → q.a = q.b → Held xs q.a) ∧ (∀ ys u x rest, xs = ys ++ [u] → u.a = u.b → rem = x :: rest → x.a = u.b → va u.f x.a ≠ va x.f x.a) ∧ ∀ t v, S t v ↔ Has xs t v ∨ Has rem t v)
theorem NF.snoc {ys : List (GU T F)} {u x : GU T F} (h : NF (ys ++ [u])) (hx : x.ok) (hr : x.a = x.b → x.f = red x.f x.a) (ha : Adj u x) : NF (ys ++ [u] ++ [x]) := by
  refine ⟨fun w hw => ?_, fun w hw => ?_, ?_⟩
  · rcases List.mem_append.1 hw with h1 | h1
    · exact h.ok w h1
    · rw [List.mem_singleton] at h1; subst h1; exact hx
  · rcases List.mem_append.1 hw with h1 | h1
    · exact h.rd w h1
    · rw [List.mem_singleton] at h1; subst h1; exact hr
  · refine List.pairwise_append.2 ⟨h.pw, List.pairwise_singleton _ _, fun y hy w hw => ?_⟩
    rw [List.mem_singleton] at hw
    subst hw
    rcases List.mem_append.1 hy with h1 | h1
    · have hyu := (List.pairwise_append.1 h.pw).2.2 y h1 u (List.mem_singleton.2 rfl)
      have hu := h.ok u (by simp)
      have hyo := h.ok y (by simp [h1])
      have b1 := hyu.bf
      have b2 := ha.bf
      unfold GU.ok GU.bfr at *
      refine ⟨?_, fun h2 h3 => ?_, fun h2 h3 => ?_, fun h2 h3 => ?_⟩
      · unfold GU.bfr; grind
      · exfalso; grind
      · exfalso; grind
      · exfalso; grind
    · rw [List.mem_singleton] at h1; subst h1; exact ha
theorem NF.one {x : GU T F} (hx : x.ok) (hr : x.a = x.b → x.f = red x.f x.a) : NF [x] :=
  ⟨fun w hw => by rw [List.mem_singleton] at hw; subst hw; exact hx, fun w hw => by rw [List.mem_singleton] at hw; subst hw; exact hr, List.pairwise_singleton _ _⟩
theorem NF.last {ys : List (GU T F)} {u u' : GU T F} (h : NF (ys ++ [u])) (ha : u'.a = u.a) (ho : u'.oa = u.oa) (hf : u'.f = u.f) (hl : u'.a < u'.b) : NF (ys ++ [u']) := by
  have hp := List.pairwise_append.1 h.pw
  refine ⟨fun w hw => ?_, fun w hw => ?_, ?_⟩
  · rcases List.mem_append.1 hw with h1 | h1
    · exact h.ok w (List.mem_append_left _ h1)
    · rw [List.mem_singleton] at h1; subst h1; exact .inl hl
  · rcases List.mem_append.1 hw with h1 | h1
    · exact h.rd w (List.mem_append_left _ h1)
    · rw [List.mem_singleton] at h1; subst h1; intro h2; grind
  · refine List.pairwise_append.2 ⟨hp.1, List.pairwise_singleton _ _, fun y hy w hw => ?_⟩
    rw [List.mem_singleton] at hw
    subst hw
    have h1 := hp.2.2 y hy u (List.mem_singleton.2 rfl)
    have h2 := h1.bf
    refine ⟨?_, ?_, ?_, ?_⟩
    · unfold GU.bfr at *; rw [ha, ho]; exact h2
    · rw [ha, hf]; exact h1.n1
    · rw [ha, ho, hf]; exact h1.n2
    · rw [ha, hf]; exact h1.n3
theorem snoc_inj {α : Type} {ys zs : List α} {u w : α} (h : ys ++ [u] = zs ++ [w]) : ys = zs ∧ u = w := by
  have := List.append_inj' h rfl
  exact ⟨this.1, by simpa using this.2⟩
theorem nil_or_snoc {α : Type} (xs : List α) : xs = [] ∨ ∃ ys u, xs = ys ++ [u] := by
  rcases List.eq_nil_or_concat xs with h | ⟨ys, u, h⟩
  · exact .inl h
  · exact .inr ⟨ys, u, by simpa using h⟩
/-- A part is taken. -/
theorem NF.app {xs : List (GU T F)} {x : GU T F} (h : NF xs) (hx : x.ok) (hr : x.a = x.b → x.f = red x.f x.a) (ha : ∀ ys u, xs = ys ++ [u] → Adj u x) : NF (xs ++ [x]) := by
  rcases nil_or_snoc xs with rfl | ⟨ys, u, rfl⟩
  · exact NF.one hx hr
  · exact h.snoc hx hr (ha ys u rfl)
theorem has_last {ys : List (GU T F)} {u : GU T F} {t : T} {v : V} : Has (ys ++ [u]) t v ↔ Has ys t v ∨ (u.mem t ∧ va u.f t = v) := by rw [has_app, has_one]
theorem Inv.step {pv : Option (GU T F)} {xs xs' rest : List (GU T F)} {x : GU T F} {S : T → V → Prop} (h : Inv pv xs (x :: rest) S) (hs : Stp pv rest.head? xs x xs') : Inv (some x) xs' rest S := by
  have hx := h.at_ x (.head _)
  have hat : ∀ y ∈ rest, y.atom := fun y hy => h.at_ y (.tail _ hy)
  obtain ⟨hxr, hch⟩ := List.pairwise_cons.1 h.ch
  have sx : ∀ u ∈ xs, u.bfr x := fun u hu => h.sep u hu x (.head _)
  have sr : ∀ u ∈ xs, ∀ y ∈ rest, u.bfr y := fun u hu y hy => h.sep u hu y (.tail _ hy)
  have hst := h.st
  have hnf := h.nf
  have inst : x.a = x.b → x.oa = false ∧ x.ob = false := fun e => by unfold GU.atom at hx; grind
  have long : x.a ≠ x.b → x.a < x.b ∧ x.oa = true ∧ x.ob = true := fun e => by unfold GU.atom at hx; grind
  -- a part that is a single instant is not awaited
  have noP : x.a = x.b → (∀ ys u y r, xs = ys ++ [u] → u.a = u.b → x :: rest = y :: r → y.a = u.b → va u.f y.a ≠ va y.f y.a) ∧ ∀ t v, S t v ↔ Has xs t v ∨ Has (x :: rest) t v := fun e => by
    rcases hst with ⟨q, y, r, -, -, -, -, h1, -, h2, -⟩ | ⟨-, h2, h3⟩
    · injection h1 with h1 _
      subst h1
      have := (inst e).1
      rw [h2] at this
      cases this
    · exact ⟨h2, h3⟩
  cases hs with
  | @ext ys u _ hl hb hu ho hf =>
    obtain ⟨hl1, hl2, hl3⟩ := long hl
    have hub := sx u (by simp)
    have huo := hnf.ok u (by simp)
    have hua : u.a < u.b := by unfold GU.ok at huo; grind
    have hS : ∀ t v, S t v ↔ Has (ys ++ [u]) t v ∨ Has (x :: rest) t v := by
      rcases hst with ⟨q, y, r, -, -, q1, -, h1, h2, -, -, h3, -⟩ | ⟨-, -, h3⟩
      · injection h1 with h1 _
        subst h1
        have h4 := h3 u (by simp)
        unfold GU.bfr at h4
        grind
      · exact h3
    refine ⟨hnf.last (u := u) rfl rfl rfl (by show u.a < x.b; grind), hat, hch, fun w hw y hy => ?_, .inr ⟨fun q hq e => ?_, fun zs w y r hz e _ _ => ?_, fun t v => ?_⟩⟩
    · rcases List.mem_append.1 hw with h1 | h1
      · exact sr w (List.mem_append_left _ h1) y hy
      · rw [List.mem_singleton] at h1
        subst h1
        have := hxr y hy
        unfold GU.bfr at *
        grind
    · injection hq with hq
      subst hq
      exact absurd e hl
    · obtain ⟨-, rfl⟩ := snoc_inj hz
      simp only at e
      grind
    · rw [hS, has_last, has_last, has_cons]
      have hm : (⟨u.a, x.b, u.oa, true, u.f⟩ : GU T F).mem t ↔ u.mem t ∨ x.mem t := by
        unfold GU.mem
        simp only [Bool.true_eq_false, and_false, or_false]
        grind
      rw [hm]
      simp only [hf]
      grind
  | @appO _ _ hl hne hp hh =>
    obtain ⟨hl1, hl2, hl3⟩ := long hl
    rcases hst with ⟨q, y, r, hpv, q0, q1, q2, h1, h2, -, h4, h5, h6, hS⟩ | ⟨hq, -, -⟩
    · injection h1 with h1 h1'
      subst h1
      subst h1'
      refine ⟨hnf.app (.inl hl1) (fun e => absurd e hl) (fun ys u hxs => ?_), hat, hch, fun w hw y hy => ?_, .inr ⟨fun q hq e => ?_, fun zs w y r hz e _ _ => ?_, fun t v => ?_⟩⟩
      · subst hxs
        have hub := h5 u (by simp)
        have huo := hnf.ok u (by simp)
        have h7 := h6 ys u rfl
        unfold GU.bfr GU.ok at *
        refine ⟨?_, fun e1 e2 => ?_, fun e1 e2 => ?_, fun e1 e2 => ?_⟩
        · unfold GU.bfr; grind
        · exfalso; simp only at *; grind
        · simp only at *; rw [h2, h4]; refine h7 ?_ ?_ <;> grind
        · exfalso; simp only at *; grind
      · rcases List.mem_append.1 hw with h1 | h1
        · exact sr w h1 y hy
        · rw [List.mem_singleton] at h1
          subst h1
          have := hxr y hy
          unfold GU.bfr at *
          exact this
      · injection hq with hq
        subst hq
        exact absurd e hl
      · obtain ⟨-, rfl⟩ := snoc_inj hz
        exact absurd e hl
      · rw [hS, has_last, has_cons]
        have hm : (⟨x.a, x.b, false, x.ob, x.f⟩ : GU T F).mem t ↔ t = q.a ∨ x.mem t := by
          unfold GU.mem
          simp only [and_true]
          grind
        rw [hm]
        have hv : t = q.a → va q.f t = va x.f t := fun e => by rw [e, h4]
        simp only
        grind
    · obtain ⟨q, e1, e2, e3⟩ := hp
      exact absurd (e3 ▸ hq q e1 e2) hh
  | @appN _ _ hl hne hp =>
    obtain ⟨hl1, hl2, hl3⟩ := long hl
    rcases hst with ⟨q, y, r, hpv, q0, q1, q2, h1, h2, -, h4, h5, h6, hS⟩ | ⟨-, hI, hS⟩
    · injection h1 with h1 h1'
      subst h1
      refine absurd ⟨⟨q, hpv, q0, h2.symm⟩, ?_⟩ hp
      rintro ⟨ys, u, rfl, e1, e2⟩
      have := h5 u (by simp)
      unfold GU.bfr at this
      grind
    · refine ⟨hnf.app (.inl hl1) (fun e => absurd e hl) (fun ys u hxs => ?_), hat, hch, fun w hw y hy => ?_, .inr ⟨fun q hq e => ?_, fun zs w y r hz e _ _ => ?_, fun t v => ?_⟩⟩
      · subst hxs
        have hub := sx u (by simp)
        refine ⟨hub, fun e1 e2 e3 => hne ys u rfl e1 (by grind) e2, fun e1 e2 => by grind, fun e1 e2 => hI ys u x rest rfl e2 rfl e1.symm⟩
      · rcases List.mem_append.1 hw with h1 | h1
        · exact sr w h1 y hy
        · rw [List.mem_singleton] at h1
          subst h1
          exact hxr y hy
      · injection hq with hq
        subst hq
        exact absurd e hl
      · obtain ⟨-, rfl⟩ := snoc_inj hz
        exact absurd e hl
      · rw [hS, has_last, has_cons]
        grind
  | @clo ys u _ hi hb hu hv =>
    obtain ⟨i1, i2⟩ := inst hi
    obtain ⟨-, hS⟩ := noP hi
    have hub := sx u (by simp)
    have huo := hnf.ok u (by simp)
    have hua : u.a < u.b := by unfold GU.ok at huo; grind
    refine ⟨hnf.last (u := u) rfl rfl rfl hua, hat, hch, fun w hw y hy => ?_, .inr ⟨fun q hq e => ?_, fun zs w y r hz e _ _ => ?_, fun t v => ?_⟩⟩
    · rcases List.mem_append.1 hw with h1 | h1
      · exact sr w (List.mem_append_left _ h1) y hy
      · rw [List.mem_singleton] at h1
        subst h1
        have := hxr y hy
        unfold GU.bfr at *
        grind
    · injection hq with hq
      subst hq
      exact ⟨ys, _, rfl, hb, rfl⟩
    · obtain ⟨-, rfl⟩ := snoc_inj hz
      exact absurd e hu
    · rw [hS, has_last, has_last, has_cons]
      have hm : (⟨u.a, u.b, u.oa, false, u.f⟩ : GU T F).mem t ↔ u.mem t ∨ t = x.a := by
        unfold GU.mem GU.bfr at *
        simp only [and_true]
        grind
      have hmx : x.mem t ↔ t = x.a := by
        unfold GU.mem
        grind
      have hvt : t = x.a → va u.f t = va x.f t := fun e => by rw [e, hv]
      rw [hm, hmx]
      simp only
      grind
  | @lft _ _ hi hc hn =>
    obtain ⟨i1, i2⟩ := inst hi
    obtain ⟨-, hS⟩ := noP hi
    obtain ⟨n, e1, e2, e3⟩ := hn
    cases rest with
    | nil => cases e1
    | cons m r =>
      simp only [List.head?_cons, Option.some.injEq] at e1
      subst e1
      have hxm := hxr m (.head _)
      refine ⟨hnf, hat, hch, sr, .inl ⟨x, m, r, rfl, hi, i1, i2, rfl, e2, ?_, e3, sx, hc, fun t v => ?_⟩⟩
      · unfold GU.bfr at hxm; grind
      · rw [hS, has_cons (u := x)]
        have hmx : x.mem t ↔ t = x.a := by
          unfold GU.mem
          grind
        rw [hmx]
  | @rdc _ _ hi hc hn =>
    obtain ⟨i1, i2⟩ := inst hi
    obtain ⟨-, hS⟩ := noP hi
    refine ⟨hnf.app (.inr ⟨hi, i1, i2⟩) (fun _ => (Fv.red_eq _ _ _ (Fv.va_red _ _)).symm) (fun ys u hxs => ?_), hat, hch, fun w hw y hy => ?_, .inr ⟨fun q hq e => ?_, fun zs w y r hz e hr hy => ?_, fun t v => ?_⟩⟩
    · subst hxs
      have hub := sx u (by simp)
      have huo := hnf.ok u (by simp)
      have h7 := hc ys u rfl
      refine ⟨hub, fun e1 e2 => ?_, fun e1 e2 => ?_, fun e1 e2 => ?_⟩
      · unfold GU.bfr at hub; simp only at *; grind
      · simp only [Fv.va_red] at *
        refine h7 e1 ?_
        unfold GU.bfr GU.ok at *
        grind
      · unfold GU.bfr GU.ok at *; simp only at *; grind
    · rcases List.mem_append.1 hw with h1 | h1
      · exact sr w h1 y hy
      · rw [List.mem_singleton] at h1
        subst h1
        have := hxr y hy
        unfold GU.bfr at *
        exact this
    · injection hq with hq
      subst hq
      exact ⟨xs, _, rfl, hi.symm, i2⟩
    · obtain ⟨-, rfl⟩ := snoc_inj hz
      subst hr
      simp only at e hy ⊢
      rw [hy, ← hi, Fv.va_red]
      intro e4
      exact hn ⟨y, rfl, by rw [hy, hi], e4.symm⟩
    · rw [hS, has_last, has_cons]
      have hmx : x.mem t ↔ t = x.a := by
        unfold GU.mem
        grind
      have hmy : (⟨x.a, x.b, x.oa, x.ob, red x.f x.a⟩ : GU T F).mem t ↔ t = x.a := by
        unfold GU.mem
        simp only
        grind
      have hvt : t = x.a → va (red x.f x.a) t = va x.f t := fun e => by rw [e, Fv.va_red]
      rw [hmx, hmy]
      simp only
      grind
/-- What is made is a normal form, and says what the parts say. -/
theorem Mk.nf {pv : Option (GU T F)} {xs rem out : List (GU T F)} {S : T → V → Prop} (h : Mk pv xs rem out) : Inv pv xs rem S → NF out ∧ ∀ t v, Has out t v ↔ S t v := by
  induction h with
  | nil =>
    intro hi
    refine ⟨hi.nf, fun t v => ?_⟩
    rcases hi.st with ⟨q, x, r, -, -, -, -, h1, -⟩ | ⟨-, -, h3⟩
    · cases h1
    · rw [h3]
      exact ⟨.inl, fun h => h.resolve_right has_nil⟩
  | cons hs _ ih => exact fun hi => ih (hi.step hs)
theorem Inv.start {al : List (GU T F)} (ha : ∀ x ∈ al, x.atom) (hc : al.Pairwise GU.bfr) : Inv none [] al (Has al) :=
  ⟨NF.nil, ha, hc, (fun u hu => by cases hu), .inr ⟨(fun q h => by cases h), (fun ys u x r h => by simp at h), fun t v => ⟨.inr, fun h => h.resolve_left has_nil⟩⟩⟩
variable [DecidableEq T]
def GU.parts (u : GU T F) : List (GU T F) := (if u.oa = true then [] else [⟨u.a, u.a, false, false, u.f⟩]) ++ (if u.a = u.b then [] else ⟨u.a, u.b, true, true, u.f⟩ :: if u.ob = true then [] else [⟨u.b, u.b, false, false, u.f⟩])
theorem parts_mem {u x : GU T F} (h : x ∈ u.parts) : (x = ⟨u.a, u.a, false, false, u.f⟩ ∧ u.oa = false) ∨ (x = ⟨u.a, u.b, true, true, u.f⟩ ∧ u.a ≠ u.b) ∨ (x = ⟨u.b, u.b, false, false, u.f⟩ ∧ u.a ≠ u.b ∧ u.ob = false) := by
  unfold GU.parts at h
  rcases List.mem_append.1 h with h1 | h1
  · split at h1
    · cases h1
    · rename_i ho
      rw [List.mem_singleton] at h1
      exact .inl ⟨h1, by simpa using ho⟩
  · split at h1
    · cases h1
    · rename_i hi
      rcases List.mem_cons.1 h1 with h2 | h2
      · exact .inr (.inl ⟨h2, hi⟩)
      · split at h2
        · cases h2
        · rename_i ho
          rw [List.mem_singleton] at h2
          exact .inr (.inr ⟨h2, hi, by simpa using ho⟩)
theorem parts_atom {u x : GU T F} (hu : u.ok) (h : x ∈ u.parts) : x.atom := by
  unfold GU.atom GU.ok at *
  rcases parts_mem h with ⟨rfl, h1⟩ | ⟨rfl, h1⟩ | ⟨rfl, h1, h2⟩
  · exact .inl ⟨rfl, rfl, rfl⟩
  · exact .inr ⟨by simp only; grind, rfl, rfl⟩
  · exact .inl ⟨rfl, rfl, rfl⟩
theorem parts_bfr {u w x y : GU T F} (hu : u.ok) (hw : w.ok) (h : u.bfr w) (hx : x ∈ u.parts) (hy : y ∈ w.parts) : x.bfr y := by
  unfold GU.bfr GU.ok at *
  rcases parts_mem hx with ⟨rfl, h1⟩ | ⟨rfl, h1⟩ | ⟨rfl, h1, h2⟩ <;> rcases parts_mem hy with ⟨rfl, h3⟩ | ⟨rfl, h3⟩ | ⟨rfl, h3, h4⟩ <;> simp only <;> grind
theorem parts_pw {u : GU T F} (hu : u.ok) : u.parts.Pairwise GU.bfr := by
  unfold GU.parts
  refine List.pairwise_append.2 ⟨?_, ?_, fun x hx y hy => ?_⟩
  · split <;> simp
  · split
    · simp
    · refine List.pairwise_cons.2 ⟨fun y hy => ?_, ?_⟩
      · split at hy
        · cases hy
        · rw [List.mem_singleton] at hy
          subst hy
          exact .inr ⟨rfl, .inl rfl⟩
      · split <;> simp
  · split at hx
    · cases hx
    · rename_i ho
      rw [List.mem_singleton] at hx
      subst hx
      split at hy
      · cases hy
      · rename_i hi
        unfold GU.ok at hu
        rcases List.mem_cons.1 hy with h2 | h2
        · subst h2
          exact .inr ⟨rfl, .inr rfl⟩
        · split at h2
          · cases h2
          · rw [List.mem_singleton] at h2
            subst h2
            exact .inl (by simp only; grind)
theorem parts_has {u : GU T F} (hu : u.ok) {t : T} {v : V} : Has u.parts t v ↔ u.mem t ∧ va u.f t = v := by
  constructor
  · rintro ⟨x, hx, h1, h2⟩
    unfold GU.mem GU.ok at *
    rcases parts_mem hx with ⟨rfl, h3⟩ | ⟨rfl, h3⟩ | ⟨rfl, h3, h4⟩ <;> simp only at h1 h2 <;> refine ⟨?_, h2⟩ <;> grind
  · rintro ⟨h1, h2⟩
    unfold GU.parts
    rw [has_app]
    by_cases ha : u.a = t
    · have hoa : u.oa = false := by unfold GU.mem at h1; grind
      refine .inl ?_
      rw [hoa, if_neg (by decide), has_one]
      exact ⟨⟨.inr ⟨ha, rfl⟩, .inr ⟨ha.symm, rfl⟩⟩, h2⟩
    · refine .inr ?_
      have hne : u.a ≠ u.b := by unfold GU.mem GU.ok at *; grind
      rw [if_neg hne, has_cons]
      by_cases hb : t = u.b
      · have hob : u.ob = false := by unfold GU.mem at h1; grind
        refine .inr ?_
        rw [hob, if_neg (by decide), has_one]
        exact ⟨⟨.inr ⟨hb.symm, rfl⟩, .inr ⟨hb, rfl⟩⟩, h2⟩
      · refine .inl ⟨?_, h2⟩
        unfold GU.mem at *
        simp only
        grind
def partsL (us : List (GU T F)) : List (GU T F) := us.flatMap GU.parts
theorem partsL_cons (u : GU T F) (us : List (GU T F)) : partsL (u :: us) = u.parts ++ partsL us := by simp [partsL]
theorem partsL_at {us : List (GU T F)} (h : ∀ u ∈ us, u.ok) : ∀ x ∈ partsL us, x.atom := fun x hx => by
  obtain ⟨u, hu, h1⟩ := List.mem_flatMap.1 hx
  exact parts_atom (h u hu) h1
theorem partsL_pw : ∀ {us : List (GU T F)}, (∀ u ∈ us, u.ok) → us.Pairwise GU.bfr → (partsL us).Pairwise GU.bfr
  | [], _, _ => by simp [partsL]
  | u :: us, h, hp => by
    obtain ⟨h1, h2⟩ := List.pairwise_cons.1 hp
    rw [partsL_cons]
    refine List.pairwise_append.2 ⟨parts_pw (h u (.head _)), partsL_pw (fun w hw => h w (.tail _ hw)) h2, fun x hx y hy => ?_⟩
    obtain ⟨w, hw, hy⟩ := List.mem_flatMap.1 hy
    exact parts_bfr (h u (.head _)) (h w (.tail _ hw)) (h1 w hw) hx hy
theorem partsL_has : ∀ {us : List (GU T F)}, (∀ u ∈ us, u.ok) → ∀ {t : T} {v : V}, Has (partsL us) t v ↔ Has us t v
  | [], _, t, v => by simp [partsL]
  | u :: us, h, t, v => by rw [partsL_cons, has_app, parts_has (h u (.head _)), has_cons, partsL_has fun w hw => h w (.tail _ hw)]
/-- Units that lie one behind another. -/
theorem pw_of_next : ∀ {l : List (GU T F)}, (∀ u ∈ l, u.ok) → (∀ i (h : i + 1 < l.length), (l[i]).bfr l[i + 1]) → l.Pairwise GU.bfr
  | [], _, _ => .nil
  | [u], _, _ => List.pairwise_singleton _ _
  | u :: w :: l, hok, h => by
    have h1 : u.bfr w := h 0 (by simp)
    have h2 : (w :: l).Pairwise GU.bfr := pw_of_next (fun x hx => hok x (.tail _ hx)) fun i hi => h (i + 1) (by simpa using hi)
    refine List.pairwise_cons.2 ⟨fun y hy => ?_, h2⟩
    rcases List.mem_cons.1 hy with rfl | hy
    · exact h1
    · exact h1.tr (hok w (.tail _ (.head _))) ((List.pairwise_cons.1 h2).1 y hy)
def Dis (u w : GU T F) : Prop := ∀ t, ¬ (u.mem t ∧ w.mem t)
theorem Dis.symm {u w : GU T F} (h : Dis u w) : Dis w u := fun t ⟨h1, h2⟩ => h t ⟨h2, h1⟩
theorem GU.bfr.Dis {u w : GU T F} (h : u.bfr w) : Go.Vt.Dis u w := fun _ ⟨h1, h2⟩ => h.dis h1 h2
theorem bfr_of_dis {u w : GU T F} (hu : u.ok) (hw : w.ok) (hle : u.a < w.a ∨ (u.a = w.a ∧ (u.oa = true → w.oa = true))) (h : Dis u w) : u.bfr w := by
  rcases Classical.em (u.bfr w) with h0 | h0
  · exact h0
  · exfalso
    rcases Classical.em (w.a < u.b) with h1 | h1
    · rcases hw with h2 | ⟨h2, h3, h4⟩
      · obtain ⟨t, h3, h4, h5⟩ := dens2 h1 h2
        refine h t ⟨⟨.inl (by grind), .inl h4⟩, ⟨.inl h3, .inl h5⟩⟩
      · refine h w.a ⟨⟨?_, .inl h1⟩, ⟨.inr ⟨rfl, h3⟩, .inr ⟨h2, h4⟩⟩⟩
        rcases hle with h5 | ⟨h5, h6⟩
        · exact .inl h5
        · refine .inr ⟨h5, ?_⟩
          rcases ho : u.oa with _ | _
          · rfl
          · rw [h6 ho] at h3; cases h3
    · unfold GU.bfr at h0
      have h2 : u.b = w.a := by unfold GU.ok at *; grind
      have h3 : u.ob = false ∧ w.oa = false := by grind
      refine h w.a ⟨⟨?_, .inr ⟨h2.symm, h3.1⟩⟩, ⟨.inr ⟨rfl, h3.2⟩, ?_⟩⟩
      · unfold GU.ok at hu; grind
      · unfold GU.ok at hw; grind
theorem dis_perm {l m : List (GU T F)} (h : l.Perm m) : l.Pairwise Dis ↔ m.Pairwise Dis := h.pairwise_iff fun h => h.symm
theorem has_perm {l m : List (GU T F)} (h : l.Perm m) {t : T} {v : V} : Has l t v ↔ Has m t v := by
  unfold Has
  exact ⟨fun ⟨u, hu, k⟩ => ⟨u, h.mem_iff.1 hu, k⟩, fun ⟨u, hu, k⟩ => ⟨u, h.mem_iff.2 hu, k⟩⟩
end
end Go.Vt
