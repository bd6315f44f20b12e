/- Rows of structs and integers: encodings, literals, stores of parts. Written by a program (gen_row.py). Conditions: none. -/
import Derived.Test.YtgcjapcminakdaaDoorEnc
import Derived.Test.YtgcjapcminakdaaDoorLogicL
set_option linter.unusedVariables false
set_option maxRecDepth 100000
namespace Go.Vt
open Go.RowKit Go.Proofs
abbrev r_api_Real (x : R_api_Real) : Array Value := e_api_Real (q_api_Real x)
instance : Inhabited R_api_Real := ⟨zR_api_Real⟩
instance enc_api_Real : EncC r_api_Real 9 := ⟨fun _ => CsC.size, fun _ => CsC.one⟩
abbrev r_api_Interval (x : R_api_Interval) : Array Value := e_api_Interval (q_api_Interval x)
instance : Inhabited R_api_Interval := ⟨zR_api_Interval⟩
instance enc_api_Interval : EncC r_api_Interval 20 := ⟨fun _ => CsC.size, fun _ => CsC.one⟩
abbrev r_simplify_Run (x : R_simplify_Run) : Array Value := e_simplify_Run (q_simplify_Run x)
instance : Inhabited R_simplify_Run := ⟨zR_simplify_Run⟩
instance enc_simplify_Run : EncC r_simplify_Run 21 := ⟨fun _ => CsC.size, fun _ => CsC.one⟩
abbrev r_api_Point (x : R_api_Point) : Array Value := e_api_Point (q_api_Point x)
instance : Inhabited R_api_Point := ⟨zR_api_Point⟩
instance enc_api_Point : EncC r_api_Point 8 := ⟨fun _ => CsC.size, fun _ => CsC.one⟩
abbrev r_movingpoint_Sample (x : R_movingpoint_Sample) : Array Value := e_movingpoint_Sample (q_movingpoint_Sample x)
instance : Inhabited R_movingpoint_Sample := ⟨zR_movingpoint_Sample⟩
instance enc_movingpoint_Sample : EncC r_movingpoint_Sample 12 := ⟨fun _ => CsC.size, fun _ => CsC.one⟩
instance : Inhabited st_Time_X_Y := ⟨z_st_Time_X_Y⟩
instance enc_st_Time_X_Y : EncC e_st_Time_X_Y 3 := ⟨fun _ => CsC.size, fun _ => CsC.one⟩
abbrev r_api_Line (x : R_api_Line) : Array Value := e_api_Line (q_api_Line x)
instance : Inhabited R_api_Line := ⟨zR_api_Line⟩
instance enc_api_Line : EncC r_api_Line 16 := ⟨fun _ => CsC.size, fun _ => CsC.one⟩
abbrev r_api_Quad (x : R_api_Quad) : Array Value := e_api_Quad (q_api_Quad x)
instance : Inhabited R_api_Quad := ⟨zR_api_Quad⟩
instance enc_api_Quad : EncC r_api_Quad 12 := ⟨fun _ => CsC.size, fun _ => CsC.one⟩
abbrev r_api_Segment (x : R_api_Segment) : Array Value := e_api_Segment (q_api_Segment x)
instance : Inhabited R_api_Segment := ⟨zR_api_Segment⟩
instance enc_api_Segment : EncC r_api_Segment 16 := ⟨fun _ => CsC.size, fun _ => CsC.one⟩
instance st_30_0 (x : R_api_Real) (v : Rat) : StC Tryd.prog 28 (e_api_Real (q_api_Real x)) 0 (vQ v) (e_api_Real (q_api_Real { x with P := v })) := ⟨by kernel_rfl, by kernel_rfl, by kernel_rfl, by kernel_rfl⟩
instance st_30_1 (x : R_api_Real) (v : Rat) : StC Tryd.prog 28 (e_api_Real (q_api_Real x)) 4 (vQ v) (e_api_Real (q_api_Real { x with R := v })) := ⟨by kernel_rfl, by kernel_rfl, by kernel_rfl, by kernel_rfl⟩
instance st_30_2 (x : R_api_Real) (v : Bool) : StC Tryd.prog 4 (e_api_Real (q_api_Real x)) 8 (.bool v) (e_api_Real (q_api_Real { x with Neg := v })) := ⟨by kernel_rfl, by kernel_rfl, by kernel_rfl, by kernel_rfl⟩
instance st_32_0 (x : R_api_Interval) (v : R_api_Real) : StC Tryd.prog 30 (e_api_Interval (q_api_Interval x)) 0 (.agg (e_api_Real (q_api_Real v))) (e_api_Interval (q_api_Interval { x with From := v })) := ⟨by kernel_rfl, by kernel_rfl, by kernel_rfl, by kernel_rfl⟩
instance st_32_0_0 (x : R_api_Interval) (v : Rat) : StC Tryd.prog 28 (e_api_Interval (q_api_Interval x)) 0 (vQ v) (e_api_Interval (q_api_Interval { x with From := { x.From with P := v } })) := ⟨by kernel_rfl, by kernel_rfl, by kernel_rfl, by kernel_rfl⟩
instance st_32_0_1 (x : R_api_Interval) (v : Rat) : StC Tryd.prog 28 (e_api_Interval (q_api_Interval x)) 4 (vQ v) (e_api_Interval (q_api_Interval { x with From := { x.From with R := v } })) := ⟨by kernel_rfl, by kernel_rfl, by kernel_rfl, by kernel_rfl⟩
instance st_32_0_2 (x : R_api_Interval) (v : Bool) : StC Tryd.prog 4 (e_api_Interval (q_api_Interval x)) 8 (.bool v) (e_api_Interval (q_api_Interval { x with From := { x.From with Neg := v } })) := ⟨by kernel_rfl, by kernel_rfl, by kernel_rfl, by kernel_rfl⟩
instance st_32_1 (x : R_api_Interval) (v : R_api_Real) : StC Tryd.prog 30 (e_api_Interval (q_api_Interval x)) 9 (.agg (e_api_Real (q_api_Real v))) (e_api_Interval (q_api_Interval { x with To := v })) := ⟨by kernel_rfl, by kernel_rfl, by kernel_rfl, by kernel_rfl⟩
instance st_32_1_0 (x : R_api_Interval) (v : Rat) : StC Tryd.prog 28 (e_api_Interval (q_api_Interval x)) 9 (vQ v) (e_api_Interval (q_api_Interval { x with To := { x.To with P := v } })) := ⟨by kernel_rfl, by kernel_rfl, by kernel_rfl, by kernel_rfl⟩
instance st_32_1_1 (x : R_api_Interval) (v : Rat) : StC Tryd.prog 28 (e_api_Interval (q_api_Interval x)) 13 (vQ v) (e_api_Interval (q_api_Interval { x with To := { x.To with R := v } })) := ⟨by kernel_rfl, by kernel_rfl, by kernel_rfl, by kernel_rfl⟩
instance st_32_1_2 (x : R_api_Interval) (v : Bool) : StC Tryd.prog 4 (e_api_Interval (q_api_Interval x)) 17 (.bool v) (e_api_Interval (q_api_Interval { x with To := { x.To with Neg := v } })) := ⟨by kernel_rfl, by kernel_rfl, by kernel_rfl, by kernel_rfl⟩
instance st_32_2 (x : R_api_Interval) (v : Bool) : StC Tryd.prog 4 (e_api_Interval (q_api_Interval x)) 18 (.bool v) (e_api_Interval (q_api_Interval { x with OpenFrom := v })) := ⟨by kernel_rfl, by kernel_rfl, by kernel_rfl, by kernel_rfl⟩
instance st_32_3 (x : R_api_Interval) (v : Bool) : StC Tryd.prog 4 (e_api_Interval (q_api_Interval x)) 19 (.bool v) (e_api_Interval (q_api_Interval { x with OpenTo := v })) := ⟨by kernel_rfl, by kernel_rfl, by kernel_rfl, by kernel_rfl⟩
instance st_35_0 (x : R_simplify_Run) (v : R_api_Interval) : StC Tryd.prog 32 (e_simplify_Run (q_simplify_Run x)) 0 (.agg (e_api_Interval (q_api_Interval v))) (e_simplify_Run (q_simplify_Run { x with In := v })) := ⟨by kernel_rfl, by kernel_rfl, by kernel_rfl, by kernel_rfl⟩
instance st_35_0_0 (x : R_simplify_Run) (v : R_api_Real) : StC Tryd.prog 30 (e_simplify_Run (q_simplify_Run x)) 0 (.agg (e_api_Real (q_api_Real v))) (e_simplify_Run (q_simplify_Run { x with In := { x.In with From := v } })) := ⟨by kernel_rfl, by kernel_rfl, by kernel_rfl, by kernel_rfl⟩
instance st_35_0_0_0 (x : R_simplify_Run) (v : Rat) : StC Tryd.prog 28 (e_simplify_Run (q_simplify_Run x)) 0 (vQ v) (e_simplify_Run (q_simplify_Run { x with In := { x.In with From := { x.In.From with P := v } } })) := ⟨by kernel_rfl, by kernel_rfl, by kernel_rfl, by kernel_rfl⟩
instance st_35_0_0_1 (x : R_simplify_Run) (v : Rat) : StC Tryd.prog 28 (e_simplify_Run (q_simplify_Run x)) 4 (vQ v) (e_simplify_Run (q_simplify_Run { x with In := { x.In with From := { x.In.From with R := v } } })) := ⟨by kernel_rfl, by kernel_rfl, by kernel_rfl, by kernel_rfl⟩
instance st_35_0_0_2 (x : R_simplify_Run) (v : Bool) : StC Tryd.prog 4 (e_simplify_Run (q_simplify_Run x)) 8 (.bool v) (e_simplify_Run (q_simplify_Run { x with In := { x.In with From := { x.In.From with Neg := v } } })) := ⟨by kernel_rfl, by kernel_rfl, by kernel_rfl, by kernel_rfl⟩
instance st_35_0_1 (x : R_simplify_Run) (v : R_api_Real) : StC Tryd.prog 30 (e_simplify_Run (q_simplify_Run x)) 9 (.agg (e_api_Real (q_api_Real v))) (e_simplify_Run (q_simplify_Run { x with In := { x.In with To := v } })) := ⟨by kernel_rfl, by kernel_rfl, by kernel_rfl, by kernel_rfl⟩
instance st_35_0_1_0 (x : R_simplify_Run) (v : Rat) : StC Tryd.prog 28 (e_simplify_Run (q_simplify_Run x)) 9 (vQ v) (e_simplify_Run (q_simplify_Run { x with In := { x.In with To := { x.In.To with P := v } } })) := ⟨by kernel_rfl, by kernel_rfl, by kernel_rfl, by kernel_rfl⟩
instance st_35_0_1_1 (x : R_simplify_Run) (v : Rat) : StC Tryd.prog 28 (e_simplify_Run (q_simplify_Run x)) 13 (vQ v) (e_simplify_Run (q_simplify_Run { x with In := { x.In with To := { x.In.To with R := v } } })) := ⟨by kernel_rfl, by kernel_rfl, by kernel_rfl, by kernel_rfl⟩
instance st_35_0_1_2 (x : R_simplify_Run) (v : Bool) : StC Tryd.prog 4 (e_simplify_Run (q_simplify_Run x)) 17 (.bool v) (e_simplify_Run (q_simplify_Run { x with In := { x.In with To := { x.In.To with Neg := v } } })) := ⟨by kernel_rfl, by kernel_rfl, by kernel_rfl, by kernel_rfl⟩
instance st_35_0_2 (x : R_simplify_Run) (v : Bool) : StC Tryd.prog 4 (e_simplify_Run (q_simplify_Run x)) 18 (.bool v) (e_simplify_Run (q_simplify_Run { x with In := { x.In with OpenFrom := v } })) := ⟨by kernel_rfl, by kernel_rfl, by kernel_rfl, by kernel_rfl⟩
instance st_35_0_3 (x : R_simplify_Run) (v : Bool) : StC Tryd.prog 4 (e_simplify_Run (q_simplify_Run x)) 19 (.bool v) (e_simplify_Run (q_simplify_Run { x with In := { x.In with OpenTo := v } })) := ⟨by kernel_rfl, by kernel_rfl, by kernel_rfl, by kernel_rfl⟩
instance st_35_1 (x : R_simplify_Run) (a : Option Addr) (l c : Nat) : StC Tryd.prog 33 (e_simplify_Run (q_simplify_Run x)) 20 (.slice a l c) (e_simplify_Run (q_simplify_Run { x with Points := ⟨a, l, c⟩ })) := ⟨by kernel_rfl, by kernel_rfl, by kernel_rfl, by kernel_rfl⟩
instance st_50_0 (x : R_api_Point) (v : Rat) : StC Tryd.prog 28 (e_api_Point (q_api_Point x)) 0 (vQ v) (e_api_Point (q_api_Point { x with X := v })) := ⟨by kernel_rfl, by kernel_rfl, by kernel_rfl, by kernel_rfl⟩
instance st_50_1 (x : R_api_Point) (v : Rat) : StC Tryd.prog 28 (e_api_Point (q_api_Point x)) 4 (vQ v) (e_api_Point (q_api_Point { x with Y := v })) := ⟨by kernel_rfl, by kernel_rfl, by kernel_rfl, by kernel_rfl⟩
instance st_52_0 (x : R_movingpoint_Sample) (v : Rat) : StC Tryd.prog 28 (e_movingpoint_Sample (q_movingpoint_Sample x)) 0 (vQ v) (e_movingpoint_Sample (q_movingpoint_Sample { x with T := v })) := ⟨by kernel_rfl, by kernel_rfl, by kernel_rfl, by kernel_rfl⟩
instance st_52_1 (x : R_movingpoint_Sample) (v : R_api_Point) : StC Tryd.prog 50 (e_movingpoint_Sample (q_movingpoint_Sample x)) 4 (.agg (e_api_Point (q_api_Point v))) (e_movingpoint_Sample (q_movingpoint_Sample { x with P := v })) := ⟨by kernel_rfl, by kernel_rfl, by kernel_rfl, by kernel_rfl⟩
instance st_52_1_0 (x : R_movingpoint_Sample) (v : Rat) : StC Tryd.prog 28 (e_movingpoint_Sample (q_movingpoint_Sample x)) 4 (vQ v) (e_movingpoint_Sample (q_movingpoint_Sample { x with P := { x.P with X := v } })) := ⟨by kernel_rfl, by kernel_rfl, by kernel_rfl, by kernel_rfl⟩
instance st_52_1_1 (x : R_movingpoint_Sample) (v : Rat) : StC Tryd.prog 28 (e_movingpoint_Sample (q_movingpoint_Sample x)) 8 (vQ v) (e_movingpoint_Sample (q_movingpoint_Sample { x with P := { x.P with Y := v } })) := ⟨by kernel_rfl, by kernel_rfl, by kernel_rfl, by kernel_rfl⟩
instance st_73_0 (x : st_Time_X_Y) (v : Int) : StC Tryd.prog 5 (e_st_Time_X_Y x) 0 (.int .u8 v) (e_st_Time_X_Y { x with Time := v }) := ⟨by kernel_rfl, by kernel_rfl, by kernel_rfl, by kernel_rfl⟩
instance st_73_1 (x : st_Time_X_Y) (v : Int) : StC Tryd.prog 5 (e_st_Time_X_Y x) 1 (.int .u8 v) (e_st_Time_X_Y { x with X := v }) := ⟨by kernel_rfl, by kernel_rfl, by kernel_rfl, by kernel_rfl⟩
instance st_73_2 (x : st_Time_X_Y) (v : Int) : StC Tryd.prog 5 (e_st_Time_X_Y x) 2 (.int .u8 v) (e_st_Time_X_Y { x with Y := v }) := ⟨by kernel_rfl, by kernel_rfl, by kernel_rfl, by kernel_rfl⟩
instance st_97_0 (x : R_api_Line) (v : Rat) : StC Tryd.prog 28 (e_api_Line (q_api_Line x)) 0 (vQ v) (e_api_Line (q_api_Line { x with X0 := v })) := ⟨by kernel_rfl, by kernel_rfl, by kernel_rfl, by kernel_rfl⟩
instance st_97_1 (x : R_api_Line) (v : Rat) : StC Tryd.prog 28 (e_api_Line (q_api_Line x)) 4 (vQ v) (e_api_Line (q_api_Line { x with X1 := v })) := ⟨by kernel_rfl, by kernel_rfl, by kernel_rfl, by kernel_rfl⟩
instance st_97_2 (x : R_api_Line) (v : Rat) : StC Tryd.prog 28 (e_api_Line (q_api_Line x)) 8 (vQ v) (e_api_Line (q_api_Line { x with Y0 := v })) := ⟨by kernel_rfl, by kernel_rfl, by kernel_rfl, by kernel_rfl⟩
instance st_97_3 (x : R_api_Line) (v : Rat) : StC Tryd.prog 28 (e_api_Line (q_api_Line x)) 12 (vQ v) (e_api_Line (q_api_Line { x with Y1 := v })) := ⟨by kernel_rfl, by kernel_rfl, by kernel_rfl, by kernel_rfl⟩
instance st_122_0 (x : R_api_Quad) (v : Rat) : StC Tryd.prog 28 (e_api_Quad (q_api_Quad x)) 0 (vQ v) (e_api_Quad (q_api_Quad { x with C0 := v })) := ⟨by kernel_rfl, by kernel_rfl, by kernel_rfl, by kernel_rfl⟩
instance st_122_1 (x : R_api_Quad) (v : Rat) : StC Tryd.prog 28 (e_api_Quad (q_api_Quad x)) 4 (vQ v) (e_api_Quad (q_api_Quad { x with C1 := v })) := ⟨by kernel_rfl, by kernel_rfl, by kernel_rfl, by kernel_rfl⟩
instance st_122_2 (x : R_api_Quad) (v : Rat) : StC Tryd.prog 28 (e_api_Quad (q_api_Quad x)) 8 (vQ v) (e_api_Quad (q_api_Quad { x with C2 := v })) := ⟨by kernel_rfl, by kernel_rfl, by kernel_rfl, by kernel_rfl⟩
instance st_132_0 (x : R_api_Segment) (v : R_api_Point) : StC Tryd.prog 50 (e_api_Segment (q_api_Segment x)) 0 (.agg (e_api_Point (q_api_Point v))) (e_api_Segment (q_api_Segment { x with A := v })) := ⟨by kernel_rfl, by kernel_rfl, by kernel_rfl, by kernel_rfl⟩
instance st_132_0_0 (x : R_api_Segment) (v : Rat) : StC Tryd.prog 28 (e_api_Segment (q_api_Segment x)) 0 (vQ v) (e_api_Segment (q_api_Segment { x with A := { x.A with X := v } })) := ⟨by kernel_rfl, by kernel_rfl, by kernel_rfl, by kernel_rfl⟩
instance st_132_0_1 (x : R_api_Segment) (v : Rat) : StC Tryd.prog 28 (e_api_Segment (q_api_Segment x)) 4 (vQ v) (e_api_Segment (q_api_Segment { x with A := { x.A with Y := v } })) := ⟨by kernel_rfl, by kernel_rfl, by kernel_rfl, by kernel_rfl⟩
instance st_132_1 (x : R_api_Segment) (v : R_api_Point) : StC Tryd.prog 50 (e_api_Segment (q_api_Segment x)) 8 (.agg (e_api_Point (q_api_Point v))) (e_api_Segment (q_api_Segment { x with B := v })) := ⟨by kernel_rfl, by kernel_rfl, by kernel_rfl, by kernel_rfl⟩
instance st_132_1_0 (x : R_api_Segment) (v : Rat) : StC Tryd.prog 28 (e_api_Segment (q_api_Segment x)) 8 (vQ v) (e_api_Segment (q_api_Segment { x with B := { x.B with X := v } })) := ⟨by kernel_rfl, by kernel_rfl, by kernel_rfl, by kernel_rfl⟩
instance st_132_1_1 (x : R_api_Segment) (v : Rat) : StC Tryd.prog 28 (e_api_Segment (q_api_Segment x)) 12 (vQ v) (e_api_Segment (q_api_Segment { x with B := { x.B with Y := v } })) := ⟨by kernel_rfl, by kernel_rfl, by kernel_rfl, by kernel_rfl⟩
theorem bsr_33_1 (x0 : R_movingpoint_Sample) (w : World) : (Instr.buildSlice 33 1 [(0, .agg (e_movingpoint_Sample (q_movingpoint_Sample x0)))].toArray).run Tryd.prog w = .ok (.slice (some ⟨w.heap.size, 0, none⟩) 1 1) (w.alloc (.cells (row (r_movingpoint_Sample) [x0] []) 52)) := by kernel_rfl
instance (priority := high) bsi_33_1 (x0 : R_movingpoint_Sample) : BsC Tryd.prog 33 1 [(0, .agg (e_movingpoint_Sample (q_movingpoint_Sample x0)))] (row (r_movingpoint_Sample) [x0] []) 52 := ⟨bsr_33_1 x0⟩
theorem bsr_33_3 (x0 x1 x2 : R_movingpoint_Sample) (w : World) : (Instr.buildSlice 33 3 [(0, .agg (e_movingpoint_Sample (q_movingpoint_Sample x0))), (1, .agg (e_movingpoint_Sample (q_movingpoint_Sample x1))), (2, .agg (e_movingpoint_Sample (q_movingpoint_Sample x2)))].toArray).run Tryd.prog w = .ok (.slice (some ⟨w.heap.size, 0, none⟩) 3 3) (w.alloc (.cells (row (r_movingpoint_Sample) [x0, x1, x2] []) 52)) := by kernel_rfl
instance (priority := high) bsi_33_3 (x0 x1 x2 : R_movingpoint_Sample) : BsC Tryd.prog 33 3 [(0, .agg (e_movingpoint_Sample (q_movingpoint_Sample x0))), (1, .agg (e_movingpoint_Sample (q_movingpoint_Sample x1))), (2, .agg (e_movingpoint_Sample (q_movingpoint_Sample x2)))] (row (r_movingpoint_Sample) [x0, x1, x2] []) 52 := ⟨bsr_33_3 x0 x1 x2⟩
theorem bsr_33_5 (x0 x1 x2 x3 x4 : R_movingpoint_Sample) (w : World) : (Instr.buildSlice 33 5 [(0, .agg (e_movingpoint_Sample (q_movingpoint_Sample x0))), (1, .agg (e_movingpoint_Sample (q_movingpoint_Sample x1))), (2, .agg (e_movingpoint_Sample (q_movingpoint_Sample x2))), (3, .agg (e_movingpoint_Sample (q_movingpoint_Sample x3))), (4, .agg (e_movingpoint_Sample (q_movingpoint_Sample x4)))].toArray).run Tryd.prog w = .ok (.slice (some ⟨w.heap.size, 0, none⟩) 5 5) (w.alloc (.cells (row (r_movingpoint_Sample) [x0, x1, x2, x3, x4] []) 52)) := by kernel_rfl
instance (priority := high) bsi_33_5 (x0 x1 x2 x3 x4 : R_movingpoint_Sample) : BsC Tryd.prog 33 5 [(0, .agg (e_movingpoint_Sample (q_movingpoint_Sample x0))), (1, .agg (e_movingpoint_Sample (q_movingpoint_Sample x1))), (2, .agg (e_movingpoint_Sample (q_movingpoint_Sample x2))), (3, .agg (e_movingpoint_Sample (q_movingpoint_Sample x3))), (4, .agg (e_movingpoint_Sample (q_movingpoint_Sample x4)))] (row (r_movingpoint_Sample) [x0, x1, x2, x3, x4] []) 52 := ⟨bsr_33_5 x0 x1 x2 x3 x4⟩
theorem bsr_37_1 (x0 : Int) (w : World) : (Instr.buildSlice 37 1 [(0, .int .i64 x0)].toArray).run Tryd.prog w = .ok (.slice (some ⟨w.heap.size, 0, none⟩) 1 1) (w.alloc (.cells (row (eI .i64) [x0] []) 3)) := by kernel_rfl
instance (priority := high) bsi_37_1 (x0 : Int) : BsC Tryd.prog 37 1 [(0, .int .i64 x0)] (row (eI .i64) [x0] []) 3 := ⟨bsr_37_1 x0⟩
theorem bsr_37_2 (x0 x1 : Int) (w : World) : (Instr.buildSlice 37 2 [(0, .int .i64 x0), (1, .int .i64 x1)].toArray).run Tryd.prog w = .ok (.slice (some ⟨w.heap.size, 0, none⟩) 2 2) (w.alloc (.cells (row (eI .i64) [x0, x1] []) 3)) := by kernel_rfl
instance (priority := high) bsi_37_2 (x0 x1 : Int) : BsC Tryd.prog 37 2 [(0, .int .i64 x0), (1, .int .i64 x1)] (row (eI .i64) [x0, x1] []) 3 := ⟨bsr_37_2 x0 x1⟩
theorem bsr_37_5 (x0 x1 x2 x3 x4 : Int) (w : World) : (Instr.buildSlice 37 5 [(0, .int .i64 x0), (1, .int .i64 x1), (2, .int .i64 x2), (3, .int .i64 x3), (4, .int .i64 x4)].toArray).run Tryd.prog w = .ok (.slice (some ⟨w.heap.size, 0, none⟩) 5 5) (w.alloc (.cells (row (eI .i64) [x0, x1, x2, x3, x4] []) 3)) := by kernel_rfl
instance (priority := high) bsi_37_5 (x0 x1 x2 x3 x4 : Int) : BsC Tryd.prog 37 5 [(0, .int .i64 x0), (1, .int .i64 x1), (2, .int .i64 x2), (3, .int .i64 x3), (4, .int .i64 x4)] (row (eI .i64) [x0, x1, x2, x3, x4] []) 3 := ⟨bsr_37_5 x0 x1 x2 x3 x4⟩
end Go.Vt
