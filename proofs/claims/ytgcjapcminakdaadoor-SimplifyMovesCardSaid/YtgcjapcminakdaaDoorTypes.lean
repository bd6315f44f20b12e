/- The struct types of this seat's translation as Lean structures, their cells, and what loads, literals, field addresses and comparisons give. Written by a program (gen_types.py). Conditions: none. -/
import Derived.Test.YtgcjapcminakdaaDoorLogicK
import Derived.Test.YtgcjapcminakdaaDoorProg
set_option linter.unusedVariables false
set_option maxRecDepth 100000
namespace Go.Vt
open Go.RowKit Go.Proofs
/-- A slice's header. -/
structure Sl where
  a : Option Addr
  len : Nat
  cap : Nat
structure api_Int where
  Neg : Bool
  Mag : ByteArray
  deriving DecidableEq
def e_api_Int (x : api_Int) : Array Value := #[.bool x.Neg, .string x.Mag]
def z_api_Int : api_Int := ⟨false, ByteArray.empty⟩
instance cs_api_Int (x : api_Int) : CsC (e_api_Int x) 2 := ⟨by kernel_rfl, by kernel_rfl⟩
structure api_Rat where
  Num : api_Int
  Den : api_Int
  deriving DecidableEq
def e_api_Rat (x : api_Rat) : Array Value := #[.bool x.Num.Neg, .string x.Num.Mag, .bool x.Den.Neg, .string x.Den.Mag]
def z_api_Rat : api_Rat := ⟨z_api_Int, z_api_Int⟩
instance cs_api_Rat (x : api_Rat) : CsC (e_api_Rat x) 4 := ⟨by kernel_rfl, by kernel_rfl⟩
structure api_Real where
  P : api_Rat
  R : api_Rat
  Neg : Bool
  deriving DecidableEq
def e_api_Real (x : api_Real) : Array Value := #[.bool x.P.Num.Neg, .string x.P.Num.Mag, .bool x.P.Den.Neg, .string x.P.Den.Mag, .bool x.R.Num.Neg, .string x.R.Num.Mag, .bool x.R.Den.Neg, .string x.R.Den.Mag, .bool x.Neg]
def z_api_Real : api_Real := ⟨z_api_Rat, z_api_Rat, false⟩
instance cs_api_Real (x : api_Real) : CsC (e_api_Real x) 9 := ⟨by kernel_rfl, by kernel_rfl⟩
structure api_Interval where
  From : api_Real
  To : api_Real
  OpenFrom : Bool
  OpenTo : Bool
  deriving DecidableEq
def e_api_Interval (x : api_Interval) : Array Value := #[.bool x.From.P.Num.Neg, .string x.From.P.Num.Mag, .bool x.From.P.Den.Neg, .string x.From.P.Den.Mag, .bool x.From.R.Num.Neg, .string x.From.R.Num.Mag, .bool x.From.R.Den.Neg, .string x.From.R.Den.Mag, .bool x.From.Neg, .bool x.To.P.Num.Neg, .string x.To.P.Num.Mag, .bool x.To.P.Den.Neg, .string x.To.P.Den.Mag, .bool x.To.R.Num.Neg, .string x.To.R.Num.Mag, .bool x.To.R.Den.Neg, .string x.To.R.Den.Mag, .bool x.To.Neg, .bool x.OpenFrom, .bool x.OpenTo]
def z_api_Interval : api_Interval := ⟨z_api_Real, z_api_Real, false, false⟩
instance cs_api_Interval (x : api_Interval) : CsC (e_api_Interval x) 20 := ⟨by kernel_rfl, by kernel_rfl⟩
structure simplify_Run where
  In : api_Interval
  Points : Sl
def e_simplify_Run (x : simplify_Run) : Array Value := #[.bool x.In.From.P.Num.Neg, .string x.In.From.P.Num.Mag, .bool x.In.From.P.Den.Neg, .string x.In.From.P.Den.Mag, .bool x.In.From.R.Num.Neg, .string x.In.From.R.Num.Mag, .bool x.In.From.R.Den.Neg, .string x.In.From.R.Den.Mag, .bool x.In.From.Neg, .bool x.In.To.P.Num.Neg, .string x.In.To.P.Num.Mag, .bool x.In.To.P.Den.Neg, .string x.In.To.P.Den.Mag, .bool x.In.To.R.Num.Neg, .string x.In.To.R.Num.Mag, .bool x.In.To.R.Den.Neg, .string x.In.To.R.Den.Mag, .bool x.In.To.Neg, .bool x.In.OpenFrom, .bool x.In.OpenTo, .slice x.Points.a x.Points.len x.Points.cap]
def z_simplify_Run : simplify_Run := ⟨z_api_Interval, ⟨none, 0, 0⟩⟩
instance cs_simplify_Run (x : simplify_Run) : CsC (e_simplify_Run x) 21 := ⟨by kernel_rfl, by kernel_rfl⟩
structure api_Point where
  X : api_Rat
  Y : api_Rat
  deriving DecidableEq
def e_api_Point (x : api_Point) : Array Value := #[.bool x.X.Num.Neg, .string x.X.Num.Mag, .bool x.X.Den.Neg, .string x.X.Den.Mag, .bool x.Y.Num.Neg, .string x.Y.Num.Mag, .bool x.Y.Den.Neg, .string x.Y.Den.Mag]
def z_api_Point : api_Point := ⟨z_api_Rat, z_api_Rat⟩
instance cs_api_Point (x : api_Point) : CsC (e_api_Point x) 8 := ⟨by kernel_rfl, by kernel_rfl⟩
structure movingpoint_Sample where
  T : api_Rat
  P : api_Point
  deriving DecidableEq
def e_movingpoint_Sample (x : movingpoint_Sample) : Array Value := #[.bool x.T.Num.Neg, .string x.T.Num.Mag, .bool x.T.Den.Neg, .string x.T.Den.Mag, .bool x.P.X.Num.Neg, .string x.P.X.Num.Mag, .bool x.P.X.Den.Neg, .string x.P.X.Den.Mag, .bool x.P.Y.Num.Neg, .string x.P.Y.Num.Mag, .bool x.P.Y.Den.Neg, .string x.P.Y.Den.Mag]
def z_movingpoint_Sample : movingpoint_Sample := ⟨z_api_Rat, z_api_Point⟩
instance cs_movingpoint_Sample (x : movingpoint_Sample) : CsC (e_movingpoint_Sample x) 12 := ⟨by kernel_rfl, by kernel_rfl⟩
structure st_Time_X_Y where
  Time : Int
  X : Int
  Y : Int
  deriving DecidableEq
def e_st_Time_X_Y (x : st_Time_X_Y) : Array Value := #[.int .u8 x.Time, .int .u8 x.X, .int .u8 x.Y]
def z_st_Time_X_Y : st_Time_X_Y := ⟨0, 0, 0⟩
instance cs_st_Time_X_Y (x : st_Time_X_Y) : CsC (e_st_Time_X_Y x) 3 := ⟨by kernel_rfl, by kernel_rfl⟩
structure api_Line where
  X0 : api_Rat
  X1 : api_Rat
  Y0 : api_Rat
  Y1 : api_Rat
  deriving DecidableEq
def e_api_Line (x : api_Line) : Array Value := #[.bool x.X0.Num.Neg, .string x.X0.Num.Mag, .bool x.X0.Den.Neg, .string x.X0.Den.Mag, .bool x.X1.Num.Neg, .string x.X1.Num.Mag, .bool x.X1.Den.Neg, .string x.X1.Den.Mag, .bool x.Y0.Num.Neg, .string x.Y0.Num.Mag, .bool x.Y0.Den.Neg, .string x.Y0.Den.Mag, .bool x.Y1.Num.Neg, .string x.Y1.Num.Mag, .bool x.Y1.Den.Neg, .string x.Y1.Den.Mag]
def z_api_Line : api_Line := ⟨z_api_Rat, z_api_Rat, z_api_Rat, z_api_Rat⟩
instance cs_api_Line (x : api_Line) : CsC (e_api_Line x) 16 := ⟨by kernel_rfl, by kernel_rfl⟩
structure api_Quad where
  C0 : api_Rat
  C1 : api_Rat
  C2 : api_Rat
  deriving DecidableEq
def e_api_Quad (x : api_Quad) : Array Value := #[.bool x.C0.Num.Neg, .string x.C0.Num.Mag, .bool x.C0.Den.Neg, .string x.C0.Den.Mag, .bool x.C1.Num.Neg, .string x.C1.Num.Mag, .bool x.C1.Den.Neg, .string x.C1.Den.Mag, .bool x.C2.Num.Neg, .string x.C2.Num.Mag, .bool x.C2.Den.Neg, .string x.C2.Den.Mag]
def z_api_Quad : api_Quad := ⟨z_api_Rat, z_api_Rat, z_api_Rat⟩
instance cs_api_Quad (x : api_Quad) : CsC (e_api_Quad x) 12 := ⟨by kernel_rfl, by kernel_rfl⟩
structure api_Segment where
  A : api_Point
  B : api_Point
  deriving DecidableEq
def e_api_Segment (x : api_Segment) : Array Value := #[.bool x.A.X.Num.Neg, .string x.A.X.Num.Mag, .bool x.A.X.Den.Neg, .string x.A.X.Den.Mag, .bool x.A.Y.Num.Neg, .string x.A.Y.Num.Mag, .bool x.A.Y.Den.Neg, .string x.A.Y.Den.Mag, .bool x.B.X.Num.Neg, .string x.B.X.Num.Mag, .bool x.B.X.Den.Neg, .string x.B.X.Den.Mag, .bool x.B.Y.Num.Neg, .string x.B.Y.Num.Mag, .bool x.B.Y.Den.Neg, .string x.B.Y.Den.Mag]
def z_api_Segment : api_Segment := ⟨z_api_Point, z_api_Point⟩
instance cs_api_Segment (x : api_Segment) : CsC (e_api_Segment x) 16 := ⟨by kernel_rfl, by kernel_rfl⟩
instance und_2 : UndC Tryd.prog 2 (.int .i64) := ⟨by kernel_rfl⟩
instance und_3 : UndC Tryd.prog 3 (.int .i64) := ⟨by kernel_rfl⟩
instance und_4 : UndC Tryd.prog 4 (.bool) := ⟨by kernel_rfl⟩
instance und_5 : UndC Tryd.prog 5 (.int .u8) := ⟨by kernel_rfl⟩
instance und_6 : UndC Tryd.prog 6 (.int .u8) := ⟨by kernel_rfl⟩
instance und_9 : UndC Tryd.prog 9 (.string) := ⟨by kernel_rfl⟩
instance und_10 : UndC Tryd.prog 10 (.string) := ⟨by kernel_rfl⟩
instance und_11 : UndC Tryd.prog 11 (.string) := ⟨by kernel_rfl⟩
instance und_12 : UndC Tryd.prog 12 (.int .u64) := ⟨by kernel_rfl⟩
instance und_21 : UndC Tryd.prog 21 (.int .i32) := ⟨by kernel_rfl⟩
instance und_22 : UndC Tryd.prog 22 (.slice 73) := ⟨by kernel_rfl⟩
instance und_23 : UndC Tryd.prog 23 (.slice 73) := ⟨by kernel_rfl⟩
instance und_33 : UndC Tryd.prog 33 (.slice 52) := ⟨by kernel_rfl⟩
instance und_37 : UndC Tryd.prog 37 (.slice 3) := ⟨by kernel_rfl⟩
instance und_38 : UndC Tryd.prog 38 (.int .i64) := ⟨by kernel_rfl⟩
instance und_46 : UndC Tryd.prog 46 (.int .i8) := ⟨by kernel_rfl⟩
instance und_89 : UndC Tryd.prog 89 (.int .u64) := ⟨by kernel_rfl⟩
instance und_105 : UndC Tryd.prog 105 (.slice 5) := ⟨by kernel_rfl⟩
instance und_114 : UndC Tryd.prog 114 (.slice 117) := ⟨by kernel_rfl⟩
instance und_115 : UndC Tryd.prog 115 (.slice 117) := ⟨by kernel_rfl⟩
instance und_117 : UndC Tryd.prog 117 (.int .u32) := ⟨by kernel_rfl⟩
instance und_118 : UndC Tryd.prog 118 (.int .u64) := ⟨by kernel_rfl⟩
instance und_168 : UndC Tryd.prog 168 (.int .u8) := ⟨by kernel_rfl⟩
instance und_169 : UndC Tryd.prog 169 (.int .u8) := ⟨by kernel_rfl⟩
instance und_172 : UndC Tryd.prog 172 (.int .i32) := ⟨by kernel_rfl⟩
instance und_173 : UndC Tryd.prog 173 (.int .i32) := ⟨by kernel_rfl⟩
instance und_47 : UndC Tryd.prog 47 (.array 3 46) := ⟨by kernel_rfl⟩
instance und_104 : UndC Tryd.prog 104 (.array 8 5) := ⟨by kernel_rfl⟩
instance und_144 : UndC Tryd.prog 144 (.array 256 4) := ⟨by kernel_rfl⟩
instance und_145 : UndC Tryd.prog 145 (.array 256 4) := ⟨by kernel_rfl⟩
instance und_155 : UndC Tryd.prog 155 (.array 256 5) := ⟨by kernel_rfl⟩
instance und_158 : UndC Tryd.prog 158 (.array 16 157) := ⟨by kernel_rfl⟩
instance und_164 : UndC Tryd.prog 164 (.array 0 16) := ⟨by kernel_rfl⟩
instance bytes_3 : BytesC Tryd.prog 3 8 := ⟨by kernel_rfl⟩
instance bytes_4 : BytesC Tryd.prog 4 1 := ⟨by kernel_rfl⟩
instance bytes_5 : BytesC Tryd.prog 5 1 := ⟨by kernel_rfl⟩
instance bytes_9 : BytesC Tryd.prog 9 16 := ⟨by kernel_rfl⟩
instance bytes_16 : BytesC Tryd.prog 16 8 := ⟨by kernel_rfl⟩
instance bytes_26 : BytesC Tryd.prog 26 24 := ⟨by kernel_rfl⟩
instance bytes_28 : BytesC Tryd.prog 28 48 := ⟨by kernel_rfl⟩
instance bytes_30 : BytesC Tryd.prog 30 104 := ⟨by kernel_rfl⟩
instance bytes_32 : BytesC Tryd.prog 32 216 := ⟨by kernel_rfl⟩
instance bytes_33 : BytesC Tryd.prog 33 24 := ⟨by kernel_rfl⟩
instance bytes_35 : BytesC Tryd.prog 35 240 := ⟨by kernel_rfl⟩
instance bytes_46 : BytesC Tryd.prog 46 1 := ⟨by kernel_rfl⟩
instance bytes_50 : BytesC Tryd.prog 50 96 := ⟨by kernel_rfl⟩
instance bytes_52 : BytesC Tryd.prog 52 144 := ⟨by kernel_rfl⟩
instance bytes_73 : BytesC Tryd.prog 73 3 := ⟨by kernel_rfl⟩
instance bytes_97 : BytesC Tryd.prog 97 192 := ⟨by kernel_rfl⟩
instance bytes_104 : BytesC Tryd.prog 104 8 := ⟨by kernel_rfl⟩
instance bytes_117 : BytesC Tryd.prog 117 4 := ⟨by kernel_rfl⟩
instance bytes_122 : BytesC Tryd.prog 122 144 := ⟨by kernel_rfl⟩
instance bytes_157 : BytesC Tryd.prog 157 2 := ⟨by kernel_rfl⟩
instance zero_3 : ZeroC Tryd.prog 3 (.int .i64 0) #[.int .i64 0] := ⟨by kernel_rfl, by kernel_rfl⟩
instance size_3 : SizeC Tryd.prog 3 1 := ⟨by kernel_rfl⟩
instance one_3 (x : Int) : LdC Tryd.prog 3 #[.int .i64 x] 0 (.int .i64 x) := ⟨ldv_one (by kernel_rfl) (by kernel_rfl)⟩
instance zero_4 : ZeroC Tryd.prog 4 (.bool false) #[.bool false] := ⟨by kernel_rfl, by kernel_rfl⟩
instance size_4 : SizeC Tryd.prog 4 1 := ⟨by kernel_rfl⟩
instance one_4 (x : Bool) : LdC Tryd.prog 4 #[.bool x] 0 (.bool x) := ⟨ldv_one (by kernel_rfl) (by kernel_rfl)⟩
instance zero_5 : ZeroC Tryd.prog 5 (.int .u8 0) #[.int .u8 0] := ⟨by kernel_rfl, by kernel_rfl⟩
instance size_5 : SizeC Tryd.prog 5 1 := ⟨by kernel_rfl⟩
instance one_5 (x : Int) : LdC Tryd.prog 5 #[.int .u8 x] 0 (.int .u8 x) := ⟨ldv_one (by kernel_rfl) (by kernel_rfl)⟩
instance zero_9 : ZeroC Tryd.prog 9 (.string ByteArray.empty) #[.string ByteArray.empty] := ⟨by kernel_rfl, by kernel_rfl⟩
instance size_9 : SizeC Tryd.prog 9 1 := ⟨by kernel_rfl⟩
instance one_9 (x : ByteArray) : LdC Tryd.prog 9 #[.string x] 0 (.string x) := ⟨ldv_one (by kernel_rfl) (by kernel_rfl)⟩
instance zero_26 : ZeroC Tryd.prog 26 (.agg (e_api_Int z_api_Int)) (e_api_Int z_api_Int) := ⟨by kernel_rfl, by kernel_rfl⟩
instance size_26 : SizeC Tryd.prog 26 2 := ⟨by kernel_rfl⟩
instance zero_28 : ZeroC Tryd.prog 28 (.agg (e_api_Rat z_api_Rat)) (e_api_Rat z_api_Rat) := ⟨by kernel_rfl, by kernel_rfl⟩
instance size_28 : SizeC Tryd.prog 28 4 := ⟨by kernel_rfl⟩
instance zero_30 : ZeroC Tryd.prog 30 (.agg (e_api_Real z_api_Real)) (e_api_Real z_api_Real) := ⟨by kernel_rfl, by kernel_rfl⟩
instance size_30 : SizeC Tryd.prog 30 9 := ⟨by kernel_rfl⟩
instance zero_32 : ZeroC Tryd.prog 32 (.agg (e_api_Interval z_api_Interval)) (e_api_Interval z_api_Interval) := ⟨by kernel_rfl, by kernel_rfl⟩
instance size_32 : SizeC Tryd.prog 32 20 := ⟨by kernel_rfl⟩
instance zero_33 : ZeroC Tryd.prog 33 (.slice none 0 0) #[.slice none 0 0] := ⟨by kernel_rfl, by kernel_rfl⟩
instance size_33 : SizeC Tryd.prog 33 1 := ⟨by kernel_rfl⟩
instance one_33 (x : Option Addr) (l c : Nat) : LdC Tryd.prog 33 #[.slice x l c] 0 (.slice x l c) := ⟨ldv_one (by kernel_rfl) (by kernel_rfl)⟩
instance zero_35 : ZeroC Tryd.prog 35 (.agg (e_simplify_Run z_simplify_Run)) (e_simplify_Run z_simplify_Run) := ⟨by kernel_rfl, by kernel_rfl⟩
instance size_35 : SizeC Tryd.prog 35 21 := ⟨by kernel_rfl⟩
instance zero_46 : ZeroC Tryd.prog 46 (.int .i8 0) #[.int .i8 0] := ⟨by kernel_rfl, by kernel_rfl⟩
instance size_46 : SizeC Tryd.prog 46 1 := ⟨by kernel_rfl⟩
instance one_46 (x : Int) : LdC Tryd.prog 46 #[.int .i8 x] 0 (.int .i8 x) := ⟨ldv_one (by kernel_rfl) (by kernel_rfl)⟩
instance zero_50 : ZeroC Tryd.prog 50 (.agg (e_api_Point z_api_Point)) (e_api_Point z_api_Point) := ⟨by kernel_rfl, by kernel_rfl⟩
instance size_50 : SizeC Tryd.prog 50 8 := ⟨by kernel_rfl⟩
instance zero_52 : ZeroC Tryd.prog 52 (.agg (e_movingpoint_Sample z_movingpoint_Sample)) (e_movingpoint_Sample z_movingpoint_Sample) := ⟨by kernel_rfl, by kernel_rfl⟩
instance size_52 : SizeC Tryd.prog 52 12 := ⟨by kernel_rfl⟩
instance zero_73 : ZeroC Tryd.prog 73 (.agg (e_st_Time_X_Y z_st_Time_X_Y)) (e_st_Time_X_Y z_st_Time_X_Y) := ⟨by kernel_rfl, by kernel_rfl⟩
instance size_73 : SizeC Tryd.prog 73 3 := ⟨by kernel_rfl⟩
instance zero_97 : ZeroC Tryd.prog 97 (.agg (e_api_Line z_api_Line)) (e_api_Line z_api_Line) := ⟨by kernel_rfl, by kernel_rfl⟩
instance size_97 : SizeC Tryd.prog 97 16 := ⟨by kernel_rfl⟩
instance zero_104 : ZeroC Tryd.prog 104 (.agg (nums .u8 [0, 0, 0, 0, 0, 0, 0, 0])) (nums .u8 [0, 0, 0, 0, 0, 0, 0, 0]) := ⟨by kernel_rfl, by kernel_rfl⟩
instance size_104 : SizeC Tryd.prog 104 8 := ⟨by kernel_rfl⟩
instance zero_117 : ZeroC Tryd.prog 117 (.int .u32 0) #[.int .u32 0] := ⟨by kernel_rfl, by kernel_rfl⟩
instance size_117 : SizeC Tryd.prog 117 1 := ⟨by kernel_rfl⟩
instance one_117 (x : Int) : LdC Tryd.prog 117 #[.int .u32 x] 0 (.int .u32 x) := ⟨ldv_one (by kernel_rfl) (by kernel_rfl)⟩
instance zero_122 : ZeroC Tryd.prog 122 (.agg (e_api_Quad z_api_Quad)) (e_api_Quad z_api_Quad) := ⟨by kernel_rfl, by kernel_rfl⟩
instance size_122 : SizeC Tryd.prog 122 12 := ⟨by kernel_rfl⟩
instance fa_26_0 : FaC Tryd.prog 26 0 0 := ⟨fun b o w => by kernel_rfl⟩
instance fa_26_1 : FaC Tryd.prog 26 1 1 := ⟨fun b o w => by kernel_rfl⟩
instance fa_28_0 : FaC Tryd.prog 28 0 0 := ⟨fun b o w => by kernel_rfl⟩
instance fa_28_1 : FaC Tryd.prog 28 1 2 := ⟨fun b o w => by kernel_rfl⟩
instance fa_30_0 : FaC Tryd.prog 30 0 0 := ⟨fun b o w => by kernel_rfl⟩
instance fa_30_1 : FaC Tryd.prog 30 1 4 := ⟨fun b o w => by kernel_rfl⟩
instance fa_30_2 : FaC Tryd.prog 30 2 8 := ⟨fun b o w => by kernel_rfl⟩
instance fa_32_0 : FaC Tryd.prog 32 0 0 := ⟨fun b o w => by kernel_rfl⟩
instance fa_32_1 : FaC Tryd.prog 32 1 9 := ⟨fun b o w => by kernel_rfl⟩
instance fa_32_2 : FaC Tryd.prog 32 2 18 := ⟨fun b o w => by kernel_rfl⟩
instance fa_32_3 : FaC Tryd.prog 32 3 19 := ⟨fun b o w => by kernel_rfl⟩
instance fa_35_0 : FaC Tryd.prog 35 0 0 := ⟨fun b o w => by kernel_rfl⟩
instance fa_35_1 : FaC Tryd.prog 35 1 20 := ⟨fun b o w => by kernel_rfl⟩
instance fa_50_0 : FaC Tryd.prog 50 0 0 := ⟨fun b o w => by kernel_rfl⟩
instance fa_50_1 : FaC Tryd.prog 50 1 4 := ⟨fun b o w => by kernel_rfl⟩
instance fa_52_0 : FaC Tryd.prog 52 0 0 := ⟨fun b o w => by kernel_rfl⟩
instance fa_52_1 : FaC Tryd.prog 52 1 4 := ⟨fun b o w => by kernel_rfl⟩
instance fa_73_0 : FaC Tryd.prog 73 0 0 := ⟨fun b o w => by kernel_rfl⟩
instance fa_73_1 : FaC Tryd.prog 73 1 1 := ⟨fun b o w => by kernel_rfl⟩
instance fa_73_2 : FaC Tryd.prog 73 2 2 := ⟨fun b o w => by kernel_rfl⟩
instance fa_97_0 : FaC Tryd.prog 97 0 0 := ⟨fun b o w => by kernel_rfl⟩
instance fa_97_1 : FaC Tryd.prog 97 1 4 := ⟨fun b o w => by kernel_rfl⟩
instance fa_97_2 : FaC Tryd.prog 97 2 8 := ⟨fun b o w => by kernel_rfl⟩
instance fa_97_3 : FaC Tryd.prog 97 3 12 := ⟨fun b o w => by kernel_rfl⟩
instance fa_122_0 : FaC Tryd.prog 122 0 0 := ⟨fun b o w => by kernel_rfl⟩
instance fa_122_1 : FaC Tryd.prog 122 1 4 := ⟨fun b o w => by kernel_rfl⟩
instance fa_122_2 : FaC Tryd.prog 122 2 8 := ⟨fun b o w => by kernel_rfl⟩
instance fa_132_0 : FaC Tryd.prog 132 0 0 := ⟨fun b o w => by kernel_rfl⟩
instance fa_132_1 : FaC Tryd.prog 132 1 8 := ⟨fun b o w => by kernel_rfl⟩
instance fo_26_0_0 : FaO Tryd.prog 26 0 0 0 := ⟨fun b w => by kernel_rfl⟩
instance fo_26_0_2 : FaO Tryd.prog 26 0 2 2 := ⟨fun b w => by kernel_rfl⟩
instance fo_26_0_4 : FaO Tryd.prog 26 0 4 4 := ⟨fun b w => by kernel_rfl⟩
instance fo_26_0_6 : FaO Tryd.prog 26 0 6 6 := ⟨fun b w => by kernel_rfl⟩
instance fo_26_0_8 : FaO Tryd.prog 26 0 8 8 := ⟨fun b w => by kernel_rfl⟩
instance fo_26_0_9 : FaO Tryd.prog 26 0 9 9 := ⟨fun b w => by kernel_rfl⟩
instance fo_26_0_10 : FaO Tryd.prog 26 0 10 10 := ⟨fun b w => by kernel_rfl⟩
instance fo_26_0_11 : FaO Tryd.prog 26 0 11 11 := ⟨fun b w => by kernel_rfl⟩
instance fo_26_0_12 : FaO Tryd.prog 26 0 12 12 := ⟨fun b w => by kernel_rfl⟩
instance fo_26_0_13 : FaO Tryd.prog 26 0 13 13 := ⟨fun b w => by kernel_rfl⟩
instance fo_26_0_14 : FaO Tryd.prog 26 0 14 14 := ⟨fun b w => by kernel_rfl⟩
instance fo_26_0_15 : FaO Tryd.prog 26 0 15 15 := ⟨fun b w => by kernel_rfl⟩
instance fo_26_1_0 : FaO Tryd.prog 26 1 0 1 := ⟨fun b w => by kernel_rfl⟩
instance fo_26_1_2 : FaO Tryd.prog 26 1 2 3 := ⟨fun b w => by kernel_rfl⟩
instance fo_26_1_4 : FaO Tryd.prog 26 1 4 5 := ⟨fun b w => by kernel_rfl⟩
instance fo_26_1_6 : FaO Tryd.prog 26 1 6 7 := ⟨fun b w => by kernel_rfl⟩
instance fo_26_1_8 : FaO Tryd.prog 26 1 8 9 := ⟨fun b w => by kernel_rfl⟩
instance fo_26_1_9 : FaO Tryd.prog 26 1 9 10 := ⟨fun b w => by kernel_rfl⟩
instance fo_26_1_10 : FaO Tryd.prog 26 1 10 11 := ⟨fun b w => by kernel_rfl⟩
instance fo_26_1_11 : FaO Tryd.prog 26 1 11 12 := ⟨fun b w => by kernel_rfl⟩
instance fo_26_1_12 : FaO Tryd.prog 26 1 12 13 := ⟨fun b w => by kernel_rfl⟩
instance fo_26_1_13 : FaO Tryd.prog 26 1 13 14 := ⟨fun b w => by kernel_rfl⟩
instance fo_26_1_14 : FaO Tryd.prog 26 1 14 15 := ⟨fun b w => by kernel_rfl⟩
instance fo_26_1_15 : FaO Tryd.prog 26 1 15 16 := ⟨fun b w => by kernel_rfl⟩
instance fo_28_0_0 : FaO Tryd.prog 28 0 0 0 := ⟨fun b w => by kernel_rfl⟩
instance fo_28_0_4 : FaO Tryd.prog 28 0 4 4 := ⟨fun b w => by kernel_rfl⟩
instance fo_28_0_8 : FaO Tryd.prog 28 0 8 8 := ⟨fun b w => by kernel_rfl⟩
instance fo_28_0_9 : FaO Tryd.prog 28 0 9 9 := ⟨fun b w => by kernel_rfl⟩
instance fo_28_0_12 : FaO Tryd.prog 28 0 12 12 := ⟨fun b w => by kernel_rfl⟩
instance fo_28_0_13 : FaO Tryd.prog 28 0 13 13 := ⟨fun b w => by kernel_rfl⟩
instance fo_28_1_0 : FaO Tryd.prog 28 1 0 2 := ⟨fun b w => by kernel_rfl⟩
instance fo_28_1_4 : FaO Tryd.prog 28 1 4 6 := ⟨fun b w => by kernel_rfl⟩
instance fo_28_1_8 : FaO Tryd.prog 28 1 8 10 := ⟨fun b w => by kernel_rfl⟩
instance fo_28_1_9 : FaO Tryd.prog 28 1 9 11 := ⟨fun b w => by kernel_rfl⟩
instance fo_28_1_12 : FaO Tryd.prog 28 1 12 14 := ⟨fun b w => by kernel_rfl⟩
instance fo_28_1_13 : FaO Tryd.prog 28 1 13 15 := ⟨fun b w => by kernel_rfl⟩
instance fo_30_0_0 : FaO Tryd.prog 30 0 0 0 := ⟨fun b w => by kernel_rfl⟩
instance fo_30_0_9 : FaO Tryd.prog 30 0 9 9 := ⟨fun b w => by kernel_rfl⟩
instance fo_30_1_0 : FaO Tryd.prog 30 1 0 4 := ⟨fun b w => by kernel_rfl⟩
instance fo_30_1_9 : FaO Tryd.prog 30 1 9 13 := ⟨fun b w => by kernel_rfl⟩
instance fo_32_0_0 : FaO Tryd.prog 32 0 0 0 := ⟨fun b w => by kernel_rfl⟩
instance fo_32_1_0 : FaO Tryd.prog 32 1 0 9 := ⟨fun b w => by kernel_rfl⟩
instance fo_32_2_0 : FaO Tryd.prog 32 2 0 18 := ⟨fun b w => by kernel_rfl⟩
instance fo_32_3_0 : FaO Tryd.prog 32 3 0 19 := ⟨fun b w => by kernel_rfl⟩
instance fo_35_0_0 : FaO Tryd.prog 35 0 0 0 := ⟨fun b w => by kernel_rfl⟩
instance fo_35_1_0 : FaO Tryd.prog 35 1 0 20 := ⟨fun b w => by kernel_rfl⟩
instance fo_50_0_0 : FaO Tryd.prog 50 0 0 0 := ⟨fun b w => by kernel_rfl⟩
instance fo_50_0_4 : FaO Tryd.prog 50 0 4 4 := ⟨fun b w => by kernel_rfl⟩
instance fo_50_0_8 : FaO Tryd.prog 50 0 8 8 := ⟨fun b w => by kernel_rfl⟩
instance fo_50_1_0 : FaO Tryd.prog 50 1 0 4 := ⟨fun b w => by kernel_rfl⟩
instance fo_50_1_4 : FaO Tryd.prog 50 1 4 8 := ⟨fun b w => by kernel_rfl⟩
instance fo_50_1_8 : FaO Tryd.prog 50 1 8 12 := ⟨fun b w => by kernel_rfl⟩
instance fo_52_0_0 : FaO Tryd.prog 52 0 0 0 := ⟨fun b w => by kernel_rfl⟩
instance fo_52_1_0 : FaO Tryd.prog 52 1 0 4 := ⟨fun b w => by kernel_rfl⟩
instance fo_73_0_0 : FaO Tryd.prog 73 0 0 0 := ⟨fun b w => by kernel_rfl⟩
instance fo_73_1_0 : FaO Tryd.prog 73 1 0 1 := ⟨fun b w => by kernel_rfl⟩
instance fo_73_2_0 : FaO Tryd.prog 73 2 0 2 := ⟨fun b w => by kernel_rfl⟩
instance fo_97_0_0 : FaO Tryd.prog 97 0 0 0 := ⟨fun b w => by kernel_rfl⟩
instance fo_97_1_0 : FaO Tryd.prog 97 1 0 4 := ⟨fun b w => by kernel_rfl⟩
instance fo_97_2_0 : FaO Tryd.prog 97 2 0 8 := ⟨fun b w => by kernel_rfl⟩
instance fo_97_3_0 : FaO Tryd.prog 97 3 0 12 := ⟨fun b w => by kernel_rfl⟩
instance fo_122_0_0 : FaO Tryd.prog 122 0 0 0 := ⟨fun b w => by kernel_rfl⟩
instance fo_122_1_0 : FaO Tryd.prog 122 1 0 4 := ⟨fun b w => by kernel_rfl⟩
instance fo_122_2_0 : FaO Tryd.prog 122 2 0 8 := ⟨fun b w => by kernel_rfl⟩
instance fo_132_0_0 : FaO Tryd.prog 132 0 0 0 := ⟨fun b w => by kernel_rfl⟩
instance fo_132_1_0 : FaO Tryd.prog 132 1 0 8 := ⟨fun b w => by kernel_rfl⟩
instance fd_52_1 (x : movingpoint_Sample) : FdC Tryd.prog 52 (.agg (e_movingpoint_Sample x)) 1 (.agg (e_api_Point x.P)) := ⟨fun w => by kernel_rfl⟩
instance ld_26_26_0 (x : api_Int) : LdC Tryd.prog 26 (e_api_Int x) 0 (.agg (e_api_Int x)) := ⟨ldv_agg 2 (by kernel_rfl) (by kernel_rfl) (by kernel_rfl)⟩
instance ld_26_4_0 (x : api_Int) : LdC Tryd.prog 4 (e_api_Int x) 0 (.bool x.Neg) := ⟨ldv_one (by kernel_rfl) (by kernel_rfl)⟩
instance ld_26_9_1 (x : api_Int) : LdC Tryd.prog 9 (e_api_Int x) 1 (.string x.Mag) := ⟨ldv_one (by kernel_rfl) (by kernel_rfl)⟩
instance ld_28_28_0 (x : api_Rat) : LdC Tryd.prog 28 (e_api_Rat x) 0 (.agg (e_api_Rat x)) := ⟨ldv_agg 4 (by kernel_rfl) (by kernel_rfl) (by kernel_rfl)⟩
instance ld_28_26_0 (x : api_Rat) : LdC Tryd.prog 26 (e_api_Rat x) 0 (.agg (e_api_Int x.Num)) := ⟨ldv_agg 2 (by kernel_rfl) (by kernel_rfl) (by kernel_rfl)⟩
instance ld_28_4_0 (x : api_Rat) : LdC Tryd.prog 4 (e_api_Rat x) 0 (.bool x.Num.Neg) := ⟨ldv_one (by kernel_rfl) (by kernel_rfl)⟩
instance ld_28_9_1 (x : api_Rat) : LdC Tryd.prog 9 (e_api_Rat x) 1 (.string x.Num.Mag) := ⟨ldv_one (by kernel_rfl) (by kernel_rfl)⟩
instance ld_28_26_2 (x : api_Rat) : LdC Tryd.prog 26 (e_api_Rat x) 2 (.agg (e_api_Int x.Den)) := ⟨ldv_agg 2 (by kernel_rfl) (by kernel_rfl) (by kernel_rfl)⟩
instance ld_28_4_2 (x : api_Rat) : LdC Tryd.prog 4 (e_api_Rat x) 2 (.bool x.Den.Neg) := ⟨ldv_one (by kernel_rfl) (by kernel_rfl)⟩
instance ld_28_9_3 (x : api_Rat) : LdC Tryd.prog 9 (e_api_Rat x) 3 (.string x.Den.Mag) := ⟨ldv_one (by kernel_rfl) (by kernel_rfl)⟩
instance ld_30_30_0 (x : api_Real) : LdC Tryd.prog 30 (e_api_Real x) 0 (.agg (e_api_Real x)) := ⟨ldv_agg 9 (by kernel_rfl) (by kernel_rfl) (by kernel_rfl)⟩
instance ld_30_28_0 (x : api_Real) : LdC Tryd.prog 28 (e_api_Real x) 0 (.agg (e_api_Rat x.P)) := ⟨ldv_agg 4 (by kernel_rfl) (by kernel_rfl) (by kernel_rfl)⟩
instance ld_30_26_0 (x : api_Real) : LdC Tryd.prog 26 (e_api_Real x) 0 (.agg (e_api_Int x.P.Num)) := ⟨ldv_agg 2 (by kernel_rfl) (by kernel_rfl) (by kernel_rfl)⟩
instance ld_30_4_0 (x : api_Real) : LdC Tryd.prog 4 (e_api_Real x) 0 (.bool x.P.Num.Neg) := ⟨ldv_one (by kernel_rfl) (by kernel_rfl)⟩
instance ld_30_9_1 (x : api_Real) : LdC Tryd.prog 9 (e_api_Real x) 1 (.string x.P.Num.Mag) := ⟨ldv_one (by kernel_rfl) (by kernel_rfl)⟩
instance ld_30_26_2 (x : api_Real) : LdC Tryd.prog 26 (e_api_Real x) 2 (.agg (e_api_Int x.P.Den)) := ⟨ldv_agg 2 (by kernel_rfl) (by kernel_rfl) (by kernel_rfl)⟩
instance ld_30_4_2 (x : api_Real) : LdC Tryd.prog 4 (e_api_Real x) 2 (.bool x.P.Den.Neg) := ⟨ldv_one (by kernel_rfl) (by kernel_rfl)⟩
instance ld_30_9_3 (x : api_Real) : LdC Tryd.prog 9 (e_api_Real x) 3 (.string x.P.Den.Mag) := ⟨ldv_one (by kernel_rfl) (by kernel_rfl)⟩
instance ld_30_28_4 (x : api_Real) : LdC Tryd.prog 28 (e_api_Real x) 4 (.agg (e_api_Rat x.R)) := ⟨ldv_agg 4 (by kernel_rfl) (by kernel_rfl) (by kernel_rfl)⟩
instance ld_30_26_4 (x : api_Real) : LdC Tryd.prog 26 (e_api_Real x) 4 (.agg (e_api_Int x.R.Num)) := ⟨ldv_agg 2 (by kernel_rfl) (by kernel_rfl) (by kernel_rfl)⟩
instance ld_30_4_4 (x : api_Real) : LdC Tryd.prog 4 (e_api_Real x) 4 (.bool x.R.Num.Neg) := ⟨ldv_one (by kernel_rfl) (by kernel_rfl)⟩
instance ld_30_9_5 (x : api_Real) : LdC Tryd.prog 9 (e_api_Real x) 5 (.string x.R.Num.Mag) := ⟨ldv_one (by kernel_rfl) (by kernel_rfl)⟩
instance ld_30_26_6 (x : api_Real) : LdC Tryd.prog 26 (e_api_Real x) 6 (.agg (e_api_Int x.R.Den)) := ⟨ldv_agg 2 (by kernel_rfl) (by kernel_rfl) (by kernel_rfl)⟩
instance ld_30_4_6 (x : api_Real) : LdC Tryd.prog 4 (e_api_Real x) 6 (.bool x.R.Den.Neg) := ⟨ldv_one (by kernel_rfl) (by kernel_rfl)⟩
instance ld_30_9_7 (x : api_Real) : LdC Tryd.prog 9 (e_api_Real x) 7 (.string x.R.Den.Mag) := ⟨ldv_one (by kernel_rfl) (by kernel_rfl)⟩
instance ld_30_4_8 (x : api_Real) : LdC Tryd.prog 4 (e_api_Real x) 8 (.bool x.Neg) := ⟨ldv_one (by kernel_rfl) (by kernel_rfl)⟩
instance ld_32_32_0 (x : api_Interval) : LdC Tryd.prog 32 (e_api_Interval x) 0 (.agg (e_api_Interval x)) := ⟨ldv_agg 20 (by kernel_rfl) (by kernel_rfl) (by kernel_rfl)⟩
instance ld_32_30_0 (x : api_Interval) : LdC Tryd.prog 30 (e_api_Interval x) 0 (.agg (e_api_Real x.From)) := ⟨ldv_agg 9 (by kernel_rfl) (by kernel_rfl) (by kernel_rfl)⟩
instance ld_32_28_0 (x : api_Interval) : LdC Tryd.prog 28 (e_api_Interval x) 0 (.agg (e_api_Rat x.From.P)) := ⟨ldv_agg 4 (by kernel_rfl) (by kernel_rfl) (by kernel_rfl)⟩
instance ld_32_26_0 (x : api_Interval) : LdC Tryd.prog 26 (e_api_Interval x) 0 (.agg (e_api_Int x.From.P.Num)) := ⟨ldv_agg 2 (by kernel_rfl) (by kernel_rfl) (by kernel_rfl)⟩
instance ld_32_4_0 (x : api_Interval) : LdC Tryd.prog 4 (e_api_Interval x) 0 (.bool x.From.P.Num.Neg) := ⟨ldv_one (by kernel_rfl) (by kernel_rfl)⟩
instance ld_32_9_1 (x : api_Interval) : LdC Tryd.prog 9 (e_api_Interval x) 1 (.string x.From.P.Num.Mag) := ⟨ldv_one (by kernel_rfl) (by kernel_rfl)⟩
instance ld_32_26_2 (x : api_Interval) : LdC Tryd.prog 26 (e_api_Interval x) 2 (.agg (e_api_Int x.From.P.Den)) := ⟨ldv_agg 2 (by kernel_rfl) (by kernel_rfl) (by kernel_rfl)⟩
instance ld_32_4_2 (x : api_Interval) : LdC Tryd.prog 4 (e_api_Interval x) 2 (.bool x.From.P.Den.Neg) := ⟨ldv_one (by kernel_rfl) (by kernel_rfl)⟩
instance ld_32_9_3 (x : api_Interval) : LdC Tryd.prog 9 (e_api_Interval x) 3 (.string x.From.P.Den.Mag) := ⟨ldv_one (by kernel_rfl) (by kernel_rfl)⟩
instance ld_32_28_4 (x : api_Interval) : LdC Tryd.prog 28 (e_api_Interval x) 4 (.agg (e_api_Rat x.From.R)) := ⟨ldv_agg 4 (by kernel_rfl) (by kernel_rfl) (by kernel_rfl)⟩
instance ld_32_26_4 (x : api_Interval) : LdC Tryd.prog 26 (e_api_Interval x) 4 (.agg (e_api_Int x.From.R.Num)) := ⟨ldv_agg 2 (by kernel_rfl) (by kernel_rfl) (by kernel_rfl)⟩
instance ld_32_4_4 (x : api_Interval) : LdC Tryd.prog 4 (e_api_Interval x) 4 (.bool x.From.R.Num.Neg) := ⟨ldv_one (by kernel_rfl) (by kernel_rfl)⟩
instance ld_32_9_5 (x : api_Interval) : LdC Tryd.prog 9 (e_api_Interval x) 5 (.string x.From.R.Num.Mag) := ⟨ldv_one (by kernel_rfl) (by kernel_rfl)⟩
instance ld_32_26_6 (x : api_Interval) : LdC Tryd.prog 26 (e_api_Interval x) 6 (.agg (e_api_Int x.From.R.Den)) := ⟨ldv_agg 2 (by kernel_rfl) (by kernel_rfl) (by kernel_rfl)⟩
instance ld_32_4_6 (x : api_Interval) : LdC Tryd.prog 4 (e_api_Interval x) 6 (.bool x.From.R.Den.Neg) := ⟨ldv_one (by kernel_rfl) (by kernel_rfl)⟩
instance ld_32_9_7 (x : api_Interval) : LdC Tryd.prog 9 (e_api_Interval x) 7 (.string x.From.R.Den.Mag) := ⟨ldv_one (by kernel_rfl) (by kernel_rfl)⟩
instance ld_32_4_8 (x : api_Interval) : LdC Tryd.prog 4 (e_api_Interval x) 8 (.bool x.From.Neg) := ⟨ldv_one (by kernel_rfl) (by kernel_rfl)⟩
instance ld_32_30_9 (x : api_Interval) : LdC Tryd.prog 30 (e_api_Interval x) 9 (.agg (e_api_Real x.To)) := ⟨ldv_agg 9 (by kernel_rfl) (by kernel_rfl) (by kernel_rfl)⟩
instance ld_32_28_9 (x : api_Interval) : LdC Tryd.prog 28 (e_api_Interval x) 9 (.agg (e_api_Rat x.To.P)) := ⟨ldv_agg 4 (by kernel_rfl) (by kernel_rfl) (by kernel_rfl)⟩
instance ld_32_26_9 (x : api_Interval) : LdC Tryd.prog 26 (e_api_Interval x) 9 (.agg (e_api_Int x.To.P.Num)) := ⟨ldv_agg 2 (by kernel_rfl) (by kernel_rfl) (by kernel_rfl)⟩
instance ld_32_4_9 (x : api_Interval) : LdC Tryd.prog 4 (e_api_Interval x) 9 (.bool x.To.P.Num.Neg) := ⟨ldv_one (by kernel_rfl) (by kernel_rfl)⟩
instance ld_32_9_10 (x : api_Interval) : LdC Tryd.prog 9 (e_api_Interval x) 10 (.string x.To.P.Num.Mag) := ⟨ldv_one (by kernel_rfl) (by kernel_rfl)⟩
instance ld_32_26_11 (x : api_Interval) : LdC Tryd.prog 26 (e_api_Interval x) 11 (.agg (e_api_Int x.To.P.Den)) := ⟨ldv_agg 2 (by kernel_rfl) (by kernel_rfl) (by kernel_rfl)⟩
instance ld_32_4_11 (x : api_Interval) : LdC Tryd.prog 4 (e_api_Interval x) 11 (.bool x.To.P.Den.Neg) := ⟨ldv_one (by kernel_rfl) (by kernel_rfl)⟩
instance ld_32_9_12 (x : api_Interval) : LdC Tryd.prog 9 (e_api_Interval x) 12 (.string x.To.P.Den.Mag) := ⟨ldv_one (by kernel_rfl) (by kernel_rfl)⟩
instance ld_32_28_13 (x : api_Interval) : LdC Tryd.prog 28 (e_api_Interval x) 13 (.agg (e_api_Rat x.To.R)) := ⟨ldv_agg 4 (by kernel_rfl) (by kernel_rfl) (by kernel_rfl)⟩
instance ld_32_26_13 (x : api_Interval) : LdC Tryd.prog 26 (e_api_Interval x) 13 (.agg (e_api_Int x.To.R.Num)) := ⟨ldv_agg 2 (by kernel_rfl) (by kernel_rfl) (by kernel_rfl)⟩
instance ld_32_4_13 (x : api_Interval) : LdC Tryd.prog 4 (e_api_Interval x) 13 (.bool x.To.R.Num.Neg) := ⟨ldv_one (by kernel_rfl) (by kernel_rfl)⟩
instance ld_32_9_14 (x : api_Interval) : LdC Tryd.prog 9 (e_api_Interval x) 14 (.string x.To.R.Num.Mag) := ⟨ldv_one (by kernel_rfl) (by kernel_rfl)⟩
instance ld_32_26_15 (x : api_Interval) : LdC Tryd.prog 26 (e_api_Interval x) 15 (.agg (e_api_Int x.To.R.Den)) := ⟨ldv_agg 2 (by kernel_rfl) (by kernel_rfl) (by kernel_rfl)⟩
instance ld_32_4_15 (x : api_Interval) : LdC Tryd.prog 4 (e_api_Interval x) 15 (.bool x.To.R.Den.Neg) := ⟨ldv_one (by kernel_rfl) (by kernel_rfl)⟩
instance ld_32_9_16 (x : api_Interval) : LdC Tryd.prog 9 (e_api_Interval x) 16 (.string x.To.R.Den.Mag) := ⟨ldv_one (by kernel_rfl) (by kernel_rfl)⟩
instance ld_32_4_17 (x : api_Interval) : LdC Tryd.prog 4 (e_api_Interval x) 17 (.bool x.To.Neg) := ⟨ldv_one (by kernel_rfl) (by kernel_rfl)⟩
instance ld_32_4_18 (x : api_Interval) : LdC Tryd.prog 4 (e_api_Interval x) 18 (.bool x.OpenFrom) := ⟨ldv_one (by kernel_rfl) (by kernel_rfl)⟩
instance ld_32_4_19 (x : api_Interval) : LdC Tryd.prog 4 (e_api_Interval x) 19 (.bool x.OpenTo) := ⟨ldv_one (by kernel_rfl) (by kernel_rfl)⟩
instance ld_35_35_0 (x : simplify_Run) : LdC Tryd.prog 35 (e_simplify_Run x) 0 (.agg (e_simplify_Run x)) := ⟨ldv_agg 21 (by kernel_rfl) (by kernel_rfl) (by kernel_rfl)⟩
instance ld_35_32_0 (x : simplify_Run) : LdC Tryd.prog 32 (e_simplify_Run x) 0 (.agg (e_api_Interval x.In)) := ⟨ldv_agg 20 (by kernel_rfl) (by kernel_rfl) (by kernel_rfl)⟩
instance ld_35_30_0 (x : simplify_Run) : LdC Tryd.prog 30 (e_simplify_Run x) 0 (.agg (e_api_Real x.In.From)) := ⟨ldv_agg 9 (by kernel_rfl) (by kernel_rfl) (by kernel_rfl)⟩
instance ld_35_28_0 (x : simplify_Run) : LdC Tryd.prog 28 (e_simplify_Run x) 0 (.agg (e_api_Rat x.In.From.P)) := ⟨ldv_agg 4 (by kernel_rfl) (by kernel_rfl) (by kernel_rfl)⟩
instance ld_35_26_0 (x : simplify_Run) : LdC Tryd.prog 26 (e_simplify_Run x) 0 (.agg (e_api_Int x.In.From.P.Num)) := ⟨ldv_agg 2 (by kernel_rfl) (by kernel_rfl) (by kernel_rfl)⟩
instance ld_35_4_0 (x : simplify_Run) : LdC Tryd.prog 4 (e_simplify_Run x) 0 (.bool x.In.From.P.Num.Neg) := ⟨ldv_one (by kernel_rfl) (by kernel_rfl)⟩
instance ld_35_9_1 (x : simplify_Run) : LdC Tryd.prog 9 (e_simplify_Run x) 1 (.string x.In.From.P.Num.Mag) := ⟨ldv_one (by kernel_rfl) (by kernel_rfl)⟩
instance ld_35_26_2 (x : simplify_Run) : LdC Tryd.prog 26 (e_simplify_Run x) 2 (.agg (e_api_Int x.In.From.P.Den)) := ⟨ldv_agg 2 (by kernel_rfl) (by kernel_rfl) (by kernel_rfl)⟩
instance ld_35_4_2 (x : simplify_Run) : LdC Tryd.prog 4 (e_simplify_Run x) 2 (.bool x.In.From.P.Den.Neg) := ⟨ldv_one (by kernel_rfl) (by kernel_rfl)⟩
instance ld_35_9_3 (x : simplify_Run) : LdC Tryd.prog 9 (e_simplify_Run x) 3 (.string x.In.From.P.Den.Mag) := ⟨ldv_one (by kernel_rfl) (by kernel_rfl)⟩
instance ld_35_28_4 (x : simplify_Run) : LdC Tryd.prog 28 (e_simplify_Run x) 4 (.agg (e_api_Rat x.In.From.R)) := ⟨ldv_agg 4 (by kernel_rfl) (by kernel_rfl) (by kernel_rfl)⟩
instance ld_35_26_4 (x : simplify_Run) : LdC Tryd.prog 26 (e_simplify_Run x) 4 (.agg (e_api_Int x.In.From.R.Num)) := ⟨ldv_agg 2 (by kernel_rfl) (by kernel_rfl) (by kernel_rfl)⟩
instance ld_35_4_4 (x : simplify_Run) : LdC Tryd.prog 4 (e_simplify_Run x) 4 (.bool x.In.From.R.Num.Neg) := ⟨ldv_one (by kernel_rfl) (by kernel_rfl)⟩
instance ld_35_9_5 (x : simplify_Run) : LdC Tryd.prog 9 (e_simplify_Run x) 5 (.string x.In.From.R.Num.Mag) := ⟨ldv_one (by kernel_rfl) (by kernel_rfl)⟩
instance ld_35_26_6 (x : simplify_Run) : LdC Tryd.prog 26 (e_simplify_Run x) 6 (.agg (e_api_Int x.In.From.R.Den)) := ⟨ldv_agg 2 (by kernel_rfl) (by kernel_rfl) (by kernel_rfl)⟩
instance ld_35_4_6 (x : simplify_Run) : LdC Tryd.prog 4 (e_simplify_Run x) 6 (.bool x.In.From.R.Den.Neg) := ⟨ldv_one (by kernel_rfl) (by kernel_rfl)⟩
instance ld_35_9_7 (x : simplify_Run) : LdC Tryd.prog 9 (e_simplify_Run x) 7 (.string x.In.From.R.Den.Mag) := ⟨ldv_one (by kernel_rfl) (by kernel_rfl)⟩
instance ld_35_4_8 (x : simplify_Run) : LdC Tryd.prog 4 (e_simplify_Run x) 8 (.bool x.In.From.Neg) := ⟨ldv_one (by kernel_rfl) (by kernel_rfl)⟩
instance ld_35_30_9 (x : simplify_Run) : LdC Tryd.prog 30 (e_simplify_Run x) 9 (.agg (e_api_Real x.In.To)) := ⟨ldv_agg 9 (by kernel_rfl) (by kernel_rfl) (by kernel_rfl)⟩
instance ld_35_28_9 (x : simplify_Run) : LdC Tryd.prog 28 (e_simplify_Run x) 9 (.agg (e_api_Rat x.In.To.P)) := ⟨ldv_agg 4 (by kernel_rfl) (by kernel_rfl) (by kernel_rfl)⟩
instance ld_35_26_9 (x : simplify_Run) : LdC Tryd.prog 26 (e_simplify_Run x) 9 (.agg (e_api_Int x.In.To.P.Num)) := ⟨ldv_agg 2 (by kernel_rfl) (by kernel_rfl) (by kernel_rfl)⟩
instance ld_35_4_9 (x : simplify_Run) : LdC Tryd.prog 4 (e_simplify_Run x) 9 (.bool x.In.To.P.Num.Neg) := ⟨ldv_one (by kernel_rfl) (by kernel_rfl)⟩
instance ld_35_9_10 (x : simplify_Run) : LdC Tryd.prog 9 (e_simplify_Run x) 10 (.string x.In.To.P.Num.Mag) := ⟨ldv_one (by kernel_rfl) (by kernel_rfl)⟩
instance ld_35_26_11 (x : simplify_Run) : LdC Tryd.prog 26 (e_simplify_Run x) 11 (.agg (e_api_Int x.In.To.P.Den)) := ⟨ldv_agg 2 (by kernel_rfl) (by kernel_rfl) (by kernel_rfl)⟩
instance ld_35_4_11 (x : simplify_Run) : LdC Tryd.prog 4 (e_simplify_Run x) 11 (.bool x.In.To.P.Den.Neg) := ⟨ldv_one (by kernel_rfl) (by kernel_rfl)⟩
instance ld_35_9_12 (x : simplify_Run) : LdC Tryd.prog 9 (e_simplify_Run x) 12 (.string x.In.To.P.Den.Mag) := ⟨ldv_one (by kernel_rfl) (by kernel_rfl)⟩
instance ld_35_28_13 (x : simplify_Run) : LdC Tryd.prog 28 (e_simplify_Run x) 13 (.agg (e_api_Rat x.In.To.R)) := ⟨ldv_agg 4 (by kernel_rfl) (by kernel_rfl) (by kernel_rfl)⟩
instance ld_35_26_13 (x : simplify_Run) : LdC Tryd.prog 26 (e_simplify_Run x) 13 (.agg (e_api_Int x.In.To.R.Num)) := ⟨ldv_agg 2 (by kernel_rfl) (by kernel_rfl) (by kernel_rfl)⟩
instance ld_35_4_13 (x : simplify_Run) : LdC Tryd.prog 4 (e_simplify_Run x) 13 (.bool x.In.To.R.Num.Neg) := ⟨ldv_one (by kernel_rfl) (by kernel_rfl)⟩
instance ld_35_9_14 (x : simplify_Run) : LdC Tryd.prog 9 (e_simplify_Run x) 14 (.string x.In.To.R.Num.Mag) := ⟨ldv_one (by kernel_rfl) (by kernel_rfl)⟩
instance ld_35_26_15 (x : simplify_Run) : LdC Tryd.prog 26 (e_simplify_Run x) 15 (.agg (e_api_Int x.In.To.R.Den)) := ⟨ldv_agg 2 (by kernel_rfl) (by kernel_rfl) (by kernel_rfl)⟩
instance ld_35_4_15 (x : simplify_Run) : LdC Tryd.prog 4 (e_simplify_Run x) 15 (.bool x.In.To.R.Den.Neg) := ⟨ldv_one (by kernel_rfl) (by kernel_rfl)⟩
instance ld_35_9_16 (x : simplify_Run) : LdC Tryd.prog 9 (e_simplify_Run x) 16 (.string x.In.To.R.Den.Mag) := ⟨ldv_one (by kernel_rfl) (by kernel_rfl)⟩
instance ld_35_4_17 (x : simplify_Run) : LdC Tryd.prog 4 (e_simplify_Run x) 17 (.bool x.In.To.Neg) := ⟨ldv_one (by kernel_rfl) (by kernel_rfl)⟩
instance ld_35_4_18 (x : simplify_Run) : LdC Tryd.prog 4 (e_simplify_Run x) 18 (.bool x.In.OpenFrom) := ⟨ldv_one (by kernel_rfl) (by kernel_rfl)⟩
instance ld_35_4_19 (x : simplify_Run) : LdC Tryd.prog 4 (e_simplify_Run x) 19 (.bool x.In.OpenTo) := ⟨ldv_one (by kernel_rfl) (by kernel_rfl)⟩
instance ld_35_33_20 (x : simplify_Run) : LdC Tryd.prog 33 (e_simplify_Run x) 20 (.slice x.Points.a x.Points.len x.Points.cap) := ⟨ldv_one (by kernel_rfl) (by kernel_rfl)⟩
instance ld_50_50_0 (x : api_Point) : LdC Tryd.prog 50 (e_api_Point x) 0 (.agg (e_api_Point x)) := ⟨ldv_agg 8 (by kernel_rfl) (by kernel_rfl) (by kernel_rfl)⟩
instance ld_50_28_0 (x : api_Point) : LdC Tryd.prog 28 (e_api_Point x) 0 (.agg (e_api_Rat x.X)) := ⟨ldv_agg 4 (by kernel_rfl) (by kernel_rfl) (by kernel_rfl)⟩
instance ld_50_26_0 (x : api_Point) : LdC Tryd.prog 26 (e_api_Point x) 0 (.agg (e_api_Int x.X.Num)) := ⟨ldv_agg 2 (by kernel_rfl) (by kernel_rfl) (by kernel_rfl)⟩
instance ld_50_4_0 (x : api_Point) : LdC Tryd.prog 4 (e_api_Point x) 0 (.bool x.X.Num.Neg) := ⟨ldv_one (by kernel_rfl) (by kernel_rfl)⟩
instance ld_50_9_1 (x : api_Point) : LdC Tryd.prog 9 (e_api_Point x) 1 (.string x.X.Num.Mag) := ⟨ldv_one (by kernel_rfl) (by kernel_rfl)⟩
instance ld_50_26_2 (x : api_Point) : LdC Tryd.prog 26 (e_api_Point x) 2 (.agg (e_api_Int x.X.Den)) := ⟨ldv_agg 2 (by kernel_rfl) (by kernel_rfl) (by kernel_rfl)⟩
instance ld_50_4_2 (x : api_Point) : LdC Tryd.prog 4 (e_api_Point x) 2 (.bool x.X.Den.Neg) := ⟨ldv_one (by kernel_rfl) (by kernel_rfl)⟩
instance ld_50_9_3 (x : api_Point) : LdC Tryd.prog 9 (e_api_Point x) 3 (.string x.X.Den.Mag) := ⟨ldv_one (by kernel_rfl) (by kernel_rfl)⟩
instance ld_50_28_4 (x : api_Point) : LdC Tryd.prog 28 (e_api_Point x) 4 (.agg (e_api_Rat x.Y)) := ⟨ldv_agg 4 (by kernel_rfl) (by kernel_rfl) (by kernel_rfl)⟩
instance ld_50_26_4 (x : api_Point) : LdC Tryd.prog 26 (e_api_Point x) 4 (.agg (e_api_Int x.Y.Num)) := ⟨ldv_agg 2 (by kernel_rfl) (by kernel_rfl) (by kernel_rfl)⟩
instance ld_50_4_4 (x : api_Point) : LdC Tryd.prog 4 (e_api_Point x) 4 (.bool x.Y.Num.Neg) := ⟨ldv_one (by kernel_rfl) (by kernel_rfl)⟩
instance ld_50_9_5 (x : api_Point) : LdC Tryd.prog 9 (e_api_Point x) 5 (.string x.Y.Num.Mag) := ⟨ldv_one (by kernel_rfl) (by kernel_rfl)⟩
instance ld_50_26_6 (x : api_Point) : LdC Tryd.prog 26 (e_api_Point x) 6 (.agg (e_api_Int x.Y.Den)) := ⟨ldv_agg 2 (by kernel_rfl) (by kernel_rfl) (by kernel_rfl)⟩
instance ld_50_4_6 (x : api_Point) : LdC Tryd.prog 4 (e_api_Point x) 6 (.bool x.Y.Den.Neg) := ⟨ldv_one (by kernel_rfl) (by kernel_rfl)⟩
instance ld_50_9_7 (x : api_Point) : LdC Tryd.prog 9 (e_api_Point x) 7 (.string x.Y.Den.Mag) := ⟨ldv_one (by kernel_rfl) (by kernel_rfl)⟩
instance ld_52_52_0 (x : movingpoint_Sample) : LdC Tryd.prog 52 (e_movingpoint_Sample x) 0 (.agg (e_movingpoint_Sample x)) := ⟨ldv_agg 12 (by kernel_rfl) (by kernel_rfl) (by kernel_rfl)⟩
instance ld_52_28_0 (x : movingpoint_Sample) : LdC Tryd.prog 28 (e_movingpoint_Sample x) 0 (.agg (e_api_Rat x.T)) := ⟨ldv_agg 4 (by kernel_rfl) (by kernel_rfl) (by kernel_rfl)⟩
instance ld_52_26_0 (x : movingpoint_Sample) : LdC Tryd.prog 26 (e_movingpoint_Sample x) 0 (.agg (e_api_Int x.T.Num)) := ⟨ldv_agg 2 (by kernel_rfl) (by kernel_rfl) (by kernel_rfl)⟩
instance ld_52_4_0 (x : movingpoint_Sample) : LdC Tryd.prog 4 (e_movingpoint_Sample x) 0 (.bool x.T.Num.Neg) := ⟨ldv_one (by kernel_rfl) (by kernel_rfl)⟩
instance ld_52_9_1 (x : movingpoint_Sample) : LdC Tryd.prog 9 (e_movingpoint_Sample x) 1 (.string x.T.Num.Mag) := ⟨ldv_one (by kernel_rfl) (by kernel_rfl)⟩
instance ld_52_26_2 (x : movingpoint_Sample) : LdC Tryd.prog 26 (e_movingpoint_Sample x) 2 (.agg (e_api_Int x.T.Den)) := ⟨ldv_agg 2 (by kernel_rfl) (by kernel_rfl) (by kernel_rfl)⟩
instance ld_52_4_2 (x : movingpoint_Sample) : LdC Tryd.prog 4 (e_movingpoint_Sample x) 2 (.bool x.T.Den.Neg) := ⟨ldv_one (by kernel_rfl) (by kernel_rfl)⟩
instance ld_52_9_3 (x : movingpoint_Sample) : LdC Tryd.prog 9 (e_movingpoint_Sample x) 3 (.string x.T.Den.Mag) := ⟨ldv_one (by kernel_rfl) (by kernel_rfl)⟩
instance ld_52_50_4 (x : movingpoint_Sample) : LdC Tryd.prog 50 (e_movingpoint_Sample x) 4 (.agg (e_api_Point x.P)) := ⟨ldv_agg 8 (by kernel_rfl) (by kernel_rfl) (by kernel_rfl)⟩
instance ld_52_28_4 (x : movingpoint_Sample) : LdC Tryd.prog 28 (e_movingpoint_Sample x) 4 (.agg (e_api_Rat x.P.X)) := ⟨ldv_agg 4 (by kernel_rfl) (by kernel_rfl) (by kernel_rfl)⟩
instance ld_52_26_4 (x : movingpoint_Sample) : LdC Tryd.prog 26 (e_movingpoint_Sample x) 4 (.agg (e_api_Int x.P.X.Num)) := ⟨ldv_agg 2 (by kernel_rfl) (by kernel_rfl) (by kernel_rfl)⟩
instance ld_52_4_4 (x : movingpoint_Sample) : LdC Tryd.prog 4 (e_movingpoint_Sample x) 4 (.bool x.P.X.Num.Neg) := ⟨ldv_one (by kernel_rfl) (by kernel_rfl)⟩
instance ld_52_9_5 (x : movingpoint_Sample) : LdC Tryd.prog 9 (e_movingpoint_Sample x) 5 (.string x.P.X.Num.Mag) := ⟨ldv_one (by kernel_rfl) (by kernel_rfl)⟩
instance ld_52_26_6 (x : movingpoint_Sample) : LdC Tryd.prog 26 (e_movingpoint_Sample x) 6 (.agg (e_api_Int x.P.X.Den)) := ⟨ldv_agg 2 (by kernel_rfl) (by kernel_rfl) (by kernel_rfl)⟩
instance ld_52_4_6 (x : movingpoint_Sample) : LdC Tryd.prog 4 (e_movingpoint_Sample x) 6 (.bool x.P.X.Den.Neg) := ⟨ldv_one (by kernel_rfl) (by kernel_rfl)⟩
instance ld_52_9_7 (x : movingpoint_Sample) : LdC Tryd.prog 9 (e_movingpoint_Sample x) 7 (.string x.P.X.Den.Mag) := ⟨ldv_one (by kernel_rfl) (by kernel_rfl)⟩
instance ld_52_28_8 (x : movingpoint_Sample) : LdC Tryd.prog 28 (e_movingpoint_Sample x) 8 (.agg (e_api_Rat x.P.Y)) := ⟨ldv_agg 4 (by kernel_rfl) (by kernel_rfl) (by kernel_rfl)⟩
instance ld_52_26_8 (x : movingpoint_Sample) : LdC Tryd.prog 26 (e_movingpoint_Sample x) 8 (.agg (e_api_Int x.P.Y.Num)) := ⟨ldv_agg 2 (by kernel_rfl) (by kernel_rfl) (by kernel_rfl)⟩
instance ld_52_4_8 (x : movingpoint_Sample) : LdC Tryd.prog 4 (e_movingpoint_Sample x) 8 (.bool x.P.Y.Num.Neg) := ⟨ldv_one (by kernel_rfl) (by kernel_rfl)⟩
instance ld_52_9_9 (x : movingpoint_Sample) : LdC Tryd.prog 9 (e_movingpoint_Sample x) 9 (.string x.P.Y.Num.Mag) := ⟨ldv_one (by kernel_rfl) (by kernel_rfl)⟩
instance ld_52_26_10 (x : movingpoint_Sample) : LdC Tryd.prog 26 (e_movingpoint_Sample x) 10 (.agg (e_api_Int x.P.Y.Den)) := ⟨ldv_agg 2 (by kernel_rfl) (by kernel_rfl) (by kernel_rfl)⟩
instance ld_52_4_10 (x : movingpoint_Sample) : LdC Tryd.prog 4 (e_movingpoint_Sample x) 10 (.bool x.P.Y.Den.Neg) := ⟨ldv_one (by kernel_rfl) (by kernel_rfl)⟩
instance ld_52_9_11 (x : movingpoint_Sample) : LdC Tryd.prog 9 (e_movingpoint_Sample x) 11 (.string x.P.Y.Den.Mag) := ⟨ldv_one (by kernel_rfl) (by kernel_rfl)⟩
instance ld_73_5_0 (x : st_Time_X_Y) : LdC Tryd.prog 5 (e_st_Time_X_Y x) 0 (.int .u8 x.Time) := ⟨ldv_one (by kernel_rfl) (by kernel_rfl)⟩
instance ld_73_5_1 (x : st_Time_X_Y) : LdC Tryd.prog 5 (e_st_Time_X_Y x) 1 (.int .u8 x.X) := ⟨ldv_one (by kernel_rfl) (by kernel_rfl)⟩
instance ld_73_5_2 (x : st_Time_X_Y) : LdC Tryd.prog 5 (e_st_Time_X_Y x) 2 (.int .u8 x.Y) := ⟨ldv_one (by kernel_rfl) (by kernel_rfl)⟩
instance ld_97_97_0 (x : api_Line) : LdC Tryd.prog 97 (e_api_Line x) 0 (.agg (e_api_Line x)) := ⟨ldv_agg 16 (by kernel_rfl) (by kernel_rfl) (by kernel_rfl)⟩
instance ld_97_28_0 (x : api_Line) : LdC Tryd.prog 28 (e_api_Line x) 0 (.agg (e_api_Rat x.X0)) := ⟨ldv_agg 4 (by kernel_rfl) (by kernel_rfl) (by kernel_rfl)⟩
instance ld_97_26_0 (x : api_Line) : LdC Tryd.prog 26 (e_api_Line x) 0 (.agg (e_api_Int x.X0.Num)) := ⟨ldv_agg 2 (by kernel_rfl) (by kernel_rfl) (by kernel_rfl)⟩
instance ld_97_4_0 (x : api_Line) : LdC Tryd.prog 4 (e_api_Line x) 0 (.bool x.X0.Num.Neg) := ⟨ldv_one (by kernel_rfl) (by kernel_rfl)⟩
instance ld_97_9_1 (x : api_Line) : LdC Tryd.prog 9 (e_api_Line x) 1 (.string x.X0.Num.Mag) := ⟨ldv_one (by kernel_rfl) (by kernel_rfl)⟩
instance ld_97_26_2 (x : api_Line) : LdC Tryd.prog 26 (e_api_Line x) 2 (.agg (e_api_Int x.X0.Den)) := ⟨ldv_agg 2 (by kernel_rfl) (by kernel_rfl) (by kernel_rfl)⟩
instance ld_97_4_2 (x : api_Line) : LdC Tryd.prog 4 (e_api_Line x) 2 (.bool x.X0.Den.Neg) := ⟨ldv_one (by kernel_rfl) (by kernel_rfl)⟩
instance ld_97_9_3 (x : api_Line) : LdC Tryd.prog 9 (e_api_Line x) 3 (.string x.X0.Den.Mag) := ⟨ldv_one (by kernel_rfl) (by kernel_rfl)⟩
instance ld_97_28_4 (x : api_Line) : LdC Tryd.prog 28 (e_api_Line x) 4 (.agg (e_api_Rat x.X1)) := ⟨ldv_agg 4 (by kernel_rfl) (by kernel_rfl) (by kernel_rfl)⟩
instance ld_97_26_4 (x : api_Line) : LdC Tryd.prog 26 (e_api_Line x) 4 (.agg (e_api_Int x.X1.Num)) := ⟨ldv_agg 2 (by kernel_rfl) (by kernel_rfl) (by kernel_rfl)⟩
instance ld_97_4_4 (x : api_Line) : LdC Tryd.prog 4 (e_api_Line x) 4 (.bool x.X1.Num.Neg) := ⟨ldv_one (by kernel_rfl) (by kernel_rfl)⟩
instance ld_97_9_5 (x : api_Line) : LdC Tryd.prog 9 (e_api_Line x) 5 (.string x.X1.Num.Mag) := ⟨ldv_one (by kernel_rfl) (by kernel_rfl)⟩
instance ld_97_26_6 (x : api_Line) : LdC Tryd.prog 26 (e_api_Line x) 6 (.agg (e_api_Int x.X1.Den)) := ⟨ldv_agg 2 (by kernel_rfl) (by kernel_rfl) (by kernel_rfl)⟩
instance ld_97_4_6 (x : api_Line) : LdC Tryd.prog 4 (e_api_Line x) 6 (.bool x.X1.Den.Neg) := ⟨ldv_one (by kernel_rfl) (by kernel_rfl)⟩
instance ld_97_9_7 (x : api_Line) : LdC Tryd.prog 9 (e_api_Line x) 7 (.string x.X1.Den.Mag) := ⟨ldv_one (by kernel_rfl) (by kernel_rfl)⟩
instance ld_97_28_8 (x : api_Line) : LdC Tryd.prog 28 (e_api_Line x) 8 (.agg (e_api_Rat x.Y0)) := ⟨ldv_agg 4 (by kernel_rfl) (by kernel_rfl) (by kernel_rfl)⟩
instance ld_97_26_8 (x : api_Line) : LdC Tryd.prog 26 (e_api_Line x) 8 (.agg (e_api_Int x.Y0.Num)) := ⟨ldv_agg 2 (by kernel_rfl) (by kernel_rfl) (by kernel_rfl)⟩
instance ld_97_4_8 (x : api_Line) : LdC Tryd.prog 4 (e_api_Line x) 8 (.bool x.Y0.Num.Neg) := ⟨ldv_one (by kernel_rfl) (by kernel_rfl)⟩
instance ld_97_9_9 (x : api_Line) : LdC Tryd.prog 9 (e_api_Line x) 9 (.string x.Y0.Num.Mag) := ⟨ldv_one (by kernel_rfl) (by kernel_rfl)⟩
instance ld_97_26_10 (x : api_Line) : LdC Tryd.prog 26 (e_api_Line x) 10 (.agg (e_api_Int x.Y0.Den)) := ⟨ldv_agg 2 (by kernel_rfl) (by kernel_rfl) (by kernel_rfl)⟩
instance ld_97_4_10 (x : api_Line) : LdC Tryd.prog 4 (e_api_Line x) 10 (.bool x.Y0.Den.Neg) := ⟨ldv_one (by kernel_rfl) (by kernel_rfl)⟩
instance ld_97_9_11 (x : api_Line) : LdC Tryd.prog 9 (e_api_Line x) 11 (.string x.Y0.Den.Mag) := ⟨ldv_one (by kernel_rfl) (by kernel_rfl)⟩
instance ld_97_28_12 (x : api_Line) : LdC Tryd.prog 28 (e_api_Line x) 12 (.agg (e_api_Rat x.Y1)) := ⟨ldv_agg 4 (by kernel_rfl) (by kernel_rfl) (by kernel_rfl)⟩
instance ld_97_26_12 (x : api_Line) : LdC Tryd.prog 26 (e_api_Line x) 12 (.agg (e_api_Int x.Y1.Num)) := ⟨ldv_agg 2 (by kernel_rfl) (by kernel_rfl) (by kernel_rfl)⟩
instance ld_97_4_12 (x : api_Line) : LdC Tryd.prog 4 (e_api_Line x) 12 (.bool x.Y1.Num.Neg) := ⟨ldv_one (by kernel_rfl) (by kernel_rfl)⟩
instance ld_97_9_13 (x : api_Line) : LdC Tryd.prog 9 (e_api_Line x) 13 (.string x.Y1.Num.Mag) := ⟨ldv_one (by kernel_rfl) (by kernel_rfl)⟩
instance ld_97_26_14 (x : api_Line) : LdC Tryd.prog 26 (e_api_Line x) 14 (.agg (e_api_Int x.Y1.Den)) := ⟨ldv_agg 2 (by kernel_rfl) (by kernel_rfl) (by kernel_rfl)⟩
instance ld_97_4_14 (x : api_Line) : LdC Tryd.prog 4 (e_api_Line x) 14 (.bool x.Y1.Den.Neg) := ⟨ldv_one (by kernel_rfl) (by kernel_rfl)⟩
instance ld_97_9_15 (x : api_Line) : LdC Tryd.prog 9 (e_api_Line x) 15 (.string x.Y1.Den.Mag) := ⟨ldv_one (by kernel_rfl) (by kernel_rfl)⟩
instance ld_122_122_0 (x : api_Quad) : LdC Tryd.prog 122 (e_api_Quad x) 0 (.agg (e_api_Quad x)) := ⟨ldv_agg 12 (by kernel_rfl) (by kernel_rfl) (by kernel_rfl)⟩
instance ld_122_28_0 (x : api_Quad) : LdC Tryd.prog 28 (e_api_Quad x) 0 (.agg (e_api_Rat x.C0)) := ⟨ldv_agg 4 (by kernel_rfl) (by kernel_rfl) (by kernel_rfl)⟩
instance ld_122_26_0 (x : api_Quad) : LdC Tryd.prog 26 (e_api_Quad x) 0 (.agg (e_api_Int x.C0.Num)) := ⟨ldv_agg 2 (by kernel_rfl) (by kernel_rfl) (by kernel_rfl)⟩
instance ld_122_4_0 (x : api_Quad) : LdC Tryd.prog 4 (e_api_Quad x) 0 (.bool x.C0.Num.Neg) := ⟨ldv_one (by kernel_rfl) (by kernel_rfl)⟩
instance ld_122_9_1 (x : api_Quad) : LdC Tryd.prog 9 (e_api_Quad x) 1 (.string x.C0.Num.Mag) := ⟨ldv_one (by kernel_rfl) (by kernel_rfl)⟩
instance ld_122_26_2 (x : api_Quad) : LdC Tryd.prog 26 (e_api_Quad x) 2 (.agg (e_api_Int x.C0.Den)) := ⟨ldv_agg 2 (by kernel_rfl) (by kernel_rfl) (by kernel_rfl)⟩
instance ld_122_4_2 (x : api_Quad) : LdC Tryd.prog 4 (e_api_Quad x) 2 (.bool x.C0.Den.Neg) := ⟨ldv_one (by kernel_rfl) (by kernel_rfl)⟩
instance ld_122_9_3 (x : api_Quad) : LdC Tryd.prog 9 (e_api_Quad x) 3 (.string x.C0.Den.Mag) := ⟨ldv_one (by kernel_rfl) (by kernel_rfl)⟩
instance ld_122_28_4 (x : api_Quad) : LdC Tryd.prog 28 (e_api_Quad x) 4 (.agg (e_api_Rat x.C1)) := ⟨ldv_agg 4 (by kernel_rfl) (by kernel_rfl) (by kernel_rfl)⟩
instance ld_122_26_4 (x : api_Quad) : LdC Tryd.prog 26 (e_api_Quad x) 4 (.agg (e_api_Int x.C1.Num)) := ⟨ldv_agg 2 (by kernel_rfl) (by kernel_rfl) (by kernel_rfl)⟩
instance ld_122_4_4 (x : api_Quad) : LdC Tryd.prog 4 (e_api_Quad x) 4 (.bool x.C1.Num.Neg) := ⟨ldv_one (by kernel_rfl) (by kernel_rfl)⟩
instance ld_122_9_5 (x : api_Quad) : LdC Tryd.prog 9 (e_api_Quad x) 5 (.string x.C1.Num.Mag) := ⟨ldv_one (by kernel_rfl) (by kernel_rfl)⟩
instance ld_122_26_6 (x : api_Quad) : LdC Tryd.prog 26 (e_api_Quad x) 6 (.agg (e_api_Int x.C1.Den)) := ⟨ldv_agg 2 (by kernel_rfl) (by kernel_rfl) (by kernel_rfl)⟩
instance ld_122_4_6 (x : api_Quad) : LdC Tryd.prog 4 (e_api_Quad x) 6 (.bool x.C1.Den.Neg) := ⟨ldv_one (by kernel_rfl) (by kernel_rfl)⟩
instance ld_122_9_7 (x : api_Quad) : LdC Tryd.prog 9 (e_api_Quad x) 7 (.string x.C1.Den.Mag) := ⟨ldv_one (by kernel_rfl) (by kernel_rfl)⟩
instance ld_122_28_8 (x : api_Quad) : LdC Tryd.prog 28 (e_api_Quad x) 8 (.agg (e_api_Rat x.C2)) := ⟨ldv_agg 4 (by kernel_rfl) (by kernel_rfl) (by kernel_rfl)⟩
instance ld_122_26_8 (x : api_Quad) : LdC Tryd.prog 26 (e_api_Quad x) 8 (.agg (e_api_Int x.C2.Num)) := ⟨ldv_agg 2 (by kernel_rfl) (by kernel_rfl) (by kernel_rfl)⟩
instance ld_122_4_8 (x : api_Quad) : LdC Tryd.prog 4 (e_api_Quad x) 8 (.bool x.C2.Num.Neg) := ⟨ldv_one (by kernel_rfl) (by kernel_rfl)⟩
instance ld_122_9_9 (x : api_Quad) : LdC Tryd.prog 9 (e_api_Quad x) 9 (.string x.C2.Num.Mag) := ⟨ldv_one (by kernel_rfl) (by kernel_rfl)⟩
instance ld_122_26_10 (x : api_Quad) : LdC Tryd.prog 26 (e_api_Quad x) 10 (.agg (e_api_Int x.C2.Den)) := ⟨ldv_agg 2 (by kernel_rfl) (by kernel_rfl) (by kernel_rfl)⟩
instance ld_122_4_10 (x : api_Quad) : LdC Tryd.prog 4 (e_api_Quad x) 10 (.bool x.C2.Den.Neg) := ⟨ldv_one (by kernel_rfl) (by kernel_rfl)⟩
instance ld_122_9_11 (x : api_Quad) : LdC Tryd.prog 9 (e_api_Quad x) 11 (.string x.C2.Den.Mag) := ⟨ldv_one (by kernel_rfl) (by kernel_rfl)⟩
instance ld_132_50_0 (x : api_Segment) : LdC Tryd.prog 50 (e_api_Segment x) 0 (.agg (e_api_Point x.A)) := ⟨ldv_agg 8 (by kernel_rfl) (by kernel_rfl) (by kernel_rfl)⟩
instance ld_132_28_0 (x : api_Segment) : LdC Tryd.prog 28 (e_api_Segment x) 0 (.agg (e_api_Rat x.A.X)) := ⟨ldv_agg 4 (by kernel_rfl) (by kernel_rfl) (by kernel_rfl)⟩
instance ld_132_26_0 (x : api_Segment) : LdC Tryd.prog 26 (e_api_Segment x) 0 (.agg (e_api_Int x.A.X.Num)) := ⟨ldv_agg 2 (by kernel_rfl) (by kernel_rfl) (by kernel_rfl)⟩
instance ld_132_4_0 (x : api_Segment) : LdC Tryd.prog 4 (e_api_Segment x) 0 (.bool x.A.X.Num.Neg) := ⟨ldv_one (by kernel_rfl) (by kernel_rfl)⟩
instance ld_132_9_1 (x : api_Segment) : LdC Tryd.prog 9 (e_api_Segment x) 1 (.string x.A.X.Num.Mag) := ⟨ldv_one (by kernel_rfl) (by kernel_rfl)⟩
instance ld_132_26_2 (x : api_Segment) : LdC Tryd.prog 26 (e_api_Segment x) 2 (.agg (e_api_Int x.A.X.Den)) := ⟨ldv_agg 2 (by kernel_rfl) (by kernel_rfl) (by kernel_rfl)⟩
instance ld_132_4_2 (x : api_Segment) : LdC Tryd.prog 4 (e_api_Segment x) 2 (.bool x.A.X.Den.Neg) := ⟨ldv_one (by kernel_rfl) (by kernel_rfl)⟩
instance ld_132_9_3 (x : api_Segment) : LdC Tryd.prog 9 (e_api_Segment x) 3 (.string x.A.X.Den.Mag) := ⟨ldv_one (by kernel_rfl) (by kernel_rfl)⟩
instance ld_132_28_4 (x : api_Segment) : LdC Tryd.prog 28 (e_api_Segment x) 4 (.agg (e_api_Rat x.A.Y)) := ⟨ldv_agg 4 (by kernel_rfl) (by kernel_rfl) (by kernel_rfl)⟩
instance ld_132_26_4 (x : api_Segment) : LdC Tryd.prog 26 (e_api_Segment x) 4 (.agg (e_api_Int x.A.Y.Num)) := ⟨ldv_agg 2 (by kernel_rfl) (by kernel_rfl) (by kernel_rfl)⟩
instance ld_132_4_4 (x : api_Segment) : LdC Tryd.prog 4 (e_api_Segment x) 4 (.bool x.A.Y.Num.Neg) := ⟨ldv_one (by kernel_rfl) (by kernel_rfl)⟩
instance ld_132_9_5 (x : api_Segment) : LdC Tryd.prog 9 (e_api_Segment x) 5 (.string x.A.Y.Num.Mag) := ⟨ldv_one (by kernel_rfl) (by kernel_rfl)⟩
instance ld_132_26_6 (x : api_Segment) : LdC Tryd.prog 26 (e_api_Segment x) 6 (.agg (e_api_Int x.A.Y.Den)) := ⟨ldv_agg 2 (by kernel_rfl) (by kernel_rfl) (by kernel_rfl)⟩
instance ld_132_4_6 (x : api_Segment) : LdC Tryd.prog 4 (e_api_Segment x) 6 (.bool x.A.Y.Den.Neg) := ⟨ldv_one (by kernel_rfl) (by kernel_rfl)⟩
instance ld_132_9_7 (x : api_Segment) : LdC Tryd.prog 9 (e_api_Segment x) 7 (.string x.A.Y.Den.Mag) := ⟨ldv_one (by kernel_rfl) (by kernel_rfl)⟩
instance ld_132_50_8 (x : api_Segment) : LdC Tryd.prog 50 (e_api_Segment x) 8 (.agg (e_api_Point x.B)) := ⟨ldv_agg 8 (by kernel_rfl) (by kernel_rfl) (by kernel_rfl)⟩
instance ld_132_28_8 (x : api_Segment) : LdC Tryd.prog 28 (e_api_Segment x) 8 (.agg (e_api_Rat x.B.X)) := ⟨ldv_agg 4 (by kernel_rfl) (by kernel_rfl) (by kernel_rfl)⟩
instance ld_132_26_8 (x : api_Segment) : LdC Tryd.prog 26 (e_api_Segment x) 8 (.agg (e_api_Int x.B.X.Num)) := ⟨ldv_agg 2 (by kernel_rfl) (by kernel_rfl) (by kernel_rfl)⟩
instance ld_132_4_8 (x : api_Segment) : LdC Tryd.prog 4 (e_api_Segment x) 8 (.bool x.B.X.Num.Neg) := ⟨ldv_one (by kernel_rfl) (by kernel_rfl)⟩
instance ld_132_9_9 (x : api_Segment) : LdC Tryd.prog 9 (e_api_Segment x) 9 (.string x.B.X.Num.Mag) := ⟨ldv_one (by kernel_rfl) (by kernel_rfl)⟩
instance ld_132_26_10 (x : api_Segment) : LdC Tryd.prog 26 (e_api_Segment x) 10 (.agg (e_api_Int x.B.X.Den)) := ⟨ldv_agg 2 (by kernel_rfl) (by kernel_rfl) (by kernel_rfl)⟩
instance ld_132_4_10 (x : api_Segment) : LdC Tryd.prog 4 (e_api_Segment x) 10 (.bool x.B.X.Den.Neg) := ⟨ldv_one (by kernel_rfl) (by kernel_rfl)⟩
instance ld_132_9_11 (x : api_Segment) : LdC Tryd.prog 9 (e_api_Segment x) 11 (.string x.B.X.Den.Mag) := ⟨ldv_one (by kernel_rfl) (by kernel_rfl)⟩
instance ld_132_28_12 (x : api_Segment) : LdC Tryd.prog 28 (e_api_Segment x) 12 (.agg (e_api_Rat x.B.Y)) := ⟨ldv_agg 4 (by kernel_rfl) (by kernel_rfl) (by kernel_rfl)⟩
instance ld_132_26_12 (x : api_Segment) : LdC Tryd.prog 26 (e_api_Segment x) 12 (.agg (e_api_Int x.B.Y.Num)) := ⟨ldv_agg 2 (by kernel_rfl) (by kernel_rfl) (by kernel_rfl)⟩
instance ld_132_4_12 (x : api_Segment) : LdC Tryd.prog 4 (e_api_Segment x) 12 (.bool x.B.Y.Num.Neg) := ⟨ldv_one (by kernel_rfl) (by kernel_rfl)⟩
instance ld_132_9_13 (x : api_Segment) : LdC Tryd.prog 9 (e_api_Segment x) 13 (.string x.B.Y.Num.Mag) := ⟨ldv_one (by kernel_rfl) (by kernel_rfl)⟩
instance ld_132_26_14 (x : api_Segment) : LdC Tryd.prog 26 (e_api_Segment x) 14 (.agg (e_api_Int x.B.Y.Den)) := ⟨ldv_agg 2 (by kernel_rfl) (by kernel_rfl) (by kernel_rfl)⟩
instance ld_132_4_14 (x : api_Segment) : LdC Tryd.prog 4 (e_api_Segment x) 14 (.bool x.B.Y.Den.Neg) := ⟨ldv_one (by kernel_rfl) (by kernel_rfl)⟩
instance ld_132_9_15 (x : api_Segment) : LdC Tryd.prog 9 (e_api_Segment x) 15 (.string x.B.Y.Den.Mag) := ⟨ldv_one (by kernel_rfl) (by kernel_rfl)⟩
instance bd_26_ : BdC Tryd.prog 26 [] (.agg (e_api_Int z_api_Int)) := ⟨fun w => by kernel_rfl⟩
instance bd_26_0_1 (x0 : Bool) (x1 : ByteArray) : BdC Tryd.prog 26 [(0, .bool x0), (1, .string x1)] (.agg (e_api_Int ⟨x0, x1⟩)) := ⟨fun w => by kernel_rfl⟩
instance bd_28_ : BdC Tryd.prog 28 [] (.agg (e_api_Rat z_api_Rat)) := ⟨fun w => by kernel_rfl⟩
instance bd_28_0 (x0 : api_Int) : BdC Tryd.prog 28 [(0, .agg (e_api_Int x0))] (.agg (e_api_Rat ⟨x0, z_api_Int⟩)) := ⟨fun w => by kernel_rfl⟩
instance bd_28_0_1 (x0 : api_Int) (x1 : api_Int) : BdC Tryd.prog 28 [(0, .agg (e_api_Int x0)), (1, .agg (e_api_Int x1))] (.agg (e_api_Rat ⟨x0, x1⟩)) := ⟨fun w => by kernel_rfl⟩
instance bd_30_0 (x0 : api_Rat) : BdC Tryd.prog 30 [(0, .agg (e_api_Rat x0))] (.agg (e_api_Real ⟨x0, z_api_Rat, false⟩)) := ⟨fun w => by kernel_rfl⟩
instance bd_32_0_1 (x0 : api_Real) (x1 : api_Real) : BdC Tryd.prog 32 [(0, .agg (e_api_Real x0)), (1, .agg (e_api_Real x1))] (.agg (e_api_Interval ⟨x0, x1, false, false⟩)) := ⟨fun w => by kernel_rfl⟩
instance bd_32_1 (x1 : api_Real) : BdC Tryd.prog 32 [(1, .agg (e_api_Real x1))] (.agg (e_api_Interval ⟨z_api_Real, x1, false, false⟩)) := ⟨fun w => by kernel_rfl⟩
instance bd_35_ : BdC Tryd.prog 35 [] (.agg (e_simplify_Run z_simplify_Run)) := ⟨fun w => by kernel_rfl⟩
instance bd_35_0 (x0 : api_Interval) : BdC Tryd.prog 35 [(0, .agg (e_api_Interval x0))] (.agg (e_simplify_Run ⟨x0, ⟨none, 0, 0⟩⟩)) := ⟨fun w => by kernel_rfl⟩
instance bd_35_0_1 (x0 : api_Interval) (x1 : Option Addr) (x1l x1c : Nat) : BdC Tryd.prog 35 [(0, .agg (e_api_Interval x0)), (1, .slice x1 x1l x1c)] (.agg (e_simplify_Run ⟨x0, ⟨x1, x1l, x1c⟩⟩)) := ⟨fun w => by kernel_rfl⟩
instance bd_50_0_1 (x0 : api_Rat) (x1 : api_Rat) : BdC Tryd.prog 50 [(0, .agg (e_api_Rat x0)), (1, .agg (e_api_Rat x1))] (.agg (e_api_Point ⟨x0, x1⟩)) := ⟨fun w => by kernel_rfl⟩
instance bd_52_0_1 (x0 : api_Rat) (x1 : api_Point) : BdC Tryd.prog 52 [(0, .agg (e_api_Rat x0)), (1, .agg (e_api_Point x1))] (.agg (e_movingpoint_Sample ⟨x0, x1⟩)) := ⟨fun w => by kernel_rfl⟩
instance bd_97_0_1_2_3 (x0 : api_Rat) (x1 : api_Rat) (x2 : api_Rat) (x3 : api_Rat) : BdC Tryd.prog 97 [(0, .agg (e_api_Rat x0)), (1, .agg (e_api_Rat x1)), (2, .agg (e_api_Rat x2)), (3, .agg (e_api_Rat x3))] (.agg (e_api_Line ⟨x0, x1, x2, x3⟩)) := ⟨fun w => by kernel_rfl⟩
instance bd_122_ : BdC Tryd.prog 122 [] (.agg (e_api_Quad z_api_Quad)) := ⟨fun w => by kernel_rfl⟩
instance bd_122_0_1 (x0 : api_Rat) (x1 : api_Rat) : BdC Tryd.prog 122 [(0, .agg (e_api_Rat x0)), (1, .agg (e_api_Rat x1))] (.agg (e_api_Quad ⟨x0, x1, z_api_Rat⟩)) := ⟨fun w => by kernel_rfl⟩
instance bd_132_0_1 (x0 : api_Point) (x1 : api_Point) : BdC Tryd.prog 132 [(0, .agg (e_api_Point x0)), (1, .agg (e_api_Point x1))] (.agg (e_api_Segment ⟨x0, x1⟩)) := ⟨fun w => by kernel_rfl⟩
theorem eqIn_26 (d : Nat) (w : World) (x y : api_Int) : (Op.equalIn (d + 2) 26 (.agg (e_api_Int x)) (.agg (e_api_Int y))).run Tryd.prog w = .ok (decide (x = y)) w := by
  have p0 : ∀ (z : api_Int) (u : World), (part 4 (e_api_Int z) 0).run Tryd.prog u = .ok (.bool z.Neg) u := fun _ _ => by kernel_rfl
  have q0 : ∀ (u : World), (Op.equalIn (d + 1) 4 (.bool x.Neg) (.bool y.Neg)).run Tryd.prog u = .ok (decide (x.Neg = y.Neg)) u := fun u => by rw [run_equalIn_bool' u (d + 0) 4 _ _ (by kernel_rfl), beq_decO]
  have p1 : ∀ (z : api_Int) (u : World), (part 9 (e_api_Int z) 1).run Tryd.prog u = .ok (.string z.Mag) u := fun _ _ => by kernel_rfl
  have q1 : ∀ (u : World), (Op.equalIn (d + 1) 9 (.string x.Mag) (.string y.Mag)).run Tryd.prog u = .ok (decide (x.Mag = y.Mag)) u := fun u => by rw [run_equalIn_string u (d + 0) 9 _ _ (by kernel_rfl), ← beq_toListBytes, beq_decB]
  have hf : (Tryd.prog.fieldsOf 26).toList = [{ name := "Neg", type := 4, offset := 0, embedded := false, tag := "", pkgPath := "", byteOffset := 0 }, { name := "Mag", type := 9, offset := 1, embedded := false, tag := "", pkgPath := "", byteOffset := 8 }] := by kernel_rfl
  rw [run_equalIn_struct w (d + 1) 26 _ _ (by kernel_rfl) (by kernel_rfl), hf]
  have hx : x = y ↔ (x.Neg = y.Neg ∧ x.Mag = y.Mag) := by cases x; cases y; simp
  simp only [Op.eqFields, Sem.run_bind, Result.andThen_ok, Sem.run_ite, Sem.run_pure, p0, p1, q0, q1]
  by_cases h0 : x.Neg = y.Neg <;> by_cases h1 : x.Mag = y.Mag <;> simp [hx, h0, h1]
instance eql_26 (x y : api_Int) : BinC Tryd.prog .eql 26 (.agg (e_api_Int x)) (.agg (e_api_Int y)) (.bool (decide (x = y))) := ⟨fun a b w => run_eqGuard_agg w _ _ _ _ _ _ (by kernel_rfl), fun w => by rw [run_eql_struct, eqIn_26 9998]; rfl⟩
instance neq_26 (x y : api_Int) : BinC Tryd.prog .neq 26 (.agg (e_api_Int x)) (.agg (e_api_Int y)) (.bool (!decide (x = y))) := ⟨fun a b w => run_eqGuard_agg w _ _ _ _ _ _ (by kernel_rfl), fun w => by rw [run_neq_struct, eqIn_26 9998]; rfl⟩
theorem eqIn_28 (d : Nat) (w : World) (x y : api_Rat) : (Op.equalIn (d + 3) 28 (.agg (e_api_Rat x)) (.agg (e_api_Rat y))).run Tryd.prog w = .ok (decide (x = y)) w := by
  have p0 : ∀ (z : api_Rat) (u : World), (part 26 (e_api_Rat z) 0).run Tryd.prog u = .ok (.agg (e_api_Int z.Num)) u := fun _ _ => by kernel_rfl
  have q0 : ∀ (u : World), (Op.equalIn (d + 2) 26 (.agg (e_api_Int x.Num)) (.agg (e_api_Int y.Num))).run Tryd.prog u = .ok (decide (x.Num = y.Num)) u := fun u => eqIn_26 (d + 0) u _ _
  have p1 : ∀ (z : api_Rat) (u : World), (part 26 (e_api_Rat z) 2).run Tryd.prog u = .ok (.agg (e_api_Int z.Den)) u := fun _ _ => by kernel_rfl
  have q1 : ∀ (u : World), (Op.equalIn (d + 2) 26 (.agg (e_api_Int x.Den)) (.agg (e_api_Int y.Den))).run Tryd.prog u = .ok (decide (x.Den = y.Den)) u := fun u => eqIn_26 (d + 0) u _ _
  have hf : (Tryd.prog.fieldsOf 28).toList = [{ name := "Num", type := 26, offset := 0, embedded := false, tag := "", pkgPath := "", byteOffset := 0 }, { name := "Den", type := 26, offset := 2, embedded := false, tag := "", pkgPath := "", byteOffset := 24 }] := by kernel_rfl
  rw [run_equalIn_struct w (d + 2) 28 _ _ (by kernel_rfl) (by kernel_rfl), hf]
  have hx : x = y ↔ (x.Num = y.Num ∧ x.Den = y.Den) := by cases x; cases y; simp
  simp only [Op.eqFields, Sem.run_bind, Result.andThen_ok, Sem.run_ite, Sem.run_pure, p0, p1, q0, q1]
  by_cases h0 : x.Num = y.Num <;> by_cases h1 : x.Den = y.Den <;> simp [hx, h0, h1]
instance eql_28 (x y : api_Rat) : BinC Tryd.prog .eql 28 (.agg (e_api_Rat x)) (.agg (e_api_Rat y)) (.bool (decide (x = y))) := ⟨fun a b w => run_eqGuard_agg w _ _ _ _ _ _ (by kernel_rfl), fun w => by rw [run_eql_struct, eqIn_28 9997]; rfl⟩
instance neq_28 (x y : api_Rat) : BinC Tryd.prog .neq 28 (.agg (e_api_Rat x)) (.agg (e_api_Rat y)) (.bool (!decide (x = y))) := ⟨fun a b w => run_eqGuard_agg w _ _ _ _ _ _ (by kernel_rfl), fun w => by rw [run_neq_struct, eqIn_28 9997]; rfl⟩
theorem eqIn_30 (d : Nat) (w : World) (x y : api_Real) : (Op.equalIn (d + 4) 30 (.agg (e_api_Real x)) (.agg (e_api_Real y))).run Tryd.prog w = .ok (decide (x = y)) w := by
  have p0 : ∀ (z : api_Real) (u : World), (part 28 (e_api_Real z) 0).run Tryd.prog u = .ok (.agg (e_api_Rat z.P)) u := fun _ _ => by kernel_rfl
  have q0 : ∀ (u : World), (Op.equalIn (d + 3) 28 (.agg (e_api_Rat x.P)) (.agg (e_api_Rat y.P))).run Tryd.prog u = .ok (decide (x.P = y.P)) u := fun u => eqIn_28 (d + 0) u _ _
  have p1 : ∀ (z : api_Real) (u : World), (part 28 (e_api_Real z) 4).run Tryd.prog u = .ok (.agg (e_api_Rat z.R)) u := fun _ _ => by kernel_rfl
  have q1 : ∀ (u : World), (Op.equalIn (d + 3) 28 (.agg (e_api_Rat x.R)) (.agg (e_api_Rat y.R))).run Tryd.prog u = .ok (decide (x.R = y.R)) u := fun u => eqIn_28 (d + 0) u _ _
  have p2 : ∀ (z : api_Real) (u : World), (part 4 (e_api_Real z) 8).run Tryd.prog u = .ok (.bool z.Neg) u := fun _ _ => by kernel_rfl
  have q2 : ∀ (u : World), (Op.equalIn (d + 3) 4 (.bool x.Neg) (.bool y.Neg)).run Tryd.prog u = .ok (decide (x.Neg = y.Neg)) u := fun u => by rw [run_equalIn_bool' u (d + 2) 4 _ _ (by kernel_rfl), beq_decO]
  have hf : (Tryd.prog.fieldsOf 30).toList = [{ name := "P", type := 28, offset := 0, embedded := false, tag := "", pkgPath := "", byteOffset := 0 }, { name := "R", type := 28, offset := 4, embedded := false, tag := "", pkgPath := "", byteOffset := 48 }, { name := "Neg", type := 4, offset := 8, embedded := false, tag := "", pkgPath := "", byteOffset := 96 }] := by kernel_rfl
  rw [run_equalIn_struct w (d + 3) 30 _ _ (by kernel_rfl) (by kernel_rfl), hf]
  have hx : x = y ↔ (x.P = y.P ∧ x.R = y.R ∧ x.Neg = y.Neg) := by cases x; cases y; simp
  simp only [Op.eqFields, Sem.run_bind, Result.andThen_ok, Sem.run_ite, Sem.run_pure, p0, p1, p2, q0, q1, q2]
  by_cases h0 : x.P = y.P <;> by_cases h1 : x.R = y.R <;> by_cases h2 : x.Neg = y.Neg <;> simp [hx, h0, h1, h2]
instance eql_30 (x y : api_Real) : BinC Tryd.prog .eql 30 (.agg (e_api_Real x)) (.agg (e_api_Real y)) (.bool (decide (x = y))) := ⟨fun a b w => run_eqGuard_agg w _ _ _ _ _ _ (by kernel_rfl), fun w => by rw [run_eql_struct, eqIn_30 9996]; rfl⟩
instance neq_30 (x y : api_Real) : BinC Tryd.prog .neq 30 (.agg (e_api_Real x)) (.agg (e_api_Real y)) (.bool (!decide (x = y))) := ⟨fun a b w => run_eqGuard_agg w _ _ _ _ _ _ (by kernel_rfl), fun w => by rw [run_neq_struct, eqIn_30 9996]; rfl⟩
theorem eqIn_32 (d : Nat) (w : World) (x y : api_Interval) : (Op.equalIn (d + 5) 32 (.agg (e_api_Interval x)) (.agg (e_api_Interval y))).run Tryd.prog w = .ok (decide (x = y)) w := by
  have p0 : ∀ (z : api_Interval) (u : World), (part 30 (e_api_Interval z) 0).run Tryd.prog u = .ok (.agg (e_api_Real z.From)) u := fun _ _ => by kernel_rfl
  have q0 : ∀ (u : World), (Op.equalIn (d + 4) 30 (.agg (e_api_Real x.From)) (.agg (e_api_Real y.From))).run Tryd.prog u = .ok (decide (x.From = y.From)) u := fun u => eqIn_30 (d + 0) u _ _
  have p1 : ∀ (z : api_Interval) (u : World), (part 30 (e_api_Interval z) 9).run Tryd.prog u = .ok (.agg (e_api_Real z.To)) u := fun _ _ => by kernel_rfl
  have q1 : ∀ (u : World), (Op.equalIn (d + 4) 30 (.agg (e_api_Real x.To)) (.agg (e_api_Real y.To))).run Tryd.prog u = .ok (decide (x.To = y.To)) u := fun u => eqIn_30 (d + 0) u _ _
  have p2 : ∀ (z : api_Interval) (u : World), (part 4 (e_api_Interval z) 18).run Tryd.prog u = .ok (.bool z.OpenFrom) u := fun _ _ => by kernel_rfl
  have q2 : ∀ (u : World), (Op.equalIn (d + 4) 4 (.bool x.OpenFrom) (.bool y.OpenFrom)).run Tryd.prog u = .ok (decide (x.OpenFrom = y.OpenFrom)) u := fun u => by rw [run_equalIn_bool' u (d + 3) 4 _ _ (by kernel_rfl), beq_decO]
  have p3 : ∀ (z : api_Interval) (u : World), (part 4 (e_api_Interval z) 19).run Tryd.prog u = .ok (.bool z.OpenTo) u := fun _ _ => by kernel_rfl
  have q3 : ∀ (u : World), (Op.equalIn (d + 4) 4 (.bool x.OpenTo) (.bool y.OpenTo)).run Tryd.prog u = .ok (decide (x.OpenTo = y.OpenTo)) u := fun u => by rw [run_equalIn_bool' u (d + 3) 4 _ _ (by kernel_rfl), beq_decO]
  have hf : (Tryd.prog.fieldsOf 32).toList = [{ name := "From", type := 30, offset := 0, embedded := false, tag := "", pkgPath := "", byteOffset := 0 }, { name := "To", type := 30, offset := 9, embedded := false, tag := "", pkgPath := "", byteOffset := 104 }, { name := "OpenFrom", type := 4, offset := 18, embedded := false, tag := "", pkgPath := "", byteOffset := 208 }, { name := "OpenTo", type := 4, offset := 19, embedded := false, tag := "", pkgPath := "", byteOffset := 209 }] := by kernel_rfl
  rw [run_equalIn_struct w (d + 4) 32 _ _ (by kernel_rfl) (by kernel_rfl), hf]
  have hx : x = y ↔ (x.From = y.From ∧ x.To = y.To ∧ x.OpenFrom = y.OpenFrom ∧ x.OpenTo = y.OpenTo) := by cases x; cases y; simp
  simp only [Op.eqFields, Sem.run_bind, Result.andThen_ok, Sem.run_ite, Sem.run_pure, p0, p1, p2, p3, q0, q1, q2, q3]
  by_cases h0 : x.From = y.From <;> by_cases h1 : x.To = y.To <;> by_cases h2 : x.OpenFrom = y.OpenFrom <;> by_cases h3 : x.OpenTo = y.OpenTo <;> simp [hx, h0, h1, h2, h3]
instance eql_32 (x y : api_Interval) : BinC Tryd.prog .eql 32 (.agg (e_api_Interval x)) (.agg (e_api_Interval y)) (.bool (decide (x = y))) := ⟨fun a b w => run_eqGuard_agg w _ _ _ _ _ _ (by kernel_rfl), fun w => by rw [run_eql_struct, eqIn_32 9995]; rfl⟩
instance neq_32 (x y : api_Interval) : BinC Tryd.prog .neq 32 (.agg (e_api_Interval x)) (.agg (e_api_Interval y)) (.bool (!decide (x = y))) := ⟨fun a b w => run_eqGuard_agg w _ _ _ _ _ _ (by kernel_rfl), fun w => by rw [run_neq_struct, eqIn_32 9995]; rfl⟩
theorem eqIn_50 (d : Nat) (w : World) (x y : api_Point) : (Op.equalIn (d + 4) 50 (.agg (e_api_Point x)) (.agg (e_api_Point y))).run Tryd.prog w = .ok (decide (x = y)) w := by
  have p0 : ∀ (z : api_Point) (u : World), (part 28 (e_api_Point z) 0).run Tryd.prog u = .ok (.agg (e_api_Rat z.X)) u := fun _ _ => by kernel_rfl
  have q0 : ∀ (u : World), (Op.equalIn (d + 3) 28 (.agg (e_api_Rat x.X)) (.agg (e_api_Rat y.X))).run Tryd.prog u = .ok (decide (x.X = y.X)) u := fun u => eqIn_28 (d + 0) u _ _
  have p1 : ∀ (z : api_Point) (u : World), (part 28 (e_api_Point z) 4).run Tryd.prog u = .ok (.agg (e_api_Rat z.Y)) u := fun _ _ => by kernel_rfl
  have q1 : ∀ (u : World), (Op.equalIn (d + 3) 28 (.agg (e_api_Rat x.Y)) (.agg (e_api_Rat y.Y))).run Tryd.prog u = .ok (decide (x.Y = y.Y)) u := fun u => eqIn_28 (d + 0) u _ _
  have hf : (Tryd.prog.fieldsOf 50).toList = [{ name := "X", type := 28, offset := 0, embedded := false, tag := "", pkgPath := "", byteOffset := 0 }, { name := "Y", type := 28, offset := 4, embedded := false, tag := "", pkgPath := "", byteOffset := 48 }] := by kernel_rfl
  rw [run_equalIn_struct w (d + 3) 50 _ _ (by kernel_rfl) (by kernel_rfl), hf]
  have hx : x = y ↔ (x.X = y.X ∧ x.Y = y.Y) := by cases x; cases y; simp
  simp only [Op.eqFields, Sem.run_bind, Result.andThen_ok, Sem.run_ite, Sem.run_pure, p0, p1, q0, q1]
  by_cases h0 : x.X = y.X <;> by_cases h1 : x.Y = y.Y <;> simp [hx, h0, h1]
instance eql_50 (x y : api_Point) : BinC Tryd.prog .eql 50 (.agg (e_api_Point x)) (.agg (e_api_Point y)) (.bool (decide (x = y))) := ⟨fun a b w => run_eqGuard_agg w _ _ _ _ _ _ (by kernel_rfl), fun w => by rw [run_eql_struct, eqIn_50 9996]; rfl⟩
instance neq_50 (x y : api_Point) : BinC Tryd.prog .neq 50 (.agg (e_api_Point x)) (.agg (e_api_Point y)) (.bool (!decide (x = y))) := ⟨fun a b w => run_eqGuard_agg w _ _ _ _ _ _ (by kernel_rfl), fun w => by rw [run_neq_struct, eqIn_50 9996]; rfl⟩
theorem eqIn_52 (d : Nat) (w : World) (x y : movingpoint_Sample) : (Op.equalIn (d + 5) 52 (.agg (e_movingpoint_Sample x)) (.agg (e_movingpoint_Sample y))).run Tryd.prog w = .ok (decide (x = y)) w := by
  have p0 : ∀ (z : movingpoint_Sample) (u : World), (part 28 (e_movingpoint_Sample z) 0).run Tryd.prog u = .ok (.agg (e_api_Rat z.T)) u := fun _ _ => by kernel_rfl
  have q0 : ∀ (u : World), (Op.equalIn (d + 4) 28 (.agg (e_api_Rat x.T)) (.agg (e_api_Rat y.T))).run Tryd.prog u = .ok (decide (x.T = y.T)) u := fun u => eqIn_28 (d + 1) u _ _
  have p1 : ∀ (z : movingpoint_Sample) (u : World), (part 50 (e_movingpoint_Sample z) 4).run Tryd.prog u = .ok (.agg (e_api_Point z.P)) u := fun _ _ => by kernel_rfl
  have q1 : ∀ (u : World), (Op.equalIn (d + 4) 50 (.agg (e_api_Point x.P)) (.agg (e_api_Point y.P))).run Tryd.prog u = .ok (decide (x.P = y.P)) u := fun u => eqIn_50 (d + 0) u _ _
  have hf : (Tryd.prog.fieldsOf 52).toList = [{ name := "T", type := 28, offset := 0, embedded := false, tag := "", pkgPath := "", byteOffset := 0 }, { name := "P", type := 50, offset := 4, embedded := false, tag := "", pkgPath := "", byteOffset := 48 }] := by kernel_rfl
  rw [run_equalIn_struct w (d + 4) 52 _ _ (by kernel_rfl) (by kernel_rfl), hf]
  have hx : x = y ↔ (x.T = y.T ∧ x.P = y.P) := by cases x; cases y; simp
  simp only [Op.eqFields, Sem.run_bind, Result.andThen_ok, Sem.run_ite, Sem.run_pure, p0, p1, q0, q1]
  by_cases h0 : x.T = y.T <;> by_cases h1 : x.P = y.P <;> simp [hx, h0, h1]
instance eql_52 (x y : movingpoint_Sample) : BinC Tryd.prog .eql 52 (.agg (e_movingpoint_Sample x)) (.agg (e_movingpoint_Sample y)) (.bool (decide (x = y))) := ⟨fun a b w => run_eqGuard_agg w _ _ _ _ _ _ (by kernel_rfl), fun w => by rw [run_eql_struct, eqIn_52 9995]; rfl⟩
instance neq_52 (x y : movingpoint_Sample) : BinC Tryd.prog .neq 52 (.agg (e_movingpoint_Sample x)) (.agg (e_movingpoint_Sample y)) (.bool (!decide (x = y))) := ⟨fun a b w => run_eqGuard_agg w _ _ _ _ _ _ (by kernel_rfl), fun w => by rw [run_neq_struct, eqIn_52 9995]; rfl⟩
instance call_3 : CallC Tryd.prog 3 := ⟨by kernel_rfl⟩
instance call_4 : CallC Tryd.prog 4 := ⟨by kernel_rfl⟩
instance call_5 : CallC Tryd.prog 5 := ⟨by kernel_rfl⟩
instance call_6 : CallC Tryd.prog 6 := ⟨by kernel_rfl⟩
instance call_7 : CallC Tryd.prog 7 := ⟨by kernel_rfl⟩
instance call_8 : CallC Tryd.prog 8 := ⟨by kernel_rfl⟩
instance call_9 : CallC Tryd.prog 9 := ⟨by kernel_rfl⟩
instance call_10 : CallC Tryd.prog 10 := ⟨by kernel_rfl⟩
instance call_11 : CallC Tryd.prog 11 := ⟨by kernel_rfl⟩
instance call_12 : CallC Tryd.prog 12 := ⟨by kernel_rfl⟩
instance call_13 : CallC Tryd.prog 13 := ⟨by kernel_rfl⟩
instance call_14 : CallC Tryd.prog 14 := ⟨by kernel_rfl⟩
instance call_15 : CallC Tryd.prog 15 := ⟨by kernel_rfl⟩
instance call_16 : CallC Tryd.prog 16 := ⟨by kernel_rfl⟩
instance call_17 : CallC Tryd.prog 17 := ⟨by kernel_rfl⟩
instance call_18 : CallC Tryd.prog 18 := ⟨by kernel_rfl⟩
instance call_19 : CallC Tryd.prog 19 := ⟨by kernel_rfl⟩
instance call_20 : CallC Tryd.prog 20 := ⟨by kernel_rfl⟩
instance call_21 : CallC Tryd.prog 21 := ⟨by kernel_rfl⟩
instance call_22 : CallC Tryd.prog 22 := ⟨by kernel_rfl⟩
instance call_23 : CallC Tryd.prog 23 := ⟨by kernel_rfl⟩
instance call_24 : CallC Tryd.prog 24 := ⟨by kernel_rfl⟩
instance call_25 : CallC Tryd.prog 25 := ⟨by kernel_rfl⟩
instance call_26 : CallC Tryd.prog 26 := ⟨by kernel_rfl⟩
instance call_27 : CallC Tryd.prog 27 := ⟨by kernel_rfl⟩
instance call_28 : CallC Tryd.prog 28 := ⟨by kernel_rfl⟩
instance call_29 : CallC Tryd.prog 29 := ⟨by kernel_rfl⟩
instance call_30 : CallC Tryd.prog 30 := ⟨by kernel_rfl⟩
instance call_31 : CallC Tryd.prog 31 := ⟨by kernel_rfl⟩
instance call_32 : CallC Tryd.prog 32 := ⟨by kernel_rfl⟩
instance call_33 : CallC Tryd.prog 33 := ⟨by kernel_rfl⟩
instance call_34 : CallC Tryd.prog 34 := ⟨by kernel_rfl⟩
instance call_35 : CallC Tryd.prog 35 := ⟨by kernel_rfl⟩
instance call_36 : CallC Tryd.prog 36 := ⟨by kernel_rfl⟩
instance call_37 : CallC Tryd.prog 37 := ⟨by kernel_rfl⟩
instance call_38 : CallC Tryd.prog 38 := ⟨by kernel_rfl⟩
instance call_39 : CallC Tryd.prog 39 := ⟨by kernel_rfl⟩
instance call_40 : CallC Tryd.prog 40 := ⟨by kernel_rfl⟩
instance call_41 : CallC Tryd.prog 41 := ⟨by kernel_rfl⟩
instance call_42 : CallC Tryd.prog 42 := ⟨by kernel_rfl⟩
instance call_43 : CallC Tryd.prog 43 := ⟨by kernel_rfl⟩
instance call_44 : CallC Tryd.prog 44 := ⟨by kernel_rfl⟩
instance call_45 : CallC Tryd.prog 45 := ⟨by kernel_rfl⟩
instance call_46 : CallC Tryd.prog 46 := ⟨by kernel_rfl⟩
instance call_47 : CallC Tryd.prog 47 := ⟨by kernel_rfl⟩
instance call_48 : CallC Tryd.prog 48 := ⟨by kernel_rfl⟩
instance call_49 : CallC Tryd.prog 49 := ⟨by kernel_rfl⟩
instance call_50 : CallC Tryd.prog 50 := ⟨by kernel_rfl⟩
instance call_51 : CallC Tryd.prog 51 := ⟨by kernel_rfl⟩
instance call_52 : CallC Tryd.prog 52 := ⟨by kernel_rfl⟩
instance call_53 : CallC Tryd.prog 53 := ⟨by kernel_rfl⟩
instance call_54 : CallC Tryd.prog 54 := ⟨by kernel_rfl⟩
instance call_55 : CallC Tryd.prog 55 := ⟨by kernel_rfl⟩
instance call_56 : CallC Tryd.prog 56 := ⟨by kernel_rfl⟩
instance call_57 : CallC Tryd.prog 57 := ⟨by kernel_rfl⟩
instance call_58 : CallC Tryd.prog 58 := ⟨by kernel_rfl⟩
instance call_59 : CallC Tryd.prog 59 := ⟨by kernel_rfl⟩
instance call_60 : CallC Tryd.prog 60 := ⟨by kernel_rfl⟩
instance call_61 : CallC Tryd.prog 61 := ⟨by kernel_rfl⟩
instance call_62 : CallC Tryd.prog 62 := ⟨by kernel_rfl⟩
instance call_63 : CallC Tryd.prog 63 := ⟨by kernel_rfl⟩
instance call_64 : CallC Tryd.prog 64 := ⟨by kernel_rfl⟩
instance call_65 : CallC Tryd.prog 65 := ⟨by kernel_rfl⟩
instance call_66 : CallC Tryd.prog 66 := ⟨by kernel_rfl⟩
instance call_67 : CallC Tryd.prog 67 := ⟨by kernel_rfl⟩
instance call_68 : CallC Tryd.prog 68 := ⟨by kernel_rfl⟩
instance call_69 : CallC Tryd.prog 69 := ⟨by kernel_rfl⟩
instance call_70 : CallC Tryd.prog 70 := ⟨by kernel_rfl⟩
instance call_72 : CallC Tryd.prog 72 := ⟨by kernel_rfl⟩
instance call_73 : CallC Tryd.prog 73 := ⟨by kernel_rfl⟩
instance call_74 : CallC Tryd.prog 74 := ⟨by kernel_rfl⟩
instance call_75 : CallC Tryd.prog 75 := ⟨by kernel_rfl⟩
instance call_76 : CallC Tryd.prog 76 := ⟨by kernel_rfl⟩
instance call_77 : CallC Tryd.prog 77 := ⟨by kernel_rfl⟩
instance call_78 : CallC Tryd.prog 78 := ⟨by kernel_rfl⟩
instance call_79 : CallC Tryd.prog 79 := ⟨by kernel_rfl⟩
instance call_80 : CallC Tryd.prog 80 := ⟨by kernel_rfl⟩
instance call_81 : CallC Tryd.prog 81 := ⟨by kernel_rfl⟩
instance call_82 : CallC Tryd.prog 82 := ⟨by kernel_rfl⟩
instance call_83 : CallC Tryd.prog 83 := ⟨by kernel_rfl⟩
instance call_84 : CallC Tryd.prog 84 := ⟨by kernel_rfl⟩
instance call_85 : CallC Tryd.prog 85 := ⟨by kernel_rfl⟩
instance call_87 : CallC Tryd.prog 87 := ⟨by kernel_rfl⟩
instance call_88 : CallC Tryd.prog 88 := ⟨by kernel_rfl⟩
instance call_89 : CallC Tryd.prog 89 := ⟨by kernel_rfl⟩
instance call_90 : CallC Tryd.prog 90 := ⟨by kernel_rfl⟩
instance call_91 : CallC Tryd.prog 91 := ⟨by kernel_rfl⟩
instance call_92 : CallC Tryd.prog 92 := ⟨by kernel_rfl⟩
instance call_94 : CallC Tryd.prog 94 := ⟨by kernel_rfl⟩
instance call_95 : CallC Tryd.prog 95 := ⟨by kernel_rfl⟩
theorem mixed : Tryd.prog.follows .mixedOrders = true := by kernel_rfl
end Go.Vt
