/- Proof that reconstructed trajectories are explained by their reports (part 4 of 27.) Conditions: those that each statement names. -/
import Derived.Test.YtjicdlilgjdefaaGreatDoorProg
import Derived.Test.YtjicdlilgjdefaaGreatDoorKE3
/- The struct types of this seat's translation as Lean structures, their cells, and what loads, literals, field addresses and comparisons give. Written by a program (gen_types.py). Conditions: none. -/
set_option linter.unusedVariables false
set_option maxRecDepth 100000
namespace Go.Vt
open Go.RowKit Go.Proofs
structure Sl where
 a : Option Addr
 len : Nat
 cap : Nat
structure Za2 where
 Loads : Sl
 Speed : Int
 Gap : Int
def ZI (x : Za2) : Array Value := #[.slice x.Loads.a x.Loads.len x.Loads.cap, .int .u8 x.Speed, .int .u8 x.Gap]
structure Z5 where
 Object : Int
 Seq : Int
 Version : Int
 Device : Int
 Time : Int
 X : Int
 Y : Int
 Cancel : Bool
 deriving DecidableEq
def Z2 (x : Z5) : Array Value := #[.int .u8 x.Object, .int .u8 x.Seq, .int .u8 x.Version, .int .u8 x.Device, .int .u8 x.Time, .int .u8 x.X, .int .u8 x.Y, .bool x.Cancel]
def ZeX : Z5 := ⟨0, 0, 0, 0, 0, 0, 0, false⟩
instance Zmz (x : Z5) : CsC (Z2 x) 8 := ⟨by kernel_rfl, by kernel_rfl⟩
structure ZU where
 MaxSpeed : Int
 MaxGap : Int
 deriving DecidableEq
def Zq (x : ZU) : Array Value := #[.int .i64 x.MaxSpeed, .int .i64 x.MaxGap]
def ZdZ : ZU := ⟨0, 0⟩
instance Zql (x : ZU) : CsC (Zq x) 2 := ⟨by kernel_rfl, by kernel_rfl⟩
structure Zb where
 Object : Int
 Seq : Int
 Version : Int
 Device : Int
 Time : Int
 X : Int
 Y : Int
 Cancel : Bool
 deriving DecidableEq
def Zc (x : Zb) : Array Value := #[.int .i64 x.Object, .int .i64 x.Seq, .int .i64 x.Version, .int .i64 x.Device, .int .i64 x.Time, .int .i64 x.X, .int .i64 x.Y, .bool x.Cancel]
def Zap : Zb := ⟨0, 0, 0, 0, 0, 0, 0, false⟩
instance ZrZ (x : Zb) : CsC (Zc x) 8 := ⟨by kernel_rfl, by kernel_rfl⟩
structure Zax where
 Reports : Sl
 Exchanges : Sl
def Zs (x : Zax) : Array Value := #[.slice x.Reports.a x.Reports.len x.Reports.cap, .slice x.Exchanges.a x.Exchanges.len x.Exchanges.cap]
def Zca : Zax := ⟨⟨none, 0, 0⟩, ⟨none, 0, 0⟩⟩
instance Zs2 (x : Zax) : CsC (Zs x) 2 := ⟨by kernel_rfl, by kernel_rfl⟩
structure Zan where
 Neg : Bool
 Mag : ByteArray
 deriving DecidableEq
def ZP (x : Zan) : Array Value := #[.bool x.Neg, .string x.Mag]
def ZaR : Zan := ⟨false, ByteArray.empty⟩
instance ZvR (x : Zan) : CsC (ZP x) 2 := ⟨by kernel_rfl, by kernel_rfl⟩
structure Z8 where
 Num : Zan
 Den : Zan
 deriving DecidableEq
def Zv (x : Z8) : Array Value := #[.bool x.Num.Neg, .string x.Num.Mag, .bool x.Den.Neg, .string x.Den.Mag]
def Zb1 : Z8 := ⟨ZaR, ZaR⟩
instance ZuI (x : Z8) : CsC (Zv x) 4 := ⟨by kernel_rfl, by kernel_rfl⟩
structure ZbZ where
 T : Z8
 Report : Zb
 deriving DecidableEq
def ZJ (x : ZbZ) : Array Value := #[.bool x.T.Num.Neg, .string x.T.Num.Mag, .bool x.T.Den.Neg, .string x.T.Den.Mag, .int .i64 x.Report.Object, .int .i64 x.Report.Seq, .int .i64 x.Report.Version, .int .i64 x.Report.Device, .int .i64 x.Report.Time, .int .i64 x.Report.X, .int .i64 x.Report.Y, .bool x.Report.Cancel]
instance Zqq (x : ZbZ) : CsC (ZJ x) 12 := ⟨by kernel_rfl, by kernel_rfl⟩
structure ZdQ where
 X : Z8
 Y : Z8
 deriving DecidableEq
def ZaJ (x : ZdQ) : Array Value := #[.bool x.X.Num.Neg, .string x.X.Num.Mag, .bool x.X.Den.Neg, .string x.X.Den.Mag, .bool x.Y.Num.Neg, .string x.Y.Num.Mag, .bool x.Y.Den.Neg, .string x.Y.Den.Mag]
instance Zsb (x : ZdQ) : CsC (ZaJ x) 8 := ⟨by kernel_rfl, by kernel_rfl⟩
structure ZaS where
 P : Z8
 R : Z8
 Neg : Bool
 deriving DecidableEq
def Zx (x : ZaS) : Array Value := #[.bool x.P.Num.Neg, .string x.P.Num.Mag, .bool x.P.Den.Neg, .string x.P.Den.Mag, .bool x.R.Num.Neg, .string x.R.Num.Mag, .bool x.R.Den.Neg, .string x.R.Den.Mag, .bool x.Neg]
instance ZtF (x : ZaS) : CsC (Zx x) 9 := ⟨by kernel_rfl, by kernel_rfl⟩
structure Zcs where
 Value : ZaS
 At : ZaS
 Reached : Bool
 deriving DecidableEq
structure Zav where
 From : ZaS
 To : ZaS
 OpenFrom : Bool
 OpenTo : Bool
 deriving DecidableEq
def ZC (x : Zav) : Array Value := #[.bool x.From.P.Num.Neg, .string x.From.P.Num.Mag, .bool x.From.P.Den.Neg, .string x.From.P.Den.Mag, .bool x.From.R.Num.Neg, .string x.From.R.Num.Mag, .bool x.From.R.Den.Neg, .string x.From.R.Den.Mag, .bool x.From.Neg, .bool x.To.P.Num.Neg, .string x.To.P.Num.Mag, .bool x.To.P.Den.Neg, .string x.To.P.Den.Mag, .bool x.To.R.Num.Neg, .string x.To.R.Num.Mag, .bool x.To.R.Den.Neg, .string x.To.R.Den.Mag, .bool x.To.Neg, .bool x.OpenFrom, .bool x.OpenTo]
instance Zqg (x : Zav) : CsC (ZC x) 20 := ⟨by kernel_rfl, by kernel_rfl⟩
structure ZaY where
 X0 : Z8
 X1 : Z8
 Y0 : Z8
 Y1 : Z8
 deriving DecidableEq
def ZW (x : ZaY) : Array Value := #[.bool x.X0.Num.Neg, .string x.X0.Num.Mag, .bool x.X0.Den.Neg, .string x.X0.Den.Mag, .bool x.X1.Num.Neg, .string x.X1.Num.Mag, .bool x.X1.Den.Neg, .string x.X1.Den.Mag, .bool x.Y0.Num.Neg, .string x.Y0.Num.Mag, .bool x.Y0.Den.Neg, .string x.Y0.Den.Mag, .bool x.Y1.Num.Neg, .string x.Y1.Num.Mag, .bool x.Y1.Den.Neg, .string x.Y1.Den.Mag]
instance Ztw (x : ZaY) : CsC (ZW x) 16 := ⟨by kernel_rfl, by kernel_rfl⟩
structure Zc5 where
 In : Zav
 F : ZaY
 deriving DecidableEq
def Zae (x : Zc5) : Array Value := #[.bool x.In.From.P.Num.Neg, .string x.In.From.P.Num.Mag, .bool x.In.From.P.Den.Neg, .string x.In.From.P.Den.Mag, .bool x.In.From.R.Num.Neg, .string x.In.From.R.Num.Mag, .bool x.In.From.R.Den.Neg, .string x.In.From.R.Den.Mag, .bool x.In.From.Neg, .bool x.In.To.P.Num.Neg, .string x.In.To.P.Num.Mag, .bool x.In.To.P.Den.Neg, .string x.In.To.P.Den.Mag, .bool x.In.To.R.Num.Neg, .string x.In.To.R.Num.Mag, .bool x.In.To.R.Den.Neg, .string x.In.To.R.Den.Mag, .bool x.In.To.Neg, .bool x.In.OpenFrom, .bool x.In.OpenTo, .bool x.F.X0.Num.Neg, .string x.F.X0.Num.Mag, .bool x.F.X0.Den.Neg, .string x.F.X0.Den.Mag, .bool x.F.X1.Num.Neg, .string x.F.X1.Num.Mag, .bool x.F.X1.Den.Neg, .string x.F.X1.Den.Mag, .bool x.F.Y0.Num.Neg, .string x.F.Y0.Num.Mag, .bool x.F.Y0.Den.Neg, .string x.F.Y0.Den.Mag, .bool x.F.Y1.Num.Neg, .string x.F.Y1.Num.Mag, .bool x.F.Y1.Den.Neg, .string x.F.Y1.Den.Mag]
instance Zp6 (x : Zc5) : CsC (Zae x) 36 := ⟨by kernel_rfl, by kernel_rfl⟩
structure ZR where
 Pings : Sl
 Calls : Sl
def Zah (x : ZR) : Array Value := #[.slice x.Pings.a x.Pings.len x.Pings.cap, .slice x.Calls.a x.Calls.len x.Calls.cap]
def ZeS : ZR := ⟨⟨none, 0, 0⟩, ⟨none, 0, 0⟩⟩
instance Zmy (x : ZR) : CsC (Zah x) 2 := ⟨by kernel_rfl, by kernel_rfl⟩
structure Za where
 From : Int
 To : Int
 Sent : Int
 Received : Int
 Least : Int
 deriving DecidableEq
def Ze (x : Za) : Array Value := #[.int .i64 x.From, .int .i64 x.To, .int .i64 x.Sent, .int .i64 x.Received, .int .i64 x.Least]
def ZcF : Za := ⟨0, 0, 0, 0, 0⟩
instance Zqj (x : Za) : CsC (Ze x) 5 := ⟨by kernel_rfl, by kernel_rfl⟩
structure Zaf where
 From : Int
 To : Int
 Sent : Int
 Delay : Int
 Least : Int
 Wrong : Bool
 deriving DecidableEq
def Zac (x : Zaf) : Array Value := #[.int .u8 x.From, .int .u8 x.To, .int .u8 x.Sent, .int .u8 x.Delay, .int .u8 x.Least, .bool x.Wrong]
def Zfi : Zaf := ⟨0, 0, 0, 0, 0, false⟩
instance Zmx (x : Zaf) : CsC (Zac x) 6 := ⟨by kernel_rfl, by kernel_rfl⟩
structure Zz where
 object : Int
 seq : Int
 deriving DecidableEq
def ZT (x : Zz) : Array Value := #[.int .i64 x.object, .int .i64 x.seq]
def Zb8 : Zz := ⟨0, 0⟩
instance Zm2 (x : Zz) : CsC (ZT x) 2 := ⟨by kernel_rfl, by kernel_rfl⟩
structure Zb2 where
 T : Z8
 P : ZdQ
 deriving DecidableEq
def Z1 (x : Zb2) : Array Value := #[.bool x.T.Num.Neg, .string x.T.Num.Mag, .bool x.T.Den.Neg, .string x.T.Den.Mag, .bool x.P.X.Num.Neg, .string x.P.X.Num.Mag, .bool x.P.X.Den.Neg, .string x.P.X.Den.Mag, .bool x.P.Y.Num.Neg, .string x.P.Y.Num.Mag, .bool x.P.Y.Den.Neg, .string x.P.Y.Den.Mag]
instance ZkC (x : Zb2) : CsC (Z1 x) 12 := ⟨by kernel_rfl, by kernel_rfl⟩
structure ZbF where
 C0 : Z8
 C1 : Z8
 C2 : Z8
 deriving DecidableEq
def ZX (x : ZbF) : Array Value := #[.bool x.C0.Num.Neg, .string x.C0.Num.Mag, .bool x.C0.Den.Neg, .string x.C0.Den.Mag, .bool x.C1.Num.Neg, .string x.C1.Num.Mag, .bool x.C1.Den.Neg, .string x.C1.Den.Mag, .bool x.C2.Num.Neg, .string x.C2.Num.Mag, .bool x.C2.Den.Neg, .string x.C2.Den.Mag]
instance Ztn (x : ZbF) : CsC (ZX x) 12 := ⟨by kernel_rfl, by kernel_rfl⟩
structure Zbt where
 Low : Int
 High : Int
 deriving DecidableEq
def Zai (x : Zbt) : Array Value := #[.int .i64 x.Low, .int .i64 x.High]
def ZcL : Zbt := ⟨0, 0⟩
instance Zqf (x : Zbt) : CsC (Zai x) 2 := ⟨by kernel_rfl, by kernel_rfl⟩
structure ZbG where
 In : Zav
 F : ZaY
 deriving DecidableEq
def Zt (x : ZbG) : Array Value := #[.bool x.In.From.P.Num.Neg, .string x.In.From.P.Num.Mag, .bool x.In.From.P.Den.Neg, .string x.In.From.P.Den.Mag, .bool x.In.From.R.Num.Neg, .string x.In.From.R.Num.Mag, .bool x.In.From.R.Den.Neg, .string x.In.From.R.Den.Mag, .bool x.In.From.Neg, .bool x.In.To.P.Num.Neg, .string x.In.To.P.Num.Mag, .bool x.In.To.P.Den.Neg, .string x.In.To.P.Den.Mag, .bool x.In.To.R.Num.Neg, .string x.In.To.R.Num.Mag, .bool x.In.To.R.Den.Neg, .string x.In.To.R.Den.Mag, .bool x.In.To.Neg, .bool x.In.OpenFrom, .bool x.In.OpenTo, .bool x.F.X0.Num.Neg, .string x.F.X0.Num.Mag, .bool x.F.X0.Den.Neg, .string x.F.X0.Den.Mag, .bool x.F.X1.Num.Neg, .string x.F.X1.Num.Mag, .bool x.F.X1.Den.Neg, .string x.F.X1.Den.Mag, .bool x.F.Y0.Num.Neg, .string x.F.Y0.Num.Mag, .bool x.F.Y0.Den.Neg, .string x.F.Y0.Den.Mag, .bool x.F.Y1.Num.Neg, .string x.F.Y1.Num.Mag, .bool x.F.Y1.Den.Neg, .string x.F.Y1.Den.Mag]
instance ZjL (x : ZbG) : CsC (Zt x) 36 := ⟨by kernel_rfl, by kernel_rfl⟩
structure Za8 where
 l : Sl
 some : Sl
 size : Int
def ZM (x : Za8) : Array Value := #[.slice x.l.a x.l.len x.l.cap, .slice x.some.a x.some.len x.some.cap, .int .i64 x.size]
def Zc4 : Za8 := ⟨⟨none, 0, 0⟩, ⟨none, 0, 0⟩, 0⟩
instance Zq0 (x : Za8) : CsC (ZM x) 3 := ⟨by kernel_rfl, by kernel_rfl⟩
instance ZG4 : UndC Tryz.prog 2 (.int .i64) := ⟨by kernel_rfl⟩
instance ZG2 : UndC Tryz.prog 3 (.int .i64) := ⟨by kernel_rfl⟩
instance ZG5 : UndC Tryz.prog 4 (.bool) := ⟨by kernel_rfl⟩
instance ZGU : UndC Tryz.prog 5 (.int .u8) := ⟨by kernel_rfl⟩
instance ZGW : UndC Tryz.prog 9 (.string) := ⟨by kernel_rfl⟩
instance ZFN : UndC Tryz.prog 22 (.slice 120) := ⟨by kernel_rfl⟩
instance ZGw : UndC Tryz.prog 29 (.slice 40) := ⟨by kernel_rfl⟩
instance ZF9 : UndC Tryz.prog 37 (.slice 35) := ⟨by kernel_rfl⟩
instance ZF3 : UndC Tryz.prog 38 (.slice 122) := ⟨by kernel_rfl⟩
instance ZF1 : UndC Tryz.prog 48 (.slice 56) := ⟨by kernel_rfl⟩
instance ZGL : UndC Tryz.prog 58 (.slice 115) := ⟨by kernel_rfl⟩
instance ZGc : UndC Tryz.prog 84 (.slice 111) := ⟨by kernel_rfl⟩
instance ZDA : UndC Tryz.prog 106 (.slice 3) := ⟨by kernel_rfl⟩
instance ZER : UndC Tryz.prog 117 (.slice 26) := ⟨by kernel_rfl⟩
instance ZCH : UndC Tryz.prog 118 (.slice 125) := ⟨by kernel_rfl⟩
instance ZE1 : UndC Tryz.prog 141 (.slice 143) := ⟨by kernel_rfl⟩
instance ZDX : UndC Tryz.prog 157 (.slice 224) := ⟨by kernel_rfl⟩
instance ZDC : UndC Tryz.prog 226 (.int .u64) := ⟨by kernel_rfl⟩
instance ZDN : UndC Tryz.prog 293 (.slice 5) := ⟨by kernel_rfl⟩
instance ZEo : UndC Tryz.prog 294 (.int .u64) := ⟨by kernel_rfl⟩
instance ZEi : UndC Tryz.prog 363 (.slice 365) := ⟨by kernel_rfl⟩
instance ZDR : UndC Tryz.prog 365 (.int .u32) := ⟨by kernel_rfl⟩
instance ZDV : UndC Tryz.prog 256 (.array 8 3) := ⟨by kernel_rfl⟩
instance ZFp : UndC Tryz.prog 292 (.array 8 5) := ⟨by kernel_rfl⟩
instance ZDy : BytesC Tryz.prog 3 8 := ⟨by kernel_rfl⟩
instance ZFb : BytesC Tryz.prog 5 1 := ⟨by kernel_rfl⟩
instance Zz9 : BytesC Tryz.prog 35 64 := ⟨by kernel_rfl⟩
instance ZzM : BytesC Tryz.prog 40 48 := ⟨by kernel_rfl⟩
instance Zzn : BytesC Tryz.prog 56 112 := ⟨by kernel_rfl⟩
instance Zxm : BytesC Tryz.prog 111 216 := ⟨by kernel_rfl⟩
instance ZxK : BytesC Tryz.prog 115 408 := ⟨by kernel_rfl⟩
instance ZwN : BytesC Tryz.prog 122 40 := ⟨by kernel_rfl⟩
instance Zwz : BytesC Tryz.prog 143 144 := ⟨by kernel_rfl⟩
instance ZwG : BytesC Tryz.prog 224 408 := ⟨by kernel_rfl⟩
instance Zxe : BytesC Tryz.prog 365 4 := ⟨by kernel_rfl⟩
instance ZF5 : ZeroC Tryz.prog 3 (.int .i64 0) #[.int .i64 0] := ⟨by kernel_rfl, by kernel_rfl⟩
instance ZFV : SizeC Tryz.prog 3 1 := ⟨by kernel_rfl⟩
instance ZGZ (x : Int) : LdC Tryz.prog 3 #[.int .i64 x] 0 (.int .i64 x) := ⟨Zy (by kernel_rfl) (by kernel_rfl)⟩
instance ZGo : ZeroC Tryz.prog 4 (.bool false) #[.bool false] := ⟨by kernel_rfl, by kernel_rfl⟩
instance ZFE : ZeroC Tryz.prog 5 (.int .u8 0) #[.int .u8 0] := ⟨by kernel_rfl, by kernel_rfl⟩
instance ZGQ : SizeC Tryz.prog 5 1 := ⟨by kernel_rfl⟩
instance ZEq : SizeC Tryz.prog 26 8 := ⟨by kernel_rfl⟩
instance ZEH : ZeroC Tryz.prog 32 (.agg (Zq ZdZ)) (Zq ZdZ) := ⟨by kernel_rfl, by kernel_rfl⟩
instance ZDa : SizeC Tryz.prog 32 2 := ⟨by kernel_rfl⟩
instance ZEs : ZeroC Tryz.prog 35 (.agg (Zc Zap)) (Zc Zap) := ⟨by kernel_rfl, by kernel_rfl⟩
instance ZCU : SizeC Tryz.prog 35 8 := ⟨by kernel_rfl⟩
instance ZGi (x : Option Addr) (l c : Nat) : LdC Tryz.prog 37 #[.slice x l c] 0 (.slice x l c) := ⟨Zy (by kernel_rfl) (by kernel_rfl)⟩
instance ZGq (x : Option Addr) (l c : Nat) : LdC Tryz.prog 38 #[.slice x l c] 0 (.slice x l c) := ⟨Zy (by kernel_rfl) (by kernel_rfl)⟩
instance ZFa : ZeroC Tryz.prog 40 (.agg (Zs Zca)) (Zs Zca) := ⟨by kernel_rfl, by kernel_rfl⟩
instance ZE5 : SizeC Tryz.prog 40 2 := ⟨by kernel_rfl⟩
instance ZD9 : ZeroC Tryz.prog 52 (.agg (ZP ZaR)) (ZP ZaR) := ⟨by kernel_rfl, by kernel_rfl⟩
instance ZC6 : SizeC Tryz.prog 52 2 := ⟨by kernel_rfl⟩
instance ZEf : ZeroC Tryz.prog 54 (.agg (Zv Zb1)) (Zv Zb1) := ⟨by kernel_rfl, by kernel_rfl⟩
instance ZEN : SizeC Tryz.prog 54 4 := ⟨by kernel_rfl⟩
instance ZDf : SizeC Tryz.prog 56 12 := ⟨by kernel_rfl⟩
instance ZCP : SizeC Tryz.prog 93 8 := ⟨by kernel_rfl⟩
instance ZFi : SizeC Tryz.prog 97 9 := ⟨by kernel_rfl⟩
instance ZEb (x : Option Addr) (l c : Nat) : LdC Tryz.prog 106 #[.slice x l c] 0 (.slice x l c) := ⟨Zy (by kernel_rfl) (by kernel_rfl)⟩
instance ZzB : SizeC Tryz.prog 111 20 := ⟨by kernel_rfl⟩
instance ZzV : SizeC Tryz.prog 113 16 := ⟨by kernel_rfl⟩
instance Zz3 : SizeC Tryz.prog 115 36 := ⟨by kernel_rfl⟩
instance ZAf : SizeC Tryz.prog 120 2 := ⟨by kernel_rfl⟩
instance ZCp : ZeroC Tryz.prog 122 (.agg (Ze ZcF)) (Ze ZcF) := ⟨by kernel_rfl, by kernel_rfl⟩
instance ZAH : SizeC Tryz.prog 122 5 := ⟨by kernel_rfl⟩
instance Zzi : SizeC Tryz.prog 125 6 := ⟨by kernel_rfl⟩
instance Zyu : ZeroC Tryz.prog 133 (.agg (ZT Zb8)) (ZT Zb8) := ⟨by kernel_rfl, by kernel_rfl⟩
instance ZBr : SizeC Tryz.prog 133 2 := ⟨by kernel_rfl⟩
instance Zzl : SizeC Tryz.prog 143 12 := ⟨by kernel_rfl⟩
instance Zy5 : ZeroC Tryz.prog 157 (.slice none 0 0) #[.slice none 0 0] := ⟨by kernel_rfl, by kernel_rfl⟩
instance ZBJ : SizeC Tryz.prog 157 1 := ⟨by kernel_rfl⟩
instance ZzU : SizeC Tryz.prog 164 12 := ⟨by kernel_rfl⟩
instance ZBE : ZeroC Tryz.prog 196 (.agg (Zai ZcL)) (Zai ZcL) := ⟨by kernel_rfl, by kernel_rfl⟩
instance ZBD : SizeC Tryz.prog 196 2 := ⟨by kernel_rfl⟩
instance ZA2 : SizeC Tryz.prog 224 36 := ⟨by kernel_rfl⟩
instance ZCa : ZeroC Tryz.prog 256 (.agg (nums .i64 [0, 0, 0, 0, 0, 0, 0, 0])) (nums .i64 [0, 0, 0, 0, 0, 0, 0, 0]) := ⟨by kernel_rfl, by kernel_rfl⟩
instance Zz6 : SizeC Tryz.prog 256 8 := ⟨by kernel_rfl⟩
instance ZCA : ZeroC Tryz.prog 292 (.agg (nums .u8 [0, 0, 0, 0, 0, 0, 0, 0])) (nums .u8 [0, 0, 0, 0, 0, 0, 0, 0]) := ⟨by kernel_rfl, by kernel_rfl⟩
instance ZAZ : ZeroC Tryz.prog 324 (.agg (ZM Zc4)) (ZM Zc4) := ⟨by kernel_rfl, by kernel_rfl⟩
instance ZBd : SizeC Tryz.prog 324 3 := ⟨by kernel_rfl⟩
instance ZCs : ZeroC Tryz.prog 365 (.int .u32 0) #[.int .u32 0] := ⟨by kernel_rfl, by kernel_rfl⟩
instance ZBN : SizeC Tryz.prog 365 1 := ⟨by kernel_rfl⟩
instance ZDh : FaC Tryz.prog 35 1 1 := ⟨fun b o w => by kernel_rfl⟩
instance ZEj : FaC Tryz.prog 40 0 0 := ⟨fun b o w => by kernel_rfl⟩
instance ZEx : FaC Tryz.prog 40 1 1 := ⟨fun b o w => by kernel_rfl⟩
instance ZCV : FaC Tryz.prog 56 0 0 := ⟨fun b o w => by kernel_rfl⟩
instance ZDq : FaC Tryz.prog 56 1 4 := ⟨fun b o w => by kernel_rfl⟩
instance ZC5 : FaC Tryz.prog 93 0 0 := ⟨fun b o w => by kernel_rfl⟩
instance ZEQ : FaC Tryz.prog 93 1 4 := ⟨fun b o w => by kernel_rfl⟩
instance ZBT : FaC Tryz.prog 111 0 0 := ⟨fun b o w => by kernel_rfl⟩
instance ZzD : FaC Tryz.prog 111 1 9 := ⟨fun b o w => by kernel_rfl⟩
instance ZCz : FaC Tryz.prog 111 3 19 := ⟨fun b o w => by kernel_rfl⟩
instance ZzQ : FaC Tryz.prog 115 0 0 := ⟨fun b o w => by kernel_rfl⟩
instance ZAR : FaC Tryz.prog 115 1 20 := ⟨fun b o w => by kernel_rfl⟩
instance ZzS : FaC Tryz.prog 120 0 0 := ⟨fun b o w => by kernel_rfl⟩
instance ZCr : FaC Tryz.prog 120 1 1 := ⟨fun b o w => by kernel_rfl⟩
instance ZB1 : FaC Tryz.prog 122 0 0 := ⟨fun b o w => by kernel_rfl⟩
instance ZCd : FaC Tryz.prog 122 1 1 := ⟨fun b o w => by kernel_rfl⟩
instance ZCv : FaC Tryz.prog 143 0 0 := ⟨fun b o w => by kernel_rfl⟩
instance ZzA : FaC Tryz.prog 143 1 4 := ⟨fun b o w => by kernel_rfl⟩
instance ZAK : FaC Tryz.prog 224 0 0 := ⟨fun b o w => by kernel_rfl⟩
instance ZBZ : FaC Tryz.prog 224 1 20 := ⟨fun b o w => by kernel_rfl⟩
instance ZxF : FaO Tryz.prog 24 0 0 0 := ⟨fun b w => by kernel_rfl⟩
instance Zxn : FaO Tryz.prog 24 1 0 1 := ⟨fun b w => by kernel_rfl⟩
instance Zx6 : FaO Tryz.prog 24 2 0 2 := ⟨fun b w => by kernel_rfl⟩
instance Zw2 : FaO Tryz.prog 26 0 0 0 := ⟨fun b w => by kernel_rfl⟩
instance Zyb : FaO Tryz.prog 26 1 0 1 := ⟨fun b w => by kernel_rfl⟩
instance Zyi : FaO Tryz.prog 26 2 0 2 := ⟨fun b w => by kernel_rfl⟩
instance ZxU : FaO Tryz.prog 26 3 0 3 := ⟨fun b w => by kernel_rfl⟩
instance Zx9 : FaO Tryz.prog 26 4 0 4 := ⟨fun b w => by kernel_rfl⟩
instance Zx0 : FaO Tryz.prog 26 5 0 5 := ⟨fun b w => by kernel_rfl⟩
instance Zxu : FaO Tryz.prog 26 6 0 6 := ⟨fun b w => by kernel_rfl⟩
instance ZxN : FaO Tryz.prog 26 7 0 7 := ⟨fun b w => by kernel_rfl⟩
instance Zyj : FaO Tryz.prog 32 0 0 0 := ⟨fun b w => by kernel_rfl⟩
instance Zwq : FaO Tryz.prog 32 1 0 1 := ⟨fun b w => by kernel_rfl⟩
instance ZwJ : FaO Tryz.prog 35 0 0 0 := ⟨fun b w => by kernel_rfl⟩
instance ZxY : FaO Tryz.prog 35 1 0 1 := ⟨fun b w => by kernel_rfl⟩
instance Zxk : FaO Tryz.prog 35 1 4 5 := ⟨fun b w => by kernel_rfl⟩
instance Zx1 : FaO Tryz.prog 35 2 0 2 := ⟨fun b w => by kernel_rfl⟩
instance Zxz : FaO Tryz.prog 35 3 0 3 := ⟨fun b w => by kernel_rfl⟩
instance Zwp : FaO Tryz.prog 35 4 0 4 := ⟨fun b w => by kernel_rfl⟩
instance Zwy : FaO Tryz.prog 35 5 0 5 := ⟨fun b w => by kernel_rfl⟩
instance ZwF : FaO Tryz.prog 35 5 4 9 := ⟨fun b w => by kernel_rfl⟩
instance Zwi : FaO Tryz.prog 35 6 0 6 := ⟨fun b w => by kernel_rfl⟩
instance Zwn : FaO Tryz.prog 35 6 4 10 := ⟨fun b w => by kernel_rfl⟩
instance ZxW : FaO Tryz.prog 35 7 0 7 := ⟨fun b w => by kernel_rfl⟩
instance Zwh : FaO Tryz.prog 40 0 0 0 := ⟨fun b w => by kernel_rfl⟩
instance Zwg : FaO Tryz.prog 40 1 0 1 := ⟨fun b w => by kernel_rfl⟩
instance ZwS : FaO Tryz.prog 52 0 0 0 := ⟨fun b w => by kernel_rfl⟩
instance Zw9 : FaO Tryz.prog 52 1 0 1 := ⟨fun b w => by kernel_rfl⟩
instance Zxh : FaO Tryz.prog 54 0 0 0 := ⟨fun b w => by kernel_rfl⟩
instance Zwk : FaO Tryz.prog 54 1 0 2 := ⟨fun b w => by kernel_rfl⟩
instance ZxX : FaO Tryz.prog 56 0 0 0 := ⟨fun b w => by kernel_rfl⟩
instance Zwf : FaO Tryz.prog 56 1 0 4 := ⟨fun b w => by kernel_rfl⟩
instance Zwt : FaO Tryz.prog 93 0 0 0 := ⟨fun b w => by kernel_rfl⟩
instance Zwr : FaO Tryz.prog 93 0 4 4 := ⟨fun b w => by kernel_rfl⟩
instance ZxQ : FaO Tryz.prog 93 1 0 4 := ⟨fun b w => by kernel_rfl⟩
instance Zxy : FaO Tryz.prog 93 1 4 8 := ⟨fun b w => by kernel_rfl⟩
instance Zyh : FaO Tryz.prog 97 0 0 0 := ⟨fun b w => by kernel_rfl⟩
instance Zwv : FaO Tryz.prog 97 1 0 4 := ⟨fun b w => by kernel_rfl⟩
instance ZwT : FaO Tryz.prog 97 2 0 8 := ⟨fun b w => by kernel_rfl⟩
instance ZuY : FaO Tryz.prog 111 0 0 0 := ⟨fun b w => by kernel_rfl⟩
instance ZvX : FaO Tryz.prog 111 1 0 9 := ⟨fun b w => by kernel_rfl⟩
instance Zul : FaO Tryz.prog 111 2 0 18 := ⟨fun b w => by kernel_rfl⟩
instance Zug : FaO Tryz.prog 111 3 0 19 := ⟨fun b w => by kernel_rfl⟩
instance ZuR : FaO Tryz.prog 113 0 0 0 := ⟨fun b w => by kernel_rfl⟩
instance ZvI : FaO Tryz.prog 113 1 0 4 := ⟨fun b w => by kernel_rfl⟩
instance ZuV : FaO Tryz.prog 113 2 0 8 := ⟨fun b w => by kernel_rfl⟩
instance ZuE : FaO Tryz.prog 113 3 0 12 := ⟨fun b w => by kernel_rfl⟩
instance Zvk : FaO Tryz.prog 115 0 0 0 := ⟨fun b w => by kernel_rfl⟩
instance ZvG : FaO Tryz.prog 115 1 0 20 := ⟨fun b w => by kernel_rfl⟩
instance Zu6 : FaO Tryz.prog 122 0 0 0 := ⟨fun b w => by kernel_rfl⟩
instance Zvx : FaO Tryz.prog 122 1 0 1 := ⟨fun b w => by kernel_rfl⟩
instance ZuC : FaO Tryz.prog 122 2 0 2 := ⟨fun b w => by kernel_rfl⟩
instance ZvQ : FaO Tryz.prog 122 3 0 3 := ⟨fun b w => by kernel_rfl⟩
instance Zvz : FaO Tryz.prog 122 4 0 4 := ⟨fun b w => by kernel_rfl⟩
instance ZuD : FaO Tryz.prog 125 0 0 0 := ⟨fun b w => by kernel_rfl⟩
instance Zui : FaO Tryz.prog 125 1 0 1 := ⟨fun b w => by kernel_rfl⟩
instance Zuo : FaO Tryz.prog 125 2 0 2 := ⟨fun b w => by kernel_rfl⟩
instance Zvc : FaO Tryz.prog 125 3 0 3 := ⟨fun b w => by kernel_rfl⟩
instance ZvC : FaO Tryz.prog 125 4 0 4 := ⟨fun b w => by kernel_rfl⟩
instance Zub : FaO Tryz.prog 125 5 0 5 := ⟨fun b w => by kernel_rfl⟩
instance ZvA : FaO Tryz.prog 143 0 0 0 := ⟨fun b w => by kernel_rfl⟩
instance Zvi : FaO Tryz.prog 143 1 0 4 := ⟨fun b w => by kernel_rfl⟩
instance Zuu : FaO Tryz.prog 164 0 0 0 := ⟨fun b w => by kernel_rfl⟩
instance Zuh : FaO Tryz.prog 164 1 0 4 := ⟨fun b w => by kernel_rfl⟩
instance Zv7 : FaO Tryz.prog 164 2 0 8 := ⟨fun b w => by kernel_rfl⟩
instance ZvB : FaO Tryz.prog 196 0 0 0 := ⟨fun b w => by kernel_rfl⟩
instance Zuy : FaO Tryz.prog 196 1 0 1 := ⟨fun b w => by kernel_rfl⟩
instance ZuZ : FaO Tryz.prog 224 0 0 0 := ⟨fun b w => by kernel_rfl⟩
instance Zvd : FaO Tryz.prog 224 1 0 20 := ⟨fun b w => by kernel_rfl⟩
instance Zu3 : FaO Tryz.prog 324 0 0 0 := ⟨fun b w => by kernel_rfl⟩
instance Zvp : FaO Tryz.prog 324 1 0 1 := ⟨fun b w => by kernel_rfl⟩
instance Zua : FaO Tryz.prog 324 2 0 2 := ⟨fun b w => by kernel_rfl⟩
instance Zuk (x : Za2) : LdC Tryz.prog 24 (ZI x) 0 (.agg (ZI x)) := ⟨ZQ 3 (by kernel_rfl) (by kernel_rfl) (by kernel_rfl)⟩
instance Zuw (x : Za2) : LdC Tryz.prog 22 (ZI x) 0 (.slice x.Loads.a x.Loads.len x.Loads.cap) := ⟨Zy (by kernel_rfl) (by kernel_rfl)⟩
instance ZwE (x : Za2) : LdC Tryz.prog 5 (ZI x) 1 (.int .u8 x.Speed) := ⟨Zy (by kernel_rfl) (by kernel_rfl)⟩
instance ZwA (x : Za2) : LdC Tryz.prog 5 (ZI x) 2 (.int .u8 x.Gap) := ⟨Zy (by kernel_rfl) (by kernel_rfl)⟩
instance ZvK (x : Z5) : LdC Tryz.prog 26 (Z2 x) 0 (.agg (Z2 x)) := ⟨ZQ 8 (by kernel_rfl) (by kernel_rfl) (by kernel_rfl)⟩
instance Zxd (x : Z5) : LdC Tryz.prog 5 (Z2 x) 0 (.int .u8 x.Object) := ⟨Zy (by kernel_rfl) (by kernel_rfl)⟩
instance Zxq (x : Z5) : LdC Tryz.prog 5 (Z2 x) 1 (.int .u8 x.Seq) := ⟨Zy (by kernel_rfl) (by kernel_rfl)⟩
instance ZxO (x : Z5) : LdC Tryz.prog 5 (Z2 x) 2 (.int .u8 x.Version) := ⟨Zy (by kernel_rfl) (by kernel_rfl)⟩
instance ZxJ (x : Z5) : LdC Tryz.prog 5 (Z2 x) 3 (.int .u8 x.Device) := ⟨Zy (by kernel_rfl) (by kernel_rfl)⟩
instance ZwO (x : Z5) : LdC Tryz.prog 5 (Z2 x) 4 (.int .u8 x.Time) := ⟨Zy (by kernel_rfl) (by kernel_rfl)⟩
instance Zws (x : Z5) : LdC Tryz.prog 5 (Z2 x) 5 (.int .u8 x.X) := ⟨Zy (by kernel_rfl) (by kernel_rfl)⟩
instance Zxx (x : Z5) : LdC Tryz.prog 5 (Z2 x) 6 (.int .u8 x.Y) := ⟨Zy (by kernel_rfl) (by kernel_rfl)⟩
instance Zyg (x : Z5) : LdC Tryz.prog 4 (Z2 x) 7 (.bool x.Cancel) := ⟨Zy (by kernel_rfl) (by kernel_rfl)⟩
instance Zv0 (x : ZU) : LdC Tryz.prog 32 (Zq x) 0 (.agg (Zq x)) := ⟨ZQ 2 (by kernel_rfl) (by kernel_rfl) (by kernel_rfl)⟩
instance ZxG (x : ZU) : LdC Tryz.prog 3 (Zq x) 0 (.int .i64 x.MaxSpeed) := ⟨Zy (by kernel_rfl) (by kernel_rfl)⟩
instance Zwu (x : ZU) : LdC Tryz.prog 3 (Zq x) 1 (.int .i64 x.MaxGap) := ⟨Zy (by kernel_rfl) (by kernel_rfl)⟩
instance ZvJ (x : Zb) : LdC Tryz.prog 35 (Zc x) 0 (.agg (Zc x)) := ⟨ZQ 8 (by kernel_rfl) (by kernel_rfl) (by kernel_rfl)⟩
instance Zxl (x : Zb) : LdC Tryz.prog 3 (Zc x) 0 (.int .i64 x.Object) := ⟨Zy (by kernel_rfl) (by kernel_rfl)⟩
instance Zwx (x : Zb) : LdC Tryz.prog 3 (Zc x) 1 (.int .i64 x.Seq) := ⟨Zy (by kernel_rfl) (by kernel_rfl)⟩
instance Zxo (x : Zb) : LdC Tryz.prog 3 (Zc x) 2 (.int .i64 x.Version) := ⟨Zy (by kernel_rfl) (by kernel_rfl)⟩
instance ZwV (x : Zb) : LdC Tryz.prog 3 (Zc x) 3 (.int .i64 x.Device) := ⟨Zy (by kernel_rfl) (by kernel_rfl)⟩
instance ZwU (x : Zb) : LdC Tryz.prog 3 (Zc x) 4 (.int .i64 x.Time) := ⟨Zy (by kernel_rfl) (by kernel_rfl)⟩
instance Zxj (x : Zb) : LdC Tryz.prog 3 (Zc x) 5 (.int .i64 x.X) := ⟨Zy (by kernel_rfl) (by kernel_rfl)⟩
instance Zx5 (x : Zb) : LdC Tryz.prog 3 (Zc x) 6 (.int .i64 x.Y) := ⟨Zy (by kernel_rfl) (by kernel_rfl)⟩
instance ZwH (x : Zb) : LdC Tryz.prog 4 (Zc x) 7 (.bool x.Cancel) := ⟨Zy (by kernel_rfl) (by kernel_rfl)⟩
instance Zwb (x : Zax) : LdC Tryz.prog 40 (Zs x) 0 (.agg (Zs x)) := ⟨ZQ 2 (by kernel_rfl) (by kernel_rfl) (by kernel_rfl)⟩
instance ZvF (x : Zax) : LdC Tryz.prog 37 (Zs x) 0 (.slice x.Reports.a x.Reports.len x.Reports.cap) := ⟨Zy (by kernel_rfl) (by kernel_rfl)⟩
instance Zu8 (x : Zax) : LdC Tryz.prog 38 (Zs x) 1 (.slice x.Exchanges.a x.Exchanges.len x.Exchanges.cap) := ⟨Zy (by kernel_rfl) (by kernel_rfl)⟩
instance Zux (x : Zan) : LdC Tryz.prog 52 (ZP x) 0 (.agg (ZP x)) := ⟨ZQ 2 (by kernel_rfl) (by kernel_rfl) (by kernel_rfl)⟩
instance Zww (x : Zan) : LdC Tryz.prog 4 (ZP x) 0 (.bool x.Neg) := ⟨Zy (by kernel_rfl) (by kernel_rfl)⟩
instance Zwd (x : Zan) : LdC Tryz.prog 9 (ZP x) 1 (.string x.Mag) := ⟨Zy (by kernel_rfl) (by kernel_rfl)⟩
instance Zuc (x : Z8) : LdC Tryz.prog 54 (Zv x) 0 (.agg (Zv x)) := ⟨ZQ 4 (by kernel_rfl) (by kernel_rfl) (by kernel_rfl)⟩
instance Zt9 (x : Z8) : LdC Tryz.prog 52 (Zv x) 0 (.agg (ZP x.Num)) := ⟨ZQ 2 (by kernel_rfl) (by kernel_rfl) (by kernel_rfl)⟩
instance ZuN (x : Z8) : LdC Tryz.prog 52 (Zv x) 2 (.agg (ZP x.Den)) := ⟨ZQ 2 (by kernel_rfl) (by kernel_rfl) (by kernel_rfl)⟩
instance Zvv (x : ZbZ) : LdC Tryz.prog 35 (ZJ x) 4 (.agg (Zc x.Report)) := ⟨ZQ 8 (by kernel_rfl) (by kernel_rfl) (by kernel_rfl)⟩
instance Zs7 (x : ZR) : LdC Tryz.prog 117 (Zah x) 0 (.slice x.Pings.a x.Pings.len x.Pings.cap) := ⟨Zy (by kernel_rfl) (by kernel_rfl)⟩
instance ZsZ (x : ZR) : LdC Tryz.prog 118 (Zah x) 1 (.slice x.Calls.a x.Calls.len x.Calls.cap) := ⟨Zy (by kernel_rfl) (by kernel_rfl)⟩
instance ZsX (x : Za) : LdC Tryz.prog 122 (Ze x) 0 (.agg (Ze x)) := ⟨ZQ 5 (by kernel_rfl) (by kernel_rfl) (by kernel_rfl)⟩
instance Zuj (x : Za) : LdC Tryz.prog 3 (Ze x) 0 (.int .i64 x.From) := ⟨Zy (by kernel_rfl) (by kernel_rfl)⟩
instance Zu1 (x : Za) : LdC Tryz.prog 3 (Ze x) 1 (.int .i64 x.To) := ⟨Zy (by kernel_rfl) (by kernel_rfl)⟩
instance ZuO (x : Za) : LdC Tryz.prog 3 (Ze x) 2 (.int .i64 x.Sent) := ⟨Zy (by kernel_rfl) (by kernel_rfl)⟩
instance ZuS (x : Za) : LdC Tryz.prog 3 (Ze x) 3 (.int .i64 x.Received) := ⟨Zy (by kernel_rfl) (by kernel_rfl)⟩
instance Zut (x : Za) : LdC Tryz.prog 3 (Ze x) 4 (.int .i64 x.Least) := ⟨Zy (by kernel_rfl) (by kernel_rfl)⟩
instance Ztg (x : Zaf) : LdC Tryz.prog 125 (Zac x) 0 (.agg (Zac x)) := ⟨ZQ 6 (by kernel_rfl) (by kernel_rfl) (by kernel_rfl)⟩
instance ZuA (x : Zaf) : LdC Tryz.prog 5 (Zac x) 0 (.int .u8 x.From) := ⟨Zy (by kernel_rfl) (by kernel_rfl)⟩
instance Zv9 (x : Zaf) : LdC Tryz.prog 5 (Zac x) 1 (.int .u8 x.To) := ⟨Zy (by kernel_rfl) (by kernel_rfl)⟩
instance Zum (x : Zaf) : LdC Tryz.prog 5 (Zac x) 2 (.int .u8 x.Sent) := ⟨Zy (by kernel_rfl) (by kernel_rfl)⟩
instance ZvP (x : Zaf) : LdC Tryz.prog 5 (Zac x) 3 (.int .u8 x.Delay) := ⟨Zy (by kernel_rfl) (by kernel_rfl)⟩
instance Zvy (x : Zaf) : LdC Tryz.prog 5 (Zac x) 4 (.int .u8 x.Least) := ⟨Zy (by kernel_rfl) (by kernel_rfl)⟩
instance Zvl (x : Zaf) : LdC Tryz.prog 4 (Zac x) 5 (.bool x.Wrong) := ⟨Zy (by kernel_rfl) (by kernel_rfl)⟩
instance Zso (x : Zz) : LdC Tryz.prog 133 (ZT x) 0 (.agg (ZT x)) := ⟨ZQ 2 (by kernel_rfl) (by kernel_rfl) (by kernel_rfl)⟩
instance Zta (x : Zbt) : LdC Tryz.prog 196 (Zai x) 0 (.agg (Zai x)) := ⟨ZQ 2 (by kernel_rfl) (by kernel_rfl) (by kernel_rfl)⟩
instance Zus (x : Zbt) : LdC Tryz.prog 3 (Zai x) 0 (.int .i64 x.Low) := ⟨Zy (by kernel_rfl) (by kernel_rfl)⟩
instance Zu7 (x : Zbt) : LdC Tryz.prog 3 (Zai x) 1 (.int .i64 x.High) := ⟨Zy (by kernel_rfl) (by kernel_rfl)⟩
instance ZsQ (x : Za8) : LdC Tryz.prog 324 (ZM x) 0 (.agg (ZM x)) := ⟨ZQ 3 (by kernel_rfl) (by kernel_rfl) (by kernel_rfl)⟩
instance ZtD (x : Za8) : LdC Tryz.prog 38 (ZM x) 0 (.slice x.l.a x.l.len x.l.cap) := ⟨Zy (by kernel_rfl) (by kernel_rfl)⟩
instance ZsA (x : Za8) : LdC Tryz.prog 106 (ZM x) 1 (.slice x.some.a x.some.len x.some.cap) := ⟨Zy (by kernel_rfl) (by kernel_rfl)⟩
instance Zve (x : Za8) : LdC Tryz.prog 3 (ZM x) 2 (.int .i64 x.size) := ⟨Zy (by kernel_rfl) (by kernel_rfl)⟩
instance ZxA (x0 : Int) (x1 : Int) : BdC Tryz.prog 32 [(0, .int .i64 x0), (1, .int .i64 x1)] (.agg (Zq ⟨x0, x1⟩)) := ⟨fun w => by kernel_rfl⟩
instance Zlj (x0 : Int) (x1 : Int) (x2 : Int) (x3 : Int) (x4 : Int) (x5 : Int) (x6 : Int) (x7 : Bool) : BdC Tryz.prog 35 [(0, .int .i64 x0), (1, .int .i64 x1), (2, .int .i64 x2), (3, .int .i64 x3), (4, .int .i64 x4), (5, .int .i64 x5), (6, .int .i64 x6), (7, .bool x7)] (.agg (Zc ⟨x0, x1, x2, x3, x4, x5, x6, x7⟩)) := ⟨fun w => by kernel_rfl⟩
instance Zqo (x0 : Int) (x1 : Int) (x4 : Int) (x5 : Int) (x6 : Int) : BdC Tryz.prog 35 [(0, .int .i64 x0), (1, .int .i64 x1), (4, .int .i64 x4), (5, .int .i64 x5), (6, .int .i64 x6)] (.agg (Zc ⟨x0, x1, 0, 0, x4, x5, x6, false⟩)) := ⟨fun w => by kernel_rfl⟩
instance ZEk (x0 : Option Addr) (x0l x0c : Nat) : BdC Tryz.prog 40 [(0, .slice x0 x0l x0c)] (.agg (Zs ⟨⟨x0, x0l, x0c⟩, ⟨none, 0, 0⟩⟩)) := ⟨fun w => by kernel_rfl⟩
instance ZFI : BdC Tryz.prog 52 [] (.agg (ZP ZaR)) := ⟨fun w => by kernel_rfl⟩
instance Zwe (x0 : Bool) (x1 : ByteArray) : BdC Tryz.prog 52 [(0, .bool x0), (1, .string x1)] (.agg (ZP ⟨x0, x1⟩)) := ⟨fun w => by kernel_rfl⟩
instance ZF2 : BdC Tryz.prog 54 [] (.agg (Zv Zb1)) := ⟨fun w => by kernel_rfl⟩
instance ZFh (x0 : Zan) : BdC Tryz.prog 54 [(0, .agg (ZP x0))] (.agg (Zv ⟨x0, ZaR⟩)) := ⟨fun w => by kernel_rfl⟩
instance Zx2 (x0 : Zan) (x1 : Zan) : BdC Tryz.prog 54 [(0, .agg (ZP x0)), (1, .agg (ZP x1))] (.agg (Zv ⟨x0, x1⟩)) := ⟨fun w => by kernel_rfl⟩
instance Zqc (x0 : Int) (x1 : Int) (x2 : Int) (x3 : Int) (x4 : Int) : BdC Tryz.prog 122 [(0, .int .i64 x0), (1, .int .i64 x1), (2, .int .i64 x2), (3, .int .i64 x3), (4, .int .i64 x4)] (.agg (Ze ⟨x0, x1, x2, x3, x4⟩)) := ⟨fun w => by kernel_rfl⟩
instance ZvU (x0 : Int) (x1 : Int) : BdC Tryz.prog 133 [(0, .int .i64 x0), (1, .int .i64 x1)] (.agg (ZT ⟨x0, x1⟩)) := ⟨fun w => by kernel_rfl⟩
instance ZCM : BdC Tryz.prog 196 [] (.agg (Zai ZcL)) := ⟨fun w => by kernel_rfl⟩
instance Zu0 (x0 : Int) (x1 : Int) : BdC Tryz.prog 196 [(0, .int .i64 x0), (1, .int .i64 x1)] (.agg (Zai ⟨x0, x1⟩)) := ⟨fun w => by kernel_rfl⟩
instance Zvf (x0 : Option Addr) (x0l x0c : Nat) (x2 : Int) : BdC Tryz.prog 324 [(0, .slice x0 x0l x0c), (2, .int .i64 x2)] (.agg (ZM ⟨⟨x0, x0l, x0c⟩, ⟨none, 0, 0⟩, x2⟩)) := ⟨fun w => by kernel_rfl⟩
theorem Zk4 (d : Nat) (w : World) (x y : Zb) : (Op.equalIn (d + 2) 35 (.agg (Zc x)) (.agg (Zc y))).run Tryz.prog w = .ok (decide (x = y)) w := by
 have p0 : ∀ (z : Zb) (u : World), (part 3 (Zc z) 0).run Tryz.prog u = .ok (.int .i64 z.Object) u := fun _ _ => by kernel_rfl
 have q0 : ∀ (u : World), (Op.equalIn (d + 1) 3 (.int .i64 x.Object) (.int .i64 y.Object)).run Tryz.prog u = .ok (decide (x.Object = y.Object)) u := fun u => by rw [run_equalIn_int u (d + 0) 3 .i64 .i64 _ _ (by kernel_rfl), ZaP]
 have p1 : ∀ (z : Zb) (u : World), (part 3 (Zc z) 1).run Tryz.prog u = .ok (.int .i64 z.Seq) u := fun _ _ => by kernel_rfl
 have q1 : ∀ (u : World), (Op.equalIn (d + 1) 3 (.int .i64 x.Seq) (.int .i64 y.Seq)).run Tryz.prog u = .ok (decide (x.Seq = y.Seq)) u := fun u => by rw [run_equalIn_int u (d + 0) 3 .i64 .i64 _ _ (by kernel_rfl), ZaP]
 have p2 : ∀ (z : Zb) (u : World), (part 3 (Zc z) 2).run Tryz.prog u = .ok (.int .i64 z.Version) u := fun _ _ => by kernel_rfl
 have q2 : ∀ (u : World), (Op.equalIn (d + 1) 3 (.int .i64 x.Version) (.int .i64 y.Version)).run Tryz.prog u = .ok (decide (x.Version = y.Version)) u := fun u => by rw [run_equalIn_int u (d + 0) 3 .i64 .i64 _ _ (by kernel_rfl), ZaP]
 have p3 : ∀ (z : Zb) (u : World), (part 3 (Zc z) 3).run Tryz.prog u = .ok (.int .i64 z.Device) u := fun _ _ => by kernel_rfl
 have q3 : ∀ (u : World), (Op.equalIn (d + 1) 3 (.int .i64 x.Device) (.int .i64 y.Device)).run Tryz.prog u = .ok (decide (x.Device = y.Device)) u := fun u => by rw [run_equalIn_int u (d + 0) 3 .i64 .i64 _ _ (by kernel_rfl), ZaP]
 have p4 : ∀ (z : Zb) (u : World), (part 3 (Zc z) 4).run Tryz.prog u = .ok (.int .i64 z.Time) u := fun _ _ => by kernel_rfl
 have q4 : ∀ (u : World), (Op.equalIn (d + 1) 3 (.int .i64 x.Time) (.int .i64 y.Time)).run Tryz.prog u = .ok (decide (x.Time = y.Time)) u := fun u => by rw [run_equalIn_int u (d + 0) 3 .i64 .i64 _ _ (by kernel_rfl), ZaP]
 have p5 : ∀ (z : Zb) (u : World), (part 3 (Zc z) 5).run Tryz.prog u = .ok (.int .i64 z.X) u := fun _ _ => by kernel_rfl
 have q5 : ∀ (u : World), (Op.equalIn (d + 1) 3 (.int .i64 x.X) (.int .i64 y.X)).run Tryz.prog u = .ok (decide (x.X = y.X)) u := fun u => by rw [run_equalIn_int u (d + 0) 3 .i64 .i64 _ _ (by kernel_rfl), ZaP]
 have p6 : ∀ (z : Zb) (u : World), (part 3 (Zc z) 6).run Tryz.prog u = .ok (.int .i64 z.Y) u := fun _ _ => by kernel_rfl
 have q6 : ∀ (u : World), (Op.equalIn (d + 1) 3 (.int .i64 x.Y) (.int .i64 y.Y)).run Tryz.prog u = .ok (decide (x.Y = y.Y)) u := fun u => by rw [run_equalIn_int u (d + 0) 3 .i64 .i64 _ _ (by kernel_rfl), ZaP]
 have p7 : ∀ (z : Zb) (u : World), (part 4 (Zc z) 7).run Tryz.prog u = .ok (.bool z.Cancel) u := fun _ _ => by kernel_rfl
 have q7 : ∀ (u : World), (Op.equalIn (d + 1) 4 (.bool x.Cancel) (.bool y.Cancel)).run Tryz.prog u = .ok (decide (x.Cancel = y.Cancel)) u := fun u => by rw [run_equalIn_bool' u (d + 0) 4 _ _ (by kernel_rfl), Zdy]
 have hf : (Tryz.prog.fieldsOf 35).toList = [{ name := "Object", type := 3, offset := 0, embedded := false, tag := "", pkgPath := "", byteOffset := 0 }, { name := "Seq", type := 3, offset := 1, embedded := false, tag := "", pkgPath := "", byteOffset := 8 }, { name := "Version", type := 3, offset := 2, embedded := false, tag := "", pkgPath := "", byteOffset := 16 }, { name := "Device", type := 3, offset := 3, embedded := false, tag := "", pkgPath := "", byteOffset := 24 }, { name := "Time", type := 3, offset := 4, embedded := false, tag := "", pkgPath := "", byteOffset := 32 }, { name := "X", type := 3, offset := 5, embedded := false, tag := "", pkgPath := "", byteOffset := 40 }, { name := "Y", type := 3, offset := 6, embedded := false, tag := "", pkgPath := "", byteOffset := 48 }, { name := "Cancel", type := 4, offset := 7, embedded := false, tag := "", pkgPath := "", byteOffset := 56 }] := by kernel_rfl
 rw [run_equalIn_struct w (d + 1) 35 _ _ (by kernel_rfl) (by kernel_rfl), hf]
 have hx : x = y ↔ (x.Object = y.Object ∧ x.Seq = y.Seq ∧ x.Version = y.Version ∧ x.Device = y.Device ∧ x.Time = y.Time ∧ x.X = y.X ∧ x.Y = y.Y ∧ x.Cancel = y.Cancel) := by cases x; cases y; simp
 simp only [Op.eqFields, Sem.run_bind, Result.andThen_ok, Sem.run_ite, Sem.run_pure, p0, p1, p2, p3, p4, p5, p6, p7, q0, q1, q2, q3, q4, q5, q6, q7]
 by_cases h0 : x.Object = y.Object <;> by_cases h1 : x.Seq = y.Seq <;> by_cases h2 : x.Version = y.Version <;> by_cases h3 : x.Device = y.Device <;> by_cases h4 : x.Time = y.Time <;> by_cases h5 : x.X = y.X <;> by_cases h6 : x.Y = y.Y <;> by_cases h7 : x.Cancel = y.Cancel <;> simp [hx, h0, h1, h2, h3, h4, h5, h6, h7]
instance ZF8 (x y : Zb) : BinC Tryz.prog .eql 35 (.agg (Zc x)) (.agg (Zc y)) (.bool (decide (x = y))) := ⟨fun a b w => run_eqGuard_agg w _ _ _ _ _ _ (by kernel_rfl), fun w => by rw [run_eql_struct, Zk4 9998]; rfl⟩
instance ZFP (x y : Zb) : BinC Tryz.prog .neq 35 (.agg (Zc x)) (.agg (Zc y)) (.bool (!decide (x = y))) := ⟨fun a b w => run_eqGuard_agg w _ _ _ _ _ _ (by kernel_rfl), fun w => by rw [run_neq_struct, Zk4 9998]; rfl⟩
theorem Zfp (d : Nat) (w : World) (x y : Zan) : (Op.equalIn (d + 2) 52 (.agg (ZP x)) (.agg (ZP y))).run Tryz.prog w = .ok (decide (x = y)) w := by
 have p0 : ∀ (z : Zan) (u : World), (part 4 (ZP z) 0).run Tryz.prog u = .ok (.bool z.Neg) u := fun _ _ => by kernel_rfl
 have q0 : ∀ (u : World), (Op.equalIn (d + 1) 4 (.bool x.Neg) (.bool y.Neg)).run Tryz.prog u = .ok (decide (x.Neg = y.Neg)) u := fun u => by rw [run_equalIn_bool' u (d + 0) 4 _ _ (by kernel_rfl), Zdy]
 have p1 : ∀ (z : Zan) (u : World), (part 9 (ZP z) 1).run Tryz.prog u = .ok (.string z.Mag) u := fun _ _ => by kernel_rfl
 have q1 : ∀ (u : World), (Op.equalIn (d + 1) 9 (.string x.Mag) (.string y.Mag)).run Tryz.prog u = .ok (decide (x.Mag = y.Mag)) u := fun u => by rw [run_equalIn_string u (d + 0) 9 _ _ (by kernel_rfl), ← beq_toListBytes, Zgj]
 have hf : (Tryz.prog.fieldsOf 52).toList = [{ name := "Neg", type := 4, offset := 0, embedded := false, tag := "", pkgPath := "", byteOffset := 0 }, { name := "Mag", type := 9, offset := 1, embedded := false, tag := "", pkgPath := "", byteOffset := 8 }] := by kernel_rfl
 rw [run_equalIn_struct w (d + 1) 52 _ _ (by kernel_rfl) (by kernel_rfl), hf]
 have hx : x = y ↔ (x.Neg = y.Neg ∧ x.Mag = y.Mag) := by cases x; cases y; simp
 simp only [Op.eqFields, Sem.run_bind, Result.andThen_ok, Sem.run_ite, Sem.run_pure, p0, p1, q0, q1]
 by_cases h0 : x.Neg = y.Neg <;> by_cases h1 : x.Mag = y.Mag <;> simp [hx, h0, h1]
instance ZGJ (x y : Zan) : BinC Tryz.prog .eql 52 (.agg (ZP x)) (.agg (ZP y)) (.bool (decide (x = y))) := ⟨fun a b w => run_eqGuard_agg w _ _ _ _ _ _ (by kernel_rfl), fun w => by rw [run_eql_struct, Zfp 9998]; rfl⟩
instance ZGp (x y : Zan) : BinC Tryz.prog .neq 52 (.agg (ZP x)) (.agg (ZP y)) (.bool (!decide (x = y))) := ⟨fun a b w => run_eqGuard_agg w _ _ _ _ _ _ (by kernel_rfl), fun w => by rw [run_neq_struct, Zfp 9998]; rfl⟩
theorem Zbr (d : Nat) (w : World) (x y : Z8) : (Op.equalIn (d + 3) 54 (.agg (Zv x)) (.agg (Zv y))).run Tryz.prog w = .ok (decide (x = y)) w := by
 have p0 : ∀ (z : Z8) (u : World), (part 52 (Zv z) 0).run Tryz.prog u = .ok (.agg (ZP z.Num)) u := fun _ _ => by kernel_rfl
 have q0 : ∀ (u : World), (Op.equalIn (d + 2) 52 (.agg (ZP x.Num)) (.agg (ZP y.Num))).run Tryz.prog u = .ok (decide (x.Num = y.Num)) u := fun u => Zfp (d + 0) u _ _
 have p1 : ∀ (z : Z8) (u : World), (part 52 (Zv z) 2).run Tryz.prog u = .ok (.agg (ZP z.Den)) u := fun _ _ => by kernel_rfl
 have q1 : ∀ (u : World), (Op.equalIn (d + 2) 52 (.agg (ZP x.Den)) (.agg (ZP y.Den))).run Tryz.prog u = .ok (decide (x.Den = y.Den)) u := fun u => Zfp (d + 0) u _ _
 have hf : (Tryz.prog.fieldsOf 54).toList = [{ name := "Num", type := 52, offset := 0, embedded := false, tag := "", pkgPath := "", byteOffset := 0 }, { name := "Den", type := 52, offset := 2, embedded := false, tag := "", pkgPath := "", byteOffset := 24 }] := by kernel_rfl
 rw [run_equalIn_struct w (d + 2) 54 _ _ (by kernel_rfl) (by kernel_rfl), hf]
 have hx : x = y ↔ (x.Num = y.Num ∧ x.Den = y.Den) := by cases x; cases y; simp
 simp only [Op.eqFields, Sem.run_bind, Result.andThen_ok, Sem.run_ite, Sem.run_pure, p0, p1, q0, q1]
 by_cases h0 : x.Num = y.Num <;> by_cases h1 : x.Den = y.Den <;> simp [hx, h0, h1]
instance ZFZ (x y : Z8) : BinC Tryz.prog .eql 54 (.agg (Zv x)) (.agg (Zv y)) (.bool (decide (x = y))) := ⟨fun a b w => run_eqGuard_agg w _ _ _ _ _ _ (by kernel_rfl), fun w => by rw [run_eql_struct, Zbr 9997]; rfl⟩
instance ZFz (x y : Z8) : BinC Tryz.prog .neq 54 (.agg (Zv x)) (.agg (Zv y)) (.bool (!decide (x = y))) := ⟨fun a b w => run_eqGuard_agg w _ _ _ _ _ _ (by kernel_rfl), fun w => by rw [run_neq_struct, Zbr 9997]; rfl⟩
theorem Zhv (d : Nat) (w : World) (x y : ZaS) : (Op.equalIn (d + 4) 97 (.agg (Zx x)) (.agg (Zx y))).run Tryz.prog w = .ok (decide (x = y)) w := by
 have p0 : ∀ (z : ZaS) (u : World), (part 54 (Zx z) 0).run Tryz.prog u = .ok (.agg (Zv z.P)) u := fun _ _ => by kernel_rfl
 have q0 : ∀ (u : World), (Op.equalIn (d + 3) 54 (.agg (Zv x.P)) (.agg (Zv y.P))).run Tryz.prog u = .ok (decide (x.P = y.P)) u := fun u => Zbr (d + 0) u _ _
 have p1 : ∀ (z : ZaS) (u : World), (part 54 (Zx z) 4).run Tryz.prog u = .ok (.agg (Zv z.R)) u := fun _ _ => by kernel_rfl
 have q1 : ∀ (u : World), (Op.equalIn (d + 3) 54 (.agg (Zv x.R)) (.agg (Zv y.R))).run Tryz.prog u = .ok (decide (x.R = y.R)) u := fun u => Zbr (d + 0) u _ _
 have p2 : ∀ (z : ZaS) (u : World), (part 4 (Zx z) 8).run Tryz.prog u = .ok (.bool z.Neg) u := fun _ _ => by kernel_rfl
 have q2 : ∀ (u : World), (Op.equalIn (d + 3) 4 (.bool x.Neg) (.bool y.Neg)).run Tryz.prog u = .ok (decide (x.Neg = y.Neg)) u := fun u => by rw [run_equalIn_bool' u (d + 2) 4 _ _ (by kernel_rfl), Zdy]
 have hf : (Tryz.prog.fieldsOf 97).toList = [{ name := "P", type := 54, offset := 0, embedded := false, tag := "", pkgPath := "", byteOffset := 0 }, { name := "R", type := 54, offset := 4, embedded := false, tag := "", pkgPath := "", byteOffset := 48 }, { name := "Neg", type := 4, offset := 8, embedded := false, tag := "", pkgPath := "", byteOffset := 96 }] := by kernel_rfl
 rw [run_equalIn_struct w (d + 3) 97 _ _ (by kernel_rfl) (by kernel_rfl), hf]
 have hx : x = y ↔ (x.P = y.P ∧ x.R = y.R ∧ x.Neg = y.Neg) := by cases x; cases y; simp
 simp only [Op.eqFields, Sem.run_bind, Result.andThen_ok, Sem.run_ite, Sem.run_pure, p0, p1, p2, q0, q1, q2]
 by_cases h0 : x.P = y.P <;> by_cases h1 : x.R = y.R <;> by_cases h2 : x.Neg = y.Neg <;> simp [hx, h0, h1, h2]
instance ZGa (x y : ZaS) : BinC Tryz.prog .eql 97 (.agg (Zx x)) (.agg (Zx y)) (.bool (decide (x = y))) := ⟨fun a b w => run_eqGuard_agg w _ _ _ _ _ _ (by kernel_rfl), fun w => by rw [run_eql_struct, Zhv 9996]; rfl⟩
theorem ZoB (d : Nat) (w : World) (x y : Zav) : (Op.equalIn (d + 5) 111 (.agg (ZC x)) (.agg (ZC y))).run Tryz.prog w = .ok (decide (x = y)) w := by
 have p0 : ∀ (z : Zav) (u : World), (part 97 (ZC z) 0).run Tryz.prog u = .ok (.agg (Zx z.From)) u := fun _ _ => by kernel_rfl
 have q0 : ∀ (u : World), (Op.equalIn (d + 4) 97 (.agg (Zx x.From)) (.agg (Zx y.From))).run Tryz.prog u = .ok (decide (x.From = y.From)) u := fun u => Zhv (d + 0) u _ _
 have p1 : ∀ (z : Zav) (u : World), (part 97 (ZC z) 9).run Tryz.prog u = .ok (.agg (Zx z.To)) u := fun _ _ => by kernel_rfl
 have q1 : ∀ (u : World), (Op.equalIn (d + 4) 97 (.agg (Zx x.To)) (.agg (Zx y.To))).run Tryz.prog u = .ok (decide (x.To = y.To)) u := fun u => Zhv (d + 0) u _ _
 have p2 : ∀ (z : Zav) (u : World), (part 4 (ZC z) 18).run Tryz.prog u = .ok (.bool z.OpenFrom) u := fun _ _ => by kernel_rfl
 have q2 : ∀ (u : World), (Op.equalIn (d + 4) 4 (.bool x.OpenFrom) (.bool y.OpenFrom)).run Tryz.prog u = .ok (decide (x.OpenFrom = y.OpenFrom)) u := fun u => by rw [run_equalIn_bool' u (d + 3) 4 _ _ (by kernel_rfl), Zdy]
 have p3 : ∀ (z : Zav) (u : World), (part 4 (ZC z) 19).run Tryz.prog u = .ok (.bool z.OpenTo) u := fun _ _ => by kernel_rfl
 have q3 : ∀ (u : World), (Op.equalIn (d + 4) 4 (.bool x.OpenTo) (.bool y.OpenTo)).run Tryz.prog u = .ok (decide (x.OpenTo = y.OpenTo)) u := fun u => by rw [run_equalIn_bool' u (d + 3) 4 _ _ (by kernel_rfl), Zdy]
 have hf : (Tryz.prog.fieldsOf 111).toList = [{ name := "From", type := 97, offset := 0, embedded := false, tag := "", pkgPath := "", byteOffset := 0 }, { name := "To", type := 97, offset := 9, embedded := false, tag := "", pkgPath := "", byteOffset := 104 }, { name := "OpenFrom", type := 4, offset := 18, embedded := false, tag := "", pkgPath := "", byteOffset := 208 }, { name := "OpenTo", type := 4, offset := 19, embedded := false, tag := "", pkgPath := "", byteOffset := 209 }] := by kernel_rfl
 rw [run_equalIn_struct w (d + 4) 111 _ _ (by kernel_rfl) (by kernel_rfl), hf]
 have hx : x = y ↔ (x.From = y.From ∧ x.To = y.To ∧ x.OpenFrom = y.OpenFrom ∧ x.OpenTo = y.OpenTo) := by cases x; cases y; simp
 simp only [Op.eqFields, Sem.run_bind, Result.andThen_ok, Sem.run_ite, Sem.run_pure, p0, p1, p2, p3, q0, q1, q2, q3]
 by_cases h0 : x.From = y.From <;> by_cases h1 : x.To = y.To <;> by_cases h2 : x.OpenFrom = y.OpenFrom <;> by_cases h3 : x.OpenTo = y.OpenTo <;> simp [hx, h0, h1, h2, h3]
instance ZCI (x y : Zav) : BinC Tryz.prog .eql 111 (.agg (ZC x)) (.agg (ZC y)) (.bool (decide (x = y))) := ⟨fun a b w => run_eqGuard_agg w _ _ _ _ _ _ (by kernel_rfl), fun w => by rw [run_eql_struct, ZoB 9995]; rfl⟩
theorem Zpd (d : Nat) (w : World) (x y : ZaY) : (Op.equalIn (d + 4) 113 (.agg (ZW x)) (.agg (ZW y))).run Tryz.prog w = .ok (decide (x = y)) w := by
 have p0 : ∀ (z : ZaY) (u : World), (part 54 (ZW z) 0).run Tryz.prog u = .ok (.agg (Zv z.X0)) u := fun _ _ => by kernel_rfl
 have q0 : ∀ (u : World), (Op.equalIn (d + 3) 54 (.agg (Zv x.X0)) (.agg (Zv y.X0))).run Tryz.prog u = .ok (decide (x.X0 = y.X0)) u := fun u => Zbr (d + 0) u _ _
 have p1 : ∀ (z : ZaY) (u : World), (part 54 (ZW z) 4).run Tryz.prog u = .ok (.agg (Zv z.X1)) u := fun _ _ => by kernel_rfl
 have q1 : ∀ (u : World), (Op.equalIn (d + 3) 54 (.agg (Zv x.X1)) (.agg (Zv y.X1))).run Tryz.prog u = .ok (decide (x.X1 = y.X1)) u := fun u => Zbr (d + 0) u _ _
 have p2 : ∀ (z : ZaY) (u : World), (part 54 (ZW z) 8).run Tryz.prog u = .ok (.agg (Zv z.Y0)) u := fun _ _ => by kernel_rfl
 have q2 : ∀ (u : World), (Op.equalIn (d + 3) 54 (.agg (Zv x.Y0)) (.agg (Zv y.Y0))).run Tryz.prog u = .ok (decide (x.Y0 = y.Y0)) u := fun u => Zbr (d + 0) u _ _
 have p3 : ∀ (z : ZaY) (u : World), (part 54 (ZW z) 12).run Tryz.prog u = .ok (.agg (Zv z.Y1)) u := fun _ _ => by kernel_rfl
 have q3 : ∀ (u : World), (Op.equalIn (d + 3) 54 (.agg (Zv x.Y1)) (.agg (Zv y.Y1))).run Tryz.prog u = .ok (decide (x.Y1 = y.Y1)) u := fun u => Zbr (d + 0) u _ _
 have hf : (Tryz.prog.fieldsOf 113).toList = [{ name := "X0", type := 54, offset := 0, embedded := false, tag := "", pkgPath := "", byteOffset := 0 }, { name := "X1", type := 54, offset := 4, embedded := false, tag := "", pkgPath := "", byteOffset := 48 }, { name := "Y0", type := 54, offset := 8, embedded := false, tag := "", pkgPath := "", byteOffset := 96 }, { name := "Y1", type := 54, offset := 12, embedded := false, tag := "", pkgPath := "", byteOffset := 144 }] := by kernel_rfl
 rw [run_equalIn_struct w (d + 3) 113 _ _ (by kernel_rfl) (by kernel_rfl), hf]
 have hx : x = y ↔ (x.X0 = y.X0 ∧ x.X1 = y.X1 ∧ x.Y0 = y.Y0 ∧ x.Y1 = y.Y1) := by cases x; cases y; simp
 simp only [Op.eqFields, Sem.run_bind, Result.andThen_ok, Sem.run_ite, Sem.run_pure, p0, p1, p2, p3, q0, q1, q2, q3]
 by_cases h0 : x.X0 = y.X0 <;> by_cases h1 : x.X1 = y.X1 <;> by_cases h2 : x.Y0 = y.Y0 <;> by_cases h3 : x.Y1 = y.Y1 <;> simp [hx, h0, h1, h2, h3]
instance ZDJ (x y : ZaY) : BinC Tryz.prog .eql 113 (.agg (ZW x)) (.agg (ZW y)) (.bool (decide (x = y))) := ⟨fun a b w => run_eqGuard_agg w _ _ _ _ _ _ (by kernel_rfl), fun w => by rw [run_eql_struct, Zpd 9996]; rfl⟩
theorem ZpM (d : Nat) (w : World) (x y : ZbF) : (Op.equalIn (d + 4) 164 (.agg (ZX x)) (.agg (ZX y))).run Tryz.prog w = .ok (decide (x = y)) w := by
 have p0 : ∀ (z : ZbF) (u : World), (part 54 (ZX z) 0).run Tryz.prog u = .ok (.agg (Zv z.C0)) u := fun _ _ => by kernel_rfl
 have q0 : ∀ (u : World), (Op.equalIn (d + 3) 54 (.agg (Zv x.C0)) (.agg (Zv y.C0))).run Tryz.prog u = .ok (decide (x.C0 = y.C0)) u := fun u => Zbr (d + 0) u _ _
 have p1 : ∀ (z : ZbF) (u : World), (part 54 (ZX z) 4).run Tryz.prog u = .ok (.agg (Zv z.C1)) u := fun _ _ => by kernel_rfl
 have q1 : ∀ (u : World), (Op.equalIn (d + 3) 54 (.agg (Zv x.C1)) (.agg (Zv y.C1))).run Tryz.prog u = .ok (decide (x.C1 = y.C1)) u := fun u => Zbr (d + 0) u _ _
 have p2 : ∀ (z : ZbF) (u : World), (part 54 (ZX z) 8).run Tryz.prog u = .ok (.agg (Zv z.C2)) u := fun _ _ => by kernel_rfl
 have q2 : ∀ (u : World), (Op.equalIn (d + 3) 54 (.agg (Zv x.C2)) (.agg (Zv y.C2))).run Tryz.prog u = .ok (decide (x.C2 = y.C2)) u := fun u => Zbr (d + 0) u _ _
 have hf : (Tryz.prog.fieldsOf 164).toList = [{ name := "C0", type := 54, offset := 0, embedded := false, tag := "", pkgPath := "", byteOffset := 0 }, { name := "C1", type := 54, offset := 4, embedded := false, tag := "", pkgPath := "", byteOffset := 48 }, { name := "C2", type := 54, offset := 8, embedded := false, tag := "", pkgPath := "", byteOffset := 96 }] := by kernel_rfl
 rw [run_equalIn_struct w (d + 3) 164 _ _ (by kernel_rfl) (by kernel_rfl), hf]
 have hx : x = y ↔ (x.C0 = y.C0 ∧ x.C1 = y.C1 ∧ x.C2 = y.C2) := by cases x; cases y; simp
 simp only [Op.eqFields, Sem.run_bind, Result.andThen_ok, Sem.run_ite, Sem.run_pure, p0, p1, p2, q0, q1, q2]
 by_cases h0 : x.C0 = y.C0 <;> by_cases h1 : x.C1 = y.C1 <;> by_cases h2 : x.C2 = y.C2 <;> simp [hx, h0, h1, h2]
instance ZDz (x y : ZbF) : BinC Tryz.prog .eql 164 (.agg (ZX x)) (.agg (ZX y)) (.bool (decide (x = y))) := ⟨fun a b w => run_eqGuard_agg w _ _ _ _ _ _ (by kernel_rfl), fun w => by rw [run_eql_struct, ZpM 9996]; rfl⟩
instance ZEw : CallC Tryz.prog 10 := ⟨by kernel_rfl⟩
instance ZEp : CallC Tryz.prog 11 := ⟨by kernel_rfl⟩
instance ZE9 : CallC Tryz.prog 12 := ⟨by kernel_rfl⟩
instance ZDs : CallC Tryz.prog 13 := ⟨by kernel_rfl⟩
instance ZEV : CallC Tryz.prog 14 := ⟨by kernel_rfl⟩
instance ZFd : CallC Tryz.prog 15 := ⟨by kernel_rfl⟩
instance ZDm : CallC Tryz.prog 16 := ⟨by kernel_rfl⟩
instance ZCE : CallC Tryz.prog 17 := ⟨by kernel_rfl⟩
instance ZDr : CallC Tryz.prog 18 := ⟨by kernel_rfl⟩
instance ZFl : CallC Tryz.prog 19 := ⟨by kernel_rfl⟩
instance ZEG : CallC Tryz.prog 20 := ⟨by kernel_rfl⟩
instance ZD2 : CallC Tryz.prog 24 := ⟨by kernel_rfl⟩
instance ZC3 : CallC Tryz.prog 26 := ⟨by kernel_rfl⟩
instance ZCX : CallC Tryz.prog 30 := ⟨by kernel_rfl⟩
instance ZEh : CallC Tryz.prog 35 := ⟨by kernel_rfl⟩
instance ZDw : CallC Tryz.prog 40 := ⟨by kernel_rfl⟩
instance ZDg : CallC Tryz.prog 41 := ⟨by kernel_rfl⟩
instance ZE8 : CallC Tryz.prog 42 := ⟨by kernel_rfl⟩
instance ZFm : CallC Tryz.prog 43 := ⟨by kernel_rfl⟩
instance ZEX : CallC Tryz.prog 44 := ⟨by kernel_rfl⟩
instance ZCD : CallC Tryz.prog 45 := ⟨by kernel_rfl⟩
instance ZEI : CallC Tryz.prog 46 := ⟨by kernel_rfl⟩
instance ZDu : CallC Tryz.prog 47 := ⟨by kernel_rfl⟩
instance ZFe : CallC Tryz.prog 48 := ⟨by kernel_rfl⟩
instance ZFt : CallC Tryz.prog 50 := ⟨by kernel_rfl⟩
instance ZEz : CallC Tryz.prog 51 := ⟨by kernel_rfl⟩
instance ZCF : CallC Tryz.prog 52 := ⟨by kernel_rfl⟩
instance ZD5 : CallC Tryz.prog 53 := ⟨by kernel_rfl⟩
instance ZDd : CallC Tryz.prog 54 := ⟨by kernel_rfl⟩
instance ZDW : CallC Tryz.prog 55 := ⟨by kernel_rfl⟩
instance ZEY : CallC Tryz.prog 56 := ⟨by kernel_rfl⟩
instance ZDj : CallC Tryz.prog 57 := ⟨by kernel_rfl⟩
instance ZDo : CallC Tryz.prog 60 := ⟨by kernel_rfl⟩
instance ZD0 : CallC Tryz.prog 61 := ⟨by kernel_rfl⟩
instance ZEA : CallC Tryz.prog 62 := ⟨by kernel_rfl⟩
instance ZDI : CallC Tryz.prog 63 := ⟨by kernel_rfl⟩
instance ZC8 : CallC Tryz.prog 65 := ⟨by kernel_rfl⟩
instance ZEP : CallC Tryz.prog 66 := ⟨by kernel_rfl⟩
instance ZE4 : CallC Tryz.prog 72 := ⟨by kernel_rfl⟩
instance ZCZ : CallC Tryz.prog 73 := ⟨by kernel_rfl⟩
instance ZCR : CallC Tryz.prog 75 := ⟨by kernel_rfl⟩
instance ZE3 : CallC Tryz.prog 81 := ⟨by kernel_rfl⟩
instance ZFj : CallC Tryz.prog 87 := ⟨by kernel_rfl⟩
instance ZDH : CallC Tryz.prog 88 := ⟨by kernel_rfl⟩
instance ZCT : CallC Tryz.prog 89 := ⟨by kernel_rfl⟩
instance ZFq : CallC Tryz.prog 90 := ⟨by kernel_rfl⟩
instance ZD8 : CallC Tryz.prog 91 := ⟨by kernel_rfl⟩
instance ZDU : CallC Tryz.prog 92 := ⟨by kernel_rfl⟩
instance ZDO : CallC Tryz.prog 93 := ⟨by kernel_rfl⟩
instance ZC4 : CallC Tryz.prog 94 := ⟨by kernel_rfl⟩
instance ZC2 : CallC Tryz.prog 95 := ⟨by kernel_rfl⟩
instance ZEr : CallC Tryz.prog 96 := ⟨by kernel_rfl⟩
instance ZE2 : CallC Tryz.prog 97 := ⟨by kernel_rfl⟩
instance ZFk : CallC Tryz.prog 98 := ⟨by kernel_rfl⟩
instance Zzq : CallC Tryz.prog 100 := ⟨by kernel_rfl⟩
instance Zzv : CallC Tryz.prog 102 := ⟨by kernel_rfl⟩
instance ZyN : CallC Tryz.prog 103 := ⟨by kernel_rfl⟩
instance ZBz : CallC Tryz.prog 104 := ⟨by kernel_rfl⟩
instance Zyv : CallC Tryz.prog 105 := ⟨by kernel_rfl⟩
instance ZBV : CallC Tryz.prog 106 := ⟨by kernel_rfl⟩
instance ZyV : CallC Tryz.prog 107 := ⟨by kernel_rfl⟩
instance ZBG : CallC Tryz.prog 109 := ⟨by kernel_rfl⟩
instance ZAv : CallC Tryz.prog 110 := ⟨by kernel_rfl⟩
instance ZzY : CallC Tryz.prog 111 := ⟨by kernel_rfl⟩
instance Zyz : CallC Tryz.prog 112 := ⟨by kernel_rfl⟩
instance ZyW : CallC Tryz.prog 113 := ⟨by kernel_rfl⟩
instance ZAm : CallC Tryz.prog 114 := ⟨by kernel_rfl⟩
instance Zyo : CallC Tryz.prog 115 := ⟨by kernel_rfl⟩
instance ZBc : CallC Tryz.prog 125 := ⟨by kernel_rfl⟩
instance ZzP : CallC Tryz.prog 126 := ⟨by kernel_rfl⟩
instance ZBh : CallC Tryz.prog 127 := ⟨by kernel_rfl⟩
instance ZAq : CallC Tryz.prog 128 := ⟨by kernel_rfl⟩
instance ZAU : CallC Tryz.prog 131 := ⟨by kernel_rfl⟩
instance ZyM : CallC Tryz.prog 134 := ⟨by kernel_rfl⟩
instance ZBA : CallC Tryz.prog 135 := ⟨by kernel_rfl⟩
instance Zyt : CallC Tryz.prog 136 := ⟨by kernel_rfl⟩
instance ZAi : CallC Tryz.prog 141 := ⟨by kernel_rfl⟩
instance ZAO : CallC Tryz.prog 142 := ⟨by kernel_rfl⟩
instance Zzx : CallC Tryz.prog 143 := ⟨by kernel_rfl⟩
instance ZBw : CallC Tryz.prog 144 := ⟨by kernel_rfl⟩
instance ZyC : CallC Tryz.prog 145 := ⟨by kernel_rfl⟩
instance Zy4 : CallC Tryz.prog 146 := ⟨by kernel_rfl⟩
instance ZBk : CallC Tryz.prog 147 := ⟨by kernel_rfl⟩
instance Zy1 : CallC Tryz.prog 148 := ⟨by kernel_rfl⟩
instance ZCw : CallC Tryz.prog 149 := ⟨by kernel_rfl⟩
instance ZCn : CallC Tryz.prog 150 := ⟨by kernel_rfl⟩
instance ZyB : CallC Tryz.prog 151 := ⟨by kernel_rfl⟩
instance Zzk : CallC Tryz.prog 153 := ⟨by kernel_rfl⟩
instance ZB2 : CallC Tryz.prog 154 := ⟨by kernel_rfl⟩
instance Zzp : CallC Tryz.prog 155 := ⟨by kernel_rfl⟩
instance ZAV : CallC Tryz.prog 156 := ⟨by kernel_rfl⟩
instance Zzt : CallC Tryz.prog 157 := ⟨by kernel_rfl⟩
instance ZzZ : CallC Tryz.prog 158 := ⟨by kernel_rfl⟩
instance ZAW : CallC Tryz.prog 159 := ⟨by kernel_rfl⟩
instance ZBO : CallC Tryz.prog 161 := ⟨by kernel_rfl⟩
instance Zz4 : CallC Tryz.prog 162 := ⟨by kernel_rfl⟩
instance ZBL : CallC Tryz.prog 163 := ⟨by kernel_rfl⟩
instance ZAG : CallC Tryz.prog 164 := ⟨by kernel_rfl⟩
instance Zzd : CallC Tryz.prog 165 := ⟨by kernel_rfl⟩
instance Zyp : CallC Tryz.prog 167 := ⟨by kernel_rfl⟩
instance ZAY : CallC Tryz.prog 168 := ⟨by kernel_rfl⟩
instance ZzW : CallC Tryz.prog 169 := ⟨by kernel_rfl⟩
instance ZAS : CallC Tryz.prog 170 := ⟨by kernel_rfl⟩
instance ZB8 : CallC Tryz.prog 171 := ⟨by kernel_rfl⟩
instance ZCi : CallC Tryz.prog 172 := ⟨by kernel_rfl⟩
instance ZzL : CallC Tryz.prog 173 := ⟨by kernel_rfl⟩
instance ZCu : CallC Tryz.prog 174 := ⟨by kernel_rfl⟩
instance Zzw : CallC Tryz.prog 175 := ⟨by kernel_rfl⟩
instance ZyU : CallC Tryz.prog 176 := ⟨by kernel_rfl⟩
instance ZAQ : CallC Tryz.prog 177 := ⟨by kernel_rfl⟩
instance ZAn : CallC Tryz.prog 178 := ⟨by kernel_rfl⟩
instance ZA7 : CallC Tryz.prog 179 := ⟨by kernel_rfl⟩
instance ZzJ : CallC Tryz.prog 180 := ⟨by kernel_rfl⟩
instance ZAC : CallC Tryz.prog 185 := ⟨by kernel_rfl⟩
instance ZAl : CallC Tryz.prog 194 := ⟨by kernel_rfl⟩
instance Zzy : CallC Tryz.prog 195 := ⟨by kernel_rfl⟩
instance Zyr : CallC Tryz.prog 196 := ⟨by kernel_rfl⟩
instance Zzj : CallC Tryz.prog 197 := ⟨by kernel_rfl⟩
instance ZAB : CallC Tryz.prog 198 := ⟨by kernel_rfl⟩
instance ZA0 : CallC Tryz.prog 199 := ⟨by kernel_rfl⟩
instance Zyx : CallC Tryz.prog 200 := ⟨by kernel_rfl⟩
instance ZzG : CallC Tryz.prog 201 := ⟨by kernel_rfl⟩
instance ZCm : CallC Tryz.prog 202 := ⟨by kernel_rfl⟩
instance ZzX : CallC Tryz.prog 203 := ⟨by kernel_rfl⟩
instance Zym : CallC Tryz.prog 204 := ⟨by kernel_rfl⟩
instance Zzr : CallC Tryz.prog 205 := ⟨by kernel_rfl⟩
instance Zyl : CallC Tryz.prog 206 := ⟨by kernel_rfl⟩
instance ZBM : CallC Tryz.prog 207 := ⟨by kernel_rfl⟩
instance Zy7 : CallC Tryz.prog 208 := ⟨by kernel_rfl⟩
instance ZB7 : CallC Tryz.prog 210 := ⟨by kernel_rfl⟩
instance ZAD : CallC Tryz.prog 211 := ⟨by kernel_rfl⟩
instance ZBX : CallC Tryz.prog 212 := ⟨by kernel_rfl⟩
instance ZBH : CallC Tryz.prog 213 := ⟨by kernel_rfl⟩
instance ZBp : CallC Tryz.prog 214 := ⟨by kernel_rfl⟩
instance ZA6 : CallC Tryz.prog 215 := ⟨by kernel_rfl⟩
instance ZAJ : CallC Tryz.prog 216 := ⟨by kernel_rfl⟩
instance Zz7 : CallC Tryz.prog 217 := ⟨by kernel_rfl⟩
instance ZBs : CallC Tryz.prog 218 := ⟨by kernel_rfl⟩
instance ZyG : CallC Tryz.prog 219 := ⟨by kernel_rfl⟩
instance ZyK : CallC Tryz.prog 220 := ⟨by kernel_rfl⟩
instance ZzC : CallC Tryz.prog 221 := ⟨by kernel_rfl⟩
instance ZBB : CallC Tryz.prog 222 := ⟨by kernel_rfl⟩
instance ZA5 : CallC Tryz.prog 223 := ⟨by kernel_rfl⟩
instance Zy2 : CallC Tryz.prog 225 := ⟨by kernel_rfl⟩
instance Zzo : CallC Tryz.prog 226 := ⟨by kernel_rfl⟩
instance ZB4 : CallC Tryz.prog 227 := ⟨by kernel_rfl⟩
instance ZAj : CallC Tryz.prog 242 := ⟨by kernel_rfl⟩
instance ZyT : CallC Tryz.prog 244 := ⟨by kernel_rfl⟩
instance ZyY : CallC Tryz.prog 245 := ⟨by kernel_rfl⟩
instance ZzT : CallC Tryz.prog 246 := ⟨by kernel_rfl⟩
instance ZBv : CallC Tryz.prog 248 := ⟨by kernel_rfl⟩
instance ZyZ : CallC Tryz.prog 257 := ⟨by kernel_rfl⟩
instance ZBn : CallC Tryz.prog 258 := ⟨by kernel_rfl⟩
instance ZyH : CallC Tryz.prog 260 := ⟨by kernel_rfl⟩
instance ZAo : CallC Tryz.prog 264 := ⟨by kernel_rfl⟩
instance ZCc : CallC Tryz.prog 265 := ⟨by kernel_rfl⟩
instance ZBl : CallC Tryz.prog 266 := ⟨by kernel_rfl⟩
instance ZCo : CallC Tryz.prog 269 := ⟨by kernel_rfl⟩
instance Zz8 : CallC Tryz.prog 270 := ⟨by kernel_rfl⟩
instance ZCt : CallC Tryz.prog 271 := ⟨by kernel_rfl⟩
instance ZAu : CallC Tryz.prog 272 := ⟨by kernel_rfl⟩
instance Zzz : CallC Tryz.prog 273 := ⟨by kernel_rfl⟩
instance ZyD : CallC Tryz.prog 295 := ⟨by kernel_rfl⟩
instance ZAN : CallC Tryz.prog 296 := ⟨by kernel_rfl⟩
instance ZyR : CallC Tryz.prog 302 := ⟨by kernel_rfl⟩
instance ZBe : CallC Tryz.prog 303 := ⟨by kernel_rfl⟩
instance ZA8 : CallC Tryz.prog 309 := ⟨by kernel_rfl⟩
instance ZAL : CallC Tryz.prog 324 := ⟨by kernel_rfl⟩
instance ZyJ : CallC Tryz.prog 417 := ⟨by kernel_rfl⟩
instance ZBK : CallC Tryz.prog 418 := ⟨by kernel_rfl⟩
instance ZyL : CallC Tryz.prog 419 := ⟨by kernel_rfl⟩
instance ZyS : CallC Tryz.prog 420 := ⟨by kernel_rfl⟩
instance ZBx : CallC Tryz.prog 421 := ⟨by kernel_rfl⟩
instance Zz5 : CallC Tryz.prog 422 := ⟨by kernel_rfl⟩
instance ZCe : CallC Tryz.prog 423 := ⟨by kernel_rfl⟩
instance Zze : CallC Tryz.prog 424 := ⟨by kernel_rfl⟩
theorem mixed : Tryz.prog.follows .mixedOrders = true := by kernel_rfl
end Go.Vt
