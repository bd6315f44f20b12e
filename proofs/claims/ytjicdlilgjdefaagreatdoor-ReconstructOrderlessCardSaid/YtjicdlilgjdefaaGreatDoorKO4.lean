/- that the order in which batches arrive does not matter (part 4 of 27.) Conditions: those that each statement names. -/
import Derived.Test.YtjicdlilgjdefaaGreatDoorProg
import Derived.Test.YtjicdlilgjdefaaGreatDoorKO3
/- The struct types of this seat's translation as Lean structures, their cells, and what loads, literals, field addresses and comparisons give. Written by a program (gen_types.py). Conditions: none. -/
set_option linter.unusedVariables false
set_option maxRecDepth 100000
namespace Go.Vt
open Go.RowKit Go.Proofs
structure Sl where
 a : Option Addr
 len : Nat
 cap : Nat
structure Za2 where
 Loads : Sl
 Speed : Int
 Gap : Int
def ZI (x : Za2) : Array Value := #[.slice x.Loads.a x.Loads.len x.Loads.cap, .int .u8 x.Speed, .int .u8 x.Gap]
structure Z8 where
 Object : Int
 Seq : Int
 Version : Int
 Device : Int
 Time : Int
 X : Int
 Y : Int
 Cancel : Bool
 deriving DecidableEq
def Z5 (x : Z8) : Array Value := #[.int .u8 x.Object, .int .u8 x.Seq, .int .u8 x.Version, .int .u8 x.Device, .int .u8 x.Time, .int .u8 x.X, .int .u8 x.Y, .bool x.Cancel]
def Ze5 : Z8 := ⟨0, 0, 0, 0, 0, 0, 0, false⟩
instance ZmM (x : Z8) : CsC (Z5 x) 8 := ⟨by kernel_rfl, by kernel_rfl⟩
structure ZN where
 MaxSpeed : Int
 MaxGap : Int
 deriving DecidableEq
def Zn (x : ZN) : Array Value := #[.int .i64 x.MaxSpeed, .int .i64 x.MaxGap]
def Zeb : ZN := ⟨0, 0⟩
instance ZqI (x : ZN) : CsC (Zn x) 2 := ⟨by kernel_rfl, by kernel_rfl⟩
structure Zb where
 Object : Int
 Seq : Int
 Version : Int
 Device : Int
 Time : Int
 X : Int
 Y : Int
 Cancel : Bool
 deriving DecidableEq
def Zc (x : Zb) : Array Value := #[.int .i64 x.Object, .int .i64 x.Seq, .int .i64 x.Version, .int .i64 x.Device, .int .i64 x.Time, .int .i64 x.X, .int .i64 x.Y, .bool x.Cancel]
def Zap : Zb := ⟨0, 0, 0, 0, 0, 0, 0, false⟩
instance Zsx (x : Zb) : CsC (Zc x) 8 := ⟨by kernel_rfl, by kernel_rfl⟩
structure Zar where
 Reports : Sl
 Exchanges : Sl
def Zp (x : Zar) : Array Value := #[.slice x.Reports.a x.Reports.len x.Reports.cap, .slice x.Exchanges.a x.Exchanges.len x.Exchanges.cap]
def Zca : Zar := ⟨⟨none, 0, 0⟩, ⟨none, 0, 0⟩⟩
instance ZsK (x : Zar) : CsC (Zp x) 2 := ⟨by kernel_rfl, by kernel_rfl⟩
structure Zan where
 Neg : Bool
 Mag : ByteArray
 deriving DecidableEq
def ZP (x : Zan) : Array Value := #[.bool x.Neg, .string x.Mag]
def ZaP : Zan := ⟨false, ByteArray.empty⟩
instance Zu0 (x : Zan) : CsC (ZP x) 2 := ⟨by kernel_rfl, by kernel_rfl⟩
structure Z9 where
 Num : Zan
 Den : Zan
 deriving DecidableEq
def Zx (x : Z9) : Array Value := #[.bool x.Num.Neg, .string x.Num.Mag, .bool x.Den.Neg, .string x.Den.Mag]
def ZbY : Z9 := ⟨ZaP, ZaP⟩
instance ZvJ (x : Z9) : CsC (Zx x) 4 := ⟨by kernel_rfl, by kernel_rfl⟩
structure Zb1 where
 T : Z9
 Report : Zb
 deriving DecidableEq
def ZJ (x : Zb1) : Array Value := #[.bool x.T.Num.Neg, .string x.T.Num.Mag, .bool x.T.Den.Neg, .string x.T.Den.Mag, .int .i64 x.Report.Object, .int .i64 x.Report.Seq, .int .i64 x.Report.Version, .int .i64 x.Report.Device, .int .i64 x.Report.Time, .int .i64 x.Report.X, .int .i64 x.Report.Y, .bool x.Report.Cancel]
instance ZqF (x : Zb1) : CsC (ZJ x) 12 := ⟨by kernel_rfl, by kernel_rfl⟩
structure ZaB where
 Id : Int
 Units : Sl
def Zaa (x : ZaB) : Array Value := #[.int .i64 x.Id, .slice x.Units.a x.Units.len x.Units.cap]
def Zdr : ZaB := ⟨0, ⟨none, 0, 0⟩⟩
instance Zsv (x : ZaB) : CsC (Zaa x) 2 := ⟨by kernel_rfl, by kernel_rfl⟩
structure ZdS where
 X : Z9
 Y : Z9
 deriving DecidableEq
def ZaI (x : ZdS) : Array Value := #[.bool x.X.Num.Neg, .string x.X.Num.Mag, .bool x.X.Den.Neg, .string x.X.Den.Mag, .bool x.Y.Num.Neg, .string x.Y.Num.Mag, .bool x.Y.Den.Neg, .string x.Y.Den.Mag]
instance Ztn (x : ZdS) : CsC (ZaI x) 8 := ⟨by kernel_rfl, by kernel_rfl⟩
structure ZaS where
 P : Z9
 R : Z9
 Neg : Bool
 deriving DecidableEq
def Zz (x : ZaS) : Array Value := #[.bool x.P.Num.Neg, .string x.P.Num.Mag, .bool x.P.Den.Neg, .string x.P.Den.Mag, .bool x.R.Num.Neg, .string x.R.Num.Mag, .bool x.R.Den.Neg, .string x.R.Den.Mag, .bool x.Neg]
instance ZuO (x : ZaS) : CsC (Zz x) 9 := ⟨by kernel_rfl, by kernel_rfl⟩
structure Zcx where
 Value : ZaS
 At : ZaS
 Reached : Bool
 deriving DecidableEq
structure Zaw where
 From : ZaS
 To : ZaS
 OpenFrom : Bool
 OpenTo : Bool
 deriving DecidableEq
def Zw (x : Zaw) : Array Value := #[.bool x.From.P.Num.Neg, .string x.From.P.Num.Mag, .bool x.From.P.Den.Neg, .string x.From.P.Den.Mag, .bool x.From.R.Num.Neg, .string x.From.R.Num.Mag, .bool x.From.R.Den.Neg, .string x.From.R.Den.Mag, .bool x.From.Neg, .bool x.To.P.Num.Neg, .string x.To.P.Num.Mag, .bool x.To.P.Den.Neg, .string x.To.P.Den.Mag, .bool x.To.R.Num.Neg, .string x.To.R.Num.Mag, .bool x.To.R.Den.Neg, .string x.To.R.Den.Mag, .bool x.To.Neg, .bool x.OpenFrom, .bool x.OpenTo]
instance ZqH (x : Zaw) : CsC (Zw x) 20 := ⟨by kernel_rfl, by kernel_rfl⟩
structure ZaZ where
 X0 : Z9
 X1 : Z9
 Y0 : Z9
 Y1 : Z9
 deriving DecidableEq
def ZW (x : ZaZ) : Array Value := #[.bool x.X0.Num.Neg, .string x.X0.Num.Mag, .bool x.X0.Den.Neg, .string x.X0.Den.Mag, .bool x.X1.Num.Neg, .string x.X1.Num.Mag, .bool x.X1.Den.Neg, .string x.X1.Den.Mag, .bool x.Y0.Num.Neg, .string x.Y0.Num.Mag, .bool x.Y0.Den.Neg, .string x.Y0.Den.Mag, .bool x.Y1.Num.Neg, .string x.Y1.Num.Mag, .bool x.Y1.Den.Neg, .string x.Y1.Den.Mag]
instance ZuX (x : ZaZ) : CsC (ZW x) 16 := ⟨by kernel_rfl, by kernel_rfl⟩
structure ZaO where
 In : Zaw
 F : ZaZ
 deriving DecidableEq
def ZS (x : ZaO) : Array Value := #[.bool x.In.From.P.Num.Neg, .string x.In.From.P.Num.Mag, .bool x.In.From.P.Den.Neg, .string x.In.From.P.Den.Mag, .bool x.In.From.R.Num.Neg, .string x.In.From.R.Num.Mag, .bool x.In.From.R.Den.Neg, .string x.In.From.R.Den.Mag, .bool x.In.From.Neg, .bool x.In.To.P.Num.Neg, .string x.In.To.P.Num.Mag, .bool x.In.To.P.Den.Neg, .string x.In.To.P.Den.Mag, .bool x.In.To.R.Num.Neg, .string x.In.To.R.Num.Mag, .bool x.In.To.R.Den.Neg, .string x.In.To.R.Den.Mag, .bool x.In.To.Neg, .bool x.In.OpenFrom, .bool x.In.OpenTo, .bool x.F.X0.Num.Neg, .string x.F.X0.Num.Mag, .bool x.F.X0.Den.Neg, .string x.F.X0.Den.Mag, .bool x.F.X1.Num.Neg, .string x.F.X1.Num.Mag, .bool x.F.X1.Den.Neg, .string x.F.X1.Den.Mag, .bool x.F.Y0.Num.Neg, .string x.F.Y0.Num.Mag, .bool x.F.Y0.Den.Neg, .string x.F.Y0.Den.Mag, .bool x.F.Y1.Num.Neg, .string x.F.Y1.Num.Mag, .bool x.F.Y1.Den.Neg, .string x.F.Y1.Den.Mag]
instance Zo6 (x : ZaO) : CsC (ZS x) 36 := ⟨by kernel_rfl, by kernel_rfl⟩
structure ZU where
 Pings : Sl
 Calls : Sl
def Zaj (x : ZU) : Array Value := #[.slice x.Pings.a x.Pings.len x.Pings.cap, .slice x.Calls.a x.Calls.len x.Calls.cap]
def Zfe : ZU := ⟨⟨none, 0, 0⟩, ⟨none, 0, 0⟩⟩
instance ZmO (x : ZU) : CsC (Zaj x) 2 := ⟨by kernel_rfl, by kernel_rfl⟩
structure Za where
 From : Int
 To : Int
 Sent : Int
 Received : Int
 Least : Int
 deriving DecidableEq
def Zd (x : Za) : Array Value := #[.int .i64 x.From, .int .i64 x.To, .int .i64 x.Sent, .int .i64 x.Received, .int .i64 x.Least]
def ZcB : Za := ⟨0, 0, 0, 0, 0⟩
instance ZqM (x : Za) : CsC (Zd x) 5 := ⟨by kernel_rfl, by kernel_rfl⟩
structure Zai where
 From : Int
 To : Int
 Sent : Int
 Delay : Int
 Least : Int
 Wrong : Bool
 deriving DecidableEq
def Zaf (x : Zai) : Array Value := #[.int .u8 x.From, .int .u8 x.To, .int .u8 x.Sent, .int .u8 x.Delay, .int .u8 x.Least, .bool x.Wrong]
def ZeU : Zai := ⟨0, 0, 0, 0, 0, false⟩
instance ZmN (x : Zai) : CsC (Zaf x) 6 := ⟨by kernel_rfl, by kernel_rfl⟩
structure ZA where
 object : Int
 seq : Int
 deriving DecidableEq
def ZX (x : ZA) : Array Value := #[.int .i64 x.object, .int .i64 x.seq]
def Zb8 : ZA := ⟨0, 0⟩
instance Zot (x : ZA) : CsC (ZX x) 2 := ⟨by kernel_rfl, by kernel_rfl⟩
structure ZbX where
 T : Z9
 P : ZdS
 deriving DecidableEq
def Z3 (x : ZbX) : Array Value := #[.bool x.T.Num.Neg, .string x.T.Num.Mag, .bool x.T.Den.Neg, .string x.T.Den.Mag, .bool x.P.X.Num.Neg, .string x.P.X.Num.Mag, .bool x.P.X.Den.Neg, .string x.P.X.Den.Mag, .bool x.P.Y.Num.Neg, .string x.P.Y.Num.Mag, .bool x.P.Y.Den.Neg, .string x.P.Y.Den.Mag]
instance ZkG (x : ZbX) : CsC (Z3 x) 12 := ⟨by kernel_rfl, by kernel_rfl⟩
structure ZbJ where
 C0 : Z9
 C1 : Z9
 C2 : Z9
 deriving DecidableEq
def Z0 (x : ZbJ) : Array Value := #[.bool x.C0.Num.Neg, .string x.C0.Num.Mag, .bool x.C0.Den.Neg, .string x.C0.Den.Mag, .bool x.C1.Num.Neg, .string x.C1.Num.Mag, .bool x.C1.Den.Neg, .string x.C1.Den.Mag, .bool x.C2.Num.Neg, .string x.C2.Num.Mag, .bool x.C2.Den.Neg, .string x.C2.Den.Mag]
instance ZuM (x : ZbJ) : CsC (Z0 x) 12 := ⟨by kernel_rfl, by kernel_rfl⟩
structure Zbw where
 Low : Int
 High : Int
 deriving DecidableEq
def Zal (x : Zbw) : Array Value := #[.int .i64 x.Low, .int .i64 x.High]
def ZcP : Zbw := ⟨0, 0⟩
instance ZqY (x : Zbw) : CsC (Zal x) 2 := ⟨by kernel_rfl, by kernel_rfl⟩
structure ZbG where
 In : Zaw
 F : ZaZ
 deriving DecidableEq
def Zs (x : ZbG) : Array Value := #[.bool x.In.From.P.Num.Neg, .string x.In.From.P.Num.Mag, .bool x.In.From.P.Den.Neg, .string x.In.From.P.Den.Mag, .bool x.In.From.R.Num.Neg, .string x.In.From.R.Num.Mag, .bool x.In.From.R.Den.Neg, .string x.In.From.R.Den.Mag, .bool x.In.From.Neg, .bool x.In.To.P.Num.Neg, .string x.In.To.P.Num.Mag, .bool x.In.To.P.Den.Neg, .string x.In.To.P.Den.Mag, .bool x.In.To.R.Num.Neg, .string x.In.To.R.Num.Mag, .bool x.In.To.R.Den.Neg, .string x.In.To.R.Den.Mag, .bool x.In.To.Neg, .bool x.In.OpenFrom, .bool x.In.OpenTo, .bool x.F.X0.Num.Neg, .string x.F.X0.Num.Mag, .bool x.F.X0.Den.Neg, .string x.F.X0.Den.Mag, .bool x.F.X1.Num.Neg, .string x.F.X1.Num.Mag, .bool x.F.X1.Den.Neg, .string x.F.X1.Den.Mag, .bool x.F.Y0.Num.Neg, .string x.F.Y0.Num.Mag, .bool x.F.Y0.Den.Neg, .string x.F.Y0.Den.Mag, .bool x.F.Y1.Num.Neg, .string x.F.Y1.Num.Mag, .bool x.F.Y1.Den.Neg, .string x.F.Y1.Den.Mag]
instance ZjX (x : ZbG) : CsC (Zs x) 36 := ⟨by kernel_rfl, by kernel_rfl⟩
structure Za8 where
 l : Sl
 some : Sl
 size : Int
def ZL (x : Za8) : Array Value := #[.slice x.l.a x.l.len x.l.cap, .slice x.some.a x.some.len x.some.cap, .int .i64 x.size]
def Zc9 : Za8 := ⟨⟨none, 0, 0⟩, ⟨none, 0, 0⟩, 0⟩
instance Zsn (x : Za8) : CsC (ZL x) 3 := ⟨by kernel_rfl, by kernel_rfl⟩
instance ZHX : UndC Tryz.prog 2 (.int .i64) := ⟨by kernel_rfl⟩
instance ZH4 : UndC Tryz.prog 3 (.int .i64) := ⟨by kernel_rfl⟩
instance ZIb : UndC Tryz.prog 4 (.bool) := ⟨by kernel_rfl⟩
instance ZH5 : UndC Tryz.prog 5 (.int .u8) := ⟨by kernel_rfl⟩
instance ZH9 : UndC Tryz.prog 9 (.string) := ⟨by kernel_rfl⟩
instance ZHv : UndC Tryz.prog 22 (.slice 120) := ⟨by kernel_rfl⟩
instance ZHS : UndC Tryz.prog 29 (.slice 40) := ⟨by kernel_rfl⟩
instance ZHc : UndC Tryz.prog 37 (.slice 35) := ⟨by kernel_rfl⟩
instance ZGI : UndC Tryz.prog 38 (.slice 122) := ⟨by kernel_rfl⟩
instance ZG6 : UndC Tryz.prog 48 (.slice 56) := ⟨by kernel_rfl⟩
instance ZHQ : UndC Tryz.prog 58 (.slice 115) := ⟨by kernel_rfl⟩
instance ZHN : UndC Tryz.prog 62 (.slice 82) := ⟨by kernel_rfl⟩
instance ZG1 : UndC Tryz.prog 84 (.slice 111) := ⟨by kernel_rfl⟩
instance ZGs : UndC Tryz.prog 106 (.slice 3) := ⟨by kernel_rfl⟩
instance ZET : UndC Tryz.prog 117 (.slice 26) := ⟨by kernel_rfl⟩
instance ZEs : UndC Tryz.prog 118 (.slice 125) := ⟨by kernel_rfl⟩
instance ZGx : UndC Tryz.prog 141 (.slice 143) := ⟨by kernel_rfl⟩
instance ZER : UndC Tryz.prog 157 (.slice 224) := ⟨by kernel_rfl⟩
instance ZEM : UndC Tryz.prog 226 (.int .u64) := ⟨by kernel_rfl⟩
instance ZFg : UndC Tryz.prog 293 (.slice 5) := ⟨by kernel_rfl⟩
instance ZEF : UndC Tryz.prog 294 (.int .u64) := ⟨by kernel_rfl⟩
instance ZEI : UndC Tryz.prog 363 (.slice 365) := ⟨by kernel_rfl⟩
instance ZEL : UndC Tryz.prog 365 (.int .u32) := ⟨by kernel_rfl⟩
instance ZDG : UndC Tryz.prog 256 (.array 8 3) := ⟨by kernel_rfl⟩
instance ZEW : UndC Tryz.prog 292 (.array 8 5) := ⟨by kernel_rfl⟩
instance ZDI : BytesC Tryz.prog 3 8 := ⟨by kernel_rfl⟩
instance ZFk : BytesC Tryz.prog 5 1 := ⟨by kernel_rfl⟩
instance ZCX : BytesC Tryz.prog 35 64 := ⟨by kernel_rfl⟩
instance ZCC : BytesC Tryz.prog 40 48 := ⟨by kernel_rfl⟩
instance ZzT : BytesC Tryz.prog 56 112 := ⟨by kernel_rfl⟩
instance ZAg : BytesC Tryz.prog 82 32 := ⟨by kernel_rfl⟩
instance Zyt : BytesC Tryz.prog 111 216 := ⟨by kernel_rfl⟩
instance Zw8 : BytesC Tryz.prog 115 408 := ⟨by kernel_rfl⟩
instance ZyP : BytesC Tryz.prog 122 40 := ⟨by kernel_rfl⟩
instance Zxn : BytesC Tryz.prog 143 144 := ⟨by kernel_rfl⟩
instance Zxi : BytesC Tryz.prog 224 408 := ⟨by kernel_rfl⟩
instance Zy2 : BytesC Tryz.prog 365 4 := ⟨by kernel_rfl⟩
instance ZHL : ZeroC Tryz.prog 3 (.int .i64 0) #[.int .i64 0] := ⟨by kernel_rfl, by kernel_rfl⟩
instance ZHC : SizeC Tryz.prog 3 1 := ⟨by kernel_rfl⟩
instance ZH2 (x : Int) : LdC Tryz.prog 3 #[.int .i64 x] 0 (.int .i64 x) := ⟨Zy (by kernel_rfl) (by kernel_rfl)⟩
instance ZHB : ZeroC Tryz.prog 4 (.bool false) #[.bool false] := ⟨by kernel_rfl, by kernel_rfl⟩
instance ZHP : ZeroC Tryz.prog 5 (.int .u8 0) #[.int .u8 0] := ⟨by kernel_rfl, by kernel_rfl⟩
instance ZHT : SizeC Tryz.prog 5 1 := ⟨by kernel_rfl⟩
instance ZFI : SizeC Tryz.prog 26 8 := ⟨by kernel_rfl⟩
instance ZDH : ZeroC Tryz.prog 32 (.agg (Zn Zeb)) (Zn Zeb) := ⟨by kernel_rfl, by kernel_rfl⟩
instance ZFp : SizeC Tryz.prog 32 2 := ⟨by kernel_rfl⟩
instance ZEJ : ZeroC Tryz.prog 35 (.agg (Zc Zap)) (Zc Zap) := ⟨by kernel_rfl, by kernel_rfl⟩
instance ZFa : SizeC Tryz.prog 35 8 := ⟨by kernel_rfl⟩
instance ZHF (x : Option Addr) (l c : Nat) : LdC Tryz.prog 37 #[.slice x l c] 0 (.slice x l c) := ⟨Zy (by kernel_rfl) (by kernel_rfl)⟩
instance ZHy (x : Option Addr) (l c : Nat) : LdC Tryz.prog 38 #[.slice x l c] 0 (.slice x l c) := ⟨Zy (by kernel_rfl) (by kernel_rfl)⟩
instance ZEj : ZeroC Tryz.prog 40 (.agg (Zp Zca)) (Zp Zca) := ⟨by kernel_rfl, by kernel_rfl⟩
instance ZFm : SizeC Tryz.prog 40 2 := ⟨by kernel_rfl⟩
instance ZF8 : ZeroC Tryz.prog 52 (.agg (ZP ZaP)) (ZP ZaP) := ⟨by kernel_rfl, by kernel_rfl⟩
instance ZGb : SizeC Tryz.prog 52 2 := ⟨by kernel_rfl⟩
instance ZGo : ZeroC Tryz.prog 54 (.agg (Zx ZbY)) (Zx ZbY) := ⟨by kernel_rfl, by kernel_rfl⟩
instance ZFE : SizeC Tryz.prog 54 4 := ⟨by kernel_rfl⟩
instance ZFf : SizeC Tryz.prog 56 12 := ⟨by kernel_rfl⟩
instance ZFz : ZeroC Tryz.prog 82 (.agg (Zaa Zdr)) (Zaa Zdr) := ⟨by kernel_rfl, by kernel_rfl⟩
instance ZFR : SizeC Tryz.prog 82 2 := ⟨by kernel_rfl⟩
instance ZDN : SizeC Tryz.prog 93 8 := ⟨by kernel_rfl⟩
instance ZEg : SizeC Tryz.prog 97 9 := ⟨by kernel_rfl⟩
instance ZD1 (x : Option Addr) (l c : Nat) : LdC Tryz.prog 106 #[.slice x l c] 0 (.slice x l c) := ⟨Zy (by kernel_rfl) (by kernel_rfl)⟩
instance ZDm : SizeC Tryz.prog 111 20 := ⟨by kernel_rfl⟩
instance ZBf : SizeC Tryz.prog 113 16 := ⟨by kernel_rfl⟩
instance ZzV : SizeC Tryz.prog 115 36 := ⟨by kernel_rfl⟩
instance ZCJ : SizeC Tryz.prog 120 2 := ⟨by kernel_rfl⟩
instance Zzy : ZeroC Tryz.prog 122 (.agg (Zd ZcB)) (Zd ZcB) := ⟨by kernel_rfl, by kernel_rfl⟩
instance ZCM : SizeC Tryz.prog 122 5 := ⟨by kernel_rfl⟩
instance ZBV : SizeC Tryz.prog 125 6 := ⟨by kernel_rfl⟩
instance ZCU : ZeroC Tryz.prog 133 (.agg (ZX Zb8)) (ZX Zb8) := ⟨by kernel_rfl, by kernel_rfl⟩
instance ZCH : SizeC Tryz.prog 133 2 := ⟨by kernel_rfl⟩
instance ZBY : SizeC Tryz.prog 143 12 := ⟨by kernel_rfl⟩
instance ZDe : ZeroC Tryz.prog 157 (.slice none 0 0) #[.slice none 0 0] := ⟨by kernel_rfl, by kernel_rfl⟩
instance ZBQ : SizeC Tryz.prog 157 1 := ⟨by kernel_rfl⟩
instance ZAF : SizeC Tryz.prog 164 12 := ⟨by kernel_rfl⟩
instance ZCw : ZeroC Tryz.prog 196 (.agg (Zal ZcP)) (Zal ZcP) := ⟨by kernel_rfl, by kernel_rfl⟩
instance ZAh : SizeC Tryz.prog 196 2 := ⟨by kernel_rfl⟩
instance ZzI : SizeC Tryz.prog 224 36 := ⟨by kernel_rfl⟩
instance ZCZ : ZeroC Tryz.prog 256 (.agg (nums .i64 [0, 0, 0, 0, 0, 0, 0, 0])) (nums .i64 [0, 0, 0, 0, 0, 0, 0, 0]) := ⟨by kernel_rfl, by kernel_rfl⟩
instance ZDb : SizeC Tryz.prog 256 8 := ⟨by kernel_rfl⟩
instance ZCp : ZeroC Tryz.prog 292 (.agg (nums .u8 [0, 0, 0, 0, 0, 0, 0, 0])) (nums .u8 [0, 0, 0, 0, 0, 0, 0, 0]) := ⟨by kernel_rfl, by kernel_rfl⟩
instance ZAQ : ZeroC Tryz.prog 324 (.agg (ZL Zc9)) (ZL Zc9) := ⟨by kernel_rfl, by kernel_rfl⟩
instance ZAw : SizeC Tryz.prog 324 3 := ⟨by kernel_rfl⟩
instance ZCD : ZeroC Tryz.prog 365 (.int .u32 0) #[.int .u32 0] := ⟨by kernel_rfl, by kernel_rfl⟩
instance Zzu : SizeC Tryz.prog 365 1 := ⟨by kernel_rfl⟩
instance ZF5 : FaC Tryz.prog 40 0 0 := ⟨fun b o w => by kernel_rfl⟩
instance ZEZ : FaC Tryz.prog 40 1 1 := ⟨fun b o w => by kernel_rfl⟩
instance ZGy : FaC Tryz.prog 56 0 0 := ⟨fun b o w => by kernel_rfl⟩
instance ZGn : FaC Tryz.prog 56 1 4 := ⟨fun b o w => by kernel_rfl⟩
instance ZFd : FaC Tryz.prog 82 0 0 := ⟨fun b o w => by kernel_rfl⟩
instance ZFn : FaC Tryz.prog 82 1 1 := ⟨fun b o w => by kernel_rfl⟩
instance ZGv : FaC Tryz.prog 93 0 0 := ⟨fun b o w => by kernel_rfl⟩
instance ZFq : FaC Tryz.prog 93 1 4 := ⟨fun b o w => by kernel_rfl⟩
instance ZAC : FaC Tryz.prog 111 0 0 := ⟨fun b o w => by kernel_rfl⟩
instance ZAB : FaC Tryz.prog 111 1 9 := ⟨fun b o w => by kernel_rfl⟩
instance ZCc : FaC Tryz.prog 111 3 19 := ⟨fun b o w => by kernel_rfl⟩
instance ZCQ : FaC Tryz.prog 115 0 0 := ⟨fun b o w => by kernel_rfl⟩
instance Zz0 : FaC Tryz.prog 115 1 20 := ⟨fun b o w => by kernel_rfl⟩
instance ZCt : FaC Tryz.prog 120 0 0 := ⟨fun b o w => by kernel_rfl⟩
instance ZAu : FaC Tryz.prog 120 1 1 := ⟨fun b o w => by kernel_rfl⟩
instance ZAv : FaC Tryz.prog 122 0 0 := ⟨fun b o w => by kernel_rfl⟩
instance ZDn : FaC Tryz.prog 122 1 1 := ⟨fun b o w => by kernel_rfl⟩
instance ZCz : FaC Tryz.prog 143 0 0 := ⟨fun b o w => by kernel_rfl⟩
instance ZBq : FaC Tryz.prog 143 1 4 := ⟨fun b o w => by kernel_rfl⟩
instance ZA8 : FaC Tryz.prog 224 0 0 := ⟨fun b o w => by kernel_rfl⟩
instance ZDi : FaC Tryz.prog 224 1 20 := ⟨fun b o w => by kernel_rfl⟩
instance Zzc : FaO Tryz.prog 24 0 0 0 := ⟨fun b w => by kernel_rfl⟩
instance Zyi : FaO Tryz.prog 24 1 0 1 := ⟨fun b w => by kernel_rfl⟩
instance ZxT : FaO Tryz.prog 24 2 0 2 := ⟨fun b w => by kernel_rfl⟩
instance Zys : FaO Tryz.prog 26 0 0 0 := ⟨fun b w => by kernel_rfl⟩
instance Zx9 : FaO Tryz.prog 26 1 0 1 := ⟨fun b w => by kernel_rfl⟩
instance Zzb : FaO Tryz.prog 26 2 0 2 := ⟨fun b w => by kernel_rfl⟩
instance Zxp : FaO Tryz.prog 26 3 0 3 := ⟨fun b w => by kernel_rfl⟩
instance ZyH : FaO Tryz.prog 26 4 0 4 := ⟨fun b w => by kernel_rfl⟩
instance ZyK : FaO Tryz.prog 26 5 0 5 := ⟨fun b w => by kernel_rfl⟩
instance Zyl : FaO Tryz.prog 26 6 0 6 := ⟨fun b w => by kernel_rfl⟩
instance ZxW : FaO Tryz.prog 26 7 0 7 := ⟨fun b w => by kernel_rfl⟩
instance Zx7 : FaO Tryz.prog 32 0 0 0 := ⟨fun b w => by kernel_rfl⟩
instance Zxk : FaO Tryz.prog 32 1 0 1 := ⟨fun b w => by kernel_rfl⟩
instance Zy9 : FaO Tryz.prog 35 0 0 0 := ⟨fun b w => by kernel_rfl⟩
instance Zw7 : FaO Tryz.prog 35 1 0 1 := ⟨fun b w => by kernel_rfl⟩
instance Zzf : FaO Tryz.prog 35 1 4 5 := ⟨fun b w => by kernel_rfl⟩
instance Zxg : FaO Tryz.prog 35 2 0 2 := ⟨fun b w => by kernel_rfl⟩
instance Zx4 : FaO Tryz.prog 35 3 0 3 := ⟨fun b w => by kernel_rfl⟩
instance ZxF : FaO Tryz.prog 35 4 0 4 := ⟨fun b w => by kernel_rfl⟩
instance Zx6 : FaO Tryz.prog 35 5 0 5 := ⟨fun b w => by kernel_rfl⟩
instance Zy3 : FaO Tryz.prog 35 5 4 9 := ⟨fun b w => by kernel_rfl⟩
instance ZxB : FaO Tryz.prog 35 6 0 6 := ⟨fun b w => by kernel_rfl⟩
instance Zy1 : FaO Tryz.prog 35 6 4 10 := ⟨fun b w => by kernel_rfl⟩
instance Zxz : FaO Tryz.prog 35 7 0 7 := ⟨fun b w => by kernel_rfl⟩
instance Zyb : FaO Tryz.prog 40 0 0 0 := ⟨fun b w => by kernel_rfl⟩
instance Zym : FaO Tryz.prog 40 1 0 1 := ⟨fun b w => by kernel_rfl⟩
instance ZxY : FaO Tryz.prog 52 0 0 0 := ⟨fun b w => by kernel_rfl⟩
instance ZxO : FaO Tryz.prog 52 1 0 1 := ⟨fun b w => by kernel_rfl⟩
instance ZxL : FaO Tryz.prog 54 0 0 0 := ⟨fun b w => by kernel_rfl⟩
instance Zxu : FaO Tryz.prog 54 1 0 2 := ⟨fun b w => by kernel_rfl⟩
instance ZyI : FaO Tryz.prog 56 0 0 0 := ⟨fun b w => by kernel_rfl⟩
instance Zy4 : FaO Tryz.prog 56 1 0 4 := ⟨fun b w => by kernel_rfl⟩
instance ZyW : FaO Tryz.prog 93 0 0 0 := ⟨fun b w => by kernel_rfl⟩
instance ZxD : FaO Tryz.prog 93 0 4 4 := ⟨fun b w => by kernel_rfl⟩
instance Zxt : FaO Tryz.prog 93 1 0 4 := ⟨fun b w => by kernel_rfl⟩
instance ZxS : FaO Tryz.prog 93 1 4 8 := ⟨fun b w => by kernel_rfl⟩
instance Zxa : FaO Tryz.prog 97 0 0 0 := ⟨fun b w => by kernel_rfl⟩
instance ZyN : FaO Tryz.prog 97 1 0 4 := ⟨fun b w => by kernel_rfl⟩
instance Zxf : FaO Tryz.prog 97 2 0 8 := ⟨fun b w => by kernel_rfl⟩
instance Zvk : FaO Tryz.prog 111 0 0 0 := ⟨fun b w => by kernel_rfl⟩
instance Zw5 : FaO Tryz.prog 111 1 0 9 := ⟨fun b w => by kernel_rfl⟩
instance Zu4 : FaO Tryz.prog 111 2 0 18 := ⟨fun b w => by kernel_rfl⟩
instance Zvu : FaO Tryz.prog 111 3 0 19 := ⟨fun b w => by kernel_rfl⟩
instance Zu7 : FaO Tryz.prog 113 0 0 0 := ⟨fun b w => by kernel_rfl⟩
instance Zwo : FaO Tryz.prog 113 1 0 4 := ⟨fun b w => by kernel_rfl⟩
instance Zv9 : FaO Tryz.prog 113 2 0 8 := ⟨fun b w => by kernel_rfl⟩
instance ZvS : FaO Tryz.prog 113 3 0 12 := ⟨fun b w => by kernel_rfl⟩
instance Zwa : FaO Tryz.prog 115 0 0 0 := ⟨fun b w => by kernel_rfl⟩
instance ZwK : FaO Tryz.prog 115 1 0 20 := ⟨fun b w => by kernel_rfl⟩
instance ZvV : FaO Tryz.prog 122 0 0 0 := ⟨fun b w => by kernel_rfl⟩
instance ZwF : FaO Tryz.prog 122 1 0 1 := ⟨fun b w => by kernel_rfl⟩
instance Zvh : FaO Tryz.prog 122 2 0 2 := ⟨fun b w => by kernel_rfl⟩
instance Zwh : FaO Tryz.prog 122 3 0 3 := ⟨fun b w => by kernel_rfl⟩
instance Zvg : FaO Tryz.prog 122 4 0 4 := ⟨fun b w => by kernel_rfl⟩
instance ZwY : FaO Tryz.prog 125 0 0 0 := ⟨fun b w => by kernel_rfl⟩
instance ZwC : FaO Tryz.prog 125 1 0 1 := ⟨fun b w => by kernel_rfl⟩
instance Zvw : FaO Tryz.prog 125 2 0 2 := ⟨fun b w => by kernel_rfl⟩
instance Zwx : FaO Tryz.prog 125 3 0 3 := ⟨fun b w => by kernel_rfl⟩
instance Zwb : FaO Tryz.prog 125 4 0 4 := ⟨fun b w => by kernel_rfl⟩
instance Zvr : FaO Tryz.prog 125 5 0 5 := ⟨fun b w => by kernel_rfl⟩
instance Zwf : FaO Tryz.prog 143 0 0 0 := ⟨fun b w => by kernel_rfl⟩
instance Zvf : FaO Tryz.prog 143 1 0 4 := ⟨fun b w => by kernel_rfl⟩
instance Zvs : FaO Tryz.prog 164 0 0 0 := ⟨fun b w => by kernel_rfl⟩
instance Zvy : FaO Tryz.prog 164 1 0 4 := ⟨fun b w => by kernel_rfl⟩
instance ZvA : FaO Tryz.prog 164 2 0 8 := ⟨fun b w => by kernel_rfl⟩
instance Zv8 : FaO Tryz.prog 196 0 0 0 := ⟨fun b w => by kernel_rfl⟩
instance ZwP : FaO Tryz.prog 196 1 0 1 := ⟨fun b w => by kernel_rfl⟩
instance ZvQ : FaO Tryz.prog 224 0 0 0 := ⟨fun b w => by kernel_rfl⟩
instance Zwt : FaO Tryz.prog 224 1 0 20 := ⟨fun b w => by kernel_rfl⟩
instance Zvd : FaO Tryz.prog 324 0 0 0 := ⟨fun b w => by kernel_rfl⟩
instance ZwE : FaO Tryz.prog 324 1 0 1 := ⟨fun b w => by kernel_rfl⟩
instance Zwn : FaO Tryz.prog 324 2 0 2 := ⟨fun b w => by kernel_rfl⟩
instance Zu5 (x : Za2) : LdC Tryz.prog 24 (ZI x) 0 (.agg (ZI x)) := ⟨ZQ 3 (by kernel_rfl) (by kernel_rfl) (by kernel_rfl)⟩
instance Zu2 (x : Za2) : LdC Tryz.prog 22 (ZI x) 0 (.slice x.Loads.a x.Loads.len x.Loads.cap) := ⟨Zy (by kernel_rfl) (by kernel_rfl)⟩
instance Zyu (x : Za2) : LdC Tryz.prog 5 (ZI x) 1 (.int .u8 x.Speed) := ⟨Zy (by kernel_rfl) (by kernel_rfl)⟩
instance ZxK (x : Za2) : LdC Tryz.prog 5 (ZI x) 2 (.int .u8 x.Gap) := ⟨Zy (by kernel_rfl) (by kernel_rfl)⟩
instance Zv0 (x : Z8) : LdC Tryz.prog 26 (Z5 x) 0 (.agg (Z5 x)) := ⟨ZQ 8 (by kernel_rfl) (by kernel_rfl) (by kernel_rfl)⟩
instance Zze (x : Z8) : LdC Tryz.prog 5 (Z5 x) 0 (.int .u8 x.Object) := ⟨Zy (by kernel_rfl) (by kernel_rfl)⟩
instance Zyd (x : Z8) : LdC Tryz.prog 5 (Z5 x) 1 (.int .u8 x.Seq) := ⟨Zy (by kernel_rfl) (by kernel_rfl)⟩
instance ZyY (x : Z8) : LdC Tryz.prog 5 (Z5 x) 2 (.int .u8 x.Version) := ⟨Zy (by kernel_rfl) (by kernel_rfl)⟩
instance ZxV (x : Z8) : LdC Tryz.prog 5 (Z5 x) 3 (.int .u8 x.Device) := ⟨Zy (by kernel_rfl) (by kernel_rfl)⟩
instance ZxN (x : Z8) : LdC Tryz.prog 5 (Z5 x) 4 (.int .u8 x.Time) := ⟨Zy (by kernel_rfl) (by kernel_rfl)⟩
instance Zxo (x : Z8) : LdC Tryz.prog 5 (Z5 x) 5 (.int .u8 x.X) := ⟨Zy (by kernel_rfl) (by kernel_rfl)⟩
instance Zy6 (x : Z8) : LdC Tryz.prog 5 (Z5 x) 6 (.int .u8 x.Y) := ⟨Zy (by kernel_rfl) (by kernel_rfl)⟩
instance ZxX (x : Z8) : LdC Tryz.prog 4 (Z5 x) 7 (.bool x.Cancel) := ⟨Zy (by kernel_rfl) (by kernel_rfl)⟩
instance Zvt (x : ZN) : LdC Tryz.prog 32 (Zn x) 0 (.agg (Zn x)) := ⟨ZQ 2 (by kernel_rfl) (by kernel_rfl) (by kernel_rfl)⟩
instance ZxA (x : ZN) : LdC Tryz.prog 3 (Zn x) 0 (.int .i64 x.MaxSpeed) := ⟨Zy (by kernel_rfl) (by kernel_rfl)⟩
instance Zyr (x : ZN) : LdC Tryz.prog 3 (Zn x) 1 (.int .i64 x.MaxGap) := ⟨Zy (by kernel_rfl) (by kernel_rfl)⟩
instance Zw0 (x : Zb) : LdC Tryz.prog 35 (Zc x) 0 (.agg (Zc x)) := ⟨ZQ 8 (by kernel_rfl) (by kernel_rfl) (by kernel_rfl)⟩
instance Zx2 (x : Zb) : LdC Tryz.prog 3 (Zc x) 0 (.int .i64 x.Object) := ⟨Zy (by kernel_rfl) (by kernel_rfl)⟩
instance Zx5 (x : Zb) : LdC Tryz.prog 3 (Zc x) 1 (.int .i64 x.Seq) := ⟨Zy (by kernel_rfl) (by kernel_rfl)⟩
instance ZyE (x : Zb) : LdC Tryz.prog 3 (Zc x) 2 (.int .i64 x.Version) := ⟨Zy (by kernel_rfl) (by kernel_rfl)⟩
instance ZxU (x : Zb) : LdC Tryz.prog 3 (Zc x) 3 (.int .i64 x.Device) := ⟨Zy (by kernel_rfl) (by kernel_rfl)⟩
instance Zyv (x : Zb) : LdC Tryz.prog 3 (Zc x) 4 (.int .i64 x.Time) := ⟨Zy (by kernel_rfl) (by kernel_rfl)⟩
instance Zyy (x : Zb) : LdC Tryz.prog 3 (Zc x) 5 (.int .i64 x.X) := ⟨Zy (by kernel_rfl) (by kernel_rfl)⟩
instance Zxx (x : Zb) : LdC Tryz.prog 3 (Zc x) 6 (.int .i64 x.Y) := ⟨Zy (by kernel_rfl) (by kernel_rfl)⟩
instance Zx3 (x : Zb) : LdC Tryz.prog 4 (Zc x) 7 (.bool x.Cancel) := ⟨Zy (by kernel_rfl) (by kernel_rfl)⟩
instance ZwL (x : Zar) : LdC Tryz.prog 40 (Zp x) 0 (.agg (Zp x)) := ⟨ZQ 2 (by kernel_rfl) (by kernel_rfl) (by kernel_rfl)⟩
instance ZwH (x : Zar) : LdC Tryz.prog 37 (Zp x) 0 (.slice x.Reports.a x.Reports.len x.Reports.cap) := ⟨Zy (by kernel_rfl) (by kernel_rfl)⟩
instance Zvl (x : Zar) : LdC Tryz.prog 38 (Zp x) 1 (.slice x.Exchanges.a x.Exchanges.len x.Exchanges.cap) := ⟨Zy (by kernel_rfl) (by kernel_rfl)⟩
instance Zwr (x : Zan) : LdC Tryz.prog 52 (ZP x) 0 (.agg (ZP x)) := ⟨ZQ 2 (by kernel_rfl) (by kernel_rfl) (by kernel_rfl)⟩
instance Zxd (x : Zan) : LdC Tryz.prog 4 (ZP x) 0 (.bool x.Neg) := ⟨Zy (by kernel_rfl) (by kernel_rfl)⟩
instance Zyj (x : Zan) : LdC Tryz.prog 9 (ZP x) 1 (.string x.Mag) := ⟨Zy (by kernel_rfl) (by kernel_rfl)⟩
instance Zwc (x : Z9) : LdC Tryz.prog 54 (Zx x) 0 (.agg (Zx x)) := ⟨ZQ 4 (by kernel_rfl) (by kernel_rfl) (by kernel_rfl)⟩
instance Zu1 (x : Z9) : LdC Tryz.prog 52 (Zx x) 0 (.agg (ZP x.Num)) := ⟨ZQ 2 (by kernel_rfl) (by kernel_rfl) (by kernel_rfl)⟩
instance ZvF (x : Z9) : LdC Tryz.prog 52 (Zx x) 2 (.agg (ZP x.Den)) := ⟨ZQ 2 (by kernel_rfl) (by kernel_rfl) (by kernel_rfl)⟩
instance ZwS (x : Zb1) : LdC Tryz.prog 35 (ZJ x) 4 (.agg (Zc x.Report)) := ⟨ZQ 8 (by kernel_rfl) (by kernel_rfl) (by kernel_rfl)⟩
instance ZyD (x : ZaB) : LdC Tryz.prog 3 (Zaa x) 0 (.int .i64 x.Id) := ⟨Zy (by kernel_rfl) (by kernel_rfl)⟩
instance Zvj (x : ZaB) : LdC Tryz.prog 58 (Zaa x) 1 (.slice x.Units.a x.Units.len x.Units.cap) := ⟨Zy (by kernel_rfl) (by kernel_rfl)⟩
instance Zt0 (x : ZU) : LdC Tryz.prog 117 (Zaj x) 0 (.slice x.Pings.a x.Pings.len x.Pings.cap) := ⟨Zy (by kernel_rfl) (by kernel_rfl)⟩
instance Ztk (x : ZU) : LdC Tryz.prog 118 (Zaj x) 1 (.slice x.Calls.a x.Calls.len x.Calls.cap) := ⟨Zy (by kernel_rfl) (by kernel_rfl)⟩
instance Ztb (x : Za) : LdC Tryz.prog 122 (Zd x) 0 (.agg (Zd x)) := ⟨ZQ 5 (by kernel_rfl) (by kernel_rfl) (by kernel_rfl)⟩
instance ZwU (x : Za) : LdC Tryz.prog 3 (Zd x) 0 (.int .i64 x.From) := ⟨Zy (by kernel_rfl) (by kernel_rfl)⟩
instance Zvz (x : Za) : LdC Tryz.prog 3 (Zd x) 1 (.int .i64 x.To) := ⟨Zy (by kernel_rfl) (by kernel_rfl)⟩
instance Zws (x : Za) : LdC Tryz.prog 3 (Zd x) 2 (.int .i64 x.Sent) := ⟨Zy (by kernel_rfl) (by kernel_rfl)⟩
instance Zu3 (x : Za) : LdC Tryz.prog 3 (Zd x) 3 (.int .i64 x.Received) := ⟨Zy (by kernel_rfl) (by kernel_rfl)⟩
instance ZwO (x : Za) : LdC Tryz.prog 3 (Zd x) 4 (.int .i64 x.Least) := ⟨Zy (by kernel_rfl) (by kernel_rfl)⟩
instance Zs1 (x : Zai) : LdC Tryz.prog 125 (Zaf x) 0 (.agg (Zaf x)) := ⟨ZQ 6 (by kernel_rfl) (by kernel_rfl) (by kernel_rfl)⟩
instance ZvN (x : Zai) : LdC Tryz.prog 5 (Zaf x) 0 (.int .u8 x.From) := ⟨Zy (by kernel_rfl) (by kernel_rfl)⟩
instance ZwI (x : Zai) : LdC Tryz.prog 5 (Zaf x) 1 (.int .u8 x.To) := ⟨Zy (by kernel_rfl) (by kernel_rfl)⟩
instance Zvc (x : Zai) : LdC Tryz.prog 5 (Zaf x) 2 (.int .u8 x.Sent) := ⟨Zy (by kernel_rfl) (by kernel_rfl)⟩
instance Zw6 (x : Zai) : LdC Tryz.prog 5 (Zaf x) 3 (.int .u8 x.Delay) := ⟨Zy (by kernel_rfl) (by kernel_rfl)⟩
instance ZvI (x : Zai) : LdC Tryz.prog 5 (Zaf x) 4 (.int .u8 x.Least) := ⟨Zy (by kernel_rfl) (by kernel_rfl)⟩
instance Zw1 (x : Zai) : LdC Tryz.prog 4 (Zaf x) 5 (.bool x.Wrong) := ⟨Zy (by kernel_rfl) (by kernel_rfl)⟩
instance Ztz (x : ZA) : LdC Tryz.prog 133 (ZX x) 0 (.agg (ZX x)) := ⟨ZQ 2 (by kernel_rfl) (by kernel_rfl) (by kernel_rfl)⟩
instance ZtP (x : Zbw) : LdC Tryz.prog 196 (Zal x) 0 (.agg (Zal x)) := ⟨ZQ 2 (by kernel_rfl) (by kernel_rfl) (by kernel_rfl)⟩
instance ZvU (x : Zbw) : LdC Tryz.prog 3 (Zal x) 0 (.int .i64 x.Low) := ⟨Zy (by kernel_rfl) (by kernel_rfl)⟩
instance ZvW (x : Zbw) : LdC Tryz.prog 3 (Zal x) 1 (.int .i64 x.High) := ⟨Zy (by kernel_rfl) (by kernel_rfl)⟩
instance Zs4 (x : Za8) : LdC Tryz.prog 324 (ZL x) 0 (.agg (ZL x)) := ⟨ZQ 3 (by kernel_rfl) (by kernel_rfl) (by kernel_rfl)⟩
instance ZuD (x : Za8) : LdC Tryz.prog 38 (ZL x) 0 (.slice x.l.a x.l.len x.l.cap) := ⟨Zy (by kernel_rfl) (by kernel_rfl)⟩
instance Ztt (x : Za8) : LdC Tryz.prog 106 (ZL x) 1 (.slice x.some.a x.some.len x.some.cap) := ⟨Zy (by kernel_rfl) (by kernel_rfl)⟩
instance ZwM (x : Za8) : LdC Tryz.prog 3 (ZL x) 2 (.int .i64 x.size) := ⟨Zy (by kernel_rfl) (by kernel_rfl)⟩
instance Zxe (x0 : Int) (x1 : Int) : BdC Tryz.prog 32 [(0, .int .i64 x0), (1, .int .i64 x1)] (.agg (Zn ⟨x0, x1⟩)) := ⟨fun w => by kernel_rfl⟩
instance ZlH (x0 : Int) (x1 : Int) (x2 : Int) (x3 : Int) (x4 : Int) (x5 : Int) (x6 : Int) (x7 : Bool) : BdC Tryz.prog 35 [(0, .int .i64 x0), (1, .int .i64 x1), (2, .int .i64 x2), (3, .int .i64 x3), (4, .int .i64 x4), (5, .int .i64 x5), (6, .int .i64 x6), (7, .bool x7)] (.agg (Zc ⟨x0, x1, x2, x3, x4, x5, x6, x7⟩)) := ⟨fun w => by kernel_rfl⟩
instance ZqP (x0 : Int) (x1 : Int) (x4 : Int) (x5 : Int) (x6 : Int) : BdC Tryz.prog 35 [(0, .int .i64 x0), (1, .int .i64 x1), (4, .int .i64 x4), (5, .int .i64 x5), (6, .int .i64 x6)] (.agg (Zc ⟨x0, x1, 0, 0, x4, x5, x6, false⟩)) := ⟨fun w => by kernel_rfl⟩
instance ZFu (x0 : Option Addr) (x0l x0c : Nat) : BdC Tryz.prog 40 [(0, .slice x0 x0l x0c)] (.agg (Zp ⟨⟨x0, x0l, x0c⟩, ⟨none, 0, 0⟩⟩)) := ⟨fun w => by kernel_rfl⟩
instance ZHt : BdC Tryz.prog 52 [] (.agg (ZP ZaP)) := ⟨fun w => by kernel_rfl⟩
instance Zxj (x0 : Bool) (x1 : ByteArray) : BdC Tryz.prog 52 [(0, .bool x0), (1, .string x1)] (.agg (ZP ⟨x0, x1⟩)) := ⟨fun w => by kernel_rfl⟩
instance ZHR : BdC Tryz.prog 54 [] (.agg (Zx ZbY)) := ⟨fun w => by kernel_rfl⟩
instance ZEa (x0 : Zan) : BdC Tryz.prog 54 [(0, .agg (ZP x0))] (.agg (Zx ⟨x0, ZaP⟩)) := ⟨fun w => by kernel_rfl⟩
instance Zyg (x0 : Zan) (x1 : Zan) : BdC Tryz.prog 54 [(0, .agg (ZP x0)), (1, .agg (ZP x1))] (.agg (Zx ⟨x0, x1⟩)) := ⟨fun w => by kernel_rfl⟩
instance Zxh (x0 : Int) (x1 : Option Addr) (x1l x1c : Nat) : BdC Tryz.prog 82 [(0, .int .i64 x0), (1, .slice x1 x1l x1c)] (.agg (Zaa ⟨x0, ⟨x1, x1l, x1c⟩⟩)) := ⟨fun w => by kernel_rfl⟩
instance Zo7 (x0 : Int) (x1 : Int) (x2 : Int) (x3 : Int) (x4 : Int) : BdC Tryz.prog 122 [(0, .int .i64 x0), (1, .int .i64 x1), (2, .int .i64 x2), (3, .int .i64 x3), (4, .int .i64 x4)] (.agg (Zd ⟨x0, x1, x2, x3, x4⟩)) := ⟨fun w => by kernel_rfl⟩
instance ZvG (x0 : Int) (x1 : Int) : BdC Tryz.prog 133 [(0, .int .i64 x0), (1, .int .i64 x1)] (.agg (ZX ⟨x0, x1⟩)) := ⟨fun w => by kernel_rfl⟩
instance ZE4 : BdC Tryz.prog 196 [] (.agg (Zal ZcP)) := ⟨fun w => by kernel_rfl⟩
instance ZvT (x0 : Int) (x1 : Int) : BdC Tryz.prog 196 [(0, .int .i64 x0), (1, .int .i64 x1)] (.agg (Zal ⟨x0, x1⟩)) := ⟨fun w => by kernel_rfl⟩
instance ZwG (x0 : Option Addr) (x0l x0c : Nat) (x2 : Int) : BdC Tryz.prog 324 [(0, .slice x0 x0l x0c), (2, .int .i64 x2)] (.agg (ZL ⟨⟨x0, x0l, x0c⟩, ⟨none, 0, 0⟩, x2⟩)) := ⟨fun w => by kernel_rfl⟩
theorem Zk7 (d : Nat) (w : World) (x y : Zb) : (Op.equalIn (d + 2) 35 (.agg (Zc x)) (.agg (Zc y))).run Tryz.prog w = .ok (decide (x = y)) w := by
 have p0 : ∀ (z : Zb) (u : World), (part 3 (Zc z) 0).run Tryz.prog u = .ok (.int .i64 z.Object) u := fun _ _ => by kernel_rfl
 have q0 : ∀ (u : World), (Op.equalIn (d + 1) 3 (.int .i64 x.Object) (.int .i64 y.Object)).run Tryz.prog u = .ok (decide (x.Object = y.Object)) u := fun u => by rw [run_equalIn_int u (d + 0) 3 .i64 .i64 _ _ (by kernel_rfl), ZaN]
 have p1 : ∀ (z : Zb) (u : World), (part 3 (Zc z) 1).run Tryz.prog u = .ok (.int .i64 z.Seq) u := fun _ _ => by kernel_rfl
 have q1 : ∀ (u : World), (Op.equalIn (d + 1) 3 (.int .i64 x.Seq) (.int .i64 y.Seq)).run Tryz.prog u = .ok (decide (x.Seq = y.Seq)) u := fun u => by rw [run_equalIn_int u (d + 0) 3 .i64 .i64 _ _ (by kernel_rfl), ZaN]
 have p2 : ∀ (z : Zb) (u : World), (part 3 (Zc z) 2).run Tryz.prog u = .ok (.int .i64 z.Version) u := fun _ _ => by kernel_rfl
 have q2 : ∀ (u : World), (Op.equalIn (d + 1) 3 (.int .i64 x.Version) (.int .i64 y.Version)).run Tryz.prog u = .ok (decide (x.Version = y.Version)) u := fun u => by rw [run_equalIn_int u (d + 0) 3 .i64 .i64 _ _ (by kernel_rfl), ZaN]
 have p3 : ∀ (z : Zb) (u : World), (part 3 (Zc z) 3).run Tryz.prog u = .ok (.int .i64 z.Device) u := fun _ _ => by kernel_rfl
 have q3 : ∀ (u : World), (Op.equalIn (d + 1) 3 (.int .i64 x.Device) (.int .i64 y.Device)).run Tryz.prog u = .ok (decide (x.Device = y.Device)) u := fun u => by rw [run_equalIn_int u (d + 0) 3 .i64 .i64 _ _ (by kernel_rfl), ZaN]
 have p4 : ∀ (z : Zb) (u : World), (part 3 (Zc z) 4).run Tryz.prog u = .ok (.int .i64 z.Time) u := fun _ _ => by kernel_rfl
 have q4 : ∀ (u : World), (Op.equalIn (d + 1) 3 (.int .i64 x.Time) (.int .i64 y.Time)).run Tryz.prog u = .ok (decide (x.Time = y.Time)) u := fun u => by rw [run_equalIn_int u (d + 0) 3 .i64 .i64 _ _ (by kernel_rfl), ZaN]
 have p5 : ∀ (z : Zb) (u : World), (part 3 (Zc z) 5).run Tryz.prog u = .ok (.int .i64 z.X) u := fun _ _ => by kernel_rfl
 have q5 : ∀ (u : World), (Op.equalIn (d + 1) 3 (.int .i64 x.X) (.int .i64 y.X)).run Tryz.prog u = .ok (decide (x.X = y.X)) u := fun u => by rw [run_equalIn_int u (d + 0) 3 .i64 .i64 _ _ (by kernel_rfl), ZaN]
 have p6 : ∀ (z : Zb) (u : World), (part 3 (Zc z) 6).run Tryz.prog u = .ok (.int .i64 z.Y) u := fun _ _ => by kernel_rfl
 have q6 : ∀ (u : World), (Op.equalIn (d + 1) 3 (.int .i64 x.Y) (.int .i64 y.Y)).run Tryz.prog u = .ok (decide (x.Y = y.Y)) u := fun u => by rw [run_equalIn_int u (d + 0) 3 .i64 .i64 _ _ (by kernel_rfl), ZaN]
 have p7 : ∀ (z : Zb) (u : World), (part 4 (Zc z) 7).run Tryz.prog u = .ok (.bool z.Cancel) u := fun _ _ => by kernel_rfl
 have q7 : ∀ (u : World), (Op.equalIn (d + 1) 4 (.bool x.Cancel) (.bool y.Cancel)).run Tryz.prog u = .ok (decide (x.Cancel = y.Cancel)) u := fun u => by rw [run_equalIn_bool' u (d + 0) 4 _ _ (by kernel_rfl), ZdL]
 have hf : (Tryz.prog.fieldsOf 35).toList = [{ name := "Object", type := 3, offset := 0, embedded := false, tag := "", pkgPath := "", byteOffset := 0 }, { name := "Seq", type := 3, offset := 1, embedded := false, tag := "", pkgPath := "", byteOffset := 8 }, { name := "Version", type := 3, offset := 2, embedded := false, tag := "", pkgPath := "", byteOffset := 16 }, { name := "Device", type := 3, offset := 3, embedded := false, tag := "", pkgPath := "", byteOffset := 24 }, { name := "Time", type := 3, offset := 4, embedded := false, tag := "", pkgPath := "", byteOffset := 32 }, { name := "X", type := 3, offset := 5, embedded := false, tag := "", pkgPath := "", byteOffset := 40 }, { name := "Y", type := 3, offset := 6, embedded := false, tag := "", pkgPath := "", byteOffset := 48 }, { name := "Cancel", type := 4, offset := 7, embedded := false, tag := "", pkgPath := "", byteOffset := 56 }] := by kernel_rfl
 rw [run_equalIn_struct w (d + 1) 35 _ _ (by kernel_rfl) (by kernel_rfl), hf]
 have hx : x = y ↔ (x.Object = y.Object ∧ x.Seq = y.Seq ∧ x.Version = y.Version ∧ x.Device = y.Device ∧ x.Time = y.Time ∧ x.X = y.X ∧ x.Y = y.Y ∧ x.Cancel = y.Cancel) := by cases x; cases y; simp
 simp only [Op.eqFields, Sem.run_bind, Result.andThen_ok, Sem.run_ite, Sem.run_pure, p0, p1, p2, p3, p4, p5, p6, p7, q0, q1, q2, q3, q4, q5, q6, q7]
 by_cases h0 : x.Object = y.Object <;> by_cases h1 : x.Seq = y.Seq <;> by_cases h2 : x.Version = y.Version <;> by_cases h3 : x.Device = y.Device <;> by_cases h4 : x.Time = y.Time <;> by_cases h5 : x.X = y.X <;> by_cases h6 : x.Y = y.Y <;> by_cases h7 : x.Cancel = y.Cancel <;> simp [hx, h0, h1, h2, h3, h4, h5, h6, h7]
instance ZHs (x y : Zb) : BinC Tryz.prog .eql 35 (.agg (Zc x)) (.agg (Zc y)) (.bool (decide (x = y))) := ⟨fun a b w => run_eqGuard_agg w _ _ _ _ _ _ (by kernel_rfl), fun w => by rw [run_eql_struct, Zk7 9998]; rfl⟩
instance ZHU (x y : Zb) : BinC Tryz.prog .neq 35 (.agg (Zc x)) (.agg (Zc y)) (.bool (!decide (x = y))) := ⟨fun a b w => run_eqGuard_agg w _ _ _ _ _ _ (by kernel_rfl), fun w => by rw [run_neq_struct, Zk7 9998]; rfl⟩
theorem ZfC (d : Nat) (w : World) (x y : Zan) : (Op.equalIn (d + 2) 52 (.agg (ZP x)) (.agg (ZP y))).run Tryz.prog w = .ok (decide (x = y)) w := by
 have p0 : ∀ (z : Zan) (u : World), (part 4 (ZP z) 0).run Tryz.prog u = .ok (.bool z.Neg) u := fun _ _ => by kernel_rfl
 have q0 : ∀ (u : World), (Op.equalIn (d + 1) 4 (.bool x.Neg) (.bool y.Neg)).run Tryz.prog u = .ok (decide (x.Neg = y.Neg)) u := fun u => by rw [run_equalIn_bool' u (d + 0) 4 _ _ (by kernel_rfl), ZdL]
 have p1 : ∀ (z : Zan) (u : World), (part 9 (ZP z) 1).run Tryz.prog u = .ok (.string z.Mag) u := fun _ _ => by kernel_rfl
 have q1 : ∀ (u : World), (Op.equalIn (d + 1) 9 (.string x.Mag) (.string y.Mag)).run Tryz.prog u = .ok (decide (x.Mag = y.Mag)) u := fun u => by rw [run_equalIn_string u (d + 0) 9 _ _ (by kernel_rfl), ← beq_toListBytes, Zgs]
 have hf : (Tryz.prog.fieldsOf 52).toList = [{ name := "Neg", type := 4, offset := 0, embedded := false, tag := "", pkgPath := "", byteOffset := 0 }, { name := "Mag", type := 9, offset := 1, embedded := false, tag := "", pkgPath := "", byteOffset := 8 }] := by kernel_rfl
 rw [run_equalIn_struct w (d + 1) 52 _ _ (by kernel_rfl) (by kernel_rfl), hf]
 have hx : x = y ↔ (x.Neg = y.Neg ∧ x.Mag = y.Mag) := by cases x; cases y; simp
 simp only [Op.eqFields, Sem.run_bind, Result.andThen_ok, Sem.run_ite, Sem.run_pure, p0, p1, q0, q1]
 by_cases h0 : x.Neg = y.Neg <;> by_cases h1 : x.Mag = y.Mag <;> simp [hx, h0, h1]
instance ZGE (x y : Zan) : BinC Tryz.prog .eql 52 (.agg (ZP x)) (.agg (ZP y)) (.bool (decide (x = y))) := ⟨fun a b w => run_eqGuard_agg w _ _ _ _ _ _ (by kernel_rfl), fun w => by rw [run_eql_struct, ZfC 9998]; rfl⟩
instance ZGW (x y : Zan) : BinC Tryz.prog .neq 52 (.agg (ZP x)) (.agg (ZP y)) (.bool (!decide (x = y))) := ⟨fun a b w => run_eqGuard_agg w _ _ _ _ _ _ (by kernel_rfl), fun w => by rw [run_neq_struct, ZfC 9998]; rfl⟩
theorem Zby (d : Nat) (w : World) (x y : Z9) : (Op.equalIn (d + 3) 54 (.agg (Zx x)) (.agg (Zx y))).run Tryz.prog w = .ok (decide (x = y)) w := by
 have p0 : ∀ (z : Z9) (u : World), (part 52 (Zx z) 0).run Tryz.prog u = .ok (.agg (ZP z.Num)) u := fun _ _ => by kernel_rfl
 have q0 : ∀ (u : World), (Op.equalIn (d + 2) 52 (.agg (ZP x.Num)) (.agg (ZP y.Num))).run Tryz.prog u = .ok (decide (x.Num = y.Num)) u := fun u => ZfC (d + 0) u _ _
 have p1 : ∀ (z : Z9) (u : World), (part 52 (Zx z) 2).run Tryz.prog u = .ok (.agg (ZP z.Den)) u := fun _ _ => by kernel_rfl
 have q1 : ∀ (u : World), (Op.equalIn (d + 2) 52 (.agg (ZP x.Den)) (.agg (ZP y.Den))).run Tryz.prog u = .ok (decide (x.Den = y.Den)) u := fun u => ZfC (d + 0) u _ _
 have hf : (Tryz.prog.fieldsOf 54).toList = [{ name := "Num", type := 52, offset := 0, embedded := false, tag := "", pkgPath := "", byteOffset := 0 }, { name := "Den", type := 52, offset := 2, embedded := false, tag := "", pkgPath := "", byteOffset := 24 }] := by kernel_rfl
 rw [run_equalIn_struct w (d + 2) 54 _ _ (by kernel_rfl) (by kernel_rfl), hf]
 have hx : x = y ↔ (x.Num = y.Num ∧ x.Den = y.Den) := by cases x; cases y; simp
 simp only [Op.eqFields, Sem.run_bind, Result.andThen_ok, Sem.run_ite, Sem.run_pure, p0, p1, q0, q1]
 by_cases h0 : x.Num = y.Num <;> by_cases h1 : x.Den = y.Den <;> simp [hx, h0, h1]
instance ZHk (x y : Z9) : BinC Tryz.prog .eql 54 (.agg (Zx x)) (.agg (Zx y)) (.bool (decide (x = y))) := ⟨fun a b w => run_eqGuard_agg w _ _ _ _ _ _ (by kernel_rfl), fun w => by rw [run_eql_struct, Zby 9997]; rfl⟩
instance ZHp (x y : Z9) : BinC Tryz.prog .neq 54 (.agg (Zx x)) (.agg (Zx y)) (.bool (!decide (x = y))) := ⟨fun a b w => run_eqGuard_agg w _ _ _ _ _ _ (by kernel_rfl), fun w => by rw [run_neq_struct, Zby 9997]; rfl⟩
theorem Zhd (d : Nat) (w : World) (x y : ZaS) : (Op.equalIn (d + 4) 97 (.agg (Zz x)) (.agg (Zz y))).run Tryz.prog w = .ok (decide (x = y)) w := by
 have p0 : ∀ (z : ZaS) (u : World), (part 54 (Zz z) 0).run Tryz.prog u = .ok (.agg (Zx z.P)) u := fun _ _ => by kernel_rfl
 have q0 : ∀ (u : World), (Op.equalIn (d + 3) 54 (.agg (Zx x.P)) (.agg (Zx y.P))).run Tryz.prog u = .ok (decide (x.P = y.P)) u := fun u => Zby (d + 0) u _ _
 have p1 : ∀ (z : ZaS) (u : World), (part 54 (Zz z) 4).run Tryz.prog u = .ok (.agg (Zx z.R)) u := fun _ _ => by kernel_rfl
 have q1 : ∀ (u : World), (Op.equalIn (d + 3) 54 (.agg (Zx x.R)) (.agg (Zx y.R))).run Tryz.prog u = .ok (decide (x.R = y.R)) u := fun u => Zby (d + 0) u _ _
 have p2 : ∀ (z : ZaS) (u : World), (part 4 (Zz z) 8).run Tryz.prog u = .ok (.bool z.Neg) u := fun _ _ => by kernel_rfl
 have q2 : ∀ (u : World), (Op.equalIn (d + 3) 4 (.bool x.Neg) (.bool y.Neg)).run Tryz.prog u = .ok (decide (x.Neg = y.Neg)) u := fun u => by rw [run_equalIn_bool' u (d + 2) 4 _ _ (by kernel_rfl), ZdL]
 have hf : (Tryz.prog.fieldsOf 97).toList = [{ name := "P", type := 54, offset := 0, embedded := false, tag := "", pkgPath := "", byteOffset := 0 }, { name := "R", type := 54, offset := 4, embedded := false, tag := "", pkgPath := "", byteOffset := 48 }, { name := "Neg", type := 4, offset := 8, embedded := false, tag := "", pkgPath := "", byteOffset := 96 }] := by kernel_rfl
 rw [run_equalIn_struct w (d + 3) 97 _ _ (by kernel_rfl) (by kernel_rfl), hf]
 have hx : x = y ↔ (x.P = y.P ∧ x.R = y.R ∧ x.Neg = y.Neg) := by cases x; cases y; simp
 simp only [Op.eqFields, Sem.run_bind, Result.andThen_ok, Sem.run_ite, Sem.run_pure, p0, p1, p2, q0, q1, q2]
 by_cases h0 : x.P = y.P <;> by_cases h1 : x.R = y.R <;> by_cases h2 : x.Neg = y.Neg <;> simp [hx, h0, h1, h2]
instance ZHj (x y : ZaS) : BinC Tryz.prog .eql 97 (.agg (Zz x)) (.agg (Zz y)) (.bool (decide (x = y))) := ⟨fun a b w => run_eqGuard_agg w _ _ _ _ _ _ (by kernel_rfl), fun w => by rw [run_eql_struct, Zhd 9996]; rfl⟩
theorem ZiN (d : Nat) (w : World) (x y : Zaw) : (Op.equalIn (d + 5) 111 (.agg (Zw x)) (.agg (Zw y))).run Tryz.prog w = .ok (decide (x = y)) w := by
 have p0 : ∀ (z : Zaw) (u : World), (part 97 (Zw z) 0).run Tryz.prog u = .ok (.agg (Zz z.From)) u := fun _ _ => by kernel_rfl
 have q0 : ∀ (u : World), (Op.equalIn (d + 4) 97 (.agg (Zz x.From)) (.agg (Zz y.From))).run Tryz.prog u = .ok (decide (x.From = y.From)) u := fun u => Zhd (d + 0) u _ _
 have p1 : ∀ (z : Zaw) (u : World), (part 97 (Zw z) 9).run Tryz.prog u = .ok (.agg (Zz z.To)) u := fun _ _ => by kernel_rfl
 have q1 : ∀ (u : World), (Op.equalIn (d + 4) 97 (.agg (Zz x.To)) (.agg (Zz y.To))).run Tryz.prog u = .ok (decide (x.To = y.To)) u := fun u => Zhd (d + 0) u _ _
 have p2 : ∀ (z : Zaw) (u : World), (part 4 (Zw z) 18).run Tryz.prog u = .ok (.bool z.OpenFrom) u := fun _ _ => by kernel_rfl
 have q2 : ∀ (u : World), (Op.equalIn (d + 4) 4 (.bool x.OpenFrom) (.bool y.OpenFrom)).run Tryz.prog u = .ok (decide (x.OpenFrom = y.OpenFrom)) u := fun u => by rw [run_equalIn_bool' u (d + 3) 4 _ _ (by kernel_rfl), ZdL]
 have p3 : ∀ (z : Zaw) (u : World), (part 4 (Zw z) 19).run Tryz.prog u = .ok (.bool z.OpenTo) u := fun _ _ => by kernel_rfl
 have q3 : ∀ (u : World), (Op.equalIn (d + 4) 4 (.bool x.OpenTo) (.bool y.OpenTo)).run Tryz.prog u = .ok (decide (x.OpenTo = y.OpenTo)) u := fun u => by rw [run_equalIn_bool' u (d + 3) 4 _ _ (by kernel_rfl), ZdL]
 have hf : (Tryz.prog.fieldsOf 111).toList = [{ name := "From", type := 97, offset := 0, embedded := false, tag := "", pkgPath := "", byteOffset := 0 }, { name := "To", type := 97, offset := 9, embedded := false, tag := "", pkgPath := "", byteOffset := 104 }, { name := "OpenFrom", type := 4, offset := 18, embedded := false, tag := "", pkgPath := "", byteOffset := 208 }, { name := "OpenTo", type := 4, offset := 19, embedded := false, tag := "", pkgPath := "", byteOffset := 209 }] := by kernel_rfl
 rw [run_equalIn_struct w (d + 4) 111 _ _ (by kernel_rfl) (by kernel_rfl), hf]
 have hx : x = y ↔ (x.From = y.From ∧ x.To = y.To ∧ x.OpenFrom = y.OpenFrom ∧ x.OpenTo = y.OpenTo) := by cases x; cases y; simp
 simp only [Op.eqFields, Sem.run_bind, Result.andThen_ok, Sem.run_ite, Sem.run_pure, p0, p1, p2, p3, q0, q1, q2, q3]
 by_cases h0 : x.From = y.From <;> by_cases h1 : x.To = y.To <;> by_cases h2 : x.OpenFrom = y.OpenFrom <;> by_cases h3 : x.OpenTo = y.OpenTo <;> simp [hx, h0, h1, h2, h3]
instance ZFW (x y : Zaw) : BinC Tryz.prog .eql 111 (.agg (Zw x)) (.agg (Zw y)) (.bool (decide (x = y))) := ⟨fun a b w => run_eqGuard_agg w _ _ _ _ _ _ (by kernel_rfl), fun w => by rw [run_eql_struct, ZiN 9995]; rfl⟩
theorem Zjl (d : Nat) (w : World) (x y : ZaZ) : (Op.equalIn (d + 4) 113 (.agg (ZW x)) (.agg (ZW y))).run Tryz.prog w = .ok (decide (x = y)) w := by
 have p0 : ∀ (z : ZaZ) (u : World), (part 54 (ZW z) 0).run Tryz.prog u = .ok (.agg (Zx z.X0)) u := fun _ _ => by kernel_rfl
 have q0 : ∀ (u : World), (Op.equalIn (d + 3) 54 (.agg (Zx x.X0)) (.agg (Zx y.X0))).run Tryz.prog u = .ok (decide (x.X0 = y.X0)) u := fun u => Zby (d + 0) u _ _
 have p1 : ∀ (z : ZaZ) (u : World), (part 54 (ZW z) 4).run Tryz.prog u = .ok (.agg (Zx z.X1)) u := fun _ _ => by kernel_rfl
 have q1 : ∀ (u : World), (Op.equalIn (d + 3) 54 (.agg (Zx x.X1)) (.agg (Zx y.X1))).run Tryz.prog u = .ok (decide (x.X1 = y.X1)) u := fun u => Zby (d + 0) u _ _
 have p2 : ∀ (z : ZaZ) (u : World), (part 54 (ZW z) 8).run Tryz.prog u = .ok (.agg (Zx z.Y0)) u := fun _ _ => by kernel_rfl
 have q2 : ∀ (u : World), (Op.equalIn (d + 3) 54 (.agg (Zx x.Y0)) (.agg (Zx y.Y0))).run Tryz.prog u = .ok (decide (x.Y0 = y.Y0)) u := fun u => Zby (d + 0) u _ _
 have p3 : ∀ (z : ZaZ) (u : World), (part 54 (ZW z) 12).run Tryz.prog u = .ok (.agg (Zx z.Y1)) u := fun _ _ => by kernel_rfl
 have q3 : ∀ (u : World), (Op.equalIn (d + 3) 54 (.agg (Zx x.Y1)) (.agg (Zx y.Y1))).run Tryz.prog u = .ok (decide (x.Y1 = y.Y1)) u := fun u => Zby (d + 0) u _ _
 have hf : (Tryz.prog.fieldsOf 113).toList = [{ name := "X0", type := 54, offset := 0, embedded := false, tag := "", pkgPath := "", byteOffset := 0 }, { name := "X1", type := 54, offset := 4, embedded := false, tag := "", pkgPath := "", byteOffset := 48 }, { name := "Y0", type := 54, offset := 8, embedded := false, tag := "", pkgPath := "", byteOffset := 96 }, { name := "Y1", type := 54, offset := 12, embedded := false, tag := "", pkgPath := "", byteOffset := 144 }] := by kernel_rfl
 rw [run_equalIn_struct w (d + 3) 113 _ _ (by kernel_rfl) (by kernel_rfl), hf]
 have hx : x = y ↔ (x.X0 = y.X0 ∧ x.X1 = y.X1 ∧ x.Y0 = y.Y0 ∧ x.Y1 = y.Y1) := by cases x; cases y; simp
 simp only [Op.eqFields, Sem.run_bind, Result.andThen_ok, Sem.run_ite, Sem.run_pure, p0, p1, p2, p3, q0, q1, q2, q3]
 by_cases h0 : x.X0 = y.X0 <;> by_cases h1 : x.X1 = y.X1 <;> by_cases h2 : x.Y0 = y.Y0 <;> by_cases h3 : x.Y1 = y.Y1 <;> simp [hx, h0, h1, h2, h3]
instance ZDR (x y : ZaZ) : BinC Tryz.prog .eql 113 (.agg (ZW x)) (.agg (ZW y)) (.bool (decide (x = y))) := ⟨fun a b w => run_eqGuard_agg w _ _ _ _ _ _ (by kernel_rfl), fun w => by rw [run_eql_struct, Zjl 9996]; rfl⟩
theorem ZpC (d : Nat) (w : World) (x y : ZaO) : (Op.equalIn (d + 6) 115 (.agg (ZS x)) (.agg (ZS y))).run Tryz.prog w = .ok (decide (x = y)) w := by
 have p0 : ∀ (z : ZaO) (u : World), (part 111 (ZS z) 0).run Tryz.prog u = .ok (.agg (Zw z.In)) u := fun _ _ => by kernel_rfl
 have q0 : ∀ (u : World), (Op.equalIn (d + 5) 111 (.agg (Zw x.In)) (.agg (Zw y.In))).run Tryz.prog u = .ok (decide (x.In = y.In)) u := fun u => ZiN (d + 0) u _ _
 have p1 : ∀ (z : ZaO) (u : World), (part 113 (ZS z) 20).run Tryz.prog u = .ok (.agg (ZW z.F)) u := fun _ _ => by kernel_rfl
 have q1 : ∀ (u : World), (Op.equalIn (d + 5) 113 (.agg (ZW x.F)) (.agg (ZW y.F))).run Tryz.prog u = .ok (decide (x.F = y.F)) u := fun u => Zjl (d + 1) u _ _
 have hf : (Tryz.prog.fieldsOf 115).toList = [{ name := "In", type := 111, offset := 0, embedded := false, tag := "", pkgPath := "", byteOffset := 0 }, { name := "F", type := 113, offset := 20, embedded := false, tag := "", pkgPath := "", byteOffset := 216 }] := by kernel_rfl
 rw [run_equalIn_struct w (d + 5) 115 _ _ (by kernel_rfl) (by kernel_rfl), hf]
 have hx : x = y ↔ (x.In = y.In ∧ x.F = y.F) := by cases x; cases y; simp
 simp only [Op.eqFields, Sem.run_bind, Result.andThen_ok, Sem.run_ite, Sem.run_pure, p0, p1, q0, q1]
 by_cases h0 : x.In = y.In <;> by_cases h1 : x.F = y.F <;> simp [hx, h0, h1]
instance ZES (x y : ZaO) : BinC Tryz.prog .neq 115 (.agg (ZS x)) (.agg (ZS y)) (.bool (!decide (x = y))) := ⟨fun a b w => run_eqGuard_agg w _ _ _ _ _ _ (by kernel_rfl), fun w => by rw [run_neq_struct, ZpC 9994]; rfl⟩
theorem Zp7 (d : Nat) (w : World) (x y : ZbJ) : (Op.equalIn (d + 4) 164 (.agg (Z0 x)) (.agg (Z0 y))).run Tryz.prog w = .ok (decide (x = y)) w := by
 have p0 : ∀ (z : ZbJ) (u : World), (part 54 (Z0 z) 0).run Tryz.prog u = .ok (.agg (Zx z.C0)) u := fun _ _ => by kernel_rfl
 have q0 : ∀ (u : World), (Op.equalIn (d + 3) 54 (.agg (Zx x.C0)) (.agg (Zx y.C0))).run Tryz.prog u = .ok (decide (x.C0 = y.C0)) u := fun u => Zby (d + 0) u _ _
 have p1 : ∀ (z : ZbJ) (u : World), (part 54 (Z0 z) 4).run Tryz.prog u = .ok (.agg (Zx z.C1)) u := fun _ _ => by kernel_rfl
 have q1 : ∀ (u : World), (Op.equalIn (d + 3) 54 (.agg (Zx x.C1)) (.agg (Zx y.C1))).run Tryz.prog u = .ok (decide (x.C1 = y.C1)) u := fun u => Zby (d + 0) u _ _
 have p2 : ∀ (z : ZbJ) (u : World), (part 54 (Z0 z) 8).run Tryz.prog u = .ok (.agg (Zx z.C2)) u := fun _ _ => by kernel_rfl
 have q2 : ∀ (u : World), (Op.equalIn (d + 3) 54 (.agg (Zx x.C2)) (.agg (Zx y.C2))).run Tryz.prog u = .ok (decide (x.C2 = y.C2)) u := fun u => Zby (d + 0) u _ _
 have hf : (Tryz.prog.fieldsOf 164).toList = [{ name := "C0", type := 54, offset := 0, embedded := false, tag := "", pkgPath := "", byteOffset := 0 }, { name := "C1", type := 54, offset := 4, embedded := false, tag := "", pkgPath := "", byteOffset := 48 }, { name := "C2", type := 54, offset := 8, embedded := false, tag := "", pkgPath := "", byteOffset := 96 }] := by kernel_rfl
 rw [run_equalIn_struct w (d + 3) 164 _ _ (by kernel_rfl) (by kernel_rfl), hf]
 have hx : x = y ↔ (x.C0 = y.C0 ∧ x.C1 = y.C1 ∧ x.C2 = y.C2) := by cases x; cases y; simp
 simp only [Op.eqFields, Sem.run_bind, Result.andThen_ok, Sem.run_ite, Sem.run_pure, p0, p1, p2, q0, q1, q2]
 by_cases h0 : x.C0 = y.C0 <;> by_cases h1 : x.C1 = y.C1 <;> by_cases h2 : x.C2 = y.C2 <;> simp [hx, h0, h1, h2]
instance ZGe (x y : ZbJ) : BinC Tryz.prog .eql 164 (.agg (Z0 x)) (.agg (Z0 y)) (.bool (decide (x = y))) := ⟨fun a b w => run_eqGuard_agg w _ _ _ _ _ _ (by kernel_rfl), fun w => by rw [run_eql_struct, Zp7 9996]; rfl⟩
instance ZEu : CallC Tryz.prog 10 := ⟨by kernel_rfl⟩
instance ZF6 : CallC Tryz.prog 11 := ⟨by kernel_rfl⟩
instance ZEk : CallC Tryz.prog 12 := ⟨by kernel_rfl⟩
instance ZFJ : CallC Tryz.prog 13 := ⟨by kernel_rfl⟩
instance ZDE : CallC Tryz.prog 14 := ⟨by kernel_rfl⟩
instance ZDW : CallC Tryz.prog 16 := ⟨by kernel_rfl⟩
instance ZFo : CallC Tryz.prog 17 := ⟨by kernel_rfl⟩
instance ZEQ : CallC Tryz.prog 18 := ⟨by kernel_rfl⟩
instance ZFh : CallC Tryz.prog 21 := ⟨by kernel_rfl⟩
instance ZFl : CallC Tryz.prog 22 := ⟨by kernel_rfl⟩
instance ZEh : CallC Tryz.prog 23 := ⟨by kernel_rfl⟩
instance ZFH : CallC Tryz.prog 24 := ⟨by kernel_rfl⟩
instance ZEf : CallC Tryz.prog 25 := ⟨by kernel_rfl⟩
instance ZDK : CallC Tryz.prog 26 := ⟨by kernel_rfl⟩
instance ZDY : CallC Tryz.prog 30 := ⟨by kernel_rfl⟩
instance ZFC : CallC Tryz.prog 35 := ⟨by kernel_rfl⟩
instance ZFB : CallC Tryz.prog 40 := ⟨by kernel_rfl⟩
instance ZEE : CallC Tryz.prog 41 := ⟨by kernel_rfl⟩
instance ZDU : CallC Tryz.prog 42 := ⟨by kernel_rfl⟩
instance ZF0 : CallC Tryz.prog 43 := ⟨by kernel_rfl⟩
instance ZDV : CallC Tryz.prog 44 := ⟨by kernel_rfl⟩
instance ZF3 : CallC Tryz.prog 45 := ⟨by kernel_rfl⟩
instance ZFt : CallC Tryz.prog 46 := ⟨by kernel_rfl⟩
instance ZGp : CallC Tryz.prog 47 := ⟨by kernel_rfl⟩
instance ZD5 : CallC Tryz.prog 48 := ⟨by kernel_rfl⟩
instance ZGf : CallC Tryz.prog 50 := ⟨by kernel_rfl⟩
instance ZGz : CallC Tryz.prog 51 := ⟨by kernel_rfl⟩
instance ZEe : CallC Tryz.prog 52 := ⟨by kernel_rfl⟩
instance ZEt : CallC Tryz.prog 53 := ⟨by kernel_rfl⟩
instance ZEH : CallC Tryz.prog 54 := ⟨by kernel_rfl⟩
instance ZD4 : CallC Tryz.prog 55 := ⟨by kernel_rfl⟩
instance ZEB : CallC Tryz.prog 58 := ⟨by kernel_rfl⟩
instance ZD6 : CallC Tryz.prog 59 := ⟨by kernel_rfl⟩
instance ZFs : CallC Tryz.prog 60 := ⟨by kernel_rfl⟩
instance ZDS : CallC Tryz.prog 61 := ⟨by kernel_rfl⟩
instance ZE7 : CallC Tryz.prog 62 := ⟨by kernel_rfl⟩
instance ZFV : CallC Tryz.prog 63 := ⟨by kernel_rfl⟩
instance ZFU : CallC Tryz.prog 65 := ⟨by kernel_rfl⟩
instance ZDX : CallC Tryz.prog 66 := ⟨by kernel_rfl⟩
instance ZFr : CallC Tryz.prog 72 := ⟨by kernel_rfl⟩
instance ZE6 : CallC Tryz.prog 73 := ⟨by kernel_rfl⟩
instance ZE2 : CallC Tryz.prog 75 := ⟨by kernel_rfl⟩
instance ZEN : CallC Tryz.prog 81 := ⟨by kernel_rfl⟩
instance ZEl : CallC Tryz.prog 87 := ⟨by kernel_rfl⟩
instance ZF2 : CallC Tryz.prog 88 := ⟨by kernel_rfl⟩
instance ZFi : CallC Tryz.prog 89 := ⟨by kernel_rfl⟩
instance ZEA : CallC Tryz.prog 90 := ⟨by kernel_rfl⟩
instance ZFA : CallC Tryz.prog 91 := ⟨by kernel_rfl⟩
instance ZGw : CallC Tryz.prog 92 := ⟨by kernel_rfl⟩
instance ZF1 : CallC Tryz.prog 93 := ⟨by kernel_rfl⟩
instance ZGi : CallC Tryz.prog 94 := ⟨by kernel_rfl⟩
instance ZGa : CallC Tryz.prog 95 := ⟨by kernel_rfl⟩
instance ZFG : CallC Tryz.prog 96 := ⟨by kernel_rfl⟩
instance ZEY : CallC Tryz.prog 97 := ⟨by kernel_rfl⟩
instance ZF9 : CallC Tryz.prog 98 := ⟨by kernel_rfl⟩
instance ZCT : CallC Tryz.prog 100 := ⟨by kernel_rfl⟩
instance ZzY : CallC Tryz.prog 102 := ⟨by kernel_rfl⟩
instance ZzR : CallC Tryz.prog 103 := ⟨by kernel_rfl⟩
instance ZA9 : CallC Tryz.prog 104 := ⟨by kernel_rfl⟩
instance ZDy : CallC Tryz.prog 105 := ⟨by kernel_rfl⟩
instance ZAG : CallC Tryz.prog 106 := ⟨by kernel_rfl⟩
instance ZCF : CallC Tryz.prog 108 := ⟨by kernel_rfl⟩
instance Zzp : CallC Tryz.prog 109 := ⟨by kernel_rfl⟩
instance ZAX : CallC Tryz.prog 110 := ⟨by kernel_rfl⟩
instance ZAj : CallC Tryz.prog 111 := ⟨by kernel_rfl⟩
instance ZAs : CallC Tryz.prog 112 := ⟨by kernel_rfl⟩
instance ZDu : CallC Tryz.prog 113 := ⟨by kernel_rfl⟩
instance ZzP : CallC Tryz.prog 114 := ⟨by kernel_rfl⟩
instance ZBA : CallC Tryz.prog 115 := ⟨by kernel_rfl⟩
instance ZzS : CallC Tryz.prog 125 := ⟨by kernel_rfl⟩
instance ZzA : CallC Tryz.prog 126 := ⟨by kernel_rfl⟩
instance ZDk : CallC Tryz.prog 127 := ⟨by kernel_rfl⟩
instance ZAc : CallC Tryz.prog 128 := ⟨by kernel_rfl⟩
instance ZCe : CallC Tryz.prog 131 := ⟨by kernel_rfl⟩
instance ZA4 : CallC Tryz.prog 134 := ⟨by kernel_rfl⟩
instance ZAo : CallC Tryz.prog 135 := ⟨by kernel_rfl⟩
instance ZzQ : CallC Tryz.prog 136 := ⟨by kernel_rfl⟩
instance ZCa : CallC Tryz.prog 141 := ⟨by kernel_rfl⟩
instance ZAr : CallC Tryz.prog 142 := ⟨by kernel_rfl⟩
instance Zz1 : CallC Tryz.prog 143 := ⟨by kernel_rfl⟩
instance ZBL : CallC Tryz.prog 144 := ⟨by kernel_rfl⟩
instance ZC8 : CallC Tryz.prog 145 := ⟨by kernel_rfl⟩
instance ZBS : CallC Tryz.prog 146 := ⟨by kernel_rfl⟩
instance ZBj : CallC Tryz.prog 147 := ⟨by kernel_rfl⟩
instance ZCx : CallC Tryz.prog 148 := ⟨by kernel_rfl⟩
instance ZzF : CallC Tryz.prog 149 := ⟨by kernel_rfl⟩
instance ZBw : CallC Tryz.prog 150 := ⟨by kernel_rfl⟩
instance Zzo : CallC Tryz.prog 151 := ⟨by kernel_rfl⟩
instance ZBr : CallC Tryz.prog 153 := ⟨by kernel_rfl⟩
instance ZB6 : CallC Tryz.prog 154 := ⟨by kernel_rfl⟩
instance ZCY : CallC Tryz.prog 155 := ⟨by kernel_rfl⟩
instance ZCE : CallC Tryz.prog 156 := ⟨by kernel_rfl⟩
instance ZB8 : CallC Tryz.prog 157 := ⟨by kernel_rfl⟩
instance ZAi : CallC Tryz.prog 158 := ⟨by kernel_rfl⟩
instance ZAq : CallC Tryz.prog 159 := ⟨by kernel_rfl⟩
instance ZCj : CallC Tryz.prog 161 := ⟨by kernel_rfl⟩
instance ZCV : CallC Tryz.prog 162 := ⟨by kernel_rfl⟩
instance ZBU : CallC Tryz.prog 163 := ⟨by kernel_rfl⟩
instance Zz9 : CallC Tryz.prog 164 := ⟨by kernel_rfl⟩
instance ZA1 : CallC Tryz.prog 165 := ⟨by kernel_rfl⟩
instance ZCr : CallC Tryz.prog 166 := ⟨by kernel_rfl⟩
instance Zzt : CallC Tryz.prog 167 := ⟨by kernel_rfl⟩
instance ZCG : CallC Tryz.prog 168 := ⟨by kernel_rfl⟩
instance ZzK : CallC Tryz.prog 169 := ⟨by kernel_rfl⟩
instance ZDc : CallC Tryz.prog 170 := ⟨by kernel_rfl⟩
instance ZBP : CallC Tryz.prog 171 := ⟨by kernel_rfl⟩
instance Zz8 : CallC Tryz.prog 172 := ⟨by kernel_rfl⟩
instance ZDC : CallC Tryz.prog 173 := ⟨by kernel_rfl⟩
instance Zzl : CallC Tryz.prog 174 := ⟨by kernel_rfl⟩
instance ZBe : CallC Tryz.prog 175 := ⟨by kernel_rfl⟩
instance ZAK : CallC Tryz.prog 176 := ⟨by kernel_rfl⟩
instance Zzv : CallC Tryz.prog 177 := ⟨by kernel_rfl⟩
instance ZAH : CallC Tryz.prog 178 := ⟨by kernel_rfl⟩
instance ZCh : CallC Tryz.prog 179 := ⟨by kernel_rfl⟩
instance ZC9 : CallC Tryz.prog 180 := ⟨by kernel_rfl⟩
instance ZDf : CallC Tryz.prog 185 := ⟨by kernel_rfl⟩
instance ZDh : CallC Tryz.prog 194 := ⟨by kernel_rfl⟩
instance Zzh : CallC Tryz.prog 195 := ⟨by kernel_rfl⟩
instance ZAz : CallC Tryz.prog 196 := ⟨by kernel_rfl⟩
instance ZAl : CallC Tryz.prog 197 := ⟨by kernel_rfl⟩
instance ZBv : CallC Tryz.prog 198 := ⟨by kernel_rfl⟩
instance ZBJ : CallC Tryz.prog 199 := ⟨by kernel_rfl⟩
instance ZCm : CallC Tryz.prog 200 := ⟨by kernel_rfl⟩
instance ZA7 : CallC Tryz.prog 201 := ⟨by kernel_rfl⟩
instance ZDA : CallC Tryz.prog 202 := ⟨by kernel_rfl⟩
instance ZAa : CallC Tryz.prog 203 := ⟨by kernel_rfl⟩
instance ZBR : CallC Tryz.prog 204 := ⟨by kernel_rfl⟩
instance ZBC : CallC Tryz.prog 205 := ⟨by kernel_rfl⟩
instance Zz5 : CallC Tryz.prog 206 := ⟨by kernel_rfl⟩
instance ZDg : CallC Tryz.prog 207 := ⟨by kernel_rfl⟩
instance Zzs : CallC Tryz.prog 208 := ⟨by kernel_rfl⟩
instance ZBD : CallC Tryz.prog 210 := ⟨by kernel_rfl⟩
instance Zzm : CallC Tryz.prog 211 := ⟨by kernel_rfl⟩
instance ZzM : CallC Tryz.prog 212 := ⟨by kernel_rfl⟩
instance ZDp : CallC Tryz.prog 213 := ⟨by kernel_rfl⟩
instance ZBt : CallC Tryz.prog 214 := ⟨by kernel_rfl⟩
instance ZAZ : CallC Tryz.prog 215 := ⟨by kernel_rfl⟩
instance ZAI : CallC Tryz.prog 216 := ⟨by kernel_rfl⟩
instance ZCs : CallC Tryz.prog 217 := ⟨by kernel_rfl⟩
instance ZCl : CallC Tryz.prog 218 := ⟨by kernel_rfl⟩
instance ZC0 : CallC Tryz.prog 219 := ⟨by kernel_rfl⟩
instance ZzD : CallC Tryz.prog 220 := ⟨by kernel_rfl⟩
instance ZBb : CallC Tryz.prog 221 := ⟨by kernel_rfl⟩
instance ZAy : CallC Tryz.prog 222 := ⟨by kernel_rfl⟩
instance ZBl : CallC Tryz.prog 223 := ⟨by kernel_rfl⟩
instance Zzk : CallC Tryz.prog 225 := ⟨by kernel_rfl⟩
instance ZAY : CallC Tryz.prog 226 := ⟨by kernel_rfl⟩
instance ZCv : CallC Tryz.prog 227 := ⟨by kernel_rfl⟩
instance Zz4 : CallC Tryz.prog 242 := ⟨by kernel_rfl⟩
instance Zz6 : CallC Tryz.prog 244 := ⟨by kernel_rfl⟩
instance Zzi : CallC Tryz.prog 245 := ⟨by kernel_rfl⟩
instance ZCb : CallC Tryz.prog 246 := ⟨by kernel_rfl⟩
instance ZzB : CallC Tryz.prog 248 := ⟨by kernel_rfl⟩
instance ZA6 : CallC Tryz.prog 257 := ⟨by kernel_rfl⟩
instance ZDd : CallC Tryz.prog 258 := ⟨by kernel_rfl⟩
instance ZCd : CallC Tryz.prog 260 := ⟨by kernel_rfl⟩
instance ZzX : CallC Tryz.prog 264 := ⟨by kernel_rfl⟩
instance ZCn : CallC Tryz.prog 265 := ⟨by kernel_rfl⟩
instance ZB5 : CallC Tryz.prog 266 := ⟨by kernel_rfl⟩
instance ZB0 : CallC Tryz.prog 269 := ⟨by kernel_rfl⟩
instance ZAM : CallC Tryz.prog 270 := ⟨by kernel_rfl⟩
instance ZC5 : CallC Tryz.prog 271 := ⟨by kernel_rfl⟩
instance ZA2 : CallC Tryz.prog 272 := ⟨by kernel_rfl⟩
instance ZAm : CallC Tryz.prog 273 := ⟨by kernel_rfl⟩
instance ZDj : CallC Tryz.prog 295 := ⟨by kernel_rfl⟩
instance ZAV : CallC Tryz.prog 296 := ⟨by kernel_rfl⟩
instance ZCW : CallC Tryz.prog 302 := ⟨by kernel_rfl⟩
instance ZBy : CallC Tryz.prog 303 := ⟨by kernel_rfl⟩
instance ZDo : CallC Tryz.prog 309 := ⟨by kernel_rfl⟩
instance ZDt : CallC Tryz.prog 324 := ⟨by kernel_rfl⟩
instance ZDB : CallC Tryz.prog 417 := ⟨by kernel_rfl⟩
instance ZAf : CallC Tryz.prog 418 := ⟨by kernel_rfl⟩
instance ZBI : CallC Tryz.prog 419 := ⟨by kernel_rfl⟩
instance ZAk : CallC Tryz.prog 420 := ⟨by kernel_rfl⟩
instance ZBm : CallC Tryz.prog 421 := ⟨by kernel_rfl⟩
instance ZBz : CallC Tryz.prog 422 := ⟨by kernel_rfl⟩
instance ZzH : CallC Tryz.prog 423 := ⟨by kernel_rfl⟩
instance ZAd : CallC Tryz.prog 424 := ⟨by kernel_rfl⟩
theorem mixed : Tryz.prog.follows .mixedOrders = true := by kernel_rfl
end Go.Vt
