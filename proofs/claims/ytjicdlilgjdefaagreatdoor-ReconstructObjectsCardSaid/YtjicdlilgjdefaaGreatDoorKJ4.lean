/- that objects are reconstructed from their reports (part 4 of 29.) Conditions: those that each statement names. -/
import Derived.Test.YtjicdlilgjdefaaGreatDoorProg
import Derived.Test.YtjicdlilgjdefaaGreatDoorKJ3
set_option linter.unusedVariables false
set_option maxRecDepth 100000
namespace Go.Vt
open Go.RowKit Go.Proofs
open Go.Proofs.Tryz (prog)
structure Sl where
 a : Option Addr
 len : Nat
 cap : Nat
structure Zbc where
 Loads : Sl
 Speed : Int
 Gap : Int
def ZK (x : Zbc) : Array Value := #[.slice x.Loads.a x.Loads.len x.Loads.cap, .int .u8 x.Speed, .int .u8 x.Gap]
structure Zab where
 Object : Int
 Seq : Int
 Version : Int
 Device : Int
 Time : Int
 X : Int
 Y : Int
 Cancel : Bool
 deriving DecidableEq
def Z6 (x : Zab) : Array Value := #[.int .u8 x.Object, .int .u8 x.Seq, .int .u8 x.Version, .int .u8 x.Device, .int .u8 x.Time, .int .u8 x.X, .int .u8 x.Y, .bool x.Cancel]
def Zfz : Zab := ⟨0, 0, 0, 0, 0, 0, 0, false⟩
instance Zni (x : Zab) : CsC (Z6 x) 8 := ⟨by kernel_rfl, by kernel_rfl⟩
structure ZC where
 MaxSpeed : Int
 MaxGap : Int
 deriving DecidableEq
def Zm (x : ZC) : Array Value := #[.int .i64 x.MaxSpeed, .int .i64 x.MaxGap]
def Zek : ZC := ⟨0, 0⟩
instance ZrK (x : ZC) : CsC (Zm x) 2 := ⟨by kernel_rfl, by kernel_rfl⟩
structure Zb where
 Object : Int
 Seq : Int
 Version : Int
 Device : Int
 Time : Int
 X : Int
 Y : Int
 Cancel : Bool
 deriving DecidableEq
def Zd (x : Zb) : Array Value := #[.int .i64 x.Object, .int .i64 x.Seq, .int .i64 x.Version, .int .i64 x.Device, .int .i64 x.Time, .int .i64 x.X, .int .i64 x.Y, .bool x.Cancel]
def Zas : Zb := ⟨0, 0, 0, 0, 0, 0, 0, false⟩
instance Zth (x : Zb) : CsC (Zd x) 8 := ⟨by kernel_rfl, by kernel_rfl⟩
structure ZaC where
 Reports : Sl
 Exchanges : Sl
def Zs (x : ZaC) : Array Value := #[.slice x.Reports.a x.Reports.len x.Reports.cap, .slice x.Exchanges.a x.Exchanges.len x.Exchanges.cap]
def Zcl : ZaC := ⟨⟨none, 0, 0⟩, ⟨none, 0, 0⟩⟩
instance ZuQ (x : ZaC) : CsC (Zs x) 2 := ⟨by kernel_rfl, by kernel_rfl⟩
structure Zaq where
 Neg : Bool
 Mag : ByteArray
 deriving DecidableEq
def ZR (x : Zaq) : Array Value := #[.bool x.Neg, .string x.Mag]
def ZaW : Zaq := ⟨false, ByteArray.empty⟩
instance Zw7 (x : Zaq) : CsC (ZR x) 2 := ⟨by kernel_rfl, by kernel_rfl⟩
structure Zac where
 Num : Zaq
 Den : Zaq
 deriving DecidableEq
def Zx (x : Zac) : Array Value := #[.bool x.Num.Neg, .string x.Num.Mag, .bool x.Den.Neg, .string x.Den.Mag]
def Zcc : Zac := ⟨ZaW, ZaW⟩
instance ZxS (x : Zac) : CsC (Zx x) 4 := ⟨by kernel_rfl, by kernel_rfl⟩
structure ZaU where
 T : Zac
 Report : Zb
 deriving DecidableEq
def Zv (x : ZaU) : Array Value := #[.bool x.T.Num.Neg, .string x.T.Num.Mag, .bool x.T.Den.Neg, .string x.T.Den.Mag, .int .i64 x.Report.Object, .int .i64 x.Report.Seq, .int .i64 x.Report.Version, .int .i64 x.Report.Device, .int .i64 x.Report.Time, .int .i64 x.Report.X, .int .i64 x.Report.Y, .bool x.Report.Cancel]
instance Zrr (x : ZaU) : CsC (Zv x) 12 := ⟨by kernel_rfl, by kernel_rfl⟩
structure ZbH where
 Objects : Sl
 Zones : Sl
def Z4 (x : ZbH) : Array Value := #[.slice x.Objects.a x.Objects.len x.Objects.cap, .slice x.Zones.a x.Zones.len x.Zones.cap]
def Zeu : ZbH := ⟨⟨none, 0, 0⟩, ⟨none, 0, 0⟩⟩
instance Zro (x : ZbH) : CsC (Z4 x) 2 := ⟨by kernel_rfl, by kernel_rfl⟩
structure Zav where
 Name : ByteArray
 Units : Sl
def ZY (x : Zav) : Array Value := #[.string x.Name, .slice x.Units.a x.Units.len x.Units.cap]
def ZeH : Zav := ⟨ByteArray.empty, ⟨none, 0, 0⟩⟩
instance ZvE (x : Zav) : CsC (ZY x) 2 := ⟨by kernel_rfl, by kernel_rfl⟩
structure ZaS where
 Id : Int
 Units : Sl
def Zaf (x : ZaS) : Array Value := #[.int .i64 x.Id, .slice x.Units.a x.Units.len x.Units.cap]
def ZdB : ZaS := ⟨0, ⟨none, 0, 0⟩⟩
instance Ztg (x : ZaS) : CsC (Zaf x) 2 := ⟨by kernel_rfl, by kernel_rfl⟩
structure Zd8 where
 X : Zac
 Y : Zac
 deriving DecidableEq
def ZaK (x : Zd8) : Array Value := #[.bool x.X.Num.Neg, .string x.X.Num.Mag, .bool x.X.Den.Neg, .string x.X.Den.Mag, .bool x.Y.Num.Neg, .string x.Y.Num.Mag, .bool x.Y.Den.Neg, .string x.Y.Den.Mag]
instance ZuP (x : Zd8) : CsC (ZaK x) 8 := ⟨by kernel_rfl, by kernel_rfl⟩
structure Za1 where
 P : Zac
 R : Zac
 Neg : Bool
 deriving DecidableEq
def ZD (x : Za1) : Array Value := #[.bool x.P.Num.Neg, .string x.P.Num.Mag, .bool x.P.Den.Neg, .string x.P.Den.Mag, .bool x.R.Num.Neg, .string x.R.Num.Mag, .bool x.R.Den.Neg, .string x.R.Den.Mag, .bool x.Neg]
instance ZvT (x : Za1) : CsC (ZD x) 9 := ⟨by kernel_rfl, by kernel_rfl⟩
structure ZcK where
 Value : Za1
 At : Za1
 Reached : Bool
 deriving DecidableEq
structure Zaz where
 From : Za1
 To : Za1
 OpenFrom : Bool
 OpenTo : Bool
 deriving DecidableEq
def ZB (x : Zaz) : Array Value := #[.bool x.From.P.Num.Neg, .string x.From.P.Num.Mag, .bool x.From.P.Den.Neg, .string x.From.P.Den.Mag, .bool x.From.R.Num.Neg, .string x.From.R.Num.Mag, .bool x.From.R.Den.Neg, .string x.From.R.Den.Mag, .bool x.From.Neg, .bool x.To.P.Num.Neg, .string x.To.P.Num.Mag, .bool x.To.P.Den.Neg, .string x.To.P.Den.Mag, .bool x.To.R.Num.Neg, .string x.To.R.Num.Mag, .bool x.To.R.Den.Neg, .string x.To.R.Den.Mag, .bool x.To.Neg, .bool x.OpenFrom, .bool x.OpenTo]
instance ZrE (x : Zaz) : CsC (ZB x) 20 := ⟨by kernel_rfl, by kernel_rfl⟩
structure Za8 where
 X0 : Zac
 X1 : Zac
 Y0 : Zac
 Y1 : Zac
 deriving DecidableEq
def ZW (x : Za8) : Array Value := #[.bool x.X0.Num.Neg, .string x.X0.Num.Mag, .bool x.X0.Den.Neg, .string x.X0.Den.Mag, .bool x.X1.Num.Neg, .string x.X1.Num.Mag, .bool x.X1.Den.Neg, .string x.X1.Den.Mag, .bool x.Y0.Num.Neg, .string x.Y0.Num.Mag, .bool x.Y0.Den.Neg, .string x.Y0.Den.Mag, .bool x.Y1.Num.Neg, .string x.Y1.Num.Mag, .bool x.Y1.Den.Neg, .string x.Y1.Den.Mag]
instance Zvk (x : Za8) : CsC (ZW x) 16 := ⟨by kernel_rfl, by kernel_rfl⟩
structure ZaY where
 In : Zaz
 F : Za8
 deriving DecidableEq
def ZS (x : ZaY) : Array Value := #[.bool x.In.From.P.Num.Neg, .string x.In.From.P.Num.Mag, .bool x.In.From.P.Den.Neg, .string x.In.From.P.Den.Mag, .bool x.In.From.R.Num.Neg, .string x.In.From.R.Num.Mag, .bool x.In.From.R.Den.Neg, .string x.In.From.R.Den.Mag, .bool x.In.From.Neg, .bool x.In.To.P.Num.Neg, .string x.In.To.P.Num.Mag, .bool x.In.To.P.Den.Neg, .string x.In.To.P.Den.Mag, .bool x.In.To.R.Num.Neg, .string x.In.To.R.Num.Mag, .bool x.In.To.R.Den.Neg, .string x.In.To.R.Den.Mag, .bool x.In.To.Neg, .bool x.In.OpenFrom, .bool x.In.OpenTo, .bool x.F.X0.Num.Neg, .string x.F.X0.Num.Mag, .bool x.F.X0.Den.Neg, .string x.F.X0.Den.Mag, .bool x.F.X1.Num.Neg, .string x.F.X1.Num.Mag, .bool x.F.X1.Den.Neg, .string x.F.X1.Den.Mag, .bool x.F.Y0.Num.Neg, .string x.F.Y0.Num.Mag, .bool x.F.Y0.Den.Neg, .string x.F.Y0.Den.Mag, .bool x.F.Y1.Num.Neg, .string x.F.Y1.Num.Mag, .bool x.F.Y1.Den.Neg, .string x.F.Y1.Den.Mag]
instance Zpr (x : ZaY) : CsC (ZS x) 36 := ⟨by kernel_rfl, by kernel_rfl⟩
structure ZU where
 Pings : Sl
 Calls : Sl
def Zam (x : ZU) : Array Value := #[.slice x.Pings.a x.Pings.len x.Pings.cap, .slice x.Calls.a x.Calls.len x.Calls.cap]
def ZfB : ZU := ⟨⟨none, 0, 0⟩, ⟨none, 0, 0⟩⟩
instance Znj (x : ZU) : CsC (Zam x) 2 := ⟨by kernel_rfl, by kernel_rfl⟩
structure Za where
 From : Int
 To : Int
 Sent : Int
 Received : Int
 Least : Int
 deriving DecidableEq
def Ze (x : Za) : Array Value := #[.int .i64 x.From, .int .i64 x.To, .int .i64 x.Sent, .int .i64 x.Received, .int .i64 x.Least]
def ZcY : Za := ⟨0, 0, 0, 0, 0⟩
instance ZrA (x : Za) : CsC (Ze x) 5 := ⟨by kernel_rfl, by kernel_rfl⟩
structure Zal where
 From : Int
 To : Int
 Sent : Int
 Delay : Int
 Least : Int
 Wrong : Bool
 deriving DecidableEq
def Zaj (x : Zal) : Array Value := #[.int .u8 x.From, .int .u8 x.To, .int .u8 x.Sent, .int .u8 x.Delay, .int .u8 x.Least, .bool x.Wrong]
def ZfH : Zal := ⟨0, 0, 0, 0, 0, false⟩
instance Znk (x : Zal) : CsC (Zaj x) 6 := ⟨by kernel_rfl, by kernel_rfl⟩
structure ZE where
 object : Int
 seq : Int
 deriving DecidableEq
def ZX (x : ZE) : Array Value := #[.int .i64 x.object, .int .i64 x.seq]
def Zci : ZE := ⟨0, 0⟩
instance ZnC (x : ZE) : CsC (ZX x) 2 := ⟨by kernel_rfl, by kernel_rfl⟩
structure Zcb where
 T : Zac
 P : Zd8
 deriving DecidableEq
def Z5 (x : Zcb) : Array Value := #[.bool x.T.Num.Neg, .string x.T.Num.Mag, .bool x.T.Den.Neg, .string x.T.Den.Mag, .bool x.P.X.Num.Neg, .string x.P.X.Num.Mag, .bool x.P.X.Den.Neg, .string x.P.X.Den.Mag, .bool x.P.Y.Num.Neg, .string x.P.Y.Num.Mag, .bool x.P.Y.Den.Neg, .string x.P.Y.Den.Mag]
instance Zl8 (x : Zcb) : CsC (Z5 x) 12 := ⟨by kernel_rfl, by kernel_rfl⟩
structure ZbU where
 C0 : Zac
 C1 : Zac
 C2 : Zac
 deriving DecidableEq
def Z1 (x : ZbU) : Array Value := #[.bool x.C0.Num.Neg, .string x.C0.Num.Mag, .bool x.C0.Den.Neg, .string x.C0.Den.Mag, .bool x.C1.Num.Neg, .string x.C1.Num.Mag, .bool x.C1.Den.Neg, .string x.C1.Den.Mag, .bool x.C2.Num.Neg, .string x.C2.Num.Mag, .bool x.C2.Den.Neg, .string x.C2.Den.Mag]
instance ZvV (x : ZbU) : CsC (Z1 x) 12 := ⟨by kernel_rfl, by kernel_rfl⟩
structure ZbC where
 Low : Int
 High : Int
 deriving DecidableEq
def Zan (x : ZbC) : Array Value := #[.int .i64 x.Low, .int .i64 x.High]
def ZcU : ZbC := ⟨0, 0⟩
instance Zrv (x : ZbC) : CsC (Zan x) 2 := ⟨by kernel_rfl, by kernel_rfl⟩
structure ZbN where
 In : Zaz
 F : Za8
 deriving DecidableEq
def Zw (x : ZbN) : Array Value := #[.bool x.In.From.P.Num.Neg, .string x.In.From.P.Num.Mag, .bool x.In.From.P.Den.Neg, .string x.In.From.P.Den.Mag, .bool x.In.From.R.Num.Neg, .string x.In.From.R.Num.Mag, .bool x.In.From.R.Den.Neg, .string x.In.From.R.Den.Mag, .bool x.In.From.Neg, .bool x.In.To.P.Num.Neg, .string x.In.To.P.Num.Mag, .bool x.In.To.P.Den.Neg, .string x.In.To.P.Den.Mag, .bool x.In.To.R.Num.Neg, .string x.In.To.R.Num.Mag, .bool x.In.To.R.Den.Neg, .string x.In.To.R.Den.Mag, .bool x.In.To.Neg, .bool x.In.OpenFrom, .bool x.In.OpenTo, .bool x.F.X0.Num.Neg, .string x.F.X0.Num.Mag, .bool x.F.X0.Den.Neg, .string x.F.X0.Den.Mag, .bool x.F.X1.Num.Neg, .string x.F.X1.Num.Mag, .bool x.F.X1.Den.Neg, .string x.F.X1.Den.Mag, .bool x.F.Y0.Num.Neg, .string x.F.Y0.Num.Mag, .bool x.F.Y0.Den.Neg, .string x.F.Y0.Den.Mag, .bool x.F.Y1.Num.Neg, .string x.F.Y1.Num.Mag, .bool x.F.Y1.Den.Neg, .string x.F.Y1.Den.Mag]
instance Zkm (x : ZbN) : CsC (Zw x) 36 := ⟨by kernel_rfl, by kernel_rfl⟩
structure Zbh where
 l : Sl
 some : Sl
 size : Int
def ZO (x : Zbh) : Array Value := #[.slice x.l.a x.l.len x.l.cap, .slice x.some.a x.some.len x.some.cap, .int .i64 x.size]
def Zdh : Zbh := ⟨⟨none, 0, 0⟩, ⟨none, 0, 0⟩, 0⟩
instance ZsD (x : Zbh) : CsC (ZO x) 3 := ⟨by kernel_rfl, by kernel_rfl⟩
instance ZHr : UndC prog 2 (.int .i64) := ⟨by kernel_rfl⟩
instance ZHH : UndC prog 3 (.int .i64) := ⟨by kernel_rfl⟩
instance ZHD : UndC prog 4 (.bool) := ⟨by kernel_rfl⟩
instance ZHy : UndC prog 5 (.int .u8) := ⟨by kernel_rfl⟩
instance ZHJ : UndC prog 9 (.string) := ⟨by kernel_rfl⟩
instance ZGN : UndC prog 22 (.slice 120) := ⟨by kernel_rfl⟩
instance ZGV : UndC prog 29 (.slice 40) := ⟨by kernel_rfl⟩
instance ZGo : UndC prog 37 (.slice 35) := ⟨by kernel_rfl⟩
instance ZGD : UndC prog 38 (.slice 122) := ⟨by kernel_rfl⟩
instance ZHg : UndC prog 48 (.slice 56) := ⟨by kernel_rfl⟩
instance ZGs : UndC prog 58 (.slice 115) := ⟨by kernel_rfl⟩
instance ZG5 : UndC prog 62 (.slice 82) := ⟨by kernel_rfl⟩
instance ZGh : UndC prog 73 (.slice 80) := ⟨by kernel_rfl⟩
instance ZGJ : UndC prog 78 (.slice 217) := ⟨by kernel_rfl⟩
instance ZF7 : UndC prog 84 (.slice 111) := ⟨by kernel_rfl⟩
instance ZDN : UndC prog 106 (.slice 3) := ⟨by kernel_rfl⟩
instance ZFj : UndC prog 117 (.slice 26) := ⟨by kernel_rfl⟩
instance ZE3 : UndC prog 118 (.slice 125) := ⟨by kernel_rfl⟩
instance ZD8 : UndC prog 141 (.slice 143) := ⟨by kernel_rfl⟩
instance ZE5 : UndC prog 157 (.slice 224) := ⟨by kernel_rfl⟩
instance ZFm : UndC prog 226 (.int .u64) := ⟨by kernel_rfl⟩
instance ZEG : UndC prog 293 (.slice 5) := ⟨by kernel_rfl⟩
instance ZEL : UndC prog 294 (.int .u64) := ⟨by kernel_rfl⟩
instance ZFw : UndC prog 363 (.slice 365) := ⟨by kernel_rfl⟩
instance ZD5 : UndC prog 365 (.int .u32) := ⟨by kernel_rfl⟩
instance ZFR : UndC prog 256 (.array 8 3) := ⟨by kernel_rfl⟩
instance ZEa : UndC prog 292 (.array 8 5) := ⟨by kernel_rfl⟩
instance ZFv : BytesC prog 3 8 := ⟨by kernel_rfl⟩
instance ZFn : BytesC prog 5 1 := ⟨by kernel_rfl⟩
instance ZCO : BytesC prog 35 64 := ⟨by kernel_rfl⟩
instance ZBg : BytesC prog 40 48 := ⟨by kernel_rfl⟩
instance ZBh : BytesC prog 56 112 := ⟨by kernel_rfl⟩
instance ZBA : BytesC prog 80 40 := ⟨by kernel_rfl⟩
instance ZBZ : BytesC prog 82 32 := ⟨by kernel_rfl⟩
instance ZAf : BytesC prog 111 216 := ⟨by kernel_rfl⟩
instance ZAr : BytesC prog 115 408 := ⟨by kernel_rfl⟩
instance ZAl : BytesC prog 122 40 := ⟨by kernel_rfl⟩
instance ZzT : BytesC prog 143 144 := ⟨by kernel_rfl⟩
instance ZyR : BytesC prog 224 408 := ⟨by kernel_rfl⟩
instance Zyq : BytesC prog 365 4 := ⟨by kernel_rfl⟩
instance ZHl : ZeroC prog 3 (.int .i64 0) #[.int .i64 0] := ⟨by kernel_rfl, by kernel_rfl⟩
instance ZGO : SizeC prog 3 1 := ⟨by kernel_rfl⟩
instance ZHI (x : Int) : LdC prog 3 #[.int .i64 x] 0 (.int .i64 x) := ⟨Zy⟩
instance ZGb : ZeroC prog 4 (.bool false) #[.bool false] := ⟨by kernel_rfl, by kernel_rfl⟩
instance ZHd : ZeroC prog 5 (.int .u8 0) #[.int .u8 0] := ⟨by kernel_rfl, by kernel_rfl⟩
instance ZHq : SizeC prog 5 1 := ⟨by kernel_rfl⟩
instance ZFh : SizeC prog 26 8 := ⟨by kernel_rfl⟩
instance ZEP : ZeroC prog 32 (.agg (Zm Zek)) (Zm Zek) := ⟨by kernel_rfl, by kernel_rfl⟩
instance ZFx : SizeC prog 32 2 := ⟨by kernel_rfl⟩
instance ZEI : ZeroC prog 35 (.agg (Zd Zas)) (Zd Zas) := ⟨by kernel_rfl, by kernel_rfl⟩
instance ZEY : SizeC prog 35 8 := ⟨by kernel_rfl⟩
instance ZF4 (x : Option Addr) (l c : Nat) : LdC prog 37 #[.slice x l c] 0 (.slice x l c) := ⟨Zy⟩
instance ZFY (x : Option Addr) (l c : Nat) : LdC prog 38 #[.slice x l c] 0 (.slice x l c) := ⟨Zy⟩
instance ZE9 : ZeroC prog 40 (.agg (Zs Zcl)) (Zs Zcl) := ⟨by kernel_rfl, by kernel_rfl⟩
instance ZFy : SizeC prog 40 2 := ⟨by kernel_rfl⟩
instance ZEO : ZeroC prog 52 (.agg (ZR ZaW)) (ZR ZaW) := ⟨by kernel_rfl, by kernel_rfl⟩
instance ZEj : SizeC prog 52 2 := ⟨by kernel_rfl⟩
instance ZEE : ZeroC prog 54 (.agg (Zx Zcc)) (Zx Zcc) := ⟨by kernel_rfl, by kernel_rfl⟩
instance ZER : SizeC prog 54 4 := ⟨by kernel_rfl⟩
instance ZE6 : SizeC prog 56 12 := ⟨by kernel_rfl⟩
instance ZEm : ZeroC prog 75 (.agg (Z4 Zeu)) (Z4 Zeu) := ⟨by kernel_rfl, by kernel_rfl⟩
instance ZD0 : SizeC prog 75 2 := ⟨by kernel_rfl⟩
instance ZEM : ZeroC prog 80 (.agg (ZY ZeH)) (ZY ZeH) := ⟨by kernel_rfl, by kernel_rfl⟩
instance ZE7 : SizeC prog 80 2 := ⟨by kernel_rfl⟩
instance ZFS : ZeroC prog 82 (.agg (Zaf ZdB)) (Zaf ZdB) := ⟨by kernel_rfl, by kernel_rfl⟩
instance ZFX : SizeC prog 82 2 := ⟨by kernel_rfl⟩
instance ZEf : SizeC prog 93 8 := ⟨by kernel_rfl⟩
instance ZD7 : SizeC prog 97 9 := ⟨by kernel_rfl⟩
instance ZEB (x : Option Addr) (l c : Nat) : LdC prog 106 #[.slice x l c] 0 (.slice x l c) := ⟨Zy⟩
instance ZCY : SizeC prog 111 20 := ⟨by kernel_rfl⟩
instance ZCH : SizeC prog 113 16 := ⟨by kernel_rfl⟩
instance ZBa : SizeC prog 115 36 := ⟨by kernel_rfl⟩
instance ZCt : SizeC prog 120 2 := ⟨by kernel_rfl⟩
instance ZBP : ZeroC prog 122 (.agg (Ze ZcY)) (Ze ZcY) := ⟨by kernel_rfl, by kernel_rfl⟩
instance ZCE : SizeC prog 122 5 := ⟨by kernel_rfl⟩
instance ZA1 : SizeC prog 125 6 := ⟨by kernel_rfl⟩
instance ZDp : ZeroC prog 133 (.agg (ZX Zci)) (ZX Zci) := ⟨by kernel_rfl, by kernel_rfl⟩
instance ZCV : SizeC prog 133 2 := ⟨by kernel_rfl⟩
instance ZCL : SizeC prog 143 12 := ⟨by kernel_rfl⟩
instance ZBW : ZeroC prog 157 (.slice none 0 0) #[.slice none 0 0] := ⟨by kernel_rfl, by kernel_rfl⟩
instance ZBi : SizeC prog 157 1 := ⟨by kernel_rfl⟩
instance ZDH : SizeC prog 164 12 := ⟨by kernel_rfl⟩
instance ZDl : ZeroC prog 196 (.agg (Zan ZcU)) (Zan ZcU) := ⟨by kernel_rfl, by kernel_rfl⟩
instance ZCr : SizeC prog 196 2 := ⟨by kernel_rfl⟩
instance ZCF : SizeC prog 224 36 := ⟨by kernel_rfl⟩
instance ZCe : ZeroC prog 256 (.agg (nums .i64 [0, 0, 0, 0, 0, 0, 0, 0])) (nums .i64 [0, 0, 0, 0, 0, 0, 0, 0]) := ⟨by kernel_rfl, by kernel_rfl⟩
instance ZCj : SizeC prog 256 8 := ⟨by kernel_rfl⟩
instance ZCd : ZeroC prog 292 (.agg (nums .u8 [0, 0, 0, 0, 0, 0, 0, 0])) (nums .u8 [0, 0, 0, 0, 0, 0, 0, 0]) := ⟨by kernel_rfl, by kernel_rfl⟩
instance ZBl : ZeroC prog 324 (.agg (ZO Zdh)) (ZO Zdh) := ⟨by kernel_rfl, by kernel_rfl⟩
instance ZDb : SizeC prog 324 3 := ⟨by kernel_rfl⟩
instance ZBG : ZeroC prog 365 (.int .u32 0) #[.int .u32 0] := ⟨by kernel_rfl, by kernel_rfl⟩
instance ZCD : SizeC prog 365 1 := ⟨by kernel_rfl⟩
instance ZEl : FaC prog 35 1 1 := ⟨fun b o w => by kernel_rfl⟩
instance ZFK : FaC prog 40 0 0 := ⟨fun b o w => by kernel_rfl⟩
instance ZE2 : FaC prog 40 1 1 := ⟨fun b o w => by kernel_rfl⟩
instance ZEH : FaC prog 56 0 0 := ⟨fun b o w => by kernel_rfl⟩
instance ZFJ : FaC prog 56 1 4 := ⟨fun b o w => by kernel_rfl⟩
instance ZEv : FaC prog 80 1 1 := ⟨fun b o w => by kernel_rfl⟩
instance ZEn : FaC prog 82 0 0 := ⟨fun b o w => by kernel_rfl⟩
instance ZDW : FaC prog 82 1 1 := ⟨fun b o w => by kernel_rfl⟩
instance ZFV : FaC prog 93 0 0 := ⟨fun b o w => by kernel_rfl⟩
instance ZEg : FaC prog 93 1 4 := ⟨fun b o w => by kernel_rfl⟩
instance ZCZ : FaC prog 111 0 0 := ⟨fun b o w => by kernel_rfl⟩
instance ZAD : FaC prog 111 1 9 := ⟨fun b o w => by kernel_rfl⟩
instance ZCi : FaC prog 111 3 19 := ⟨fun b o w => by kernel_rfl⟩
instance ZC1 : FaC prog 115 0 0 := ⟨fun b o w => by kernel_rfl⟩
instance ZA4 : FaC prog 115 1 20 := ⟨fun b o w => by kernel_rfl⟩
instance ZB1 : FaC prog 120 0 0 := ⟨fun b o w => by kernel_rfl⟩
instance ZBK : FaC prog 120 1 1 := ⟨fun b o w => by kernel_rfl⟩
instance ZAX : FaC prog 122 0 0 := ⟨fun b o w => by kernel_rfl⟩
instance ZBv : FaC prog 122 1 1 := ⟨fun b o w => by kernel_rfl⟩
instance ZDG : FaC prog 143 0 0 := ⟨fun b o w => by kernel_rfl⟩
instance ZDI : FaC prog 143 1 4 := ⟨fun b o w => by kernel_rfl⟩
instance ZCS : FaC prog 224 0 0 := ⟨fun b o w => by kernel_rfl⟩
instance ZAZ : FaC prog 224 1 20 := ⟨fun b o w => by kernel_rfl⟩
instance Zzh : FaO prog 24 0 0 0 := ⟨fun b w => by kernel_rfl⟩
instance ZyL : FaO prog 24 1 0 1 := ⟨fun b w => by kernel_rfl⟩
instance ZyF : FaO prog 24 2 0 2 := ⟨fun b w => by kernel_rfl⟩
instance ZyG : FaO prog 26 0 0 0 := ⟨fun b w => by kernel_rfl⟩
instance ZzD : FaO prog 26 1 0 1 := ⟨fun b w => by kernel_rfl⟩
instance Zy0 : FaO prog 26 2 0 2 := ⟨fun b w => by kernel_rfl⟩
instance ZzC : FaO prog 26 3 0 3 := ⟨fun b w => by kernel_rfl⟩
instance Zyl : FaO prog 26 4 0 4 := ⟨fun b w => by kernel_rfl⟩
instance Zyu : FaO prog 26 5 0 5 := ⟨fun b w => by kernel_rfl⟩
instance ZyA : FaO prog 26 6 0 6 := ⟨fun b w => by kernel_rfl⟩
instance ZzZ : FaO prog 26 7 0 7 := ⟨fun b w => by kernel_rfl⟩
instance Zy5 : FaO prog 32 0 0 0 := ⟨fun b w => by kernel_rfl⟩
instance ZyI : FaO prog 32 1 0 1 := ⟨fun b w => by kernel_rfl⟩
instance ZzW : FaO prog 35 0 0 0 := ⟨fun b w => by kernel_rfl⟩
instance Zzj : FaO prog 35 1 0 1 := ⟨fun b w => by kernel_rfl⟩
instance ZzY : FaO prog 35 1 4 5 := ⟨fun b w => by kernel_rfl⟩
instance Zys : FaO prog 35 2 0 2 := ⟨fun b w => by kernel_rfl⟩
instance Zyy : FaO prog 35 3 0 3 := ⟨fun b w => by kernel_rfl⟩
instance ZzP : FaO prog 35 4 0 4 := ⟨fun b w => by kernel_rfl⟩
instance Zzr : FaO prog 35 5 0 5 := ⟨fun b w => by kernel_rfl⟩
instance Zz4 : FaO prog 35 5 4 9 := ⟨fun b w => by kernel_rfl⟩
instance ZzE : FaO prog 35 6 0 6 := ⟨fun b w => by kernel_rfl⟩
instance ZyC : FaO prog 35 6 4 10 := ⟨fun b w => by kernel_rfl⟩
instance Zzm : FaO prog 35 7 0 7 := ⟨fun b w => by kernel_rfl⟩
instance Zyn : FaO prog 40 0 0 0 := ⟨fun b w => by kernel_rfl⟩
instance ZAt : FaO prog 40 1 0 1 := ⟨fun b w => by kernel_rfl⟩
instance ZAi : FaO prog 52 0 0 0 := ⟨fun b w => by kernel_rfl⟩
instance Zz3 : FaO prog 52 1 0 1 := ⟨fun b w => by kernel_rfl⟩
instance Zzq : FaO prog 54 0 0 0 := ⟨fun b w => by kernel_rfl⟩
instance Zzv : FaO prog 54 1 0 2 := ⟨fun b w => by kernel_rfl⟩
instance Zy1 : FaO prog 56 0 0 0 := ⟨fun b w => by kernel_rfl⟩
instance Zy4 : FaO prog 56 1 0 4 := ⟨fun b w => by kernel_rfl⟩
instance Zyk : FaO prog 75 0 0 0 := ⟨fun b w => by kernel_rfl⟩
instance ZAv : FaO prog 75 1 0 1 := ⟨fun b w => by kernel_rfl⟩
instance ZAx : FaO prog 93 0 0 0 := ⟨fun b w => by kernel_rfl⟩
instance Zzl : FaO prog 93 0 4 4 := ⟨fun b w => by kernel_rfl⟩
instance Zzw : FaO prog 93 1 0 4 := ⟨fun b w => by kernel_rfl⟩
instance ZzB : FaO prog 93 1 4 8 := ⟨fun b w => by kernel_rfl⟩
instance Zyw : FaO prog 97 0 0 0 := ⟨fun b w => by kernel_rfl⟩
instance Zzb : FaO prog 97 1 0 4 := ⟨fun b w => by kernel_rfl⟩
instance ZyH : FaO prog 97 2 0 8 := ⟨fun b w => by kernel_rfl⟩
instance ZwZ : FaO prog 111 0 0 0 := ⟨fun b w => by kernel_rfl⟩
instance Zxd : FaO prog 111 1 0 9 := ⟨fun b w => by kernel_rfl⟩
instance ZwQ : FaO prog 111 2 0 18 := ⟨fun b w => by kernel_rfl⟩
instance Zxo : FaO prog 111 3 0 19 := ⟨fun b w => by kernel_rfl⟩
instance Zxc : FaO prog 113 0 0 0 := ⟨fun b w => by kernel_rfl⟩
instance Zx1 : FaO prog 113 1 0 4 := ⟨fun b w => by kernel_rfl⟩
instance Zxl : FaO prog 113 2 0 8 := ⟨fun b w => by kernel_rfl⟩
instance Zw3 : FaO prog 113 3 0 12 := ⟨fun b w => by kernel_rfl⟩
instance Zx7 : FaO prog 115 0 0 0 := ⟨fun b w => by kernel_rfl⟩
instance Zv1 : FaO prog 115 1 0 20 := ⟨fun b w => by kernel_rfl⟩
instance Zxa : FaO prog 122 0 0 0 := ⟨fun b w => by kernel_rfl⟩
instance Zyd : FaO prog 122 1 0 1 := ⟨fun b w => by kernel_rfl⟩
instance Zye : FaO prog 122 2 0 2 := ⟨fun b w => by kernel_rfl⟩
instance Zx6 : FaO prog 122 3 0 3 := ⟨fun b w => by kernel_rfl⟩
instance Zv2 : FaO prog 122 4 0 4 := ⟨fun b w => by kernel_rfl⟩
instance Zv7 : FaO prog 125 0 0 0 := ⟨fun b w => by kernel_rfl⟩
instance ZwJ : FaO prog 125 1 0 1 := ⟨fun b w => by kernel_rfl⟩
instance ZxO : FaO prog 125 2 0 2 := ⟨fun b w => by kernel_rfl⟩
instance Zw0 : FaO prog 125 3 0 3 := ⟨fun b w => by kernel_rfl⟩
instance ZwL : FaO prog 125 4 0 4 := ⟨fun b w => by kernel_rfl⟩
instance Zwa : FaO prog 125 5 0 5 := ⟨fun b w => by kernel_rfl⟩
instance Zwm : FaO prog 143 0 0 0 := ⟨fun b w => by kernel_rfl⟩
instance ZxL : FaO prog 143 1 0 4 := ⟨fun b w => by kernel_rfl⟩
instance Zya : FaO prog 164 0 0 0 := ⟨fun b w => by kernel_rfl⟩
instance ZwH : FaO prog 164 1 0 4 := ⟨fun b w => by kernel_rfl⟩
instance ZxE : FaO prog 164 2 0 8 := ⟨fun b w => by kernel_rfl⟩
instance Zwx : FaO prog 196 0 0 0 := ⟨fun b w => by kernel_rfl⟩
instance ZwT : FaO prog 196 1 0 1 := ⟨fun b w => by kernel_rfl⟩
instance ZwN : FaO prog 224 0 0 0 := ⟨fun b w => by kernel_rfl⟩
instance ZwE : FaO prog 224 1 0 20 := ⟨fun b w => by kernel_rfl⟩
instance ZxA : FaO prog 324 0 0 0 := ⟨fun b w => by kernel_rfl⟩
instance Zxn : FaO prog 324 1 0 1 := ⟨fun b w => by kernel_rfl⟩
instance ZwO : FaO prog 324 2 0 2 := ⟨fun b w => by kernel_rfl⟩
instance ZwW (x : Zbc) : LdC prog 24 (ZK x) 0 (.agg (ZK x)) := ⟨ZQ 3⟩
instance Zyf (x : Zbc) : LdC prog 22 (ZK x) 0 (.slice x.Loads.a x.Loads.len x.Loads.cap) := ⟨Zy⟩
instance Zyz (x : Zbc) : LdC prog 5 (ZK x) 1 (.int .u8 x.Speed) := ⟨Zy⟩
instance Zzu (x : Zbc) : LdC prog 5 (ZK x) 2 (.int .u8 x.Gap) := ⟨Zy⟩
instance Zws (x : Zab) : LdC prog 26 (Z6 x) 0 (.agg (Z6 x)) := ⟨ZQ 8⟩
instance ZzI (x : Zab) : LdC prog 5 (Z6 x) 0 (.int .u8 x.Object) := ⟨Zy⟩
instance ZyW (x : Zab) : LdC prog 5 (Z6 x) 1 (.int .u8 x.Seq) := ⟨Zy⟩
instance ZAb (x : Zab) : LdC prog 5 (Z6 x) 2 (.int .u8 x.Version) := ⟨Zy⟩
instance Zy2 (x : Zab) : LdC prog 5 (Z6 x) 3 (.int .u8 x.Device) := ⟨Zy⟩
instance ZyV (x : Zab) : LdC prog 5 (Z6 x) 4 (.int .u8 x.Time) := ⟨Zy⟩
instance ZAp (x : Zab) : LdC prog 5 (Z6 x) 5 (.int .u8 x.X) := ⟨Zy⟩
instance ZzU (x : Zab) : LdC prog 5 (Z6 x) 6 (.int .u8 x.Y) := ⟨Zy⟩
instance ZyU (x : Zab) : LdC prog 4 (Z6 x) 7 (.bool x.Cancel) := ⟨Zy⟩
instance Zxi (x : ZC) : LdC prog 32 (Zm x) 0 (.agg (Zm x)) := ⟨ZQ 2⟩
instance Zyr (x : ZC) : LdC prog 3 (Zm x) 0 (.int .i64 x.MaxSpeed) := ⟨Zy⟩
instance Zzd (x : ZC) : LdC prog 3 (Zm x) 1 (.int .i64 x.MaxGap) := ⟨Zy⟩
instance Zx9 (x : Zb) : LdC prog 35 (Zd x) 0 (.agg (Zd x)) := ⟨ZQ 8⟩
instance ZAj (x : Zb) : LdC prog 3 (Zd x) 0 (.int .i64 x.Object) := ⟨Zy⟩
instance ZzF (x : Zb) : LdC prog 3 (Zd x) 1 (.int .i64 x.Seq) := ⟨Zy⟩
instance Zy7 (x : Zb) : LdC prog 3 (Zd x) 2 (.int .i64 x.Version) := ⟨Zy⟩
instance ZyM (x : Zb) : LdC prog 3 (Zd x) 3 (.int .i64 x.Device) := ⟨Zy⟩
instance Zy3 (x : Zb) : LdC prog 3 (Zd x) 4 (.int .i64 x.Time) := ⟨Zy⟩
instance ZAc (x : Zb) : LdC prog 3 (Zd x) 5 (.int .i64 x.X) := ⟨Zy⟩
instance Zyi (x : Zb) : LdC prog 3 (Zd x) 6 (.int .i64 x.Y) := ⟨Zy⟩
instance ZzA (x : Zb) : LdC prog 4 (Zd x) 7 (.bool x.Cancel) := ⟨Zy⟩
instance ZxZ (x : ZaC) : LdC prog 40 (Zs x) 0 (.agg (Zs x)) := ⟨ZQ 2⟩
instance Zwl (x : ZaC) : LdC prog 37 (Zs x) 0 (.slice x.Reports.a x.Reports.len x.Reports.cap) := ⟨Zy⟩
instance Zw1 (x : ZaC) : LdC prog 38 (Zs x) 1 (.slice x.Exchanges.a x.Exchanges.len x.Exchanges.cap) := ⟨Zy⟩
instance Zw5 (x : Zaq) : LdC prog 52 (ZR x) 0 (.agg (ZR x)) := ⟨ZQ 2⟩
instance Zza (x : Zaq) : LdC prog 4 (ZR x) 0 (.bool x.Neg) := ⟨Zy⟩
instance Zyp (x : Zaq) : LdC prog 9 (ZR x) 1 (.string x.Mag) := ⟨Zy⟩
instance Zxf (x : Zac) : LdC prog 54 (Zx x) 0 (.agg (Zx x)) := ⟨ZQ 4⟩
instance ZxF (x : Zac) : LdC prog 52 (Zx x) 0 (.agg (ZR x.Num)) := ⟨ZQ 2⟩
instance Zxm (x : Zac) : LdC prog 52 (Zx x) 2 (.agg (ZR x.Den)) := ⟨ZQ 2⟩
instance Zwn (x : ZaU) : LdC prog 35 (Zv x) 4 (.agg (Zd x.Report)) := ⟨ZQ 8⟩
instance ZxY (x : ZbH) : LdC prog 75 (Z4 x) 0 (.agg (Z4 x)) := ⟨ZQ 2⟩
instance ZwA (x : ZbH) : LdC prog 62 (Z4 x) 0 (.slice x.Objects.a x.Objects.len x.Objects.cap) := ⟨Zy⟩
instance Zxs (x : ZbH) : LdC prog 73 (Z4 x) 1 (.slice x.Zones.a x.Zones.len x.Zones.cap) := ⟨Zy⟩
instance Zwt (x : Zav) : LdC prog 78 (ZY x) 1 (.slice x.Units.a x.Units.len x.Units.cap) := ⟨Zy⟩
instance ZAg (x : ZaS) : LdC prog 3 (Zaf x) 0 (.int .i64 x.Id) := ⟨Zy⟩
instance Zwd (x : ZaS) : LdC prog 58 (Zaf x) 1 (.slice x.Units.a x.Units.len x.Units.cap) := ⟨Zy⟩
instance ZuL (x : ZU) : LdC prog 117 (Zam x) 0 (.slice x.Pings.a x.Pings.len x.Pings.cap) := ⟨Zy⟩
instance Zt4 (x : ZU) : LdC prog 118 (Zam x) 1 (.slice x.Calls.a x.Calls.len x.Calls.cap) := ⟨Zy⟩
instance ZtK (x : Za) : LdC prog 122 (Ze x) 0 (.agg (Ze x)) := ⟨ZQ 5⟩
instance Zxp (x : Za) : LdC prog 3 (Ze x) 0 (.int .i64 x.From) := ⟨Zy⟩
instance ZxC (x : Za) : LdC prog 3 (Ze x) 1 (.int .i64 x.To) := ⟨Zy⟩
instance ZxV (x : Za) : LdC prog 3 (Ze x) 2 (.int .i64 x.Sent) := ⟨Zy⟩
instance ZxB (x : Za) : LdC prog 3 (Ze x) 3 (.int .i64 x.Received) := ⟨Zy⟩
instance Zyg (x : Za) : LdC prog 3 (Ze x) 4 (.int .i64 x.Least) := ⟨Zy⟩
instance Zuw (x : Zal) : LdC prog 125 (Zaj x) 0 (.agg (Zaj x)) := ⟨ZQ 6⟩
instance Zxw (x : Zal) : LdC prog 5 (Zaj x) 0 (.int .u8 x.From) := ⟨Zy⟩
instance Zwf (x : Zal) : LdC prog 5 (Zaj x) 1 (.int .u8 x.To) := ⟨Zy⟩
instance Zwk (x : Zal) : LdC prog 5 (Zaj x) 2 (.int .u8 x.Sent) := ⟨Zy⟩
instance Zwu (x : Zal) : LdC prog 5 (Zaj x) 3 (.int .u8 x.Delay) := ⟨Zy⟩
instance ZwC (x : Zal) : LdC prog 5 (Zaj x) 4 (.int .u8 x.Least) := ⟨Zy⟩
instance Zyc (x : Zal) : LdC prog 4 (Zaj x) 5 (.bool x.Wrong) := ⟨Zy⟩
instance ZtC (x : ZE) : LdC prog 133 (ZX x) 0 (.agg (ZX x)) := ⟨ZQ 2⟩
instance ZtX (x : ZbC) : LdC prog 196 (Zan x) 0 (.agg (Zan x)) := ⟨ZQ 2⟩
instance ZxD (x : ZbC) : LdC prog 3 (Zan x) 0 (.int .i64 x.Low) := ⟨Zy⟩
instance Zxj (x : ZbC) : LdC prog 3 (Zan x) 1 (.int .i64 x.High) := ⟨Zy⟩
instance ZuX (x : Zbh) : LdC prog 324 (ZO x) 0 (.agg (ZO x)) := ⟨ZQ 3⟩
instance Zu9 (x : Zbh) : LdC prog 38 (ZO x) 0 (.slice x.l.a x.l.len x.l.cap) := ⟨Zy⟩
instance Zuq (x : Zbh) : LdC prog 106 (ZO x) 1 (.slice x.some.a x.some.len x.some.cap) := ⟨Zy⟩
instance ZwI (x : Zbh) : LdC prog 3 (ZO x) 2 (.int .i64 x.size) := ⟨Zy⟩
instance ZAw (x0 : Int) (x1 : Int) : BdC prog 32 [(0, .int .i64 x0), (1, .int .i64 x1)] (.agg (Zm ⟨x0, x1⟩)) := ⟨fun w => by kernel_rfl⟩
instance Zk7 (x0 : Int) (x1 : Int) (x2 : Int) (x3 : Int) (x4 : Int) (x5 : Int) (x6 : Int) (x7 : Bool) : BdC prog 35 [(0, .int .i64 x0), (1, .int .i64 x1), (2, .int .i64 x2), (3, .int .i64 x3), (4, .int .i64 x4), (5, .int .i64 x5), (6, .int .i64 x6), (7, .bool x7)] (.agg (Zd ⟨x0, x1, x2, x3, x4, x5, x6, x7⟩)) := ⟨fun w => by kernel_rfl⟩
instance ZrJ (x0 : Int) (x1 : Int) (x4 : Int) (x5 : Int) (x6 : Int) : BdC prog 35 [(0, .int .i64 x0), (1, .int .i64 x1), (4, .int .i64 x4), (5, .int .i64 x5), (6, .int .i64 x6)] (.agg (Zd ⟨x0, x1, 0, 0, x4, x5, x6, false⟩)) := ⟨fun w => by kernel_rfl⟩
instance ZE4 (x0 : Option Addr) (x0l x0c : Nat) : BdC prog 40 [(0, .slice x0 x0l x0c)] (.agg (Zs ⟨⟨x0, x0l, x0c⟩, ⟨none, 0, 0⟩⟩)) := ⟨fun w => by kernel_rfl⟩
instance ZG0 : BdC prog 52 [] (.agg (ZR ZaW)) := ⟨fun w => by kernel_rfl⟩
instance Zzt (x0 : Bool) (x1 : ByteArray) : BdC prog 52 [(0, .bool x0), (1, .string x1)] (.agg (ZR ⟨x0, x1⟩)) := ⟨fun w => by kernel_rfl⟩
instance ZGA : BdC prog 54 [] (.agg (Zx Zcc)) := ⟨fun w => by kernel_rfl⟩
instance ZEU (x0 : Zaq) : BdC prog 54 [(0, .agg (ZR x0))] (.agg (Zx ⟨x0, ZaW⟩)) := ⟨fun w => by kernel_rfl⟩
instance ZzQ (x0 : Zaq) (x1 : Zaq) : BdC prog 54 [(0, .agg (ZR x0)), (1, .agg (ZR x1))] (.agg (Zx ⟨x0, x1⟩)) := ⟨fun w => by kernel_rfl⟩
instance ZyE (x0 : Option Addr) (x0l x0c : Nat) (x1 : Option Addr) (x1l x1c : Nat) : BdC prog 75 [(0, .slice x0 x0l x0c), (1, .slice x1 x1l x1c)] (.agg (Z4 ⟨⟨x0, x0l, x0c⟩, ⟨x1, x1l, x1c⟩⟩)) := ⟨fun w => by kernel_rfl⟩
instance ZFc (x0 : ByteArray) : BdC prog 80 [(0, .string x0)] (.agg (ZY ⟨x0, ⟨none, 0, 0⟩⟩)) := ⟨fun w => by kernel_rfl⟩
instance Zzp (x0 : Int) (x1 : Option Addr) (x1l x1c : Nat) : BdC prog 82 [(0, .int .i64 x0), (1, .slice x1 x1l x1c)] (.agg (Zaf ⟨x0, ⟨x1, x1l, x1c⟩⟩)) := ⟨fun w => by kernel_rfl⟩
instance ZqE (x0 : Int) (x1 : Int) (x2 : Int) (x3 : Int) (x4 : Int) : BdC prog 122 [(0, .int .i64 x0), (1, .int .i64 x1), (2, .int .i64 x2), (3, .int .i64 x3), (4, .int .i64 x4)] (.agg (Ze ⟨x0, x1, x2, x3, x4⟩)) := ⟨fun w => by kernel_rfl⟩
instance ZwF (x0 : Int) (x1 : Int) : BdC prog 133 [(0, .int .i64 x0), (1, .int .i64 x1)] (.agg (ZX ⟨x0, x1⟩)) := ⟨fun w => by kernel_rfl⟩
instance ZDP : BdC prog 196 [] (.agg (Zan ZcU)) := ⟨fun w => by kernel_rfl⟩
instance ZxH (x0 : Int) (x1 : Int) : BdC prog 196 [(0, .int .i64 x0), (1, .int .i64 x1)] (.agg (Zan ⟨x0, x1⟩)) := ⟨fun w => by kernel_rfl⟩
instance Zwr (x0 : Option Addr) (x0l x0c : Nat) (x2 : Int) : BdC prog 324 [(0, .slice x0 x0l x0c), (2, .int .i64 x2)] (.agg (ZO ⟨⟨x0, x0l, x0c⟩, ⟨none, 0, 0⟩, x2⟩)) := ⟨fun w => by kernel_rfl⟩
theorem ZhJ (d : Nat) (w : World) (x y : Zb) : (Op.equalIn (d + 2) 35 (.agg (Zd x)) (.agg (Zd y))).run prog w = .ok (decide (x = y)) w := by
 have p0 : ∀ (z : Zb) (u : World), (part 3 (Zd z) 0).run prog u = .ok (.int .i64 z.Object) u := fun _ _ => by kernel_rfl
 have q0 : ∀ (u : World), (Op.equalIn (d + 1) 3 (.int .i64 x.Object) (.int .i64 y.Object)).run prog u = .ok (decide (x.Object = y.Object)) u := fun u => by rw [run_equalIn_int u (d + 0) 3 .i64 .i64 _ _ (by kernel_rfl), ZaV]
 have p1 : ∀ (z : Zb) (u : World), (part 3 (Zd z) 1).run prog u = .ok (.int .i64 z.Seq) u := fun _ _ => by kernel_rfl
 have q1 : ∀ (u : World), (Op.equalIn (d + 1) 3 (.int .i64 x.Seq) (.int .i64 y.Seq)).run prog u = .ok (decide (x.Seq = y.Seq)) u := fun u => by rw [run_equalIn_int u (d + 0) 3 .i64 .i64 _ _ (by kernel_rfl), ZaV]
 have p2 : ∀ (z : Zb) (u : World), (part 3 (Zd z) 2).run prog u = .ok (.int .i64 z.Version) u := fun _ _ => by kernel_rfl
 have q2 : ∀ (u : World), (Op.equalIn (d + 1) 3 (.int .i64 x.Version) (.int .i64 y.Version)).run prog u = .ok (decide (x.Version = y.Version)) u := fun u => by rw [run_equalIn_int u (d + 0) 3 .i64 .i64 _ _ (by kernel_rfl), ZaV]
 have p3 : ∀ (z : Zb) (u : World), (part 3 (Zd z) 3).run prog u = .ok (.int .i64 z.Device) u := fun _ _ => by kernel_rfl
 have q3 : ∀ (u : World), (Op.equalIn (d + 1) 3 (.int .i64 x.Device) (.int .i64 y.Device)).run prog u = .ok (decide (x.Device = y.Device)) u := fun u => by rw [run_equalIn_int u (d + 0) 3 .i64 .i64 _ _ (by kernel_rfl), ZaV]
 have p4 : ∀ (z : Zb) (u : World), (part 3 (Zd z) 4).run prog u = .ok (.int .i64 z.Time) u := fun _ _ => by kernel_rfl
 have q4 : ∀ (u : World), (Op.equalIn (d + 1) 3 (.int .i64 x.Time) (.int .i64 y.Time)).run prog u = .ok (decide (x.Time = y.Time)) u := fun u => by rw [run_equalIn_int u (d + 0) 3 .i64 .i64 _ _ (by kernel_rfl), ZaV]
 have p5 : ∀ (z : Zb) (u : World), (part 3 (Zd z) 5).run prog u = .ok (.int .i64 z.X) u := fun _ _ => by kernel_rfl
 have q5 : ∀ (u : World), (Op.equalIn (d + 1) 3 (.int .i64 x.X) (.int .i64 y.X)).run prog u = .ok (decide (x.X = y.X)) u := fun u => by rw [run_equalIn_int u (d + 0) 3 .i64 .i64 _ _ (by kernel_rfl), ZaV]
 have p6 : ∀ (z : Zb) (u : World), (part 3 (Zd z) 6).run prog u = .ok (.int .i64 z.Y) u := fun _ _ => by kernel_rfl
 have q6 : ∀ (u : World), (Op.equalIn (d + 1) 3 (.int .i64 x.Y) (.int .i64 y.Y)).run prog u = .ok (decide (x.Y = y.Y)) u := fun u => by rw [run_equalIn_int u (d + 0) 3 .i64 .i64 _ _ (by kernel_rfl), ZaV]
 have p7 : ∀ (z : Zb) (u : World), (part 4 (Zd z) 7).run prog u = .ok (.bool z.Cancel) u := fun _ _ => by kernel_rfl
 have q7 : ∀ (u : World), (Op.equalIn (d + 1) 4 (.bool x.Cancel) (.bool y.Cancel)).run prog u = .ok (decide (x.Cancel = y.Cancel)) u := fun u => by rw [run_equalIn_bool' u (d + 0) 4 _ _ (by kernel_rfl), ZdZ]
 have hf : (prog.fieldsOf 35).toList = [{ name := "Object", type := 3, offset := 0, embedded := false, tag := "", pkgPath := "", byteOffset := 0 }, { name := "Seq", type := 3, offset := 1, embedded := false, tag := "", pkgPath := "", byteOffset := 8 }, { name := "Version", type := 3, offset := 2, embedded := false, tag := "", pkgPath := "", byteOffset := 16 }, { name := "Device", type := 3, offset := 3, embedded := false, tag := "", pkgPath := "", byteOffset := 24 }, { name := "Time", type := 3, offset := 4, embedded := false, tag := "", pkgPath := "", byteOffset := 32 }, { name := "X", type := 3, offset := 5, embedded := false, tag := "", pkgPath := "", byteOffset := 40 }, { name := "Y", type := 3, offset := 6, embedded := false, tag := "", pkgPath := "", byteOffset := 48 }, { name := "Cancel", type := 4, offset := 7, embedded := false, tag := "", pkgPath := "", byteOffset := 56 }] := by kernel_rfl
 rw [run_equalIn_struct w (d + 1) 35 _ _ (by kernel_rfl) (by kernel_rfl), hf]
 have hx : x = y ↔ (x.Object = y.Object ∧ x.Seq = y.Seq ∧ x.Version = y.Version ∧ x.Device = y.Device ∧ x.Time = y.Time ∧ x.X = y.X ∧ x.Y = y.Y ∧ x.Cancel = y.Cancel) := by cases x; cases y; simp
 simp only [Op.eqFields, Sem.run_bind, Result.andThen_ok, Sem.run_ite, Sem.run_pure, p0, p1, p2, p3, p4, p5, p6, p7, q0, q1, q2, q3, q4, q5, q6, q7]
 by_cases h0 : x.Object = y.Object <;> by_cases h1 : x.Seq = y.Seq <;> by_cases h2 : x.Version = y.Version <;> by_cases h3 : x.Device = y.Device <;> by_cases h4 : x.Time = y.Time <;> by_cases h5 : x.X = y.X <;> by_cases h6 : x.Y = y.Y <;> by_cases h7 : x.Cancel = y.Cancel <;> simp [hx, h0, h1, h2, h3, h4, h5, h6, h7]
instance ZHm (x y : Zb) : BinC prog .eql 35 (.agg (Zd x)) (.agg (Zd y)) (.bool (decide (x = y))) := ⟨fun a b w => run_eqGuard_agg w _ _ _ _ _ _ (by kernel_rfl), fun w => by rw [run_eql_struct, ZhJ 9998]; rfl⟩
instance ZGr (x y : Zb) : BinC prog .neq 35 (.agg (Zd x)) (.agg (Zd y)) (.bool (!decide (x = y))) := ⟨fun a b w => run_eqGuard_agg w _ _ _ _ _ _ (by kernel_rfl), fun w => by rw [run_neq_struct, ZhJ 9998]; rfl⟩
theorem Zf4 (d : Nat) (w : World) (x y : Zaq) : (Op.equalIn (d + 2) 52 (.agg (ZR x)) (.agg (ZR y))).run prog w = .ok (decide (x = y)) w := by
 have p0 : ∀ (z : Zaq) (u : World), (part 4 (ZR z) 0).run prog u = .ok (.bool z.Neg) u := fun _ _ => by kernel_rfl
 have q0 : ∀ (u : World), (Op.equalIn (d + 1) 4 (.bool x.Neg) (.bool y.Neg)).run prog u = .ok (decide (x.Neg = y.Neg)) u := fun u => by rw [run_equalIn_bool' u (d + 0) 4 _ _ (by kernel_rfl), ZdZ]
 have p1 : ∀ (z : Zaq) (u : World), (part 9 (ZR z) 1).run prog u = .ok (.string z.Mag) u := fun _ _ => by kernel_rfl
 have q1 : ∀ (u : World), (Op.equalIn (d + 1) 9 (.string x.Mag) (.string y.Mag)).run prog u = .ok (decide (x.Mag = y.Mag)) u := fun u => by rw [run_equalIn_string u (d + 0) 9 _ _ (by kernel_rfl), ← beq_toListBytes, Zgl]
 have hf : (prog.fieldsOf 52).toList = [{ name := "Neg", type := 4, offset := 0, embedded := false, tag := "", pkgPath := "", byteOffset := 0 }, { name := "Mag", type := 9, offset := 1, embedded := false, tag := "", pkgPath := "", byteOffset := 8 }] := by kernel_rfl
 rw [run_equalIn_struct w (d + 1) 52 _ _ (by kernel_rfl) (by kernel_rfl), hf]
 have hx : x = y ↔ (x.Neg = y.Neg ∧ x.Mag = y.Mag) := by cases x; cases y; simp
 simp only [Op.eqFields, Sem.run_bind, Result.andThen_ok, Sem.run_ite, Sem.run_pure, p0, p1, q0, q1]
 by_cases h0 : x.Neg = y.Neg <;> by_cases h1 : x.Mag = y.Mag <;> simp [hx, h0, h1]
instance ZF2 (x y : Zaq) : BinC prog .eql 52 (.agg (ZR x)) (.agg (ZR y)) (.bool (decide (x = y))) := ⟨fun a b w => run_eqGuard_agg w _ _ _ _ _ _ (by kernel_rfl), fun w => by rw [run_eql_struct, Zf4 9998]; rfl⟩
instance ZGu (x y : Zaq) : BinC prog .neq 52 (.agg (ZR x)) (.agg (ZR y)) (.bool (!decide (x = y))) := ⟨fun a b w => run_eqGuard_agg w _ _ _ _ _ _ (by kernel_rfl), fun w => by rw [run_neq_struct, Zf4 9998]; rfl⟩
theorem Zbt (d : Nat) (w : World) (x y : Zac) : (Op.equalIn (d + 3) 54 (.agg (Zx x)) (.agg (Zx y))).run prog w = .ok (decide (x = y)) w := by
 have p0 : ∀ (z : Zac) (u : World), (part 52 (Zx z) 0).run prog u = .ok (.agg (ZR z.Num)) u := fun _ _ => by kernel_rfl
 have q0 : ∀ (u : World), (Op.equalIn (d + 2) 52 (.agg (ZR x.Num)) (.agg (ZR y.Num))).run prog u = .ok (decide (x.Num = y.Num)) u := fun u => Zf4 (d + 0) u _ _
 have p1 : ∀ (z : Zac) (u : World), (part 52 (Zx z) 2).run prog u = .ok (.agg (ZR z.Den)) u := fun _ _ => by kernel_rfl
 have q1 : ∀ (u : World), (Op.equalIn (d + 2) 52 (.agg (ZR x.Den)) (.agg (ZR y.Den))).run prog u = .ok (decide (x.Den = y.Den)) u := fun u => Zf4 (d + 0) u _ _
 have hf : (prog.fieldsOf 54).toList = [{ name := "Num", type := 52, offset := 0, embedded := false, tag := "", pkgPath := "", byteOffset := 0 }, { name := "Den", type := 52, offset := 2, embedded := false, tag := "", pkgPath := "", byteOffset := 24 }] := by kernel_rfl
 rw [run_equalIn_struct w (d + 2) 54 _ _ (by kernel_rfl) (by kernel_rfl), hf]
 have hx : x = y ↔ (x.Num = y.Num ∧ x.Den = y.Den) := by cases x; cases y; simp
 simp only [Op.eqFields, Sem.run_bind, Result.andThen_ok, Sem.run_ite, Sem.run_pure, p0, p1, q0, q1]
 by_cases h0 : x.Num = y.Num <;> by_cases h1 : x.Den = y.Den <;> simp [hx, h0, h1]
instance ZGI (x y : Zac) : BinC prog .eql 54 (.agg (Zx x)) (.agg (Zx y)) (.bool (decide (x = y))) := ⟨fun a b w => run_eqGuard_agg w _ _ _ _ _ _ (by kernel_rfl), fun w => by rw [run_eql_struct, Zbt 9997]; rfl⟩
instance ZGf (x y : Zac) : BinC prog .neq 54 (.agg (Zx x)) (.agg (Zx y)) (.bool (!decide (x = y))) := ⟨fun a b w => run_eqGuard_agg w _ _ _ _ _ _ (by kernel_rfl), fun w => by rw [run_neq_struct, Zbt 9997]; rfl⟩
theorem Zsx (d : Nat) (w : World) (x y : ZaU) : (Op.equalIn (d + 4) 56 (.agg (Zv x)) (.agg (Zv y))).run prog w = .ok (decide (x = y)) w := by
 have p0 : ∀ (z : ZaU) (u : World), (part 54 (Zv z) 0).run prog u = .ok (.agg (Zx z.T)) u := fun _ _ => by kernel_rfl
 have q0 : ∀ (u : World), (Op.equalIn (d + 3) 54 (.agg (Zx x.T)) (.agg (Zx y.T))).run prog u = .ok (decide (x.T = y.T)) u := fun u => Zbt (d + 0) u _ _
 have p1 : ∀ (z : ZaU) (u : World), (part 35 (Zv z) 4).run prog u = .ok (.agg (Zd z.Report)) u := fun _ _ => by kernel_rfl
 have q1 : ∀ (u : World), (Op.equalIn (d + 3) 35 (.agg (Zd x.Report)) (.agg (Zd y.Report))).run prog u = .ok (decide (x.Report = y.Report)) u := fun u => ZhJ (d + 1) u _ _
 have hf : (prog.fieldsOf 56).toList = [{ name := "T", type := 54, offset := 0, embedded := false, tag := "", pkgPath := "", byteOffset := 0 }, { name := "Report", type := 35, offset := 4, embedded := false, tag := "", pkgPath := "", byteOffset := 48 }] := by kernel_rfl
 rw [run_equalIn_struct w (d + 3) 56 _ _ (by kernel_rfl) (by kernel_rfl), hf]
 have hx : x = y ↔ (x.T = y.T ∧ x.Report = y.Report) := by cases x; cases y; simp
 simp only [Op.eqFields, Sem.run_bind, Result.andThen_ok, Sem.run_ite, Sem.run_pure, p0, p1, q0, q1]
 by_cases h0 : x.T = y.T <;> by_cases h1 : x.Report = y.Report <;> simp [hx, h0, h1]
instance ZHh (x y : ZaU) : BinC prog .neq 56 (.agg (Zv x)) (.agg (Zv y)) (.bool (!decide (x = y))) := ⟨fun a b w => run_eqGuard_agg w _ _ _ _ _ _ (by kernel_rfl), fun w => by rw [run_neq_struct, Zsx 9996]; rfl⟩
theorem ZhB (d : Nat) (w : World) (x y : Za1) : (Op.equalIn (d + 4) 97 (.agg (ZD x)) (.agg (ZD y))).run prog w = .ok (decide (x = y)) w := by
 have p0 : ∀ (z : Za1) (u : World), (part 54 (ZD z) 0).run prog u = .ok (.agg (Zx z.P)) u := fun _ _ => by kernel_rfl
 have q0 : ∀ (u : World), (Op.equalIn (d + 3) 54 (.agg (Zx x.P)) (.agg (Zx y.P))).run prog u = .ok (decide (x.P = y.P)) u := fun u => Zbt (d + 0) u _ _
 have p1 : ∀ (z : Za1) (u : World), (part 54 (ZD z) 4).run prog u = .ok (.agg (Zx z.R)) u := fun _ _ => by kernel_rfl
 have q1 : ∀ (u : World), (Op.equalIn (d + 3) 54 (.agg (Zx x.R)) (.agg (Zx y.R))).run prog u = .ok (decide (x.R = y.R)) u := fun u => Zbt (d + 0) u _ _
 have p2 : ∀ (z : Za1) (u : World), (part 4 (ZD z) 8).run prog u = .ok (.bool z.Neg) u := fun _ _ => by kernel_rfl
 have q2 : ∀ (u : World), (Op.equalIn (d + 3) 4 (.bool x.Neg) (.bool y.Neg)).run prog u = .ok (decide (x.Neg = y.Neg)) u := fun u => by rw [run_equalIn_bool' u (d + 2) 4 _ _ (by kernel_rfl), ZdZ]
 have hf : (prog.fieldsOf 97).toList = [{ name := "P", type := 54, offset := 0, embedded := false, tag := "", pkgPath := "", byteOffset := 0 }, { name := "R", type := 54, offset := 4, embedded := false, tag := "", pkgPath := "", byteOffset := 48 }, { name := "Neg", type := 4, offset := 8, embedded := false, tag := "", pkgPath := "", byteOffset := 96 }] := by kernel_rfl
 rw [run_equalIn_struct w (d + 3) 97 _ _ (by kernel_rfl) (by kernel_rfl), hf]
 have hx : x = y ↔ (x.P = y.P ∧ x.R = y.R ∧ x.Neg = y.Neg) := by cases x; cases y; simp
 simp only [Op.eqFields, Sem.run_bind, Result.andThen_ok, Sem.run_ite, Sem.run_pure, p0, p1, p2, q0, q1, q2]
 by_cases h0 : x.P = y.P <;> by_cases h1 : x.R = y.R <;> by_cases h2 : x.Neg = y.Neg <;> simp [hx, h0, h1, h2]
instance ZGk (x y : Za1) : BinC prog .eql 97 (.agg (ZD x)) (.agg (ZD y)) (.bool (decide (x = y))) := ⟨fun a b w => run_eqGuard_agg w _ _ _ _ _ _ (by kernel_rfl), fun w => by rw [run_eql_struct, ZhB 9996]; rfl⟩
theorem Zjh (d : Nat) (w : World) (x y : Zaz) : (Op.equalIn (d + 5) 111 (.agg (ZB x)) (.agg (ZB y))).run prog w = .ok (decide (x = y)) w := by
 have p0 : ∀ (z : Zaz) (u : World), (part 97 (ZB z) 0).run prog u = .ok (.agg (ZD z.From)) u := fun _ _ => by kernel_rfl
 have q0 : ∀ (u : World), (Op.equalIn (d + 4) 97 (.agg (ZD x.From)) (.agg (ZD y.From))).run prog u = .ok (decide (x.From = y.From)) u := fun u => ZhB (d + 0) u _ _
 have p1 : ∀ (z : Zaz) (u : World), (part 97 (ZB z) 9).run prog u = .ok (.agg (ZD z.To)) u := fun _ _ => by kernel_rfl
 have q1 : ∀ (u : World), (Op.equalIn (d + 4) 97 (.agg (ZD x.To)) (.agg (ZD y.To))).run prog u = .ok (decide (x.To = y.To)) u := fun u => ZhB (d + 0) u _ _
 have p2 : ∀ (z : Zaz) (u : World), (part 4 (ZB z) 18).run prog u = .ok (.bool z.OpenFrom) u := fun _ _ => by kernel_rfl
 have q2 : ∀ (u : World), (Op.equalIn (d + 4) 4 (.bool x.OpenFrom) (.bool y.OpenFrom)).run prog u = .ok (decide (x.OpenFrom = y.OpenFrom)) u := fun u => by rw [run_equalIn_bool' u (d + 3) 4 _ _ (by kernel_rfl), ZdZ]
 have p3 : ∀ (z : Zaz) (u : World), (part 4 (ZB z) 19).run prog u = .ok (.bool z.OpenTo) u := fun _ _ => by kernel_rfl
 have q3 : ∀ (u : World), (Op.equalIn (d + 4) 4 (.bool x.OpenTo) (.bool y.OpenTo)).run prog u = .ok (decide (x.OpenTo = y.OpenTo)) u := fun u => by rw [run_equalIn_bool' u (d + 3) 4 _ _ (by kernel_rfl), ZdZ]
 have hf : (prog.fieldsOf 111).toList = [{ name := "From", type := 97, offset := 0, embedded := false, tag := "", pkgPath := "", byteOffset := 0 }, { name := "To", type := 97, offset := 9, embedded := false, tag := "", pkgPath := "", byteOffset := 104 }, { name := "OpenFrom", type := 4, offset := 18, embedded := false, tag := "", pkgPath := "", byteOffset := 208 }, { name := "OpenTo", type := 4, offset := 19, embedded := false, tag := "", pkgPath := "", byteOffset := 209 }] := by kernel_rfl
 rw [run_equalIn_struct w (d + 4) 111 _ _ (by kernel_rfl) (by kernel_rfl), hf]
 have hx : x = y ↔ (x.From = y.From ∧ x.To = y.To ∧ x.OpenFrom = y.OpenFrom ∧ x.OpenTo = y.OpenTo) := by cases x; cases y; simp
 simp only [Op.eqFields, Sem.run_bind, Result.andThen_ok, Sem.run_ite, Sem.run_pure, p0, p1, p2, p3, q0, q1, q2, q3]
 by_cases h0 : x.From = y.From <;> by_cases h1 : x.To = y.To <;> by_cases h2 : x.OpenFrom = y.OpenFrom <;> by_cases h3 : x.OpenTo = y.OpenTo <;> simp [hx, h0, h1, h2, h3]
instance ZEA (x y : Zaz) : BinC prog .eql 111 (.agg (ZB x)) (.agg (ZB y)) (.bool (decide (x = y))) := ⟨fun a b w => run_eqGuard_agg w _ _ _ _ _ _ (by kernel_rfl), fun w => by rw [run_eql_struct, Zjh 9995]; rfl⟩
theorem ZjQ (d : Nat) (w : World) (x y : Za8) : (Op.equalIn (d + 4) 113 (.agg (ZW x)) (.agg (ZW y))).run prog w = .ok (decide (x = y)) w := by
 have p0 : ∀ (z : Za8) (u : World), (part 54 (ZW z) 0).run prog u = .ok (.agg (Zx z.X0)) u := fun _ _ => by kernel_rfl
 have q0 : ∀ (u : World), (Op.equalIn (d + 3) 54 (.agg (Zx x.X0)) (.agg (Zx y.X0))).run prog u = .ok (decide (x.X0 = y.X0)) u := fun u => Zbt (d + 0) u _ _
 have p1 : ∀ (z : Za8) (u : World), (part 54 (ZW z) 4).run prog u = .ok (.agg (Zx z.X1)) u := fun _ _ => by kernel_rfl
 have q1 : ∀ (u : World), (Op.equalIn (d + 3) 54 (.agg (Zx x.X1)) (.agg (Zx y.X1))).run prog u = .ok (decide (x.X1 = y.X1)) u := fun u => Zbt (d + 0) u _ _
 have p2 : ∀ (z : Za8) (u : World), (part 54 (ZW z) 8).run prog u = .ok (.agg (Zx z.Y0)) u := fun _ _ => by kernel_rfl
 have q2 : ∀ (u : World), (Op.equalIn (d + 3) 54 (.agg (Zx x.Y0)) (.agg (Zx y.Y0))).run prog u = .ok (decide (x.Y0 = y.Y0)) u := fun u => Zbt (d + 0) u _ _
 have p3 : ∀ (z : Za8) (u : World), (part 54 (ZW z) 12).run prog u = .ok (.agg (Zx z.Y1)) u := fun _ _ => by kernel_rfl
 have q3 : ∀ (u : World), (Op.equalIn (d + 3) 54 (.agg (Zx x.Y1)) (.agg (Zx y.Y1))).run prog u = .ok (decide (x.Y1 = y.Y1)) u := fun u => Zbt (d + 0) u _ _
 have hf : (prog.fieldsOf 113).toList = [{ name := "X0", type := 54, offset := 0, embedded := false, tag := "", pkgPath := "", byteOffset := 0 }, { name := "X1", type := 54, offset := 4, embedded := false, tag := "", pkgPath := "", byteOffset := 48 }, { name := "Y0", type := 54, offset := 8, embedded := false, tag := "", pkgPath := "", byteOffset := 96 }, { name := "Y1", type := 54, offset := 12, embedded := false, tag := "", pkgPath := "", byteOffset := 144 }] := by kernel_rfl
 rw [run_equalIn_struct w (d + 3) 113 _ _ (by kernel_rfl) (by kernel_rfl), hf]
 have hx : x = y ↔ (x.X0 = y.X0 ∧ x.X1 = y.X1 ∧ x.Y0 = y.Y0 ∧ x.Y1 = y.Y1) := by cases x; cases y; simp
 simp only [Op.eqFields, Sem.run_bind, Result.andThen_ok, Sem.run_ite, Sem.run_pure, p0, p1, p2, p3, q0, q1, q2, q3]
 by_cases h0 : x.X0 = y.X0 <;> by_cases h1 : x.X1 = y.X1 <;> by_cases h2 : x.Y0 = y.Y0 <;> by_cases h3 : x.Y1 = y.Y1 <;> simp [hx, h0, h1, h2, h3]
instance ZFC (x y : Za8) : BinC prog .eql 113 (.agg (ZW x)) (.agg (ZW y)) (.bool (decide (x = y))) := ⟨fun a b w => run_eqGuard_agg w _ _ _ _ _ _ (by kernel_rfl), fun w => by rw [run_eql_struct, ZjQ 9996]; rfl⟩
theorem Zpv (d : Nat) (w : World) (x y : ZaY) : (Op.equalIn (d + 6) 115 (.agg (ZS x)) (.agg (ZS y))).run prog w = .ok (decide (x = y)) w := by
 have p0 : ∀ (z : ZaY) (u : World), (part 111 (ZS z) 0).run prog u = .ok (.agg (ZB z.In)) u := fun _ _ => by kernel_rfl
 have q0 : ∀ (u : World), (Op.equalIn (d + 5) 111 (.agg (ZB x.In)) (.agg (ZB y.In))).run prog u = .ok (decide (x.In = y.In)) u := fun u => Zjh (d + 0) u _ _
 have p1 : ∀ (z : ZaY) (u : World), (part 113 (ZS z) 20).run prog u = .ok (.agg (ZW z.F)) u := fun _ _ => by kernel_rfl
 have q1 : ∀ (u : World), (Op.equalIn (d + 5) 113 (.agg (ZW x.F)) (.agg (ZW y.F))).run prog u = .ok (decide (x.F = y.F)) u := fun u => ZjQ (d + 1) u _ _
 have hf : (prog.fieldsOf 115).toList = [{ name := "In", type := 111, offset := 0, embedded := false, tag := "", pkgPath := "", byteOffset := 0 }, { name := "F", type := 113, offset := 20, embedded := false, tag := "", pkgPath := "", byteOffset := 216 }] := by kernel_rfl
 rw [run_equalIn_struct w (d + 5) 115 _ _ (by kernel_rfl) (by kernel_rfl), hf]
 have hx : x = y ↔ (x.In = y.In ∧ x.F = y.F) := by cases x; cases y; simp
 simp only [Op.eqFields, Sem.run_bind, Result.andThen_ok, Sem.run_ite, Sem.run_pure, p0, p1, q0, q1]
 by_cases h0 : x.In = y.In <;> by_cases h1 : x.F = y.F <;> simp [hx, h0, h1]
instance ZEx (x y : ZaY) : BinC prog .neq 115 (.agg (ZS x)) (.agg (ZS y)) (.bool (!decide (x = y))) := ⟨fun a b w => run_eqGuard_agg w _ _ _ _ _ _ (by kernel_rfl), fun w => by rw [run_neq_struct, Zpv 9994]; rfl⟩
theorem Zp0 (d : Nat) (w : World) (x y : ZbU) : (Op.equalIn (d + 4) 164 (.agg (Z1 x)) (.agg (Z1 y))).run prog w = .ok (decide (x = y)) w := by
 have p0 : ∀ (z : ZbU) (u : World), (part 54 (Z1 z) 0).run prog u = .ok (.agg (Zx z.C0)) u := fun _ _ => by kernel_rfl
 have q0 : ∀ (u : World), (Op.equalIn (d + 3) 54 (.agg (Zx x.C0)) (.agg (Zx y.C0))).run prog u = .ok (decide (x.C0 = y.C0)) u := fun u => Zbt (d + 0) u _ _
 have p1 : ∀ (z : ZbU) (u : World), (part 54 (Z1 z) 4).run prog u = .ok (.agg (Zx z.C1)) u := fun _ _ => by kernel_rfl
 have q1 : ∀ (u : World), (Op.equalIn (d + 3) 54 (.agg (Zx x.C1)) (.agg (Zx y.C1))).run prog u = .ok (decide (x.C1 = y.C1)) u := fun u => Zbt (d + 0) u _ _
 have p2 : ∀ (z : ZbU) (u : World), (part 54 (Z1 z) 8).run prog u = .ok (.agg (Zx z.C2)) u := fun _ _ => by kernel_rfl
 have q2 : ∀ (u : World), (Op.equalIn (d + 3) 54 (.agg (Zx x.C2)) (.agg (Zx y.C2))).run prog u = .ok (decide (x.C2 = y.C2)) u := fun u => Zbt (d + 0) u _ _
 have hf : (prog.fieldsOf 164).toList = [{ name := "C0", type := 54, offset := 0, embedded := false, tag := "", pkgPath := "", byteOffset := 0 }, { name := "C1", type := 54, offset := 4, embedded := false, tag := "", pkgPath := "", byteOffset := 48 }, { name := "C2", type := 54, offset := 8, embedded := false, tag := "", pkgPath := "", byteOffset := 96 }] := by kernel_rfl
 rw [run_equalIn_struct w (d + 3) 164 _ _ (by kernel_rfl) (by kernel_rfl), hf]
 have hx : x = y ↔ (x.C0 = y.C0 ∧ x.C1 = y.C1 ∧ x.C2 = y.C2) := by cases x; cases y; simp
 simp only [Op.eqFields, Sem.run_bind, Result.andThen_ok, Sem.run_ite, Sem.run_pure, p0, p1, p2, q0, q1, q2]
 by_cases h0 : x.C0 = y.C0 <;> by_cases h1 : x.C1 = y.C1 <;> by_cases h2 : x.C2 = y.C2 <;> simp [hx, h0, h1, h2]
instance ZEt (x y : ZbU) : BinC prog .eql 164 (.agg (Z1 x)) (.agg (Z1 y)) (.bool (decide (x = y))) := ⟨fun a b w => run_eqGuard_agg w _ _ _ _ _ _ (by kernel_rfl), fun w => by rw [run_eql_struct, Zp0 9996]; rfl⟩
theorem callG {P : Program} {a k b f : Nat} (hb : Nat.blt b (a + k) = true) (h : ((List.range k).all fun i => callableB P (i + a)) = true) (h1 : cnd (Nat.ble a f) (cnd (Nat.ble f b) (some ()) none) none = some ()) : callableB P f = true := by
 cases h3 : Nat.ble a f
 ·rw [h3] at h1; cases h1
 ·cases h4 : Nat.ble f b
  ·rw [h3, h4] at h1; cases h1
  ·have h5 := Nat.le_of_ble_eq_true h3
   have h6 := Nat.le_of_ble_eq_true h4
   have h8 : b < a + k := Nat.le_of_ble_eq_true hb
   have h7 := List.all_eq_true.1 h (f - a) (List.mem_range.2 (by omega))
   rwa [show f - a + a = f by omega] at h7
theorem callB : ((List.range 206).all fun i => callableB prog (i + 3)) = true := by kernel_rfl
instance (priority := low) callR (f : Nat) [h : IsC (cnd (Nat.ble 3 f) (cnd (Nat.ble f 208) (some ()) none) none) ()] : CallC prog f := ⟨callG rfl callB h.out⟩
instance ZBk : CallC prog 210 := ⟨by kernel_rfl⟩
instance ZC3 : CallC prog 211 := ⟨by kernel_rfl⟩
instance ZBU : CallC prog 212 := ⟨by kernel_rfl⟩
instance ZBI : CallC prog 213 := ⟨by kernel_rfl⟩
instance ZBV : CallC prog 214 := ⟨by kernel_rfl⟩
instance ZCQ : CallC prog 215 := ⟨by kernel_rfl⟩
instance ZDz : CallC prog 216 := ⟨by kernel_rfl⟩
instance ZA3 : CallC prog 217 := ⟨by kernel_rfl⟩
instance ZDh : CallC prog 218 := ⟨by kernel_rfl⟩
instance ZAA : CallC prog 219 := ⟨by kernel_rfl⟩
instance ZDo : CallC prog 220 := ⟨by kernel_rfl⟩
instance ZCJ : CallC prog 221 := ⟨by kernel_rfl⟩
instance ZCB : CallC prog 222 := ⟨by kernel_rfl⟩
instance ZB6 : CallC prog 223 := ⟨by kernel_rfl⟩
instance ZDJ : CallC prog 225 := ⟨by kernel_rfl⟩
instance ZDi : CallC prog 226 := ⟨by kernel_rfl⟩
instance ZAR : CallC prog 227 := ⟨by kernel_rfl⟩
instance ZAI : CallC prog 242 := ⟨by kernel_rfl⟩
instance ZCU : CallC prog 244 := ⟨by kernel_rfl⟩
instance ZAY : CallC prog 245 := ⟨by kernel_rfl⟩
instance ZDq : CallC prog 246 := ⟨by kernel_rfl⟩
instance ZB0 : CallC prog 248 := ⟨by kernel_rfl⟩
instance ZAy : CallC prog 257 := ⟨by kernel_rfl⟩
instance ZB5 : CallC prog 258 := ⟨by kernel_rfl⟩
instance ZDw : CallC prog 260 := ⟨by kernel_rfl⟩
instance ZCR : CallC prog 264 := ⟨by kernel_rfl⟩
instance ZBq : CallC prog 265 := ⟨by kernel_rfl⟩
instance ZCM : CallC prog 266 := ⟨by kernel_rfl⟩
instance ZAQ : CallC prog 269 := ⟨by kernel_rfl⟩
instance ZBu : CallC prog 270 := ⟨by kernel_rfl⟩
instance ZAV : CallC prog 271 := ⟨by kernel_rfl⟩
instance ZA6 : CallC prog 272 := ⟨by kernel_rfl⟩
instance ZDs : CallC prog 273 := ⟨by kernel_rfl⟩
instance ZBE : CallC prog 295 := ⟨by kernel_rfl⟩
instance ZCs : CallC prog 296 := ⟨by kernel_rfl⟩
instance ZDj : CallC prog 302 := ⟨by kernel_rfl⟩
instance ZCW : CallC prog 303 := ⟨by kernel_rfl⟩
instance ZBb : CallC prog 309 := ⟨by kernel_rfl⟩
instance ZCT : CallC prog 324 := ⟨by kernel_rfl⟩
instance ZC2 : CallC prog 417 := ⟨by kernel_rfl⟩
instance ZAW : CallC prog 418 := ⟨by kernel_rfl⟩
instance ZCk : CallC prog 419 := ⟨by kernel_rfl⟩
instance ZAO : CallC prog 420 := ⟨by kernel_rfl⟩
instance ZA2 : CallC prog 421 := ⟨by kernel_rfl⟩
instance ZC5 : CallC prog 422 := ⟨by kernel_rfl⟩
instance ZBX : CallC prog 423 := ⟨by kernel_rfl⟩
instance ZBT : CallC prog 424 := ⟨by kernel_rfl⟩
theorem mixed : prog.follows .mixedOrders = true := by kernel_rfl
end Go.Vt
