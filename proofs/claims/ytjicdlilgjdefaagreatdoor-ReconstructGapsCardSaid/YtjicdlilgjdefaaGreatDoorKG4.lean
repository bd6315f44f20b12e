/- that the gaps between reports are those of the chain (part 4 of 32.) Conditions: those that each statement names. -/
import Derived.Test.YtjicdlilgjdefaaGreatDoorProg
import Derived.Lib.Bytealg
import Derived.Lib.Small
import Derived.Lib.BitFns
import Derived.Test.YtjicdlilgjdefaaGreatDoorKG3
set_option linter.unusedVariables false
set_option maxRecDepth 100000
set_option linter.unusedSimpArgs false
set_option maxHeartbeats 2000000
namespace Go.Vt
open Go.RowKit Go.Proofs
open Go.Proofs.Tryz (prog)
structure Sl where
 a:Option Addr
 len:Nat
 cap:Nat
structure Zbb where
 Loads:Sl
 Speed:Int
 Gap:Int
def ZK (x:Zbb):Array Value:=#[.slice x.Loads.a x.Loads.len x.Loads.cap, .int .u8 x.Speed, .int .u8 x.Gap]
structure Z7 where
 Object:Int
 Seq:Int
 Version:Int
 Device:Int
 Time:Int
 X:Int
 Y:Int
 Cancel:Bool
 deriving DecidableEq
def Z5 (x:Z7):Array Value:=#[.int .u8 x.Object, .int .u8 x.Seq, .int .u8 x.Version, .int .u8 x.Device, .int .u8 x.Time, .int .u8 x.X, .int .u8 x.Y, .bool x.Cancel]
def ZfK :Z7:=⟨0,0,0,0,0,0,0,false⟩
instance ZoD (x:Z7):CsC (Z5 x) 8:=⟨by kernel_rfl,by kernel_rfl⟩
structure ZR where
 MaxSpeed:Int
 MaxGap:Int
 deriving DecidableEq
def Zv (x:ZR):Array Value:=#[.int .i64 x.MaxSpeed, .int .i64 x.MaxGap]
def ZeT :ZR:=⟨0,0⟩
instance Zs3 (x:ZR):CsC (Zv x) 2:=⟨by kernel_rfl,by kernel_rfl⟩
structure Zb where
 Object:Int
 Seq:Int
 Version:Int
 Device:Int
 Time:Int
 X:Int
 Y:Int
 Cancel:Bool
 deriving DecidableEq
def Zd (x:Zb):Array Value:=#[.int .i64 x.Object, .int .i64 x.Seq, .int .i64 x.Version, .int .i64 x.Device, .int .i64 x.Time, .int .i64 x.X, .int .i64 x.Y, .bool x.Cancel]
def Zat :Zb:=⟨0,0,0,0,0,0,0,false⟩
instance ZuZ (x:Zb):CsC (Zd x) 8:=⟨by kernel_rfl,by kernel_rfl⟩
structure ZaI where
 Reports:Sl
 Exchanges:Sl
def ZB (x:ZaI):Array Value:=#[.slice x.Reports.a x.Reports.len x.Reports.cap, .slice x.Exchanges.a x.Exchanges.len x.Exchanges.cap]
def Zcz :ZaI:=⟨⟨none,0,0⟩,⟨none,0,0⟩⟩
instance ZwB (x:ZaI):CsC (ZB x) 2:=⟨by kernel_rfl,by kernel_rfl⟩
structure Zan where
 Neg:Bool
 Mag:ByteArray
 deriving DecidableEq
def ZM (x:Zan):Array Value:=#[.bool x.Neg, .string x.Mag]
def ZaW :Zan:=⟨false,ByteArray.empty⟩
instance ZzC (x:Zan):CsC (ZM x) 2:=⟨by kernel_rfl,by kernel_rfl⟩
structure Z1 where
 Num:Zan
 Den:Zan
 deriving DecidableEq
def Zu (x:Z1):Array Value:=#[.bool x.Num.Neg, .string x.Num.Mag, .bool x.Den.Neg, .string x.Den.Mag]
def Zcb :Z1:=⟨ZaW,ZaW⟩
instance Zyp (x:Z1):CsC (Zu x) 4:=⟨by kernel_rfl,by kernel_rfl⟩
structure Zce where
 T:Z1
 Report:Zb
 deriving DecidableEq
def ZL (x:Zce):Array Value:=#[.bool x.T.Num.Neg, .string x.T.Num.Mag, .bool x.T.Den.Neg, .string x.T.Den.Mag, .int .i64 x.Report.Object, .int .i64 x.Report.Seq, .int .i64 x.Report.Version, .int .i64 x.Report.Device, .int .i64 x.Report.Time, .int .i64 x.Report.X, .int .i64 x.Report.Y, .bool x.Report.Cancel]
instance Ztq (x:Zce):CsC (ZL x) 12:=⟨by kernel_rfl,by kernel_rfl⟩
structure Zep where
 X:Z1
 Y:Z1
 deriving DecidableEq
def ZaN (x:Zep):Array Value:=#[.bool x.X.Num.Neg, .string x.X.Num.Mag, .bool x.X.Den.Neg, .string x.X.Den.Mag, .bool x.Y.Num.Neg, .string x.Y.Num.Mag, .bool x.Y.Den.Neg, .string x.Y.Den.Mag]
instance Zv0 (x:Zep):CsC (ZaN x) 8:=⟨by kernel_rfl,by kernel_rfl⟩
structure ZaU where
 P:Z1
 R:Z1
 Neg:Bool
 deriving DecidableEq
def Zs (x:ZaU):Array Value:=#[.bool x.P.Num.Neg, .string x.P.Num.Mag, .bool x.P.Den.Neg, .string x.P.Den.Mag, .bool x.R.Num.Neg, .string x.R.Num.Mag, .bool x.R.Den.Neg, .string x.R.Den.Mag, .bool x.Neg]
instance Zxo (x:ZaU):CsC (Zs x) 9:=⟨by kernel_rfl,by kernel_rfl⟩
structure ZcP where
 Value:ZaU
 At:ZaU
 Reached:Bool
 deriving DecidableEq
structure Zaz where
 From:ZaU
 To:ZaU
 OpenFrom:Bool
 OpenTo:Bool
 deriving DecidableEq
def Zz (x:Zaz):Array Value:=#[.bool x.From.P.Num.Neg, .string x.From.P.Num.Mag, .bool x.From.P.Den.Neg, .string x.From.P.Den.Mag, .bool x.From.R.Num.Neg, .string x.From.R.Num.Mag, .bool x.From.R.Den.Neg, .string x.From.R.Den.Mag, .bool x.From.Neg, .bool x.To.P.Num.Neg, .string x.To.P.Num.Mag, .bool x.To.P.Den.Neg, .string x.To.P.Den.Mag, .bool x.To.R.Num.Neg, .string x.To.R.Num.Mag, .bool x.To.R.Den.Neg, .string x.To.R.Den.Mag, .bool x.To.Neg, .bool x.OpenFrom, .bool x.OpenTo]
instance Zta (x:Zaz):CsC (Zz x) 20:=⟨by kernel_rfl,by kernel_rfl⟩
structure Za7 where
 X0:Z1
 X1:Z1
 Y0:Z1
 Y1:Z1
 deriving DecidableEq
def ZV (x:Za7):Array Value:=#[.bool x.X0.Num.Neg, .string x.X0.Num.Mag, .bool x.X0.Den.Neg, .string x.X0.Den.Mag, .bool x.X1.Num.Neg, .string x.X1.Num.Mag, .bool x.X1.Den.Neg, .string x.X1.Den.Mag, .bool x.Y0.Num.Neg, .string x.Y0.Num.Mag, .bool x.Y0.Den.Neg, .string x.Y0.Den.Mag, .bool x.Y1.Num.Neg, .string x.Y1.Num.Mag, .bool x.Y1.Den.Neg, .string x.Y1.Den.Mag]
instance ZxS (x:Za7):CsC (ZV x) 16:=⟨by kernel_rfl,by kernel_rfl⟩
structure Zdz where
 In:Zaz
 F:Za7
 deriving DecidableEq
def Zaf (x:Zdz):Array Value:=#[.bool x.In.From.P.Num.Neg, .string x.In.From.P.Num.Mag, .bool x.In.From.P.Den.Neg, .string x.In.From.P.Den.Mag, .bool x.In.From.R.Num.Neg, .string x.In.From.R.Num.Mag, .bool x.In.From.R.Den.Neg, .string x.In.From.R.Den.Mag, .bool x.In.From.Neg, .bool x.In.To.P.Num.Neg, .string x.In.To.P.Num.Mag, .bool x.In.To.P.Den.Neg, .string x.In.To.P.Den.Mag, .bool x.In.To.R.Num.Neg, .string x.In.To.R.Num.Mag, .bool x.In.To.R.Den.Neg, .string x.In.To.R.Den.Mag, .bool x.In.To.Neg, .bool x.In.OpenFrom, .bool x.In.OpenTo, .bool x.F.X0.Num.Neg, .string x.F.X0.Num.Mag, .bool x.F.X0.Den.Neg, .string x.F.X0.Den.Mag, .bool x.F.X1.Num.Neg, .string x.F.X1.Num.Mag, .bool x.F.X1.Den.Neg, .string x.F.X1.Den.Mag, .bool x.F.Y0.Num.Neg, .string x.F.Y0.Num.Mag, .bool x.F.Y0.Den.Neg, .string x.F.Y0.Den.Mag, .bool x.F.Y1.Num.Neg, .string x.F.Y1.Num.Mag, .bool x.F.Y1.Den.Neg, .string x.F.Y1.Den.Mag]
instance Zq9 (x:Zdz):CsC (Zaf x) 36:=⟨by kernel_rfl,by kernel_rfl⟩
structure ZT where
 Pings:Sl
 Calls:Sl
def Zak (x:ZT):Array Value:=#[.slice x.Pings.a x.Pings.len x.Pings.cap, .slice x.Calls.a x.Calls.len x.Calls.cap]
def ZfJ :ZT:=⟨⟨none,0,0⟩,⟨none,0,0⟩⟩
instance ZoC (x:ZT):CsC (Zak x) 2:=⟨by kernel_rfl,by kernel_rfl⟩
structure Za where
 From:Int
 To:Int
 Sent:Int
 Received:Int
 Least:Int
 deriving DecidableEq
def Zf (x:Za):Array Value:=#[.int .i64 x.From, .int .i64 x.To, .int .i64 x.Sent, .int .i64 x.Received, .int .i64 x.Least]
def Zdh :Za:=⟨0,0,0,0,0⟩
instance Zs7 (x:Za):CsC (Zf x) 5:=⟨by kernel_rfl,by kernel_rfl⟩
structure Zai where
 From:Int
 To:Int
 Sent:Int
 Delay:Int
 Least:Int
 Wrong:Bool
 deriving DecidableEq
def Zae (x:Zai):Array Value:=#[.int .u8 x.From, .int .u8 x.To, .int .u8 x.Sent, .int .u8 x.Delay, .int .u8 x.Least, .bool x.Wrong]
def ZfS :Zai:=⟨0,0,0,0,0,false⟩
instance ZoE (x:Zai):CsC (Zae x) 6:=⟨by kernel_rfl,by kernel_rfl⟩
structure ZF where
 object:Int
 seq:Int
 deriving DecidableEq
def ZU (x:ZF):Array Value:=#[.int .i64 x.object, .int .i64 x.seq]
def Zcr :ZF:=⟨0,0⟩
instance Zqy (x:ZF):CsC (ZU x) 2:=⟨by kernel_rfl,by kernel_rfl⟩
structure Zca where
 T:Z1
 P:Zep
 deriving DecidableEq
def Z3 (x:Zca):Array Value:=#[.bool x.T.Num.Neg, .string x.T.Num.Mag, .bool x.T.Den.Neg, .string x.T.Den.Mag, .bool x.P.X.Num.Neg, .string x.P.X.Num.Mag, .bool x.P.X.Den.Neg, .string x.P.X.Den.Mag, .bool x.P.Y.Num.Neg, .string x.P.Y.Num.Mag, .bool x.P.Y.Den.Neg, .string x.P.Y.Den.Mag]
instance Zmr (x:Zca):CsC (Z3 x) 12:=⟨by kernel_rfl,by kernel_rfl⟩
structure ZbP where
 C0:Z1
 C1:Z1
 C2:Z1
 deriving DecidableEq
def Z0 (x:ZbP):Array Value:=#[.bool x.C0.Num.Neg, .string x.C0.Num.Mag, .bool x.C0.Den.Neg, .string x.C0.Den.Mag, .bool x.C1.Num.Neg, .string x.C1.Num.Mag, .bool x.C1.Den.Neg, .string x.C1.Den.Mag, .bool x.C2.Num.Neg, .string x.C2.Num.Mag, .bool x.C2.Den.Neg, .string x.C2.Den.Mag]
instance Zxx (x:ZbP):CsC (Z0 x) 12:=⟨by kernel_rfl,by kernel_rfl⟩
structure ZbD where
 Low:Int
 High:Int
 deriving DecidableEq
def Zam (x:ZbD):Array Value:=#[.int .i64 x.Low, .int .i64 x.High]
def Zdb :ZbD:=⟨0,0⟩
instance Zti (x:ZbD):CsC (Zam x) 2:=⟨by kernel_rfl,by kernel_rfl⟩
structure ZbT where
 In:Zaz
 F:Za7
 deriving DecidableEq
def ZD (x:ZbT):Array Value:=#[.bool x.In.From.P.Num.Neg, .string x.In.From.P.Num.Mag, .bool x.In.From.P.Den.Neg, .string x.In.From.P.Den.Mag, .bool x.In.From.R.Num.Neg, .string x.In.From.R.Num.Mag, .bool x.In.From.R.Den.Neg, .string x.In.From.R.Den.Mag, .bool x.In.From.Neg, .bool x.In.To.P.Num.Neg, .string x.In.To.P.Num.Mag, .bool x.In.To.P.Den.Neg, .string x.In.To.P.Den.Mag, .bool x.In.To.R.Num.Neg, .string x.In.To.R.Num.Mag, .bool x.In.To.R.Den.Neg, .string x.In.To.R.Den.Mag, .bool x.In.To.Neg, .bool x.In.OpenFrom, .bool x.In.OpenTo, .bool x.F.X0.Num.Neg, .string x.F.X0.Num.Mag, .bool x.F.X0.Den.Neg, .string x.F.X0.Den.Mag, .bool x.F.X1.Num.Neg, .string x.F.X1.Num.Mag, .bool x.F.X1.Den.Neg, .string x.F.X1.Den.Mag, .bool x.F.Y0.Num.Neg, .string x.F.Y0.Num.Mag, .bool x.F.Y0.Den.Neg, .string x.F.Y0.Den.Mag, .bool x.F.Y1.Num.Neg, .string x.F.Y1.Num.Mag, .bool x.F.Y1.Den.Neg, .string x.F.Y1.Den.Mag]
instance Zlh (x:ZbT):CsC (ZD x) 36:=⟨by kernel_rfl,by kernel_rfl⟩
structure Zbj where
 l:Sl
 some:Sl
 size:Int
def ZP (x:Zbj):Array Value:=#[.slice x.l.a x.l.len x.l.cap, .slice x.some.a x.some.len x.some.cap, .int .i64 x.size]
def ZdA :Zbj:=⟨⟨none,0,0⟩,⟨none,0,0⟩,0⟩
instance Zun (x:Zbj):CsC (ZP x) 3:=⟨by kernel_rfl,by kernel_rfl⟩
structure Zas where
 neg:Bool
 num:Sl
 den:Sl
def Zo (x:Zas):Array Value:=#[.bool x.neg, .slice x.num.a x.num.len x.num.cap, .slice x.den.a x.den.len x.den.cap]
def ZbB :Zas:=⟨false,⟨none,0,0⟩,⟨none,0,0⟩⟩
instance Zli (x:Zas):CsC (Zo x) 3:=⟨by kernel_rfl,by kernel_rfl⟩
structure Zdx where
 at_:ZaU
 behind:Bool
 deriving DecidableEq
def Zag (x:Zdx):Array Value:=#[.bool x.at_.P.Num.Neg, .string x.at_.P.Num.Mag, .bool x.at_.P.Den.Neg, .string x.at_.P.Den.Mag, .bool x.at_.R.Num.Neg, .string x.at_.R.Num.Mag, .bool x.at_.R.Den.Neg, .string x.at_.R.Den.Mag, .bool x.at_.Neg, .bool x.behind]
instance ZrR (x:Zdx):CsC (Zag x) 10:=⟨by kernel_rfl,by kernel_rfl⟩
instance ZKS :UndC prog 2 (.int .i64):=⟨by kernel_rfl⟩
instance ZKU :UndC prog 3 (.int .i64):=⟨by kernel_rfl⟩
instance ZK0 :UndC prog 4 (.bool):=⟨by kernel_rfl⟩
instance ZKJ :UndC prog 5 (.int .u8):=⟨by kernel_rfl⟩
instance ZKT :UndC prog 9 (.string):=⟨by kernel_rfl⟩
instance ZJb :UndC prog 22 (.slice 120):=⟨by kernel_rfl⟩
instance ZJj :UndC prog 29 (.slice 40):=⟨by kernel_rfl⟩
instance ZJX :UndC prog 37 (.slice 35):=⟨by kernel_rfl⟩
instance ZJR :UndC prog 38 (.slice 122):=⟨by kernel_rfl⟩
instance ZKp :UndC prog 48 (.slice 56):=⟨by kernel_rfl⟩
instance ZJD :UndC prog 58 (.slice 115):=⟨by kernel_rfl⟩
instance ZJ9 :UndC prog 84 (.slice 111):=⟨by kernel_rfl⟩
instance ZId :UndC prog 106 (.slice 3):=⟨by kernel_rfl⟩
instance ZGW :UndC prog 117 (.slice 26):=⟨by kernel_rfl⟩
instance ZIk :UndC prog 118 (.slice 125):=⟨by kernel_rfl⟩
instance ZHT :UndC prog 141 (.slice 143):=⟨by kernel_rfl⟩
instance ZIp :UndC prog 151 (.slice 97):=⟨by kernel_rfl⟩
instance ZGF :UndC prog 157 (.slice 224):=⟨by kernel_rfl⟩
instance ZHU :UndC prog 226 (.int .u64):=⟨by kernel_rfl⟩
instance ZHI :UndC prog 293 (.slice 5):=⟨by kernel_rfl⟩
instance ZGS :UndC prog 294 (.int .u64):=⟨by kernel_rfl⟩
instance ZHg :UndC prog 363 (.slice 365):=⟨by kernel_rfl⟩
instance ZHN :UndC prog 365 (.int .u32):=⟨by kernel_rfl⟩
instance ZGM :UndC prog 400 (.slice 407):=⟨by kernel_rfl⟩
instance ZGT :UndC prog 401 (.slice 84):=⟨by kernel_rfl⟩
instance ZIV :UndC prog 256 (.array 8 3):=⟨by kernel_rfl⟩
instance ZIE :UndC prog 292 (.array 8 5):=⟨by kernel_rfl⟩
instance ZHS :UndC prog 405 (.array 2 3):=⟨by kernel_rfl⟩
instance ZGL :BytesC prog 3 8:=⟨by kernel_rfl⟩
instance ZIm :BytesC prog 5 1:=⟨by kernel_rfl⟩
instance ZER :BytesC prog 35 64:=⟨by kernel_rfl⟩
instance ZDc :BytesC prog 40 48:=⟨by kernel_rfl⟩
instance ZEV :BytesC prog 56 112:=⟨by kernel_rfl⟩
instance ZDx :BytesC prog 97 104:=⟨by kernel_rfl⟩
instance ZCn :BytesC prog 111 216:=⟨by kernel_rfl⟩
instance ZAU :BytesC prog 115 408:=⟨by kernel_rfl⟩
instance ZAk :BytesC prog 122 40:=⟨by kernel_rfl⟩
instance ZAv :BytesC prog 143 144:=⟨by kernel_rfl⟩
instance ZBE :BytesC prog 224 408:=⟨by kernel_rfl⟩
instance ZCr :BytesC prog 365 4:=⟨by kernel_rfl⟩
instance ZBA :BytesC prog 407 128:=⟨by kernel_rfl⟩
instance ZJJ :ZeroC prog 3 (.int .i64 0) #[.int .i64 0]:=⟨by kernel_rfl,by kernel_rfl⟩
instance ZJu :SizeC prog 3 1:=⟨by kernel_rfl⟩
instance ZKX (x:Int):LdC prog 3 #[.int .i64 x] 0 (.int .i64 x):=⟨ZC⟩
instance ZJh :ZeroC prog 4 (.bool false) #[.bool false]:=⟨by kernel_rfl,by kernel_rfl⟩
instance ZJr :ZeroC prog 5 (.int .u8 0) #[.int .u8 0]:=⟨by kernel_rfl,by kernel_rfl⟩
instance ZJ0 :SizeC prog 5 1:=⟨by kernel_rfl⟩
instance ZG3 :SizeC prog 26 8:=⟨by kernel_rfl⟩
instance ZGV :ZeroC prog 32 (.agg (Zv ZeT)) (Zv ZeT):=⟨by kernel_rfl,by kernel_rfl⟩
instance ZIw :SizeC prog 32 2:=⟨by kernel_rfl⟩
instance ZHs :ZeroC prog 35 (.agg (Zd Zat)) (Zd Zat):=⟨by kernel_rfl,by kernel_rfl⟩
instance ZH4 :SizeC prog 35 8:=⟨by kernel_rfl⟩
instance ZJF (x:Option Addr)(l c:Nat):LdC prog 37 #[.slice x l c] 0 (.slice x l c):=⟨ZC⟩
instance ZJ7 (x:Option Addr)(l c:Nat):LdC prog 38 #[.slice x l c] 0 (.slice x l c):=⟨ZC⟩
instance ZIZ :ZeroC prog 40 (.agg (ZB Zcz)) (ZB Zcz):=⟨by kernel_rfl,by kernel_rfl⟩
instance ZIM :SizeC prog 40 2:=⟨by kernel_rfl⟩
instance ZHC :ZeroC prog 52 (.agg (ZM ZaW)) (ZM ZaW):=⟨by kernel_rfl,by kernel_rfl⟩
instance ZIg :SizeC prog 52 2:=⟨by kernel_rfl⟩
instance ZIB :ZeroC prog 54 (.agg (Zu Zcb)) (Zu Zcb):=⟨by kernel_rfl,by kernel_rfl⟩
instance ZHR :SizeC prog 54 4:=⟨by kernel_rfl⟩
instance ZG9 :SizeC prog 56 12:=⟨by kernel_rfl⟩
instance ZIW :SizeC prog 84 1:=⟨by kernel_rfl⟩
instance ZIK :SizeC prog 93 8:=⟨by kernel_rfl⟩
instance ZIh :SizeC prog 97 9:=⟨by kernel_rfl⟩
instance ZGI (x:Option Addr)(l c:Nat):LdC prog 106 #[.slice x l c] 0 (.slice x l c):=⟨ZC⟩
instance ZCU :SizeC prog 111 20:=⟨by kernel_rfl⟩
instance ZFx :SizeC prog 113 16:=⟨by kernel_rfl⟩
instance ZFM :SizeC prog 115 36:=⟨by kernel_rfl⟩
instance ZC6 :SizeC prog 120 2:=⟨by kernel_rfl⟩
instance ZEu :ZeroC prog 122 (.agg (Zf Zdh)) (Zf Zdh):=⟨by kernel_rfl,by kernel_rfl⟩
instance ZD8 :SizeC prog 122 5:=⟨by kernel_rfl⟩
instance ZGv :SizeC prog 125 6:=⟨by kernel_rfl⟩
instance ZD1 :ZeroC prog 133 (.agg (ZU Zcr)) (ZU Zcr):=⟨by kernel_rfl,by kernel_rfl⟩
instance ZEl :SizeC prog 133 2:=⟨by kernel_rfl⟩
instance ZGo :SizeC prog 143 12:=⟨by kernel_rfl⟩
instance ZD2 :ZeroC prog 157 (.slice none 0 0) #[.slice none 0 0]:=⟨by kernel_rfl,by kernel_rfl⟩
instance ZD7 :SizeC prog 157 1:=⟨by kernel_rfl⟩
instance ZDA :SizeC prog 164 12:=⟨by kernel_rfl⟩
instance ZFe :ZeroC prog 196 (.agg (Zam Zdb)) (Zam Zdb):=⟨by kernel_rfl,by kernel_rfl⟩
instance ZGg :SizeC prog 196 2:=⟨by kernel_rfl⟩
instance ZDk :SizeC prog 224 36:=⟨by kernel_rfl⟩
instance ZFA :ZeroC prog 256 (.agg (nums .i64 [0,0,0,0,0,0,0,0])) (nums .i64 [0,0,0,0,0,0,0,0]):=⟨by kernel_rfl,by kernel_rfl⟩
instance ZGf :SizeC prog 256 8:=⟨by kernel_rfl⟩
instance ZGm :ZeroC prog 292 (.agg (nums .u8 [0,0,0,0,0,0,0,0])) (nums .u8 [0,0,0,0,0,0,0,0]):=⟨by kernel_rfl,by kernel_rfl⟩
instance ZEJ :ZeroC prog 324 (.agg (ZP ZdA)) (ZP ZdA):=⟨by kernel_rfl,by kernel_rfl⟩
instance ZC9 :SizeC prog 324 3:=⟨by kernel_rfl⟩
instance ZEZ :ZeroC prog 365 (.int .u32 0) #[.int .u32 0]:=⟨by kernel_rfl,by kernel_rfl⟩
instance ZDJ :SizeC prog 365 1:=⟨by kernel_rfl⟩
instance ZC8 :ZeroC prog 396 (.agg (Zo ZbB)) (Zo ZbB):=⟨by kernel_rfl,by kernel_rfl⟩
instance ZGp :SizeC prog 396 3:=⟨by kernel_rfl⟩
instance ZFg :SizeC prog 403 10:=⟨by kernel_rfl⟩
instance ZF3 :ZeroC prog 405 (.agg (nums .i64 [0,0])) (nums .i64 [0,0]):=⟨by kernel_rfl,by kernel_rfl⟩
instance ZI2 :FaC prog 35 1 1:=⟨fun b o w=>by kernel_rfl⟩
instance ZHQ :FaC prog 40 0 0:=⟨fun b o w=>by kernel_rfl⟩
instance ZGR :FaC prog 40 1 1:=⟨fun b o w=>by kernel_rfl⟩
instance ZHa :FaC prog 56 0 0:=⟨fun b o w=>by kernel_rfl⟩
instance ZH3 :FaC prog 56 1 4:=⟨fun b o w=>by kernel_rfl⟩
instance ZGJ :FaC prog 93 0 0:=⟨fun b o w=>by kernel_rfl⟩
instance ZH8 :FaC prog 93 1 4:=⟨fun b o w=>by kernel_rfl⟩
instance ZDT :FaC prog 111 0 0:=⟨fun b o w=>by kernel_rfl⟩
instance ZDO :FaC prog 111 1 9:=⟨fun b o w=>by kernel_rfl⟩
instance ZGx :FaC prog 111 3 19:=⟨fun b o w=>by kernel_rfl⟩
instance ZCP :FaC prog 115 0 0:=⟨fun b o w=>by kernel_rfl⟩
instance ZFR :FaC prog 115 1 20:=⟨fun b o w=>by kernel_rfl⟩
instance ZEH :FaC prog 120 0 0:=⟨fun b o w=>by kernel_rfl⟩
instance ZEQ :FaC prog 120 1 1:=⟨fun b o w=>by kernel_rfl⟩
instance ZDa :FaC prog 122 0 0:=⟨fun b o w=>by kernel_rfl⟩
instance ZDw :FaC prog 122 1 1:=⟨fun b o w=>by kernel_rfl⟩
instance ZC3 :FaC prog 143 0 0:=⟨fun b o w=>by kernel_rfl⟩
instance ZCY :FaC prog 143 1 4:=⟨fun b o w=>by kernel_rfl⟩
instance ZDZ :FaC prog 224 0 0:=⟨fun b o w=>by kernel_rfl⟩
instance ZDn :FaC prog 224 1 20:=⟨fun b o w=>by kernel_rfl⟩
instance ZBO :FaO prog 24 0 0 0:=⟨fun b w=>by kernel_rfl⟩
instance ZAC :FaO prog 24 1 0 1:=⟨fun b w=>by kernel_rfl⟩
instance ZBr :FaO prog 24 2 0 2:=⟨fun b w=>by kernel_rfl⟩
instance ZAp :FaO prog 26 0 0 0:=⟨fun b w=>by kernel_rfl⟩
instance ZBp :FaO prog 26 1 0 1:=⟨fun b w=>by kernel_rfl⟩
instance ZBP :FaO prog 26 2 0 2:=⟨fun b w=>by kernel_rfl⟩
instance ZBw :FaO prog 26 3 0 3:=⟨fun b w=>by kernel_rfl⟩
instance ZCq :FaO prog 26 4 0 4:=⟨fun b w=>by kernel_rfl⟩
instance ZBn :FaO prog 26 5 0 5:=⟨fun b w=>by kernel_rfl⟩
instance ZCF :FaO prog 26 6 0 6:=⟨fun b w=>by kernel_rfl⟩
instance ZAW :FaO prog 26 7 0 7:=⟨fun b w=>by kernel_rfl⟩
instance ZAQ :FaO prog 32 0 0 0:=⟨fun b w=>by kernel_rfl⟩
instance ZBL :FaO prog 32 1 0 1:=⟨fun b w=>by kernel_rfl⟩
instance ZAF :FaO prog 35 0 0 0:=⟨fun b w=>by kernel_rfl⟩
instance ZCL :FaO prog 35 1 0 1:=⟨fun b w=>by kernel_rfl⟩
instance ZAq :FaO prog 35 1 4 5:=⟨fun b w=>by kernel_rfl⟩
instance ZBb :FaO prog 35 2 0 2:=⟨fun b w=>by kernel_rfl⟩
instance ZAu :FaO prog 35 3 0 3:=⟨fun b w=>by kernel_rfl⟩
instance ZBV :FaO prog 35 4 0 4:=⟨fun b w=>by kernel_rfl⟩
instance ZCe :FaO prog 35 5 0 5:=⟨fun b w=>by kernel_rfl⟩
instance ZCA :FaO prog 35 5 4 9:=⟨fun b w=>by kernel_rfl⟩
instance ZCw :FaO prog 35 6 0 6:=⟨fun b w=>by kernel_rfl⟩
instance ZBZ :FaO prog 35 6 4 10:=⟨fun b w=>by kernel_rfl⟩
instance ZBs :FaO prog 35 7 0 7:=⟨fun b w=>by kernel_rfl⟩
instance ZCd :FaO prog 40 0 0 0:=⟨fun b w=>by kernel_rfl⟩
instance ZAD :FaO prog 40 1 0 1:=⟨fun b w=>by kernel_rfl⟩
instance ZCx :FaO prog 52 0 0 0:=⟨fun b w=>by kernel_rfl⟩
instance ZBQ :FaO prog 52 1 0 1:=⟨fun b w=>by kernel_rfl⟩
instance ZB9 :FaO prog 54 0 0 0:=⟨fun b w=>by kernel_rfl⟩
instance ZAz :FaO prog 54 1 0 2:=⟨fun b w=>by kernel_rfl⟩
instance ZCh :FaO prog 56 0 0 0:=⟨fun b w=>by kernel_rfl⟩
instance ZA3 :FaO prog 56 1 0 4:=⟨fun b w=>by kernel_rfl⟩
instance ZA0 :FaO prog 93 0 0 0:=⟨fun b w=>by kernel_rfl⟩
instance ZBk :FaO prog 93 0 4 4:=⟨fun b w=>by kernel_rfl⟩
instance ZA1 :FaO prog 93 1 0 4:=⟨fun b w=>by kernel_rfl⟩
instance ZBd :FaO prog 93 1 4 8:=⟨fun b w=>by kernel_rfl⟩
instance ZAE :FaO prog 97 0 0 0:=⟨fun b w=>by kernel_rfl⟩
instance ZA6 :FaO prog 97 1 0 4:=⟨fun b w=>by kernel_rfl⟩
instance ZAI :FaO prog 97 2 0 8:=⟨fun b w=>by kernel_rfl⟩
instance ZzJ :FaO prog 111 0 0 0:=⟨fun b w=>by kernel_rfl⟩
instance ZzT :FaO prog 111 1 0 9:=⟨fun b w=>by kernel_rfl⟩
instance Zyl :FaO prog 111 2 0 18:=⟨fun b w=>by kernel_rfl⟩
instance Zzi :FaO prog 111 3 0 19:=⟨fun b w=>by kernel_rfl⟩
instance ZyH :FaO prog 113 0 0 0:=⟨fun b w=>by kernel_rfl⟩
instance ZzF :FaO prog 113 1 0 4:=⟨fun b w=>by kernel_rfl⟩
instance Zy4 :FaO prog 113 2 0 8:=⟨fun b w=>by kernel_rfl⟩
instance Zx8 :FaO prog 113 3 0 12:=⟨fun b w=>by kernel_rfl⟩
instance Zz4 :FaO prog 115 0 0 0:=⟨fun b w=>by kernel_rfl⟩
instance ZyI :FaO prog 115 1 0 20:=⟨fun b w=>by kernel_rfl⟩
instance ZyN :FaO prog 122 0 0 0:=⟨fun b w=>by kernel_rfl⟩
instance ZyM :FaO prog 122 1 0 1:=⟨fun b w=>by kernel_rfl⟩
instance Zzp :FaO prog 122 2 0 2:=⟨fun b w=>by kernel_rfl⟩
instance Zza :FaO prog 122 3 0 3:=⟨fun b w=>by kernel_rfl⟩
instance Zz2 :FaO prog 122 4 0 4:=⟨fun b w=>by kernel_rfl⟩
instance ZyY :FaO prog 125 0 0 0:=⟨fun b w=>by kernel_rfl⟩
instance Zzd :FaO prog 125 1 0 1:=⟨fun b w=>by kernel_rfl⟩
instance Zx7 :FaO prog 125 2 0 2:=⟨fun b w=>by kernel_rfl⟩
instance Zx0 :FaO prog 125 3 0 3:=⟨fun b w=>by kernel_rfl⟩
instance ZyF :FaO prog 125 4 0 4:=⟨fun b w=>by kernel_rfl⟩
instance Zz7 :FaO prog 125 5 0 5:=⟨fun b w=>by kernel_rfl⟩
instance ZAg :FaO prog 143 0 0 0:=⟨fun b w=>by kernel_rfl⟩
instance Zyg :FaO prog 143 1 0 4:=⟨fun b w=>by kernel_rfl⟩
instance Zzx :FaO prog 164 0 0 0:=⟨fun b w=>by kernel_rfl⟩
instance Zy2 :FaO prog 164 1 0 4:=⟨fun b w=>by kernel_rfl⟩
instance ZzU :FaO prog 164 2 0 8:=⟨fun b w=>by kernel_rfl⟩
instance ZyE :FaO prog 196 0 0 0:=⟨fun b w=>by kernel_rfl⟩
instance Zyn :FaO prog 196 1 0 1:=⟨fun b w=>by kernel_rfl⟩
instance Zz6 :FaO prog 224 0 0 0:=⟨fun b w=>by kernel_rfl⟩
instance Zyv :FaO prog 224 1 0 20:=⟨fun b w=>by kernel_rfl⟩
instance ZyK :FaO prog 324 0 0 0:=⟨fun b w=>by kernel_rfl⟩
instance Zz8 :FaO prog 324 1 0 1:=⟨fun b w=>by kernel_rfl⟩
instance ZyL :FaO prog 324 2 0 2:=⟨fun b w=>by kernel_rfl⟩
instance Zyu :FaO prog 396 0 0 0:=⟨fun b w=>by kernel_rfl⟩
instance ZzP :FaO prog 396 1 0 1:=⟨fun b w=>by kernel_rfl⟩
instance ZAa :FaO prog 396 2 0 2:=⟨fun b w=>by kernel_rfl⟩
instance ZAb :FaO prog 403 0 0 0:=⟨fun b w=>by kernel_rfl⟩
instance Zyb :FaO prog 403 1 0 9:=⟨fun b w=>by kernel_rfl⟩
instance Zzf (x:Zbb):LdC prog 24 (ZK x) 0 (.agg (ZK x)):=⟨ZO 3⟩
instance Zyw (x:Zbb):LdC prog 22 (ZK x) 0 (.slice x.Loads.a x.Loads.len x.Loads.cap):=⟨ZC⟩
instance ZA5 (x:Zbb):LdC prog 5 (ZK x) 1 (.int .u8 x.Speed):=⟨ZC⟩
instance ZBm (x:Zbb):LdC prog 5 (ZK x) 2 (.int .u8 x.Gap):=⟨ZC⟩
instance Zzl (x:Z7):LdC prog 26 (Z5 x) 0 (.agg (Z5 x)):=⟨ZO 8⟩
instance ZCs (x:Z7):LdC prog 5 (Z5 x) 0 (.int .u8 x.Object):=⟨ZC⟩
instance ZCf (x:Z7):LdC prog 5 (Z5 x) 1 (.int .u8 x.Seq):=⟨ZC⟩
instance ZCb (x:Z7):LdC prog 5 (Z5 x) 2 (.int .u8 x.Version):=⟨ZC⟩
instance ZCt (x:Z7):LdC prog 5 (Z5 x) 3 (.int .u8 x.Device):=⟨ZC⟩
instance ZBi (x:Z7):LdC prog 5 (Z5 x) 4 (.int .u8 x.Time):=⟨ZC⟩
instance ZBD (x:Z7):LdC prog 5 (Z5 x) 5 (.int .u8 x.X):=⟨ZC⟩
instance ZBJ (x:Z7):LdC prog 5 (Z5 x) 6 (.int .u8 x.Y):=⟨ZC⟩
instance ZBM (x:Z7):LdC prog 4 (Z5 x) 7 (.bool x.Cancel):=⟨ZC⟩
instance ZyR (x:ZR):LdC prog 32 (Zv x) 0 (.agg (Zv x)):=⟨ZO 2⟩
instance ZCI (x:ZR):LdC prog 3 (Zv x) 0 (.int .i64 x.MaxSpeed):=⟨ZC⟩
instance ZB7 (x:ZR):LdC prog 3 (Zv x) 1 (.int .i64 x.MaxGap):=⟨ZC⟩
instance ZzS (x:Zb):LdC prog 35 (Zd x) 0 (.agg (Zd x)):=⟨ZO 8⟩
instance ZB8 (x:Zb):LdC prog 3 (Zd x) 0 (.int .i64 x.Object):=⟨ZC⟩
instance ZA8 (x:Zb):LdC prog 3 (Zd x) 1 (.int .i64 x.Seq):=⟨ZC⟩
instance ZBF (x:Zb):LdC prog 3 (Zd x) 2 (.int .i64 x.Version):=⟨ZC⟩
instance ZCz (x:Zb):LdC prog 3 (Zd x) 3 (.int .i64 x.Device):=⟨ZC⟩
instance ZCE (x:Zb):LdC prog 3 (Zd x) 4 (.int .i64 x.Time):=⟨ZC⟩
instance ZB5 (x:Zb):LdC prog 3 (Zd x) 5 (.int .i64 x.X):=⟨ZC⟩
instance ZCH (x:Zb):LdC prog 3 (Zd x) 6 (.int .i64 x.Y):=⟨ZC⟩
instance ZBy (x:Zb):LdC prog 4 (Zd x) 7 (.bool x.Cancel):=⟨ZC⟩
instance Zz9 (x:ZaI):LdC prog 40 (ZB x) 0 (.agg (ZB x)):=⟨ZO 2⟩
instance Zzc (x:ZaI):LdC prog 37 (ZB x) 0 (.slice x.Reports.a x.Reports.len x.Reports.cap):=⟨ZC⟩
instance Zyr (x:ZaI):LdC prog 38 (ZB x) 1 (.slice x.Exchanges.a x.Exchanges.len x.Exchanges.cap):=⟨ZC⟩
instance Zy3 (x:Zan):LdC prog 52 (ZM x) 0 (.agg (ZM x)):=⟨ZO 2⟩
instance ZBU (x:Zan):LdC prog 4 (ZM x) 0 (.bool x.Neg):=⟨ZC⟩
instance ZAo (x:Zan):LdC prog 9 (ZM x) 1 (.string x.Mag):=⟨ZC⟩
instance ZyW (x:Z1):LdC prog 54 (Zu x) 0 (.agg (Zu x)):=⟨ZO 4⟩
instance ZxU (x:Z1):LdC prog 52 (Zu x) 0 (.agg (ZM x.Num)):=⟨ZO 2⟩
instance ZAX (x:Z1):LdC prog 4 (Zu x) 0 (.bool x.Num.Neg):=⟨ZC⟩
instance ZAN (x:Z1):LdC prog 9 (Zu x) 1 (.string x.Num.Mag):=⟨ZC⟩
instance ZAf (x:Z1):LdC prog 52 (Zu x) 2 (.agg (ZM x.Den)):=⟨ZO 2⟩
instance Zyi (x:Zce):LdC prog 35 (ZL x) 4 (.agg (Zd x.Report)):=⟨ZO 8⟩
instance ZvY (x:ZT):LdC prog 117 (Zak x) 0 (.slice x.Pings.a x.Pings.len x.Pings.cap):=⟨ZC⟩
instance Zvd (x:ZT):LdC prog 118 (Zak x) 1 (.slice x.Calls.a x.Calls.len x.Calls.cap):=⟨ZC⟩
instance Zvn (x:Za):LdC prog 122 (Zf x) 0 (.agg (Zf x)):=⟨ZO 5⟩
instance ZyG (x:Za):LdC prog 3 (Zf x) 0 (.int .i64 x.From):=⟨ZC⟩
instance Zyz (x:Za):LdC prog 3 (Zf x) 1 (.int .i64 x.To):=⟨ZC⟩
instance Zx5 (x:Za):LdC prog 3 (Zf x) 2 (.int .i64 x.Sent):=⟨ZC⟩
instance Zzg (x:Za):LdC prog 3 (Zf x) 3 (.int .i64 x.Received):=⟨ZC⟩
instance Zzq (x:Za):LdC prog 3 (Zf x) 4 (.int .i64 x.Least):=⟨ZC⟩
instance ZvU (x:Zai):LdC prog 125 (Zae x) 0 (.agg (Zae x)):=⟨ZO 6⟩
instance ZzY (x:Zai):LdC prog 5 (Zae x) 0 (.int .u8 x.From):=⟨ZC⟩
instance Zy1 (x:Zai):LdC prog 5 (Zae x) 1 (.int .u8 x.To):=⟨ZC⟩
instance Zzo (x:Zai):LdC prog 5 (Zae x) 2 (.int .u8 x.Sent):=⟨ZC⟩
instance Zzm (x:Zai):LdC prog 5 (Zae x) 3 (.int .u8 x.Delay):=⟨ZC⟩
instance Zx3 (x:Zai):LdC prog 5 (Zae x) 4 (.int .u8 x.Least):=⟨ZC⟩
instance Zzk (x:Zai):LdC prog 4 (Zae x) 5 (.bool x.Wrong):=⟨ZC⟩
instance Zw0 (x:ZF):LdC prog 133 (ZU x) 0 (.agg (ZU x)):=⟨ZO 2⟩
instance Zwe (x:ZbD):LdC prog 196 (Zam x) 0 (.agg (Zam x)):=⟨ZO 2⟩
instance Zyq (x:ZbD):LdC prog 3 (Zam x) 0 (.int .i64 x.Low):=⟨ZC⟩
instance ZxV (x:ZbD):LdC prog 3 (Zam x) 1 (.int .i64 x.High):=⟨ZC⟩
instance ZvN (x:Zbj):LdC prog 324 (ZP x) 0 (.agg (ZP x)):=⟨ZO 3⟩
instance Zxs (x:Zbj):LdC prog 38 (ZP x) 0 (.slice x.l.a x.l.len x.l.cap):=⟨ZC⟩
instance ZvA (x:Zbj):LdC prog 106 (ZP x) 1 (.slice x.some.a x.some.len x.some.cap):=⟨ZC⟩
instance ZzR (x:Zbj):LdC prog 3 (ZP x) 2 (.int .i64 x.size):=⟨ZC⟩
instance Zvr (x:Zas):LdC prog 396 (Zo x) 0 (.agg (Zo x)):=⟨ZO 3⟩
instance ZyU (x:Zas):LdC prog 4 (Zo x) 0 (.bool x.neg):=⟨ZC⟩
instance Zu5 (x:Zas):LdC prog 106 (Zo x) 1 (.slice x.num.a x.num.len x.num.cap):=⟨ZC⟩
instance Zwk (x:Zas):LdC prog 106 (Zo x) 2 (.slice x.den.a x.den.len x.den.cap):=⟨ZC⟩
instance ZBf (x0:Int)(x1:Int):BdC prog 32 [(0, .int .i64 x0),(1, .int .i64 x1)] (.agg (Zv ⟨x0,x1⟩)):=⟨fun w=>by kernel_rfl⟩
instance Zl9 (x0:Int)(x1:Int)(x2:Int)(x3:Int)(x4:Int)(x5:Int)(x6:Int)(x7:Bool):BdC prog 35 [(0, .int .i64 x0),(1, .int .i64 x1),(2, .int .i64 x2),(3, .int .i64 x3),(4, .int .i64 x4),(5, .int .i64 x5),(6, .int .i64 x6),(7, .bool x7)] (.agg (Zd ⟨x0,x1,x2,x3,x4,x5,x6,x7⟩)):=⟨fun w=>by kernel_rfl⟩
instance Ztd (x0:Int)(x1:Int)(x4:Int)(x5:Int)(x6:Int):BdC prog 35 [(0, .int .i64 x0),(1, .int .i64 x1),(4, .int .i64 x4),(5, .int .i64 x5),(6, .int .i64 x6)] (.agg (Zd ⟨x0,x1,0,0,x4,x5,x6,false⟩)):=⟨fun w=>by kernel_rfl⟩
instance ZIz (x0:Option Addr)(x0l x0c:Nat):BdC prog 40 [(0, .slice x0 x0l x0c)] (.agg (ZB ⟨⟨x0,x0l,x0c⟩,⟨none,0,0⟩⟩)):=⟨fun w=>by kernel_rfl⟩
instance ZJL :BdC prog 52 [] (.agg (ZM ZaW)):=⟨fun w=>by kernel_rfl⟩
instance ZAB (x0:Bool)(x1:ByteArray):BdC prog 52 [(0, .bool x0),(1, .string x1)] (.agg (ZM ⟨x0,x1⟩)):=⟨fun w=>by kernel_rfl⟩
instance ZJg :BdC prog 54 [] (.agg (Zu Zcb)):=⟨fun w=>by kernel_rfl⟩
instance ZHJ (x0:Zan):BdC prog 54 [(0, .agg (ZM x0))] (.agg (Zu ⟨x0,ZaW⟩)):=⟨fun w=>by kernel_rfl⟩
instance ZBl (x0:Zan)(x1:Zan):BdC prog 54 [(0, .agg (ZM x0)),(1, .agg (ZM x1))] (.agg (Zu ⟨x0,x1⟩)):=⟨fun w=>by kernel_rfl⟩
instance ZqU (x0:Int)(x1:Int)(x2:Int)(x3:Int)(x4:Int):BdC prog 122 [(0, .int .i64 x0),(1, .int .i64 x1),(2, .int .i64 x2),(3, .int .i64 x3),(4, .int .i64 x4)] (.agg (Zf ⟨x0,x1,x2,x3,x4⟩)):=⟨fun w=>by kernel_rfl⟩
instance Zz3 (x0:Int)(x1:Int):BdC prog 133 [(0, .int .i64 x0),(1, .int .i64 x1)] (.agg (ZU ⟨x0,x1⟩)):=⟨fun w=>by kernel_rfl⟩
instance ZHZ :BdC prog 196 [] (.agg (Zam Zdb)):=⟨fun w=>by kernel_rfl⟩
instance Zzy (x0:Int)(x1:Int):BdC prog 196 [(0, .int .i64 x0),(1, .int .i64 x1)] (.agg (Zam ⟨x0,x1⟩)):=⟨fun w=>by kernel_rfl⟩
instance Zyj (x0:Option Addr)(x0l x0c:Nat)(x2:Int):BdC prog 324 [(0, .slice x0 x0l x0c),(2, .int .i64 x2)] (.agg (ZP ⟨⟨x0,x0l,x0c⟩,⟨none,0,0⟩,x2⟩)):=⟨fun w=>by kernel_rfl⟩
instance Zwa (x0:Bool)(x1:Option Addr)(x1l x1c:Nat)(x2:Option Addr)(x2l x2c:Nat):BdC prog 396 [(0, .bool x0),(1, .slice x1 x1l x1c),(2, .slice x2 x2l x2c)] (.agg (Zo ⟨x0,⟨x1,x1l,x1c⟩,⟨x2,x2l,x2c⟩⟩)):=⟨fun w=>by kernel_rfl⟩
theorem Znc (d:Nat)(w:World)(x y:Zb):(Op.equalIn (d+2) 35 (.agg (Zd x)) (.agg (Zd y))).run prog w= .ok (decide (x=y)) w:=by
 have p0:∀(z:Zb)(u:World),(part 3 (Zd z) 0).run prog u= .ok (.int .i64 z.Object) u:=fun _ _=>by kernel_rfl
 have q0:∀(u:World),(Op.equalIn (d+1) 3 (.int .i64 x.Object) (.int .i64 y.Object)).run prog u= .ok (decide (x.Object=y.Object)) u:=fun u=>by rw[run_equalIn_int u (d+0) 3 .i64 .i64 _ _ (by kernel_rfl),ZaV]
 have p1:∀(z:Zb)(u:World),(part 3 (Zd z) 1).run prog u= .ok (.int .i64 z.Seq) u:=fun _ _=>by kernel_rfl
 have q1:∀(u:World),(Op.equalIn (d+1) 3 (.int .i64 x.Seq) (.int .i64 y.Seq)).run prog u= .ok (decide (x.Seq=y.Seq)) u:=fun u=>by rw[run_equalIn_int u (d+0) 3 .i64 .i64 _ _ (by kernel_rfl),ZaV]
 have p2:∀(z:Zb)(u:World),(part 3 (Zd z) 2).run prog u= .ok (.int .i64 z.Version) u:=fun _ _=>by kernel_rfl
 have q2:∀(u:World),(Op.equalIn (d+1) 3 (.int .i64 x.Version) (.int .i64 y.Version)).run prog u= .ok (decide (x.Version=y.Version)) u:=fun u=>by rw[run_equalIn_int u (d+0) 3 .i64 .i64 _ _ (by kernel_rfl),ZaV]
 have p3:∀(z:Zb)(u:World),(part 3 (Zd z) 3).run prog u= .ok (.int .i64 z.Device) u:=fun _ _=>by kernel_rfl
 have q3:∀(u:World),(Op.equalIn (d+1) 3 (.int .i64 x.Device) (.int .i64 y.Device)).run prog u= .ok (decide (x.Device=y.Device)) u:=fun u=>by rw[run_equalIn_int u (d+0) 3 .i64 .i64 _ _ (by kernel_rfl),ZaV]
 have p4:∀(z:Zb)(u:World),(part 3 (Zd z) 4).run prog u= .ok (.int .i64 z.Time) u:=fun _ _=>by kernel_rfl
 have q4:∀(u:World),(Op.equalIn (d+1) 3 (.int .i64 x.Time) (.int .i64 y.Time)).run prog u= .ok (decide (x.Time=y.Time)) u:=fun u=>by rw[run_equalIn_int u (d+0) 3 .i64 .i64 _ _ (by kernel_rfl),ZaV]
 have p5:∀(z:Zb)(u:World),(part 3 (Zd z) 5).run prog u= .ok (.int .i64 z.X) u:=fun _ _=>by kernel_rfl
 have q5:∀(u:World),(Op.equalIn (d+1) 3 (.int .i64 x.X) (.int .i64 y.X)).run prog u= .ok (decide (x.X=y.X)) u:=fun u=>by rw[run_equalIn_int u (d+0) 3 .i64 .i64 _ _ (by kernel_rfl),ZaV]
 have p6:∀(z:Zb)(u:World),(part 3 (Zd z) 6).run prog u= .ok (.int .i64 z.Y) u:=fun _ _=>by kernel_rfl
 have q6:∀(u:World),(Op.equalIn (d+1) 3 (.int .i64 x.Y) (.int .i64 y.Y)).run prog u= .ok (decide (x.Y=y.Y)) u:=fun u=>by rw[run_equalIn_int u (d+0) 3 .i64 .i64 _ _ (by kernel_rfl),ZaV]
 have p7:∀(z:Zb)(u:World),(part 4 (Zd z) 7).run prog u= .ok (.bool z.Cancel) u:=fun _ _=>by kernel_rfl
 have q7:∀(u:World),(Op.equalIn (d+1) 4 (.bool x.Cancel) (.bool y.Cancel)).run prog u= .ok (decide (x.Cancel=y.Cancel)) u:=fun u=>by rw[run_equalIn_bool' u (d+0) 4 _ _ (by kernel_rfl),ZdT]
 have hf:(prog.fieldsOf 35).toList=[{name:= "Object",type:=3,offset:=0,embedded:=false,tag:= "",pkgPath:= "",byteOffset:=0},{name:= "Seq",type:=3,offset:=1,embedded:=false,tag:= "",pkgPath:= "",byteOffset:=8},{name:= "Version",type:=3,offset:=2,embedded:=false,tag:= "",pkgPath:= "",byteOffset:=16},{name:= "Device",type:=3,offset:=3,embedded:=false,tag:= "",pkgPath:= "",byteOffset:=24},{name:= "Time",type:=3,offset:=4,embedded:=false,tag:= "",pkgPath:= "",byteOffset:=32},{name:= "X",type:=3,offset:=5,embedded:=false,tag:= "",pkgPath:= "",byteOffset:=40},{name:= "Y",type:=3,offset:=6,embedded:=false,tag:= "",pkgPath:= "",byteOffset:=48},{name:= "Cancel",type:=4,offset:=7,embedded:=false,tag:= "",pkgPath:= "",byteOffset:=56}]:=by kernel_rfl
 rw[run_equalIn_struct w (d+1) 35 _ _ (by kernel_rfl) (by kernel_rfl),hf]
 have hx:x=y↔(x.Object=y.Object/\x.Seq=y.Seq/\x.Version=y.Version/\x.Device=y.Device/\x.Time=y.Time/\x.X=y.X/\x.Y=y.Y/\x.Cancel=y.Cancel):=by cases x;cases y;simp
 simp only[Op.eqFields,Sem.run_bind,Result.andThen_ok,Sem.run_ite,Sem.run_pure,p0,p1,p2,p3,p4,p5,p6,p7,q0,q1,q2,q3,q4,q5,q6,q7]
 by_cases h0:x.Object=y.Object <;> by_cases h1:x.Seq=y.Seq <;> by_cases h2:x.Version=y.Version <;> by_cases h3:x.Device=y.Device <;> by_cases h4:x.Time=y.Time <;> by_cases h5:x.X=y.X <;> by_cases h6:x.Y=y.Y <;> by_cases h7:x.Cancel=y.Cancel <;> simp[hx,h0,h1,h2,h3,h4,h5,h6,h7]
instance ZKB (x y:Zb):BinC prog .eql 35 (.agg (Zd x)) (.agg (Zd y)) (.bool (decide (x=y))):=⟨fun a b w=>run_eqGuard_agg w _ _ _ _ _ _ (by kernel_rfl),fun w=>by rw[run_eql_struct,Znc 9998];rfl⟩
instance ZKa (x y:Zb):BinC prog .neq 35 (.agg (Zd x)) (.agg (Zd y)) (.bool (!decide (x=y))):=⟨fun a b w=>run_eqGuard_agg w _ _ _ _ _ _ (by kernel_rfl),fun w=>by rw[run_neq_struct,Znc 9998];rfl⟩
theorem Zgb (d:Nat)(w:World)(x y:Zan):(Op.equalIn (d+2) 52 (.agg (ZM x)) (.agg (ZM y))).run prog w= .ok (decide (x=y)) w:=by
 have p0:∀(z:Zan)(u:World),(part 4 (ZM z) 0).run prog u= .ok (.bool z.Neg) u:=fun _ _=>by kernel_rfl
 have q0:∀(u:World),(Op.equalIn (d+1) 4 (.bool x.Neg) (.bool y.Neg)).run prog u= .ok (decide (x.Neg=y.Neg)) u:=fun u=>by rw[run_equalIn_bool' u (d+0) 4 _ _ (by kernel_rfl),ZdT]
 have p1:∀(z:Zan)(u:World),(part 9 (ZM z) 1).run prog u= .ok (.string z.Mag) u:=fun _ _=>by kernel_rfl
 have q1:∀(u:World),(Op.equalIn (d+1) 9 (.string x.Mag) (.string y.Mag)).run prog u= .ok (decide (x.Mag=y.Mag)) u:=fun u=>by rw[run_equalIn_string u (d+0) 9 _ _ (by kernel_rfl),<-beq_toListBytes,Zg2]
 have hf:(prog.fieldsOf 52).toList=[{name:= "Neg",type:=4,offset:=0,embedded:=false,tag:= "",pkgPath:= "",byteOffset:=0},{name:= "Mag",type:=9,offset:=1,embedded:=false,tag:= "",pkgPath:= "",byteOffset:=8}]:=by kernel_rfl
 rw[run_equalIn_struct w (d+1) 52 _ _ (by kernel_rfl) (by kernel_rfl),hf]
 have hx:x=y↔(x.Neg=y.Neg/\x.Mag=y.Mag):=by cases x;cases y;simp
 simp only[Op.eqFields,Sem.run_bind,Result.andThen_ok,Sem.run_ite,Sem.run_pure,p0,p1,q0,q1]
 by_cases h0:x.Neg=y.Neg <;> by_cases h1:x.Mag=y.Mag <;> simp[hx,h0,h1]
instance ZKu (x y:Zan):BinC prog .eql 52 (.agg (ZM x)) (.agg (ZM y)) (.bool (decide (x=y))):=⟨fun a b w=>run_eqGuard_agg w _ _ _ _ _ _ (by kernel_rfl),fun w=>by rw[run_eql_struct,Zgb 9998];rfl⟩
instance ZKl (x y:Zan):BinC prog .neq 52 (.agg (ZM x)) (.agg (ZM y)) (.bool (!decide (x=y))):=⟨fun a b w=>run_eqGuard_agg w _ _ _ _ _ _ (by kernel_rfl),fun w=>by rw[run_neq_struct,Zgb 9998];rfl⟩
theorem ZbG (d:Nat)(w:World)(x y:Z1):(Op.equalIn (d+3) 54 (.agg (Zu x)) (.agg (Zu y))).run prog w= .ok (decide (x=y)) w:=by
 have p0:∀(z:Z1)(u:World),(part 52 (Zu z) 0).run prog u= .ok (.agg (ZM z.Num)) u:=fun _ _=>by kernel_rfl
 have q0:∀(u:World),(Op.equalIn (d+2) 52 (.agg (ZM x.Num)) (.agg (ZM y.Num))).run prog u= .ok (decide (x.Num=y.Num)) u:=fun u=>Zgb (d+0) u _ _
 have p1:∀(z:Z1)(u:World),(part 52 (Zu z) 2).run prog u= .ok (.agg (ZM z.Den)) u:=fun _ _=>by kernel_rfl
 have q1:∀(u:World),(Op.equalIn (d+2) 52 (.agg (ZM x.Den)) (.agg (ZM y.Den))).run prog u= .ok (decide (x.Den=y.Den)) u:=fun u=>Zgb (d+0) u _ _
 have hf:(prog.fieldsOf 54).toList=[{name:= "Num",type:=52,offset:=0,embedded:=false,tag:= "",pkgPath:= "",byteOffset:=0},{name:= "Den",type:=52,offset:=2,embedded:=false,tag:= "",pkgPath:= "",byteOffset:=24}]:=by kernel_rfl
 rw[run_equalIn_struct w (d+2) 54 _ _ (by kernel_rfl) (by kernel_rfl),hf]
 have hx:x=y↔(x.Num=y.Num/\x.Den=y.Den):=by cases x;cases y;simp
 simp only[Op.eqFields,Sem.run_bind,Result.andThen_ok,Sem.run_ite,Sem.run_pure,p0,p1,q0,q1]
 by_cases h0:x.Num=y.Num <;> by_cases h1:x.Den=y.Den <;> simp[hx,h0,h1]
instance ZJU (x y:Z1):BinC prog .eql 54 (.agg (Zu x)) (.agg (Zu y)) (.bool (decide (x=y))):=⟨fun a b w=>run_eqGuard_agg w _ _ _ _ _ _ (by kernel_rfl),fun w=>by rw[run_eql_struct,ZbG 9997];rfl⟩
instance ZKF (x y:Z1):BinC prog .neq 54 (.agg (Zu x)) (.agg (Zu y)) (.bool (!decide (x=y))):=⟨fun a b w=>run_eqGuard_agg w _ _ _ _ _ _ (by kernel_rfl),fun w=>by rw[run_neq_struct,ZbG 9997];rfl⟩
theorem Zij (d:Nat)(w:World)(x y:ZaU):(Op.equalIn (d+4) 97 (.agg (Zs x)) (.agg (Zs y))).run prog w= .ok (decide (x=y)) w:=by
 have p0:∀(z:ZaU)(u:World),(part 54 (Zs z) 0).run prog u= .ok (.agg (Zu z.P)) u:=fun _ _=>by kernel_rfl
 have q0:∀(u:World),(Op.equalIn (d+3) 54 (.agg (Zu x.P)) (.agg (Zu y.P))).run prog u= .ok (decide (x.P=y.P)) u:=fun u=>ZbG (d+0) u _ _
 have p1:∀(z:ZaU)(u:World),(part 54 (Zs z) 4).run prog u= .ok (.agg (Zu z.R)) u:=fun _ _=>by kernel_rfl
 have q1:∀(u:World),(Op.equalIn (d+3) 54 (.agg (Zu x.R)) (.agg (Zu y.R))).run prog u= .ok (decide (x.R=y.R)) u:=fun u=>ZbG (d+0) u _ _
 have p2:∀(z:ZaU)(u:World),(part 4 (Zs z) 8).run prog u= .ok (.bool z.Neg) u:=fun _ _=>by kernel_rfl
 have q2:∀(u:World),(Op.equalIn (d+3) 4 (.bool x.Neg) (.bool y.Neg)).run prog u= .ok (decide (x.Neg=y.Neg)) u:=fun u=>by rw[run_equalIn_bool' u (d+2) 4 _ _ (by kernel_rfl),ZdT]
 have hf:(prog.fieldsOf 97).toList=[{name:= "P",type:=54,offset:=0,embedded:=false,tag:= "",pkgPath:= "",byteOffset:=0},{name:= "R",type:=54,offset:=4,embedded:=false,tag:= "",pkgPath:= "",byteOffset:=48},{name:= "Neg",type:=4,offset:=8,embedded:=false,tag:= "",pkgPath:= "",byteOffset:=96}]:=by kernel_rfl
 rw[run_equalIn_struct w (d+3) 97 _ _ (by kernel_rfl) (by kernel_rfl),hf]
 have hx:x=y↔(x.P=y.P/\x.R=y.R/\x.Neg=y.Neg):=by cases x;cases y;simp
 simp only[Op.eqFields,Sem.run_bind,Result.andThen_ok,Sem.run_ite,Sem.run_pure,p0,p1,p2,q0,q1,q2]
 by_cases h0:x.P=y.P <;> by_cases h1:x.R=y.R <;> by_cases h2:x.Neg=y.Neg <;> simp[hx,h0,h1,h2]
instance ZKc (x y:ZaU):BinC prog .eql 97 (.agg (Zs x)) (.agg (Zs y)) (.bool (decide (x=y))):=⟨fun a b w=>run_eqGuard_agg w _ _ _ _ _ _ (by kernel_rfl),fun w=>by rw[run_eql_struct,Zij 9996];rfl⟩
theorem ZkN (d:Nat)(w:World)(x y:Zaz):(Op.equalIn (d+5) 111 (.agg (Zz x)) (.agg (Zz y))).run prog w= .ok (decide (x=y)) w:=by
 have p0:∀(z:Zaz)(u:World),(part 97 (Zz z) 0).run prog u= .ok (.agg (Zs z.From)) u:=fun _ _=>by kernel_rfl
 have q0:∀(u:World),(Op.equalIn (d+4) 97 (.agg (Zs x.From)) (.agg (Zs y.From))).run prog u= .ok (decide (x.From=y.From)) u:=fun u=>Zij (d+0) u _ _
 have p1:∀(z:Zaz)(u:World),(part 97 (Zz z) 9).run prog u= .ok (.agg (Zs z.To)) u:=fun _ _=>by kernel_rfl
 have q1:∀(u:World),(Op.equalIn (d+4) 97 (.agg (Zs x.To)) (.agg (Zs y.To))).run prog u= .ok (decide (x.To=y.To)) u:=fun u=>Zij (d+0) u _ _
 have p2:∀(z:Zaz)(u:World),(part 4 (Zz z) 18).run prog u= .ok (.bool z.OpenFrom) u:=fun _ _=>by kernel_rfl
 have q2:∀(u:World),(Op.equalIn (d+4) 4 (.bool x.OpenFrom) (.bool y.OpenFrom)).run prog u= .ok (decide (x.OpenFrom=y.OpenFrom)) u:=fun u=>by rw[run_equalIn_bool' u (d+3) 4 _ _ (by kernel_rfl),ZdT]
 have p3:∀(z:Zaz)(u:World),(part 4 (Zz z) 19).run prog u= .ok (.bool z.OpenTo) u:=fun _ _=>by kernel_rfl
 have q3:∀(u:World),(Op.equalIn (d+4) 4 (.bool x.OpenTo) (.bool y.OpenTo)).run prog u= .ok (decide (x.OpenTo=y.OpenTo)) u:=fun u=>by rw[run_equalIn_bool' u (d+3) 4 _ _ (by kernel_rfl),ZdT]
 have hf:(prog.fieldsOf 111).toList=[{name:= "From",type:=97,offset:=0,embedded:=false,tag:= "",pkgPath:= "",byteOffset:=0},{name:= "To",type:=97,offset:=9,embedded:=false,tag:= "",pkgPath:= "",byteOffset:=104},{name:= "OpenFrom",type:=4,offset:=18,embedded:=false,tag:= "",pkgPath:= "",byteOffset:=208},{name:= "OpenTo",type:=4,offset:=19,embedded:=false,tag:= "",pkgPath:= "",byteOffset:=209}]:=by kernel_rfl
 rw[run_equalIn_struct w (d+4) 111 _ _ (by kernel_rfl) (by kernel_rfl),hf]
 have hx:x=y↔(x.From=y.From/\x.To=y.To/\x.OpenFrom=y.OpenFrom/\x.OpenTo=y.OpenTo):=by cases x;cases y;simp
 simp only[Op.eqFields,Sem.run_bind,Result.andThen_ok,Sem.run_ite,Sem.run_pure,p0,p1,p2,p3,q0,q1,q2,q3]
 by_cases h0:x.From=y.From <;> by_cases h1:x.To=y.To <;> by_cases h2:x.OpenFrom=y.OpenFrom <;> by_cases h3:x.OpenTo=y.OpenTo <;> simp[hx,h0,h1,h2,h3]
instance ZHd (x y:Zaz):BinC prog .eql 111 (.agg (Zz x)) (.agg (Zz y)) (.bool (decide (x=y))):=⟨fun a b w=>run_eqGuard_agg w _ _ _ _ _ _ (by kernel_rfl),fun w=>by rw[run_eql_struct,ZkN 9995];rfl⟩
instance ZHh (x y:Zaz):BinC prog .neq 111 (.agg (Zz x)) (.agg (Zz y)) (.bool (!decide (x=y))):=⟨fun a b w=>run_eqGuard_agg w _ _ _ _ _ _ (by kernel_rfl),fun w=>by rw[run_neq_struct,ZkN 9995];rfl⟩
theorem Zr8 (d:Nat)(w:World)(x y:Za7):(Op.equalIn (d+4) 113 (.agg (ZV x)) (.agg (ZV y))).run prog w= .ok (decide (x=y)) w:=by
 have p0:∀(z:Za7)(u:World),(part 54 (ZV z) 0).run prog u= .ok (.agg (Zu z.X0)) u:=fun _ _=>by kernel_rfl
 have q0:∀(u:World),(Op.equalIn (d+3) 54 (.agg (Zu x.X0)) (.agg (Zu y.X0))).run prog u= .ok (decide (x.X0=y.X0)) u:=fun u=>ZbG (d+0) u _ _
 have p1:∀(z:Za7)(u:World),(part 54 (ZV z) 4).run prog u= .ok (.agg (Zu z.X1)) u:=fun _ _=>by kernel_rfl
 have q1:∀(u:World),(Op.equalIn (d+3) 54 (.agg (Zu x.X1)) (.agg (Zu y.X1))).run prog u= .ok (decide (x.X1=y.X1)) u:=fun u=>ZbG (d+0) u _ _
 have p2:∀(z:Za7)(u:World),(part 54 (ZV z) 8).run prog u= .ok (.agg (Zu z.Y0)) u:=fun _ _=>by kernel_rfl
 have q2:∀(u:World),(Op.equalIn (d+3) 54 (.agg (Zu x.Y0)) (.agg (Zu y.Y0))).run prog u= .ok (decide (x.Y0=y.Y0)) u:=fun u=>ZbG (d+0) u _ _
 have p3:∀(z:Za7)(u:World),(part 54 (ZV z) 12).run prog u= .ok (.agg (Zu z.Y1)) u:=fun _ _=>by kernel_rfl
 have q3:∀(u:World),(Op.equalIn (d+3) 54 (.agg (Zu x.Y1)) (.agg (Zu y.Y1))).run prog u= .ok (decide (x.Y1=y.Y1)) u:=fun u=>ZbG (d+0) u _ _
 have hf:(prog.fieldsOf 113).toList=[{name:= "X0",type:=54,offset:=0,embedded:=false,tag:= "",pkgPath:= "",byteOffset:=0},{name:= "X1",type:=54,offset:=4,embedded:=false,tag:= "",pkgPath:= "",byteOffset:=48},{name:= "Y0",type:=54,offset:=8,embedded:=false,tag:= "",pkgPath:= "",byteOffset:=96},{name:= "Y1",type:=54,offset:=12,embedded:=false,tag:= "",pkgPath:= "",byteOffset:=144}]:=by kernel_rfl
 rw[run_equalIn_struct w (d+3) 113 _ _ (by kernel_rfl) (by kernel_rfl),hf]
 have hx:x=y↔(x.X0=y.X0/\x.X1=y.X1/\x.Y0=y.Y0/\x.Y1=y.Y1):=by cases x;cases y;simp
 simp only[Op.eqFields,Sem.run_bind,Result.andThen_ok,Sem.run_ite,Sem.run_pure,p0,p1,p2,p3,q0,q1,q2,q3]
 by_cases h0:x.X0=y.X0 <;> by_cases h1:x.X1=y.X1 <;> by_cases h2:x.Y0=y.Y0 <;> by_cases h3:x.Y1=y.Y1 <;> simp[hx,h0,h1,h2,h3]
instance ZHL (x y:Za7):BinC prog .eql 113 (.agg (ZV x)) (.agg (ZV y)) (.bool (decide (x=y))):=⟨fun a b w=>run_eqGuard_agg w _ _ _ _ _ _ (by kernel_rfl),fun w=>by rw[run_eql_struct,Zr8 9996];rfl⟩
theorem Zru (d:Nat)(w:World)(x y:ZbP):(Op.equalIn (d+4) 164 (.agg (Z0 x)) (.agg (Z0 y))).run prog w= .ok (decide (x=y)) w:=by
 have p0:∀(z:ZbP)(u:World),(part 54 (Z0 z) 0).run prog u= .ok (.agg (Zu z.C0)) u:=fun _ _=>by kernel_rfl
 have q0:∀(u:World),(Op.equalIn (d+3) 54 (.agg (Zu x.C0)) (.agg (Zu y.C0))).run prog u= .ok (decide (x.C0=y.C0)) u:=fun u=>ZbG (d+0) u _ _
 have p1:∀(z:ZbP)(u:World),(part 54 (Z0 z) 4).run prog u= .ok (.agg (Zu z.C1)) u:=fun _ _=>by kernel_rfl
 have q1:∀(u:World),(Op.equalIn (d+3) 54 (.agg (Zu x.C1)) (.agg (Zu y.C1))).run prog u= .ok (decide (x.C1=y.C1)) u:=fun u=>ZbG (d+0) u _ _
 have p2:∀(z:ZbP)(u:World),(part 54 (Z0 z) 8).run prog u= .ok (.agg (Zu z.C2)) u:=fun _ _=>by kernel_rfl
 have q2:∀(u:World),(Op.equalIn (d+3) 54 (.agg (Zu x.C2)) (.agg (Zu y.C2))).run prog u= .ok (decide (x.C2=y.C2)) u:=fun u=>ZbG (d+0) u _ _
 have hf:(prog.fieldsOf 164).toList=[{name:= "C0",type:=54,offset:=0,embedded:=false,tag:= "",pkgPath:= "",byteOffset:=0},{name:= "C1",type:=54,offset:=4,embedded:=false,tag:= "",pkgPath:= "",byteOffset:=48},{name:= "C2",type:=54,offset:=8,embedded:=false,tag:= "",pkgPath:= "",byteOffset:=96}]:=by kernel_rfl
 rw[run_equalIn_struct w (d+3) 164 _ _ (by kernel_rfl) (by kernel_rfl),hf]
 have hx:x=y↔(x.C0=y.C0/\x.C1=y.C1/\x.C2=y.C2):=by cases x;cases y;simp
 simp only[Op.eqFields,Sem.run_bind,Result.andThen_ok,Sem.run_ite,Sem.run_pure,p0,p1,p2,q0,q1,q2]
 by_cases h0:x.C0=y.C0 <;> by_cases h1:x.C1=y.C1 <;> by_cases h2:x.C2=y.C2 <;> simp[hx,h0,h1,h2]
instance ZHj (x y:ZbP):BinC prog .eql 164 (.agg (Z0 x)) (.agg (Z0 y)) (.bool (decide (x=y))):=⟨fun a b w=>run_eqGuard_agg w _ _ _ _ _ _ (by kernel_rfl),fun w=>by rw[run_eql_struct,Zru 9996];rfl⟩
theorem callG {P:Program}{a k b f:Nat}(hb:Nat.blt b (a+k)=true)(h:((List.range k).all fun i=>callableB P (i+a))=true)(h1:cnd (Nat.ble a f) (cnd (Nat.ble f b) (some ()) none) none=some ()):callableB P f=true:=by
 cases h3:Nat.ble a f
 ·rw[h3] at h1;cases h1
 ·cases h4:Nat.ble f b
  ·rw[h3,h4] at h1;cases h1
  ·have h5:=Nat.le_of_ble_eq_true h3
   have h6:=Nat.le_of_ble_eq_true h4
   have h8:b<a+k:=Nat.le_of_ble_eq_true hb
   have h7:=List.all_eq_true.1 h (f-a) (List.mem_range.2 (by omega))
   rwa [show f-a+a=f by omega] at h7
theorem callB :((List.range 206).all fun i=>callableB prog (i+3))=true:=by kernel_rfl
instance (priority :=low) callR (f:Nat)[h:IsC (cnd (Nat.ble 3 f) (cnd (Nat.ble f 208) (some ()) none) none) ()]:CallC prog f:=⟨callG rfl callB h.out⟩
instance ZC5 :CallC prog 210:=⟨by kernel_rfl⟩
instance ZFh :CallC prog 211:=⟨by kernel_rfl⟩
instance ZDy :CallC prog 212:=⟨by kernel_rfl⟩
instance ZEh :CallC prog 213:=⟨by kernel_rfl⟩
instance ZDp :CallC prog 214:=⟨by kernel_rfl⟩
instance ZCM :CallC prog 215:=⟨by kernel_rfl⟩
instance ZGC :CallC prog 216:=⟨by kernel_rfl⟩
instance ZEm :CallC prog 217:=⟨by kernel_rfl⟩
instance ZD6 :CallC prog 218:=⟨by kernel_rfl⟩
instance ZDE :CallC prog 219:=⟨by kernel_rfl⟩
instance ZDK :CallC prog 220:=⟨by kernel_rfl⟩
instance ZDz :CallC prog 221:=⟨by kernel_rfl⟩
instance ZDM :CallC prog 222:=⟨by kernel_rfl⟩
instance ZF7 :CallC prog 223:=⟨by kernel_rfl⟩
instance ZEk :CallC prog 225:=⟨by kernel_rfl⟩
instance ZEy :CallC prog 226:=⟨by kernel_rfl⟩
instance ZEq :CallC prog 227:=⟨by kernel_rfl⟩
instance ZFz :CallC prog 228:=⟨by kernel_rfl⟩
instance ZE8 :CallC prog 229:=⟨by kernel_rfl⟩
instance ZDm :CallC prog 230:=⟨by kernel_rfl⟩
instance ZFa :CallC prog 233:=⟨by kernel_rfl⟩
instance ZGi :CallC prog 234:=⟨by kernel_rfl⟩
instance ZGd :CallC prog 235:=⟨by kernel_rfl⟩
instance ZET :CallC prog 242:=⟨by kernel_rfl⟩
instance ZEx :CallC prog 244:=⟨by kernel_rfl⟩
instance ZGB :CallC prog 245:=⟨by kernel_rfl⟩
instance ZGa :CallC prog 246:=⟨by kernel_rfl⟩
instance ZFi :CallC prog 248:=⟨by kernel_rfl⟩
instance ZEO :CallC prog 257:=⟨by kernel_rfl⟩
instance ZCR :CallC prog 258:=⟨by kernel_rfl⟩
instance ZEC :CallC prog 260:=⟨by kernel_rfl⟩
instance ZE9 :CallC prog 264:=⟨by kernel_rfl⟩
instance ZFJ :CallC prog 265:=⟨by kernel_rfl⟩
instance ZEN :CallC prog 266:=⟨by kernel_rfl⟩
instance ZGb :CallC prog 269:=⟨by kernel_rfl⟩
instance ZD9 :CallC prog 270:=⟨by kernel_rfl⟩
instance ZDf :CallC prog 271:=⟨by kernel_rfl⟩
instance ZFm :CallC prog 272:=⟨by kernel_rfl⟩
instance ZFS :CallC prog 273:=⟨by kernel_rfl⟩
instance ZF5 :CallC prog 275:=⟨by kernel_rfl⟩
instance ZDU :CallC prog 276:=⟨by kernel_rfl⟩
instance ZDo :CallC prog 277:=⟨by kernel_rfl⟩
instance ZEf :CallC prog 278:=⟨by kernel_rfl⟩
instance ZEF :CallC prog 279:=⟨by kernel_rfl⟩
instance ZF4 :CallC prog 280:=⟨by kernel_rfl⟩
instance ZFG :CallC prog 283:=⟨by kernel_rfl⟩
instance ZGl :CallC prog 284:=⟨by kernel_rfl⟩
instance ZEB :CallC prog 285:=⟨by kernel_rfl⟩
instance ZEY :CallC prog 286:=⟨by kernel_rfl⟩
instance ZEb :CallC prog 287:=⟨by kernel_rfl⟩
instance ZE4 :CallC prog 288:=⟨by kernel_rfl⟩
instance ZEL :CallC prog 295:=⟨by kernel_rfl⟩
instance ZF9 :CallC prog 296:=⟨by kernel_rfl⟩
instance ZE2 :CallC prog 302:=⟨by kernel_rfl⟩
instance ZC0 :CallC prog 303:=⟨by kernel_rfl⟩
instance ZD5 :CallC prog 309:=⟨by kernel_rfl⟩
instance ZE5 :CallC prog 311:=⟨by kernel_rfl⟩
instance ZDt :CallC prog 312:=⟨by kernel_rfl⟩
instance ZFb :CallC prog 313:=⟨by kernel_rfl⟩
instance ZGD :CallC prog 314:=⟨by kernel_rfl⟩
instance ZFs :CallC prog 315:=⟨by kernel_rfl⟩
instance ZFK :CallC prog 316:=⟨by kernel_rfl⟩
instance ZGj :CallC prog 324:=⟨by kernel_rfl⟩
instance ZDI :CallC prog 336:=⟨by kernel_rfl⟩
instance ZEs :CallC prog 337:=⟨by kernel_rfl⟩
instance ZDe :CallC prog 338:=⟨by kernel_rfl⟩
instance ZEz :CallC prog 341:=⟨by kernel_rfl⟩
instance ZFr :CallC prog 343:=⟨by kernel_rfl⟩
instance ZEX :CallC prog 366:=⟨by kernel_rfl⟩
instance ZFp :CallC prog 376:=⟨by kernel_rfl⟩
instance ZDL :CallC prog 417:=⟨by kernel_rfl⟩
instance ZFk :CallC prog 418:=⟨by kernel_rfl⟩
instance ZFV :CallC prog 419:=⟨by kernel_rfl⟩
instance ZFo :CallC prog 420:=⟨by kernel_rfl⟩
instance ZDN :CallC prog 421:=⟨by kernel_rfl⟩
instance ZFQ :CallC prog 422:=⟨by kernel_rfl⟩
instance ZDs :CallC prog 423:=⟨by kernel_rfl⟩
instance ZFX :CallC prog 424:=⟨by kernel_rfl⟩
theorem mixed :prog.follows .mixedOrders=true:=by kernel_rfl
end Go.Vt
namespace Go.Vt
def leF :Nat->Nat->List UInt8
 |0,_=>[]
 |f+1,n=>if n=0 then [] else UInt8.ofNat (n % 256)::leF f (n / 256)
def le (n:Nat):List UInt8:=leF n n
def vle :List UInt8->Nat
 |[]=>0
 |b::l=>b.toNat+256*vle l
theorem Zk5 :∀(f g n:Nat),n<=f->n<=g->leF f n=leF g n
  |0,0,_,_,_=>rfl
  | 0, g + 1, n, h, _ => by have : n = 0 := by omega
                            subst this;simp[leF]
  | f + 1, 0, n, _, h => by have : n = 0 := by omega
                            subst this;simp[leF]
  |f+1,g+1,n,h1,h2=>by
    simp only[leF]
    split
    · rfl
    · rw[Zk5 f g (n / 256) (by omega) (by omega)]
theorem le_zero :le 0=[]:=rfl
theorem Zcq {n:Nat}(h:n≠0):le n=UInt8.ofNat (n % 256)::le (n / 256):=by
 unfold le
 obtain⟨m,rfl⟩:=Nat.exists_eq_succ_of_ne_zero h
 rw[leF,if_neg h,Zk5 m _ _ (by omega) (Nat.le_refl _)]
theorem toNat_ofNat (n:Nat):(UInt8.ofNat (n % 256)).toNat=n % 256:=by simp
theorem Zj6 :∀n,vle (le n)=n:=by
 intro n
 induction n using Nat.strongRecOn with
 |_ n ih=>
  by_cases h:n=0
  ·subst h;rfl
  ·rw[Zcq h,vle,ih (n / 256) (by omega),toNat_ofNat]
   omega
def Top (l:List UInt8):Prop:=∀b,l.getLast? =some b->b≠0
theorem ZvO :∀n,Top (le n):=by
 intro n
 induction n using Nat.strongRecOn with
 |_ n ih=>
  by_cases h:n=0
  ·subst h;intro b hb;simp[le_zero] at hb
  ·intro b hb
   rw[Zcq h] at hb
   by_cases h2:n / 256=0
   ·rw[h2,le_zero] at hb
    simp only[List.getLast?_singleton,Option.some.injEq] at hb
    subst hb
    intro h0
    have:=congrArg UInt8.toNat h0
    rw[toNat_ofNat] at this
    simp at this
    omega
   ·rw[Zcq h2,List.getLast?_cons_cons,<-Zcq h2] at hb
    exact ih _ (by omega) b hb
theorem Ztw {l:List UInt8}(h:Top l)(hl:l≠[]):vle l≠0:=by
 induction l with
 |nil=>exact absurd rfl hl
 |cons b l ih=>
  intro h0
  simp only[vle] at h0
  by_cases hn:l=[]
  ·subst hn
   have:=h b rfl
   apply this
   apply UInt8.toNat_inj.1
   simp[vle] at h0
   simpa using h0
  ·exact ih (fun c hc=>h c (by
    cases l with
    |nil=>exact absurd rfl hn
    |cons x y=>rw[List.getLast?_cons_cons];exact hc)) hn (by omega)
theorem ZoZ {l:List UInt8}(h:Top l):le (vle l)=l:=by
 induction l with
 |nil=>rfl
 |cons b l ih=>
  have ht:Top l:=fun c hc=>h c (by
   cases l with
   |nil=>simp at hc
   |cons x y=>rw[List.getLast?_cons_cons];exact hc)
  have hne:=Ztw h (by simp)
  rw[Zcq hne]
  have hb:b.toNat<256:=UInt8.toNat_lt b
  simp only[vle] at hne⊢
  have h1:(b.toNat+256*vle l) % 256=b.toNat:=by omega
  have h2:(b.toNat+256*vle l) / 256=vle l:=by omega
  rw[h1,h2,ih ht]
  congr 1
  apply UInt8.toNat_inj.1
  simp
theorem Zf0 (l:List UInt8):vle l<256 ^ l.length:=by
 induction l with
 |nil=>simp[vle]
 |cons b l ih=>
  have hb:b.toNat<256:=UInt8.toNat_lt b
  simp only[vle,List.length_cons,Nat.pow_succ]
  omega
theorem Zfj (l m:List UInt8):vle (l++m)=vle l+256 ^ l.length*vle m:=by
 induction l with
 |nil=>simp[vle]
 |cons b l ih=>
  simp only[List.cons_append,vle,ih,List.length_cons,Nat.pow_succ,Nat.mul_add]
  rw[Nat.mul_comm (256 ^ l.length) 256,Nat.mul_assoc]
  omega
theorem Zp1 {n k:Nat}:(le n).length<=k↔n<256 ^ k:=by
 induction k generalizing n with
 |zero=>
  simp only[Nat.le_zero_eq,Nat.pow_zero,Nat.lt_one_iff,List.length_eq_zero_iff]
  constructor
  ·intro h;rw[<-Zj6 n,h];rfl
  ·intro h;subst h;rfl
 |succ k ih=>
  by_cases h:n=0
  ·subst h;simp[le_zero,Nat.pow_pos]
  ·rw[Zcq h,List.length_cons,Nat.add_le_add_iff_right,ih,Nat.pow_succ]
   omega
theorem ZkS :∀(i n:Nat),i<(le n).length->(le n)[i]? =some (UInt8.ofNat (n / 256 ^ i % 256)):=by
 intro i
 induction i with
 |zero=>
  intro n h
  have hn:n≠0:=by intro h0;subst h0;simp[le_zero] at h
  rw[Zcq hn];simp
 |succ i ih=>
  intro n h
  have hn:n≠0:=by intro h0;subst h0;simp[le_zero] at h
  rw[Zcq hn] at h⊢
  simp only[List.length_cons] at h
  simp only[List.getElem?_cons_succ]
  rw[ih _ (by omega),Nat.div_div_eq_div_mul,Nat.pow_succ,Nat.mul_comm]
def mag (n:Nat):ByteArray:=⟨(le n).reverse.toArray⟩
def vmag (s:ByteArray):Nat:=vle s.data.toList.reverse
def Can (s:ByteArray):Prop:=Top s.data.toList.reverse
theorem Zc7 (n:Nat):vmag (mag n)=n:=by simp[vmag,mag,Zj6]
theorem Zma (n:Nat):Can (mag n):=by simpa [Can,mag] using ZvO n
theorem ZrA {s:ByteArray}(h:Can s):mag (vmag s)=s:=by
 unfold mag vmag
 rw[ZoZ h]
 simp
theorem Ze4 :mag 0=ByteArray.empty:=rfl
theorem ZhW {m n:Nat}:mag m=mag n↔m=n:=⟨fun h=>by rw[<-Zc7 m,<-Zc7 n,h],fun h=>by rw[h]⟩
theorem ZaQ {n:Nat}:mag n=ByteArray.empty↔n=0:=by rw[<-Ze4,ZhW]
theorem Zc9 (n:Nat):(mag n).size=(le n).length:=by simp[mag,ByteArray.size]
theorem ZaS {n k:Nat}:(mag n).size<=k↔n<256 ^ k:=by rw[Zc9,Zp1]
theorem Zlt {l:List UInt8}(h:Top l.reverse):mag (vle l.reverse)=⟨l.toArray⟩:=by
 unfold mag
 rw[ZoZ h]
 simp
theorem ZmB :∀(a b:List UInt8),a.length=b.length->Lib.compareBytes a b=Lib.compareInt (vle a.reverse) (vle b.reverse)
 |[],[],_=>by simp[Lib.compareBytes,Lib.compareInt]
 |[],_::_,h=>by simp at h
 |_::_,[],h=>by simp at h
 |x::a,y::b,h=>by
  have hl:a.length=b.length:=by simpa using h
  simp only[List.reverse_cons,Zfj,List.length_reverse,vle,Nat.mul_zero,Nat.add_zero,Lib.compareBytes]
  have ha:=Zf0 a.reverse
  have hb:=Zf0 b.reverse
  rw[List.length_reverse] at ha hb
  rw[<-hl] at hb⊢
  by_cases hxy:x<y
  ·rw[if_pos hxy]
   have h1:x.toNat+1<=y.toNat:=UInt8.lt_iff_toNat_lt.1 hxy
   have h2:256 ^ a.length*(x.toNat+1)<=256 ^ a.length*y.toNat:=Nat.mul_le_mul_left _ h1
   rw[Nat.mul_add,Nat.mul_one] at h2
   unfold Lib.compareInt
   rw[if_pos (by omega)]
  ·rw[if_neg hxy]
   by_cases hyx:y<x
   ·rw[if_pos hyx]
    have h1:y.toNat+1<=x.toNat:=UInt8.lt_iff_toNat_lt.1 hyx
    have h2:256 ^ a.length*(y.toNat+1)<=256 ^ a.length*x.toNat:=Nat.mul_le_mul_left _ h1
    rw[Nat.mul_add,Nat.mul_one] at h2
    unfold Lib.compareInt
    rw[if_neg (by omega),if_pos (by omega)]
   ·rw[if_neg hyx,ZmB a b hl]
    have:x=y:=by
     apply UInt8.toNat_inj.1
     have h1:¬x.toNat<y.toNat:=fun h=>hxy (UInt8.lt_iff_toNat_lt.2 h)
     have h2:¬y.toNat<x.toNat:=fun h=>hyx (UInt8.lt_iff_toNat_lt.2 h)
     omega
    subst this
    unfold Lib.compareInt
    split
    ·rw[if_pos (by omega)]
    ·split
     ·rw[if_neg (by omega),if_pos (by omega)]
     ·rw[if_neg (by omega),if_neg (by omega)]
theorem ZtD (a b:Nat):(if Lib.compareInt (mag a).size (mag b).size≠0 then Lib.compareInt (mag a).size (mag b).size else Lib.compareBytes (mag a).data.toList (mag b).data.toList)=Lib.compareInt a b:=by
 have hlt:∀x y:Nat,(mag x).size<(mag y).size->x<y:=fun x y h=>by
  have h1:x<256 ^ (mag x).size:=ZaS.1 (Nat.le_refl _)
  have h2:¬y<256 ^ (mag x).size:=fun h2=>by
   have:=ZaS.2 h2
   omega
  omega
 by_cases h1:(mag a).size<(mag b).size
 ·have h2:=hlt _ _ h1
  have e1:Lib.compareInt (mag a).size (mag b).size= -1:=by unfold Lib.compareInt;rw[if_pos (by omega)]
  rw[e1]
  unfold Lib.compareInt
  rw[if_pos (by omega),if_pos (by omega)]
 ·by_cases h3:(mag b).size<(mag a).size
  ·have h2:=hlt _ _ h3
   have e1:Lib.compareInt (mag a).size (mag b).size=1:=by unfold Lib.compareInt;rw[if_neg (by omega),if_pos (by omega)]
   rw[e1]
   unfold Lib.compareInt
   rw[if_pos (by omega),if_neg (by omega),if_pos (by omega)]
  ·have e1:Lib.compareInt (mag a).size (mag b).size=0:=by unfold Lib.compareInt;rw[if_neg (by omega),if_neg (by omega)]
   have hsz:(mag a).data.toList.length=(mag b).data.toList.length:=by
    have e2:(mag a).size=(mag b).size:=by omega
    exact e2
   rw[e1,if_neg (by simp),ZmB _ _ hsz]
   have ea:vle (mag a).data.toList.reverse=a:=Zc7 a
   have eb:vle (mag b).data.toList.reverse=b:=Zc7 b
   rw[ea,eb]
theorem ZeU :∀(f x:Nat),x<2 ^ f->(x=0/\Lib.bitLenAux f x=0)\/(x≠0/\1<=Lib.bitLenAux f x/\2 ^ (Lib.bitLenAux f x-1)<=x/\x<2 ^ Lib.bitLenAux f x)
 |0,x,h=>by
  have:x=0:=by simpa using h
  exact .inl ⟨this,rfl⟩
 |f+1,x,h=>by
  simp only[Lib.bitLenAux]
  by_cases h0:x=0
  ·simp[h0]
  ·rw[if_neg h0]
   refine .inr ⟨h0,by omega, ?_⟩
   have hx:x / 2<2 ^ f:=by rw[Nat.pow_succ] at h;omega
   rcases ZeU f (x / 2) hx with⟨h1,h2⟩|⟨h1,h2,h3,h4⟩
   ·rw[h2]
    simp only[Nat.add_zero,Nat.sub_self,Nat.pow_zero,Nat.pow_one]
    omega
   ·obtain⟨k,hk⟩:∃k,Lib.bitLenAux f (x / 2)=k+1:=⟨Lib.bitLenAux f (x / 2)-1,by omega⟩
    rw[hk] at h3 h4⊢
    simp only[Nat.add_sub_cancel] at h3
    rw[show 1+(k+1)-1=k+1 by omega,show 1+(k+1)=k+1+1 by omega]
    rw[Nat.pow_succ] at h4
    rw[Nat.pow_succ,Nat.pow_succ]
    rw[Nat.pow_succ]
    omega
theorem Zew {x:Nat}(h:x<2 ^ 64)(h0:x≠0):1<=Lib.bitLen x/\2 ^ (Lib.bitLen x-1)<=x/\x<2 ^ Lib.bitLen x:=by
 rcases ZeU 64 x h with h1|h1
 ·exact absurd h1.1 h0
 ·exact h1.2
theorem Zqe {x:Nat}(h:x<2 ^ 64):Lib.bitLen x<=64:=by
 by_cases h0:x=0
 ·subst h0;decide
 ·have:=Zew h h0
  rcases Nat.lt_or_ge 64 (Lib.bitLen x) with h1|h1
  ·have h2:(2:Nat) ^ 64<=2 ^ (Lib.bitLen x-1):=Nat.pow_le_pow_right (by omega) (by omega)
   omega
  ·exact h1
theorem Zrv {x:Nat}(h:x<2 ^ 64)(h0:x≠0):(mag x).size=(Lib.bitLen x+7) / 8:=by
 obtain⟨h1,h2,h3⟩:=Zew h h0
 have p:∀k,256 ^ k=2 ^ (8*k):=fun k=>by rw[show(256:Nat)=2 ^ 8 by rfl,<-Nat.pow_mul]
 apply Nat.le_antisymm
 ·rw[ZaS,p]
  exact Nat.lt_of_lt_of_le h3 (Nat.pow_le_pow_right (by omega) (by omega))
 ·rcases Nat.lt_or_ge (mag x).size ((Lib.bitLen x+7) / 8) with h4|h4
  ·have h5:x<256 ^ ((Lib.bitLen x+7) / 8-1):=ZaS.1 (by omega)
   rw[p] at h5
   have h6:(2:Nat) ^ (8*((Lib.bitLen x+7) / 8-1))<=2 ^ (Lib.bitLen x-1):=Nat.pow_le_pow_right (by omega) (by omega)
   omega
  ·exact h4
end Go.Vt
