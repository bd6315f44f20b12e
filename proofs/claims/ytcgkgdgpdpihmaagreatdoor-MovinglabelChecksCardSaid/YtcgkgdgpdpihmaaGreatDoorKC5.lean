/- For any up to 12 units whose ends have up to 20 bytes, and for any decoded moving label (up to 8 stretches), Check returns OK or the first error. Conditions: none. (part 5 of 28.) Conditions: those that each statement names. -/
import Derived.Test.YtcgkgdgpdpihmaaGreatDoorProg
import Derived.Shelf.Strings.Trim
import Derived.Shelf.Small.Utf8
import Derived.Shelf.Small.Bits
import Derived.Shelf.Small.Strs
import Derived.Shelf.Small.Wraps
import Derived.Shelf.Strconv.Itoa0
import Derived.Shelf.Strings.Search1
import Derived.Shelf.Strings.Prefix
import Derived.Shelf.Unicode.Decode
import Derived.Shelf.Strings.Runes
import Derived.Shelf.Strings.AsciiSet
import Derived.Shelf.Bits.Mul64
import Derived.Shelf.Unicode.DecodeSlow
import Derived.Ground.Names2Prog
import Derived.Shelf.Slices.SearchI
import Derived.Lib.TrimByte
import Derived.Test.YtcgkgdgpdpihmaaGreatDoorKC1
import Derived.Test.YtcgkgdgpdpihmaaGreatDoorKC3
set_option linter.unusedVariables false
set_option maxRecDepth 100000
set_option linter.unusedSimpArgs false
set_option maxHeartbeats 2000000
namespace Go.Vt
open Go.RowKit Go.Proofs
open Go.Proofs.Tryz (prog)
structure Sl where
 a:Option Addr
 len:Nat
 cap:Nat
structure ZN where
 Neg:Bool
 Mag:ByteArray
 deriving DecidableEq
def Zt (x:ZN):Array Value:=#[.bool x.Neg, .string x.Mag]
def Zak :ZN:=⟨false,ByteArray.empty⟩
instance Zug (x:ZN):CsC (Zt x) 2:=⟨by kernel_rfl,by kernel_rfl⟩
structure ZK where
 Num:ZN
 Den:ZN
 deriving DecidableEq
def Zn (x:ZK):Array Value:=#[.bool x.Num.Neg, .string x.Num.Mag, .bool x.Den.Neg, .string x.Den.Mag]
def ZaH :ZK:=⟨Zak,Zak⟩
instance Zt6 (x:ZK):CsC (Zn x) 4:=⟨by kernel_rfl,by kernel_rfl⟩
structure ZI where
 P:ZK
 R:ZK
 Neg:Bool
 deriving DecidableEq
def Zc (x:ZI):Array Value:=#[.bool x.P.Num.Neg, .string x.P.Num.Mag, .bool x.P.Den.Neg, .string x.P.Den.Mag, .bool x.R.Num.Neg, .string x.R.Num.Mag, .bool x.R.Den.Neg, .string x.R.Den.Mag, .bool x.Neg]
def Zfp :ZI:=⟨ZaH,ZaH,false⟩
instance Zs4 (x:ZI):CsC (Zc x) 9:=⟨by kernel_rfl,by kernel_rfl⟩
structure Zr where
 From:ZI
 To:ZI
 OpenFrom:Bool
 OpenTo:Bool
 deriving DecidableEq
def Zh (x:Zr):Array Value:=#[.bool x.From.P.Num.Neg, .string x.From.P.Num.Mag, .bool x.From.P.Den.Neg, .string x.From.P.Den.Mag, .bool x.From.R.Num.Neg, .string x.From.R.Num.Mag, .bool x.From.R.Den.Neg, .string x.From.R.Den.Mag, .bool x.From.Neg, .bool x.To.P.Num.Neg, .string x.To.P.Num.Mag, .bool x.To.P.Den.Neg, .string x.To.P.Den.Mag, .bool x.To.R.Num.Neg, .string x.To.R.Num.Mag, .bool x.To.R.Den.Neg, .string x.To.R.Den.Mag, .bool x.To.Neg, .bool x.OpenFrom, .bool x.OpenTo]
def Zdx :Zr:=⟨Zfp,Zfp,false,false⟩
instance Zps (x:Zr):CsC (Zh x) 20:=⟨by kernel_rfl,by kernel_rfl⟩
structure ZR where
 P:Int
 D:Int
 R:Int
 E:Int
 Neg:Bool
 deriving DecidableEq
def ZL (x:ZR):Array Value:=#[.int .u8 x.P, .int .u8 x.D, .int .u8 x.R, .int .u8 x.E, .bool x.Neg]
def ZbI :ZR:=⟨0,0,0,0,false⟩
structure Z3 where
 A:ZR
 B:ZR
 OpenA:Bool
 OpenB:Bool
 deriving DecidableEq
def ZW (x:Z3):Array Value:=#[.int .u8 x.A.P, .int .u8 x.A.D, .int .u8 x.A.R, .int .u8 x.A.E, .bool x.A.Neg, .int .u8 x.B.P, .int .u8 x.B.D, .int .u8 x.B.R, .int .u8 x.B.E, .bool x.B.Neg, .bool x.OpenA, .bool x.OpenB]
def ZdZ :Z3:=⟨ZbI,ZbI,false,false⟩
structure Zac where
 In:Z3
 Label:Int
 deriving DecidableEq
def Zau (x:Zac):Array Value:=#[.int .u8 x.In.A.P, .int .u8 x.In.A.D, .int .u8 x.In.A.R, .int .u8 x.In.A.E, .bool x.In.A.Neg, .int .u8 x.In.B.P, .int .u8 x.In.B.D, .int .u8 x.In.B.R, .int .u8 x.In.B.E, .bool x.In.B.Neg, .bool x.In.OpenA, .bool x.In.OpenB, .int .u8 x.Label]
def Zdl :Zac:=⟨ZdZ,0⟩
instance Zi5 (x:Zac):CsC (Zau x) 13:=⟨by kernel_rfl,by kernel_rfl⟩
structure ZJ where
 In:Zr
 Label:Int
 deriving DecidableEq
def Zm (x:ZJ):Array Value:=#[.bool x.In.From.P.Num.Neg, .string x.In.From.P.Num.Mag, .bool x.In.From.P.Den.Neg, .string x.In.From.P.Den.Mag, .bool x.In.From.R.Num.Neg, .string x.In.From.R.Num.Mag, .bool x.In.From.R.Den.Neg, .string x.In.From.R.Den.Mag, .bool x.In.From.Neg, .bool x.In.To.P.Num.Neg, .string x.In.To.P.Num.Mag, .bool x.In.To.P.Den.Neg, .string x.In.To.P.Den.Mag, .bool x.In.To.R.Num.Neg, .string x.In.To.R.Num.Mag, .bool x.In.To.R.Den.Neg, .string x.In.To.R.Den.Mag, .bool x.In.To.Neg, .bool x.In.OpenFrom, .bool x.In.OpenTo, .int .i64 x.Label]
def Zfy :ZJ:=⟨Zdx,0⟩
instance Zo6 (x:ZJ):CsC (Zm x) 21:=⟨by kernel_rfl,by kernel_rfl⟩
structure Zab where
 In:Zr
 F:Int
 deriving DecidableEq
def Zp (x:Zab):Array Value:=#[.bool x.In.From.P.Num.Neg, .string x.In.From.P.Num.Mag, .bool x.In.From.P.Den.Neg, .string x.In.From.P.Den.Mag, .bool x.In.From.R.Num.Neg, .string x.In.From.R.Num.Mag, .bool x.In.From.R.Den.Neg, .string x.In.From.R.Den.Mag, .bool x.In.From.Neg, .bool x.In.To.P.Num.Neg, .string x.In.To.P.Num.Mag, .bool x.In.To.P.Den.Neg, .string x.In.To.P.Den.Mag, .bool x.In.To.R.Num.Neg, .string x.In.To.R.Num.Mag, .bool x.In.To.R.Den.Neg, .string x.In.To.R.Den.Mag, .bool x.In.To.Neg, .bool x.In.OpenFrom, .bool x.In.OpenTo, .int .i64 x.F]
def ZeH :Zab:=⟨Zdx,0⟩
instance Zl3 (x:Zab):CsC (Zp x) 21:=⟨by kernel_rfl,by kernel_rfl⟩
structure ZV where
 neg:Bool
 num:Sl
 den:Sl
def Zd (x:ZV):Array Value:=#[.bool x.neg, .slice x.num.a x.num.len x.num.cap, .slice x.den.a x.den.len x.den.cap]
def ZaM :ZV:=⟨false,⟨none,0,0⟩,⟨none,0,0⟩⟩
instance Ziv (x:ZV):CsC (Zd x) 3:=⟨by kernel_rfl,by kernel_rfl⟩
structure Zcq where
 at_:ZI
 behind:Bool
 deriving DecidableEq
def ZQ (x:Zcq):Array Value:=#[.bool x.at_.P.Num.Neg, .string x.at_.P.Num.Mag, .bool x.at_.P.Den.Neg, .string x.at_.P.Den.Mag, .bool x.at_.R.Num.Neg, .string x.at_.R.Num.Mag, .bool x.at_.R.Den.Neg, .string x.at_.R.Den.Mag, .bool x.at_.Neg, .bool x.behind]
instance ZoT (x:Zcq):CsC (ZQ x) 10:=⟨by kernel_rfl,by kernel_rfl⟩
instance ZB9 :UndC prog 2 (.int .i64):=⟨by kernel_rfl⟩
instance ZCb :UndC prog 3 (.int .i64):=⟨by kernel_rfl⟩
instance ZCg :UndC prog 4 (.bool):=⟨by kernel_rfl⟩
instance ZCi :UndC prog 5 (.int .u8):=⟨by kernel_rfl⟩
instance ZCf :UndC prog 9 (.string):=⟨by kernel_rfl⟩
instance ZBp :UndC prog 22 (.slice 46):=⟨by kernel_rfl⟩
instance ZBh :UndC prog 23 (.slice 44):=⟨by kernel_rfl⟩
instance ZAW :UndC prog 47 (.slice 37):=⟨by kernel_rfl⟩
instance ZBq :UndC prog 59 (.slice 35):=⟨by kernel_rfl⟩
instance ZBj :UndC prog 65 (.slice 3):=⟨by kernel_rfl⟩
instance Zzq :UndC prog 110 (.slice 145):=⟨by kernel_rfl⟩
instance ZzH :UndC prog 189 (.int .u64):=⟨by kernel_rfl⟩
instance Zzk :UndC prog 213 (.slice 216):=⟨by kernel_rfl⟩
instance ZzZ :UndC prog 214 (.slice 47):=⟨by kernel_rfl⟩
instance ZAt :UndC prog 230 (.int .u32):=⟨by kernel_rfl⟩
instance ZAG :UndC prog 232 (.int .u64):=⟨by kernel_rfl⟩
instance ZAK :UndC prog 236 (.slice 5):=⟨by kernel_rfl⟩
instance ZAk :UndC prog 266 (.slice 230):=⟨by kernel_rfl⟩
instance ZBM :UndC prog 78 (.array 2 3):=⟨by kernel_rfl⟩
instance Zz2 :UndC prog 270 (.array 8 5):=⟨by kernel_rfl⟩
instance ZzY :BytesC prog 3 8:=⟨by kernel_rfl⟩
instance ZAj :BytesC prog 5 1:=⟨by kernel_rfl⟩
instance Zx0 :BytesC prog 35 104:=⟨by kernel_rfl⟩
instance ZxW :BytesC prog 37 216:=⟨by kernel_rfl⟩
instance Zy6 :BytesC prog 46 224:=⟨by kernel_rfl⟩
instance Zvu :BytesC prog 145 224:=⟨by kernel_rfl⟩
instance ZwK :BytesC prog 216 128:=⟨by kernel_rfl⟩
instance Zwt :BytesC prog 230 4:=⟨by kernel_rfl⟩
instance ZBf :ZeroC prog 3 (.int .i64 0) #[.int .i64 0]:=⟨by kernel_rfl,by kernel_rfl⟩
instance ZA9 :SizeC prog 3 1:=⟨by kernel_rfl⟩
instance ZBo :ZeroC prog 5 (.int .u8 0) #[.int .u8 0]:=⟨by kernel_rfl,by kernel_rfl⟩
instance ZB5 :SizeC prog 5 1:=⟨by kernel_rfl⟩
instance ZzC :ZeroC prog 31 (.agg (Zt Zak)) (Zt Zak):=⟨by kernel_rfl,by kernel_rfl⟩
instance ZAo :SizeC prog 31 2:=⟨by kernel_rfl⟩
instance ZzK :ZeroC prog 33 (.agg (Zn ZaH)) (Zn ZaH):=⟨by kernel_rfl,by kernel_rfl⟩
instance Zz7 :SizeC prog 33 4:=⟨by kernel_rfl⟩
instance ZAc :SizeC prog 35 9:=⟨by kernel_rfl⟩
instance ZAD :SizeC prog 37 20:=⟨by kernel_rfl⟩
instance ZzF :SizeC prog 44 13:=⟨by kernel_rfl⟩
instance ZAn :SizeC prog 46 21:=⟨by kernel_rfl⟩
instance ZAH :SizeC prog 47 1:=⟨by kernel_rfl⟩
instance ZzO :ZeroC prog 78 (.agg (nums .i64 [0,0])) (nums .i64 [0,0]):=⟨by kernel_rfl,by kernel_rfl⟩
instance Zxp :ZeroC prog 110 (.slice none 0 0) #[.slice none 0 0]:=⟨by kernel_rfl,by kernel_rfl⟩
instance Zx6 :SizeC prog 110 1:=⟨by kernel_rfl⟩
instance Zya :SizeC prog 145 21:=⟨by kernel_rfl⟩
instance Zx7 :ZeroC prog 162 (.agg (Zd ZaM)) (Zd ZaM):=⟨by kernel_rfl,by kernel_rfl⟩
instance Zyf :SizeC prog 162 3:=⟨by kernel_rfl⟩
instance Zxs :SizeC prog 193 10:=⟨by kernel_rfl⟩
instance Zzg :ZeroC prog 230 (.int .u32 0) #[.int .u32 0]:=⟨by kernel_rfl,by kernel_rfl⟩
instance ZxK :SizeC prog 230 1:=⟨by kernel_rfl⟩
instance Zxt :ZeroC prog 270 (.agg (nums .u8 [0,0,0,0,0,0,0,0])) (nums .u8 [0,0,0,0,0,0,0,0]):=⟨by kernel_rfl,by kernel_rfl⟩
instance Zzp :FaC prog 37 0 0:=⟨fun b o w=>by kernel_rfl⟩
instance ZzT :FaC prog 37 1 9:=⟨fun b o w=>by kernel_rfl⟩
instance ZAQ :FaC prog 37 2 18:=⟨fun b o w=>by kernel_rfl⟩
instance ZzW :FaC prog 37 3 19:=⟨fun b o w=>by kernel_rfl⟩
instance Zz1 :FaC prog 44 0 0:=⟨fun b o w=>by kernel_rfl⟩
instance Zzt :FaC prog 44 1 12:=⟨fun b o w=>by kernel_rfl⟩
instance Zzl :FaC prog 46 0 0:=⟨fun b o w=>by kernel_rfl⟩
instance ZAs :FaC prog 46 1 20:=⟨fun b o w=>by kernel_rfl⟩
instance Zy2 :FaC prog 145 0 0:=⟨fun b o w=>by kernel_rfl⟩
instance ZyB :FaC prog 145 1 20:=⟨fun b o w=>by kernel_rfl⟩
instance ZvF :FaO prog 31 0 0 0:=⟨fun b w=>by kernel_rfl⟩
instance Zwq :FaO prog 31 0 2 2:=⟨fun b w=>by kernel_rfl⟩
instance ZvT :FaO prog 31 1 0 1:=⟨fun b w=>by kernel_rfl⟩
instance ZwI :FaO prog 31 1 2 3:=⟨fun b w=>by kernel_rfl⟩
instance ZvU :FaO prog 31 1 4 5:=⟨fun b w=>by kernel_rfl⟩
instance ZwX :FaO prog 31 1 6 7:=⟨fun b w=>by kernel_rfl⟩
instance ZwU :FaO prog 33 0 0 0:=⟨fun b w=>by kernel_rfl⟩
instance ZvY :FaO prog 33 0 4 4:=⟨fun b w=>by kernel_rfl⟩
instance ZwG :FaO prog 33 1 0 2:=⟨fun b w=>by kernel_rfl⟩
instance ZvI :FaO prog 33 1 4 6:=⟨fun b w=>by kernel_rfl⟩
instance Zwy :FaO prog 35 0 0 0:=⟨fun b w=>by kernel_rfl⟩
instance ZvA :FaO prog 35 1 0 4:=⟨fun b w=>by kernel_rfl⟩
instance Zwj :FaO prog 35 2 0 8:=⟨fun b w=>by kernel_rfl⟩
instance ZwQ :FaO prog 37 0 0 0:=⟨fun b w=>by kernel_rfl⟩
instance Zv9 :FaO prog 37 1 0 9:=⟨fun b w=>by kernel_rfl⟩
instance Zvz :FaO prog 37 2 0 18:=⟨fun b w=>by kernel_rfl⟩
instance Zvr :FaO prog 37 3 0 19:=⟨fun b w=>by kernel_rfl⟩
instance ZwM :FaO prog 40 0 0 0:=⟨fun b w=>by kernel_rfl⟩
instance ZvP :FaO prog 40 1 0 1:=⟨fun b w=>by kernel_rfl⟩
instance Zv2 :FaO prog 40 2 0 2:=⟨fun b w=>by kernel_rfl⟩
instance ZwJ :FaO prog 40 3 0 3:=⟨fun b w=>by kernel_rfl⟩
instance Zwo :FaO prog 40 4 0 4:=⟨fun b w=>by kernel_rfl⟩
instance ZwB :FaO prog 42 0 0 0:=⟨fun b w=>by kernel_rfl⟩
instance ZwH :FaO prog 42 1 0 5:=⟨fun b w=>by kernel_rfl⟩
instance Zwh :FaO prog 42 2 0 10:=⟨fun b w=>by kernel_rfl⟩
instance ZwF :FaO prog 42 3 0 11:=⟨fun b w=>by kernel_rfl⟩
instance ZwO :FaO prog 46 0 0 0:=⟨fun b w=>by kernel_rfl⟩
instance ZwR :FaO prog 46 1 0 20:=⟨fun b w=>by kernel_rfl⟩
instance Zty :FaO prog 145 0 0 0:=⟨fun b w=>by kernel_rfl⟩
instance Zup :FaO prog 145 1 0 20:=⟨fun b w=>by kernel_rfl⟩
instance ZuK :FaO prog 162 0 0 0:=⟨fun b w=>by kernel_rfl⟩
instance Zuv :FaO prog 162 1 0 1:=⟨fun b w=>by kernel_rfl⟩
instance Zuz :FaO prog 162 2 0 2:=⟨fun b w=>by kernel_rfl⟩
instance Zu3 :FaO prog 193 0 0 0:=⟨fun b w=>by kernel_rfl⟩
instance ZuU :FaO prog 193 1 0 9:=⟨fun b w=>by kernel_rfl⟩
instance ZuA (x:ZN):LdC prog 31 (Zt x) 0 (.agg (Zt x)):=⟨ZG 2⟩
instance Zvw (x:ZN):LdC prog 4 (Zt x) 0 (.bool x.Neg):=⟨ZD⟩
instance Zwx (x:ZN):LdC prog 9 (Zt x) 1 (.string x.Mag):=⟨ZD⟩
instance Zum (x:ZK):LdC prog 33 (Zn x) 0 (.agg (Zn x)):=⟨ZG 4⟩
instance ZuQ (x:ZK):LdC prog 31 (Zn x) 0 (.agg (Zt x.Num)):=⟨ZG 2⟩
instance ZvH (x:ZK):LdC prog 4 (Zn x) 0 (.bool x.Num.Neg):=⟨ZD⟩
instance Zv7 (x:ZK):LdC prog 9 (Zn x) 1 (.string x.Num.Mag):=⟨ZD⟩
instance ZuV (x:ZK):LdC prog 31 (Zn x) 2 (.agg (Zt x.Den)):=⟨ZG 2⟩
instance ZvW (x:ZK):LdC prog 4 (Zn x) 2 (.bool x.Den.Neg):=⟨ZD⟩
instance Zv8 (x:ZK):LdC prog 9 (Zn x) 3 (.string x.Den.Mag):=⟨ZD⟩
instance Zu5 (x:ZI):LdC prog 33 (Zc x) 0 (.agg (Zn x.P)):=⟨ZG 4⟩
instance Zvt (x:ZI):LdC prog 9 (Zc x) 1 (.string x.P.Num.Mag):=⟨ZD⟩
instance ZvG (x:ZI):LdC prog 9 (Zc x) 3 (.string x.P.Den.Mag):=⟨ZD⟩
instance ZtO (x:ZI):LdC prog 33 (Zc x) 4 (.agg (Zn x.R)):=⟨ZG 4⟩
instance ZvS (x:ZI):LdC prog 9 (Zc x) 5 (.string x.R.Num.Mag):=⟨ZD⟩
instance ZvQ (x:ZI):LdC prog 9 (Zc x) 7 (.string x.R.Den.Mag):=⟨ZD⟩
instance ZtS (x:Zr):LdC prog 37 (Zh x) 0 (.agg (Zh x)):=⟨ZG 20⟩
instance Zvk (x:Zr):LdC prog 35 (Zh x) 0 (.agg (Zc x.From)):=⟨ZG 9⟩
instance Zud (x:Zr):LdC prog 35 (Zh x) 9 (.agg (Zc x.To)):=⟨ZG 9⟩
instance ZtU (x:Zr):LdC prog 4 (Zh x) 18 (.bool x.OpenFrom):=⟨ZD⟩
instance ZuH (x:Zr):LdC prog 4 (Zh x) 19 (.bool x.OpenTo):=⟨ZD⟩
instance Zv1 (x:ZR):LdC prog 5 (ZL x) 0 (.int .u8 x.P):=⟨ZD⟩
instance ZvC (x:ZR):LdC prog 5 (ZL x) 1 (.int .u8 x.D):=⟨ZD⟩
instance ZwS (x:ZR):LdC prog 5 (ZL x) 2 (.int .u8 x.R):=⟨ZD⟩
instance Zvp (x:ZR):LdC prog 5 (ZL x) 3 (.int .u8 x.E):=⟨ZD⟩
instance Zwn (x:ZR):LdC prog 4 (ZL x) 4 (.bool x.Neg):=⟨ZD⟩
instance ZuC (x:Z3):LdC prog 42 (ZW x) 0 (.agg (ZW x)):=⟨ZG 12⟩
instance Zuk (x:Z3):LdC prog 40 (ZW x) 0 (.agg (ZL x.A)):=⟨ZG 5⟩
instance Zvj (x:Z3):LdC prog 40 (ZW x) 5 (.agg (ZL x.B)):=⟨ZG 5⟩
instance ZuW (x:Z3):LdC prog 4 (ZW x) 10 (.bool x.OpenA):=⟨ZD⟩
instance ZtR (x:Z3):LdC prog 4 (ZW x) 11 (.bool x.OpenB):=⟨ZD⟩
instance Zu8 (x:Zac):LdC prog 42 (Zau x) 0 (.agg (ZW x.In)):=⟨ZG 12⟩
instance Zva (x:Zac):LdC prog 5 (Zau x) 12 (.int .u8 x.Label):=⟨ZD⟩
instance Zt5 (x:ZJ):LdC prog 46 (Zm x) 0 (.agg (Zm x)):=⟨ZG 21⟩
instance Zuj (x:ZJ):LdC prog 37 (Zm x) 0 (.agg (Zh x.In)):=⟨ZG 20⟩
instance Zuw (x:ZJ):LdC prog 35 (Zm x) 0 (.agg (Zc x.In.From)):=⟨ZG 9⟩
instance ZuJ (x:ZJ):LdC prog 35 (Zm x) 9 (.agg (Zc x.In.To)):=⟨ZG 9⟩
instance ZtD (x:ZJ):LdC prog 3 (Zm x) 20 (.int .i64 x.Label):=⟨ZD⟩
instance Zsn (x:Zab):LdC prog 145 (Zp x) 0 (.agg (Zp x)):=⟨ZG 21⟩
instance Ztf (x:Zab):LdC prog 37 (Zp x) 0 (.agg (Zh x.In)):=⟨ZG 20⟩
instance Zts (x:Zab):LdC prog 3 (Zp x) 20 (.int .i64 x.F):=⟨ZD⟩
instance ZsL (x:ZV):LdC prog 162 (Zd x) 0 (.agg (Zd x)):=⟨ZG 3⟩
instance ZtM (x:ZV):LdC prog 4 (Zd x) 0 (.bool x.neg):=⟨ZD⟩
instance Zs5 (x:ZV):LdC prog 65 (Zd x) 1 (.slice x.num.a x.num.len x.num.cap):=⟨ZD⟩
instance Zs8 (x:ZV):LdC prog 65 (Zd x) 2 (.slice x.den.a x.den.len x.den.cap):=⟨ZD⟩
instance ZBe :BdC prog 31 [] (.agg (Zt Zak)):=⟨fun w=>by kernel_rfl⟩
instance ZvR (x0:Bool)(x1:ByteArray):BdC prog 31 [(0, .bool x0),(1, .string x1)] (.agg (Zt ⟨x0,x1⟩)):=⟨fun w=>by kernel_rfl⟩
instance ZBw :BdC prog 33 [] (.agg (Zn ZaH)):=⟨fun w=>by kernel_rfl⟩
instance ZzN (x0:ZN):BdC prog 33 [(0, .agg (Zt x0))] (.agg (Zn ⟨x0,Zak⟩)):=⟨fun w=>by kernel_rfl⟩
instance Zvv (x0:ZN)(x1:ZN):BdC prog 33 [(0, .agg (Zt x0)),(1, .agg (Zt x1))] (.agg (Zn ⟨x0,x1⟩)):=⟨fun w=>by kernel_rfl⟩
instance ZuM (x0:Zr)(x1:Int):BdC prog 145 [(0, .agg (Zh x0)),(1, .int .i64 x1)] (.agg (Zp ⟨x0,x1⟩)):=⟨fun w=>by kernel_rfl⟩
instance Zrv (x0:Bool)(x1:Option Addr)(x1l x1c:Nat)(x2:Option Addr)(x2l x2c:Nat):BdC prog 162 [(0, .bool x0),(1, .slice x1 x1l x1c),(2, .slice x2 x2l x2c)] (.agg (Zd ⟨x0,⟨x1,x1l,x1c⟩,⟨x2,x2l,x2c⟩⟩)):=⟨fun w=>by kernel_rfl⟩
theorem Zel (d:Nat)(w:World)(x y:ZN):(Op.equalIn (d+2) 31 (.agg (Zt x)) (.agg (Zt y))).run prog w= .ok (decide (x=y)) w:=by
 have p0:∀(z:ZN)(u:World),(part 4 (Zt z) 0).run prog u= .ok (.bool z.Neg) u:=fun _ _=>by kernel_rfl
 have q0:∀(u:World),(Op.equalIn (d+1) 4 (.bool x.Neg) (.bool y.Neg)).run prog u= .ok (decide (x.Neg=y.Neg)) u:=fun u=>by rw[run_equalIn_bool' u (d+0) 4 _ _ (by kernel_rfl),ZdJ]
 have p1:∀(z:ZN)(u:World),(part 9 (Zt z) 1).run prog u= .ok (.string z.Mag) u:=fun _ _=>by kernel_rfl
 have q1:∀(u:World),(Op.equalIn (d+1) 9 (.string x.Mag) (.string y.Mag)).run prog u= .ok (decide (x.Mag=y.Mag)) u:=fun u=>by rw[run_equalIn_string u (d+0) 9 _ _ (by kernel_rfl),<-beq_toListBytes,ZeZ]
 have hf:(prog.fieldsOf 31).toList=[{name:= "Neg",type:=4,offset:=0,embedded:=false,tag:= "",pkgPath:= "",byteOffset:=0},{name:= "Mag",type:=9,offset:=1,embedded:=false,tag:= "",pkgPath:= "",byteOffset:=8}]:=by kernel_rfl
 rw[run_equalIn_struct w (d+1) 31 _ _ (by kernel_rfl) (by kernel_rfl),hf]
 have hx:x=y↔(x.Neg=y.Neg/\x.Mag=y.Mag):=by cases x;cases y;simp
 simp only[Op.eqFields,Sem.run_bind,Result.andThen_ok,Sem.run_ite,Sem.run_pure,p0,p1,q0,q1]
 by_cases h0:x.Neg=y.Neg <;> by_cases h1:x.Mag=y.Mag <;> simp[hx,h0,h1]
instance ZBR (x y:ZN):BinC prog .eql 31 (.agg (Zt x)) (.agg (Zt y)) (.bool (decide (x=y))):=⟨fun a b w=>run_eqGuard_agg w _ _ _ _ _ _ (by kernel_rfl),fun w=>by rw[run_eql_struct,Zel 9998];rfl⟩
instance ZB0 (x y:ZN):BinC prog .neq 31 (.agg (Zt x)) (.agg (Zt y)) (.bool (!decide (x=y))):=⟨fun a b w=>run_eqGuard_agg w _ _ _ _ _ _ (by kernel_rfl),fun w=>by rw[run_neq_struct,Zel 9998];rfl⟩
theorem ZfW (d:Nat)(w:World)(x y:ZK):(Op.equalIn (d+3) 33 (.agg (Zn x)) (.agg (Zn y))).run prog w= .ok (decide (x=y)) w:=by
 have p0:∀(z:ZK)(u:World),(part 31 (Zn z) 0).run prog u= .ok (.agg (Zt z.Num)) u:=fun _ _=>by kernel_rfl
 have q0:∀(u:World),(Op.equalIn (d+2) 31 (.agg (Zt x.Num)) (.agg (Zt y.Num))).run prog u= .ok (decide (x.Num=y.Num)) u:=fun u=>Zel (d+0) u _ _
 have p1:∀(z:ZK)(u:World),(part 31 (Zn z) 2).run prog u= .ok (.agg (Zt z.Den)) u:=fun _ _=>by kernel_rfl
 have q1:∀(u:World),(Op.equalIn (d+2) 31 (.agg (Zt x.Den)) (.agg (Zt y.Den))).run prog u= .ok (decide (x.Den=y.Den)) u:=fun u=>Zel (d+0) u _ _
 have hf:(prog.fieldsOf 33).toList=[{name:= "Num",type:=31,offset:=0,embedded:=false,tag:= "",pkgPath:= "",byteOffset:=0},{name:= "Den",type:=31,offset:=2,embedded:=false,tag:= "",pkgPath:= "",byteOffset:=24}]:=by kernel_rfl
 rw[run_equalIn_struct w (d+2) 33 _ _ (by kernel_rfl) (by kernel_rfl),hf]
 have hx:x=y↔(x.Num=y.Num/\x.Den=y.Den):=by cases x;cases y;simp
 simp only[Op.eqFields,Sem.run_bind,Result.andThen_ok,Sem.run_ite,Sem.run_pure,p0,p1,q0,q1]
 by_cases h0:x.Num=y.Num <;> by_cases h1:x.Den=y.Den <;> simp[hx,h0,h1]
instance ZBL (x y:ZK):BinC prog .eql 33 (.agg (Zn x)) (.agg (Zn y)) (.bool (decide (x=y))):=⟨fun a b w=>run_eqGuard_agg w _ _ _ _ _ _ (by kernel_rfl),fun w=>by rw[run_eql_struct,ZfW 9997];rfl⟩
theorem ZeE (d:Nat)(w:World)(x y:ZI):(Op.equalIn (d+4) 35 (.agg (Zc x)) (.agg (Zc y))).run prog w= .ok (decide (x=y)) w:=by
 have p0:∀(z:ZI)(u:World),(part 33 (Zc z) 0).run prog u= .ok (.agg (Zn z.P)) u:=fun _ _=>by kernel_rfl
 have q0:∀(u:World),(Op.equalIn (d+3) 33 (.agg (Zn x.P)) (.agg (Zn y.P))).run prog u= .ok (decide (x.P=y.P)) u:=fun u=>ZfW (d+0) u _ _
 have p1:∀(z:ZI)(u:World),(part 33 (Zc z) 4).run prog u= .ok (.agg (Zn z.R)) u:=fun _ _=>by kernel_rfl
 have q1:∀(u:World),(Op.equalIn (d+3) 33 (.agg (Zn x.R)) (.agg (Zn y.R))).run prog u= .ok (decide (x.R=y.R)) u:=fun u=>ZfW (d+0) u _ _
 have p2:∀(z:ZI)(u:World),(part 4 (Zc z) 8).run prog u= .ok (.bool z.Neg) u:=fun _ _=>by kernel_rfl
 have q2:∀(u:World),(Op.equalIn (d+3) 4 (.bool x.Neg) (.bool y.Neg)).run prog u= .ok (decide (x.Neg=y.Neg)) u:=fun u=>by rw[run_equalIn_bool' u (d+2) 4 _ _ (by kernel_rfl),ZdJ]
 have hf:(prog.fieldsOf 35).toList=[{name:= "P",type:=33,offset:=0,embedded:=false,tag:= "",pkgPath:= "",byteOffset:=0},{name:= "R",type:=33,offset:=4,embedded:=false,tag:= "",pkgPath:= "",byteOffset:=48},{name:= "Neg",type:=4,offset:=8,embedded:=false,tag:= "",pkgPath:= "",byteOffset:=96}]:=by kernel_rfl
 rw[run_equalIn_struct w (d+3) 35 _ _ (by kernel_rfl) (by kernel_rfl),hf]
 have hx:x=y↔(x.P=y.P/\x.R=y.R/\x.Neg=y.Neg):=by cases x;cases y;simp
 simp only[Op.eqFields,Sem.run_bind,Result.andThen_ok,Sem.run_ite,Sem.run_pure,p0,p1,p2,q0,q1,q2]
 by_cases h0:x.P=y.P <;> by_cases h1:x.R=y.R <;> by_cases h2:x.Neg=y.Neg <;> simp[hx,h0,h1,h2]
instance ZB1 (x y:ZI):BinC prog .eql 35 (.agg (Zc x)) (.agg (Zc y)) (.bool (decide (x=y))):=⟨fun a b w=>run_eqGuard_agg w _ _ _ _ _ _ (by kernel_rfl),fun w=>by rw[run_eql_struct,ZeE 9996];rfl⟩
instance ZBc (x y:ZI):BinC prog .neq 35 (.agg (Zc x)) (.agg (Zc y)) (.bool (!decide (x=y))):=⟨fun a b w=>run_eqGuard_agg w _ _ _ _ _ _ (by kernel_rfl),fun w=>by rw[run_neq_struct,ZeE 9996];rfl⟩
theorem Zjs (d:Nat)(w:World)(x y:Zr):(Op.equalIn (d+5) 37 (.agg (Zh x)) (.agg (Zh y))).run prog w= .ok (decide (x=y)) w:=by
 have p0:∀(z:Zr)(u:World),(part 35 (Zh z) 0).run prog u= .ok (.agg (Zc z.From)) u:=fun _ _=>by kernel_rfl
 have q0:∀(u:World),(Op.equalIn (d+4) 35 (.agg (Zc x.From)) (.agg (Zc y.From))).run prog u= .ok (decide (x.From=y.From)) u:=fun u=>ZeE (d+0) u _ _
 have p1:∀(z:Zr)(u:World),(part 35 (Zh z) 9).run prog u= .ok (.agg (Zc z.To)) u:=fun _ _=>by kernel_rfl
 have q1:∀(u:World),(Op.equalIn (d+4) 35 (.agg (Zc x.To)) (.agg (Zc y.To))).run prog u= .ok (decide (x.To=y.To)) u:=fun u=>ZeE (d+0) u _ _
 have p2:∀(z:Zr)(u:World),(part 4 (Zh z) 18).run prog u= .ok (.bool z.OpenFrom) u:=fun _ _=>by kernel_rfl
 have q2:∀(u:World),(Op.equalIn (d+4) 4 (.bool x.OpenFrom) (.bool y.OpenFrom)).run prog u= .ok (decide (x.OpenFrom=y.OpenFrom)) u:=fun u=>by rw[run_equalIn_bool' u (d+3) 4 _ _ (by kernel_rfl),ZdJ]
 have p3:∀(z:Zr)(u:World),(part 4 (Zh z) 19).run prog u= .ok (.bool z.OpenTo) u:=fun _ _=>by kernel_rfl
 have q3:∀(u:World),(Op.equalIn (d+4) 4 (.bool x.OpenTo) (.bool y.OpenTo)).run prog u= .ok (decide (x.OpenTo=y.OpenTo)) u:=fun u=>by rw[run_equalIn_bool' u (d+3) 4 _ _ (by kernel_rfl),ZdJ]
 have hf:(prog.fieldsOf 37).toList=[{name:= "From",type:=35,offset:=0,embedded:=false,tag:= "",pkgPath:= "",byteOffset:=0},{name:= "To",type:=35,offset:=9,embedded:=false,tag:= "",pkgPath:= "",byteOffset:=104},{name:= "OpenFrom",type:=4,offset:=18,embedded:=false,tag:= "",pkgPath:= "",byteOffset:=208},{name:= "OpenTo",type:=4,offset:=19,embedded:=false,tag:= "",pkgPath:= "",byteOffset:=209}]:=by kernel_rfl
 rw[run_equalIn_struct w (d+4) 37 _ _ (by kernel_rfl) (by kernel_rfl),hf]
 have hx:x=y↔(x.From=y.From/\x.To=y.To/\x.OpenFrom=y.OpenFrom/\x.OpenTo=y.OpenTo):=by cases x;cases y;simp
 simp only[Op.eqFields,Sem.run_bind,Result.andThen_ok,Sem.run_ite,Sem.run_pure,p0,p1,p2,p3,q0,q1,q2,q3]
 by_cases h0:x.From=y.From <;> by_cases h1:x.To=y.To <;> by_cases h2:x.OpenFrom=y.OpenFrom <;> by_cases h3:x.OpenTo=y.OpenTo <;> simp[hx,h0,h1,h2,h3]
instance ZBr (x y:Zr):BinC prog .eql 37 (.agg (Zh x)) (.agg (Zh y)) (.bool (decide (x=y))):=⟨fun a b w=>run_eqGuard_agg w _ _ _ _ _ _ (by kernel_rfl),fun w=>by rw[run_eql_struct,Zjs 9995];rfl⟩
theorem Zqt (d:Nat)(w:World)(x y:ZJ):(Op.equalIn (d+6) 46 (.agg (Zm x)) (.agg (Zm y))).run prog w= .ok (decide (x=y)) w:=by
 have p0:∀(z:ZJ)(u:World),(part 37 (Zm z) 0).run prog u= .ok (.agg (Zh z.In)) u:=fun _ _=>by kernel_rfl
 have q0:∀(u:World),(Op.equalIn (d+5) 37 (.agg (Zh x.In)) (.agg (Zh y.In))).run prog u= .ok (decide (x.In=y.In)) u:=fun u=>Zjs (d+0) u _ _
 have p1:∀(z:ZJ)(u:World),(part 3 (Zm z) 20).run prog u= .ok (.int .i64 z.Label) u:=fun _ _=>by kernel_rfl
 have q1:∀(u:World),(Op.equalIn (d+5) 3 (.int .i64 x.Label) (.int .i64 y.Label)).run prog u= .ok (decide (x.Label=y.Label)) u:=fun u=>by rw[run_equalIn_int u (d+4) 3 .i64 .i64 _ _ (by kernel_rfl),Zge]
 have hf:(prog.fieldsOf 46).toList=[{name:= "In",type:=37,offset:=0,embedded:=false,tag:= "",pkgPath:= "",byteOffset:=0},{name:= "Label",type:=3,offset:=20,embedded:=false,tag:= "",pkgPath:= "",byteOffset:=216}]:=by kernel_rfl
 rw[run_equalIn_struct w (d+5) 46 _ _ (by kernel_rfl) (by kernel_rfl),hf]
 have hx:x=y↔(x.In=y.In/\x.Label=y.Label):=by cases x;cases y;simp
 simp only[Op.eqFields,Sem.run_bind,Result.andThen_ok,Sem.run_ite,Sem.run_pure,p0,p1,q0,q1]
 by_cases h0:x.In=y.In <;> by_cases h1:x.Label=y.Label <;> simp[hx,h0,h1]
instance ZBi (x y:ZJ):BinC prog .neq 46 (.agg (Zm x)) (.agg (Zm y)) (.bool (!decide (x=y))):=⟨fun a b w=>run_eqGuard_agg w _ _ _ _ _ _ (by kernel_rfl),fun w=>by rw[run_neq_struct,Zqt 9994];rfl⟩
theorem callG {P:Program}{a k b f:Nat}(hb:Nat.blt b (a+k)=true)(h:((List.range k).all fun i=>callableB P (i+a))=true)(h1:cnd (Nat.ble a f) (cnd (Nat.ble f b) (some ()) none) none=some ()):callableB P f=true:=by
 cases h3:Nat.ble a f
 ·rw[h3] at h1;cases h1
 ·cases h4:Nat.ble f b
  ·rw[h3,h4] at h1;cases h1
  ·have h5:=Nat.le_of_ble_eq_true h3
   have h6:=Nat.le_of_ble_eq_true h4
   have h8:b<a+k:=Nat.le_of_ble_eq_true hb
   have h7:=List.all_eq_true.1 h (f-a) (List.mem_range.2 (by omega))
   rwa [show f-a+a=f by omega] at h7
theorem callB :((List.range 144).all fun i=>callableB prog (i+3))=true:=by kernel_rfl
instance (priority :=low) callR (f:Nat)[h:IsC (cnd (Nat.ble 3 f) (cnd (Nat.ble f 146) (some ()) none) none) ()]:CallC prog f:=⟨callG rfl callB h.out⟩
instance Zxc :CallC prog 149:=⟨by kernel_rfl⟩
instance Zw7 :CallC prog 150:=⟨by kernel_rfl⟩
instance ZyD :CallC prog 151:=⟨by kernel_rfl⟩
instance Zxo :CallC prog 152:=⟨by kernel_rfl⟩
instance ZyF :CallC prog 153:=⟨by kernel_rfl⟩
instance Zxq :CallC prog 154:=⟨by kernel_rfl⟩
instance Zxe :CallC prog 155:=⟨by kernel_rfl⟩
instance Zyc :CallC prog 156:=⟨by kernel_rfl⟩
instance Zyy :CallC prog 157:=⟨by kernel_rfl⟩
instance Zyv :CallC prog 158:=⟨by kernel_rfl⟩
instance ZxM :CallC prog 159:=⟨by kernel_rfl⟩
instance ZxE :CallC prog 160:=⟨by kernel_rfl⟩
instance Zw9 :CallC prog 162:=⟨by kernel_rfl⟩
instance ZyU :CallC prog 163:=⟨by kernel_rfl⟩
instance Zy3 :CallC prog 164:=⟨by kernel_rfl⟩
instance Zy7 :CallC prog 165:=⟨by kernel_rfl⟩
instance Zzf :CallC prog 166:=⟨by kernel_rfl⟩
instance Zzd :CallC prog 167:=⟨by kernel_rfl⟩
instance Zx4 :CallC prog 168:=⟨by kernel_rfl⟩
instance Zy5 :CallC prog 169:=⟨by kernel_rfl⟩
instance Zx5 :CallC prog 170:=⟨by kernel_rfl⟩
instance Zxw :CallC prog 171:=⟨by kernel_rfl⟩
instance Zzi :CallC prog 172:=⟨by kernel_rfl⟩
instance Zxa :CallC prog 173:=⟨by kernel_rfl⟩
instance ZxH :CallC prog 174:=⟨by kernel_rfl⟩
instance Zxi :CallC prog 175:=⟨by kernel_rfl⟩
instance Zy0 :CallC prog 176:=⟨by kernel_rfl⟩
instance ZyK :CallC prog 177:=⟨by kernel_rfl⟩
instance Zyx :CallC prog 178:=⟨by kernel_rfl⟩
instance Zx2 :CallC prog 179:=⟨by kernel_rfl⟩
instance ZyS :CallC prog 181:=⟨by kernel_rfl⟩
instance Zyb :CallC prog 194:=⟨by kernel_rfl⟩
instance ZyT :CallC prog 195:=⟨by kernel_rfl⟩
instance Zy4 :CallC prog 196:=⟨by kernel_rfl⟩
instance Zyd :CallC prog 197:=⟨by kernel_rfl⟩
instance Zyg :CallC prog 198:=⟨by kernel_rfl⟩
instance Zxb :CallC prog 200:=⟨by kernel_rfl⟩
instance Zw2 :CallC prog 201:=⟨by kernel_rfl⟩
instance Zys :CallC prog 202:=⟨by kernel_rfl⟩
instance ZyH :CallC prog 203:=⟨by kernel_rfl⟩
instance ZxU :CallC prog 204:=⟨by kernel_rfl⟩
instance Zxr :CallC prog 205:=⟨by kernel_rfl⟩
instance Zyq :CallC prog 206:=⟨by kernel_rfl⟩
instance Zw0 :CallC prog 207:=⟨by kernel_rfl⟩
instance Zyw :CallC prog 208:=⟨by kernel_rfl⟩
instance Zxv :CallC prog 209:=⟨by kernel_rfl⟩
instance Zxk :CallC prog 210:=⟨by kernel_rfl⟩
instance Zx8 :CallC prog 211:=⟨by kernel_rfl⟩
instance Zyk :CallC prog 218:=⟨by kernel_rfl⟩
instance ZxZ :CallC prog 219:=⟨by kernel_rfl⟩
instance Zxy :CallC prog 220:=⟨by kernel_rfl⟩
instance Zxd :CallC prog 221:=⟨by kernel_rfl⟩
instance Zw6 :CallC prog 222:=⟨by kernel_rfl⟩
instance ZxR :CallC prog 223:=⟨by kernel_rfl⟩
instance ZxV :CallC prog 224:=⟨by kernel_rfl⟩
instance ZxP :CallC prog 226:=⟨by kernel_rfl⟩
instance Zw8 :CallC prog 227:=⟨by kernel_rfl⟩
instance Zyh :CallC prog 228:=⟨by kernel_rfl⟩
instance Zyo :CallC prog 229:=⟨by kernel_rfl⟩
instance ZyI :CallC prog 239:=⟨by kernel_rfl⟩
instance ZyX :CallC prog 240:=⟨by kernel_rfl⟩
instance Zyn :CallC prog 241:=⟨by kernel_rfl⟩
instance ZyG :CallC prog 242:=⟨by kernel_rfl⟩
instance Zze :CallC prog 243:=⟨by kernel_rfl⟩
instance ZxY :CallC prog 244:=⟨by kernel_rfl⟩
instance ZyJ :CallC prog 245:=⟨by kernel_rfl⟩
instance ZyN :CallC prog 246:=⟨by kernel_rfl⟩
instance Zxf :CallC prog 253:=⟨by kernel_rfl⟩
instance ZyP :CallC prog 298:=⟨by kernel_rfl⟩
instance ZyV :CallC prog 299:=⟨by kernel_rfl⟩
instance Zzb :CallC prog 300:=⟨by kernel_rfl⟩
instance Zyz :CallC prog 301:=⟨by kernel_rfl⟩
theorem mixed :prog.follows .mixedOrders=true:=by kernel_rfl
end Go.Vt
/-
 DERIVED: THE SHELF's CONTRACTS AT THIS DUMP, IN PLAIN WORDS (tools/lay-plain.mjs out of 'TryzShelf.lean', which tools/lay-shelf.mjs wrote): THE SAME DECLARATIONS UNDER THE SAME NAMES: 'import', 'namespace', 'open', 'def', 'theorem' AND NOTHING ELSE: no command of the shelf's: FOR A HAND-IN. Each laying: the table of numbers ('.._ren') and one theorem, a field a fact of the dump's own or the kernel's comparison; each contract: ONE APPLICATION.
-/
namespace Go.Proofs
open Go.Shelf
def Tryz.lays161_ren :Go.Shelf.Ren:=⟨fun|161=>246|231=>254|227=>255|233=>256|235=>257|228=>266|197=>267|151=>268|260=>273|152=>274|137=>277|119=>278|224=>279|225=>280|217=>281|266=>282|n=>n,fun|9=>9|4=>4|3=>3|5=>5|117=>292|116=>291|0=>0|124=>295|105=>310|21=>21|119=>320|46=>189|139=>323|138=>322|n=>n,fun|3=>2|4=>3|n=>n⟩
theorem Tryz.lays161 :Go.Proofs.Lays.n161 Tryz.prog Tryz.lays161_ren:={
 mixed:=by kernel_rfl
 f119:=Tryz.func278.trans (congrArg some (by kernel_rfl))
 f137:=Tryz.func277.trans (congrArg some (by kernel_rfl))
 f151:=Tryz.func268.trans (congrArg some (by kernel_rfl))
 f152:=Tryz.func274.trans (congrArg some (by kernel_rfl))
 f161:=Tryz.func246.trans (congrArg some (by kernel_rfl))
 f197:=Tryz.func267.trans (congrArg some (by kernel_rfl))
 f217:=Tryz.func281.trans (congrArg some (by kernel_rfl))
 f224:=Tryz.func279.trans (congrArg some (by kernel_rfl))
 f225:=Tryz.func280.trans (congrArg some (by kernel_rfl))
 f227:=Tryz.func255.trans (congrArg some (by kernel_rfl))
 f228:=Tryz.func266.trans (congrArg some (by kernel_rfl))
 f231:=Tryz.func254.trans (congrArg some (by kernel_rfl))
 f233:=Tryz.func256.trans (congrArg some (by kernel_rfl))
 f235:=Tryz.func257.trans (congrArg some (by kernel_rfl))
 f260:=Tryz.func273.trans (congrArg some (by kernel_rfl))
 f266:=Tryz.func282.trans (congrArg some (by kernel_rfl))
 t0:=Tryz.underlying0
 a0:=Tryz.isAgg0
 z0:=Tryz.sizeOf0
 v0:=Tryz.zeroValue0
 t3:=Tryz.underlying3
 a3:=Tryz.isAgg3
 z3:=Tryz.sizeOf3
 v3:=Tryz.zeroValue3
 t4:=Tryz.underlying4
 a4:=Tryz.isAgg4
 z4:=Tryz.sizeOf4
 v4:=Tryz.zeroValue4
 t5:=Tryz.underlying5
 a5:=Tryz.isAgg5
 z5:=Tryz.sizeOf5
 v5:=Tryz.zeroValue5
 t9:=Tryz.underlying9
 a9:=Tryz.isAgg9
 z9:=Tryz.sizeOf9
 v9:=Tryz.zeroValue9
 t21:=Tryz.underlying21
 a21:=Tryz.isAgg21
 z21:=Tryz.sizeOf21
 v21:=Tryz.zeroValue21
 t46:=Tryz.underlying189
 a46:=Tryz.isAgg189
 z46:=Tryz.sizeOf189
 v46:=Tryz.zeroValue189
 t105:=Tryz.underlying310
 a105:=Tryz.isAgg310
 z105:=Tryz.sizeOf310
 v105:=Tryz.zeroValue310
 t116:=Tryz.underlying291
 a116:=Tryz.isAgg291
 z116:=Tryz.sizeOf291
 t117:=Tryz.underlying292
 a117:=Tryz.isAgg292
 z117:=Tryz.sizeOf292
 v117:=Tryz.zeroValue292
 t119:=Tryz.underlying320
 a119:=Tryz.isAgg320
 z119:=Tryz.sizeOf320
 t124:=Tryz.underlying295
 a124:=Tryz.isAgg295
 z124:=Tryz.sizeOf295
 v124:=Tryz.zeroValue295
 t138:=Tryz.underlying322
 a138:=Tryz.isAgg322
 z138:=Tryz.sizeOf322
 v138:=Tryz.zeroValue322
 t139:=Tryz.underlying323
 a139:=Tryz.isAgg323
 z139:=Tryz.sizeOf323
 v139:=Tryz.zeroValue323
 g3:=by kernel_rfl
 g4:=by kernel_rfl}
open Go.RowKit in
theorem Tryz.strings_TrimLeft_one (s:ByteArray)(c:UInt8)(hc:c.toNat<128)(w:World):
  Calls Tryz.prog 246 #[.string s, .string ⟨#[c]⟩] w fun e w'=>e= .returned (.string ⟨(Lib.trimLeftB s.data.toList c).toArray⟩)/\w'=w:=Any.strings_TrimLeft_one Tryz.lays161 s c hc w
def Tryz.lays126_ren :Go.Shelf.Ren:=⟨fun|126=>251|n=>n,fun|5=>5|3=>3|9=>9|n=>n,fun|n=>n⟩
theorem Tryz.lays126 :Go.Proofs.Lays.n126 Tryz.prog Tryz.lays126_ren:={
 mixed:=by kernel_rfl
 f126:=Tryz.func251.trans (congrArg some (by kernel_rfl))
 t3:=Tryz.underlying3
 a3:=Tryz.isAgg3
 z3:=Tryz.sizeOf3
 v3:=Tryz.zeroValue3
 t5:=Tryz.underlying5
 a5:=Tryz.isAgg5
 z5:=Tryz.sizeOf5
 v5:=Tryz.zeroValue5
 t9:=Tryz.underlying9
 a9:=Tryz.isAgg9
 z9:=Tryz.sizeOf9
 v9:=Tryz.zeroValue9}
theorem Tryz.bits_Len8 (x:Int)(w:World)(h0:0<=x)(h1:x<=255):
  Calls Tryz.prog 251 #[.int .u8 x] w fun e w'=>e= .returned (.int .i64 (Lib.bitLen x.toNat))/\w'=w:=Any.bits_Len8 Tryz.lays126 x w h0 h1
def Tryz.lays128_ren :Go.Shelf.Ren:=⟨fun|128=>193|n=>n,fun|51=>230|3=>3|4=>4|46=>189|5=>5|9=>9|n=>n,fun|n=>n⟩
def Tryz.lays133_ren :Go.Shelf.Ren:=⟨fun|133=>243|128=>193|n=>n,fun|51=>230|3=>3|4=>4|46=>189|5=>5|9=>9|n=>n,fun|n=>n⟩
theorem Tryz.lays133 :Go.Proofs.Lays.n133 Tryz.prog Tryz.lays133_ren:={
 mixed:=by kernel_rfl
 f128:=Tryz.func193.trans (congrArg some (by kernel_rfl))
 f133:=Tryz.func243.trans (congrArg some (by kernel_rfl))
 t3:=Tryz.underlying3
 a3:=Tryz.isAgg3
 z3:=Tryz.sizeOf3
 v3:=Tryz.zeroValue3
 t4:=Tryz.underlying4
 a4:=Tryz.isAgg4
 z4:=Tryz.sizeOf4
 v4:=Tryz.zeroValue4
 t5:=Tryz.underlying5
 a5:=Tryz.isAgg5
 z5:=Tryz.sizeOf5
 v5:=Tryz.zeroValue5
 t9:=Tryz.underlying9
 a9:=Tryz.isAgg9
 z9:=Tryz.sizeOf9
 v9:=Tryz.zeroValue9
 t46:=Tryz.underlying189
 a46:=Tryz.isAgg189
 z46:=Tryz.sizeOf189
 v46:=Tryz.zeroValue189
 t51:=Tryz.underlying230
 a51:=Tryz.isAgg230
 z51:=Tryz.sizeOf230
 v51:=Tryz.zeroValue230}
theorem Tryz.bits_LeadingZeros32 (x:Int)(w:World)(h0:0<=x)(h1:x<=4294967295):
  Calls Tryz.prog 243 #[.int .u32 x] w fun e w'=>e= .returned (.int .i64 (32-(Lib.bitLen x.toNat:Int)))/\w'=w:=Any.bits_LeadingZeros32 Tryz.lays133 x w h0 h1
def Tryz.lays213_ren :Go.Shelf.Ren:=⟨fun|213=>247|265=>258|n=>n,fun|9=>9|3=>3|n=>n,fun|n=>n⟩
def Tryz.lays106_ren :Go.Shelf.Ren:=⟨fun|106=>228|213=>247|265=>258|n=>n,fun|9=>9|3=>3|n=>n,fun|n=>n⟩
theorem Tryz.lays106 :Go.Proofs.Lays.n106 Tryz.prog Tryz.lays106_ren:={
 mixed:=by kernel_rfl
 f106:=Tryz.func228.trans (congrArg some (by kernel_rfl))
 f213:=Tryz.func247.trans (congrArg some (by kernel_rfl))
 f265:=Tryz.func258.trans (congrArg some (by kernel_rfl))
 t3:=Tryz.underlying3
 a3:=Tryz.isAgg3
 z3:=Tryz.sizeOf3
 v3:=Tryz.zeroValue3
 t9:=Tryz.underlying9
 a9:=Tryz.isAgg9
 z9:=Tryz.sizeOf9
 v9:=Tryz.zeroValue9}
open Go.RowKit in
theorem Tryz.strings_Compare (a b:ByteArray)(w:World):
  Calls Tryz.prog 228 #[.string a, .string b] w fun e w'=>e= .returned (.int .i64 (Lib.compareBytes a.data.toList b.data.toList))/\w'=w:=Any.strings_Compare Tryz.lays106 a b w
def Tryz.lays215_ren :Go.Shelf.Ren:=⟨fun|215=>199|n=>n,fun|3=>3|4=>4|n=>n,fun|n=>n⟩
def Tryz.lays122_ren :Go.Shelf.Ren:=⟨fun|122=>165|215=>199|n=>n,fun|3=>3|4=>4|n=>n,fun|n=>n⟩
theorem Tryz.lays122 :Go.Proofs.Lays.n122 Tryz.prog Tryz.lays122_ren:={
 mixed:=by kernel_rfl
 f122:=Tryz.func165.trans (congrArg some (by kernel_rfl))
 f215:=Tryz.func199.trans (congrArg some (by kernel_rfl))
 t3:=Tryz.underlying3
 a3:=Tryz.isAgg3
 z3:=Tryz.sizeOf3
 v3:=Tryz.zeroValue3
 t4:=Tryz.underlying4
 a4:=Tryz.isAgg4
 z4:=Tryz.sizeOf4
 v4:=Tryz.zeroValue4}
open Go.RowKit in
theorem Tryz.cmp_Compare_int (x y:Int)(w:World):
  Calls Tryz.prog 165 #[.int .i64 x, .int .i64 y] w fun e w'=>e= .returned (.int .i64 (Lib.compareInt x y))/\w'=w:=Any.cmp_Compare_int Tryz.lays122 x y w
def Tryz.lays129_ren :Go.Shelf.Ren:=⟨fun|129=>194|n=>n,fun|53=>232|3=>3|4=>4|46=>189|5=>5|9=>9|n=>n,fun|n=>n⟩
theorem Tryz.lays129 :Go.Proofs.Lays.n129 Tryz.prog Tryz.lays129_ren:={
 mixed:=by kernel_rfl
 f129:=Tryz.func194.trans (congrArg some (by kernel_rfl))
 t3:=Tryz.underlying3
 a3:=Tryz.isAgg3
 z3:=Tryz.sizeOf3
 v3:=Tryz.zeroValue3
 t4:=Tryz.underlying4
 a4:=Tryz.isAgg4
 z4:=Tryz.sizeOf4
 v4:=Tryz.zeroValue4
 t5:=Tryz.underlying5
 a5:=Tryz.isAgg5
 z5:=Tryz.sizeOf5
 v5:=Tryz.zeroValue5
 t9:=Tryz.underlying9
 a9:=Tryz.isAgg9
 z9:=Tryz.sizeOf9
 v9:=Tryz.zeroValue9
 t46:=Tryz.underlying189
 a46:=Tryz.isAgg189
 z46:=Tryz.sizeOf189
 v46:=Tryz.zeroValue189
 t53:=Tryz.underlying232
 a53:=Tryz.isAgg232
 z53:=Tryz.sizeOf232
 v53:=Tryz.zeroValue232}
theorem Tryz.bits_Len64 (x:Int)(w:World)(h0:0<=x)(h1:x<=18446744073709551615):
  Calls Tryz.prog 194 #[.int .u64 x] w fun e w'=>e= .returned (.int .i64 (Lib.bitLen x.toNat))/\w'=w:=Any.bits_Len64 Tryz.lays129 x w h0 h1
def Tryz.lays264_ren :Go.Shelf.Ren:=⟨fun|264=>229|n=>n,fun|53=>232|46=>189|n=>n,fun|n=>n⟩
theorem Tryz.lays264 :Go.Proofs.Lays.n264 Tryz.prog Tryz.lays264_ren:={
 mixed:=by kernel_rfl
 f264:=Tryz.func229.trans (congrArg some (by kernel_rfl))
 t46:=Tryz.underlying189
 a46:=Tryz.isAgg189
 z46:=Tryz.sizeOf189
 v46:=Tryz.zeroValue189
 t53:=Tryz.underlying232
 a53:=Tryz.isAgg232
 z53:=Tryz.sizeOf232
 v53:=Tryz.zeroValue232}
open Go.RowKit Go.Lib in
theorem Tryz.bits_Mul64 (x y:Nat)(hx:x<18446744073709551616)(hy:y<18446744073709551616)(w:World):
  Calls Tryz.prog 229 #[.int .u64 x, .int .u64 y] w fun e w'=>e= .returned (.tuple #[.int .u64 ((x*y / 18446744073709551616:Nat):Int), .int .u64 ((x*y % 18446744073709551616:Nat):Int)])/\w'=w:=Any.bits_Mul64 Tryz.lays264 x y hx hy w
end Go.Proofs
namespace Go.Vt
open Go.RowKit Go.Proofs
open Go.Proofs.Tryz (prog)
theorem Zo9 (l:List UInt8)(b:UInt8):vle (l++[b]).reverse=b.toNat+256*vle l.reverse:=by simp[vle]
theorem Zz9 {l:List UInt8}(h:l.length<=8):vle l<18446744073709551616:=by
 have h1:=Zdo l
 have h2:256 ^ l.length<=256 ^ 8:=Nat.pow_le_pow_right (by omega) h
 have h3:(256:Nat) ^ 8=18446744073709551616:=by decide
 omega
theorem Zp6 {l:List UInt8}(h:l.length<=7):vle l<72057594037927936:=by
 have h1:=Zdo l
 have h2:256 ^ l.length<=256 ^ 7:=Nat.pow_le_pow_right (by omega) h
 have h3:(256:Nat) ^ 7=72057594037927936:=by decide
 omega
theorem Zq4 (x b:Nat)(hx:x<72057594037927936)(hb:b<256):bits .or .u64 (IntKind.u64.wrap ((x:Int)*2 ^ (8:Int).toNat)) (b:Int)=((b+256*x:Nat):Int):=by
 have e1:((8:Int).toNat)=8:=rfl
 rw[e1,IntWalk.u64_in _ (by omega)]
 unfold bits
 have hx':((x:Int)*2 ^ 8)=((x*256:Nat):Int):=by omega
 rw[hx']
 have h1:BitVec.ofInt IntKind.u64.bits ((x*256:Nat):Int)=BitVec.ofNat 64 (x*256):=BitVec.ofInt_natCast _ _
 have h2:BitVec.ofInt IntKind.u64.bits ((b:Nat):Int)=BitVec.ofNat 64 b:=BitVec.ofInt_natCast _ _
 have h3:(x*256)|||b=x*256+b:=by
  rw[show x*256=x<<<8 by rw[Nat.shiftLeft_eq]]
  rw[Nat.shiftLeft_add_eq_or_of_lt (by omega:b<2 ^ 8)]
 simp only[h1,h2]
 show IntKind.u64.wrap ((BitVec.ofNat 64 (x*256)|||BitVec.ofNat 64 b).toNat:Int)=_
 rw[BitVec.toNat_or,BitVec.toNat_ofNat,BitVec.toNat_ofNat,Nat.mod_eq_of_lt (by omega),Nat.mod_eq_of_lt (by omega),h3,IntWalk.u64_in _ (by omega)]
 omega
theorem Zo0 (s:ByteArray)(k:Nat)(h:k<s.size):s.data.toList.take (k+1)=s.data.toList.take k++[s[k]]:=by
 rw[Wn (by simpa using h)]
 rfl
theorem ZoJ (s:ByteArray)(h:s.size<=8)(w:World):Calls prog 241 [.string s].toArray w (Ret (.tuple #[.int .u64 (vmag s), .bool true]) w):=by
 refine Zb Tryz.func241 rfl Tryz.ntmps241 rfl ?_
 repeat(refine wkA ?_;intros)
 refine Zk rfl (fun h=>?_) (fun h=>?_)
 ·have:=Wa h
  omega
 repeat(refine wkA ?_;intros)
 refine Zq (S:=Nat) (fun k=>k<=s.size) (fun k=>[(0, .string s),(10, .int .i64 s.size),(11, .int .i64 k),(4, .int .u64 (vle (s.data.toList.take k).reverse))]) (fun _=>[]) (fun k=>s.size-k) 0 (Wm _)
  (by repeat(first|exact Zz|refine Zu rfl ?_)) (Wj _) (fun k hk=>?_)
 repeat(refine wkA ?_;intros)
 refine Zk rfl (fun h=>?_) (fun h=>?_)
 ·have hlt:k<s.size:=by have:=Wa h;omega
  have hu:=UInt8.toNat_lt s[k]
  repeat(refine wkA ?_;intros)
  refine jq (Zco rfl rfl (by decide)) rfl rfl ?_
  repeat(refine wkA ?_;intros)
  refine jq (ZaX rfl rfl (by omega) (show s[(k:Int).toNat]? =some s[k] by simp[hlt])) rfl rfl ?_
  repeat(refine wkA ?_;intros)
  refine jq (ZdN rfl rfl) rfl rfl ?_
  have hx:=Zp6 (l:=(s.data.toList.take k).reverse) (by simp;omega)
  rw[Zq4 _ _ hx (UInt8.toNat_lt _),<-Zo9,<-Zo0 s k hlt]
  repeat(refine wkA ?_;intros)
  exact Zg (k+1) hlt (by repeat(first|exact Zz|refine Zu rfl ?_)) (Wj _) (by omega)
 ·have hge:k=s.size:=by have:=Wb h;omega
  subst hge
  repeat(refine wkA ?_;intros)
  refine ZF rfl (Zy rfl) (Zy rfl) (fun w hw=>?_)
  have e:vle (s.data.toList.take s.size).reverse=vmag s:=by
   unfold vmag
   rw[show s.data.toList.take s.size=s.data.toList from List.take_of_length_le (Nat.le_of_eq rfl)]
  rw[e]
  exact ZP hw
theorem Zp3 (s:ByteArray)(h:8<s.size)(w:World):Calls prog 241 [.string s].toArray w (Ret (.tuple #[.int .u64 0, .bool false]) w):=by
 refine Zb Tryz.func241 rfl Tryz.ntmps241 rfl ?_
 repeat(refine wkA ?_;intros)
 refine Zk rfl (fun h=>?_) (fun h=>?_)
 ·repeat(refine wkA ?_;intros)
  exact ZF rfl (Zy rfl) (Zy rfl) (fun w hw=>ZP hw)
 ·have:=Wb h
  omega
def I (n:Int):ZN:=⟨decide (n<0),mag n.natAbs⟩
abbrev vI (n:Int):Value:= .agg (Zt (I n))
def lo (a:Nat):Nat:=if a<18446744073709551616 then a else 0
def sm (a:Nat):Bool:=decide (a<18446744073709551616)
theorem Zca {a:Nat}(h:sm a=true):lo a=a:=by unfold sm at h;unfold lo;rw[if_pos (Wa h)]
theorem Zcb (a:Nat):lo a<18446744073709551616:=by unfold lo;split <;> omega
theorem size8 {a:Nat}:(mag a).size<=8↔a<18446744073709551616:=by
 rw[Z2]
instance ZzB (a:Nat):SpecC prog 241 [.string (mag a)] (.tuple #[.int .u64 (lo a), .bool (sm a)]) True:=⟨fun _ w=>by
 by_cases h:a<18446744073709551616
 ·have:=ZoJ (mag a) (size8.2 h) w
  rw[Zb9] at this
  unfold lo sm
  rw[if_pos h,Wc h]
  exact this
 ·have:=Zp3 (mag a) (by have:=size8 (a:=a);omega) w
  unfold lo sm
  rw[if_neg h,We h]
  exact this⟩
instance ZxQ (a b:Nat):SpecC prog 222 [.string (mag a), .string (mag b)] (.tuple #[.int .u64 (lo a), .int .u64 (lo b), .bool (sm a&&sm b)]) True:=⟨fun _ w=>by
 cases h:sm a
 all_goals
  refine Zb Tryz.func222 rfl Tryz.ntmps222 rfl ?_
  repeat(refine wkA ?_;intros)
  simp only[h]
  repeat(refine wkA ?_;intros)
  exact Za4 rfl (Zy rfl) (Zy rfl) (Zy rfl) (fun w hw=>ZP hw)⟩
theorem ZoC (b:Bool)(s:ByteArray)(w:World):Calls prog 202 [.bool b, .string s].toArray w (Ret (.agg (Zt ⟨b&& !decide (s=ByteArray.empty),s⟩)) w):=by
 cases b
 all_goals
  refine Zb Tryz.func202 rfl Tryz.ntmps202 rfl ?_
  repeat(refine wkA ?_;intros)
  exact rtC rfl rfl
def sg (b:Bool)(n:Nat):Int:=if b then-(n:Int) else n
theorem ZrY (b:Bool)(n:Nat):(⟨b&& !decide (mag n=ByteArray.empty),mag n⟩:ZN)=I (sg b n):=by
 unfold I sg
 cases b
 ·simp
 ·by_cases h:n=0
  ·subst h;simp[ZdF]
  ·have h1:¬mag n=ByteArray.empty:=fun h2=>h (Z7.1 h2)
   simp[h1]
   omega
instance ZAf (b:Bool)(n:Nat):SpecC prog 202 [.bool b, .string (mag n)] (vI (sg b n)) True:=⟨fun _ w=>by
 have:=ZoC b (mag n) w
 rw[ZrY] at this
 exact this⟩
def cellsK (u n k:Nat):List Int:=(List.range 8).map fun j=>if n-k<=j/\j<n then((u / 256 ^ (n-1-j) % 256:Nat):Int) else 0
theorem Zcu (u n k:Nat):(cellsK u n k).length=8:=by simp[cellsK]
theorem Zcr (u n k j:Nat)(h:j<8):(cellsK u n k)[j]? =some (if n-k<=j/\j<n then((u / 256 ^ (n-1-j) % 256:Nat):Int) else 0):=by
 simp[cellsK,h]
theorem Zi0 (u n k:Nat)(hn:n<=8)(hk:k<n):(cellsK u n k).set (n-1-k) ((u / 256 ^ k % 256:Nat):Int)=cellsK u n (k+1):=by
 apply List.ext_getElem?
 intro j
 by_cases hj:j<8
 ·rw[List.getElem?_set,Zcr _ _ _ _ hj]
  by_cases he:n-1-k=j
  ·subst he
   rw[if_pos rfl,if_pos (by rw[Zcu];omega),Zcr _ _ _ _ hj,if_pos (by omega),show n-1-(n-1-k)=k by omega]
  ·rw[if_neg he,Zcr _ _ _ _ hj]
   congr 1
   by_cases h1:n-k<=j/\j<n
   ·rw[if_pos h1,if_pos (by omega)]
   ·rw[if_neg h1,if_neg (by omega)]
 ·rw[List.getElem?_eq_none (by rw[List.length_set,Zcu];omega),List.getElem?_eq_none (by rw[Zcu];omega)]
theorem Zn5 (u n:Nat)(hn:n<=8)(h:(le u).length=n)(i:Nat)(b:UInt8)(hb:(le u).reverse[i]? =some b):(nums .u8 (cellsK u n n))[0+i]? =some (.int .u8 b.toNat):=by
 have hi:i<n:=by
  rcases Nat.lt_or_ge i n with h1|h1
  ·exact h1
  ·rw[List.getElem?_eq_none (by simp;omega)] at hb;cases hb
 rw[Nat.zero_add,ZeT,Zcr _ _ _ _ (by omega),if_pos (by omega)]
 rw[List.getElem?_reverse (by omega),h,Zhg _ _ (by omega)] at hb
 simp only[Option.some.injEq] at hb
 subst hb
 simp
theorem pow256 (k:Nat):(2:Int) ^ (8*(k:Int)).toNat=((256 ^ k:Nat):Int):=by
 have h:(8*(k:Int)).toNat=8*k:=by omega
 rw[h,show(256:Nat)=2 ^ 8 from rfl,<-Nat.pow_mul]
 simp
theorem ZiX (u n:Nat):cellsK u n 0=[0,0,0,0,0,0,0,0]:=by
 have:∀j,(if n-0<=j/\j<n then((u / 256 ^ (n-1-j) % 256:Nat):Int) else 0)=0:=fun j=>by rw[if_neg (by omega)]
 simp only[cellsK,this]
 rfl
theorem Zkk (u k:Nat):IntKind.u8.wrap ((u:Int) / 2 ^ (8*(k:Int)).toNat)=((u / 256 ^ k % 256:Nat):Int):=by
 rw[pow256,IntKind.wrap_u8]
 rfl
theorem ZgK (u:Nat)(h0:u≠0)(h:u<18446744073709551616)(w:World):Calls prog 211 [.int .u64 u].toArray w (Ret (.string (mag u)) w):=by
 have hbit:=ZnD (x:=u) h h0
 have hb64:=Zmj (x:=u) h
 obtain⟨n,hn⟩:∃n,n=(mag u).size:=⟨_,rfl⟩
 have hn8:n<=8:=by rw[hn,size8];exact h
 have hn1:1<=n:=by
  rcases Nat.eq_zero_or_pos n with h1|h1
  ·exfalso
   have:(mag u).size<=0:=by omega
   rw[Z2] at this
   omega
  ·exact h1
 haveI:SpecC prog 194 [.int .u64 u] (.int .i64 (Lib.bitLen u)) True:=⟨fun _ w=>(Tryz.bits_Len64 u w (by omega) (by omega)).mono fun e w' ⟨h1,h2⟩=>by subst h2;exact⟨h1,Ext.refl _⟩⟩
 refine Zb Tryz.func211 rfl Tryz.ntmps211 rfl ?_
 repeat(refine wkA ?_;intros)
 refine Zk rfl (fun h=>?_) (fun h=>?_)
 ·have:=Wa h
  omega
 repeat(refine wkA ?_;intros)
 rename_i b
 have e:((Lib.bitLen u:Int)+7) / 8=(n:Int):=by omega
 refine Zq (S:=Nat) (fun k=>k<=n) (fun k=>[(0, .int .u64 u),(3, .int .i64 n),(12, .int .i64 n),(13, .int .i64 k),(4, .pointer (some ⟨b,0,none⟩))]) (fun k=>[⟨b,nums .u8 (cellsK u n k),270⟩]) (fun k=>n-k) 0 (Wm _)
  (by rw[e];repeat(first|exact Zz|refine Zu rfl ?_)) (by rw[ZiX];exact Wj _) (fun k hk=>?_)
 repeat(refine wkA ?_;intros)
 refine Zk rfl (fun h=>?_) (fun h=>?_)
 ·have hlt:k<n:=by have:=Wa h;omega
  repeat(refine wkA ?_;intros)
  refine jq (ZaI rfl rfl (by simp only[IntKind.bits];omega)) rfl rfl ?_
  repeat(refine wkA ?_;intros)
  refine Zmo rfl rfl (by rw[Zcu];omega) rfl ?_
  rw[Zkk,show 0+((n:Int)-1-(k:Int)).toNat*1=n-1-k by omega,Zi0 u n k hn8 hlt]
  repeat(refine wkA ?_;intros)
  exact Zg (k+1) hlt (by repeat(first|exact Zz|refine Zu rfl ?_)) (Wj _) (by omega)
 ·have hge:k=n:=by have:=Wb h;omega
  subst hge
  repeat(refine wkA ?_;intros)
  refine jq (Zih rfl rfl (by omega)) rfl rfl ?_
  refine jq (Zbn (bs:=(le u).reverse) rfl (by rw[List.length_reverse,<-ZbF];omega) (Zn5 u k hn8 (by rw[<-ZbF];omega))) rfl rfl ?_
  repeat(refine wkA ?_;intros)
  exact rtT rfl rfl
theorem Zgf (w:World):Calls prog 211 [.int .u64 0].toArray w (Ret (.string (mag 0)) w):=by
 refine Zb Tryz.func211 rfl Tryz.ntmps211 rfl ?_
 repeat(refine wkA ?_;intros)
 exact rtT rfl rfl
instance Zr8 (u:Nat):SpecC prog 211 [.int .u64 u] (.string (mag u)) (u<18446744073709551616):=⟨fun h w=>by
 by_cases h0:u=0
 ·subst h0
  exact Zgf w
 ·exact ZgK u h0 h w⟩
end Go.Vt
namespace Go.Vt
def vd :List Nat->Nat
 |[]=>0
 |d::l=>d+4294967296*vd l
def Dg (l:List Nat):Prop:=∀d∈l,d<4294967296
theorem Za5 (l m:List Nat):vd (l++m)=vd l+4294967296 ^ l.length*vd m:=by
 induction l with
 |nil=>simp[vd]
 |cons b l ih=>
  simp only[List.cons_append,vd,ih,List.length_cons,Nat.pow_succ,Nat.mul_add]
  rw[Nat.mul_comm (4294967296 ^ l.length) 4294967296,Nat.mul_assoc]
  omega
theorem Zav (l:List Nat)(i:Nat)(h:i<=l.length):vd l=vd (l.take i)+4294967296 ^ i*vd (l.drop i):=by
 have:=Za5 (l.take i) (l.drop i)
 rw[List.take_append_drop,List.length_take,Nat.min_eq_left h] at this
 exact this
theorem ZaQ {l:List Nat}(h:Dg l):vd l<4294967296 ^ l.length:=by
 induction l with
 |nil=>simp[vd]
 |cons b l ih=>
  have h1:=h b (.head _)
  have h2:=ih (fun d hd=>h d (.tail _ hd))
  simp only[vd,List.length_cons,Nat.pow_succ]
  omega
theorem Zbj {l:List Nat}(h:Dg l)(i:Nat):Dg (l.take i):=fun d hd=>h d (List.mem_of_mem_take hd)
theorem Zjo {l:List Nat}(h:Dg l)(i:Nat):Dg (l.drop i):=fun d hd=>h d (List.mem_of_mem_drop hd)
theorem Zbu {l:List Nat}(h:Dg l)(i x:Nat)(hx:x<4294967296):Dg (l.set i x):=fun d hd=>by
 rcases List.mem_or_eq_of_mem_set hd with h1|h1
 ·exact h d h1
 ·omega
theorem Zgh {l m:List Nat}(h:Dg l)(k:Dg m):Dg (l++m):=fun d hd=>by
 rcases List.mem_append.1 hd with h1|h1
 ·exact h d h1
 ·exact k d h1
theorem Zew (n:Nat):Dg (List.replicate n 0):=fun d hd=>by have:=(List.mem_replicate.1 hd).2;omega
theorem Zey (n:Nat):vd (List.replicate n 0)=0:=by
 induction n with
 |zero=>rfl
 |succ n ih=>simp only[List.replicate_succ,vd,ih]
theorem ZZ {l:List Nat}(h:Dg l){i:Nat}(hi:i<l.length):l[i]<4294967296:=h _ (List.getElem_mem hi)
theorem ZaE :∀(l:List Nat)(i x:Nat)(h:i<l.length),vd (l.set i x)+l[i]*4294967296 ^ i=vd l+x*4294967296 ^ i
 |[],i,x,h=>by simp at h
 |b::l,0,x,h=>by simp[vd];omega
 |b::l,i+1,x,h=>by
  have ih:=ZaE l i x (by simpa using h)
  simp only[List.set_cons_succ,vd,List.getElem_cons_succ,Nat.pow_succ]
  have e1:l[i]'(by simpa using h)*(4294967296 ^ i*4294967296)=4294967296*(l[i]'(by simpa using h)*4294967296 ^ i):=by
   rw[<-Nat.mul_assoc,Nat.mul_comm]
  have e2:x*(4294967296 ^ i*4294967296)=4294967296*(x*4294967296 ^ i):=by rw[<-Nat.mul_assoc,Nat.mul_comm]
  rw[e1,e2]
  omega
theorem Zd6 (l:List Nat)(i:Nat)(h:i<l.length):l[i]*4294967296 ^ i<=vd l:=by
 have:=ZaE l i 0 h
 omega
theorem Zh9 :∀{l m:List Nat},Dg l->Dg m->l.length=m.length->vd l=vd m->l=m
 |[],[],_,_,_,_=>rfl
 |[],_::_,_,_,h,_=>by simp at h
 |_::_,[],_,_,h,_=>by simp at h
 |a::l,b::m,hl,hm,h,hv=>by
  have h1:=hl a (.head _)
  have h2:=hm b (.head _)
  simp only[vd] at hv
  have e:a=b:=by omega
  subst e
  congr 1
  exact Zh9 (fun d hd=>hl d (.tail _ hd)) (fun d hd=>hm d (.tail _ hd)) (by simpa using h) (by omega)
def tl :List Nat->Nat
 |[]=>0
 |d::l=>if tl l=0 then(if d=0 then 0 else 1) else tl l+1
theorem ZpB :∀l:List Nat,tl l<=l.length
 |[]=>Nat.le_refl _
 |d::l=>by
  have:=ZpB l
  simp only[tl,List.length_cons]
  split
  ·split <;> omega
  ·omega
theorem Zkh (l:List Nat)(d:Nat):tl (l++[d])=if d=0 then tl l else l.length+1:=by
 induction l with
 |nil=>simp[tl]
 |cons b l ih=>
  simp only[List.cons_append,tl,ih,List.length_cons]
  by_cases h:d=0
  ·simp[h]
  ·simp[h]
theorem ZuE (l:List Nat):vd (l.take (tl l))=vd l:=by
 induction l with
 |nil=>rfl
 |cons b l ih=>
  simp only[tl]
  split
  ·rename_i h
   rw[h] at ih
   simp only[List.take_zero,vd] at ih
   split
   ·rename_i hb
    subst hb
    simp[vd,<-ih]
   ·simp[vd,<-ih]
  ·simp[vd,ih]
theorem ZjG (i:Nat):256 ^ i=4294967296 ^ (i / 4)*256 ^ (i % 4):=by
 have h:i=4*(i / 4)+i % 4:=by omega
 have e:(4294967296:Nat)=256 ^ 4:=by decide
 rw[e,<-Nat.pow_mul,<-Nat.pow_add,<-h]
theorem ZcU (i:Nat):(4294967296:Nat) ^ i=256 ^ (4*i):=by
 have e:(4294967296:Nat)=256 ^ 4:=by decide
 rw[e,<-Nat.pow_mul]
theorem ZnY (l:List UInt8):mag (vle l.reverse)=⟨(Lib.trimLeftB l 0).toArray⟩:=by
 unfold Lib.trimLeftB
 induction l with
 |nil=>rfl
 |cons b l ih=>
  by_cases h:b=0
  ·subst h
   rw[List.dropWhile_cons_of_pos (by rfl),<-ih]
   congr 1
   simp[Zcs,vle]
  ·rw[List.dropWhile_cons_of_neg (by simpa using h)]
   refine ZiC (fun c hc=>?_)
   rw[List.reverse_cons,List.getLast?_append] at hc
   simp at hc
   rw[<-hc]
   exact h
end Go.Vt
