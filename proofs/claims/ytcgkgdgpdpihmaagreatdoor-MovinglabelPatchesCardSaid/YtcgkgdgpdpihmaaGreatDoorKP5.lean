/- For any two moving labels and any period, Restrict returns the part during the period, and Patch the second one in place of the first one; patching by a part of itself changes nothing. Conditions: none. (part 5 of 30.) Conditions: those that each statement names. -/
import Derived.Test.YtcgkgdgpdpihmaaGreatDoorProg
import Derived.Shelf.Strings.Trim
import Derived.Shelf.Small.Utf8
import Derived.Shelf.Small.Bits
import Derived.Shelf.Small.Strs
import Derived.Shelf.Small.Wraps
import Derived.Shelf.Strconv.Itoa0
import Derived.Shelf.Strings.Search1
import Derived.Shelf.Strings.Prefix
import Derived.Shelf.Unicode.Decode
import Derived.Shelf.Strings.Runes
import Derived.Shelf.Strings.AsciiSet
import Derived.Shelf.Bits.Mul64
import Derived.Shelf.Unicode.DecodeSlow
import Derived.Ground.Names2Prog
import Derived.Shelf.Slices.SearchI
import Derived.Lib.TrimByte
import Derived.Test.YtcgkgdgpdpihmaaGreatDoorKP1
import Derived.Test.YtcgkgdgpdpihmaaGreatDoorKP3
set_option linter.unusedVariables false
set_option maxRecDepth 100000
set_option linter.unusedSimpArgs false
set_option maxHeartbeats 2000000
namespace Go.Vt
open Go.RowKit Go.Proofs
open Go.Proofs.Tryz (prog)
structure Sl where
 a:Option Addr
 len:Nat
 cap:Nat
structure ZQ where
 Neg:Bool
 Mag:ByteArray
 deriving DecidableEq
def Zv (x:ZQ):Array Value:=#[.bool x.Neg, .string x.Mag]
def Zam :ZQ:=⟨false,ByteArray.empty⟩
instance ZvH (x:ZQ):CsC (Zv x) 2:=⟨by kernel_rfl,by kernel_rfl⟩
structure ZV where
 Num:ZQ
 Den:ZQ
 deriving DecidableEq
def Zl (x:ZV):Array Value:=#[.bool x.Num.Neg, .string x.Num.Mag, .bool x.Den.Neg, .string x.Den.Mag]
def Zbr :ZV:=⟨Zam,Zam⟩
instance ZvP (x:ZV):CsC (Zl x) 4:=⟨by kernel_rfl,by kernel_rfl⟩
structure Zat where
 P:ZV
 R:ZV
 Neg:Bool
 deriving DecidableEq
def Zf (x:Zat):Array Value:=#[.bool x.P.Num.Neg, .string x.P.Num.Mag, .bool x.P.Den.Neg, .string x.P.Den.Mag, .bool x.R.Num.Neg, .string x.R.Num.Mag, .bool x.R.Den.Neg, .string x.R.Den.Mag, .bool x.Neg]
instance ZuK (x:Zat):CsC (Zf x) 9:=⟨by kernel_rfl,by kernel_rfl⟩
structure Z0 where
 From:Zat
 To:Zat
 OpenFrom:Bool
 OpenTo:Bool
 deriving DecidableEq
def Zh (x:Z0):Array Value:=#[.bool x.From.P.Num.Neg, .string x.From.P.Num.Mag, .bool x.From.P.Den.Neg, .string x.From.P.Den.Mag, .bool x.From.R.Num.Neg, .string x.From.R.Num.Mag, .bool x.From.R.Den.Neg, .string x.From.R.Den.Mag, .bool x.From.Neg, .bool x.To.P.Num.Neg, .string x.To.P.Num.Mag, .bool x.To.P.Den.Neg, .string x.To.P.Den.Mag, .bool x.To.R.Num.Neg, .string x.To.R.Num.Mag, .bool x.To.R.Den.Neg, .string x.To.R.Den.Mag, .bool x.To.Neg, .bool x.OpenFrom, .bool x.OpenTo]
instance Zq8 (x:Z0):CsC (Zh x) 20:=⟨by kernel_rfl,by kernel_rfl⟩
structure ZP where
 P:Int
 D:Int
 R:Int
 E:Int
 Neg:Bool
 deriving DecidableEq
def ZI (x:ZP):Array Value:=#[.int .u8 x.P, .int .u8 x.D, .int .u8 x.R, .int .u8 x.E, .bool x.Neg]
def ZbU :ZP:=⟨0,0,0,0,false⟩
structure ZU where
 A:ZP
 B:ZP
 OpenA:Bool
 OpenB:Bool
 deriving DecidableEq
def ZL (x:ZU):Array Value:=#[.int .u8 x.A.P, .int .u8 x.A.D, .int .u8 x.A.R, .int .u8 x.A.E, .bool x.A.Neg, .int .u8 x.B.P, .int .u8 x.B.D, .int .u8 x.B.R, .int .u8 x.B.E, .bool x.B.Neg, .bool x.OpenA, .bool x.OpenB]
def Zcv :ZU:=⟨ZbU,ZbU,false,false⟩
instance Zl9 (x:ZU):CsC (ZL x) 12:=⟨by kernel_rfl,by kernel_rfl⟩
structure Zac where
 In:ZU
 Label:Int
 deriving DecidableEq
def Zay (x:Zac):Array Value:=#[.int .u8 x.In.A.P, .int .u8 x.In.A.D, .int .u8 x.In.A.R, .int .u8 x.In.A.E, .bool x.In.A.Neg, .int .u8 x.In.B.P, .int .u8 x.In.B.D, .int .u8 x.In.B.R, .int .u8 x.In.B.E, .bool x.In.B.Neg, .bool x.In.OpenA, .bool x.In.OpenB, .int .u8 x.Label]
def ZdI :Zac:=⟨Zcv,0⟩
instance Zi4 (x:Zac):CsC (Zay x) 13:=⟨by kernel_rfl,by kernel_rfl⟩
structure Zap where
 In:Z0
 Label:Int
 deriving DecidableEq
def Zn (x:Zap):Array Value:=#[.bool x.In.From.P.Num.Neg, .string x.In.From.P.Num.Mag, .bool x.In.From.P.Den.Neg, .string x.In.From.P.Den.Mag, .bool x.In.From.R.Num.Neg, .string x.In.From.R.Num.Mag, .bool x.In.From.R.Den.Neg, .string x.In.From.R.Den.Mag, .bool x.In.From.Neg, .bool x.In.To.P.Num.Neg, .string x.In.To.P.Num.Mag, .bool x.In.To.P.Den.Neg, .string x.In.To.P.Den.Mag, .bool x.In.To.R.Num.Neg, .string x.In.To.R.Num.Mag, .bool x.In.To.R.Den.Neg, .string x.In.To.R.Den.Mag, .bool x.In.To.Neg, .bool x.In.OpenFrom, .bool x.In.OpenTo, .int .i64 x.Label]
instance Zqd (x:Zap):CsC (Zn x) 21:=⟨by kernel_rfl,by kernel_rfl⟩
structure Zb2 where
 In:Z0
 F:Int
 deriving DecidableEq
def Zy (x:Zb2):Array Value:=#[.bool x.In.From.P.Num.Neg, .string x.In.From.P.Num.Mag, .bool x.In.From.P.Den.Neg, .string x.In.From.P.Den.Mag, .bool x.In.From.R.Num.Neg, .string x.In.From.R.Num.Mag, .bool x.In.From.R.Den.Neg, .string x.In.From.R.Den.Mag, .bool x.In.From.Neg, .bool x.In.To.P.Num.Neg, .string x.In.To.P.Num.Mag, .bool x.In.To.P.Den.Neg, .string x.In.To.P.Den.Mag, .bool x.In.To.R.Num.Neg, .string x.In.To.R.Num.Mag, .bool x.In.To.R.Den.Neg, .string x.In.To.R.Den.Mag, .bool x.In.To.Neg, .bool x.In.OpenFrom, .bool x.In.OpenTo, .int .i64 x.F]
instance Zon (x:Zb2):CsC (Zy x) 21:=⟨by kernel_rfl,by kernel_rfl⟩
structure ZX where
 neg:Bool
 num:Sl
 den:Sl
def Zd (x:ZX):Array Value:=#[.bool x.neg, .slice x.num.a x.num.len x.num.cap, .slice x.den.a x.den.len x.den.cap]
def ZaP :ZX:=⟨false,⟨none,0,0⟩,⟨none,0,0⟩⟩
instance Zi3 (x:ZX):CsC (Zd x) 3:=⟨by kernel_rfl,by kernel_rfl⟩
structure Zcz where
 at_:Zat
 behind:Bool
 deriving DecidableEq
def ZO (x:Zcz):Array Value:=#[.bool x.at_.P.Num.Neg, .string x.at_.P.Num.Mag, .bool x.at_.P.Den.Neg, .string x.at_.P.Den.Mag, .bool x.at_.R.Num.Neg, .string x.at_.R.Num.Mag, .bool x.at_.R.Den.Neg, .string x.at_.R.Den.Mag, .bool x.at_.Neg, .bool x.behind]
instance ZpE (x:Zcz):CsC (ZO x) 10:=⟨by kernel_rfl,by kernel_rfl⟩
instance ZDQ :UndC prog 2 (.int .i64):=⟨by kernel_rfl⟩
instance ZDT :UndC prog 3 (.int .i64):=⟨by kernel_rfl⟩
instance ZDU :UndC prog 4 (.bool):=⟨by kernel_rfl⟩
instance ZDJ :UndC prog 5 (.int .u8):=⟨by kernel_rfl⟩
instance ZDO :UndC prog 9 (.string):=⟨by kernel_rfl⟩
instance ZDa :UndC prog 22 (.slice 46):=⟨by kernel_rfl⟩
instance ZDl :UndC prog 23 (.slice 44):=⟨by kernel_rfl⟩
instance ZCS :UndC prog 47 (.slice 37):=⟨by kernel_rfl⟩
instance ZCJ :UndC prog 59 (.slice 35):=⟨by kernel_rfl⟩
instance ZCQ :UndC prog 65 (.slice 3):=⟨by kernel_rfl⟩
instance ZCz :UndC prog 75 (.slice 42):=⟨by kernel_rfl⟩
instance ZAZ :UndC prog 110 (.slice 145):=⟨by kernel_rfl⟩
instance ZBe :UndC prog 189 (.int .u64):=⟨by kernel_rfl⟩
instance ZB0 :UndC prog 213 (.slice 216):=⟨by kernel_rfl⟩
instance ZAX :UndC prog 214 (.slice 47):=⟨by kernel_rfl⟩
instance ZBy :UndC prog 220 (.slice 110):=⟨by kernel_rfl⟩
instance ZBx :UndC prog 230 (.int .u32):=⟨by kernel_rfl⟩
instance ZBK :UndC prog 232 (.int .u64):=⟨by kernel_rfl⟩
instance ZB7 :UndC prog 236 (.slice 5):=⟨by kernel_rfl⟩
instance ZAP :UndC prog 266 (.slice 230):=⟨by kernel_rfl⟩
instance ZCU :UndC prog 78 (.array 2 3):=⟨by kernel_rfl⟩
instance ZBh :UndC prog 270 (.array 8 5):=⟨by kernel_rfl⟩
instance ZBF :BytesC prog 3 8:=⟨by kernel_rfl⟩
instance ZA7 :BytesC prog 5 1:=⟨by kernel_rfl⟩
instance Zz4 :BytesC prog 35 104:=⟨by kernel_rfl⟩
instance ZzE :BytesC prog 37 216:=⟨by kernel_rfl⟩
instance Zzo :BytesC prog 46 224:=⟨by kernel_rfl⟩
instance Zxz :BytesC prog 145 224:=⟨by kernel_rfl⟩
instance ZxV :BytesC prog 216 128:=⟨by kernel_rfl⟩
instance ZxB :BytesC prog 230 4:=⟨by kernel_rfl⟩
instance ZDu :ZeroC prog 3 (.int .i64 0) #[.int .i64 0]:=⟨by kernel_rfl,by kernel_rfl⟩
instance ZCq :SizeC prog 3 1:=⟨by kernel_rfl⟩
instance ZDA :ZeroC prog 5 (.int .u8 0) #[.int .u8 0]:=⟨by kernel_rfl,by kernel_rfl⟩
instance ZCy :SizeC prog 5 1:=⟨by kernel_rfl⟩
instance ZCh :ZeroC prog 31 (.agg (Zv Zam)) (Zv Zam):=⟨by kernel_rfl,by kernel_rfl⟩
instance ZA2 :SizeC prog 31 2:=⟨by kernel_rfl⟩
instance ZAV :ZeroC prog 33 (.agg (Zl Zbr)) (Zl Zbr):=⟨by kernel_rfl,by kernel_rfl⟩
instance ZBQ :SizeC prog 33 4:=⟨by kernel_rfl⟩
instance ZAO :SizeC prog 35 9:=⟨by kernel_rfl⟩
instance ZBj :SizeC prog 37 20:=⟨by kernel_rfl⟩
instance ZAQ :SizeC prog 42 12:=⟨by kernel_rfl⟩
instance ZB2 :SizeC prog 44 13:=⟨by kernel_rfl⟩
instance ZCe :SizeC prog 46 21:=⟨by kernel_rfl⟩
instance ZA3 :SizeC prog 47 1:=⟨by kernel_rfl⟩
instance ZA5 :ZeroC prog 78 (.agg (nums .i64 [0,0])) (nums .i64 [0,0]):=⟨by kernel_rfl,by kernel_rfl⟩
instance ZAI :ZeroC prog 110 (.slice none 0 0) #[.slice none 0 0]:=⟨by kernel_rfl,by kernel_rfl⟩
instance ZAF :SizeC prog 110 1:=⟨by kernel_rfl⟩
instance Zym :SizeC prog 145 21:=⟨by kernel_rfl⟩
instance Zzh :ZeroC prog 162 (.agg (Zd ZaP)) (Zd ZaP):=⟨by kernel_rfl,by kernel_rfl⟩
instance Zyt :SizeC prog 162 3:=⟨by kernel_rfl⟩
instance ZAd :SizeC prog 193 10:=⟨by kernel_rfl⟩
instance Zzt :ZeroC prog 230 (.int .u32 0) #[.int .u32 0]:=⟨by kernel_rfl,by kernel_rfl⟩
instance ZzX :SizeC prog 230 1:=⟨by kernel_rfl⟩
instance Zy1 :ZeroC prog 270 (.agg (nums .u8 [0,0,0,0,0,0,0,0])) (nums .u8 [0,0,0,0,0,0,0,0]):=⟨by kernel_rfl,by kernel_rfl⟩
instance ZAT :FaC prog 37 0 0:=⟨fun b o w=>by kernel_rfl⟩
instance ZBY :FaC prog 37 1 9:=⟨fun b o w=>by kernel_rfl⟩
instance ZCa :FaC prog 37 2 18:=⟨fun b o w=>by kernel_rfl⟩
instance ZAN :FaC prog 37 3 19:=⟨fun b o w=>by kernel_rfl⟩
instance ZA8 :FaC prog 44 0 0:=⟨fun b o w=>by kernel_rfl⟩
instance ZAU :FaC prog 44 1 12:=⟨fun b o w=>by kernel_rfl⟩
instance ZAM :FaC prog 46 0 0:=⟨fun b o w=>by kernel_rfl⟩
instance ZCp :FaC prog 46 1 20:=⟨fun b o w=>by kernel_rfl⟩
instance Zzb :FaC prog 145 0 0:=⟨fun b o w=>by kernel_rfl⟩
instance ZAv :FaC prog 145 1 20:=⟨fun b o w=>by kernel_rfl⟩
instance ZwL :FaO prog 31 0 0 0:=⟨fun b w=>by kernel_rfl⟩
instance Zyb :FaO prog 31 1 0 1:=⟨fun b w=>by kernel_rfl⟩
instance Zw1 :FaO prog 33 0 0 0:=⟨fun b w=>by kernel_rfl⟩
instance Zw5 :FaO prog 33 1 0 2:=⟨fun b w=>by kernel_rfl⟩
instance ZwT :FaO prog 35 0 0 0:=⟨fun b w=>by kernel_rfl⟩
instance Zw9 :FaO prog 35 1 0 4:=⟨fun b w=>by kernel_rfl⟩
instance ZwM :FaO prog 35 2 0 8:=⟨fun b w=>by kernel_rfl⟩
instance ZwR :FaO prog 37 0 0 0:=⟨fun b w=>by kernel_rfl⟩
instance Zxv :FaO prog 37 1 0 9:=⟨fun b w=>by kernel_rfl⟩
instance Zxa :FaO prog 37 2 0 18:=⟨fun b w=>by kernel_rfl⟩
instance ZwU :FaO prog 37 3 0 19:=⟨fun b w=>by kernel_rfl⟩
instance Zxt :FaO prog 40 0 0 0:=⟨fun b w=>by kernel_rfl⟩
instance ZxN :FaO prog 40 1 0 1:=⟨fun b w=>by kernel_rfl⟩
instance ZwX :FaO prog 40 2 0 2:=⟨fun b w=>by kernel_rfl⟩
instance ZxQ :FaO prog 40 3 0 3:=⟨fun b w=>by kernel_rfl⟩
instance Zx8 :FaO prog 40 4 0 4:=⟨fun b w=>by kernel_rfl⟩
instance ZwN :FaO prog 42 0 0 0:=⟨fun b w=>by kernel_rfl⟩
instance Zw2 :FaO prog 42 1 0 5:=⟨fun b w=>by kernel_rfl⟩
instance Zxb :FaO prog 42 2 0 10:=⟨fun b w=>by kernel_rfl⟩
instance Zxe :FaO prog 42 3 0 11:=⟨fun b w=>by kernel_rfl⟩
instance ZxR :FaO prog 46 0 0 0:=⟨fun b w=>by kernel_rfl⟩
instance ZwY :FaO prog 46 1 0 20:=⟨fun b w=>by kernel_rfl⟩
instance ZvF :FaO prog 145 0 0 0:=⟨fun b w=>by kernel_rfl⟩
instance Zv4 :FaO prog 145 1 0 20:=⟨fun b w=>by kernel_rfl⟩
instance Zwn :FaO prog 162 0 0 0:=⟨fun b w=>by kernel_rfl⟩
instance ZwC :FaO prog 162 1 0 1:=⟨fun b w=>by kernel_rfl⟩
instance ZvS :FaO prog 162 2 0 2:=⟨fun b w=>by kernel_rfl⟩
instance ZwF :FaO prog 193 0 0 0:=⟨fun b w=>by kernel_rfl⟩
instance Zvm :FaO prog 193 1 0 9:=⟨fun b w=>by kernel_rfl⟩
instance Zws (x:ZQ):LdC prog 31 (Zv x) 0 (.agg (Zv x)):=⟨ZN 2⟩
instance ZwW (x:ZQ):LdC prog 4 (Zv x) 0 (.bool x.Neg):=⟨ZF⟩
instance Zw7 (x:ZQ):LdC prog 9 (Zv x) 1 (.string x.Mag):=⟨ZF⟩
instance ZwH (x:ZV):LdC prog 33 (Zl x) 0 (.agg (Zl x)):=⟨ZN 4⟩
instance Zu3 (x:ZV):LdC prog 31 (Zl x) 0 (.agg (Zv x.Num)):=⟨ZN 2⟩
instance Zw0 (x:ZV):LdC prog 4 (Zl x) 0 (.bool x.Num.Neg):=⟨ZF⟩
instance Zxn (x:ZV):LdC prog 9 (Zl x) 1 (.string x.Num.Mag):=⟨ZF⟩
instance ZvI (x:ZV):LdC prog 31 (Zl x) 2 (.agg (Zv x.Den)):=⟨ZN 2⟩
instance Zxr (x:ZP):LdC prog 5 (ZI x) 0 (.int .u8 x.P):=⟨ZF⟩
instance ZxH (x:ZP):LdC prog 5 (ZI x) 1 (.int .u8 x.D):=⟨ZF⟩
instance Zxj (x:ZP):LdC prog 5 (ZI x) 2 (.int .u8 x.R):=⟨ZF⟩
instance ZwO (x:ZP):LdC prog 5 (ZI x) 3 (.int .u8 x.E):=⟨ZF⟩
instance Zx4 (x:ZP):LdC prog 4 (ZI x) 4 (.bool x.Neg):=⟨ZF⟩
instance Zwm (x:ZU):LdC prog 42 (ZL x) 0 (.agg (ZL x)):=⟨ZN 12⟩
instance ZvT (x:ZU):LdC prog 40 (ZL x) 0 (.agg (ZI x.A)):=⟨ZN 5⟩
instance Zvk (x:ZU):LdC prog 40 (ZL x) 5 (.agg (ZI x.B)):=⟨ZN 5⟩
instance Zvw (x:ZU):LdC prog 4 (ZL x) 10 (.bool x.OpenA):=⟨ZF⟩
instance Zwj (x:ZU):LdC prog 4 (ZL x) 11 (.bool x.OpenB):=⟨ZF⟩
instance ZvV (x:Zac):LdC prog 42 (Zay x) 0 (.agg (ZL x.In)):=⟨ZN 12⟩
instance ZvJ (x:Zac):LdC prog 5 (Zay x) 12 (.int .u8 x.Label):=⟨ZF⟩
instance ZsQ (x:ZX):LdC prog 162 (Zd x) 0 (.agg (Zd x)):=⟨ZN 3⟩
instance Zwq (x:ZX):LdC prog 4 (Zd x) 0 (.bool x.neg):=⟨ZF⟩
instance ZuX (x:ZX):LdC prog 65 (Zd x) 1 (.slice x.num.a x.num.len x.num.cap):=⟨ZF⟩
instance Zuu (x:ZX):LdC prog 65 (Zd x) 2 (.slice x.den.a x.den.len x.den.cap):=⟨ZF⟩
instance ZCY :BdC prog 31 [] (.agg (Zv Zam)):=⟨fun w=>by kernel_rfl⟩
instance Zxo (x0:Bool)(x1:ByteArray):BdC prog 31 [(0, .bool x0),(1, .string x1)] (.agg (Zv ⟨x0,x1⟩)):=⟨fun w=>by kernel_rfl⟩
instance ZDB :BdC prog 33 [] (.agg (Zl Zbr)):=⟨fun w=>by kernel_rfl⟩
instance ZB4 (x0:ZQ):BdC prog 33 [(0, .agg (Zv x0))] (.agg (Zl ⟨x0,Zam⟩)):=⟨fun w=>by kernel_rfl⟩
instance ZxG (x0:ZQ)(x1:ZQ):BdC prog 33 [(0, .agg (Zv x0)),(1, .agg (Zv x1))] (.agg (Zl ⟨x0,x1⟩)):=⟨fun w=>by kernel_rfl⟩
instance ZtC (x0:Bool)(x1:Option Addr)(x1l x1c:Nat)(x2:Option Addr)(x2l x2c:Nat):BdC prog 162 [(0, .bool x0),(1, .slice x1 x1l x1c),(2, .slice x2 x2l x2c)] (.agg (Zd ⟨x0,⟨x1,x1l,x1c⟩,⟨x2,x2l,x2c⟩⟩)):=⟨fun w=>by kernel_rfl⟩
theorem ZeT (d:Nat)(w:World)(x y:ZQ):(Op.equalIn (d+2) 31 (.agg (Zv x)) (.agg (Zv y))).run prog w= .ok (decide (x=y)) w:=by
 have p0:∀(z:ZQ)(u:World),(part 4 (Zv z) 0).run prog u= .ok (.bool z.Neg) u:=fun _ _=>by kernel_rfl
 have q0:∀(u:World),(Op.equalIn (d+1) 4 (.bool x.Neg) (.bool y.Neg)).run prog u= .ok (decide (x.Neg=y.Neg)) u:=fun u=>by rw[run_equalIn_bool' u (d+0) 4 _ _ (by kernel_rfl),ZdN]
 have p1:∀(z:ZQ)(u:World),(part 9 (Zv z) 1).run prog u= .ok (.string z.Mag) u:=fun _ _=>by kernel_rfl
 have q1:∀(u:World),(Op.equalIn (d+1) 9 (.string x.Mag) (.string y.Mag)).run prog u= .ok (decide (x.Mag=y.Mag)) u:=fun u=>by rw[run_equalIn_string u (d+0) 9 _ _ (by kernel_rfl),<-beq_toListBytes,Ze4]
 have hf:(prog.fieldsOf 31).toList=[{name:= "Neg",type:=4,offset:=0,embedded:=false,tag:= "",pkgPath:= "",byteOffset:=0},{name:= "Mag",type:=9,offset:=1,embedded:=false,tag:= "",pkgPath:= "",byteOffset:=8}]:=by kernel_rfl
 rw[run_equalIn_struct w (d+1) 31 _ _ (by kernel_rfl) (by kernel_rfl),hf]
 have hx:x=y↔(x.Neg=y.Neg/\x.Mag=y.Mag):=by cases x;cases y;simp
 simp only[Op.eqFields,Sem.run_bind,Result.andThen_ok,Sem.run_ite,Sem.run_pure,p0,p1,q0,q1]
 by_cases h0:x.Neg=y.Neg <;> by_cases h1:x.Mag=y.Mag <;> simp[hx,h0,h1]
instance ZDx (x y:ZQ):BinC prog .eql 31 (.agg (Zv x)) (.agg (Zv y)) (.bool (decide (x=y))):=⟨fun a b w=>run_eqGuard_agg w _ _ _ _ _ _ (by kernel_rfl),fun w=>by rw[run_eql_struct,ZeT 9998];rfl⟩
instance ZDq (x y:ZQ):BinC prog .neq 31 (.agg (Zv x)) (.agg (Zv y)) (.bool (!decide (x=y))):=⟨fun a b w=>run_eqGuard_agg w _ _ _ _ _ _ (by kernel_rfl),fun w=>by rw[run_neq_struct,ZeT 9998];rfl⟩
theorem Zgi (d:Nat)(w:World)(x y:ZV):(Op.equalIn (d+3) 33 (.agg (Zl x)) (.agg (Zl y))).run prog w= .ok (decide (x=y)) w:=by
 have p0:∀(z:ZV)(u:World),(part 31 (Zl z) 0).run prog u= .ok (.agg (Zv z.Num)) u:=fun _ _=>by kernel_rfl
 have q0:∀(u:World),(Op.equalIn (d+2) 31 (.agg (Zv x.Num)) (.agg (Zv y.Num))).run prog u= .ok (decide (x.Num=y.Num)) u:=fun u=>ZeT (d+0) u _ _
 have p1:∀(z:ZV)(u:World),(part 31 (Zl z) 2).run prog u= .ok (.agg (Zv z.Den)) u:=fun _ _=>by kernel_rfl
 have q1:∀(u:World),(Op.equalIn (d+2) 31 (.agg (Zv x.Den)) (.agg (Zv y.Den))).run prog u= .ok (decide (x.Den=y.Den)) u:=fun u=>ZeT (d+0) u _ _
 have hf:(prog.fieldsOf 33).toList=[{name:= "Num",type:=31,offset:=0,embedded:=false,tag:= "",pkgPath:= "",byteOffset:=0},{name:= "Den",type:=31,offset:=2,embedded:=false,tag:= "",pkgPath:= "",byteOffset:=24}]:=by kernel_rfl
 rw[run_equalIn_struct w (d+2) 33 _ _ (by kernel_rfl) (by kernel_rfl),hf]
 have hx:x=y↔(x.Num=y.Num/\x.Den=y.Den):=by cases x;cases y;simp
 simp only[Op.eqFields,Sem.run_bind,Result.andThen_ok,Sem.run_ite,Sem.run_pure,p0,p1,q0,q1]
 by_cases h0:x.Num=y.Num <;> by_cases h1:x.Den=y.Den <;> simp[hx,h0,h1]
instance ZCu (x y:ZV):BinC prog .eql 33 (.agg (Zl x)) (.agg (Zl y)) (.bool (decide (x=y))):=⟨fun a b w=>run_eqGuard_agg w _ _ _ _ _ _ (by kernel_rfl),fun w=>by rw[run_eql_struct,Zgi 9997];rfl⟩
theorem ZeH (d:Nat)(w:World)(x y:Zat):(Op.equalIn (d+4) 35 (.agg (Zf x)) (.agg (Zf y))).run prog w= .ok (decide (x=y)) w:=by
 have p0:∀(z:Zat)(u:World),(part 33 (Zf z) 0).run prog u= .ok (.agg (Zl z.P)) u:=fun _ _=>by kernel_rfl
 have q0:∀(u:World),(Op.equalIn (d+3) 33 (.agg (Zl x.P)) (.agg (Zl y.P))).run prog u= .ok (decide (x.P=y.P)) u:=fun u=>Zgi (d+0) u _ _
 have p1:∀(z:Zat)(u:World),(part 33 (Zf z) 4).run prog u= .ok (.agg (Zl z.R)) u:=fun _ _=>by kernel_rfl
 have q1:∀(u:World),(Op.equalIn (d+3) 33 (.agg (Zl x.R)) (.agg (Zl y.R))).run prog u= .ok (decide (x.R=y.R)) u:=fun u=>Zgi (d+0) u _ _
 have p2:∀(z:Zat)(u:World),(part 4 (Zf z) 8).run prog u= .ok (.bool z.Neg) u:=fun _ _=>by kernel_rfl
 have q2:∀(u:World),(Op.equalIn (d+3) 4 (.bool x.Neg) (.bool y.Neg)).run prog u= .ok (decide (x.Neg=y.Neg)) u:=fun u=>by rw[run_equalIn_bool' u (d+2) 4 _ _ (by kernel_rfl),ZdN]
 have hf:(prog.fieldsOf 35).toList=[{name:= "P",type:=33,offset:=0,embedded:=false,tag:= "",pkgPath:= "",byteOffset:=0},{name:= "R",type:=33,offset:=4,embedded:=false,tag:= "",pkgPath:= "",byteOffset:=48},{name:= "Neg",type:=4,offset:=8,embedded:=false,tag:= "",pkgPath:= "",byteOffset:=96}]:=by kernel_rfl
 rw[run_equalIn_struct w (d+3) 35 _ _ (by kernel_rfl) (by kernel_rfl),hf]
 have hx:x=y↔(x.P=y.P/\x.R=y.R/\x.Neg=y.Neg):=by cases x;cases y;simp
 simp only[Op.eqFields,Sem.run_bind,Result.andThen_ok,Sem.run_ite,Sem.run_pure,p0,p1,p2,q0,q1,q2]
 by_cases h0:x.P=y.P <;> by_cases h1:x.R=y.R <;> by_cases h2:x.Neg=y.Neg <;> simp[hx,h0,h1,h2]
instance ZDf (x y:Zat):BinC prog .eql 35 (.agg (Zf x)) (.agg (Zf y)) (.bool (decide (x=y))):=⟨fun a b w=>run_eqGuard_agg w _ _ _ _ _ _ (by kernel_rfl),fun w=>by rw[run_eql_struct,ZeH 9996];rfl⟩
instance ZCR (x y:Zat):BinC prog .neq 35 (.agg (Zf x)) (.agg (Zf y)) (.bool (!decide (x=y))):=⟨fun a b w=>run_eqGuard_agg w _ _ _ _ _ _ (by kernel_rfl),fun w=>by rw[run_neq_struct,ZeH 9996];rfl⟩
theorem ZgE (d:Nat)(w:World)(x y:Z0):(Op.equalIn (d+5) 37 (.agg (Zh x)) (.agg (Zh y))).run prog w= .ok (decide (x=y)) w:=by
 have p0:∀(z:Z0)(u:World),(part 35 (Zh z) 0).run prog u= .ok (.agg (Zf z.From)) u:=fun _ _=>by kernel_rfl
 have q0:∀(u:World),(Op.equalIn (d+4) 35 (.agg (Zf x.From)) (.agg (Zf y.From))).run prog u= .ok (decide (x.From=y.From)) u:=fun u=>ZeH (d+0) u _ _
 have p1:∀(z:Z0)(u:World),(part 35 (Zh z) 9).run prog u= .ok (.agg (Zf z.To)) u:=fun _ _=>by kernel_rfl
 have q1:∀(u:World),(Op.equalIn (d+4) 35 (.agg (Zf x.To)) (.agg (Zf y.To))).run prog u= .ok (decide (x.To=y.To)) u:=fun u=>ZeH (d+0) u _ _
 have p2:∀(z:Z0)(u:World),(part 4 (Zh z) 18).run prog u= .ok (.bool z.OpenFrom) u:=fun _ _=>by kernel_rfl
 have q2:∀(u:World),(Op.equalIn (d+4) 4 (.bool x.OpenFrom) (.bool y.OpenFrom)).run prog u= .ok (decide (x.OpenFrom=y.OpenFrom)) u:=fun u=>by rw[run_equalIn_bool' u (d+3) 4 _ _ (by kernel_rfl),ZdN]
 have p3:∀(z:Z0)(u:World),(part 4 (Zh z) 19).run prog u= .ok (.bool z.OpenTo) u:=fun _ _=>by kernel_rfl
 have q3:∀(u:World),(Op.equalIn (d+4) 4 (.bool x.OpenTo) (.bool y.OpenTo)).run prog u= .ok (decide (x.OpenTo=y.OpenTo)) u:=fun u=>by rw[run_equalIn_bool' u (d+3) 4 _ _ (by kernel_rfl),ZdN]
 have hf:(prog.fieldsOf 37).toList=[{name:= "From",type:=35,offset:=0,embedded:=false,tag:= "",pkgPath:= "",byteOffset:=0},{name:= "To",type:=35,offset:=9,embedded:=false,tag:= "",pkgPath:= "",byteOffset:=104},{name:= "OpenFrom",type:=4,offset:=18,embedded:=false,tag:= "",pkgPath:= "",byteOffset:=208},{name:= "OpenTo",type:=4,offset:=19,embedded:=false,tag:= "",pkgPath:= "",byteOffset:=209}]:=by kernel_rfl
 rw[run_equalIn_struct w (d+4) 37 _ _ (by kernel_rfl) (by kernel_rfl),hf]
 have hx:x=y↔(x.From=y.From/\x.To=y.To/\x.OpenFrom=y.OpenFrom/\x.OpenTo=y.OpenTo):=by cases x;cases y;simp
 simp only[Op.eqFields,Sem.run_bind,Result.andThen_ok,Sem.run_ite,Sem.run_pure,p0,p1,p2,p3,q0,q1,q2,q3]
 by_cases h0:x.From=y.From <;> by_cases h1:x.To=y.To <;> by_cases h2:x.OpenFrom=y.OpenFrom <;> by_cases h3:x.OpenTo=y.OpenTo <;> simp[hx,h0,h1,h2,h3]
instance ZCv (x y:Z0):BinC prog .eql 37 (.agg (Zh x)) (.agg (Zh y)) (.bool (decide (x=y))):=⟨fun a b w=>run_eqGuard_agg w _ _ _ _ _ _ (by kernel_rfl),fun w=>by rw[run_eql_struct,ZgE 9995];rfl⟩
instance ZDm (x y:Z0):BinC prog .neq 37 (.agg (Zh x)) (.agg (Zh y)) (.bool (!decide (x=y))):=⟨fun a b w=>run_eqGuard_agg w _ _ _ _ _ _ (by kernel_rfl),fun w=>by rw[run_neq_struct,ZgE 9995];rfl⟩
theorem Zsn (d:Nat)(w:World)(x y:Zap):(Op.equalIn (d+6) 46 (.agg (Zn x)) (.agg (Zn y))).run prog w= .ok (decide (x=y)) w:=by
 have p0:∀(z:Zap)(u:World),(part 37 (Zn z) 0).run prog u= .ok (.agg (Zh z.In)) u:=fun _ _=>by kernel_rfl
 have q0:∀(u:World),(Op.equalIn (d+5) 37 (.agg (Zh x.In)) (.agg (Zh y.In))).run prog u= .ok (decide (x.In=y.In)) u:=fun u=>ZgE (d+0) u _ _
 have p1:∀(z:Zap)(u:World),(part 3 (Zn z) 20).run prog u= .ok (.int .i64 z.Label) u:=fun _ _=>by kernel_rfl
 have q1:∀(u:World),(Op.equalIn (d+5) 3 (.int .i64 x.Label) (.int .i64 y.Label)).run prog u= .ok (decide (x.Label=y.Label)) u:=fun u=>by rw[run_equalIn_int u (d+4) 3 .i64 .i64 _ _ (by kernel_rfl),Zgn]
 have hf:(prog.fieldsOf 46).toList=[{name:= "In",type:=37,offset:=0,embedded:=false,tag:= "",pkgPath:= "",byteOffset:=0},{name:= "Label",type:=3,offset:=20,embedded:=false,tag:= "",pkgPath:= "",byteOffset:=216}]:=by kernel_rfl
 rw[run_equalIn_struct w (d+5) 46 _ _ (by kernel_rfl) (by kernel_rfl),hf]
 have hx:x=y↔(x.In=y.In/\x.Label=y.Label):=by cases x;cases y;simp
 simp only[Op.eqFields,Sem.run_bind,Result.andThen_ok,Sem.run_ite,Sem.run_pure,p0,p1,q0,q1]
 by_cases h0:x.In=y.In <;> by_cases h1:x.Label=y.Label <;> simp[hx,h0,h1]
instance ZCD (x y:Zap):BinC prog .neq 46 (.agg (Zn x)) (.agg (Zn y)) (.bool (!decide (x=y))):=⟨fun a b w=>run_eqGuard_agg w _ _ _ _ _ _ (by kernel_rfl),fun w=>by rw[run_neq_struct,Zsn 9994];rfl⟩
theorem callG {P:Program}{a k b f:Nat}(hb:Nat.blt b (a+k)=true)(h:((List.range k).all fun i=>callableB P (i+a))=true)(h1:cnd (Nat.ble a f) (cnd (Nat.ble f b) (some ()) none) none=some ()):callableB P f=true:=by
 cases h3:Nat.ble a f
 ·rw[h3] at h1;cases h1
 ·cases h4:Nat.ble f b
  ·rw[h3,h4] at h1;cases h1
  ·have h5:=Nat.le_of_ble_eq_true h3
   have h6:=Nat.le_of_ble_eq_true h4
   have h8:b<a+k:=Nat.le_of_ble_eq_true hb
   have h7:=List.all_eq_true.1 h (f-a) (List.mem_range.2 (by omega))
   rwa [show f-a+a=f by omega] at h7
theorem callB :((List.range 144).all fun i=>callableB prog (i+3))=true:=by kernel_rfl
instance (priority :=low) callR (f:Nat)[h:IsC (cnd (Nat.ble 3 f) (cnd (Nat.ble f 146) (some ()) none) none) ()]:CallC prog f:=⟨callG rfl callB h.out⟩
instance ZyO :CallC prog 149:=⟨by kernel_rfl⟩
instance Zzz :CallC prog 150:=⟨by kernel_rfl⟩
instance Zzw :CallC prog 151:=⟨by kernel_rfl⟩
instance Zzx :CallC prog 152:=⟨by kernel_rfl⟩
instance ZyX :CallC prog 153:=⟨by kernel_rfl⟩
instance ZzQ :CallC prog 154:=⟨by kernel_rfl⟩
instance ZAE :CallC prog 155:=⟨by kernel_rfl⟩
instance Zyl :CallC prog 157:=⟨by kernel_rfl⟩
instance ZzR :CallC prog 158:=⟨by kernel_rfl⟩
instance Zy9 :CallC prog 159:=⟨by kernel_rfl⟩
instance Zz2 :CallC prog 160:=⟨by kernel_rfl⟩
instance ZzG :CallC prog 162:=⟨by kernel_rfl⟩
instance ZAC :CallC prog 163:=⟨by kernel_rfl⟩
instance ZAj :CallC prog 164:=⟨by kernel_rfl⟩
instance ZzA :CallC prog 165:=⟨by kernel_rfl⟩
instance ZzL :CallC prog 166:=⟨by kernel_rfl⟩
instance Zy7 :CallC prog 167:=⟨by kernel_rfl⟩
instance ZyA :CallC prog 168:=⟨by kernel_rfl⟩
instance Zze :CallC prog 169:=⟨by kernel_rfl⟩
instance ZAa :CallC prog 170:=⟨by kernel_rfl⟩
instance Zy3 :CallC prog 171:=⟨by kernel_rfl⟩
instance Zzn :CallC prog 172:=⟨by kernel_rfl⟩
instance ZAz :CallC prog 173:=⟨by kernel_rfl⟩
instance Zyo :CallC prog 174:=⟨by kernel_rfl⟩
instance ZzN :CallC prog 175:=⟨by kernel_rfl⟩
instance ZAo :CallC prog 176:=⟨by kernel_rfl⟩
instance Zzv :CallC prog 177:=⟨by kernel_rfl⟩
instance Zyu :CallC prog 178:=⟨by kernel_rfl⟩
instance Zyi :CallC prog 179:=⟨by kernel_rfl⟩
instance ZAG :CallC prog 181:=⟨by kernel_rfl⟩
instance Zzi :CallC prog 182:=⟨by kernel_rfl⟩
instance ZyV :CallC prog 194:=⟨by kernel_rfl⟩
instance ZzY :CallC prog 195:=⟨by kernel_rfl⟩
instance ZyC :CallC prog 196:=⟨by kernel_rfl⟩
instance Zz5 :CallC prog 197:=⟨by kernel_rfl⟩
instance ZAs :CallC prog 198:=⟨by kernel_rfl⟩
instance Zyp :CallC prog 200:=⟨by kernel_rfl⟩
instance Zzr :CallC prog 201:=⟨by kernel_rfl⟩
instance ZzP :CallC prog 202:=⟨by kernel_rfl⟩
instance ZzC :CallC prog 203:=⟨by kernel_rfl⟩
instance ZyD :CallC prog 204:=⟨by kernel_rfl⟩
instance ZzH :CallC prog 205:=⟨by kernel_rfl⟩
instance ZzV :CallC prog 206:=⟨by kernel_rfl⟩
instance ZAu :CallC prog 207:=⟨by kernel_rfl⟩
instance ZAl :CallC prog 208:=⟨by kernel_rfl⟩
instance Zyj :CallC prog 209:=⟨by kernel_rfl⟩
instance ZzD :CallC prog 210:=⟨by kernel_rfl⟩
instance Zzg :CallC prog 211:=⟨by kernel_rfl⟩
instance ZyB :CallC prog 218:=⟨by kernel_rfl⟩
instance Zzl :CallC prog 219:=⟨by kernel_rfl⟩
instance ZyW :CallC prog 220:=⟨by kernel_rfl⟩
instance ZzS :CallC prog 221:=⟨by kernel_rfl⟩
instance Zyx :CallC prog 222:=⟨by kernel_rfl⟩
instance ZyU :CallC prog 223:=⟨by kernel_rfl⟩
instance Zz1 :CallC prog 224:=⟨by kernel_rfl⟩
instance ZzW :CallC prog 226:=⟨by kernel_rfl⟩
instance ZzJ :CallC prog 227:=⟨by kernel_rfl⟩
instance ZyM :CallC prog 228:=⟨by kernel_rfl⟩
instance Zy4 :CallC prog 229:=⟨by kernel_rfl⟩
instance ZAg :CallC prog 239:=⟨by kernel_rfl⟩
instance Zzq :CallC prog 240:=⟨by kernel_rfl⟩
instance ZyF :CallC prog 241:=⟨by kernel_rfl⟩
instance ZzZ :CallC prog 242:=⟨by kernel_rfl⟩
instance Zz8 :CallC prog 243:=⟨by kernel_rfl⟩
instance ZyG :CallC prog 244:=⟨by kernel_rfl⟩
instance Zzu :CallC prog 245:=⟨by kernel_rfl⟩
instance Zzy :CallC prog 246:=⟨by kernel_rfl⟩
instance Zy5 :CallC prog 253:=⟨by kernel_rfl⟩
instance ZAy :CallC prog 298:=⟨by kernel_rfl⟩
instance Zzf :CallC prog 299:=⟨by kernel_rfl⟩
instance ZzM :CallC prog 300:=⟨by kernel_rfl⟩
instance Zys :CallC prog 301:=⟨by kernel_rfl⟩
theorem mixed :prog.follows .mixedOrders=true:=by kernel_rfl
end Go.Vt
/-
 DERIVED: THE SHELF's CONTRACTS AT THIS DUMP, IN PLAIN WORDS (tools/lay-plain.mjs out of 'TryzShelf.lean', which tools/lay-shelf.mjs wrote): THE SAME DECLARATIONS UNDER THE SAME NAMES: 'import', 'namespace', 'open', 'def', 'theorem' AND NOTHING ELSE: no command of the shelf's: FOR A HAND-IN. Each laying: the table of numbers ('.._ren') and one theorem, a field a fact of the dump's own or the kernel's comparison; each contract: ONE APPLICATION.
-/
namespace Go.Proofs
open Go.Shelf
def Tryz.lays161_ren :Go.Shelf.Ren:=⟨fun|161=>246|231=>254|227=>255|233=>256|235=>257|228=>266|197=>267|151=>268|260=>273|152=>274|137=>277|119=>278|224=>279|225=>280|217=>281|266=>282|n=>n,fun|9=>9|4=>4|3=>3|5=>5|117=>292|116=>291|0=>0|124=>295|105=>310|21=>21|119=>320|46=>189|139=>323|138=>322|n=>n,fun|3=>2|4=>3|n=>n⟩
theorem Tryz.lays161 :Go.Proofs.Lays.n161 Tryz.prog Tryz.lays161_ren:={
 mixed:=by kernel_rfl
 f119:=Tryz.func278.trans (congrArg some (by kernel_rfl))
 f137:=Tryz.func277.trans (congrArg some (by kernel_rfl))
 f151:=Tryz.func268.trans (congrArg some (by kernel_rfl))
 f152:=Tryz.func274.trans (congrArg some (by kernel_rfl))
 f161:=Tryz.func246.trans (congrArg some (by kernel_rfl))
 f197:=Tryz.func267.trans (congrArg some (by kernel_rfl))
 f217:=Tryz.func281.trans (congrArg some (by kernel_rfl))
 f224:=Tryz.func279.trans (congrArg some (by kernel_rfl))
 f225:=Tryz.func280.trans (congrArg some (by kernel_rfl))
 f227:=Tryz.func255.trans (congrArg some (by kernel_rfl))
 f228:=Tryz.func266.trans (congrArg some (by kernel_rfl))
 f231:=Tryz.func254.trans (congrArg some (by kernel_rfl))
 f233:=Tryz.func256.trans (congrArg some (by kernel_rfl))
 f235:=Tryz.func257.trans (congrArg some (by kernel_rfl))
 f260:=Tryz.func273.trans (congrArg some (by kernel_rfl))
 f266:=Tryz.func282.trans (congrArg some (by kernel_rfl))
 t0:=Tryz.underlying0
 a0:=Tryz.isAgg0
 z0:=Tryz.sizeOf0
 v0:=Tryz.zeroValue0
 t3:=Tryz.underlying3
 a3:=Tryz.isAgg3
 z3:=Tryz.sizeOf3
 v3:=Tryz.zeroValue3
 t4:=Tryz.underlying4
 a4:=Tryz.isAgg4
 z4:=Tryz.sizeOf4
 v4:=Tryz.zeroValue4
 t5:=Tryz.underlying5
 a5:=Tryz.isAgg5
 z5:=Tryz.sizeOf5
 v5:=Tryz.zeroValue5
 t9:=Tryz.underlying9
 a9:=Tryz.isAgg9
 z9:=Tryz.sizeOf9
 v9:=Tryz.zeroValue9
 t21:=Tryz.underlying21
 a21:=Tryz.isAgg21
 z21:=Tryz.sizeOf21
 v21:=Tryz.zeroValue21
 t46:=Tryz.underlying189
 a46:=Tryz.isAgg189
 z46:=Tryz.sizeOf189
 v46:=Tryz.zeroValue189
 t105:=Tryz.underlying310
 a105:=Tryz.isAgg310
 z105:=Tryz.sizeOf310
 v105:=Tryz.zeroValue310
 t116:=Tryz.underlying291
 a116:=Tryz.isAgg291
 z116:=Tryz.sizeOf291
 t117:=Tryz.underlying292
 a117:=Tryz.isAgg292
 z117:=Tryz.sizeOf292
 v117:=Tryz.zeroValue292
 t119:=Tryz.underlying320
 a119:=Tryz.isAgg320
 z119:=Tryz.sizeOf320
 t124:=Tryz.underlying295
 a124:=Tryz.isAgg295
 z124:=Tryz.sizeOf295
 v124:=Tryz.zeroValue295
 t138:=Tryz.underlying322
 a138:=Tryz.isAgg322
 z138:=Tryz.sizeOf322
 v138:=Tryz.zeroValue322
 t139:=Tryz.underlying323
 a139:=Tryz.isAgg323
 z139:=Tryz.sizeOf323
 v139:=Tryz.zeroValue323
 g3:=by kernel_rfl
 g4:=by kernel_rfl}
open Go.RowKit in
theorem Tryz.strings_TrimLeft_one (s:ByteArray)(c:UInt8)(hc:c.toNat<128)(w:World):
  Calls Tryz.prog 246 #[.string s, .string ⟨#[c]⟩] w fun e w'=>e= .returned (.string ⟨(Lib.trimLeftB s.data.toList c).toArray⟩)/\w'=w:=Any.strings_TrimLeft_one Tryz.lays161 s c hc w
def Tryz.lays126_ren :Go.Shelf.Ren:=⟨fun|126=>251|n=>n,fun|5=>5|3=>3|9=>9|n=>n,fun|n=>n⟩
theorem Tryz.lays126 :Go.Proofs.Lays.n126 Tryz.prog Tryz.lays126_ren:={
 mixed:=by kernel_rfl
 f126:=Tryz.func251.trans (congrArg some (by kernel_rfl))
 t3:=Tryz.underlying3
 a3:=Tryz.isAgg3
 z3:=Tryz.sizeOf3
 v3:=Tryz.zeroValue3
 t5:=Tryz.underlying5
 a5:=Tryz.isAgg5
 z5:=Tryz.sizeOf5
 v5:=Tryz.zeroValue5
 t9:=Tryz.underlying9
 a9:=Tryz.isAgg9
 z9:=Tryz.sizeOf9
 v9:=Tryz.zeroValue9}
theorem Tryz.bits_Len8 (x:Int)(w:World)(h0:0<=x)(h1:x<=255):
  Calls Tryz.prog 251 #[.int .u8 x] w fun e w'=>e= .returned (.int .i64 (Lib.bitLen x.toNat))/\w'=w:=Any.bits_Len8 Tryz.lays126 x w h0 h1
def Tryz.lays128_ren :Go.Shelf.Ren:=⟨fun|128=>193|n=>n,fun|51=>230|3=>3|4=>4|46=>189|5=>5|9=>9|n=>n,fun|n=>n⟩
def Tryz.lays133_ren :Go.Shelf.Ren:=⟨fun|133=>243|128=>193|n=>n,fun|51=>230|3=>3|4=>4|46=>189|5=>5|9=>9|n=>n,fun|n=>n⟩
theorem Tryz.lays133 :Go.Proofs.Lays.n133 Tryz.prog Tryz.lays133_ren:={
 mixed:=by kernel_rfl
 f128:=Tryz.func193.trans (congrArg some (by kernel_rfl))
 f133:=Tryz.func243.trans (congrArg some (by kernel_rfl))
 t3:=Tryz.underlying3
 a3:=Tryz.isAgg3
 z3:=Tryz.sizeOf3
 v3:=Tryz.zeroValue3
 t4:=Tryz.underlying4
 a4:=Tryz.isAgg4
 z4:=Tryz.sizeOf4
 v4:=Tryz.zeroValue4
 t5:=Tryz.underlying5
 a5:=Tryz.isAgg5
 z5:=Tryz.sizeOf5
 v5:=Tryz.zeroValue5
 t9:=Tryz.underlying9
 a9:=Tryz.isAgg9
 z9:=Tryz.sizeOf9
 v9:=Tryz.zeroValue9
 t46:=Tryz.underlying189
 a46:=Tryz.isAgg189
 z46:=Tryz.sizeOf189
 v46:=Tryz.zeroValue189
 t51:=Tryz.underlying230
 a51:=Tryz.isAgg230
 z51:=Tryz.sizeOf230
 v51:=Tryz.zeroValue230}
theorem Tryz.bits_LeadingZeros32 (x:Int)(w:World)(h0:0<=x)(h1:x<=4294967295):
  Calls Tryz.prog 243 #[.int .u32 x] w fun e w'=>e= .returned (.int .i64 (32-(Lib.bitLen x.toNat:Int)))/\w'=w:=Any.bits_LeadingZeros32 Tryz.lays133 x w h0 h1
def Tryz.lays213_ren :Go.Shelf.Ren:=⟨fun|213=>247|265=>258|n=>n,fun|9=>9|3=>3|n=>n,fun|n=>n⟩
def Tryz.lays106_ren :Go.Shelf.Ren:=⟨fun|106=>228|213=>247|265=>258|n=>n,fun|9=>9|3=>3|n=>n,fun|n=>n⟩
theorem Tryz.lays106 :Go.Proofs.Lays.n106 Tryz.prog Tryz.lays106_ren:={
 mixed:=by kernel_rfl
 f106:=Tryz.func228.trans (congrArg some (by kernel_rfl))
 f213:=Tryz.func247.trans (congrArg some (by kernel_rfl))
 f265:=Tryz.func258.trans (congrArg some (by kernel_rfl))
 t3:=Tryz.underlying3
 a3:=Tryz.isAgg3
 z3:=Tryz.sizeOf3
 v3:=Tryz.zeroValue3
 t9:=Tryz.underlying9
 a9:=Tryz.isAgg9
 z9:=Tryz.sizeOf9
 v9:=Tryz.zeroValue9}
open Go.RowKit in
theorem Tryz.strings_Compare (a b:ByteArray)(w:World):
  Calls Tryz.prog 228 #[.string a, .string b] w fun e w'=>e= .returned (.int .i64 (Lib.compareBytes a.data.toList b.data.toList))/\w'=w:=Any.strings_Compare Tryz.lays106 a b w
def Tryz.lays215_ren :Go.Shelf.Ren:=⟨fun|215=>199|n=>n,fun|3=>3|4=>4|n=>n,fun|n=>n⟩
def Tryz.lays122_ren :Go.Shelf.Ren:=⟨fun|122=>165|215=>199|n=>n,fun|3=>3|4=>4|n=>n,fun|n=>n⟩
theorem Tryz.lays122 :Go.Proofs.Lays.n122 Tryz.prog Tryz.lays122_ren:={
 mixed:=by kernel_rfl
 f122:=Tryz.func165.trans (congrArg some (by kernel_rfl))
 f215:=Tryz.func199.trans (congrArg some (by kernel_rfl))
 t3:=Tryz.underlying3
 a3:=Tryz.isAgg3
 z3:=Tryz.sizeOf3
 v3:=Tryz.zeroValue3
 t4:=Tryz.underlying4
 a4:=Tryz.isAgg4
 z4:=Tryz.sizeOf4
 v4:=Tryz.zeroValue4}
open Go.RowKit in
theorem Tryz.cmp_Compare_int (x y:Int)(w:World):
  Calls Tryz.prog 165 #[.int .i64 x, .int .i64 y] w fun e w'=>e= .returned (.int .i64 (Lib.compareInt x y))/\w'=w:=Any.cmp_Compare_int Tryz.lays122 x y w
def Tryz.lays129_ren :Go.Shelf.Ren:=⟨fun|129=>194|n=>n,fun|53=>232|3=>3|4=>4|46=>189|5=>5|9=>9|n=>n,fun|n=>n⟩
theorem Tryz.lays129 :Go.Proofs.Lays.n129 Tryz.prog Tryz.lays129_ren:={
 mixed:=by kernel_rfl
 f129:=Tryz.func194.trans (congrArg some (by kernel_rfl))
 t3:=Tryz.underlying3
 a3:=Tryz.isAgg3
 z3:=Tryz.sizeOf3
 v3:=Tryz.zeroValue3
 t4:=Tryz.underlying4
 a4:=Tryz.isAgg4
 z4:=Tryz.sizeOf4
 v4:=Tryz.zeroValue4
 t5:=Tryz.underlying5
 a5:=Tryz.isAgg5
 z5:=Tryz.sizeOf5
 v5:=Tryz.zeroValue5
 t9:=Tryz.underlying9
 a9:=Tryz.isAgg9
 z9:=Tryz.sizeOf9
 v9:=Tryz.zeroValue9
 t46:=Tryz.underlying189
 a46:=Tryz.isAgg189
 z46:=Tryz.sizeOf189
 v46:=Tryz.zeroValue189
 t53:=Tryz.underlying232
 a53:=Tryz.isAgg232
 z53:=Tryz.sizeOf232
 v53:=Tryz.zeroValue232}
theorem Tryz.bits_Len64 (x:Int)(w:World)(h0:0<=x)(h1:x<=18446744073709551615):
  Calls Tryz.prog 194 #[.int .u64 x] w fun e w'=>e= .returned (.int .i64 (Lib.bitLen x.toNat))/\w'=w:=Any.bits_Len64 Tryz.lays129 x w h0 h1
def Tryz.lays264_ren :Go.Shelf.Ren:=⟨fun|264=>229|n=>n,fun|53=>232|46=>189|n=>n,fun|n=>n⟩
theorem Tryz.lays264 :Go.Proofs.Lays.n264 Tryz.prog Tryz.lays264_ren:={
 mixed:=by kernel_rfl
 f264:=Tryz.func229.trans (congrArg some (by kernel_rfl))
 t46:=Tryz.underlying189
 a46:=Tryz.isAgg189
 z46:=Tryz.sizeOf189
 v46:=Tryz.zeroValue189
 t53:=Tryz.underlying232
 a53:=Tryz.isAgg232
 z53:=Tryz.sizeOf232
 v53:=Tryz.zeroValue232}
open Go.RowKit Go.Lib in
theorem Tryz.bits_Mul64 (x y:Nat)(hx:x<18446744073709551616)(hy:y<18446744073709551616)(w:World):
  Calls Tryz.prog 229 #[.int .u64 x, .int .u64 y] w fun e w'=>e= .returned (.tuple #[.int .u64 ((x*y / 18446744073709551616:Nat):Int), .int .u64 ((x*y % 18446744073709551616:Nat):Int)])/\w'=w:=Any.bits_Mul64 Tryz.lays264 x y hx hy w
end Go.Proofs
namespace Go.Vt
open Go.RowKit Go.Proofs
open Go.Proofs.Tryz (prog)
theorem Zqn (l:List UInt8)(b:UInt8):vle (l++[b]).reverse=b.toNat+256*vle l.reverse:=by simp[vle]
theorem ZCi {l:List UInt8}(h:l.length<=8):vle l<18446744073709551616:=by
 have h1:=Zdx l
 have h2:256 ^ l.length<=256 ^ 8:=Nat.pow_le_pow_right (by omega) h
 have h3:(256:Nat) ^ 8=18446744073709551616:=by decide
 omega
theorem Zst {l:List UInt8}(h:l.length<=7):vle l<72057594037927936:=by
 have h1:=Zdx l
 have h2:256 ^ l.length<=256 ^ 7:=Nat.pow_le_pow_right (by omega) h
 have h3:(256:Nat) ^ 7=72057594037927936:=by decide
 omega
theorem Zsa (x b:Nat)(hx:x<72057594037927936)(hb:b<256):bits .or .u64 (IntKind.u64.wrap ((x:Int)*2 ^ (8:Int).toNat)) (b:Int)=((b+256*x:Nat):Int):=by
 have e1:((8:Int).toNat)=8:=rfl
 rw[e1,IntWalk.u64_in _ (by omega)]
 unfold bits
 have hx':((x:Int)*2 ^ 8)=((x*256:Nat):Int):=by omega
 rw[hx']
 have h1:BitVec.ofInt IntKind.u64.bits ((x*256:Nat):Int)=BitVec.ofNat 64 (x*256):=BitVec.ofInt_natCast _ _
 have h2:BitVec.ofInt IntKind.u64.bits ((b:Nat):Int)=BitVec.ofNat 64 b:=BitVec.ofInt_natCast _ _
 have h3:(x*256)|||b=x*256+b:=by
  rw[show x*256=x<<<8 by rw[Nat.shiftLeft_eq]]
  rw[Nat.shiftLeft_add_eq_or_of_lt (by omega:b<2 ^ 8)]
 simp only[h1,h2]
 show IntKind.u64.wrap ((BitVec.ofNat 64 (x*256)|||BitVec.ofNat 64 b).toNat:Int)=_
 rw[BitVec.toNat_or,BitVec.toNat_ofNat,BitVec.toNat_ofNat,Nat.mod_eq_of_lt (by omega),Nat.mod_eq_of_lt (by omega),h3,IntWalk.u64_in _ (by omega)]
 omega
theorem Zov (s:ByteArray)(k:Nat)(h:k<s.size):s.data.toList.take (k+1)=s.data.toList.take k++[s[k]]:=by
 rw[Wn (by simpa using h)]
 rfl
theorem Zp2 (s:ByteArray)(h:s.size<=8)(w:World):Calls prog 241 [.string s].toArray w (Ret (.tuple #[.int .u64 (vmag s), .bool true]) w):=by
 refine Zb Tryz.func241 rfl Tryz.ntmps241 rfl ?_
 repeat(refine wkA ?_;intros)
 refine Zk rfl (fun h=>?_) (fun h=>?_)
 ·have:=Wa h
  omega
 repeat(refine wkA ?_;intros)
 refine Zo (S:=Nat) (fun k=>k<=s.size) (fun k=>[(0, .string s),(10, .int .i64 s.size),(11, .int .i64 k),(4, .int .u64 (vle (s.data.toList.take k).reverse))]) (fun _=>[]) (fun k=>s.size-k) 0 (Wm _)
  (by repeat(first|exact ZA|refine Zw rfl ?_)) (Wj _) (fun k hk=>?_)
 repeat(refine wkA ?_;intros)
 refine Zk rfl (fun h=>?_) (fun h=>?_)
 ·have hlt:k<s.size:=by have:=Wa h;omega
  have hu:=UInt8.toNat_lt s[k]
  repeat(refine wkA ?_;intros)
  refine jq (Zcw rfl rfl (by decide)) rfl rfl ?_
  repeat(refine wkA ?_;intros)
  refine jq (ZbB rfl rfl (by omega) (show s[(k:Int).toNat]? =some s[k] by simp[hlt])) rfl rfl ?_
  repeat(refine wkA ?_;intros)
  refine jq (ZdZ rfl rfl) rfl rfl ?_
  have hx:=Zst (l:=(s.data.toList.take k).reverse) (by simp;omega)
  rw[Zsa _ _ hx (UInt8.toNat_lt _),<-Zqn,<-Zov s k hlt]
  repeat(refine wkA ?_;intros)
  exact Zc (k+1) hlt (by repeat(first|exact ZA|refine Zw rfl ?_)) (Wj _) (by omega)
 ·have hge:k=s.size:=by have:=Wb h;omega
  subst hge
  repeat(refine wkA ?_;intros)
  refine ZC rfl (Zs rfl) (Zs rfl) (fun w hw=>?_)
  have e:vle (s.data.toList.take s.size).reverse=vmag s:=by
   unfold vmag
   rw[show s.data.toList.take s.size=s.data.toList from List.take_of_length_le (Nat.le_of_eq rfl)]
  rw[e]
  exact ZG hw
theorem Zsf (s:ByteArray)(h:8<s.size)(w:World):Calls prog 241 [.string s].toArray w (Ret (.tuple #[.int .u64 0, .bool false]) w):=by
 refine Zb Tryz.func241 rfl Tryz.ntmps241 rfl ?_
 repeat(refine wkA ?_;intros)
 refine Zk rfl (fun h=>?_) (fun h=>?_)
 ·repeat(refine wkA ?_;intros)
  exact ZC rfl (Zs rfl) (Zs rfl) (fun w hw=>ZG hw)
 ·have:=Wb h
  omega
def I (n:Int):ZQ:=⟨decide (n<0),mag n.natAbs⟩
abbrev vI (n:Int):Value:= .agg (Zv (I n))
def lo (a:Nat):Nat:=if a<18446744073709551616 then a else 0
def sm (a:Nat):Bool:=decide (a<18446744073709551616)
theorem Zcl {a:Nat}(h:sm a=true):lo a=a:=by unfold sm at h;unfold lo;rw[if_pos (Wa h)]
theorem Zcp (a:Nat):lo a<18446744073709551616:=by unfold lo;split <;> omega
theorem size8 {a:Nat}:(mag a).size<=8↔a<18446744073709551616:=by
 rw[Z1]
instance ZBC (a:Nat):SpecC prog 241 [.string (mag a)] (.tuple #[.int .u64 (lo a), .bool (sm a)]) True:=⟨fun _ w=>by
 by_cases h:a<18446744073709551616
 ·have:=Zp2 (mag a) (size8.2 h) w
  rw[Zce] at this
  unfold lo sm
  rw[if_pos h,Wc h]
  exact this
 ·have:=Zsf (mag a) (by have:=size8 (a:=a);omega) w
  unfold lo sm
  rw[if_neg h,We h]
  exact this⟩
instance Zzk (a b:Nat):SpecC prog 222 [.string (mag a), .string (mag b)] (.tuple #[.int .u64 (lo a), .int .u64 (lo b), .bool (sm a&&sm b)]) True:=⟨fun _ w=>by
 cases h:sm a
 all_goals
  refine Zb Tryz.func222 rfl Tryz.ntmps222 rfl ?_
  repeat(refine wkA ?_;intros)
  simp only[h]
  repeat(refine wkA ?_;intros)
  exact ZaY rfl (Zs rfl) (Zs rfl) (Zs rfl) (fun w hw=>ZG hw)⟩
theorem ZpW (b:Bool)(s:ByteArray)(w:World):Calls prog 202 [.bool b, .string s].toArray w (Ret (.agg (Zv ⟨b&& !decide (s=ByteArray.empty),s⟩)) w):=by
 cases b
 all_goals
  refine Zb Tryz.func202 rfl Tryz.ntmps202 rfl ?_
  repeat(refine wkA ?_;intros)
  exact rtC rfl rfl
def sg (b:Bool)(n:Nat):Int:=if b then-(n:Int) else n
theorem Zti (b:Bool)(n:Nat):(⟨b&& !decide (mag n=ByteArray.empty),mag n⟩:ZQ)=I (sg b n):=by
 unfold I sg
 cases b
 ·simp
 ·by_cases h:n=0
  ·subst h;simp[Zd2]
  ·have h1:¬mag n=ByteArray.empty:=fun h2=>h (Zad.1 h2)
   simp[h1]
   omega
instance ZBi (b:Bool)(n:Nat):SpecC prog 202 [.bool b, .string (mag n)] (vI (sg b n)) True:=⟨fun _ w=>by
 have:=ZpW b (mag n) w
 rw[Zti] at this
 exact this⟩
def cellsK (u n k:Nat):List Int:=(List.range 8).map fun j=>if n-k<=j/\j<n then((u / 256 ^ (n-1-j) % 256:Nat):Int) else 0
theorem ZcF (u n k:Nat):(cellsK u n k).length=8:=by simp[cellsK]
theorem ZcC (u n k j:Nat)(h:j<8):(cellsK u n k)[j]? =some (if n-k<=j/\j<n then((u / 256 ^ (n-1-j) % 256:Nat):Int) else 0):=by
 simp[cellsK,h]
theorem Zja (u n k:Nat)(hn:n<=8)(hk:k<n):(cellsK u n k).set (n-1-k) ((u / 256 ^ k % 256:Nat):Int)=cellsK u n (k+1):=by
 apply List.ext_getElem?
 intro j
 by_cases hj:j<8
 ·rw[List.getElem?_set,ZcC _ _ _ _ hj]
  by_cases he:n-1-k=j
  ·subst he
   rw[if_pos rfl,if_pos (by rw[ZcF];omega),ZcC _ _ _ _ hj,if_pos (by omega),show n-1-(n-1-k)=k by omega]
  ·rw[if_neg he,ZcC _ _ _ _ hj]
   congr 1
   by_cases h1:n-k<=j/\j<n
   ·rw[if_pos h1,if_pos (by omega)]
   ·rw[if_neg h1,if_neg (by omega)]
 ·rw[List.getElem?_eq_none (by rw[List.length_set,ZcF];omega),List.getElem?_eq_none (by rw[ZcF];omega)]
theorem ZoZ (u n:Nat)(hn:n<=8)(h:(le u).length=n)(i:Nat)(b:UInt8)(hb:(le u).reverse[i]? =some b):(nums .u8 (cellsK u n n))[0+i]? =some (.int .u8 b.toNat):=by
 have hi:i<n:=by
  rcases Nat.lt_or_ge i n with h1|h1
  ·exact h1
  ·rw[List.getElem?_eq_none (by simp;omega)] at hb;cases hb
 rw[Nat.zero_add,Ze1,ZcC _ _ _ _ (by omega),if_pos (by omega)]
 rw[List.getElem?_reverse (by omega),h,Ziu _ _ (by omega)] at hb
 simp only[Option.some.injEq] at hb
 subst hb
 simp
theorem pow256 (k:Nat):(2:Int) ^ (8*(k:Int)).toNat=((256 ^ k:Nat):Int):=by
 have h:(8*(k:Int)).toNat=8*k:=by omega
 rw[h,show(256:Nat)=2 ^ 8 from rfl,<-Nat.pow_mul]
 simp
theorem Zjx (u n:Nat):cellsK u n 0=[0,0,0,0,0,0,0,0]:=by
 have:∀j,(if n-0<=j/\j<n then((u / 256 ^ (n-1-j) % 256:Nat):Int) else 0)=0:=fun j=>by rw[if_neg (by omega)]
 simp only[cellsK,this]
 rfl
theorem ZkY (u k:Nat):IntKind.u8.wrap ((u:Int) / 2 ^ (8*(k:Int)).toNat)=((u / 256 ^ k % 256:Nat):Int):=by
 rw[pow256,IntKind.wrap_u8]
 rfl
theorem Zhi (u:Nat)(h0:u≠0)(h:u<18446744073709551616)(w:World):Calls prog 211 [.int .u64 u].toArray w (Ret (.string (mag u)) w):=by
 have hbit:=Zpq (x:=u) h h0
 have hb64:=Zmm (x:=u) h
 obtain⟨n,hn⟩:∃n,n=(mag u).size:=⟨_,rfl⟩
 have hn8:n<=8:=by rw[hn,size8];exact h
 have hn1:1<=n:=by
  rcases Nat.eq_zero_or_pos n with h1|h1
  ·exfalso
   have:(mag u).size<=0:=by omega
   rw[Z1] at this
   omega
  ·exact h1
 haveI:SpecC prog 194 [.int .u64 u] (.int .i64 (Lib.bitLen u)) True:=⟨fun _ w=>(Tryz.bits_Len64 u w (by omega) (by omega)).mono fun e w' ⟨h1,h2⟩=>by subst h2;exact⟨h1,Ext.refl _⟩⟩
 refine Zb Tryz.func211 rfl Tryz.ntmps211 rfl ?_
 repeat(refine wkA ?_;intros)
 refine Zk rfl (fun h=>?_) (fun h=>?_)
 ·have:=Wa h
  omega
 repeat(refine wkA ?_;intros)
 rename_i b
 have e:((Lib.bitLen u:Int)+7) / 8=(n:Int):=by omega
 refine Zo (S:=Nat) (fun k=>k<=n) (fun k=>[(0, .int .u64 u),(3, .int .i64 n),(12, .int .i64 n),(13, .int .i64 k),(4, .pointer (some ⟨b,0,none⟩))]) (fun k=>[⟨b,nums .u8 (cellsK u n k),270⟩]) (fun k=>n-k) 0 (Wm _)
  (by rw[e];repeat(first|exact ZA|refine Zw rfl ?_)) (by rw[Zjx];exact Wj _) (fun k hk=>?_)
 repeat(refine wkA ?_;intros)
 refine Zk rfl (fun h=>?_) (fun h=>?_)
 ·have hlt:k<n:=by have:=Wa h;omega
  repeat(refine wkA ?_;intros)
  refine jq (ZaI rfl rfl (by simp only[IntKind.bits];omega)) rfl rfl ?_
  repeat(refine wkA ?_;intros)
  refine Zmw rfl rfl (by rw[ZcF];omega) rfl ?_
  rw[ZkY,show 0+((n:Int)-1-(k:Int)).toNat*1=n-1-k by omega,Zja u n k hn8 hlt]
  repeat(refine wkA ?_;intros)
  exact Zc (k+1) hlt (by repeat(first|exact ZA|refine Zw rfl ?_)) (Wj _) (by omega)
 ·have hge:k=n:=by have:=Wb h;omega
  subst hge
  repeat(refine wkA ?_;intros)
  refine jq (ZhM rfl rfl (by omega)) rfl rfl ?_
  refine jq (Zbu (bs:=(le u).reverse) rfl (by rw[List.length_reverse,<-ZbP];omega) (ZoZ u k hn8 (by rw[<-ZbP];omega))) rfl rfl ?_
  repeat(refine wkA ?_;intros)
  exact rtT rfl rfl
theorem ZgC (w:World):Calls prog 211 [.int .u64 0].toArray w (Ret (.string (mag 0)) w):=by
 refine Zb Tryz.func211 rfl Tryz.ntmps211 rfl ?_
 repeat(refine wkA ?_;intros)
 exact rtT rfl rfl
instance Ztq (u:Nat):SpecC prog 211 [.int .u64 u] (.string (mag u)) (u<18446744073709551616):=⟨fun h w=>by
 by_cases h0:u=0
 ·subst h0
  exact ZgC w
 ·exact Zhi u h0 h w⟩
end Go.Vt
namespace Go.Vt
def vd :List Nat->Nat
 |[]=>0
 |d::l=>d+4294967296*vd l
def Dg (l:List Nat):Prop:=∀d∈l,d<4294967296
theorem Za8 (l m:List Nat):vd (l++m)=vd l+4294967296 ^ l.length*vd m:=by
 induction l with
 |nil=>simp[vd]
 |cons b l ih=>
  simp only[List.cons_append,vd,ih,List.length_cons,Nat.pow_succ,Nat.mul_add]
  rw[Nat.mul_comm (4294967296 ^ l.length) 4294967296,Nat.mul_assoc]
  omega
theorem ZaA (l:List Nat)(i:Nat)(h:i<=l.length):vd l=vd (l.take i)+4294967296 ^ i*vd (l.drop i):=by
 have:=Za8 (l.take i) (l.drop i)
 rw[List.take_append_drop,List.length_take,Nat.min_eq_left h] at this
 exact this
theorem ZaU {l:List Nat}(h:Dg l):vd l<4294967296 ^ l.length:=by
 induction l with
 |nil=>simp[vd]
 |cons b l ih=>
  have h1:=h b (.head _)
  have h2:=ih (fun d hd=>h d (.tail _ hd))
  simp only[vd,List.length_cons,Nat.pow_succ]
  omega
theorem Zbl {l:List Nat}(h:Dg l)(i:Nat):Dg (l.take i):=fun d hd=>h d (List.mem_of_mem_take hd)
theorem Zk7 {l:List Nat}(h:Dg l)(i:Nat):Dg (l.drop i):=fun d hd=>h d (List.mem_of_mem_drop hd)
theorem ZbA {l:List Nat}(h:Dg l)(i x:Nat)(hx:x<4294967296):Dg (l.set i x):=fun d hd=>by
 rcases List.mem_or_eq_of_mem_set hd with h1|h1
 ·exact h d h1
 ·omega
theorem ZgS {l m:List Nat}(h:Dg l)(k:Dg m):Dg (l++m):=fun d hd=>by
 rcases List.mem_append.1 hd with h1|h1
 ·exact h d h1
 ·exact k d h1
theorem Zez (n:Nat):Dg (List.replicate n 0):=fun d hd=>by have:=(List.mem_replicate.1 hd).2;omega
theorem ZeG (n:Nat):vd (List.replicate n 0)=0:=by
 induction n with
 |zero=>rfl
 |succ n ih=>simp only[List.replicate_succ,vd,ih]
theorem Z2 {l:List Nat}(h:Dg l){i:Nat}(hi:i<l.length):l[i]<4294967296:=h _ (List.getElem_mem hi)
theorem ZaO :∀(l:List Nat)(i x:Nat)(h:i<l.length),vd (l.set i x)+l[i]*4294967296 ^ i=vd l+x*4294967296 ^ i
 |[],i,x,h=>by simp at h
 |b::l,0,x,h=>by simp[vd];omega
 |b::l,i+1,x,h=>by
  have ih:=ZaO l i x (by simpa using h)
  simp only[List.set_cons_succ,vd,List.getElem_cons_succ,Nat.pow_succ]
  have e1:l[i]'(by simpa using h)*(4294967296 ^ i*4294967296)=4294967296*(l[i]'(by simpa using h)*4294967296 ^ i):=by
   rw[<-Nat.mul_assoc,Nat.mul_comm]
  have e2:x*(4294967296 ^ i*4294967296)=4294967296*(x*4294967296 ^ i):=by rw[<-Nat.mul_assoc,Nat.mul_comm]
  rw[e1,e2]
  omega
theorem Zek (l:List Nat)(i:Nat)(h:i<l.length):l[i]*4294967296 ^ i<=vd l:=by
 have:=ZaO l i 0 h
 omega
theorem ZhR :∀{l m:List Nat},Dg l->Dg m->l.length=m.length->vd l=vd m->l=m
 |[],[],_,_,_,_=>rfl
 |[],_::_,_,_,h,_=>by simp at h
 |_::_,[],_,_,h,_=>by simp at h
 |a::l,b::m,hl,hm,h,hv=>by
  have h1:=hl a (.head _)
  have h2:=hm b (.head _)
  simp only[vd] at hv
  have e:a=b:=by omega
  subst e
  congr 1
  exact ZhR (fun d hd=>hl d (.tail _ hd)) (fun d hd=>hm d (.tail _ hd)) (by simpa using h) (by omega)
def tl :List Nat->Nat
 |[]=>0
 |d::l=>if tl l=0 then(if d=0 then 0 else 1) else tl l+1
theorem Zqu :∀l:List Nat,tl l<=l.length
 |[]=>Nat.le_refl _
 |d::l=>by
  have:=Zqu l
  simp only[tl,List.length_cons]
  split
  ·split <;> omega
  ·omega
theorem Zkk (l:List Nat)(d:Nat):tl (l++[d])=if d=0 then tl l else l.length+1:=by
 induction l with
 |nil=>simp[tl]
 |cons b l ih=>
  simp only[List.cons_append,tl,ih,List.length_cons]
  by_cases h:d=0
  ·simp[h]
  ·simp[h]
theorem Zvo (l:List Nat):vd (l.take (tl l))=vd l:=by
 induction l with
 |nil=>rfl
 |cons b l ih=>
  simp only[tl]
  split
  ·rename_i h
   rw[h] at ih
   simp only[List.take_zero,vd] at ih
   split
   ·rename_i hb
    subst hb
    simp[vd,<-ih]
   ·simp[vd,<-ih]
  ·simp[vd,ih]
theorem Zkr (i:Nat):256 ^ i=4294967296 ^ (i / 4)*256 ^ (i % 4):=by
 have h:i=4*(i / 4)+i % 4:=by omega
 have e:(4294967296:Nat)=256 ^ 4:=by decide
 rw[e,<-Nat.pow_mul,<-Nat.pow_add,<-h]
theorem ZcS (i:Nat):(4294967296:Nat) ^ i=256 ^ (4*i):=by
 have e:(4294967296:Nat)=256 ^ 4:=by decide
 rw[e,<-Nat.pow_mul]
theorem ZpX (l:List UInt8):mag (vle l.reverse)=⟨(Lib.trimLeftB l 0).toArray⟩:=by
 unfold Lib.trimLeftB
 induction l with
 |nil=>rfl
 |cons b l ih=>
  by_cases h:b=0
  ·subst h
   rw[List.dropWhile_cons_of_pos (by rfl),<-ih]
   congr 1
   simp[ZcE,vle]
  ·rw[List.dropWhile_cons_of_neg (by simpa using h)]
   refine ZjF (fun c hc=>?_)
   rw[List.reverse_cons,List.getLast?_append] at hc
   simp at hc
   rw[<-hc]
   exact h
end Go.Vt
namespace Go.Vt
open Go.RowKit Go.Proofs
open Go.Proofs.Tryz (prog)
def dgs :Nat->Nat->List Nat
 |_,0=>[]
 |a,m+1=>a % 4294967296::dgs (a / 4294967296) m
theorem Z9 :∀(m a:Nat),(dgs a m).length=m
 |0,_=>rfl
 |m+1,a=>by simp[dgs,Z9 m]
theorem Zaw :∀(m a:Nat),Dg (dgs a m)
 |0,_=>fun d hd=>by simp[dgs] at hd
 |m+1,a=>fun d hd=>by
  rcases List.mem_cons.1 hd with rfl|hd
  ·omega
  ·exact Zaw m _ d hd
theorem Zb5 :∀(m a:Nat),vd (dgs a m)=a % 4294967296 ^ m
 |0,a=>by simp[dgs,vd,Nat.mod_one]
 |m+1,a=>by
  rw[dgs,vd,Zb5 m,Nat.pow_succ,Nat.mul_comm (4294967296 ^ m),Nat.mod_mul]
theorem Zij {ds:List Nat}{m a:Nat}(h:Dg ds)(hl:ds.length=m)(hv:vd ds=a):ds=dgs a m:=by
 subst hv
 refine ZhR h (Zaw _ _) (by rw[Z9,hl]) ?_
 rw[Zb5,Nat.mod_eq_of_lt]
 rw[<-hl]
 exact ZaU h
theorem Zpy (d b r:Nat)(hd:d<256 ^ r)(hb:b<256)(hr:r<4):bits .or .u32 (d:Int) (IntKind.u32.wrap ((b:Int)*2 ^ (8*(r:Int)).toNat))=((d+b*256 ^ r:Nat):Int):=by
 have hp:(256:Nat) ^ r<=16777216:=by
  have h3:(256:Nat) ^ r<=256 ^ 3:=Nat.pow_le_pow_right (by omega) (by omega)
  have h4:(256:Nat) ^ 3=16777216:=by decide
  omega
 have hbr:b*256 ^ r<=255*16777216:=Nat.mul_le_mul (by omega) hp
 have e0:(b:Int)*2 ^ (8*(r:Int)).toNat=((b*256 ^ r:Nat):Int):=by rw[pow256,Int.natCast_mul]
 rw[e0,IntWalk.u32_in _ (by omega)]
 unfold bits
 have h1:BitVec.ofInt IntKind.u32.bits ((d:Nat):Int)=BitVec.ofNat 32 d:=BitVec.ofInt_natCast _ _
 have h2:BitVec.ofInt IntKind.u32.bits ((b*256 ^ r:Nat):Int)=BitVec.ofNat 32 (b*256 ^ r):=BitVec.ofInt_natCast _ _
 have h256:(256:Nat) ^ r=2 ^ (8*r):=by rw[show(256:Nat)=2 ^ 8 from rfl,<-Nat.pow_mul]
 have h3:d|||(b*256 ^ r)=d+b*256 ^ r:=by
  rw[Nat.or_comm,h256,<-Nat.shiftLeft_eq,<-Nat.shiftLeft_add_eq_or_of_lt (by rw[<-h256];exact hd),Nat.add_comm]
 simp only[h1,h2]
 show IntKind.u32.wrap ((BitVec.ofNat 32 d|||BitVec.ofNat 32 (b*256 ^ r)).toNat:Int)=_
 rw[BitVec.toNat_or,BitVec.toNat_ofNat,BitVec.toNat_ofNat,Nat.mod_eq_of_lt (by omega),Nat.mod_eq_of_lt (by omega),h3,IntWalk.u32_in _ (by omega)]
theorem Zrh (a i:Nat)(h:i<(mag a).size):(mag a)[(((mag a).size:Int)-1-(i:Int)).toNat]? =some (UInt8.ofNat (a / 256 ^ i % 256)):=by
 have e:(((mag a).size:Int)-1-(i:Int)).toNat=(mag a).size-1-i:=by omega
 rw[e]
 have hl:(le a).length=(mag a).size:=(ZbP a).symm
 have h1:(mag a)[(mag a).size-1-i]? =(le a).reverse[(mag a).size-1-i]? :=by
  have h2:∀j,(mag a)[j]? =(mag a).data[j]? :=fun j=>by
   by_cases hj:j<(mag a).size
   ·rw[getElem?_pos (mag a) j hj]
    exact(Array.getElem?_eq_getElem (xs:=(mag a).data) hj).symm
   ·rw[getElem?_neg (mag a) j hj]
    exact(Array.getElem?_eq_none (xs:=(mag a).data) (Nat.le_of_not_lt hj)).symm
  rw[h2]
  simp[mag]
 rw[h1,List.getElem?_reverse (by omega),hl,show(mag a).size-1-((mag a).size-1-i)=i by omega,Ziu _ _ (by omega)]
theorem ZjB {a i m:Nat}{ds:List Nat}(hi:i<(le a).length)(hm:i / 4<m)(hlen:ds.length=m)(hD:Dg ds)(hv:vd ds=vle ((le a).take i)):
  ∃h:i / 4<ds.length,ds[i / 4]<256 ^ (i % 4)/\(ds.set (i / 4) (ds[i / 4]+(a / 256 ^ i % 256)*256 ^ (i % 4))).length=m/\Dg (ds.set (i / 4) (ds[i / 4]+(a / 256 ^ i % 256)*256 ^ (i % 4)))/\
   vd (ds.set (i / 4) (ds[i / 4]+(a / 256 ^ i % 256)*256 ^ (i % 4)))=vle ((le a).take (i+1)):=by
 have hlt:i / 4<ds.length:=by omega
 have hvi:vle ((le a).take i)<256 ^ i:=by
  have:=Zdx ((le a).take i)
  rwa [Wt,Nat.min_eq_left (by omega)] at this
 have h1:=Zek ds (i / 4) hlt
 have hd:ds[i / 4]<256 ^ (i % 4):=by
  rcases Nat.lt_or_ge ds[i / 4] (256 ^ (i % 4)) with h|h
  ·exact h
  ·have h2:256 ^ (i % 4)*4294967296 ^ (i / 4)<=ds[i / 4]*4294967296 ^ (i / 4):=Nat.mul_le_mul_right _ h
   rw[Nat.mul_comm (256 ^ (i % 4)),<-Zkr] at h2
   omega
 have hb:a / 256 ^ i % 256<256:=Nat.mod_lt _ (by omega)
 have hp:(256:Nat) ^ (i % 4)<=16777216:=by
  have h3:(256:Nat) ^ (i % 4)<=256 ^ 3:=Nat.pow_le_pow_right (by omega) (by omega)
  have h4:(256:Nat) ^ 3=16777216:=by decide
  omega
 have hbr:(a / 256 ^ i % 256)*256 ^ (i % 4)<=255*16777216:=Nat.mul_le_mul (by omega) hp
 refine⟨hlt,hd,by rw[List.length_set];exact hlen,ZbA hD _ _ (by omega), ?_⟩
 have hs:=ZaO ds (i / 4) (ds[i / 4]+(a / 256 ^ i % 256)*256 ^ (i % 4)) hlt
 rw[Nat.add_mul,Nat.mul_assoc,Nat.mul_comm (256 ^ (i % 4)),<-Zkr] at hs
 have ht:vle ((le a).take (i+1))=vle ((le a).take i)+256 ^ i*(a / 256 ^ i % 256):=by
  rw[Wn hi,ZcE,Wt,Nat.min_eq_left (by omega)]
  have hg:=Ziu i a hi
  rw[List.getElem?_eq_getElem hi] at hg
  simp only[Option.some.injEq] at hg
  rw[hg]
  simp[vle]
 rw[ht,<-hv,Nat.mul_comm (256 ^ i)]
 omega
theorem Zau (a:Nat)(ha:(mag a).size<=1099511627776)(w:World):Calls prog 226 [.string (mag a)].toArray w (RetB (fun b=> .slice (some ⟨b,0,none⟩) (((mag a).size+3) / 4) (((mag a).size+3) / 4)) (dig .u32 (dgs a (((mag a).size+3) / 4))) 230 w):=by
 obtain⟨N,hN⟩:∃N,N=(mag a).size:=⟨_,rfl⟩
 obtain⟨m,hm⟩:∃m,m=(N+3) / 4:=⟨_,rfl⟩
 have hle:(le a).length=N:=by rw[hN,ZbP]
 rw[<-hN,<-hm]
 refine Zb Tryz.func226 rfl Tryz.ntmps226 rfl ?_
 repeat(refine wkA ?_;intros)
 have e:((N:Int)+3) / 4=(m:Int):=by omega
 simp only[<-hN]
 simp only[e]
 refine Zbx (k:= .u32) (B:=4) (m:=m) rfl rfl ⟨by omega,by omega⟩ rfl rfl ?_
 intro b
 repeat(refine wkA ?_;intros)
 simp only[<-hN]
 refine Zo (S:=Nat×List Nat) (fun s=>s.1<=N/\s.2.length=m/\Dg s.2/\vd s.2=vle ((le a).take s.1)) (fun s=>[(0, .string (mag a)),(3, .slice (some ⟨b,0,none⟩) m m),(12, .int .i64 N),(13, .int .i64 s.1)]) (fun s=>[⟨b,dig .u32 s.2,230⟩]) (fun s=>N-s.1) (0,List.replicate m 0)
  ⟨Wm _,by simp,Zez m,by simp[ZeG,vle]⟩ (by repeat(first|exact ZA|refine Zw rfl ?_)) (Wj _) (fun s hs=>?_)
 obtain⟨i,ds⟩:=s
 obtain⟨hi,hlen,hD,hv⟩:=hs
 simp only at hi hlen hD hv⊢
 repeat(refine wkA ?_;intros)
 refine Zk rfl (fun h=>?_) (fun h=>?_)
 ·have hlt:i<N:=by have:=Wa h;omega
  obtain⟨h4,hd,h5,h6,h7⟩:=ZjB (m:=m) (by omega) (by omega) hlen hD hv
  have hb:a / 256 ^ i % 256<256:=Nat.mod_lt _ (by omega)
  have hu:((UInt8.ofNat (a / 256 ^ i % 256)).toNat:Int)=((a / 256 ^ i % 256:Nat):Int):=by rw[toNat_ofNat]
  repeat(refine wkA ?_;intros)
  simp only[<-hN]
  repeat(refine wkA ?_;intros)
  refine jD 14 14 (h:=?_)
  (repeat(refine wkH ?_))
  refine hq (ZK rfl (show ds[0+((i:Int) / 4).toNat*1]? =some ds[i / 4] by rw[show 0+((i:Int) / 4).toNat*1=i / 4 by omega];simp[h4])) rfl rfl ?_
  (repeat(refine wkH ?_))
  have hg:(mag a)[((N:Int)-1-(i:Int)).toNat]? =some (UInt8.ofNat (a / 256 ^ i % 256)):=by
   have:=Zrh a i (by omega)
   rwa [<-hN] at this
  refine hq (ZbB rfl rfl (by omega) hg) rfl rfl ?_
  (repeat(refine wkH ?_))
  refine hq (Zcw rfl rfl (by simp only[IntKind.bits];omega)) rfl rfl ?_
  refine hq (ZdZ rfl rfl) rfl rfl ?_
  refine Zp (Zq ?_)
  have eo:=Zpy ds[i / 4] (a / 256 ^ i % 256) (i % 4) hd hb (by omega)
  rw[<-hu] at eo
  have ei:((i % 4:Nat):Int)=(i:Int) % 4:=by omega
  rw[ei] at eo
  rw[eo]
  repeat(refine wkA ?_;intros)
  refine Z4 rfl rfl (by omega) rfl ?_
  rw[show 0+((i:Int) / 4).toNat*1=i / 4 by omega]
  repeat(refine wkA ?_;intros)
  exact Zc (i+1,_) ⟨hlt,h5,h6,h7⟩ (by repeat(first|exact ZA|refine Zw rfl ?_)) (Wj _) (by simp only;omega)
 ·have hge:i=N:=by have:=Wb h;omega
  subst hge
  repeat(refine wkA ?_;intros)
  have hfin:ds=dgs a m:=Zij hD hlen (by rw[hv,List.take_of_length_le (Nat.le_of_eq hle),Zf0])
  subst hfin
  exact Zr rfl rfl (fun w hw=>ZjL hw)
end Go.Vt
