/- that the gaps between reports are those of the chain (part 5 of 32.) Conditions: those that each statement names. -/
import Derived.Shelf.Strings.Builder1
import Derived.Shelf.Strings.Builder2
import Derived.Shelf.Strings.Trim
import Derived.Shelf.Small.Utf8
import Derived.Shelf.Small.Bits
import Derived.Shelf.Small.Strs
import Derived.Shelf.Small.Wraps
import Derived.Shelf.Strconv.Itoa0
import Derived.Shelf.Strings.Search1
import Derived.Shelf.Strings.Prefix
import Derived.Shelf.Unicode.Decode
import Derived.Shelf.Strings.Runes
import Derived.Shelf.Strings.AsciiSet
import Derived.Shelf.Bits.Mul64
import Derived.Shelf.Unicode.DecodeSlow
import Derived.Shelf.Unicode.DecodeAny
import Derived.Shelf.Slices.Reverse
import Derived.Ground.Names2Prog
import Derived.Shelf.Slices.CompactI
import Derived.Shelf.Slices.SearchI
import Derived.Shelf.Slices.Cells
import Derived.Shelf.Slices.Empties
import Derived.Test.YtjicdlilgjdefaaGreatDoorProg
import Derived.Lib.TrimByte
import Derived.Test.YtjicdlilgjdefaaGreatDoorKG4
set_option linter.unusedSimpArgs false
set_option linter.unusedVariables false
set_option maxHeartbeats 2000000
set_option maxRecDepth 100000
/-
 DERIVED: THE SHELF's CONTRACTS AT THIS DUMP, IN PLAIN WORDS (tools/lay-plain.mjs out of 'TryzShelf.lean', which tools/lay-shelf.mjs wrote): THE SAME DECLARATIONS UNDER THE SAME NAMES: 'import', 'namespace', 'open', 'def', 'theorem' AND NOTHING ELSE: no command of the shelf's: FOR A HAND-IN. Each laying: the table of numbers ('.._ren') and one theorem, a field a fact of the dump's own or the kernel's comparison; each contract: ONE APPLICATION.
-/
namespace Go.Proofs
open Go.Shelf
def Tryz.lays161_ren :Go.Shelf.Ren:=⟨fun|161=>296|231=>319|227=>320|233=>321|235=>322|228=>349|197=>350|151=>351|260=>370|152=>371|137=>384|119=>385|224=>386|225=>387|217=>393|266=>396|n=>n,fun|9=>9|4=>4|3=>3|5=>5|117=>439|116=>438|0=>0|124=>442|105=>463|21=>21|119=>494|46=>294|139=>497|138=>496|n=>n,fun|3=>1|4=>2|n=>n⟩
theorem Tryz.lays161 :Go.Proofs.Lays.n161 Tryz.prog Tryz.lays161_ren:={
 mixed:=by kernel_rfl
 f119:=Tryz.func385.trans (congrArg some (by kernel_rfl))
 f137:=Tryz.func384.trans (congrArg some (by kernel_rfl))
 f151:=Tryz.func351.trans (congrArg some (by kernel_rfl))
 f152:=Tryz.func371.trans (congrArg some (by kernel_rfl))
 f161:=Tryz.func296.trans (congrArg some (by kernel_rfl))
 f197:=Tryz.func350.trans (congrArg some (by kernel_rfl))
 f217:=Tryz.func393.trans (congrArg some (by kernel_rfl))
 f224:=Tryz.func386.trans (congrArg some (by kernel_rfl))
 f225:=Tryz.func387.trans (congrArg some (by kernel_rfl))
 f227:=Tryz.func320.trans (congrArg some (by kernel_rfl))
 f228:=Tryz.func349.trans (congrArg some (by kernel_rfl))
 f231:=Tryz.func319.trans (congrArg some (by kernel_rfl))
 f233:=Tryz.func321.trans (congrArg some (by kernel_rfl))
 f235:=Tryz.func322.trans (congrArg some (by kernel_rfl))
 f260:=Tryz.func370.trans (congrArg some (by kernel_rfl))
 f266:=Tryz.func396.trans (congrArg some (by kernel_rfl))
 t0:=Tryz.underlying0
 a0:=Tryz.isAgg0
 z0:=Tryz.sizeOf0
 v0:=Tryz.zeroValue0
 t3:=Tryz.underlying3
 a3:=Tryz.isAgg3
 z3:=Tryz.sizeOf3
 v3:=Tryz.zeroValue3
 t4:=Tryz.underlying4
 a4:=Tryz.isAgg4
 z4:=Tryz.sizeOf4
 v4:=Tryz.zeroValue4
 t5:=Tryz.underlying5
 a5:=Tryz.isAgg5
 z5:=Tryz.sizeOf5
 v5:=Tryz.zeroValue5
 t9:=Tryz.underlying9
 a9:=Tryz.isAgg9
 z9:=Tryz.sizeOf9
 v9:=Tryz.zeroValue9
 t21:=Tryz.underlying21
 a21:=Tryz.isAgg21
 z21:=Tryz.sizeOf21
 v21:=Tryz.zeroValue21
 t46:=Tryz.underlying294
 a46:=Tryz.isAgg294
 z46:=Tryz.sizeOf294
 v46:=Tryz.zeroValue294
 t105:=Tryz.underlying463
 a105:=Tryz.isAgg463
 z105:=Tryz.sizeOf463
 v105:=Tryz.zeroValue463
 t116:=Tryz.underlying438
 a116:=Tryz.isAgg438
 z116:=Tryz.sizeOf438
 t117:=Tryz.underlying439
 a117:=Tryz.isAgg439
 z117:=Tryz.sizeOf439
 v117:=Tryz.zeroValue439
 t119:=Tryz.underlying494
 a119:=Tryz.isAgg494
 z119:=Tryz.sizeOf494
 t124:=Tryz.underlying442
 a124:=Tryz.isAgg442
 z124:=Tryz.sizeOf442
 v124:=Tryz.zeroValue442
 t138:=Tryz.underlying496
 a138:=Tryz.isAgg496
 z138:=Tryz.sizeOf496
 v138:=Tryz.zeroValue496
 t139:=Tryz.underlying497
 a139:=Tryz.isAgg497
 z139:=Tryz.sizeOf497
 v139:=Tryz.zeroValue497
 g3:=by kernel_rfl
 g4:=by kernel_rfl}
open Go.RowKit in
theorem Tryz.strings_TrimLeft_one (s:ByteArray)(c:UInt8)(hc:c.toNat<128)(w:World):
  Calls Tryz.prog 296 #[.string s, .string ⟨#[c]⟩] w fun e w'=>e= .returned (.string ⟨(Lib.trimLeftB s.data.toList c).toArray⟩)/\w'=w:=Any.strings_TrimLeft_one Tryz.lays161 s c hc w
def Tryz.lays128_ren :Go.Shelf.Ren:=⟨fun|128=>256|n=>n,fun|51=>365|3=>3|4=>4|46=>294|5=>5|9=>9|n=>n,fun|n=>n⟩
def Tryz.lays125_ren :Go.Shelf.Ren:=⟨fun|125=>204|128=>256|129=>185|n=>n,fun|46=>294|3=>3|51=>365|53=>226|4=>4|5=>5|9=>9|n=>n,fun|n=>n⟩
theorem Tryz.lays125 :Go.Proofs.Lays.n125 Tryz.prog Tryz.lays125_ren:={
 mixed:=by kernel_rfl
 f125:=Tryz.func204.trans (congrArg some (by kernel_rfl))
 f128:=Tryz.func256.trans (congrArg some (by kernel_rfl))
 f129:=Tryz.func185.trans (congrArg some (by kernel_rfl))
 t3:=Tryz.underlying3
 a3:=Tryz.isAgg3
 z3:=Tryz.sizeOf3
 v3:=Tryz.zeroValue3
 t4:=Tryz.underlying4
 a4:=Tryz.isAgg4
 z4:=Tryz.sizeOf4
 v4:=Tryz.zeroValue4
 t5:=Tryz.underlying5
 a5:=Tryz.isAgg5
 z5:=Tryz.sizeOf5
 v5:=Tryz.zeroValue5
 t9:=Tryz.underlying9
 a9:=Tryz.isAgg9
 z9:=Tryz.sizeOf9
 v9:=Tryz.zeroValue9
 t46:=Tryz.underlying294
 a46:=Tryz.isAgg294
 z46:=Tryz.sizeOf294
 v46:=Tryz.zeroValue294
 t51:=Tryz.underlying365
 a51:=Tryz.isAgg365
 z51:=Tryz.sizeOf365
 v51:=Tryz.zeroValue365
 t53:=Tryz.underlying226
 a53:=Tryz.isAgg226
 z53:=Tryz.sizeOf226
 v53:=Tryz.zeroValue226}
theorem Tryz.bits_Len (x:Int)(w:World)(h0:0<=x)(h1:x<=18446744073709551615):
  Calls Tryz.prog 204 #[.int .u64 x] w fun e w'=>e= .returned (.int .i64 (Lib.bitLen x.toNat))/\w'=w:=Any.bits_Len Tryz.lays125 x w h0 h1
def Tryz.lays133_ren :Go.Shelf.Ren:=⟨fun|133=>271|128=>256|n=>n,fun|51=>365|3=>3|4=>4|46=>294|5=>5|9=>9|n=>n,fun|n=>n⟩
theorem Tryz.lays133 :Go.Proofs.Lays.n133 Tryz.prog Tryz.lays133_ren:={
 mixed:=by kernel_rfl
 f128:=Tryz.func256.trans (congrArg some (by kernel_rfl))
 f133:=Tryz.func271.trans (congrArg some (by kernel_rfl))
 t3:=Tryz.underlying3
 a3:=Tryz.isAgg3
 z3:=Tryz.sizeOf3
 v3:=Tryz.zeroValue3
 t4:=Tryz.underlying4
 a4:=Tryz.isAgg4
 z4:=Tryz.sizeOf4
 v4:=Tryz.zeroValue4
 t5:=Tryz.underlying5
 a5:=Tryz.isAgg5
 z5:=Tryz.sizeOf5
 v5:=Tryz.zeroValue5
 t9:=Tryz.underlying9
 a9:=Tryz.isAgg9
 z9:=Tryz.sizeOf9
 v9:=Tryz.zeroValue9
 t46:=Tryz.underlying294
 a46:=Tryz.isAgg294
 z46:=Tryz.sizeOf294
 v46:=Tryz.zeroValue294
 t51:=Tryz.underlying365
 a51:=Tryz.isAgg365
 z51:=Tryz.sizeOf365
 v51:=Tryz.zeroValue365}
theorem Tryz.bits_LeadingZeros32 (x:Int)(w:World)(h0:0<=x)(h1:x<=4294967295):
  Calls Tryz.prog 271 #[.int .u32 x] w fun e w'=>e= .returned (.int .i64 (32-(Lib.bitLen x.toNat:Int)))/\w'=w:=Any.bits_LeadingZeros32 Tryz.lays133 x w h0 h1
def Tryz.lays213_ren :Go.Shelf.Ren:=⟨fun|213=>268|265=>308|n=>n,fun|9=>9|3=>3|n=>n,fun|n=>n⟩
def Tryz.lays106_ren :Go.Shelf.Ren:=⟨fun|106=>220|213=>268|265=>308|n=>n,fun|9=>9|3=>3|n=>n,fun|n=>n⟩
theorem Tryz.lays106 :Go.Proofs.Lays.n106 Tryz.prog Tryz.lays106_ren:={
 mixed:=by kernel_rfl
 f106:=Tryz.func220.trans (congrArg some (by kernel_rfl))
 f213:=Tryz.func268.trans (congrArg some (by kernel_rfl))
 f265:=Tryz.func308.trans (congrArg some (by kernel_rfl))
 t3:=Tryz.underlying3
 a3:=Tryz.isAgg3
 z3:=Tryz.sizeOf3
 v3:=Tryz.zeroValue3
 t9:=Tryz.underlying9
 a9:=Tryz.isAgg9
 z9:=Tryz.sizeOf9
 v9:=Tryz.zeroValue9}
open Go.RowKit in
theorem Tryz.strings_Compare (a b:ByteArray)(w:World):
  Calls Tryz.prog 220 #[.string a, .string b] w fun e w'=>e= .returned (.int .i64 (Lib.compareBytes a.data.toList b.data.toList))/\w'=w:=Any.strings_Compare Tryz.lays106 a b w
def Tryz.lays215_ren :Go.Shelf.Ren:=⟨fun|215=>209|n=>n,fun|3=>3|4=>4|n=>n,fun|n=>n⟩
def Tryz.lays122_ren :Go.Shelf.Ren:=⟨fun|122=>159|215=>209|n=>n,fun|3=>3|4=>4|n=>n,fun|n=>n⟩
theorem Tryz.lays122 :Go.Proofs.Lays.n122 Tryz.prog Tryz.lays122_ren:={
 mixed:=by kernel_rfl
 f122:=Tryz.func159.trans (congrArg some (by kernel_rfl))
 f215:=Tryz.func209.trans (congrArg some (by kernel_rfl))
 t3:=Tryz.underlying3
 a3:=Tryz.isAgg3
 z3:=Tryz.sizeOf3
 v3:=Tryz.zeroValue3
 t4:=Tryz.underlying4
 a4:=Tryz.isAgg4
 z4:=Tryz.sizeOf4
 v4:=Tryz.zeroValue4}
open Go.RowKit in
theorem Tryz.cmp_Compare_int (x y:Int)(w:World):
  Calls Tryz.prog 159 #[.int .i64 x, .int .i64 y] w fun e w'=>e= .returned (.int .i64 (Lib.compareInt x y))/\w'=w:=Any.cmp_Compare_int Tryz.lays122 x y w
def Tryz.lays129_ren :Go.Shelf.Ren:=⟨fun|129=>185|n=>n,fun|53=>226|3=>3|4=>4|46=>294|5=>5|9=>9|n=>n,fun|n=>n⟩
theorem Tryz.lays129 :Go.Proofs.Lays.n129 Tryz.prog Tryz.lays129_ren:={
 mixed:=by kernel_rfl
 f129:=Tryz.func185.trans (congrArg some (by kernel_rfl))
 t3:=Tryz.underlying3
 a3:=Tryz.isAgg3
 z3:=Tryz.sizeOf3
 v3:=Tryz.zeroValue3
 t4:=Tryz.underlying4
 a4:=Tryz.isAgg4
 z4:=Tryz.sizeOf4
 v4:=Tryz.zeroValue4
 t5:=Tryz.underlying5
 a5:=Tryz.isAgg5
 z5:=Tryz.sizeOf5
 v5:=Tryz.zeroValue5
 t9:=Tryz.underlying9
 a9:=Tryz.isAgg9
 z9:=Tryz.sizeOf9
 v9:=Tryz.zeroValue9
 t46:=Tryz.underlying294
 a46:=Tryz.isAgg294
 z46:=Tryz.sizeOf294
 v46:=Tryz.zeroValue294
 t53:=Tryz.underlying226
 a53:=Tryz.isAgg226
 z53:=Tryz.sizeOf226
 v53:=Tryz.zeroValue226}
theorem Tryz.bits_Len64 (x:Int)(w:World)(h0:0<=x)(h1:x<=18446744073709551615):
  Calls Tryz.prog 185 #[.int .u64 x] w fun e w'=>e= .returned (.int .i64 (Lib.bitLen x.toNat))/\w'=w:=Any.bits_Len64 Tryz.lays129 x w h0 h1
def Tryz.lays264_ren :Go.Shelf.Ren:=⟨fun|264=>246|n=>n,fun|53=>226|46=>294|n=>n,fun|n=>n⟩
theorem Tryz.lays264 :Go.Proofs.Lays.n264 Tryz.prog Tryz.lays264_ren:={
 mixed:=by kernel_rfl
 f264:=Tryz.func246.trans (congrArg some (by kernel_rfl))
 t46:=Tryz.underlying294
 a46:=Tryz.isAgg294
 z46:=Tryz.sizeOf294
 v46:=Tryz.zeroValue294
 t53:=Tryz.underlying226
 a53:=Tryz.isAgg226
 z53:=Tryz.sizeOf226
 v53:=Tryz.zeroValue226}
open Go.RowKit Go.Lib in
theorem Tryz.bits_Mul64 (x y:Nat)(hx:x<18446744073709551616)(hy:y<18446744073709551616)(w:World):
  Calls Tryz.prog 246 #[.int .u64 x, .int .u64 y] w fun e w'=>e= .returned (.tuple #[.int .u64 ((x*y / 18446744073709551616:Nat):Int), .int .u64 ((x*y % 18446744073709551616:Nat):Int)])/\w'=w:=Any.bits_Mul64 Tryz.lays264 x y hx hy w
end Go.Proofs
namespace Go.Vt
open Go.RowKit Go.Proofs
open Go.Proofs.Tryz (prog)
theorem Zq8 (l:List UInt8)(b:UInt8):vle (l++[b]).reverse=b.toNat+256*vle l.reverse:=by simp[vle]
theorem ZG0 {l:List UInt8}(h:l.length<=8):vle l<18446744073709551616:=by
 have h1:=Zf0 l
 have h2:256 ^ l.length<=256 ^ 8:=Nat.pow_le_pow_right (by omega) h
 have h3:(256:Nat) ^ 8=18446744073709551616:=by decide
 omega
theorem ZuO {l:List UInt8}(h:l.length<=7):vle l<72057594037927936:=by
 have h1:=Zf0 l
 have h2:256 ^ l.length<=256 ^ 7:=Nat.pow_le_pow_right (by omega) h
 have h3:(256:Nat) ^ 7=72057594037927936:=by decide
 omega
theorem ZtM (x b:Nat)(hx:x<72057594037927936)(hb:b<256):bits .or .u64 (IntKind.u64.wrap ((x:Int)*2 ^ (8:Int).toNat)) (b:Int)=((b+256*x:Nat):Int):=by
 have e1:((8:Int).toNat)=8:=rfl
 rw[e1,IntWalk.u64_in _ (by omega)]
 unfold bits
 have hx':((x:Int)*2 ^ 8)=((x*256:Nat):Int):=by omega
 rw[hx']
 have h1:BitVec.ofInt IntKind.u64.bits ((x*256:Nat):Int)=BitVec.ofNat 64 (x*256):=BitVec.ofInt_natCast _ _
 have h2:BitVec.ofInt IntKind.u64.bits ((b:Nat):Int)=BitVec.ofNat 64 b:=BitVec.ofInt_natCast _ _
 have h3:(x*256)|||b=x*256+b:=by
  rw[show x*256=x<<<8 by rw[Nat.shiftLeft_eq]]
  rw[Nat.shiftLeft_add_eq_or_of_lt (by omega:b<2 ^ 8)]
 simp only[h1,h2]
 show IntKind.u64.wrap ((BitVec.ofNat 64 (x*256)|||BitVec.ofNat 64 b).toNat:Int)=_
 rw[BitVec.toNat_or,BitVec.toNat_ofNat,BitVec.toNat_ofNat,Nat.mod_eq_of_lt (by omega),Nat.mod_eq_of_lt (by omega),h3,IntWalk.u64_in _ (by omega)]
 omega
theorem Zst (s:ByteArray)(k:Nat)(h:k<s.size):s.data.toList.take (k+1)=s.data.toList.take k++[s[k]]:=by
 rw[Wn (by simpa using h)]
 rfl
theorem Zsg (s:ByteArray)(h:s.size<=8)(w:World):Calls prog 269 [.string s].toArray w (Ret (.tuple #[.int .u64 (vmag s), .bool true]) w):=by
 refine Zg Tryz.func269 rfl Tryz.ntmps269 rfl ?_
 repeat(refine wkA ?_;intros)
 refine Zl rfl (fun h=>?_) (fun h=>?_)
 ·have:=Wa h
  omega
 repeat(refine wkA ?_;intros)
 refine Zm (S:=Nat) (fun k=>k<=s.size) (fun k=>[(0, .string s),(10, .int .i64 s.size),(11, .int .i64 k),(4, .int .u64 (vle (s.data.toList.take k).reverse))]) (fun _=>[]) (fun k=>s.size-k) 0 (Wm _)
  (by repeat(first|exact ZQ|refine ZH rfl ?_)) (Wj _) (fun k hk=>?_)
 repeat(refine wkA ?_;intros)
 refine Zl rfl (fun h=>?_) (fun h=>?_)
 ·have hlt:k<s.size:=by have:=Wa h;omega
  have hu:=UInt8.toNat_lt s[k]
  repeat(refine wkA ?_;intros)
  refine jq (Zef rfl rfl (by decide)) rfl rfl ?_
  repeat(refine wkA ?_;intros)
  refine jq (ZcX rfl rfl (by omega) (show s[(k:Int).toNat]? =some s[k] by simp[hlt])) rfl rfl ?_
  repeat(refine wkA ?_;intros)
  refine jq (Zfo rfl rfl) rfl rfl ?_
  have hx:=ZuO (l:=(s.data.toList.take k).reverse) (by simp;omega)
  rw[ZtM _ _ hx (UInt8.toNat_lt _),<-Zq8,<-Zst s k hlt]
  repeat(refine wkA ?_;intros)
  exact Zh (k+1) hlt (by repeat(first|exact ZQ|refine ZH rfl ?_)) (Wj _) (by omega)
 ·have hge:k=s.size:=by have:=Wb h;omega
  subst hge
  repeat(refine wkA ?_;intros)
  refine ZA rfl (Zk rfl) (Zk rfl) (fun w hw=>?_)
  have e:vle (s.data.toList.take s.size).reverse=vmag s:=by
   unfold vmag
   rw[show s.data.toList.take s.size=s.data.toList from List.take_of_length_le (Nat.le_of_eq rfl)]
  rw[e]
  exact ZZ hw
theorem ZtK (s:ByteArray)(h:8<s.size)(w:World):Calls prog 269 [.string s].toArray w (Ret (.tuple #[.int .u64 0, .bool false]) w):=by
 refine Zg Tryz.func269 rfl Tryz.ntmps269 rfl ?_
 repeat(refine wkA ?_;intros)
 refine Zl rfl (fun h=>?_) (fun h=>?_)
 ·repeat(refine wkA ?_;intros)
  exact ZA rfl (Zk rfl) (Zk rfl) (fun w hw=>ZZ hw)
 ·have:=Wb h
  omega
def I (n:Int):Zan:=⟨decide (n<0),mag n.natAbs⟩
abbrev vI (n:Int):Value:= .agg (ZM (I n))
def lo (a:Nat):Nat:=if a<18446744073709551616 then a else 0
def sm (a:Nat):Bool:=decide (a<18446744073709551616)
theorem Zdl {a:Nat}(h:sm a=true):lo a=a:=by unfold sm at h;unfold lo;rw[if_pos (Wa h)]
theorem Zdm (a:Nat):lo a<18446744073709551616:=by unfold lo;split <;> omega
theorem size8 {a:Nat}:(mag a).size<=8↔a<18446744073709551616:=by
 rw[ZaS]
instance ZI0 (a:Nat):SpecC prog 269 [.string (mag a)] (.tuple #[.int .u64 (lo a), .bool (sm a)]) True:=⟨fun _ w=>by
 by_cases h:a<18446744073709551616
 ·have:=Zsg (mag a) (size8.2 h) w
  rw[Zc7] at this
  unfold lo sm
  rw[if_pos h,Wc h]
  exact this
 ·have:=ZtK (mag a) (by have:=size8 (a:=a);omega) w
  unfold lo sm
  rw[if_neg h,We h]
  exact this⟩
instance ZEK (a b:Nat):SpecC prog 221 [.string (mag a), .string (mag b)] (.tuple #[.int .u64 (lo a), .int .u64 (lo b), .bool (sm a&&sm b)]) True:=⟨fun _ w=>by
 cases h:sm a
 all_goals
  refine Zg Tryz.func221 rfl Tryz.ntmps221 rfl ?_
  repeat(refine wkA ?_;intros)
  simp only[h]
  repeat(refine wkA ?_;intros)
  exact ZaB rfl (Zk rfl) (Zk rfl) (Zk rfl) (fun w hw=>ZZ hw)⟩
theorem Zrr (b:Bool)(s:ByteArray)(w:World):Calls prog 127 [.bool b, .string s].toArray w (Ret (.agg (ZM ⟨b&& !decide (s=ByteArray.empty),s⟩)) w):=by
 cases b
 all_goals
  refine Zg Tryz.func127 rfl Tryz.ntmps127 rfl ?_
  repeat(refine wkA ?_;intros)
  exact rtC rfl rfl
def sg (b:Bool)(n:Nat):Int:=if b then-(n:Int) else n
theorem Zwb (b:Bool)(n:Nat):(⟨b&& !decide (mag n=ByteArray.empty),mag n⟩:Zan)=I (sg b n):=by
 unfold I sg
 cases b
 ·simp
 ·by_cases h:n=0
  ·subst h;simp[Ze4]
  ·have h1:¬mag n=ByteArray.empty:=fun h2=>h (ZaQ.1 h2)
   simp[h1]
   omega
instance ZHo (b:Bool)(n:Nat):SpecC prog 127 [.bool b, .string (mag n)] (vI (sg b n)) True:=⟨fun _ w=>by
 have:=Zrr b (mag n) w
 rw[Zwb] at this
 exact this⟩
def cellsK (u n k:Nat):List Int:=(List.range 8).map fun j=>if n-k<=j/\j<n then((u / 256 ^ (n-1-j) % 256:Nat):Int) else 0
theorem ZdD (u n k:Nat):(cellsK u n k).length=8:=by simp[cellsK]
theorem ZdB (u n k j:Nat)(h:j<8):(cellsK u n k)[j]? =some (if n-k<=j/\j<n then((u / 256 ^ (n-1-j) % 256:Nat):Int) else 0):=by
 simp[cellsK,h]
theorem Zlv (u n k:Nat)(hn:n<=8)(hk:k<n):(cellsK u n k).set (n-1-k) ((u / 256 ^ k % 256:Nat):Int)=cellsK u n (k+1):=by
 apply List.ext_getElem?
 intro j
 by_cases hj:j<8
 ·rw[List.getElem?_set,ZdB _ _ _ _ hj]
  by_cases he:n-1-k=j
  ·subst he
   rw[if_pos rfl,if_pos (by rw[ZdD];omega),ZdB _ _ _ _ hj,if_pos (by omega),show n-1-(n-1-k)=k by omega]
  ·rw[if_neg he,ZdB _ _ _ _ hj]
   congr 1
   by_cases h1:n-k<=j/\j<n
   ·rw[if_pos h1,if_pos (by omega)]
   ·rw[if_neg h1,if_neg (by omega)]
 ·rw[List.getElem?_eq_none (by rw[List.length_set,ZdD];omega),List.getElem?_eq_none (by rw[ZdD];omega)]
theorem ZsG (u n:Nat)(hn:n<=8)(h:(le u).length=n)(i:Nat)(b:UInt8)(hb:(le u).reverse[i]? =some b):(nums .u8 (cellsK u n n))[0+i]? =some (.int .u8 b.toNat):=by
 have hi:i<n:=by
  rcases Nat.lt_or_ge i n with h1|h1
  ·exact h1
  ·rw[List.getElem?_eq_none (by simp;omega)] at hb;cases hb
 rw[Nat.zero_add,ZgR,ZdB _ _ _ _ (by omega),if_pos (by omega)]
 rw[List.getElem?_reverse (by omega),h,ZkS _ _ (by omega)] at hb
 simp only[Option.some.injEq] at hb
 subst hb
 simp
theorem pow256 (k:Nat):(2:Int) ^ (8*(k:Int)).toNat=((256 ^ k:Nat):Int):=by
 have h:(8*(k:Int)).toNat=8*k:=by omega
 rw[h,show(256:Nat)=2 ^ 8 from rfl,<-Nat.pow_mul]
 simp
theorem ZlJ (u n:Nat):cellsK u n 0=[0,0,0,0,0,0,0,0]:=by
 have:∀j,(if n-0<=j/\j<n then((u / 256 ^ (n-1-j) % 256:Nat):Int) else 0)=0:=fun j=>by rw[if_neg (by omega)]
 simp only[cellsK,this]
 rfl
theorem Zmy (u k:Nat):IntKind.u8.wrap ((u:Int) / 2 ^ (8*(k:Int)).toNat)=((u / 256 ^ k % 256:Nat):Int):=by
 rw[pow256,IntKind.wrap_u8]
 rfl
theorem Zjo (u:Nat)(h0:u≠0)(h:u<18446744073709551616)(w:World):Calls prog 128 [.int .u64 u].toArray w (Ret (.string (mag u)) w):=by
 have hbit:=Zrv (x:=u) h h0
 have hb64:=Zqe (x:=u) h
 obtain⟨n,hn⟩:∃n,n=(mag u).size:=⟨_,rfl⟩
 have hn8:n<=8:=by rw[hn,size8];exact h
 have hn1:1<=n:=by
  rcases Nat.eq_zero_or_pos n with h1|h1
  ·exfalso
   have:(mag u).size<=0:=by omega
   rw[ZaS] at this
   omega
  ·exact h1
 haveI:SpecC prog 185 [.int .u64 u] (.int .i64 (Lib.bitLen u)) True:=⟨fun _ w=>(Tryz.bits_Len64 u w (by omega) (by omega)).mono fun e w' ⟨h1,h2⟩=>by subst h2;exact⟨h1,Ext.refl _⟩⟩
 refine Zg Tryz.func128 rfl Tryz.ntmps128 rfl ?_
 repeat(refine wkA ?_;intros)
 refine Zl rfl (fun h=>?_) (fun h=>?_)
 ·have:=Wa h
  omega
 repeat(refine wkA ?_;intros)
 rename_i b
 have e:((Lib.bitLen u:Int)+7) / 8=(n:Int):=by omega
 refine Zm (S:=Nat) (fun k=>k<=n) (fun k=>[(0, .int .u64 u),(3, .int .i64 n),(12, .int .i64 n),(13, .int .i64 k),(4, .pointer (some ⟨b,0,none⟩))]) (fun k=>[⟨b,nums .u8 (cellsK u n k),292⟩]) (fun k=>n-k) 0 (Wm _)
  (by rw[e];repeat(first|exact ZQ|refine ZH rfl ?_)) (by rw[ZlJ];exact Wj _) (fun k hk=>?_)
 repeat(refine wkA ?_;intros)
 refine Zl rfl (fun h=>?_) (fun h=>?_)
 ·have hlt:k<n:=by have:=Wa h;omega
  repeat(refine wkA ?_;intros)
  refine jq (Zcu rfl rfl (by simp only[IntKind.bits];omega)) rfl rfl ?_
  repeat(refine wkA ?_;intros)
  refine Zpv rfl rfl (by rw[ZdD];omega) rfl ?_
  rw[Zmy,show 0+((n:Int)-1-(k:Int)).toNat*1=n-1-k by omega,Zlv u n k hn8 hlt]
  repeat(refine wkA ?_;intros)
  exact Zh (k+1) hlt (by repeat(first|exact ZQ|refine ZH rfl ?_)) (Wj _) (by omega)
 ·have hge:k=n:=by have:=Wb h;omega
  subst hge
  repeat(refine wkA ?_;intros)
  refine jq (Zj8 rfl rfl (by omega)) rfl rfl ?_
  refine jq (ZcL (bs:=(le u).reverse) rfl (by rw[List.length_reverse,<-Zc9];omega) (ZsG u k hn8 (by rw[<-Zc9];omega))) rfl rfl ?_
  repeat(refine wkA ?_;intros)
  exact rtT rfl rfl
theorem Zih (w:World):Calls prog 128 [.int .u64 0].toArray w (Ret (.string (mag 0)) w):=by
 refine Zg Tryz.func128 rfl Tryz.ntmps128 rfl ?_
 repeat(refine wkA ?_;intros)
 exact rtT rfl rfl
instance Zvv (u:Nat):SpecC prog 128 [.int .u64 u] (.string (mag u)) (u<18446744073709551616):=⟨fun h w=>by
 by_cases h0:u=0
 ·subst h0
  exact Zih w
 ·exact Zjo u h0 h w⟩
end Go.Vt
namespace Go.Vt
def vd :List Nat->Nat
 |[]=>0
 |d::l=>d+4294967296*vd l
def Dg (l:List Nat):Prop:=∀d∈l,d<4294967296
theorem ZbN (l m:List Nat):vd (l++m)=vd l+4294967296 ^ l.length*vd m:=by
 induction l with
 |nil=>simp[vd]
 |cons b l ih=>
  simp only[List.cons_append,vd,ih,List.length_cons,Nat.pow_succ,Nat.mul_add]
  rw[Nat.mul_comm (4294967296 ^ l.length) 4294967296,Nat.mul_assoc]
  omega
theorem Za8 (l:List Nat)(i:Nat)(h:i<=l.length):vd l=vd (l.take i)+4294967296 ^ i*vd (l.drop i):=by
 have:=ZbN (l.take i) (l.drop i)
 rw[List.take_append_drop,List.length_take,Nat.min_eq_left h] at this
 exact this
theorem ZbC {l:List Nat}(h:Dg l):vd l<4294967296 ^ l.length:=by
 induction l with
 |nil=>simp[vd]
 |cons b l ih=>
  have h1:=h b (.head _)
  have h2:=ih (fun d hd=>h d (.tail _ hd))
  simp only[vd,List.length_cons,Nat.pow_succ]
  omega
theorem ZbZ {l:List Nat}(h:Dg l)(i:Nat):Dg (l.take i):=fun d hd=>h d (List.mem_of_mem_take hd)
theorem Znk {l:List Nat}(h:Dg l)(i:Nat):Dg (l.drop i):=fun d hd=>h d (List.mem_of_mem_drop hd)
theorem Zb8 {l:List Nat}(h:Dg l)(i x:Nat)(hx:x<4294967296):Dg (l.set i x):=fun d hd=>by
 rcases List.mem_or_eq_of_mem_set hd with h1|h1
 ·exact h d h1
 ·omega
theorem Zi4 {l m:List Nat}(h:Dg l)(k:Dg m):Dg (l++m):=fun d hd=>by
 rcases List.mem_append.1 hd with h1|h1
 ·exact h d h1
 ·exact k d h1
theorem Zgf (n:Nat):Dg (List.replicate n 0):=fun d hd=>by have:=(List.mem_replicate.1 hd).2;omega
theorem Zgi (n:Nat):vd (List.replicate n 0)=0:=by
 induction n with
 |zero=>rfl
 |succ n ih=>simp only[List.replicate_succ,vd,ih]
theorem Zax {l:List Nat}(h:Dg l){i:Nat}(hi:i<l.length):l[i]<4294967296:=h _ (List.getElem_mem hi)
theorem Zbv :∀(l:List Nat)(i x:Nat)(h:i<l.length),vd (l.set i x)+l[i]*4294967296 ^ i=vd l+x*4294967296 ^ i
 |[],i,x,h=>by simp at h
 |b::l,0,x,h=>by simp[vd];omega
 |b::l,i+1,x,h=>by
  have ih:=Zbv l i x (by simpa using h)
  simp only[List.set_cons_succ,vd,List.getElem_cons_succ,Nat.pow_succ]
  have e1:l[i]'(by simpa using h)*(4294967296 ^ i*4294967296)=4294967296*(l[i]'(by simpa using h)*4294967296 ^ i):=by
   rw[<-Nat.mul_assoc,Nat.mul_comm]
  have e2:x*(4294967296 ^ i*4294967296)=4294967296*(x*4294967296 ^ i):=by rw[<-Nat.mul_assoc,Nat.mul_comm]
  rw[e1,e2]
  omega
theorem ZfV (l:List Nat)(i:Nat)(h:i<l.length):l[i]*4294967296 ^ i<=vd l:=by
 have:=Zbv l i 0 h
 omega
theorem ZjF :∀{l m:List Nat},Dg l->Dg m->l.length=m.length->vd l=vd m->l=m
 |[],[],_,_,_,_=>rfl
 |[],_::_,_,_,h,_=>by simp at h
 |_::_,[],_,_,h,_=>by simp at h
 |a::l,b::m,hl,hm,h,hv=>by
  have h1:=hl a (.head _)
  have h2:=hm b (.head _)
  simp only[vd] at hv
  have e:a=b:=by omega
  subst e
  congr 1
  exact ZjF (fun d hd=>hl d (.tail _ hd)) (fun d hd=>hm d (.tail _ hd)) (by simpa using h) (by omega)
def tl :List Nat->Nat
 |[]=>0
 |d::l=>if tl l=0 then(if d=0 then 0 else 1) else tl l+1
theorem Ztg :∀l:List Nat,tl l<=l.length
 |[]=>Nat.le_refl _
 |d::l=>by
  have:=Ztg l
  simp only[tl,List.length_cons]
  split
  ·split <;> omega
  ·omega
theorem Zmb (l:List Nat)(d:Nat):tl (l++[d])=if d=0 then tl l else l.length+1:=by
 induction l with
 |nil=>simp[tl]
 |cons b l ih=>
  simp only[List.cons_append,tl,ih,List.length_cons]
  by_cases h:d=0
  ·simp[h]
  ·simp[h]
theorem Zy5 (l:List Nat):vd (l.take (tl l))=vd l:=by
 induction l with
 |nil=>rfl
 |cons b l ih=>
  simp only[tl]
  split
  ·rename_i h
   rw[h] at ih
   simp only[List.take_zero,vd] at ih
   split
   ·rename_i hb
    subst hb
    simp[vd,<-ih]
   ·simp[vd,<-ih]
  ·simp[vd,ih]
theorem Zm7 (i:Nat):256 ^ i=4294967296 ^ (i / 4)*256 ^ (i % 4):=by
 have h:i=4*(i / 4)+i % 4:=by omega
 have e:(4294967296:Nat)=256 ^ 4:=by decide
 rw[e,<-Nat.pow_mul,<-Nat.pow_add,<-h]
theorem Zei (i:Nat):(4294967296:Nat) ^ i=256 ^ (4*i):=by
 have e:(4294967296:Nat)=256 ^ 4:=by decide
 rw[e,<-Nat.pow_mul]
theorem ZsD (l:List UInt8):mag (vle l.reverse)=⟨(Lib.trimLeftB l 0).toArray⟩:=by
 unfold Lib.trimLeftB
 induction l with
 |nil=>rfl
 |cons b l ih=>
  by_cases h:b=0
  ·subst h
   rw[List.dropWhile_cons_of_pos (by rfl),<-ih]
   congr 1
   simp[Zfj,vle]
  ·rw[List.dropWhile_cons_of_neg (by simpa using h)]
   refine Zlt (fun c hc=>?_)
   rw[List.reverse_cons,List.getLast?_append] at hc
   simp at hc
   rw[<-hc]
   exact h
end Go.Vt
namespace Go.Vt
open Go.RowKit Go.Proofs
open Go.Proofs.Tryz (prog)
section
def dgs :Nat->Nat->List Nat
 |_,0=>[]
 |a,m+1=>a % 4294967296::dgs (a / 4294967296) m
theorem ZaH :∀(m a:Nat),(dgs a m).length=m
 |0,_=>rfl
 |m+1,a=>by simp[dgs,ZaH m]
theorem Za3 :∀(m a:Nat),Dg (dgs a m)
 |0,_=>fun d hd=>by simp[dgs] at hd
 |m+1,a=>fun d hd=>by
  rcases List.mem_cons.1 hd with rfl|hd
  ·omega
  ·exact Za3 m _ d hd
theorem Zc2 :∀(m a:Nat),vd (dgs a m)=a % 4294967296 ^ m
 |0,a=>by simp[dgs,vd,Nat.mod_one]
 |m+1,a=>by
  rw[dgs,vd,Zc2 m,Nat.pow_succ,Nat.mul_comm (4294967296 ^ m),Nat.mod_mul]
theorem Zks {ds:List Nat}{m a:Nat}(h:Dg ds)(hl:ds.length=m)(hv:vd ds=a):ds=dgs a m:=by
 subst hv
 refine ZjF h (Za3 _ _) (by rw[ZaH,hl]) ?_
 rw[Zc2,Nat.mod_eq_of_lt]
 rw[<-hl]
 exact ZbC h
theorem Zrd (d b r:Nat)(hd:d<256 ^ r)(hb:b<256)(hr:r<4):bits .or .u32 (d:Int) (IntKind.u32.wrap ((b:Int)*2 ^ (8*(r:Int)).toNat))=((d+b*256 ^ r:Nat):Int):=by
 have hp:(256:Nat) ^ r<=16777216:=by
  have h3:(256:Nat) ^ r<=256 ^ 3:=Nat.pow_le_pow_right (by omega) (by omega)
  have h4:(256:Nat) ^ 3=16777216:=by decide
  omega
 have hbr:b*256 ^ r<=255*16777216:=Nat.mul_le_mul (by omega) hp
 have e0:(b:Int)*2 ^ (8*(r:Int)).toNat=((b*256 ^ r:Nat):Int):=by rw[pow256,Int.natCast_mul]
 rw[e0,IntWalk.u32_in _ (by omega)]
 unfold bits
 have h1:BitVec.ofInt IntKind.u32.bits ((d:Nat):Int)=BitVec.ofNat 32 d:=BitVec.ofInt_natCast _ _
 have h2:BitVec.ofInt IntKind.u32.bits ((b*256 ^ r:Nat):Int)=BitVec.ofNat 32 (b*256 ^ r):=BitVec.ofInt_natCast _ _
 have h256:(256:Nat) ^ r=2 ^ (8*r):=by rw[show(256:Nat)=2 ^ 8 from rfl,<-Nat.pow_mul]
 have h3:d|||(b*256 ^ r)=d+b*256 ^ r:=by
  rw[Nat.or_comm,h256,<-Nat.shiftLeft_eq,<-Nat.shiftLeft_add_eq_or_of_lt (by rw[<-h256];exact hd),Nat.add_comm]
 simp only[h1,h2]
 show IntKind.u32.wrap ((BitVec.ofNat 32 d|||BitVec.ofNat 32 (b*256 ^ r)).toNat:Int)=_
 rw[BitVec.toNat_or,BitVec.toNat_ofNat,BitVec.toNat_ofNat,Nat.mod_eq_of_lt (by omega),Nat.mod_eq_of_lt (by omega),h3,IntWalk.u32_in _ (by omega)]
theorem Ztu (a i:Nat)(h:i<(mag a).size):(mag a)[(((mag a).size:Int)-1-(i:Int)).toNat]? =some (UInt8.ofNat (a / 256 ^ i % 256)):=by
 have e:(((mag a).size:Int)-1-(i:Int)).toNat=(mag a).size-1-i:=by omega
 rw[e]
 have hl:(le a).length=(mag a).size:=(Zc9 a).symm
 have h1:(mag a)[(mag a).size-1-i]? =(le a).reverse[(mag a).size-1-i]? :=by
  have h2:∀j,(mag a)[j]? =(mag a).data[j]? :=fun j=>by
   by_cases hj:j<(mag a).size
   ·rw[getElem?_pos (mag a) j hj]
    exact(Array.getElem?_eq_getElem (xs:=(mag a).data) hj).symm
   ·rw[getElem?_neg (mag a) j hj]
    exact(Array.getElem?_eq_none (xs:=(mag a).data) (Nat.le_of_not_lt hj)).symm
  rw[h2]
  simp[mag]
 rw[h1,List.getElem?_reverse (by omega),hl,show(mag a).size-1-((mag a).size-1-i)=i by omega,ZkS _ _ (by omega)]
theorem ZlF {a i m:Nat}{ds:List Nat}(hi:i<(le a).length)(hm:i / 4<m)(hlen:ds.length=m)(hD:Dg ds)(hv:vd ds=vle ((le a).take i)):
  ∃h:i / 4<ds.length,ds[i / 4]<256 ^ (i % 4)/\(ds.set (i / 4) (ds[i / 4]+(a / 256 ^ i % 256)*256 ^ (i % 4))).length=m/\Dg (ds.set (i / 4) (ds[i / 4]+(a / 256 ^ i % 256)*256 ^ (i % 4)))/\
   vd (ds.set (i / 4) (ds[i / 4]+(a / 256 ^ i % 256)*256 ^ (i % 4)))=vle ((le a).take (i+1)):=by
 have hlt:i / 4<ds.length:=by omega
 have hvi:vle ((le a).take i)<256 ^ i:=by
  have:=Zf0 ((le a).take i)
  rwa [Wt,Nat.min_eq_left (by omega)] at this
 have h1:=ZfV ds (i / 4) hlt
 have hd:ds[i / 4]<256 ^ (i % 4):=by
  rcases Nat.lt_or_ge ds[i / 4] (256 ^ (i % 4)) with h|h
  ·exact h
  ·have h2:256 ^ (i % 4)*4294967296 ^ (i / 4)<=ds[i / 4]*4294967296 ^ (i / 4):=Nat.mul_le_mul_right _ h
   rw[Nat.mul_comm (256 ^ (i % 4)),<-Zm7] at h2
   omega
 have hb:a / 256 ^ i % 256<256:=Nat.mod_lt _ (by omega)
 have hp:(256:Nat) ^ (i % 4)<=16777216:=by
  have h3:(256:Nat) ^ (i % 4)<=256 ^ 3:=Nat.pow_le_pow_right (by omega) (by omega)
  have h4:(256:Nat) ^ 3=16777216:=by decide
  omega
 have hbr:(a / 256 ^ i % 256)*256 ^ (i % 4)<=255*16777216:=Nat.mul_le_mul (by omega) hp
 refine⟨hlt,hd,by rw[List.length_set];exact hlen,Zb8 hD _ _ (by omega), ?_⟩
 have hs:=Zbv ds (i / 4) (ds[i / 4]+(a / 256 ^ i % 256)*256 ^ (i % 4)) hlt
 rw[Nat.add_mul,Nat.mul_assoc,Nat.mul_comm (256 ^ (i % 4)),<-Zm7] at hs
 have ht:vle ((le a).take (i+1))=vle ((le a).take i)+256 ^ i*(a / 256 ^ i % 256):=by
  rw[Wn hi,Zfj,Wt,Nat.min_eq_left (by omega)]
  have hg:=ZkS i a hi
  rw[List.getElem?_eq_getElem hi] at hg
  simp only[Option.some.injEq] at hg
  rw[hg]
  simp[vle]
 rw[ht,<-hv,Nat.mul_comm (256 ^ i)]
 omega
theorem Za1 (a:Nat)(ha:(mag a).size<=1099511627776)(w:World):Calls prog 244 [.string (mag a)].toArray w (RetB (fun b=> .slice (some ⟨b,0,none⟩) (((mag a).size+3) / 4) (((mag a).size+3) / 4)) (dig .u32 (dgs a (((mag a).size+3) / 4))) 365 w):=by
 obtain⟨N,hN⟩:∃N,N=(mag a).size:=⟨_,rfl⟩
 obtain⟨m,hm⟩:∃m,m=(N+3) / 4:=⟨_,rfl⟩
 have hle:(le a).length=N:=by rw[hN,Zc9]
 rw[<-hN,<-hm]
 refine Zg Tryz.func244 rfl Tryz.ntmps244 rfl ?_
 repeat(refine wkA ?_;intros)
 have e:((N:Int)+3) / 4=(m:Int):=by omega
 simp only[<-hN]
 simp only[e]
 refine Zcd (k:= .u32) (B:=4) (m:=m) rfl rfl ⟨by omega,by omega⟩ rfl rfl ?_
 intro b
 repeat(refine wkA ?_;intros)
 simp only[<-hN]
 refine Zm (S:=Nat×List Nat) (fun s=>s.1<=N/\s.2.length=m/\Dg s.2/\vd s.2=vle ((le a).take s.1)) (fun s=>[(0, .string (mag a)),(3, .slice (some ⟨b,0,none⟩) m m),(12, .int .i64 N),(13, .int .i64 s.1)]) (fun s=>[⟨b,dig .u32 s.2,365⟩]) (fun s=>N-s.1) (0,List.replicate m 0)
  ⟨Wm _,by simp,Zgf m,by simp[Zgi,vle]⟩ (by repeat(first|exact ZQ|refine ZH rfl ?_)) (Wj _) (fun s hs=>?_)
 obtain⟨i,ds⟩:=s
 obtain⟨hi,hlen,hD,hv⟩:=hs
 simp only at hi hlen hD hv⊢
 repeat(refine wkA ?_;intros)
 refine Zl rfl (fun h=>?_) (fun h=>?_)
 ·have hlt:i<N:=by have:=Wa h;omega
  obtain⟨h4,hd,h5,h6,h7⟩:=ZlF (m:=m) (by omega) (by omega) hlen hD hv
  have hb:a / 256 ^ i % 256<256:=Nat.mod_lt _ (by omega)
  have hu:((UInt8.ofNat (a / 256 ^ i % 256)).toNat:Int)=((a / 256 ^ i % 256:Nat):Int):=by rw[toNat_ofNat]
  repeat(refine wkA ?_;intros)
  simp only[<-hN]
  repeat(refine wkA ?_;intros)
  refine jD 14 14 (h:=?_)
  (repeat(refine wkH ?_))
  refine hq (Zac rfl (show ds[0+((i:Int) / 4).toNat*1]? =some ds[i / 4] by rw[show 0+((i:Int) / 4).toNat*1=i / 4 by omega];simp[h4])) rfl rfl ?_
  (repeat(refine wkH ?_))
  have hg:(mag a)[((N:Int)-1-(i:Int)).toNat]? =some (UInt8.ofNat (a / 256 ^ i % 256)):=by
   have:=Ztu a i (by omega)
   rwa [<-hN] at this
  refine hq (ZcX rfl rfl (by omega) hg) rfl rfl ?_
  (repeat(refine wkH ?_))
  refine hq (Zef rfl rfl (by simp only[IntKind.bits];omega)) rfl rfl ?_
  refine hq (Zfo rfl rfl) rfl rfl ?_
  refine Zn (Zr ?_)
  have eo:=Zrd ds[i / 4] (a / 256 ^ i % 256) (i % 4) hd hb (by omega)
  rw[<-hu] at eo
  have ei:((i % 4:Nat):Int)=(i:Int) % 4:=by omega
  rw[ei] at eo
  rw[eo]
  repeat(refine wkA ?_;intros)
  refine ZaA rfl rfl (by omega) rfl ?_
  rw[show 0+((i:Int) / 4).toNat*1=i / 4 by omega]
  repeat(refine wkA ?_;intros)
  exact Zh (i+1,_) ⟨hlt,h5,h6,h7⟩ (by repeat(first|exact ZQ|refine ZH rfl ?_)) (Wj _) (by simp only;omega)
 ·have hge:i=N:=by have:=Wb h;omega
  subst hge
  repeat(refine wkA ?_;intros)
  have hfin:ds=dgs a m:=Zks hD hlen (by rw[hv,List.take_of_length_le (Nat.le_of_eq hle),Zj6])
  subst hfin
  exact Zy rfl rfl (fun w hw=>ZmY hw)
end
section
theorem ZoT (ds:List Nat)(l:Nat)(h:0<l)(hl:l<=ds.length):ds.take l=ds.take (l-1)++[ds[l-1]]:=by
 have:=Wn (l:=ds) (i:=l-1) (by omega)
 rwa [show l-1+1=l by omega] at this
theorem Zqi (b l c:Nat)(ds:List Nat)(fz:Nat×Nat)(hl:l<=ds.length)(hc:l<=c)(hc2:c<=1099511627776)(w:World)(hw:w.heap[b]? =some (.cells (dig .u32 ds) 365 fz)):
  Calls prog 295 [.slice (some ⟨b,0,none⟩) l c].toArray w (Ret (.slice (some ⟨b,0,none⟩) (tl (ds.take l)) c) w):=by
 refine Zg Tryz.func295 rfl Tryz.ntmps295 rfl ?_
 repeat(refine wkA ?_;intros)
 refine Zm (S:=Nat) (fun m=>m<=l/\tl (ds.take m)=tl (ds.take l)) (fun m=>[(0, .slice (some ⟨b,0,none⟩) m c)]) (fun _=>[]) (fun m=>m) l ⟨Wl _,rfl⟩ (by repeat(first|exact ZQ|refine ZH rfl ?_)) (Wj _) (fun m hm=>?_)
 obtain⟨hm1,hm2⟩:=hm
 rcases Nat.eq_zero_or_pos m with h0|h0
 ·subst h0
  repeat(refine wkA ?_;intros)
  rw[<-hm2]
  exact rtT rfl rfl
 ·have hd:decide ((0:Int)<(m:Int))=true:=by simp;omega
  have hlt:m-1<ds.length:=by omega
  have htk:=ZoT ds m h0 (by omega)
  repeat(refine wkA ?_;intros)
  simp only[hd]
  repeat(refine wkA ?_;intros)
  refine jq (ZfX rfl hw (show ds[0+((m:Int)-1).toNat*1]? =some ds[m-1] by rw[show 0+((m:Int)-1).toNat*1=m-1 by omega];simp[hlt])) rfl rfl ?_
  repeat(refine wkA ?_;intros)
  refine Zl rfl (fun h=>?_) (fun h=>?_)
  ·have hz:ds[m-1]=0:=by have:=Wa h;omega
   repeat(refine wkA ?_;intros)
   refine jq (ZgF rfl rfl (by omega)) rfl rfl ?_
   rw[show((m:Int)-1).toNat=m-1 by omega]
   repeat(refine wkA ?_;intros)
   refine Zh (m-1) ⟨by omega, ?_⟩ (by repeat(first|exact ZQ|refine ZH rfl ?_)) (Wj _) (by omega)
   rw[<-hm2,htk,Zmb,if_pos hz]
  ·have hz:¬ds[m-1]=0:=by have:=Wb h;omega
   repeat(refine wkA ?_;intros)
   have e:tl (ds.take l)=m:=by rw[<-hm2,htk,Zmb,if_neg hz,Wt];omega
   rw[e]
   exact rtT rfl rfl
def bytesR (M V q:Nat):List Nat:=(List.range M).map fun j=>if M-q<=j then V / 256 ^ (M-1-j) % 256 else 0
theorem ZcO (M V q:Nat):(bytesR M V q).length=M:=by simp[bytesR]
theorem ZcS (M V q j:Nat)(h:j<M):(bytesR M V q)[j]? =some (if M-q<=j then V / 256 ^ (M-1-j) % 256 else 0):=by simp[bytesR,h]
theorem ZlN (M V:Nat):bytesR M V 0=List.replicate M 0:=by
 apply List.ext_getElem?
 intro j
 by_cases h:j<M
 ·rw[ZcS _ _ _ _ h,if_neg (by omega)];simp[h]
 ·rw[List.getElem?_eq_none (by rw[ZcO];omega),List.getElem?_eq_none (by simp;omega)]
theorem Zly (M V q:Nat)(h:q<M):(bytesR M V q).set (M-1-q) (V / 256 ^ q % 256)=bytesR M V (q+1):=by
 apply List.ext_getElem?
 intro j
 by_cases hj:j<M
 ·rw[List.getElem?_set,ZcS _ _ _ _ hj]
  by_cases he:M-1-q=j
  ·subst he
   rw[if_pos rfl,if_pos (by rw[ZcO];omega),ZcS _ _ _ _ hj,if_pos (by omega),show M-1-(M-1-q)=q by omega]
  ·rw[if_neg he,ZcS _ _ _ _ hj]
   congr 1
   by_cases h1:M-q<=j
   ·rw[if_pos h1,if_pos (by omega)]
   ·rw[if_neg h1,if_neg (by omega)]
 ·rw[List.getElem?_eq_none (by rw[List.length_set,ZcO];omega),List.getElem?_eq_none (by rw[ZcO];omega)]
def bgs :Nat->Nat->List UInt8
 |_,0=>[]
 |a,m+1=>UInt8.ofNat (a % 256)::bgs (a / 256) m
theorem ZeR :∀(m a:Nat),(bgs a m).length=m
 |0,_=>rfl
 |m+1,a=>by simp[bgs,ZeR m]
theorem Zmj :∀(m a:Nat),vle (bgs a m)=a % 256 ^ m
 |0,a=>by simp[bgs,vle,Nat.mod_one]
 |m+1,a=>by
  rw[bgs,vle,Zmj m,Nat.pow_succ,Nat.mul_comm (256 ^ m),Nat.mod_mul,toNat_ofNat]
theorem ZmS :∀(m a i:Nat),i<m->(bgs a m)[i]? =some (UInt8.ofNat (a / 256 ^ i % 256))
 |0,_,i,h=>by omega
 |m+1,a,0,_=>by simp[bgs]
 |m+1,a,i+1,h=>by
  simp only[bgs,List.getElem?_cons_succ]
  rw[ZmS m _ i (by omega),Nat.div_div_eq_div_mul,Nat.pow_succ,Nat.mul_comm]
theorem Zpc (M V i:Nat)(u:UInt8)(hu:(bgs V M).reverse[i]? =some u):(dig .u8 (bytesR M V M))[0+i]? =some (.int .u8 u.toNat):=by
 have hi:i<M:=by
  rcases Nat.lt_or_ge i M with h1|h1
  ·exact h1
  ·rw[List.getElem?_eq_none (by rw[List.length_reverse,ZeR];exact h1)] at hu;cases hu
 rw[Nat.zero_add,ZhY,ZcS _ _ _ _ hi,if_pos (by omega)]
 rw[List.getElem?_reverse (by rw[ZeR];exact hi),ZeR,ZmS _ _ _ (by omega)] at hu
 simp only[Option.some.injEq] at hu
 subst hu
 simp
theorem ZeY (ds:List Nat)(hD:Dg ds)(i:Nat)(h:i<ds.length):vd ds / 4294967296 ^ i % 4294967296=ds[i]:=by
 rw[Za8 ds i (by omega),List.drop_eq_getElem_cons h,vd]
 have h1:=ZbC (ZbZ hD i)
 rw[Wt,Nat.min_eq_left (by omega)] at h1
 have h2:=Zax hD h
 have h3:0<4294967296 ^ i:=Nat.pow_pos (by omega)
 rw[Nat.add_mul_div_left _ _ h3,Nat.div_eq_of_lt h1]
 omega
theorem Zjm (ds:List Nat)(hD:Dg ds)(i k:Nat)(h:i<ds.length)(hk:k<4):ds[i] / 256 ^ k % 256=vd ds / 256 ^ (4*i+k) % 256:=by
 rw[<-ZeY ds hD i h,Nat.pow_add,<-Zei,<-Nat.div_div_eq_div_mul]
 generalize vd ds / 4294967296 ^ i=x
 have hk':k=0\/k=1\/k=2\/k=3:=by omega
 rcases hk' with rfl|rfl|rfl|rfl
 ·simp only[Nat.pow_zero,Nat.div_one];omega
 ·simp only[Nat.pow_one];omega
 ·rw[show(256:Nat) ^ 2=65536 by decide];omega
 ·rw[show(256:Nat) ^ 3=16777216 by decide];omega
theorem byte8 (x k:Nat):IntKind.u8.wrap ((x:Int) / 2 ^ (8*(k:Int)).toNat)=((x / 256 ^ k % 256:Nat):Int):=Zmy x k
theorem Zcm (b l c:Nat)(ds:List Nat)(fz:Nat×Nat)(hl:l<=ds.length)(hc:l<=c)(hc2:c<=1099511627776)(hD:Dg ds)(w:World)(hw:w.heap[b]? =some (.cells (dig .u32 ds) 365 fz)):
  Calls prog 245 [.slice (some ⟨b,0,none⟩) l c].toArray w (Ret (.string (mag (vd (ds.take l)))) w):=by
 obtain⟨n,hn⟩:∃n,n=tl (ds.take l):=⟨_,rfl⟩
 have hnl:n<=l:=by have:=Ztg (ds.take l);rw[Wt] at this;omega
 have htk:(ds.take l).take n=ds.take n:=by rw[List.take_take,Nat.min_eq_left hnl]
 have hV:vd (ds.take l)=vd (ds.take n):=by rw[<-htk,hn,Zy5]
 have hDn:=ZbZ hD n
 have hln:(ds.take n).length=n:=by rw[Wt];omega
 rw[hV]
 obtain⟨V,hVd⟩:∃V,V=vd (ds.take n):=⟨_,rfl⟩
 have hVlt:V<256 ^ (4*n):=by
  have:=ZbC hDn
  rw[hln,Zei,<-hVd] at this
  exact this
 rw[<-hVd]
 refine Zg Tryz.func245 rfl Tryz.ntmps245 rfl ?_
 repeat(refine wkA ?_;intros)
 refine jq (ZbU rfl (fun w' hw'=>Zqi b l c ds fz hl hc hc2 w' (by rw[hw'.ext.block b (Zq hw)];exact hw))) rfl rfl ?_
 rw[<-hn]
 repeat(refine wkA ?_;intros)
 refine Zl rfl (fun h=>?_) (fun h=>?_)
 ·have h0:n=0:=by have:=Wa h;omega
  subst h0
  have:V=0:=by rw[hVd];rfl
  subst this
  repeat(refine wkA ?_;intros)
  exact rtT rfl rfl
 ·have h0:0<n:=by have:=Wb h;omega
  repeat(refine wkA ?_;intros)
  refine Zcd (k:= .u8) (B:=1) (m:=4*n) rfl rfl ⟨by omega,by omega⟩ rfl rfl ?_
  intro bb
  repeat(refine wkA ?_;intros)
  refine Zm (S:=Nat) (fun i=>i<=n) (fun i=>[(0, .slice (some ⟨b,0,none⟩) n c),(16, .slice (some ⟨b,0,none⟩) n c),(3, .slice (some ⟨bb,0,none⟩) (4*n) (4*n)),(17, .int .i64 n),(18, .int .i64 i)]) (fun i=>[⟨bb,dig .u8 (bytesR (4*n) V (4*i)),5⟩]) (fun i=>n-i) 0 (Wm _)
   (by repeat(first|exact ZQ|refine ZH rfl ?_)) (by rw[Nat.mul_zero,ZlN];exact Wj _) (fun i hi=>?_)
  repeat(refine wkA ?_;intros)
  refine Zl rfl (fun h=>?_) (fun h=>?_)
  ·have hlt:i<n:=by have:=Wa h;omega
   have hid:i<ds.length:=by omega
   have hget:(ds.take n)[i]'(by omega)=ds[i]:=List.getElem_take
   have hdlt:=Zax hD hid
   repeat(refine wkA ?_;intros)
   refine jq (ZfX rfl hw (show ds[0+(i:Int).toNat*1]? =some ds[i] by rw[show 0+(i:Int).toNat*1=i by omega];simp[hid])) rfl rfl ?_
   repeat(refine wkA ?_;intros)
   refine Zm (S:=Nat) (fun k=>k<=4) (fun k=>[(0, .slice (some ⟨b,0,none⟩) n c),(16, .slice (some ⟨b,0,none⟩) n c),(3, .slice (some ⟨bb,0,none⟩) (4*n) (4*n)),(17, .int .i64 n),(18, .int .i64 i),(4, .int .i64 i),(5, .int .u32 (ds[i]:Nat)),(23, .int .i64 k)]) (fun k=>[⟨bb,dig .u8 (bytesR (4*n) V (4*i+k)),5⟩]) (fun k=>4-k) 0 (Wm _)
    (by repeat(first|exact ZQ|refine ZH rfl ?_)) (Wj _) (fun k hk=>?_)
   repeat(refine wkA ?_;intros)
   refine Zl rfl (fun h=>?_) (fun h=>?_)
   ·have hk4:k<4:=by have:=Wa h;omega
    have hby:ds[i] / 256 ^ k % 256=V / 256 ^ (4*i+k) % 256:=by
     rw[<-hget,Zjm (ds.take n) hDn i k (by omega) hk4,hVd]
    repeat(refine wkA ?_;intros)
    refine jq (Zcu rfl rfl (by simp only[IntKind.bits];omega)) rfl rfl ?_
    repeat(refine wkA ?_;intros)
    rw[byte8,hby]
    refine ZaA rfl rfl (by rw[ZcO];omega) rfl ?_
    rw[show 0+(((4*n:Nat):Int)-1-4*(i:Int)-(k:Int)).toNat*1=4*n-1-(4*i+k) by omega,Zly _ _ _ (by omega)]
    repeat(refine wkA ?_;intros)
    exact Zh (k+1) hk4 (by repeat(first|exact ZQ|refine ZH rfl ?_)) (Wj _) (by omega)
   ·have hk4:k=4:=by have:=Wb h;omega
    subst hk4
    repeat(refine wkA ?_;intros)
    exact Zh (i+1) hlt (by repeat(first|exact ZQ|refine ZH rfl ?_)) (Wj _) (by omega)
  ·have hge:i=n:=by have:=Wb h;omega
   subst hge
   repeat(refine wkA ?_;intros)
   refine jq (ZcL (bs:=(bgs V (4*i)).reverse) rfl (by rw[List.length_reverse,ZeR]) (Zpc (4*i) V)) rfl rfl ?_
   refine jq (ZbU rfl (fun w' _=>(Tryz.strings_TrimLeft_one _ 0 (by decide) w').mono fun e w2 ⟨h1,h2⟩=>(show Ret _ _ _ _ from⟨h1,by subst h2;exact Ext.refl _⟩))) rfl rfl ?_
   have hfin:mag V=⟨(Lib.trimLeftB (bgs V (4*i)).reverse 0).toArray⟩:=by
    rw[<-ZsD,List.reverse_reverse,Zmj,Nat.mod_eq_of_lt hVlt]
   rw[hfin]
   repeat(refine wkA ?_;intros)
   exact rtT rfl rfl
end
section
theorem p32 :(2:Int) ^ (32:Int).toNat=4294967296:=by decide
instance ZCy (x y:Nat):ExtC prog 243 [.int .u64 x, .int .u64 y, .int .u64 0] (.tuple #[.int .u64 (((x+y) % 18446744073709551616:Nat):Int), .int .u64 (((x+y) / 18446744073709551616:Nat):Int)]) (x<18446744073709551616/\y<18446744073709551616):=⟨fun h w=>by
 have:=run_add64 (P:=prog) x y 0 (by omega) (by omega) (by omega) (by omega) w
 show(callFunc _ #[.int .u64 x, .int .u64 y, .int .u64 0]).run prog w=_
 rw[run_callFunc_extern Tryz.func243 (by kernel_rfl) (by kernel_rfl) (by kernel_rfl) (e:=add64Entry) (by kernel_rfl),this]
 simp only[Result.andThen,Int.add_zero]
 rfl⟩
theorem Zkg {os ys:List Nat}{i c S y:Nat}(hi:i<os.length)(hD:Dg os)(hc:c<=1)(hy:y<4294967296)(hS:vd os+c*4294967296 ^ i+vd (ys.drop i)*4294967296 ^ i=S)(hdr:vd (ys.drop i)=y+4294967296*vd (ys.drop (i+1))):
  (c+os[i]+y) / 4294967296<=1/\Dg (os.set i ((c+os[i]+y) % 4294967296))/\
   vd (os.set i ((c+os[i]+y) % 4294967296))+(c+os[i]+y) / 4294967296*4294967296 ^ (i+1)+vd (ys.drop (i+1))*4294967296 ^ (i+1)=S:=by
 have h1:=Zax hD hi
 refine⟨by omega,Zb8 hD _ _ (Nat.mod_lt _ (by omega)), ?_⟩
 have hs:=Zbv os i ((c+os[i]+y) % 4294967296) hi
 have hb:=Nat.div_add_mod (c+os[i]+y) 4294967296
 generalize (c+os[i]+y) / 4294967296=q at*
 generalize (c+os[i]+y) % 4294967296=r at*
 rw[hdr] at hS
 rw[show(4294967296:Nat) ^ (i+1)=4294967296 ^ i*4294967296 from Nat.pow_succ _ _]
 generalize (4294967296:Nat) ^ i=p at*
 have e:(4294967296*q+r)*p=(c+os[i]+y)*p:=by rw[hb]
 rw[Nat.add_mul,Nat.add_mul,Nat.add_mul,Nat.mul_assoc] at e
 rw[Nat.add_mul,Nat.mul_assoc] at hS
 have e1:q*(p*4294967296)=4294967296*(q*p):=by rw[Nat.mul_comm p,<-Nat.mul_assoc,Nat.mul_comm q,Nat.mul_assoc]
 have e2:vd (ys.drop (i+1))*(p*4294967296)=4294967296*(vd (ys.drop (i+1))*p):=by rw[Nat.mul_comm p,<-Nat.mul_assoc,Nat.mul_comm (vd _) 4294967296,Nat.mul_assoc]
 rw[e1,e2]
 omega
theorem Zbe (a:Nat):vd (dgs a (((mag a).size+3) / 4))=a:=by
 rw[Zc2,Nat.mod_eq_of_lt]
 rw[Zei]
 have h1:a<256 ^ (mag a).size:=ZaS.1 (Wl _)
 exact Nat.lt_of_lt_of_le h1 (Nat.pow_le_pow_right (by omega) (by omega))
theorem ZeJ (ys:List Nat)(i:Nat)(h:i<ys.length):vd (ys.drop i)=ys[i]+4294967296*vd (ys.drop (i+1)):=by
 rw[List.drop_eq_getElem_cons h,vd]
theorem ZbY (ys:List Nat)(i:Nat)(h:ys.length<=i):vd (ys.drop i)=0:=by
 rw[List.drop_eq_nil_of_le h];rfl
theorem Zsz (a b:Nat)(ha:(mag a).size<=1099511627776)(hb:(mag b).size<=1099511627776)(w:World):Calls prog 195 [.string (mag a), .string (mag b)].toArray w (Ret (.string (mag (a+b))) w):=by
 refine Zg Tryz.func195 rfl Tryz.ntmps195 rfl ?_
 refine Zeq (Zfm ?_)
 repeat(first|refine sX rfl rfl ?_|(refine sS rfl rfl ?_ ?_;focus omega)|(refine sC rfl rfl ?_ ?_;focus(first|exact trivial|assumption|constructor <;> assumption|exact mb2 rfl rfl|exact mb4 rfl rfl rfl rfl))|(refine sA rfl rfl ?_;intro _)|refine sT rfl ?_|refine sW rfl rfl ?_|refine sK rfl rfl ?_|refine cY ?_|refine pkT rfl rfl rfl rfl ?_|refine pkF rfl rfl rfl rfl ?_)
 refine Zgh (S:=Unit) (fun _=>True) (fun _=>[(0, .string (mag a)),(1, .string (mag b))]) (fun _=>[]) ?_ (fun _ _=>?_)
 ·repeat(refine wkA ?_;intros)
  refine Zl rfl (fun h=>?_) (fun h=>?_)
  ·rw[Wq] at h
   have h1:=Zdl h.1
   have h2:=Zdl h.2
   have h3:=Zdm a
   have h4:=Zdm b
   rw[h1] at h3
   rw[h2] at h4
   simp only[h1,h2]
   repeat(first|(refine wkA ?_;intros)|(refine sC rfl rfl ?_ ?_;focus(exact⟨h3,h4⟩)))
   refine Zl rfl (fun h=>?_) (fun h=>?_)
   ·have h5:=Wa h
    have h6:(a+b) % 18446744073709551616=a+b:=by omega
    simp only[h6]
    repeat(first|(refine wkA ?_;intros)|(refine sC rfl rfl ?_ ?_;focus(omega)))
    exact rtT rfl rfl
   ·repeat(refine wkA ?_;intros)
    exact Zt () trivial (by repeat(first|exact ZQ|refine ZH rfl ?_)) (Wj _)
  ·repeat(refine wkA ?_;intros)
   exact Zt () trivial (by repeat(first|exact ZQ|refine ZH rfl ?_)) (Wj _)
 ·repeat(refine wkA ?_;intros)
  refine Zbm rfl (fun w' _=>Za1 a ha w') rfl rfl ?_
  intro b1
  repeat(refine wkA ?_;intros)
  refine Zbm rfl (fun w' _=>Za1 b hb w') rfl rfl ?_
  intro b2
  repeat(refine wkA ?_;intros)
  obtain⟨na,hna⟩:∃na,na=((mag a).size+3) / 4:=⟨_,rfl⟩
  obtain⟨nb,hnb⟩:∃nb,nb=((mag b).size+3) / 4:=⟨_,rfl⟩
  have hva:vd (dgs a na)=a:=by rw[hna,Zbe]
  have hvb:vd (dgs b nb)=b:=by rw[hnb,Zbe]
  have hla:=ZaH na a
  have hlb:=ZaH nb b
  have hDa:=Za3 na a
  have hDb:=Za3 nb b
  simp only[<-hna,<-hnb]
  generalize dgs a na=xa at*
  generalize dgs b nb=xb at*
  refine Zav (S:=Nat×List Nat×Nat×List Nat) (fun s=>vd s.2.1+vd s.2.2.2=a+b/\s.2.2.2.length<=s.2.1.length/\Dg s.2.1/\Dg s.2.2.2/\s.2.1.length<=549755813888) (fun s=>[(10, .slice (some ⟨s.1,0,none⟩) s.2.1.length s.2.1.length),(11, .slice (some ⟨s.2.2.1,0,none⟩) s.2.2.2.length s.2.2.2.length)]) (fun s=>[⟨s.2.2.1,dig .u32 s.2.2.2,365⟩,⟨s.1,dig .u32 s.2.1,365⟩]) ?_ (fun s hs=>?_)
  ·refine Zl rfl (fun h=>?_) (fun h=>?_)
   ·have h1:=Wa h
    repeat(refine wkA ?_;intros)
    exact Zuc (List.Perm.swap _ _ _) (Zt (b2,xb,b1,xa) ⟨by simp only;omega,by simp only;omega,hDb,hDa,by simp only;omega⟩ (by rw[<-hla,<-hlb];repeat(first|exact ZQ|refine ZH rfl ?_)) (Wj _))
   ·have h1:=Wb h
    repeat(refine wkA ?_;intros)
    exact Zt (b1,xa,b2,xb) ⟨by simp only;omega,by simp only;omega,hDa,hDb,by simp only;omega⟩ (by rw[<-hla,<-hlb];repeat(first|exact ZQ|refine ZH rfl ?_)) (Wj _)
  ·obtain⟨bx,xs,bY,ys⟩:=s
   obtain⟨hS,hle,hDx,hDy,hlim⟩:=hs
   simp only at hS hle hDx hDy hlim⊢
   repeat(refine wkA ?_;intros)
   refine Zcd (k:= .u32) (B:=4) (m:=xs.length+1) rfl rfl ⟨by omega,by omega⟩ rfl rfl ?_
   intro bo
   repeat(refine wkA ?_;intros)
   refine ZkK (k:= .u32) rfl rfl (by simp) (Wl _) rfl rfl ?_
   have e1:xs.take (min xs.length (xs.length+1))++(List.replicate (xs.length+1) 0).drop (min xs.length (xs.length+1))=xs++[0]:=by
    rw[Nat.min_eq_left (by omega),List.take_of_length_le (Wl _),List.drop_replicate,show xs.length+1-xs.length=1 by omega]
    rfl
   simp only[e1]
   have hvo:vd (xs++[0])=vd xs:=by rw[ZbN];simp[vd]
   repeat(refine wkA ?_;intros)
   refine Zm (S:=Nat×List Nat×Nat) (fun s=>s.1<=xs.length+1/\s.2.1.length=xs.length+1/\Dg s.2.1/\s.2.2<=1/\vd s.2.1+s.2.2*4294967296 ^ s.1+vd (ys.drop s.1)*4294967296 ^ s.1=a+b)
    (fun s=>[(11, .slice (some ⟨bY,0,none⟩) ys.length ys.length),(12, .slice (some ⟨bo,0,none⟩) (xs.length+1) (xs.length+1)),(13, .int .u64 s.2.2),(52, .int .i64 ((xs.length+1:Nat):Int)),(53, .int .i64 s.1)])
    (fun s=>[⟨bo,dig .u32 s.2.1,365⟩,⟨bY,dig .u32 ys,365⟩,⟨bx,dig .u32 xs,365⟩]) (fun s=>xs.length+1-s.1) (0,xs++[0],0)
    ⟨by simp,by simp,Zi4 hDx (fun d hd=>by simp at hd;omega),by simp,by simp[hvo,hS]⟩ (by repeat(first|exact ZQ|refine ZH rfl ?_)) (Wj _) (fun s hs=>?_)
   obtain⟨i,os,c⟩:=s
   obtain⟨hi,hlo,hDo,hc,hinv⟩:=hs
   simp only at hi hlo hDo hc hinv⊢
   repeat(refine wkA ?_;intros)
   refine Zl rfl (fun h=>?_) (fun h=>?_)
   ·have hlt:i<xs.length+1:=by have:=Wa h;omega
    have hio:i<os.length:=by omega
    have hdo:=Zax hDo hio
    repeat(refine wkA ?_;intros)
    refine jq (Zac rfl (show os[0+(i:Int).toNat*1]? =some os[i] by rw[show 0+(i:Int).toNat*1=i by omega];simp[hio])) rfl rfl ?_
    repeat(refine wkA ?_;intros)
    refine Zl rfl (fun h=>?_) (fun h=>?_)
    ·have hiy:i<ys.length:=by have:=Wa h;omega
     have hdy:=Zax hDy hiy
     obtain⟨g1,g2,g3⟩:=Zkg hio hDo hc hdy hinv (ZeJ ys i hiy)
     repeat(refine wkA ?_;intros)
     refine jq (Zac rfl (show ys[0+(i:Int).toNat*1]? =some ys[i] by rw[show 0+(i:Int).toNat*1=i by omega];simp[hiy])) rfl rfl ?_
     repeat(refine wkA ?_;intros)
     refine jq (Zcu rfl rfl (by decide)) rfl rfl ?_
     repeat(refine wkA ?_;intros)
     rw[p32,IntKind.wrap_u32,show((c:Int)+(os[i]:Nat)+(ys[i]:Nat)) % 4294967296=(((c+os[i]+ys[i]) % 4294967296:Nat):Int) by omega,show((c:Int)+(os[i]:Nat)+(ys[i]:Nat)) / 4294967296=(((c+os[i]+ys[i]) / 4294967296:Nat):Int) by omega]
     refine ZaA rfl rfl (by omega) rfl ?_
     rw[show 0+(i:Int).toNat*1=i by omega]
     repeat(refine wkA ?_;intros)
     exact Zh (i+1,_,_) ⟨hlt,by rw[List.length_set];exact hlo,g2,g1,g3⟩ (by repeat(first|exact ZQ|refine ZH rfl ?_)) (Wj _) (by simp only;omega)
    ·have hiy:ys.length<=i:=by have:=Wb h;omega
     obtain⟨g1,g2,g3⟩:=Zkg (y:=0) hio hDo hc (by omega) hinv (by rw[ZbY ys i hiy,ZbY ys (i+1) (by omega)])
     simp only[Nat.add_zero] at g1 g2 g3
     repeat(refine wkA ?_;intros)
     refine jq (Zcu rfl rfl (by decide)) rfl rfl ?_
     repeat(refine wkA ?_;intros)
     rw[p32,IntKind.wrap_u32,show((c:Int)+(os[i]:Nat)) % 4294967296=(((c+os[i]) % 4294967296:Nat):Int) by omega,show((c:Int)+(os[i]:Nat)) / 4294967296=(((c+os[i]) / 4294967296:Nat):Int) by omega]
     refine ZaA rfl rfl (by omega) rfl ?_
     rw[show 0+(i:Int).toNat*1=i by omega]
     repeat(refine wkA ?_;intros)
     exact Zh (i+1,_,_) ⟨hlt,by rw[List.length_set];exact hlo,g2,g1,g3⟩ (by repeat(first|exact ZQ|refine ZH rfl ?_)) (Wj _) (by simp only;omega)
   ·have hge:i=xs.length+1:=by have:=Wb h;omega
    subst hge
    repeat(refine wkA ?_;intros)
    have hfin:vd (os.take (xs.length+1))=a+b:=by
     rw[List.take_of_length_le (by omega)]
     rw[ZbY ys _ (by omega)] at hinv
     have h1:=ZbC hDx
     have h2:=ZbC hDy
     have h3:4294967296 ^ ys.length<=4294967296 ^ xs.length:=Nat.pow_le_pow_right (by omega) hle
     have h4:(4294967296:Nat) ^ (xs.length+1)=4294967296 ^ xs.length*4294967296:=Nat.pow_succ _ _
     have hc':c=0\/c=1:=by omega
     rcases hc' with rfl|rfl
     ·omega
     ·omega
    refine jq (ZbU rfl (fun w' hw'=>Zcm bo (xs.length+1) (xs.length+1) os (0,0) (by omega) (Wl _) (by omega) hDo w' (hw'.mem _ MemC.out).2)) rfl rfl ?_
    rw[hfin]
    repeat(refine wkA ?_;intros)
    exact rtT rfl rfl
end
end Go.Vt
