/- For any up to 12 units whose ends have up to 20 bytes, and for any decoded moving label (up to 8 stretches), Check returns OK or the first error. Conditions: none. (part 7 of 28.) Conditions: those that each statement names. -/
import Derived.Test.YtcgkgdgpdpihmaaGreatDoorProg
import Derived.Test.YtcgkgdgpdpihmaaGreatDoorKC3
import Derived.Test.YtcgkgdgpdpihmaaGreatDoorKC6
set_option linter.unusedSimpArgs false
set_option linter.unusedVariables false
set_option maxHeartbeats 2000000
set_option maxRecDepth 100000
namespace Go.Vt
open Go.RowKit Go.Proofs
open Go.Proofs.Tryz (prog)
section
def mg (n:Int):Nat:=(mag n.natAbs).size
abbrev LIM :Nat:=1099511627776
theorem ZgY {n:Int}{k:Nat}:mg n<=k↔n.natAbs<256 ^ k:=Z2
theorem Zfn (n:Int):mg (-n)=mg n:=by unfold mg;rw[Int.natAbs_neg]
theorem ZeA {m n:Int}(h:m.natAbs<=n.natAbs):mg m<=mg n:=Zbs h
theorem Zpv (n:Int):n.natAbs<256 ^ mg n:=ZgY.1 (Wl _)
theorem Zly {a b:Int}{k:Nat}(ha:mg a<=k)(hb:mg b<=k):mg (a+b)<=k+1:=by
 rw[ZgY] at ha hb⊢
 have h:=Int.natAbs_add_le a b
 rw[Nat.pow_succ]
 omega
theorem Zbz (a b:Int):mg (a*b)<=mg a+mg b:=by
 rw[ZgY,Int.natAbs_mul,Nat.pow_add]
 exact Nat.mul_lt_mul'' (Zpv a) (Zpv b)
theorem Zb0 {n:Int}{k:Nat}(h:n.natAbs<256 ^ k):mg n<=k:=ZgY.2 h
instance (priority :=high) ZzD (n:Int):LdC prog 4 (Zt (I n)) 0 (.bool (decide (n<0))):=⟨ZD⟩
instance (priority :=high) ZAw (n:Int):LdC prog 9 (Zt (I n)) 1 (.string (mag n.natAbs)):=⟨ZD⟩
instance ZA6 (x y:Int):SpecC prog 165 [.int .i64 x, .int .i64 y] (.int .i64 (Lib.compareInt x y)) True:=⟨fun _ w=>(Tryz.cmp_Compare_int x y w).mono fun e w' ⟨h1,h2⟩=>by subst h2;exact⟨h1,Ext.refl _⟩⟩
instance ZwT (a b:ByteArray):SpecC prog 228 [.string a, .string b] (.int .i64 (Lib.compareBytes a.data.toList b.data.toList)) True:=⟨fun _ w=>(Tryz.strings_Compare a b w).mono fun e w' ⟨h1,h2⟩=>by subst h2;exact⟨h1,Ext.refl _⟩⟩
theorem Zqv (b c:Nat)(x y:Int)(fz:Nat×Nat)(w:World)(hw:w.heap[b]? =some (.cells (nums .i64 [x,y]) 3 fz)):
  Calls prog 164 [.slice (some ⟨b,0,none⟩) 2 c].toArray w (Ret (.int .i64 (if x≠0 then x else y)) w):=by
 refine Zb Tryz.func164 rfl Tryz.ntmps164 rfl ?_
 repeat(refine wkA ?_;intros)
 refine Zq (S:=Nat) (fun k=>k<=2/\(1<=k->x=0)/\(2<=k->y=0)) (fun k=>[(3, .int .i64 0),(6, .slice (some ⟨b,0,none⟩) 2 c),(7, .int .i64 2),(8, .int .i64 k)]) (fun _=>[]) (fun k=>2-k) 0 ⟨by omega,by omega,by omega⟩
  (by repeat(first|exact Zz|refine Zu rfl ?_)) (Wj _) (fun k hk=>?_)
 obtain⟨hk2,h1,h2⟩:=hk
 repeat(refine wkA ?_;intros)
 refine Zk rfl (fun h=>?_) (fun h=>?_)
 ·have hlt:k<2:=by have:=Wa h;omega
  repeat(refine wkA ?_;intros)
  rcases(by omega:k=0\/k=1) with rfl|rfl
  ·refine jq (ZeQ rfl hw (ZD (v:= .int .i64 x) (by kernel_rfl) rfl)) rfl rfl ?_
   repeat(refine wkA ?_;intros)
   refine Zk rfl (fun h=>?_) (fun h=>?_)
   ·have hx:x≠0:=by simpa using h
    rw[if_pos hx]
    repeat(refine wkA ?_;intros)
    exact rtT rfl rfl
   ·have hx:x=0:=by simpa using h
    repeat(refine wkA ?_;intros)
    exact Zg 1 ⟨by omega,fun _=>hx,by omega⟩ (by repeat(first|exact Zz|refine Zu rfl ?_)) (Wj _) (by omega)
  ·refine jq (ZeQ rfl hw (ZD (v:= .int .i64 y) (by kernel_rfl) rfl)) rfl rfl ?_
   have hx:=h1 (by omega)
   repeat(refine wkA ?_;intros)
   refine Zk rfl (fun h=>?_) (fun h=>?_)
   ·rw[if_neg (by simp[hx])]
    repeat(refine wkA ?_;intros)
    exact rtT rfl rfl
   ·have hy:y=0:=by simpa using h
    repeat(refine wkA ?_;intros)
    exact Zg 2 ⟨by omega,fun _=>hx,fun _=>hy⟩ (by repeat(first|exact Zz|refine Zu rfl ?_)) (Wj _) (by omega)
 ·have hge:k=2:=by have:=Wb h;omega
  subst hge
  have hx:=h1 (by omega)
  have hy:=h2 (by omega)
  subst hx
  subst hy
  repeat(refine wkA ?_;intros)
  exact rtT rfl rfl
theorem ZrV (x y:Int)(w:World):(Instr.buildSlice 65 2 [(0, .int .i64 x),(1, .int .i64 y)].toArray).run prog w= .ok (.slice (some ⟨w.heap.size,0,none⟩) 2 2) (w.alloc (.cells (nums .i64 [x,y]) 3)):=by kernel_rfl
instance Zy8 (x y:Int):BsC prog 65 2 [(0, .int .i64 x),(1, .int .i64 y)] (nums .i64 [x,y]) 3:=⟨ZrV x y⟩
instance Zvm (a b:Nat):SpecC prog 208 [.string (mag a), .string (mag b)] (.int .i64 (Lib.compareInt a b)) True:=⟨fun _ w=>by
 refine Zb Tryz.func208 rfl Tryz.ntmps208 rfl ?_
 repeat(refine wkA ?_;intros)
 refine Zgu rfl rfl rfl ?_
 intro b1
 repeat(refine wkA ?_;intros)
 refine jq (Za8 rfl (fun w' hw'=>Zqv b1 2 _ _ (0,0) w' (hw'.mem _ MemC.out).2)) rfl rfl ?_
 rw[ZqW a b]
 repeat(refine wkA ?_;intros)
 exact rtT rfl rfl⟩
instance ZBt (a b:Nat):SpecC prog 207 [.string (mag a), .string (mag b)] (.string (mag (a+b))) ((mag a).size<=LIM/\(mag b).size<=LIM):=⟨fun h w=>ZoB a b h.1 h.2 w⟩
instance ZBC (a b:Nat):SpecC prog 209 [.string (mag a), .string (mag b)] (.string (mag (a-b))) ((mag a).size<=LIM/\b<=a):=⟨fun h w=>ZnZ a b h.1 h.2 w⟩
instance ZA0 (a b:Nat):SpecC prog 210 [.string (mag a), .string (mag b)] (.string (mag (a*b))) ((mag a).size<=LIM/\(mag b).size<=LIM):=⟨fun h w=>Zpb a b h.1 h.2 w⟩
theorem Zeu {a b:Int}:0<=Lib.compareInt a b↔b<=a:=by unfold Lib.compareInt;by_cases h1:a<b <;> by_cases h2:a>b <;> simp[h1,h2] <;> omega
theorem Zju {a b:Int}:Lib.compareInt a b<0↔a<b:=by unfold Lib.compareInt;by_cases h1:a<b <;> by_cases h2:a>b <;> simp[h1,h2] <;> omega
instance ZBZ (a b:Int):SpecC prog 175 [vI a,vI b] (vI (a+b)) (mg a<=LIM/\mg b<=LIM):=⟨fun hp w=>by
 refine Zb Tryz.func175 rfl Tryz.ntmps175 rfl ?_
 repeat(refine wkA ?_;intros)
 refine Zk rfl (fun h=>?_) (fun h=>?_)
 ·have h1:decide (a<0)=decide (b<0):=by simpa using h
  repeat(refine wkA ?_;intros)
  (refine jD 8 8 (h:=?_);(repeat(first|refine wkH ?_|(refine tC rfl rfl ?_ ?_;focus(first|exact trivial|exact hp))));refine Zo ?_;(repeat(refine Z0 ?_;intro _));refine Zs ?_)
  rw[show sg (decide (a<0)) (a.natAbs+b.natAbs)=a+b by unfold sg;by_cases h2:a<0 <;> simp[h2] at h1⊢ <;> omega]
  repeat(refine wkA ?_;intros)
  exact rtC rfl rfl
 ·have h1:decide (a<0)≠decide (b<0):=by simpa using h
  repeat(refine wkA ?_;intros)
  refine Zk rfl (fun h=>?_) (fun h=>?_)
  ·have h2:=Zeu.1 (Wa h)
   have h3:b.natAbs<=a.natAbs:=by omega
   repeat(refine wkA ?_;intros)
   (refine jD 8 8 (h:=?_);(repeat(first|refine wkH ?_|(refine tC rfl rfl ?_ ?_;focus(first|exact trivial|exact⟨hp.1,h3⟩))));refine Zo ?_;(repeat(refine Z0 ?_;intro _));refine Zs ?_)
   rw[show sg (decide (a<0)) (a.natAbs-b.natAbs)=a+b by unfold sg;by_cases h2:a<0 <;> simp[h2] at h1⊢ <;> omega]
   repeat(refine wkA ?_;intros)
   exact rtC rfl rfl
  ·have h2:¬(b.natAbs:Int)<=(a.natAbs:Int):=fun h2=>Wb h (Zeu.2 h2)
   have h3:a.natAbs<=b.natAbs:=by omega
   repeat(refine wkA ?_;intros)
   (refine jD 8 8 (h:=?_);(repeat(first|refine wkH ?_|(refine tC rfl rfl ?_ ?_;focus(first|exact trivial|exact⟨hp.2,h3⟩))));refine Zo ?_;(repeat(refine Z0 ?_;intro _));refine Zs ?_)
   rw[show sg (decide (b<0)) (b.natAbs-a.natAbs)=a+b by unfold sg;by_cases h2:b<0 <;> simp[h2] at h1⊢ <;> omega]
   repeat(refine wkA ?_;intros)
   exact rtC rfl rfl⟩
instance ZBW (a b:Int):SpecC prog 176 [vI a,vI b] (vI (a*b)) (mg a<=LIM/\mg b<=LIM):=⟨fun hp w=>by
 refine Zb Tryz.func176 rfl Tryz.ntmps176 rfl ?_
 repeat(refine wkA ?_;intros)
 (refine jD 11 11 (h:=?_);(repeat(first|refine wkH ?_|(refine tC rfl rfl ?_ ?_;focus(first|trivial|exact hp))));refine Zo ?_;(repeat(refine Z0 ?_;intro _));refine Zs ?_)
 rw[show sg (decide (a<0) != decide (b<0)) (a.natAbs*b.natAbs)=a*b by
  unfold sg
  rw[<-Int.natAbs_mul]
  rcases Int.lt_or_le a 0 with h1|h1 <;> rcases Int.lt_or_le b 0 with h2|h2
  ·have:=Int.mul_pos_of_neg_of_neg h1 h2
   simp[h1,h2]
   omega
  ·have h3:¬b<0:=by omega
   have:=Int.mul_nonpos_of_nonpos_of_nonneg (Int.le_of_lt h1) h2
   simp[h1,h3]
   omega
  ·have h3:¬a<0:=by omega
   have:=Int.mul_nonpos_of_nonneg_of_nonpos h1 (Int.le_of_lt h2)
   simp[h2,h3]
   omega
  ·have h3:¬a<0:=by omega
   have h4:¬b<0:=by omega
   have:=Int.mul_nonneg h1 h2
   simp[h3,h4]
   omega]
 repeat(refine wkA ?_;intros)
 exact rtC rfl rfl⟩
instance ZvN (a:Int):SpecC prog 171 [vI a] (vI (-a)) True:=⟨fun _ w=>by
 refine Zb Tryz.func171 rfl Tryz.ntmps171 rfl ?_
 repeat(refine wkA ?_;intros)
 rw[show sg (!decide (a<0)) a.natAbs= -a by unfold sg;by_cases h:a<0 <;> simp[h] <;> omega]
 repeat(refine wkA ?_;intros)
 exact rtC rfl rfl⟩
theorem Zjw {b:Int}(h:0<=b):0<=b.sign:=by
 rcases(by omega:b=0\/0<b) with rfl|h
 ·decide
 ·rw[Int.sign_eq_one_of_pos h];decide
instance ZzG (a:Int):SpecC prog 127 [vI a] (.int .i64 a.sign) True:=⟨fun _ w=>by
 refine Zb Tryz.func127 rfl Tryz.ntmps127 rfl ?_
 repeat(refine wkA ?_;intros)
 refine Zk rfl (fun h=>?_) (fun h=>?_)
 ·have h1:=Wa h
  have h2:a=0:=by have:=Z7.1 h1;omega
  subst h2
  repeat(refine wkA ?_;intros)
  exact rtT rfl rfl
 ·have h1:¬a.natAbs=0:=fun h1=>Wb h (Z7.2 h1)
  repeat(refine wkA ?_;intros)
  refine Zk rfl (fun h=>?_) (fun h=>?_)
  ·have h2:a<0:=Wa h
   rw[Int.sign_eq_neg_one_of_neg h2]
   repeat(refine wkA ?_;intros)
   exact rtT rfl rfl
  ·have h2:¬a<0:=Wb h
   rw[Int.sign_eq_one_of_pos (by omega)]
   repeat(refine wkA ?_;intros)
   exact rtT rfl rfl⟩
instance Ztz (a b:Int):SpecC prog 203 [vI a,vI b] (.int .i64 (Lib.compareInt a b)) True:=⟨fun _ w=>by
 refine Zb Tryz.func203 rfl Tryz.ntmps203 rfl ?_
 repeat(refine wkA ?_;intros)
 refine Zk rfl (fun h=>?_) (fun h=>?_)
 ·have h1:decide (a<0)≠decide (b<0):=by simpa using h
  repeat(refine wkA ?_;intros)
  (refine jD 5 5 (h:=?_);(repeat(refine wkH ?_));refine Zo ?_;(repeat(refine Z0 ?_;intro _));refine Zs ?_)
  rw[show Lib.compareInt a.sign b.sign=Lib.compareInt a b by
   rcases Int.lt_or_le a 0 with h2|h2 <;> rcases Int.lt_or_le b 0 with h3|h3
   ·simp[h2,h3] at h1
   ·rw[Int.sign_eq_neg_one_of_neg h2]
    have:=Zjw h3
    unfold Lib.compareInt
    rw[if_pos (by omega),if_pos (by omega)]
   ·rw[Int.sign_eq_neg_one_of_neg h3]
    have:=Zjw h2
    unfold Lib.compareInt
    rw[if_neg (by omega),if_pos (by omega),if_neg (by omega),if_pos (by omega)]
   ·have h4:¬a<0:=by omega
    have h5:¬b<0:=by omega
    simp[h4,h5] at h1]
  repeat(refine wkA ?_;intros)
  exact rtT rfl rfl
 ·have h1:decide (a<0)=decide (b<0):=by simpa using h
  repeat(refine wkA ?_;intros)
  refine Zk rfl (fun h=>?_) (fun h=>?_)
  ·have h2:a<0:=Wa h
   have h3:b<0:=by simpa [h2] using h1.symm
   repeat(refine wkA ?_;intros)
   rw[show IntKind.i64.wrap (-Lib.compareInt a.natAbs b.natAbs)=Lib.compareInt a b by
    rw[IntWalk.i64_in _ (by unfold Lib.compareInt;by_cases h1:(a.natAbs:Int)<b.natAbs <;> by_cases h2:(a.natAbs:Int)>b.natAbs <;> simp[h1,h2])]
    unfold Lib.compareInt
    by_cases h4:a<b
    ·rw[if_neg (by omega),if_pos (by omega),if_pos h4]
    ·by_cases h5:a>b
     ·rw[if_pos (by omega),if_neg h4,if_pos h5];rfl
     ·rw[if_neg (by omega),if_neg (by omega),if_neg h4,if_neg h5];rfl]
   repeat(refine wkA ?_;intros)
   exact rtT rfl rfl
  ·have h2:¬a<0:=Wb h
   have h3:¬b<0:=by simpa [h2] using h1.symm
   repeat(refine wkA ?_;intros)
   rw[show Lib.compareInt a.natAbs b.natAbs=Lib.compareInt a b by rw[Int.natAbs_of_nonneg (by omega),Int.natAbs_of_nonneg (by omega)]]
   exact rtT rfl rfl⟩
theorem ZhL (n:Int)(h0: -9223372036854775808<=n)(h1:n<=9223372036854775807)(w:World):Calls prog 178 [.int .i64 n].toArray w (Ret (vI n) w):=by
 refine Zb Tryz.func178 rfl Tryz.ntmps178 rfl ?_
 have e1:0<=n->IntKind.u64.wrap n=((n.natAbs:Nat):Int):=fun h=>by rw[IntWalk.u64_in _ (by omega)];omega
 have e2:n<0->IntKind.u64.wrap (-(IntKind.u64.wrap n))=((n.natAbs:Nat):Int):=fun h=>by
  have ha:IntKind.u64.wrap n=n+18446744073709551616:=by rw[IntKind.wrap_u64];omega
  rw[ha,IntKind.wrap_u64]
  omega
 have e3:sg (decide (n<0)) n.natAbs=n:=by unfold sg;by_cases h:n<0 <;> simp[h] <;> omega
 repeat(refine wkA ?_;intros)
 refine Zk rfl (fun h=>?_) (fun h=>?_)
 ·have hn:=Wa h
  repeat(refine wkA ?_;intros)
  rw[e2 hn]
  repeat(first|(refine wkA ?_;intros)|(refine sC rfl rfl ?_ ?_;focus(first|exact trivial|omega)))
  rw[e3]
  repeat(refine wkA ?_;intros)
  exact rtC rfl rfl
 ·have hn:=Wb h
  repeat(refine wkA ?_;intros)
  rw[e1 (by omega)]
  repeat(first|(refine wkA ?_;intros)|(refine sC rfl rfl ?_ ?_;focus(first|exact trivial|omega)))
  rw[e3]
  repeat(refine wkA ?_;intros)
  exact rtC rfl rfl
instance ZuN (n:Int):SpecC prog 178 [.int .i64 n] (vI n) (-9223372036854775808<=n/\n<=9223372036854775807):=⟨fun h w=>ZhL n h.1 h.2 w⟩
end
section
theorem Zez (r x:Nat)(hr:r<4294967296)(hx:x<4294967296):bits .or .u64 (IntKind.u64.wrap ((r:Int)*2 ^ (32:Int).toNat)) (x:Int)=((r*4294967296+x:Nat):Int):=by
 rw[p32,IntWalk.u64_in _ (by omega)]
 unfold bits
 rw[show(r:Int)*4294967296=((r*4294967296:Nat):Int) by omega]
 have h1:BitVec.ofInt IntKind.u64.bits ((r*4294967296:Nat):Int)=BitVec.ofNat 64 (r*4294967296):=BitVec.ofInt_natCast _ _
 have h2:BitVec.ofInt IntKind.u64.bits ((x:Nat):Int)=BitVec.ofNat 64 x:=BitVec.ofInt_natCast _ _
 have h3:(r*4294967296)|||x=r*4294967296+x:=by
  rw[show r*4294967296=r<<<32 by rw[Nat.shiftLeft_eq]]
  rw[Nat.shiftLeft_add_eq_or_of_lt (by omega:x<2 ^ 32)]
 simp only[h1,h2]
 show IntKind.u64.wrap ((BitVec.ofNat 64 (r*4294967296)|||BitVec.ofNat 64 x).toNat:Int)=_
 rw[BitVec.toNat_or,BitVec.toNat_ofNat,BitVec.toNat_ofNat,Nat.mod_eq_of_lt (by omega),Nat.mod_eq_of_lt (by omega),h3,IntWalk.u64_in _ (by omega)]
theorem Zrw (o d s:Nat)(ho:o<2 ^ s)(hs:s<32):bits .or .u32 (o:Int) (IntKind.u32.wrap ((d*2 ^ s:Nat):Int))=((o+d*2 ^ s % 4294967296:Nat):Int):=by
 have hp:(2:Nat) ^ s<=2147483648:=by
  have h3:(2:Nat) ^ s<=2 ^ 31:=Nat.pow_le_pow_right (by omega) (by omega)
  omega
 have e0:d*2 ^ s % 4294967296=(d % 2 ^ (32-s))<<<s:=by
  rw[Nat.shiftLeft_eq,show(4294967296:Nat)=2 ^ (32-s)*2 ^ s by rw[<-Nat.pow_add,show 32-s+s=32 by omega]]
  exact Nat.mul_mod_mul_right _ _ _
 have hlt:d*2 ^ s % 4294967296<4294967296:=Nat.mod_lt _ (by omega)
 rw[IntKind.wrap_u32,show((d*2 ^ s:Nat):Int) % 4294967296=((d*2 ^ s % 4294967296:Nat):Int) by omega]
 unfold bits
 have h1:BitVec.ofInt IntKind.u32.bits ((o:Nat):Int)=BitVec.ofNat 32 o:=BitVec.ofInt_natCast _ _
 have h2:BitVec.ofInt IntKind.u32.bits ((d*2 ^ s % 4294967296:Nat):Int)=BitVec.ofNat 32 (d*2 ^ s % 4294967296):=BitVec.ofInt_natCast _ _
 have h3:o|||(d*2 ^ s % 4294967296)=o+d*2 ^ s % 4294967296:=by
  rw[e0,Nat.or_comm,<-Nat.shiftLeft_add_eq_or_of_lt ho,Nat.add_comm]
 have h4:o+d*2 ^ s % 4294967296<4294967296:=by
  rw[<-h3]
  exact Nat.or_lt_two_pow (n:=32) (by omega) (by omega)
 simp only[h1,h2]
 show IntKind.u32.wrap ((BitVec.ofNat 32 o|||BitVec.ofNat 32 (d*2 ^ s % 4294967296)).toNat:Int)=_
 rw[BitVec.toNat_or,BitVec.toNat_ofNat,BitVec.toNat_ofNat,Nat.mod_eq_of_lt (by omega),Nat.mod_eq_of_lt (by omega),h3,IntWalk.u32_in _ (by omega)]
theorem ZkW {V y r x:Nat}(hr:r<y)(hx:x<4294967296)(hy:y<4294967296):(r*4294967296+x) / y<4294967296/\(r*4294967296+x) % y<y/\x+4294967296*(V*y+r)=((r*4294967296+x) / y+4294967296*V)*y+(r*4294967296+x) % y:=by
 refine⟨?_,Nat.mod_lt _ (by omega), ?_⟩
 ·rw[Nat.div_lt_iff_lt_mul (by omega)]
  have h1:(r+1)*4294967296<=y*4294967296:=Nat.mul_le_mul_right _ hr
  rw[Nat.mul_comm 4294967296 y]
  omega
 ·have h:=Nat.div_add_mod (r*4294967296+x) y
  generalize (r*4294967296+x) / y=q at*
  generalize (r*4294967296+x) % y=p at*
  rw[Nat.add_mul,Nat.mul_add,Nat.mul_comm q y,Nat.mul_assoc]
  omega
theorem Zlk (b c:Nat)(xs:List Nat)(y:Nat)(hD:Dg xs)(hy0:0<y)(hy:y<4294967296)(hx:xs.length<=1099511627776)(w0 w:World)(M:List Blk)(hw:Own w0 (⟨b,dig .u32 xs,230⟩::M) w):
  Calls prog 242 [.slice (some ⟨b,0,none⟩) xs.length c, .int .u32 y].toArray w (fun e w'=>∃qs,qs.length=xs.length/\Dg qs/\vd qs=vd xs / y/\RetO (.int .u32 ((vd xs % y:Nat):Int)) w0 (⟨b,dig .u32 qs,230⟩::M) e w'):=by
 refine ZrG hw Tryz.func242 rfl Tryz.ntmps242 rfl ?_
 repeat(refine wkA ?_;intros)
 refine Zq (S:=Nat×List Nat×Nat) (fun s=>s.1<=xs.length/\s.2.1.length=xs.length/\Dg s.2.1/\s.2.2<y/\s.2.1.take s.1=xs.take s.1/\vd (xs.drop s.1)=vd (s.2.1.drop s.1)*y+s.2.2)
  (fun s=>[(0, .slice (some ⟨b,0,none⟩) xs.length c),(1, .int .u32 y),(5, .int .u64 s.2.2),(6, .int .i64 ((s.1:Int)-1))]) (fun s=>⟨b,dig .u32 s.2.1,230⟩::M) (fun s=>s.1) (xs.length,xs,0)
  ⟨Wl _,rfl,hD,hy0,rfl,by simp[vd]⟩ (by repeat(first|exact Zz|refine Zu rfl ?_)) (Wj _) (fun s hs=>?_)
 obtain⟨k,qs,r⟩:=s
 obtain⟨hk,hl,hDq,hr,ht,hv⟩:=hs
 simp only at hk hl hDq hr ht hv⊢
 repeat(refine wkA ?_;intros)
 refine Zk rfl (fun h=>?_) (fun h=>?_)
 ·have hpos:0<k:=by have:=Wa h;omega
  obtain⟨i,rfl⟩:∃i,k=i+1:=⟨k-1,by omega⟩
  have hiq:i<qs.length:=by omega
  have hix:i<xs.length:=by omega
  have hdq:=ZZ hDq hiq
  have hqx:qs[i]=xs[i]:=by
   have h1:(qs.take (i+1))[i]? =(xs.take (i+1))[i]? :=by rw[ht]
   simpa [hiq,hix] using h1
  obtain⟨g1,g2,g3⟩:=ZkW (V:=vd (qs.drop (i+1))) hr hdq hy
  repeat(refine wkA ?_;intros)
  refine jq (Zco rfl rfl (by decide)) rfl rfl ?_
  repeat(refine wkA ?_;intros)
  refine jq (ZM rfl (show qs[0+(((i+1:Nat):Int)-1).toNat*1]? =some qs[i] by rw[show 0+(((i+1:Nat):Int)-1).toNat*1=i by omega];simp[hiq])) rfl rfl ?_
  repeat(refine wkA ?_;intros)
  refine jq (ZdN rfl rfl) rfl rfl ?_
  rw[Zez _ _ (by omega) hdq]
  repeat(refine wkA ?_;intros)
  obtain⟨Z,hZ⟩:∃Z,Z=r*4294967296+qs[i]:=⟨_,rfl⟩
  rw[<-hZ] at g1 g2 g3⊢
  have hZ64:Z<18446744073709551616:=by omega
  generalize hQ:Z / y=q at g1 g3
  generalize hR:Z % y=p at g2 g3
  have hq1:((Z:Nat):Int) / (y:Int)=(q:Int):=by rw[<-hQ];rfl
  have hr1:((Z:Nat):Int) % (y:Int)=(p:Int):=by rw[<-hR];rfl
  (refine Zaq [0,1,2,3,4,5,6,7,8,9,10,11] [12,13] ([]) (h:=?_);refine wkI ?_)
  (repeat(refine wkH ?_))
  refine hq (ZfY rfl rfl ?_) rfl rfl ?_
  ·omega
  rw[hq1]
  (repeat(refine wkH ?_))
  refine hq (Zeg rfl rfl ?_) rfl rfl ?_
  ·omega
  rw[hr1]
  (repeat(refine wkH ?_))
  refine Zo ?_
  refine ZmN rfl rfl (by omega) rfl (Wk _) ?_
  rw[show 0+(((i+1:Nat):Int)-1).toNat*1=i by omega]
  refine Zax rfl rfl rfl (Wk _) (Za0 ?_)
  repeat(refine wkA ?_;intros)
  have hvs:vd ((qs.set i q).drop i)=q+4294967296*vd (qs.drop (i+1)):=by
   rw[Zdw _ i (by rw[List.length_set];exact hiq),List.getElem_set_self,List.drop_set_of_lt (by omega)]
  exact Zg (i,qs.set i q,p) ⟨by simp only;omega,by rw[List.length_set];exact hl,Zbu hDq _ _ g1,g2,by
   simp only
   rw[List.take_set_of_le (by omega)]
   have h1:(qs.take (i+1)).take i=(xs.take (i+1)).take i:=by rw[ht]
   simpa [List.take_take] using h1,by
   simp only
   rw[hvs,Zdw xs i hix,hv,<-hqx]
   exact g3⟩ (by rw[show((i:Nat):Int)-1=((i+1:Nat):Int)-1-1 by omega];repeat(first|exact Zz|refine Zu rfl ?_)) (Wj _) (by simp only;omega)
 ·have hge:k=0:=by have:=Wb h;omega
  subst hge
  repeat(refine wkA ?_;intros)
  simp only[List.drop_zero] at hv
  have h1:vd qs=vd xs / y:=by
   rw[hv,Nat.mul_comm,Nat.mul_add_div hy0,Nat.div_eq_of_lt hr,Nat.add_zero]
  have h2:vd xs % y=r:=by
   rw[hv,Nat.mul_comm,Nat.mul_add_mod,Nat.mod_eq_of_lt hr]
  rw[h2]
  exact ZB rfl rfl (fun w hw=>⟨qs,hl,hDq,h1,ZqT hw⟩)
theorem pow31 {s:Nat}(hs:s<32):1<=2 ^ s/\2 ^ s<=2147483648:=by
 have h3:(2:Nat) ^ s<=2 ^ 31:=Nat.pow_le_pow_right (by omega) (by omega)
 have h4:0<2 ^ s:=Nat.pow_pos (by omega)
 omega
theorem Zla {os xs:List Nat}{i s:Nat}(hi:i<xs.length)(hl:os.length=xs.length+1)(hDx:Dg xs)(hs:s<32)(hv:vd os=vd (xs.take i)*2 ^ s):
  ∃(h1:i<os.length)(h2:i+1<os.length),os[i]<2 ^ s/\os[i+1]=0/\xs[i]*2 ^ s<18446744073709551616/\os[i]+xs[i]*2 ^ s % 4294967296<4294967296/\xs[i]*2 ^ s / 4294967296<2 ^ s/\
   vd ((os.set i (os[i]+xs[i]*2 ^ s % 4294967296)).set (i+1) (xs[i]*2 ^ s / 4294967296))=vd (xs.take (i+1))*2 ^ s:=by
 have h1:i<os.length:=by omega
 have h2:i+1<os.length:=by omega
 obtain⟨hp1,hp2⟩:=pow31 hs
 have hd:=ZZ hDx hi
 have hlow:=ZaQ (Zbj hDx i)
 rw[Wt,Nat.min_eq_left (by omega)] at hlow
 have hbig:vd os<2 ^ s*4294967296 ^ i:=by
  rw[hv,Nat.mul_comm]
  exact Nat.mul_lt_mul_of_pos_left hlow (by omega)
 have hoi:os[i]<2 ^ s:=by
  have h3:=Zd6 os i h1
  exact Nat.lt_of_mul_lt_mul_right (a:=4294967296 ^ i) (Nat.lt_of_le_of_lt h3 hbig)
 have hoi1:os[i+1]=0:=by
  refine Zpy (i:=i+1) ?_ h2
  rw[Nat.pow_succ,Nat.mul_comm (4294967296 ^ i)]
  exact Nat.lt_of_lt_of_le hbig (Nat.mul_le_mul_right _ (by omega))
 have hw:xs[i]*2 ^ s<=4294967295*2147483648:=Nat.mul_le_mul (by omega) hp2
 have hwq:xs[i]*2 ^ s / 4294967296<2 ^ s:=by
  rw[Nat.div_lt_iff_lt_mul (by omega),Nat.mul_comm (2 ^ s)]
  exact Nat.mul_lt_mul_of_pos_right hd (by omega)
 have hsum:os[i]+xs[i]*2 ^ s % 4294967296<4294967296:=by
  have e0:xs[i]*2 ^ s % 4294967296=(xs[i] % 2 ^ (32-s))*2 ^ s:=by
   conv=>lhs;rw[show(4294967296:Nat)=2 ^ (32-s)*2 ^ s by rw[<-Nat.pow_add,show 32-s+s=32 by omega]]
   exact Nat.mul_mod_mul_right _ _ _
  have e1:xs[i] % 2 ^ (32-s)+1<=2 ^ (32-s):=Nat.mod_lt _ (Nat.pow_pos (by omega))
  have e2:(xs[i] % 2 ^ (32-s)+1)*2 ^ s<=2 ^ (32-s)*2 ^ s:=Nat.mul_le_mul_right _ e1
  rw[<-Nat.pow_add,show 32-s+s=32 by omega,Nat.add_mul,Nat.one_mul] at e2
  omega
 refine⟨h1,h2,hoi,hoi1,by omega,hsum,hwq, ?_⟩
 have hs1:=ZaE os i (os[i]+xs[i]*2 ^ s % 4294967296) h1
 have hs2:=ZaE (os.set i (os[i]+xs[i]*2 ^ s % 4294967296)) (i+1) (xs[i]*2 ^ s / 4294967296) (by rw[List.length_set];exact h2)
 rw[List.getElem_set_ne (by omega),hoi1,Nat.zero_mul,Nat.add_zero] at hs2
 have hy:vd (xs.take (i+1))=vd (xs.take i)+4294967296 ^ i*xs[i]:=by
  rw[Wn hi,Za5,Wt,Nat.min_eq_left (by omega)]
  simp[vd]
 rw[hs2,hy,Nat.add_mul,<-hv]
 have e3:4294967296 ^ i*xs[i]*2 ^ s=xs[i]*2 ^ s*4294967296 ^ i:=by rw[Nat.mul_assoc,Nat.mul_comm]
 rw[e3,Nat.pow_succ]
 have hb:=Nat.div_add_mod (xs[i]*2 ^ s) 4294967296
 generalize xs[i]*2 ^ s / 4294967296=q at*
 generalize xs[i]*2 ^ s % 4294967296=r at*
 rw[<-hb]
 generalize (4294967296:Nat) ^ i=p at*
 rw[Nat.add_mul] at hs1
 rw[Nat.add_mul,Nat.mul_comm p 4294967296,<-Nat.mul_assoc,Nat.mul_comm q 4294967296]
 omega
theorem pow2i (s:Nat):(2:Int) ^ ((s:Int)).toNat=((2 ^ s:Nat):Int):=by simp
theorem Zg4 (b c:Nat)(xs:List Nat)(s:Nat)(fz:Nat×Nat)(hs:s<32)(hD:Dg xs)(hx:xs.length<=1099511627776)(w:World)(hw:w.heap[b]? =some (.cells (dig .u32 xs) 230 fz)):
  ∃os,os.length=xs.length+1/\Dg os/\vd os=vd xs*2 ^ s/\
  Calls prog 244 [.slice (some ⟨b,0,none⟩) xs.length c, .int .i64 s].toArray w (RetB (fun b=> .slice (some ⟨b,0,none⟩) (xs.length+1) (xs.length+1)) (dig .u32 os) 230 w):=by
 obtain⟨os,hl,hDo,hv⟩:∃os:List Nat,os.length=xs.length+1/\Dg os/\vd os=vd xs*2 ^ s:=by
  refine⟨dgs (vd xs*2 ^ s) (xs.length+1),Z9 _ _,Zar _ _, ?_⟩
  rw[ZbO,Nat.mod_eq_of_lt]
  obtain⟨hp1,hp2⟩:=pow31 hs
  have h1:=ZaQ hD
  rw[Nat.pow_succ]
  exact Nat.mul_lt_mul'' h1 (by omega)
 refine⟨os,hl,hDo,hv, ?_⟩
 refine Zb Tryz.func244 rfl Tryz.ntmps244 rfl ?_
 repeat(refine wkA ?_;intros)
 rw[show(xs.length:Int)+1=((xs.length+1:Nat):Int) by omega]
 refine Zbq (k:= .u32) (B:=4) (m:=xs.length+1) rfl rfl ⟨by omega,by omega⟩ rfl rfl ?_
 intro bo
 repeat(refine wkA ?_;intros)
 refine Zq (S:=Nat×List Nat) (fun t=>t.1<=xs.length/\t.2.length=xs.length+1/\Dg t.2/\vd t.2=vd (xs.take t.1)*2 ^ s)
  (fun t=>[(1, .int .i64 s),(5, .slice (some ⟨bo,0,none⟩) (xs.length+1) (xs.length+1)),(13, .slice (some ⟨b,0,none⟩) xs.length c),(14, .int .i64 (xs.length:Int)),(15, .int .i64 t.1)])
  (fun t=>[⟨bo,dig .u32 t.2,230⟩]) (fun t=>xs.length-t.1) (0,List.replicate (xs.length+1) 0)
  ⟨by simp,by simp,Zew _,by simp[vd,Zey]⟩ (by repeat(first|exact Zz|refine Zu rfl ?_)) (Wj _) (fun t ht=>?_)
 obtain⟨i,ps⟩:=t
 obtain⟨hi,hlp,hDp,hvp⟩:=ht
 simp only at hi hlp hDp hvp⊢
 repeat(refine wkA ?_;intros)
 refine Zk rfl (fun h=>?_) (fun h=>?_)
 ·have hlt:i<xs.length:=by have:=Wa h;omega
  obtain⟨h1,h2,g1,g2,g3,g4,g5,g6⟩:=Zla hlt hlp hD hs hvp
  have hdx:=ZZ hD hlt
  obtain⟨hp1,hp2⟩:=pow31 hs
  repeat(refine wkA ?_;intros)
  refine jq (Zed rfl hw (show xs[0+(i:Int).toNat*1]? =some xs[i] by rw[show 0+(i:Int).toNat*1=i by omega];simp[hlt])) rfl rfl ?_
  repeat(refine wkA ?_;intros)
  refine jq (Zco rfl rfl (by simp only[IntKind.bits];omega)) rfl rfl ?_
  rw[pow2i,<-Int.natCast_mul,IntWalk.u64_in _ (by omega)]
  repeat(refine wkA ?_;intros)
  refine jq (ZM rfl (show ps[0+(i:Int).toNat*1]? =some ps[i] by rw[show 0+(i:Int).toNat*1=i by omega];simp[h1])) rfl rfl ?_
  refine jq (Zek rfl) rfl rfl ?_
  refine jq (ZgQ rfl) rfl rfl ?_
  refine jq (ZdN rfl rfl) rfl rfl ?_
  rw[Zrw _ _ _ g1 hs]
  repeat(refine wkA ?_;intros)
  refine Z1 rfl rfl (by omega) rfl ?_
  rw[show 0+(i:Int).toNat*1=i by omega]
  repeat(refine wkA ?_;intros)
  refine jq (ZaI rfl rfl (by decide)) rfl rfl ?_
  rw[p32,show((xs[i]*2 ^ s:Nat):Int) / 4294967296=((xs[i]*2 ^ s / 4294967296:Nat):Int) by omega]
  repeat(refine wkA ?_;intros)
  refine Z1 rfl rfl (by rw[List.length_set];omega) rfl ?_
  rw[show 0+((i:Int)+1).toNat*1=i+1 by omega]
  repeat(refine wkA ?_;intros)
  exact Zg (i+1,_) ⟨hlt,by simp only[List.length_set];exact hlp,Zbu (Zbu hDp _ _ g4) _ _ (by omega),g6⟩ (by repeat(first|exact Zz|refine Zu rfl ?_)) (Wj _) (by simp only;omega)
 ·have hge:i=xs.length:=by have:=Wb h;omega
  subst hge
  repeat(refine wkA ?_;intros)
  rw[List.take_of_length_le (Wl _)] at hvp
  have he:ps=os:=Zh9 hDp hDo (by omega) (by rw[hvp,hv])
  subst he
  exact ZB rfl rfl (fun w hw=>Zjh hw)
end
end Go.Vt
namespace Go.Vt
theorem Ziy {U Y v1 v2 high z2 p:Nat}(hv:0<v1)(hz:z2<4294967296)(hU:U<(high*4294967296+z2+1)*p)(hY:(v1*4294967296+v2)*p<=Y):U<(high / v1+1)*Y:=by
 have h1:=Nat.div_add_mod high v1
 have h2:=Nat.mod_lt high hv
 generalize high / v1=g at*
 generalize high % v1=r at*
 have h3:high+1<=(g+1)*v1:=by rw[Nat.add_mul,Nat.mul_comm g];omega
 have h4:(high+1)*4294967296<=(g+1)*v1*4294967296:=Nat.mul_le_mul_right _ h3
 have h5:high*4294967296+z2+1<=(g+1)*(v1*4294967296+v2):=by
  rw[Nat.mul_add,<-Nat.mul_assoc]
  have:(high+1)*4294967296=high*4294967296+4294967296:=by rw[Nat.add_mul,Nat.one_mul]
  omega
 have h6:(high*4294967296+z2+1)*p<=(g+1)*(v1*4294967296+v2)*p:=Nat.mul_le_mul_right _ h5
 have h7:(g+1)*((v1*4294967296+v2)*p)<=(g+1)*Y:=Nat.mul_le_mul_left _ hY
 rw[<-Nat.mul_assoc] at h7
 omega
theorem Zll {U Y v1 v2 high rest z2 p g:Nat}(hg:g*v1+rest=high)(ht:rest*4294967296+z2<g*v2)(hU:U<(high*4294967296+z2+1)*p)(hY:(v1*4294967296+v2)*p<=Y):U<g*Y:=by
 have h5:high*4294967296+z2+1<=g*(v1*4294967296+v2):=by
  rw[Nat.mul_add,<-Nat.mul_assoc,<-hg,Nat.add_mul]
  omega
 have h6:(high*4294967296+z2+1)*p<=g*(v1*4294967296+v2)*p:=Nat.mul_le_mul_right _ h5
 have h7:g*((v1*4294967296+v2)*p)<=g*Y:=Nat.mul_le_mul_left _ hY
 rw[<-Nat.mul_assoc] at h7
 omega
theorem Zgi {U Y v1 v2 high rest z2 p g:Nat}(hv:0<v1)(hg:g*v1+rest=high)(ht:g*v2<=rest*4294967296+z2)(hB:g<4294967296)(hU:(high*4294967296+z2)*p<=U)(hY:Y<=(v1*4294967296+v2+1)*p)(hY0:(v1*4294967296+v2)*p<=Y):g*Y<=U+Y:=by
 have h5:g*(v1*4294967296+v2)<=high*4294967296+z2:=by
  rw[Nat.mul_add,<-Nat.mul_assoc,<-hg,Nat.add_mul]
  omega
 have h6:g*(v1*4294967296+v2)*p<=(high*4294967296+z2)*p:=Nat.mul_le_mul_right _ h5
 have h7:g*Y<=g*((v1*4294967296+v2+1)*p):=Nat.mul_le_mul_left _ hY
 have h8:g*((v1*4294967296+v2+1)*p)=g*(v1*4294967296+v2)*p+g*p:=by
  rw[<-Nat.mul_assoc,Nat.mul_add g (v1*4294967296+v2) 1,Nat.add_mul,Nat.mul_one]
 have h9:g<=v1*4294967296+v2:=by
  have:1*4294967296<=v1*4294967296:=Nat.mul_le_mul_right _ hv
  omega
 have h10:g*p<=(v1*4294967296+v2)*p:=Nat.mul_le_mul_right _ h9
 omega
theorem ZlP {g v1 rest z1 z0:Nat}(hg:g*v1+rest=z0*4294967296+z1)(hz:z0<=v1)(h1:z1<4294967296)(hB:4294967296<=g):rest<4294967296:=by
 have h2:4294967296*v1<=g*v1:=Nat.mul_le_mul_right _ hB
 have h3:z0*4294967296<=v1*4294967296:=Nat.mul_le_mul_right _ hz
 rw[Nat.mul_comm v1 4294967296] at h3
 omega
theorem Zp7 {ys:List Nat}{n:Nat}(h:Dg ys)(hn:2<=n)(hl:ys.length=n):(ys[n-1]'(by omega)*4294967296+ys[n-2]'(by omega))*4294967296 ^ (n-2)<=vd ys/\vd ys<(ys[n-1]'(by omega)*4294967296+ys[n-2]'(by omega)+1)*4294967296 ^ (n-2):=by
 have h1:=Zav ys (n-2) (by omega)
 have h2:ys.drop (n-2)=[ys[n-2]'(by omega),ys[n-1]'(by omega)]:=by
  rw[List.drop_eq_getElem_cons (by omega),List.drop_eq_getElem_cons (by omega),List.drop_eq_nil_of_le (by omega)]
  simp only[show n-2+1=n-1 by omega]
 have h3:=ZaQ (Zbj h (n-2))
 rw[Wt,Nat.min_eq_left (by omega)] at h3
 rw[h2] at h1
 simp only[vd,Nat.mul_zero,Nat.add_zero] at h1
 generalize ys[n-2]'(by omega)=a at*
 generalize ys[n-1]'(by omega)=b at*
 rw[Nat.mul_comm (4294967296 ^ (n-2)),Nat.add_comm a,Nat.mul_comm _ b] at h1
 rw[Nat.add_mul _ 1]
 omega
theorem Zmb {zs:List Nat}{m:Nat}(h:Dg zs)(hm:3<=m)(hl:zs.length=m):((zs[m-1]'(by omega)*4294967296+zs[m-2]'(by omega))*4294967296+zs[m-3]'(by omega))*4294967296 ^ (m-3)<=vd zs/\vd zs<((zs[m-1]'(by omega)*4294967296+zs[m-2]'(by omega))*4294967296+zs[m-3]'(by omega)+1)*4294967296 ^ (m-3):=by
 have h1:=Zav zs (m-3) (by omega)
 have h2:zs.drop (m-3)=[zs[m-3]'(by omega),zs[m-2]'(by omega),zs[m-1]'(by omega)]:=by
  rw[List.drop_eq_getElem_cons (by omega),List.drop_eq_getElem_cons (by omega),List.drop_eq_getElem_cons (by omega),List.drop_eq_nil_of_le (by omega)]
  simp only[show m-3+1=m-2 by omega,show m-2+1=m-1 by omega]
 have h3:=ZaQ (Zbj h (m-3))
 rw[Wt,Nat.min_eq_left (by omega)] at h3
 rw[h2] at h1
 simp only[vd,Nat.mul_zero,Nat.add_zero] at h1
 generalize zs[m-3]'(by omega)=a at*
 generalize zs[m-2]'(by omega)=b at*
 generalize zs[m-1]'(by omega)=c at*
 have e:a+4294967296*(b+4294967296*c)=(c*4294967296+b)*4294967296+a:=by show _=(c*4294967296+b)*4294967296+a;omega
 rw[e,Nat.mul_comm (4294967296 ^ (m-3))] at h1
 rw[Nat.add_mul _ 1]
 omega
theorem ZgH {zs ys:List Nat}{i j c b b' g M t r:Nat}(hk:i<ys.length)(hi:i+j<zs.length)(ht:t=c+g*ys[i])(hr:r+b+t % 4294967296=zs[i+j]+b'*4294967296)
  (hS:vd zs+g*vd (ys.take i)*4294967296 ^ j=M+(c+b)*4294967296 ^ (i+j)):
  vd (zs.set (i+j) r)+g*vd (ys.take (i+1))*4294967296 ^ j=M+(t / 4294967296+b')*4294967296 ^ (i+1+j):=by
 have hs:=ZaE zs (i+j) r hi
 have hb:=Nat.div_add_mod t 4294967296
 generalize t / 4294967296=q at*
 generalize t % 4294967296=l at*
 have hy:vd (ys.take (i+1))=vd (ys.take i)+4294967296 ^ i*ys[i]:=by
  rw[Wn hk,Za5,Wt,Nat.min_eq_left (by omega)]
  simp[vd]
 have e3:g*(vd (ys.take i)+4294967296 ^ i*ys[i])*4294967296 ^ j=g*vd (ys.take i)*4294967296 ^ j+g*ys[i]*4294967296 ^ (i+j):=by rw[Nat.pow_add];grind
 have e4:4294967296 ^ (i+1+j)=4294967296 ^ (i+j)*4294967296:=by rw[show i+1+j=i+j+1 by omega];exact Nat.pow_succ _ _
 rw[hy,e3,e4]
 generalize 4294967296 ^ (i+j)=p at*
 have e1:(r+b+l)*p=(zs[i+j]+b'*4294967296)*p:=by rw[hr]
 have e2:(4294967296*q+l)*p=(c+g*ys[i])*p:=by rw[hb,ht]
 have e5:(q+b')*(p*4294967296)=4294967296*q*p+b'*4294967296*p:=by grind
 rw[e5]
 rw[Nat.add_mul,Nat.add_mul,Nat.add_mul] at e1
 rw[Nat.add_mul,Nat.add_mul] at e2
 rw[Nat.add_mul] at hS
 omega
theorem ZmL {zs ys:List Nat}{i j c M t:Nat}(hk:i<ys.length)(hi:i+j<zs.length)(ht:t=c+(zs[i+j]+ys[i]))
  (hS:vd zs+c*4294967296 ^ (i+j)=M+vd (ys.take i)*4294967296 ^ j):
  vd (zs.set (i+j) (t % 4294967296))+t / 4294967296*4294967296 ^ (i+1+j)=M+vd (ys.take (i+1))*4294967296 ^ j:=by
 have hs:=ZaE zs (i+j) (t % 4294967296) hi
 have hb:=Nat.div_add_mod t 4294967296
 generalize t / 4294967296=q at*
 generalize t % 4294967296=l at*
 have hy:vd (ys.take (i+1))=vd (ys.take i)+4294967296 ^ i*ys[i]:=by
  rw[Wn hk,Za5,Wt,Nat.min_eq_left (by omega)]
  simp[vd]
 have e3:(vd (ys.take i)+4294967296 ^ i*ys[i])*4294967296 ^ j=vd (ys.take i)*4294967296 ^ j+ys[i]*4294967296 ^ (i+j):=by rw[Nat.pow_add];grind
 have e4:4294967296 ^ (i+1+j)=4294967296 ^ (i+j)*4294967296:=by rw[show i+1+j=i+j+1 by omega];exact Nat.pow_succ _ _
 rw[hy,e3,e4]
 generalize 4294967296 ^ (i+j)=p at*
 have e2:(4294967296*q+l)*p=(c+(zs[i+j]+ys[i]))*p:=by rw[hb,ht]
 have e5:q*(p*4294967296)=4294967296*q*p:=by grind
 rw[e5]
 rw[Nat.add_mul,Nat.add_mul,Nat.add_mul] at e2
 omega
structure Same (zs zs':List Nat)(j n:Nat):Prop where
 len:zs'.length=zs.length
 dg:Dg zs'
 lo:zs'.take j=zs.take j
 hi:zs'.drop (j+n+1)=zs.drop (j+n+1)
theorem ZmS {zs:List Nat}{j n:Nat}(h:Dg zs):Same zs zs j n:=⟨rfl,h,rfl,rfl⟩
theorem Same.set {zs zs':List Nat}{j n:Nat}(h:Same zs zs' j n)(k x:Nat)(h1:j<=k)(h2:k<=j+n)(hx:x<4294967296):Same zs (zs'.set k x) j n:=
 ⟨by rw[List.length_set];exact h.len,Zbu h.dg _ _ hx,by rw[List.take_set_of_le h1];exact h.lo,by rw[List.drop_set_of_lt (by omega)];exact h.hi⟩
theorem Same.cut {zs zs':List Nat}{j n:Nat}(h:Same zs zs' j n)(hj:j<=zs.length):vd zs'=vd (zs.take j)+4294967296 ^ j*vd (zs'.drop j):=by
 rw[Zav zs' j (by rw[h.len];exact hj),h.lo]
theorem Same.small {zs zs':List Nat}{j n:Nat}(h:Same zs zs' j n)(hj:j+n<zs.length)(h0:vd (zs.drop (j+n+1))=0):vd (zs'.drop j)<4294967296 ^ (n+1):=by
 have h1:=Zav (zs'.drop j) (n+1) (by rw[List.length_drop,h.len];omega)
 rw[List.drop_drop,show j+(n+1)=j+n+1 by omega,h.hi,h0,Nat.mul_zero,Nat.add_zero] at h1
 have h2:=ZaQ (Zbj (Zjo h.dg j) (n+1))
 rw[Wt,List.length_drop,h.len,Nat.min_eq_left (by omega)] at h2
 omega
theorem Zmy {zs:List Nat}{j n:Nat}(hj:j+n<zs.length)(h:vd (zs.drop j)<4294967296 ^ (n+1)):vd (zs.drop (j+n+1))=0:=by
 have h1:=Zav (zs.drop j) (n+1) (by rw[List.length_drop];omega)
 rw[List.drop_drop,show j+(n+1)=j+n+1 by omega] at h1
 rcases Nat.eq_zero_or_pos (vd (zs.drop (j+n+1))) with h2|h2
 ·exact h2
 ·have h3:4294967296 ^ (n+1)*1<=4294967296 ^ (n+1)*vd (zs.drop (j+n+1)):=Nat.mul_le_mul_left _ h2
  omega
theorem ZmQ {zs ys:List Nat}{j n Y:Nat}(hDz:Dg zs)(hDy:Dg ys)(hn:2<=n)(hly:ys.length=n)(hY:vd ys=Y)(hj:j+n<zs.length)(hlt:vd (zs.drop (j+1))<Y):
  vd (zs.drop (j+n+1))=0/\
  ((zs[j+n]*4294967296+zs[j+n-1]'(by omega))*4294967296+zs[j+n-2]'(by omega))*4294967296 ^ (n-2)<=vd (zs.drop j)/\
  vd (zs.drop j)<((zs[j+n]*4294967296+zs[j+n-1]'(by omega))*4294967296+zs[j+n-2]'(by omega)+1)*4294967296 ^ (n-2)/\
  (ys[n-1]'(by omega)*4294967296+ys[n-2]'(by omega))*4294967296 ^ (n-2)<=Y/\Y<(ys[n-1]'(by omega)*4294967296+ys[n-2]'(by omega)+1)*4294967296 ^ (n-2)/\
  zs[j+n]<=ys[n-1]'(by omega)/\vd (zs.drop j)<4294967296*Y:=by
 obtain⟨y1,y2⟩:=Zp7 hDy hn hly
 rw[hY] at y1 y2
 have hYB:Y<4294967296 ^ n:=by rw[<-hY,<-hly];exact ZaQ hDy
 have hz0:=ZZ hDz (show j<zs.length by omega)
 have hU:vd (zs.drop j)<4294967296*Y:=by
  rw[Zdw zs j (by omega)]
  omega
 have hUB:vd (zs.drop j)<4294967296 ^ (n+1):=by rw[Nat.pow_succ];omega
 have h0:=Zmy hj hUB
 have hs:vd (zs.drop j)=vd ((zs.drop j).take (n+1)):=by
  have h1:=Zav (zs.drop j) (n+1) (by rw[List.length_drop];omega)
  rw[List.drop_drop,show j+(n+1)=j+n+1 by omega,h0,Nat.mul_zero,Nat.add_zero] at h1
  exact h1
 have hl3:((zs.drop j).take (n+1)).length=n+1:=by rw[Wt,List.length_drop];omega
 obtain⟨t1,t2⟩:=Zmb (Zbj (Zjo hDz j) (n+1)) (by omega) hl3
 rw[<-hs] at t1 t2
 simp only[List.getElem_take,List.getElem_drop,show n+1-1=n by omega,show n+1-2=n-1 by omega,show n+1-3=n-2 by omega,show j+(n-1)=j+n-1 by omega,show j+(n-2)=j+n-2 by omega] at t1 t2
 refine⟨h0,t1,t2,y1,y2, ?_,hU⟩
 have hy2:=ZZ hDy (show n-2<ys.length by omega)
 have hp:0<4294967296 ^ (n-2):=Nat.pow_pos (by omega)
 have h5:((zs[j+n]*4294967296+zs[j+n-1]'(by omega))*4294967296+zs[j+n-2]'(by omega))*4294967296 ^ (n-2)<(4294967296*(ys[n-1]'(by omega)*4294967296+ys[n-2]'(by omega)+1))*4294967296 ^ (n-2):=by
  rw[Nat.mul_assoc 4294967296]
  omega
 have h6:=Nat.lt_of_mul_lt_mul_right h5
 omega
theorem Zna {zs z1 z2 ys:List Nat}{j n Y g c b e β z0:Nat}(hs1:Same zs z1 j n)(hj:j+n<zs.length)(hly:ys.length=n)(hY:vd ys=Y)
  (h1:vd z1+g*vd (ys.take n)*4294967296 ^ j=vd zs+(c+b)*4294967296 ^ (n+j)) (hd:z1[j+n]'(by rw[hs1.len];exact hj)=z0) (he:e+b+c=z0+β*4294967296) (h2:z2=z1.set (j+n) e) (hs2:Same zs z2 j n):
  vd (z2.drop j)+g*Y=vd (zs.drop j)+β*4294967296 ^ (n+1):=by
 have hl1:j+n<z1.length:=by rw[hs1.len];exact hj
 have hset:=ZaE z1 (j+n) e hl1
 rw[hd,<-h2] at hset
 have hc2:=hs2.cut (by omega)
 have hc0:=Zav zs j (by omega)
 rw[List.take_of_length_le (by omega),hY] at h1
 rw[hc0] at h1
 rw[hc2] at hset
 have hp:0<4294967296 ^ j:=Nat.pow_pos (by omega)
 have e1:4294967296 ^ (j+n)=4294967296 ^ j*4294967296 ^ n:=Nat.pow_add _ _ _
 have e2:4294967296 ^ (n+j)=4294967296 ^ j*4294967296 ^ n:=by rw[Nat.add_comm];exact e1
 have e3:4294967296 ^ (n+1)=4294967296 ^ n*4294967296:=Nat.pow_succ _ _
 rw[e1] at hset
 rw[e2] at h1
 rw[e3]
 generalize (4294967296:Nat) ^ n=R at*
 generalize (4294967296:Nat) ^ j=P at*
 generalize vd (zs.take j)=low at*
 generalize vd (z2.drop j)=U2 at*
 generalize vd (zs.drop j)=U at*
 generalize vd z1=V at*
 have e4:(e+b+c)*(P*R)=(z0+β*4294967296)*(P*R):=by rw[he]
 have e5:P*(U2+g*Y)=P*(U+β*(R*4294967296)):=by
  have f1:P*(U2+g*Y)=P*U2+g*Y*P:=by grind
  have f2:P*(U+β*(R*4294967296))=P*U+β*4294967296*(P*R):=by grind
  rw[f1,f2]
  rw[Nat.add_mul,Nat.add_mul,Nat.add_mul] at e4
  rw[Nat.add_mul] at h1
  omega
 exact Nat.eq_of_mul_eq_mul_left hp e5
theorem Zma {zs z2 z3 z4 ys:List Nat}{j n Y c e e' o:Nat}(hs2:Same zs z2 j n)(hs3:Same zs z3 j n)(hj:j+n<zs.length)(hly:ys.length=n)(hY:vd ys=Y)
  (h1:vd z3+c*4294967296 ^ (n+j)=vd z2+vd (ys.take n)*4294967296 ^ j) (hd:z3[j+n]'(by rw[hs3.len];exact hj)=e) (he:e'+o*4294967296=e+c) (h2:z4=z3.set (j+n) e') (hs4:Same zs z4 j n):
  vd (z4.drop j)+o*4294967296 ^ (n+1)=vd (z2.drop j)+Y:=by
 have hl1:j+n<z3.length:=by rw[hs3.len];exact hj
 have hset:=ZaE z3 (j+n) e' hl1
 rw[hd,<-h2] at hset
 have hc4:=hs4.cut (by omega)
 have hc2:=hs2.cut (by omega)
 rw[List.take_of_length_le (by omega),hY] at h1
 rw[hc2] at h1
 rw[hc4] at hset
 have hp:0<4294967296 ^ j:=Nat.pow_pos (by omega)
 have e1:4294967296 ^ (j+n)=4294967296 ^ j*4294967296 ^ n:=Nat.pow_add _ _ _
 have e2:4294967296 ^ (n+j)=4294967296 ^ j*4294967296 ^ n:=by rw[Nat.add_comm];exact e1
 have e3:4294967296 ^ (n+1)=4294967296 ^ n*4294967296:=Nat.pow_succ _ _
 rw[e1] at hset
 rw[e2] at h1
 rw[e3]
 generalize (4294967296:Nat) ^ n=R at*
 generalize (4294967296:Nat) ^ j=P at*
 generalize vd (zs.take j)=low at*
 generalize vd (z4.drop j)=U4 at*
 generalize vd (z2.drop j)=U2 at*
 generalize vd z3=V at*
 have e4:(e'+o*4294967296)*(P*R)=(e+c)*(P*R):=by rw[he]
 have e5:P*(U4+o*(R*4294967296))=P*(U2+Y):=by
  have f1:P*(U4+o*(R*4294967296))=P*U4+o*4294967296*(P*R):=by grind
  have f2:P*(U2+Y)=P*U2+Y*P:=by grind
  rw[f1,f2]
  rw[Nat.add_mul,Nat.add_mul] at e4
  omega
 exact Nat.eq_of_mul_eq_mul_left hp e5
theorem ZiF {U U2 g Y R:Nat}(h:U2+g*Y=U+0*R)(hg:U<(g+1)*Y):U=U2+g*Y/\U2<Y:=by
 rw[Nat.add_mul,Nat.one_mul] at hg
 omega
theorem Zkw {U U2 U4 g Y R o:Nat}(h:U2+g*Y=U+1*R)(hle:g*Y<=U+Y)(h2:U2<R)(h4:U4<R)(ho:o<=1)(hb:U4+o*R=U2+Y)(hg:0<g):U=U4+(g-1)*Y/\U4<Y:=by
 obtain⟨k,rfl⟩:∃k,g=k+1:=⟨g-1,by omega⟩
 rw[Nat.add_mul,Nat.one_mul] at h hle
 simp only[Nat.add_sub_cancel]
 have:o=0\/o=1:=by omega
 rcases this with rfl|rfl <;> omega
theorem ZkM {zs z' os:List Nat}{A Y j n q:Nat}(hs:Same zs z' j n)(hj:j<=zs.length)(hi:j<os.length)(h0:os[j]=0)(hA:A=vd zs+Y*vd os)(hU:vd (zs.drop j)=vd (z'.drop j)+q*Y):A=vd z'+Y*vd (os.set j q):=by
 have h1:=ZaE os j q hi
 rw[h0,Nat.zero_mul,Nat.add_zero] at h1
 rw[h1,hA,hs.cut hj,Zav zs j hj,hU]
 grind
theorem ZpU {a b s r q:Nat}(h:a*2 ^ s=r+b*2 ^ s*q)(hr:r<b*2 ^ s):q=a / b/\r=a % b*2 ^ s:=by
 have hp:0<2 ^ s:=Nat.pow_pos (by omega)
 have hb:0<b:=by
  rcases Nat.eq_zero_or_pos b with h0|h0
  ·subst h0;simp at hr
  ·exact h0
 have h1:q=a*2 ^ s / (b*2 ^ s):=by
  rw[h,Nat.add_mul_div_left _ _ (Nat.mul_pos hb hp),Nat.div_eq_of_lt hr,Nat.zero_add]
 have h2:r=a*2 ^ s % (b*2 ^ s):=by
  rw[h,Nat.add_mul_mod_self_left,Nat.mod_eq_of_lt hr]
 rw[Nat.mul_div_mul_right _ _ hp] at h1
 rw[Nat.mul_mod_mul_right] at h2
 exact⟨h1,h2⟩
end Go.Vt
