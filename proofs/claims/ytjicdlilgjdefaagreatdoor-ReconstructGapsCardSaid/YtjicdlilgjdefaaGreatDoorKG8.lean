/- that the gaps between reports are those of the chain (part 8 of 32.) Conditions: those that each statement names. -/
import Derived.Test.YtjicdlilgjdefaaGreatDoorKG7
set_option linter.unusedSimpArgs false
set_option linter.unusedVariables false
set_option maxHeartbeats 2000000
set_option maxRecDepth 100000
namespace Go.Vt
open Go.RowKit Go.Proofs
open Go.Proofs.Tryz (prog)
section
instance ZJO (a b:Nat):SpecC prog 222 [.string (mag a), .string (mag b)] (.tuple #[.string (mag (a / b)), .string (mag (a % b))]) (b≠0/\(mag a).size<=LIM/\(mag b).size<=LIM):=⟨fun h w=>ZrW a b h.1 h.2.1 h.2.2 w⟩
theorem Zo4 (a b:Int)(hb:b≠0)(q r:Nat)(hq:q=a.natAbs / b.natAbs)(hr:r=a.natAbs % b.natAbs):
  (a<0/\r≠0->sg (decide (a<0) != decide (b<0)) (q+1)=a / b/\((b.natAbs-r:Nat):Int)=a % b)/\(¬(a<0/\r≠0)->sg (decide (a<0) != decide (b<0)) q=a / b/\(r:Int)=a % b):=by
 have hb':0<b.natAbs:=by omega
 have h1:=Nat.div_add_mod a.natAbs b.natAbs
 have h2:=Nat.mod_lt a.natAbs hb'
 rw[<-hq,<-hr] at h1
 rw[<-hr] at h2
 have key:∀(x:Int)(y:Int),a=b*x+y->0<=y->y<b.natAbs->x=a / b/\y=a % b:=by
  intro x y e h3 h4
  rcases Int.lt_or_le b 0 with h0|h0
  ·have:=(Int.ediv_emod_unique' (a:=a) (b:=b) (r:=y) (q:=x) h0).2 ⟨by omega,h3,by omega⟩
   exact⟨this.1.symm,this.2.symm⟩
  ·have:=(Int.ediv_emod_unique (a:=a) (b:=b) (r:=y) (q:=x) (by omega)).2 ⟨by omega,h3,by omega⟩
   exact⟨this.1.symm,this.2.symm⟩
 have hm:((b.natAbs*q:Nat):Int)=(b.natAbs:Int)*(q:Int):=by simp
 unfold sg
 refine⟨fun⟨ha,hr0⟩=>?_,fun hn=>?_⟩
 ·refine key _ _ ?_ (by omega) (by omega)
  rcases Int.lt_or_le b 0 with hb0|hb0
  ·simp only[ha,hb0,decide_true,bne_self_eq_false,Bool.false_eq_true,if_false]
   have:b= -(b.natAbs:Int):=by omega
   rw[this,Int.natAbs_neg,Int.natAbs_natCast,Int.natCast_add,Int.mul_add,Int.neg_mul,<-hm]
   omega
  ·have hb1:¬b<0:=by omega
   simp only[ha,hb1,decide_true,decide_false,Bool.bne_false,if_true]
   have:b=(b.natAbs:Int):=by omega
   rw[this,Int.natAbs_natCast,Int.natCast_add,Int.mul_neg,Int.mul_add,<-hm]
   omega
 ·refine key _ _ ?_ (by omega) (by omega)
  rcases Int.lt_or_le a 0 with ha|ha
  ·have hr0:r=0:=by
    rcases Nat.eq_zero_or_pos r with h|h
    ·exact h
    ·exact absurd ⟨ha,by omega⟩ hn
   rcases Int.lt_or_le b 0 with hb0|hb0
   ·simp only[ha,hb0,decide_true,bne_self_eq_false,Bool.false_eq_true,if_false]
    have:b= -(b.natAbs:Int):=by omega
    rw[this,Int.neg_mul,<-hm]
    omega
   ·have hb1:¬b<0:=by omega
    simp only[ha,hb1,decide_true,decide_false,Bool.bne_false,if_true]
    have:b=(b.natAbs:Int):=by omega
    rw[this,Int.mul_neg,<-hm]
    omega
  ·have ha1:¬a<0:=by omega
   rcases Int.lt_or_le b 0 with hb0|hb0
   ·simp only[ha1,hb0,decide_true,decide_false,Bool.bne_true,Bool.not_false,if_true]
    have:b= -(b.natAbs:Int):=by omega
    rw[this,Int.neg_mul,Int.mul_neg,Int.neg_neg,<-hm]
    omega
   ·have hb1:¬b<0:=by omega
    simp only[ha1,hb1,decide_false,bne_self_eq_false,Bool.false_eq_true,if_false]
    have:b=(b.natAbs:Int):=by omega
    rw[this,<-hm]
    omega
theorem Zts :(⟨#[1]⟩:ByteArray)=mag 1:=by decide
instance ZCK (a b:Int):SpecC prog 242 [vI a,vI b] (.tuple #[vI (a / b),vI (a % b), .int .i64 0]) (b≠0/\mg a<=LIM/\mg b<=LIM):=⟨fun hp w=>by
 obtain⟨hb,ha,hbl⟩:=hp
 have hb':b.natAbs≠0:=by omega
 obtain⟨k1,k2⟩:=Zo4 a b hb _ _ rfl rfl
 have hsq:(mag (a.natAbs / b.natAbs)).size<=LIM:=Wi (Zch (Nat.div_le_self _ _)) ha
 have hlt:a.natAbs % b.natAbs<=b.natAbs:=Nat.le_of_lt (Nat.mod_lt _ (by omega))
 refine Zg Tryz.func242 rfl Tryz.ntmps242 rfl ?_
 repeat(refine wkA ?_;intros)
 refine Zl rfl (fun h=>?_) (fun h=>?_)
 ·have:=ZaQ.1 (Wa h)
  omega
 repeat(first|(refine wkA ?_;intros)|(refine sC rfl rfl ?_ ?_;focus(first|exact trivial|exact⟨hb',ha,hbl⟩)))
 generalize hq:a.natAbs / b.natAbs=q at*
 generalize hr:a.natAbs % b.natAbs=r at*
 by_cases hA:a<0
 ·simp only[Wc hA]
  repeat(refine wkA ?_;intros)
  refine Zl rfl (fun h=>?_) (fun h=>?_)
  ·have hn:¬mag r=⟨#[]⟩:=by simpa using h
   obtain⟨e1,e2⟩:=k1 ⟨hA,fun h0=>hn (ZaQ.2 h0)⟩
   (refine Za9 [0,1,2,3,4,5] [6,7] (_) (h:=?_);refine wkI ?_)
   rw[Zts]
   (repeat(first|refine wkH ?_|(refine tC rfl rfl ?_ ?_;focus(first|exact trivial|exact⟨hsq,by decide⟩|exact⟨hbl,hlt⟩))))
   refine Zn ?_
   refine Zbi rfl rfl rfl (Wj _) (Zbi rfl rfl rfl (Wj _) (Zba ?_))
   repeat(refine wkA ?_;intros)
   exact ZaB rfl (Zab rfl) (Zab rfl) (Zk rfl) (fun w hw=>by rw[e1,show sg false (b.natAbs-r)=a % b from e2];exact ZZ hw)
  ·have hn:mag r=⟨#[]⟩:=by simpa using h
   obtain⟨e1,e2⟩:=k2 (fun h=>h.2 (ZaQ.1 hn))
   repeat(refine wkA ?_;intros)
   exact ZaB rfl (Zab rfl) (Zab rfl) (Zk rfl) (fun w hw=>by rw[e1,show sg false r=a % b from e2];exact ZZ hw)
 ·simp only[We hA]
  obtain⟨e1,e2⟩:=k2 (fun h=>hA h.1)
  repeat(refine wkA ?_;intros)
  exact ZaB rfl (Zab rfl) (Zab rfl) (Zk rfl) (fun w hw=>by rw[e1,show sg false r=a % b from e2];exact ZZ hw)⟩
theorem ZsA (a b:Int)(ha:mg a<=LIM)(hb:mg b<=LIM)(w:World):Calls prog 172 [vI a,vI b].toArray w (Ret (vI (Int.gcd a b)) w):=by
 refine Zg Tryz.func172 rfl Tryz.ntmps172 rfl ?_
 repeat(refine wkA ?_;intros)
 (refine Za9 [0,1,2,3] [4,5] (_) (h:=?_);refine wkI ?_)
 (repeat(refine wkH ?_))
 refine Zn ?_
 refine Zbi rfl rfl rfl (Wj _) (Zbi rfl rfl rfl (Wj _) (Zba ?_))
 repeat(refine wkA ?_;intros)
 rename_i ba bb bc
 refine Zm (S:=Nat×Nat) (fun s=>Nat.gcd s.1 s.2=Int.gcd a b/\(mag s.1).size<=LIM/\(mag s.2).size<=LIM) (fun s=>[(4, .pointer (some ⟨bc,0,none⟩)),(5, .string (mag s.1)),(6, .string (mag s.2))]) (fun _=>[⟨bc,ZM ZaW,52⟩]) (fun s=>s.2) (a.natAbs,b.natAbs) ⟨rfl,ha,hb⟩
  sbB sbl (fun s hs=>?_)
 obtain⟨x,y⟩:=s
 obtain⟨hg,hx,hy⟩:=hs
 simp only at hg hx hy⊢
 repeat(refine wkA ?_;intros)
 refine Zl rfl (fun h=>?_) (fun h=>?_)
 ·have hn:¬mag y=⟨#[]⟩:=by simpa using h
  have hy0:y≠0:=fun h0=>hn (ZaQ.2 h0)
  repeat(refine wkA ?_;intros)
  refine Zl rfl (fun h=>?_) (fun h=>?_)
  ·have hxy:sm x=true/\sm y=true:=by simpa using h
   repeat(refine wkA ?_;intros)
   refine Zm (S:=Nat×Nat) (fun s=>Nat.gcd s.1 s.2=Int.gcd a b/\s.1<18446744073709551616/\s.2<18446744073709551616) (fun s=>[(4, .pointer (some ⟨bc,0,none⟩)),(7, .int .u64 s.1),(8, .int .u64 s.2)]) (fun _=>[⟨bc,ZM ZaW,52⟩]) (fun s=>s.2) (lo x,lo y) ⟨by simp only[Zdl hxy.1,Zdl hxy.2];exact hg,Zdm _,Zdm _⟩
    sbB sbl (fun s hs=>?_)
   obtain⟨u,v⟩:=s
   obtain⟨hg,hu,hv⟩:=hs
   simp only at hg hu hv⊢
   repeat(refine wkA ?_;intros)
   refine Zl rfl (fun h=>?_) (fun h=>?_)
   ·have hv0:v≠0:=fun h0=>by subst h0;simp at h
    have hm:=Nat.mod_lt u (Nat.pos_of_ne_zero hv0)
    have hum:((u:Int) % (v:Int))=((u % v:Nat):Int):=rfl
    repeat(refine wkA ?_;intros)
    (refine Za9 [0,1,2,3] [4,5] ([]) (h:=?_);refine wkI ?_)
    (repeat(refine wkH ?_))
    refine hq (Zgd rfl rfl ?_) rfl rfl ?_
    ·omega
    rw[hum]
    refine Zn ?_
    refine Zbi rfl rfl rfl (Wk _) (Zbi rfl rfl rfl (Wk _) (Zba ?_))
    repeat(refine wkA ?_;intros)
    exact Zh (v,u % v) ⟨by simp only;rw[<-hg,Nat.gcd_comm u v,Nat.gcd_comm v,Nat.gcd_rec v u],by omega,by omega⟩ sbB sbl hm
   ·have hv0:v=0:=by
     have:(v:Int)=0:=by simpa using h
     omega
    subst hv0
    rw[Nat.gcd_zero_right] at hg
    subst hg
    repeat(first|(refine wkA ?_;intros)|(refine sC rfl rfl ?_ ?_;focus(first|exact trivial|omega)))
    exact rtC rfl rfl
  ·repeat(first|(refine wkA ?_;intros)|(refine sC rfl rfl ?_ ?_;focus(first|exact trivial|exact⟨hy0,hx,hy⟩)))
   have hm:=Nat.mod_lt x (Nat.pos_of_ne_zero hy0)
   exact Zh (y,x % y) ⟨by simp only;rw[<-hg,Nat.gcd_comm x y,Nat.gcd_comm y,Nat.gcd_rec y x],hy,Wi (Zch (Nat.mod_le _ _)) hx⟩ sbB sbl hm
 ·have hn:mag y=⟨#[]⟩:=by simpa using h
  have hy0:=ZaQ.1 hn
  subst hy0
  rw[Nat.gcd_zero_right] at hg
  subst hg
  repeat(refine wkA ?_;intros)
  exact rtC rfl rfl
instance ZKH (a b:Int):SpecC prog 172 [vI a,vI b] (vI (Int.gcd a b)) (mg a<=LIM/\mg b<=LIM):=⟨fun h w=>ZsA a b h.1 h.2 w⟩
end
section
def dn (q:Rat):Int:=if q.den=1 then 0 else q.den
def Q (q:Rat):Z1:=⟨I q.num,I (dn q)⟩
abbrev vQ (q:Rat):Value:= .agg (Zu (Q q))
def M (q:Rat):Nat:=max (mg q.num) (mg q.den)
abbrev LQ :Nat:=274877906944
theorem Zck {a b:Int}:I a=I b↔a=b:=by
 refine⟨fun h=>?_,fun h=>by rw[h]⟩
 have h1:=congrArg Zan.Neg h
 have h2:=congrArg Zan.Mag h
 simp only[I] at h1 h2
 have h3:=ZhW.1 h2
 by_cases ha:a<0 <;> by_cases hb:b<0 <;> simp[ha,hb] at h1 <;> omega
theorem Zlc {p q:Rat}:dn p=dn q↔p.den=q.den:=by
 have h1:=p.den_pos
 have h2:=q.den_pos
 unfold dn
 split <;> split <;> omega
theorem Zel {p q:Rat}:Q p=Q q↔p=q:=by
 refine⟨fun h=>?_,fun h=>by rw[h]⟩
 have h1:=Zck.1 (congrArg Z1.Num h)
 have h2:=Zlc.1 (Zck.1 (congrArg Z1.Den h))
 exact Rat.ext h1 h2
theorem z_I :ZaW=I 0:=by decide
theorem z_Q :Zcb=Q 0:=by decide
instance (priority :=high) zeroI:ZeroC prog 52 (vI 0) (ZM (I 0)):=⟨by have h:= @ZeroC.out prog 52 (.agg (ZM ZaW)) (ZM ZaW) inferInstance;rw[z_I] at h;exact h,rfl⟩
instance (priority :=high) zeroQ:ZeroC prog 54 (vQ 0) (Zu (Q 0)):=⟨by have h:= @ZeroC.out prog 54 (.agg (Zu Zcb)) (Zu Zcb) inferInstance;rw[z_Q] at h;exact h,rfl⟩
instance (priority :=high) bdI0:BdC prog 52 [] (vI 0):=⟨by have h:= @BdC.out prog 52 [] (.agg (ZM ZaW)) inferInstance;rw[z_I] at h;exact h⟩
instance (priority :=high) bdQ0:BdC prog 54 [] (vQ 0):=⟨by have h:= @BdC.out prog 54 [] (.agg (Zu Zcb)) inferInstance;rw[z_Q] at h;exact h⟩
instance (priority :=high) ZIR (q:Rat):LdC prog 52 (Zu (Q q)) 0 (vI q.num):=⟨ZO 2⟩
instance (priority :=high) ZGO (q:Rat):LdC prog 52 (Zu (Q q)) 2 (vI (dn q)):=⟨ZO 2⟩
instance (priority :=high) eqI (a b:Int):BinC prog .eql 52 (vI a) (vI b) (.bool (decide (a=b))):=by
 have h:decide (I a=I b)=decide (a=b):=by rw[decide_eq_decide];exact Zck
 exact h▸(inferInstance:BinC prog .eql 52 (vI a) (vI b) (.bool (decide (I a=I b))))
instance (priority :=high) eqQ (a b:Rat):BinC prog .eql 54 (vQ a) (vQ b) (.bool (decide (a=b))):=by
 have h:decide (Q a=Q b)=decide (a=b):=by rw[decide_eq_decide];exact Zel
 exact h▸(inferInstance:BinC prog .eql 54 (vQ a) (vQ b) (.bool (decide (Q a=Q b))))
theorem Zbc (q:Rat):mg q.num<=M q:=Nat.le_max_left _ _
theorem Za5 (q:Rat):mg q.den<=M q:=Nat.le_max_right _ _
theorem ZjX (n:Nat):mg (n:Int)=(mag n).size:=by unfold mg;rw[Int.natAbs_natCast]
theorem ZlI (a:Int)(g:Nat)(h:(g:Int)∣a):(a / (g:Int)).natAbs<=a.natAbs:=by
 obtain⟨k,rfl⟩:=h
 rcases Nat.eq_zero_or_pos g with h|h
 ·subst h;simp
 ·rw[Int.mul_ediv_cancel_left _ (by omega),Int.natAbs_mul,Int.natAbs_natCast]
  exact Nat.le_mul_of_pos_left _ h
theorem Zea {a b:Int}{k:Nat}(ha:mg a<=k)(hb:mg b<=k)(h1:1<=k):M (Rat.divInt a b)<=k:=by
 refine Nat.max_le.2 ⟨?_, ?_⟩
 ·refine Wi (Zmq ?_) ha
  rw[Rat.num_divInt]
  refine Wi (ZlI _ _ ?_) ?_
  ·exact Int.dvd_trans (Int.gcd_dvd_right ..) (Int.dvd_mul_left _ _)
  ·rw[Int.natAbs_mul]
   have:b.sign.natAbs<=1:=by rw[Int.natAbs_sign];split <;> omega
   calc b.sign.natAbs*a.natAbs<=1*a.natAbs:=Nat.mul_le_mul_right _ this
    _=a.natAbs:=Nat.one_mul _
 ·rw[Rat.den_divInt,ZjX]
  split
  ·exact Wi (by decide) h1
  ·exact Wi (Zch (Nat.div_le_self _ _)) hb
theorem ZfM (q:Rat):(q.den:Int)≠0:=by have:=q.den_pos;omega
theorem Zhy (a b:Rat):a+b=Rat.divInt (a.num*b.den+b.num*a.den) (a.den*b.den):=by
 rw[Rat.add_def',<-Rat.divInt_ofNat,Int.natCast_mul]
theorem Zhq (a b:Rat):a*b=Rat.divInt (a.num*b.num) (a.den*b.den):=by
 rw[Rat.mul_def',<-Rat.divInt_ofNat,Int.natCast_mul]
theorem Zhu (a b:Rat):a / b=Rat.divInt (a.num*b.den) (a.den*b.num):=by
 conv=>lhs;rw[Rat.div_def,<-Rat.num_divInt_den a,<-Rat.num_divInt_den b,Rat.inv_divInt,Rat.divInt_mul_divInt]
theorem ZoP {q:Rat}:1<=M q:=by
 refine Wi ?_ (Za5 q)
 rw[ZjX]
 rcases Nat.eq_zero_or_pos (mag q.den).size with h|h
 ·have h1:=(ZaS (n:=q.den) (k:=0)).1 (by omega)
  have:=q.den_pos
  simp at h1
  omega
 ·exact h
theorem Zju (a b:Rat):M (a+b)<=M a+M b+1:=by
 rw[Zhy]
 have h1:=Zbc a
 have h2:=Za5 a
 have h3:=Zbc b
 have h4:=Za5 b
 refine Zea (ZqI (k:=M a+M b) ?_ ?_) ?_ (by omega)
 ·exact Wi (Zbu _ _) (by omega)
 ·exact Wi (Zbu _ _) (by omega)
 ·exact Wi (Zbu _ _) (by omega)
theorem Zor (a b:Rat):M (a*b)<=M a+M b:=by
 rw[Zhq]
 have h1:=Zbc a
 have h2:=Za5 a
 have h3:=Zbc b
 have h4:=Za5 b
 have h5:= @ZoP a
 exact Zea (Wi (Zbu _ _) (by omega)) (Wi (Zbu _ _) (by omega)) (by omega)
theorem ZzW (a b:Rat):M (a / b)<=M a+M b:=by
 rw[Zhu]
 have h1:=Zbc a
 have h2:=Za5 a
 have h3:=Zbc b
 have h4:=Za5 b
 have h5:= @ZoP a
 exact Zea (Wi (Zbu _ _) (by omega)) (Wi (Zbu _ _) (by omega)) (by omega)
theorem Zs2 (a:Rat):M (-a)=M a:=by unfold M;rw[Rat.neg_num,Rat.neg_den,Zhx]
theorem ZyS (a b:Rat):M (a-b)<=M a+M b+1:=by rw[Rat.sub_eq_add_neg,<-Zs2 b];exact Zju _ _
class MB (q:Rat)(k:outParam Nat):Prop where out:M q<=k
instance ZJz (a b:Rat)(j k:Nat)[h1:MB a j][h2:MB b k]:MB (a+b) (j+k+1):=⟨by have:=Zju a b;have:=h1.out;have:=h2.out;omega⟩
instance ZKk (a b:Rat)(j k:Nat)[h1:MB a j][h2:MB b k]:MB (a-b) (j+k+1):=⟨by have:=ZyS a b;have:=h1.out;have:=h2.out;omega⟩
instance ZJN (a b:Rat)(j k:Nat)[h1:MB a j][h2:MB b k]:MB (a*b) (j+k):=⟨by have:=Zor a b;have:=h1.out;have:=h2.out;omega⟩
instance ZKh (a b:Rat)(j k:Nat)[h1:MB a j][h2:MB b k]:MB (a / b) (j+k):=⟨by have:=ZzW a b;have:=h1.out;have:=h2.out;omega⟩
instance Zgu :MB 0 1:=⟨by decide⟩
theorem Znx (n:Int):M (n:Rat)=max (mg n) 1:=by unfold M;rw[Rat.num_intCast,Rat.den_intCast];rfl
theorem ZJl {n:Int}(h: -9223372036854775808<=n/\n<=9223372036854775807):M (n:Rat)<=8:=by
 rw[Znx]
 refine Nat.max_le.2 ⟨Zc3 ?_,by decide⟩
 have:(256:Nat) ^ 8=18446744073709551616:=by decide
 omega
instance ZJZ :SpecC prog 171 [] (vI 1) True:=⟨fun _ w=>by
 refine Zg Tryz.func171 rfl Tryz.ntmps171 rfl ?_
 repeat(first|(refine wkA ?_;intros)|(refine sC rfl rfl ?_ ?_;focus(first|exact trivial|omega)))
 exact rtC rfl rfl⟩
theorem ZhS {q:Rat}:dn q=0↔q.den=1:=by
 have:=q.den_pos
 unfold dn
 split <;> omega
instance ZJw (q:Rat):SpecC prog 144 [vQ q] (vI q.den) True:=⟨fun _ w=>by
 refine Zg Tryz.func144 rfl Tryz.ntmps144 rfl ?_
 repeat(refine wkA ?_;intros)
 refine Zl rfl (fun h=>?_) (fun h=>?_)
 ·have h1:=ZhS.1 (Wa h)
  rw[h1]
  repeat(refine wkA ?_;intros)
  exact rtC rfl rfl
 ·have h1:¬q.den=1:=fun h0=>Wb h (ZhS.2 h0)
  have h2:dn q=q.den:=by unfold dn;rw[if_neg h1]
  repeat(refine wkA ?_;intros)
  exact ZcH rfl rfl (fun w hw=>by rw[<-h2];exact ZZ hw)⟩
instance Zxi (a b:Int):SpecC prog 194 [vI a,vI b] (vI (a / b)) (b≠0/\mg a<=LIM/\mg b<=LIM):=⟨fun hp w=>by
 refine Zg Tryz.func194 rfl Tryz.ntmps194 rfl ?_
 repeat(refine wkA ?_;intros)
 exact rtC rfl rfl⟩
theorem ZiZ {x y:Int}(hy:0<y):(Rat.divInt x y).num=x / (Int.gcd x y:Int)/\((Rat.divInt x y).den:Int)=y / (Int.gcd x y:Int):=by
 refine⟨?_, ?_⟩
 ·rw[Rat.num_divInt,Int.sign_eq_one_of_pos hy,Int.one_mul,Int.gcd_comm]
 ·rw[Rat.den_divInt,if_neg (by omega),Int.gcd_comm,Int.natCast_ediv]
  congr 1
  omega
instance ZvR (x y:Int):SpecC prog 141 [vI x,vI y] (vQ (Rat.divInt x y)) (y≠0/\mg x<=LIM/\mg y<=LIM):=⟨fun hp w=>by
 obtain⟨hy,hx,hl⟩:=hp
 refine Zg Tryz.func141 rfl Tryz.ntmps141 rfl ?_
 repeat(refine wkA ?_;intros)
 rename_i ba bb bc
 refine Zav (S:=Int×Int) (fun s=>0<s.2/\Rat.divInt s.1 s.2=Rat.divInt x y/\mg s.1<=LIM/\mg s.2<=LIM) (fun _=>[(2, .pointer (some ⟨ba,0,none⟩)),(3, .pointer (some ⟨bb,0,none⟩)),(4, .pointer (some ⟨bc,0,none⟩))]) (fun s=>[⟨bc,Zu (Q 0),54⟩,⟨bb,ZM (I s.2),52⟩,⟨ba,ZM (I s.1),52⟩]) ?_ (fun s hs=>?_)
 ·refine Zl rfl (fun h=>?_) (fun h=>?_)
  ·have hneg:y<0:=Int.sign_neg_iff.1 (Wa h)
   repeat(refine wkA ?_;intros)
   (refine jD 4 4 (h:=?_);(repeat(refine wkH ?_));refine Zn ?_;(repeat(refine Z4 ?_;intro _));refine Zr ?_)
   repeat(refine wkA ?_;intros)
   exact Zt (-x, -y) ⟨by simp only;omega,Rat.neg_divInt_neg _ _,by simp only[Zhx];exact hx,by simp only[Zhx];exact hl⟩ sbB sbl
  ·have hpos:0<y:=by
    have h1:¬y.sign<0:=Wb h
    have h2:¬y<0:=fun h3=>h1 (Int.sign_neg_iff.2 h3)
    omega
   repeat(refine wkA ?_;intros)
   exact Zt (x,y) ⟨hpos,rfl,hx,hl⟩ sbB sbl
 obtain⟨p,q⟩:=s
 obtain⟨hq0,heq,hp,hq⟩:=hs
 simp only at hq0 heq hp hq⊢
 obtain⟨e1,e2⟩:=ZiZ (x:=p) hq0
 have hg0:((Int.gcd p q:Nat):Int)≠0:=by
  have:=Int.gcd_pos_of_ne_zero_right p (Int.ne_of_gt hq0)
  omega
 have hg1:mg (Int.gcd p q:Nat)<=LIM:=by
  refine Wi (Zmq ?_) hq
  rw[Int.natAbs_natCast]
  exact Nat.le_of_dvd (by omega) (Int.gcd_dvd_natAbs_right p q)
 rw[<-heq]
 generalize hgd:((Int.gcd p q:Nat):Int)=g at*
 repeat(first|(refine wkA ?_;intros)|(refine sC rfl rfl ?_ ?_;focus(first|exact trivial|assumption|exact⟨hp,hq⟩)))
 rw[hgd]
 (refine jD 6 6 (h:=?_);(repeat(first|refine wkH ?_|(refine tC rfl rfl ?_ ?_;focus(first|exact trivial|exact⟨hg0,hp,hg1⟩|exact⟨hg0,hq,hg1⟩))));refine Zn ?_;(repeat(refine Z4 ?_;intro _));refine Zr ?_)
 rw[<-e1,<-e2]
 repeat(refine wkA ?_;intros)
 (refine jD 3 3 (h:=?_);(repeat(refine wkH ?_));refine Zn ?_;(repeat(refine Z4 ?_;intro _));refine Zr ?_)
 repeat(refine wkA ?_;intros)
 have key:∀d:Int,(if(Rat.divInt p q).den=1 then 0 else((Rat.divInt p q).den:Int))=d->(⟨I (Rat.divInt p q).num,I d⟩:Z1)=Q (Rat.divInt p q):=fun d hd=>by rw[<-hd];rfl
 refine Zl rfl (fun h=>?_) (fun h=>?_)
 ·have h1:(Rat.divInt p q).den=1:=by have:=Wa h;omega
  repeat(refine wkA ?_;intros)
  exact ZcH rfl rfl (fun w hw=>by rw[key 0 (by rw[if_pos h1])];exact ZZ hw)
 ·have h1:¬(Rat.divInt p q).den=1:=fun h0=>Wb h (by omega)
  repeat(refine wkA ?_;intros)
  exact ZcH rfl rfl (fun w hw=>by rw[key _ (by rw[if_neg h1])];exact ZZ hw)⟩
instance ZIa (x y:Int):SpecC prog 219 [vI x,vI y] (.tuple #[vQ (Rat.divInt x y), .int .i64 (if y=0 then 6 else 0)]) (mg x<=LIM/\mg y<=LIM):=⟨fun hp w=>by
 refine Zg Tryz.func219 rfl Tryz.ntmps219 rfl ?_
 repeat(refine wkA ?_;intros)
 refine Zl rfl (fun h=>?_) (fun h=>?_)
 ·have h1:y=0:=Int.sign_eq_zero_iff_zero.1 (Wa h)
  subst h1
  rw[Rat.divInt_zero,if_pos rfl]
  repeat(refine wkA ?_;intros)
  exact ZA rfl (Zab rfl) (Zk rfl) (fun w hw=>ZZ hw)
 ·have h1:¬y=0:=fun h0=>Wb h (by rw[h0];rfl)
  rw[if_neg h1]
  repeat(first|(refine wkA ?_;intros)|(refine sC rfl rfl ?_ ?_;focus(first|exact trivial|exact⟨h1,hp.1,hp.2⟩)))
  exact ZA rfl (Zab rfl) (Zk rfl) (fun w hw=>ZZ hw)⟩
theorem Zm1 {n:Int}(h: -9223372036854775808<=n/\n<=9223372036854775807):mg n<=LIM:=by
 refine Wi (Zc3 (k:=8) ?_) (by decide)
 have:(256:Nat) ^ 8=18446744073709551616:=by decide
 omega
instance Zwn (x y:Int):SpecC prog 165 [.int .i64 x, .int .i64 y] (.tuple #[vQ (Rat.divInt x y), .int .i64 (if y=0 then 6 else 0)]) ((-9223372036854775808<=x/\x<=9223372036854775807)/\(-9223372036854775808<=y/\y<=9223372036854775807)):=⟨fun hp w=>by
 refine Zg Tryz.func165 rfl Tryz.ntmps165 rfl ?_
 repeat(first|(refine wkA ?_;intros)|(refine sC rfl rfl ?_ ?_;focus(first|exact trivial|exact hp.1|exact hp.2|exact⟨Zm1 hp.1,Zm1 hp.2⟩)))
 exact ZA rfl (Zab rfl) (Zk rfl) (fun w hw=>ZZ hw)⟩
theorem Ztj (n:Int):(⟨I n,I 0⟩:Z1)=Q (n:Rat):=rfl
instance Zw5 (n:Int):SpecC prog 35 [.int .i64 n] (vQ (n:Rat)) (-9223372036854775808<=n/\n<=9223372036854775807):=⟨fun hp w=>by
 refine Zg Tryz.func35 rfl Tryz.ntmps35 rfl ?_
 repeat(refine wkA ?_;intros)
 exact ZcH rfl rfl (fun w hw=>by rw[z_I,Ztj];exact ZZ hw)⟩
def crs (a b:Rat):Int×Int×Int:=if a.den=b.den then(a.num,b.num,a.den) else(a.num*b.den,b.num*a.den,a.den*b.den)
theorem Zt4 (a b:Rat):mg (crs a b).1<=M a+M b/\mg (crs a b).2.1<=M a+M b/\mg (crs a b).2.2<=M a+M b:=by
 have h1:=Zbc a
 have h2:=Za5 a
 have h3:=Zbc b
 have h4:=Za5 b
 have h5:=Zbu a.num b.den
 have h6:=Zbu b.num a.den
 have h7:=Zbu a.den b.den
 unfold crs
 split <;> exact⟨by simp only;omega,by simp only;omega,by simp only;omega⟩
theorem ZmD (a b:Rat):0<(crs a b).2.2:=by
 have h1:=a.den_pos
 have h2:=b.den_pos
 unfold crs
 split
 ·show(0:Int)<a.den
  omega
 ·exact Int.mul_pos (by omega) (by omega)
theorem Zus (a b:Rat):a=Rat.divInt (crs a b).1 (crs a b).2.2/\b=Rat.divInt (crs a b).2.1 (crs a b).2.2:=by
 have ha:=ZfM a
 have hb:=ZfM b
 unfold crs
 split
 ·rename_i h
  exact⟨(Rat.num_divInt_den a).symm,by rw[h];exact(Rat.num_divInt_den b).symm⟩
 ·refine⟨?_, ?_⟩
  ·conv=>lhs;rw[<-Rat.num_divInt_den a]
   exact(Rat.divInt_mul_right hb).symm
  ·conv=>lhs;rw[<-Rat.num_divInt_den b]
   rw[Int.mul_comm (a.den:Int)]
   exact(Rat.divInt_mul_right ha).symm
theorem Zur (a b:Rat):Rat.divInt ((crs a b).1+(crs a b).2.1) (crs a b).2.2=a+b:=by
 have h:=ZmD a b
 obtain⟨h1,h2⟩:=Zus a b
 have h3:(crs a b).2.2≠0:=by omega
 have e:a+b=Rat.divInt (crs a b).1 (crs a b).2.2+Rat.divInt (crs a b).2.1 (crs a b).2.2:=by rw[<-h1,<-h2]
 rw[e,Rat.divInt_add_divInt _ _ h3 h3,<-Int.add_mul]
 exact(Rat.divInt_mul_right h3).symm
def cq (a b:Rat):Int:=if a<b then-1 else if b<a then 1 else 0
theorem Zuz (a b:Rat):Lib.compareInt (crs a b).1 (crs a b).2.1=cq a b:=by
 have key:∀x y:Rat,x<y↔x.num*y.den<y.num*x.den:=Rat.lt_iff
 have h:((crs a b).1<(crs a b).2.1↔a<b)/\((crs a b).2.1<(crs a b).1↔b<a):=by
  unfold crs
  rw[key a b,key b a]
  have h1:=a.den_pos
  split
  ·rename_i hd
   rw[hd]
   have h2:(0:Int)<b.den:=by have:=b.den_pos;omega
   exact⟨(Int.mul_lt_mul_right h2).symm,(Int.mul_lt_mul_right h2).symm⟩
  ·exact⟨Iff.rfl,Iff.rfl⟩
 unfold Lib.compareInt cq
 simp only[h.1,h.2,GT.gt]
instance ZEp (a b:Rat):SpecC prog 109 [vQ a,vQ b] (.tuple #[vI (crs a b).1,vI (crs a b).2.1,vI (crs a b).2.2]) (M a<=LQ/\M b<=LQ):=⟨fun hp w=>by
 have hL:LQ<=LIM:=by decide
 have h1:=Wi (Wi (Zbc a) hp.1) hL
 have h2:=Wi (Wi (Za5 a) hp.1) hL
 have h3:=Wi (Wi (Zbc b) hp.2) hL
 have h4:=Wi (Wi (Za5 b) hp.2) hL
 refine Zg Tryz.func109 rfl Tryz.ntmps109 rfl ?_
 repeat(refine wkA ?_;intros)
 refine Zl rfl (fun h=>?_) (fun h=>?_)
 ·have hd:a.den=b.den:=Zlc.1 (Wa h)
  rw[show crs a b=(a.num,b.num,(a.den:Int)) by unfold crs;rw[if_pos hd]]
  repeat(refine wkA ?_;intros)
  rename_i ba bb bc bd be
  (refine Za9 [0,1,2,3,4,5] [6,7,8] ([⟨bb,Zu (Q b),54⟩,⟨ba,Zu (Q a),54⟩]) (h:=?_);refine wkI ?_)
  (repeat(refine wkH ?_))
  refine Zn ?_
  refine Zfn rfl rfl rfl sbl (Zfn rfl rfl rfl sbl (Zfn rfl rfl rfl sbl (Zba ?_)))
  repeat(refine wkA ?_;intros)
  exact ZaB rfl (Zab rfl) (Zab rfl) (Zab rfl) (fun w hw=>ZZ hw)
 ·have hd:¬a.den=b.den:=fun h0=>Wb h (Zlc.2 h0)
  rw[show crs a b=(a.num*b.den,b.num*a.den,(a.den:Int)*b.den) by unfold crs;rw[if_neg hd]]
  repeat(refine wkA ?_;intros)
  (refine jD 15 15 (h:=?_);(repeat(refine wkH ?_));refine Zn ?_;(repeat(refine Z4 ?_;intro _));refine Zr ?_)
  repeat(refine wkA ?_;intros)
  exact ZaB rfl (Zab rfl) (Zab rfl) (Zab rfl) (fun w hw=>ZZ hw)⟩
theorem LQ2 {j k:Nat}(h:j<=LQ/\k<=LQ):j+k+1<=LIM:=by
 have h1:LQ+LQ+1<=LIM:=by decide
 exact Wi (Nat.add_le_add_right (Nat.add_le_add h.1 h.2) 1) h1
instance ZIt (a b:Rat):SpecC prog 88 [vQ a,vQ b] (vQ (a+b)) (M a<=LQ/\M b<=LQ):=⟨fun hp w=>by
 obtain⟨h1,h2,h3⟩:=Zt4 a b
 have hL:=LQ2 hp
 have g1:mg (crs a b).1<=LIM:=Wi (Nat.le_succ_of_le h1) hL
 have g2:mg (crs a b).2.1<=LIM:=Wi (Nat.le_succ_of_le h2) hL
 have g3:mg (crs a b).2.2<=LIM:=Wi (Nat.le_succ_of_le h3) hL
 have g4:mg ((crs a b).1+(crs a b).2.1)<=LIM:=Wi (ZqI h1 h2) hL
 have g5:(crs a b).2.2≠0:=Int.ne_of_gt (ZmD a b)
 refine Zg Tryz.func88 rfl Tryz.ntmps88 rfl ?_
 repeat(refine wkA ?_;intros)
 (refine jD 5 5 (h:=?_);(repeat(first|refine wkH ?_|(refine tC rfl rfl ?_ ?_;focus(first|exact⟨by assumption,by assumption⟩|exact⟨g5,g4,g3⟩))));refine Zn ?_;(repeat(refine Z4 ?_;intro _));refine Zr ?_)
 rw[Zur]
 repeat(refine wkA ?_;intros)
 exact rtC rfl rfl⟩
instance ZG5 (a b:Rat):SpecC prog 89 [vQ a,vQ b] (vQ (a*b)) (M a<=LQ/\M b<=LQ):=⟨fun hp w=>by
 have hL:LQ<=LIM:=by decide
 have hM:=LQ2 hp
 have h1:=Wi (Wi (Zbc a) hp.1) hL
 have h2:=Wi (Wi (Za5 a) hp.1) hL
 have h3:=Wi (Wi (Zbc b) hp.2) hL
 have h4:=Wi (Wi (Za5 b) hp.2) hL
 have g1:mg (a.num*b.num)<=LIM:=Wi (Zbu _ _) (Wi (Nat.le_succ_of_le (Nat.add_le_add (Zbc a) (Zbc b))) hM)
 have g2:mg ((a.den:Int)*b.den)<=LIM:=Wi (Zbu _ _) (Wi (Nat.le_succ_of_le (Nat.add_le_add (Za5 a) (Za5 b))) hM)
 have g3:(a.den:Int)*b.den≠0:=Int.mul_ne_zero (ZfM a) (ZfM b)
 refine Zg Tryz.func89 rfl Tryz.ntmps89 rfl ?_
 repeat(refine wkA ?_;intros)
 (refine jD 11 11 (h:=?_);(repeat(first|refine wkH ?_|(refine tC rfl rfl ?_ ?_;focus(first|exact trivial|exact⟨by assumption,by assumption⟩|exact⟨g3,g1,g2⟩))));refine Zn ?_;(repeat(refine Z4 ?_;intro _));refine Zr ?_)
 rw[<-Zhq]
 repeat(refine wkA ?_;intros)
 exact rtC rfl rfl⟩
instance ZHv (a b:Rat):SpecC prog 173 [vQ a,vQ b] (.tuple #[vQ (a / b), .int .i64 (if b=0 then 6 else 0)]) (M a<=LQ/\M b<=LQ):=⟨fun hp w=>by
 have hL:LQ<=LIM:=by decide
 have hM:=LQ2 hp
 have h1:=Wi (Wi (Zbc a) hp.1) hL
 have h2:=Wi (Wi (Za5 a) hp.1) hL
 have h3:=Wi (Wi (Zbc b) hp.2) hL
 have h4:=Wi (Wi (Za5 b) hp.2) hL
 have g1:mg (a.num*b.den)<=LIM:=Wi (Zbu _ _) (Wi (Nat.le_succ_of_le (Nat.add_le_add (Zbc a) (Za5 b))) hM)
 have g2:mg ((a.den:Int)*b.num)<=LIM:=Wi (Zbu _ _) (Wi (Nat.le_succ_of_le (Nat.add_le_add (Za5 a) (Zbc b))) hM)
 have hz:((a.den:Int)*b.num=0)↔b=0:=by
  rw[Int.mul_eq_zero,Rat.num_eq_zero]
  exact⟨fun h=>h.resolve_left (ZfM a), .inr⟩
 refine Zg Tryz.func173 rfl Tryz.ntmps173 rfl ?_
 repeat(refine wkA ?_;intros)
 (refine jD 13 13 (h:=?_);(repeat(refine wkH ?_));refine Zn ?_;(repeat(refine Z4 ?_;intro _));refine Zr ?_)
 rw[<-Zhu]
 simp only[hz]
 repeat(refine wkA ?_;intros)
 exact ZA rfl (Zab rfl) (Zk rfl) (fun w hw=>ZZ hw)⟩
theorem Zzj (q:Rat):(⟨I (-q.num),I (dn q)⟩:Z1)=Q (-q):=rfl
instance ZHx (a:Rat):SpecC prog 111 [vQ a] (vQ (-a)) True:=⟨fun _ w=>by
 refine Zg Tryz.func111 rfl Tryz.ntmps111 rfl ?_
 repeat(refine wkA ?_;intros)
 (refine jD 6 6 (h:=?_);(repeat(refine wkH ?_));refine Zn ?_;(repeat(refine Z4 ?_;intro _));refine Zr ?_)
 rw[Zzj]
 repeat(refine wkA ?_;intros)
 exact rtC rfl rfl⟩
instance ZIF (a b:Rat):SpecC prog 61 [vQ a,vQ b] (vQ (a-b)) (M a<=LQ/\M b<=LQ):=⟨fun hp w=>by
 have h1:=hp.1
 have h2:M (-b)<=LQ:=by rw[Zs2];exact hp.2
 refine Zg Tryz.func61 rfl Tryz.ntmps61 rfl ?_
 repeat(refine wkA ?_;intros)
 (refine jD 4 4 (h:=?_);(repeat(refine wkH ?_));refine Zn ?_;(repeat(refine Z4 ?_;intro _));refine Zr ?_)
 rw[<-Rat.sub_eq_add_neg]
 repeat(refine wkA ?_;intros)
 exact rtC rfl rfl⟩
instance Zxc (a b:Rat):SpecC prog 60 [vQ a,vQ b] (.int .i64 (cq a b)) (M a<=LQ/\M b<=LQ):=⟨fun hp w=>by
 refine Zg Tryz.func60 rfl Tryz.ntmps60 rfl ?_
 repeat(refine wkA ?_;intros)
 refine Zl rfl (fun h=>?_) (fun h=>?_)
 ·have h1:a=b:=Wa h
  rw[show cq a b=0 by unfold cq;rw[h1,if_neg Rat.lt_irrefl,if_neg Rat.lt_irrefl]]
  repeat(refine wkA ?_;intros)
  exact rtT rfl rfl
 ·repeat(refine wkA ?_;intros)
  rw[Zuz]
  repeat(refine wkA ?_;intros)
  exact rtT rfl rfl⟩
instance ZDj (a:Rat):SpecC prog 136 [vQ a] (.int .i64 a.num.sign) True:=⟨fun _ w=>by
 refine Zg Tryz.func136 rfl Tryz.ntmps136 rfl ?_
 repeat(refine wkA ?_;intros)
 exact rtT rfl rfl⟩
theorem Zjt {a b:Rat}:cq a b<=0↔a<=b:=by unfold cq;grind
theorem Zjr {a b:Rat}:0<cq a b↔b<a:=by unfold cq;grind
theorem ZdC {a b:Rat}:cq a b<0↔a<b:=by unfold cq;grind
theorem Zb7 {a b:Rat}:cq a b=0↔a=b:=by unfold cq;grind
end
section
structure Zc where
 T:Rat
 Report:Zb
 deriving DecidableEq
def ZJ (x:Zc):Zce:=⟨Q x.T,x.Report⟩
def ZcU :Zc:=⟨0,Zat⟩
theorem Zql {x y:Zc}:ZJ x=ZJ y↔x=y:=by
 cases x;cases y;simp only[ZJ,Zce.mk.injEq,Zc.mk.injEq,Zel,Zck]
instance (priority :=high) ZKY:ZeroC prog 56 (.agg (ZL (ZJ ZcU))) (ZL (ZJ ZcU)):=⟨by kernel_rfl,rfl⟩
instance (priority :=high) ZyV (x:Zc):LdC prog 56 (ZL (ZJ x)) 0 (.agg (ZL (ZJ x))):=⟨ZO 12⟩
instance (priority :=high) Zy8 (x:Zc):LdC prog 54 (ZL (ZJ x)) 0 (vQ x.T):=⟨ZO 4⟩
instance (priority :=high) ZAy (x:Zc):LdC prog 3 (ZL (ZJ x)) 5 (.int .i64 x.Report.Seq):=⟨ZC⟩
instance (priority :=high) ZBx (x:Zc):LdC prog 3 (ZL (ZJ x)) 9 (.int .i64 x.Report.X):=⟨ZC⟩
instance (priority :=high) ZzG (x:Zc):LdC prog 3 (ZL (ZJ x)) 10 (.int .i64 x.Report.Y):=⟨ZC⟩
instance (priority :=high) ZCi (x0:Rat)(x1:Zb):BdC prog 56 [(0,vQ x0),(1, .agg (Zd x1))] (.agg (ZL (ZJ ⟨x0,x1⟩))):=⟨fun w=>by kernel_rfl⟩
structure Zal where
 X:Rat
 Y:Rat
 deriving DecidableEq
def ZaO (x:Zal):Zep:=⟨Q x.X,Q x.Y⟩
def Zd2 :Zal:=⟨0,0⟩
instance (priority :=high) ZKV:ZeroC prog 93 (.agg (ZaN (ZaO Zd2))) (ZaN (ZaO Zd2)):=⟨by kernel_rfl,rfl⟩
instance (priority :=high) ZzI (x:Zal):LdC prog 93 (ZaN (ZaO x)) 0 (.agg (ZaN (ZaO x))):=⟨ZO 8⟩
instance (priority :=high) ZzZ (x:Zal):LdC prog 54 (ZaN (ZaO x)) 0 (vQ x.X):=⟨ZO 4⟩
instance (priority :=high) Zzt (x:Zal):LdC prog 54 (ZaN (ZaO x)) 4 (vQ x.Y):=⟨ZO 4⟩
instance (priority :=high) ZA7 (x0:Rat)(x1:Rat):BdC prog 93 [(0,vQ x0),(1,vQ x1)] (.agg (ZaN (ZaO ⟨x0,x1⟩))):=⟨fun w=>by kernel_rfl⟩
structure Zp where
 P:Rat
 R:Rat
 Neg:Bool
 deriving DecidableEq
def Zw (x:Zp):ZaU:=⟨Q x.P,Q x.R,x.Neg⟩
def Zbh :Zp:=⟨0,0,false⟩
theorem ZbI {x y:Zp}:Zw x=Zw y↔x=y:=by
 cases x;cases y;simp only[Zw,ZaU.mk.injEq,Zp.mk.injEq,Zel,Zck]
instance (priority :=high) ZKP:ZeroC prog 97 (.agg (Zs (Zw Zbh))) (Zs (Zw Zbh)):=⟨by kernel_rfl,rfl⟩
instance (priority :=high) Zy9 (x:Zp):LdC prog 97 (Zs (Zw x)) 0 (.agg (Zs (Zw x))):=⟨ZO 9⟩
instance (priority :=high) ZyX (x:Zp):LdC prog 54 (Zs (Zw x)) 0 (vQ x.P):=⟨ZO 4⟩
instance (priority :=high) Zzh (x:Zp):LdC prog 54 (Zs (Zw x)) 4 (vQ x.R):=⟨ZO 4⟩
instance (priority :=high) ZA2 (x:Zp):LdC prog 4 (Zs (Zw x)) 8 (.bool x.Neg):=⟨ZC⟩
instance (priority :=high) ZHn (x0:Rat):BdC prog 97 [(0,vQ x0)] (.agg (Zs (Zw ⟨x0,0,false⟩))):=⟨fun w=>by kernel_rfl⟩
instance (priority :=high) ZHr (x y:Zp):BinC prog .eql 97 (.agg (Zs (Zw x))) (.agg (Zs (Zw y))) (.bool (decide (x=y))):=by
 have h:decide (Zw x=Zw y)=decide (x=y):=by rw[decide_eq_decide];exact ZbI
 exact h▸(inferInstance:BinC prog .eql 97 (.agg (Zs (Zw x))) (.agg (Zs (Zw y))) (.bool (decide (Zw x=Zw y))))
structure ZbA where
 Value:Zp
 At:Zp
 Reached:Bool
 deriving DecidableEq
def Zby (x:ZbA):ZcP:=⟨Zw x.Value,Zw x.At,x.Reached⟩
theorem Zji {x y:ZbA}:Zby x=Zby y↔x=y:=by
 cases x;cases y;simp only[Zby,ZcP.mk.injEq,ZbA.mk.injEq,Zel,Zck,ZbI,ZbI]
structure Ze where
 From:Zp
 To:Zp
 OpenFrom:Bool
 OpenTo:Bool
 deriving DecidableEq
def Zx (x:Ze):Zaz:=⟨Zw x.From,Zw x.To,x.OpenFrom,x.OpenTo⟩
def Zbt :Ze:=⟨Zbh,Zbh,false,false⟩
theorem Zdq {x y:Ze}:Zx x=Zx y↔x=y:=by
 cases x;cases y;simp only[Zx,Zaz.mk.injEq,Ze.mk.injEq,Zel,Zck,ZbI,ZbI]
instance (priority :=high) ZI6:ZeroC prog 111 (.agg (Zz (Zx Zbt))) (Zz (Zx Zbt)):=⟨by kernel_rfl,rfl⟩
instance (priority :=high) ZwT (x:Ze):LdC prog 111 (Zz (Zx x)) 0 (.agg (Zz (Zx x))):=⟨ZO 20⟩
instance (priority :=high) ZxN (x:Ze):LdC prog 97 (Zz (Zx x)) 0 (.agg (Zs (Zw x.From))):=⟨ZO 9⟩
instance (priority :=high) Zw9 (x:Ze):LdC prog 97 (Zz (Zx x)) 9 (.agg (Zs (Zw x.To))):=⟨ZO 9⟩
instance (priority :=high) Zxk (x:Ze):LdC prog 4 (Zz (Zx x)) 18 (.bool x.OpenFrom):=⟨ZC⟩
instance (priority :=high) Zxh (x:Ze):LdC prog 4 (Zz (Zx x)) 19 (.bool x.OpenTo):=⟨ZC⟩
instance (priority :=high) ZyQ (x0:Zp)(x1:Zp):BdC prog 111 [(0, .agg (Zs (Zw x0))),(1, .agg (Zs (Zw x1)))] (.agg (Zz (Zx ⟨x0,x1,false,false⟩))):=⟨fun w=>by kernel_rfl⟩
instance (priority :=high) Zvg (x0:Zp)(x1:Zp)(x2:Bool):BdC prog 111 [(0, .agg (Zs (Zw x0))),(1, .agg (Zs (Zw x1))),(2, .bool x2)] (.agg (Zz (Zx ⟨x0,x1,x2,false⟩))):=⟨fun w=>by kernel_rfl⟩
instance (priority :=high) ZuR (x0:Zp)(x1:Zp)(x2:Bool)(x3:Bool):BdC prog 111 [(0, .agg (Zs (Zw x0))),(1, .agg (Zs (Zw x1))),(2, .bool x2),(3, .bool x3)] (.agg (Zz (Zx ⟨x0,x1,x2,x3⟩))):=⟨fun w=>by kernel_rfl⟩
instance (priority :=high) ZDH (x1:Zp):BdC prog 111 [(1, .agg (Zs (Zw x1)))] (.agg (Zz (Zx ⟨Zbh,x1,false,false⟩))):=⟨fun w=>by kernel_rfl⟩
instance (priority :=high) ZDd (x y:Ze):BinC prog .eql 111 (.agg (Zz (Zx x))) (.agg (Zz (Zx y))) (.bool (decide (x=y))):=by
 have h:decide (Zx x=Zx y)=decide (x=y):=by rw[decide_eq_decide];exact Zdq
 exact h▸(inferInstance:BinC prog .eql 111 (.agg (Zz (Zx x))) (.agg (Zz (Zx y))) (.bool (decide (Zx x=Zx y))))
instance (priority :=high) ZF8 (x y:Ze):BinC prog .neq 111 (.agg (Zz (Zx x))) (.agg (Zz (Zx y))) (.bool (!decide (x=y))):=by
 have h:decide (Zx x=Zx y)=decide (x=y):=by rw[decide_eq_decide];exact Zdq
 exact h▸(inferInstance:BinC prog .neq 111 (.agg (Zz (Zx x))) (.agg (Zz (Zx y))) (.bool (!decide (Zx x=Zx y))))
structure ZG where
 X0:Rat
 X1:Rat
 Y0:Rat
 Y1:Rat
 deriving DecidableEq
def ZW (x:ZG):Za7:=⟨Q x.X0,Q x.X1,Q x.Y0,Q x.Y1⟩
def Zdp :ZG:=⟨0,0,0,0⟩
theorem ZhQ {x y:ZG}:ZW x=ZW y↔x=y:=by
 cases x;cases y;simp only[ZW,Za7.mk.injEq,ZG.mk.injEq,Zel,Zck]
instance (priority :=high) ZJT:ZeroC prog 113 (.agg (ZV (ZW Zdp))) (ZV (ZW Zdp)):=⟨by kernel_rfl,rfl⟩
instance (priority :=high) ZwJ (x:ZG):LdC prog 113 (ZV (ZW x)) 0 (.agg (ZV (ZW x))):=⟨ZO 16⟩
instance (priority :=high) ZxG (x:ZG):LdC prog 54 (ZV (ZW x)) 0 (vQ x.X0):=⟨ZO 4⟩
instance (priority :=high) Zxq (x:ZG):LdC prog 54 (ZV (ZW x)) 4 (vQ x.X1):=⟨ZO 4⟩
instance (priority :=high) ZxQ (x:ZG):LdC prog 54 (ZV (ZW x)) 8 (vQ x.Y0):=⟨ZO 4⟩
instance (priority :=high) ZvI (x:ZG):LdC prog 54 (ZV (ZW x)) 12 (vQ x.Y1):=⟨ZO 4⟩
instance (priority :=high) ZuC (x0:Rat)(x1:Rat)(x2:Rat)(x3:Rat):BdC prog 113 [(0,vQ x0),(1,vQ x1),(2,vQ x2),(3,vQ x3)] (.agg (ZV (ZW ⟨x0,x1,x2,x3⟩))):=⟨fun w=>by kernel_rfl⟩
instance (priority :=high) ZyP (x0:Rat)(x2:Rat):BdC prog 113 [(0,vQ x0),(2,vQ x2)] (.agg (ZV (ZW ⟨x0,0,x2,0⟩))):=⟨fun w=>by kernel_rfl⟩
instance (priority :=high) ZFW (x1:Rat):BdC prog 113 [(1,vQ x1)] (.agg (ZV (ZW ⟨0,x1,0,0⟩))):=⟨fun w=>by kernel_rfl⟩
instance (priority :=high) ZFD (x y:ZG):BinC prog .eql 113 (.agg (ZV (ZW x))) (.agg (ZV (ZW y))) (.bool (decide (x=y))):=by
 have h:decide (ZW x=ZW y)=decide (x=y):=by rw[decide_eq_decide];exact ZhQ
 exact h▸(inferInstance:BinC prog .eql 113 (.agg (ZV (ZW x))) (.agg (ZV (ZW y))) (.bool (decide (ZW x=ZW y))))
structure Zau where
 In:Ze
 F:ZG
 deriving DecidableEq
def Zap (x:Zau):Zdz:=⟨Zx x.In,ZW x.F⟩
def ZcC :Zau:=⟨Zbt,Zdp⟩
instance (priority :=high) ZJ1:ZeroC prog 115 (.agg (Zaf (Zap ZcC))) (Zaf (Zap ZcC)):=⟨by kernel_rfl,rfl⟩
instance (priority :=high) Zwp (x:Zau):LdC prog 115 (Zaf (Zap x)) 0 (.agg (Zaf (Zap x))):=⟨ZO 36⟩
instance (priority :=high) Zwf (x:Zau):LdC prog 111 (Zaf (Zap x)) 0 (.agg (Zz (Zx x.In))):=⟨ZO 20⟩
instance (priority :=high) Zxm (x:Zau):LdC prog 97 (Zaf (Zap x)) 0 (.agg (Zs (Zw x.In.From))):=⟨ZO 9⟩
instance (priority :=high) Zu2 (x:Zau):LdC prog 113 (Zaf (Zap x)) 20 (.agg (ZV (ZW x.F))):=⟨ZO 16⟩
instance (priority :=high) Zy0 (x0:Ze)(x1:ZG):BdC prog 115 [(0, .agg (Zz (Zx x0))),(1, .agg (ZV (ZW x1)))] (.agg (Zaf (Zap ⟨x0,x1⟩))):=⟨fun w=>by kernel_rfl⟩
structure ZS where
 T:Rat
 P:Zal
 deriving DecidableEq
def Z8 (x:ZS):Zca:=⟨Q x.T,ZaO x.P⟩
def ZbF :ZS:=⟨0,Zd2⟩
instance (priority :=high) ZKA:ZeroC prog 143 (.agg (Z3 (Z8 ZbF))) (Z3 (Z8 ZbF)):=⟨by kernel_rfl,rfl⟩
instance (priority :=high) ZwQ (x:ZS):LdC prog 143 (Z3 (Z8 x)) 0 (.agg (Z3 (Z8 x))):=⟨ZO 12⟩
instance (priority :=high) ZxD (x:ZS):LdC prog 54 (Z3 (Z8 x)) 0 (vQ x.T):=⟨ZO 4⟩
instance (priority :=high) ZxC (x:ZS):LdC prog 54 (Z3 (Z8 x)) 4 (vQ x.P.X):=⟨ZO 4⟩
instance (priority :=high) ZxE (x:ZS):LdC prog 54 (Z3 (Z8 x)) 8 (vQ x.P.Y):=⟨ZO 4⟩
instance (priority :=high) Zyx (x0:Rat)(x1:Zal):BdC prog 143 [(0,vQ x0),(1, .agg (ZaN (ZaO x1)))] (.agg (Z3 (Z8 ⟨x0,x1⟩))):=⟨fun w=>by kernel_rfl⟩
structure Zah where
 C0:Rat
 C1:Rat
 C2:Rat
 deriving DecidableEq
def Z2 (x:Zah):ZbP:=⟨Q x.C0,Q x.C1,Q x.C2⟩
def ZeA :Zah:=⟨0,0,0⟩
theorem Zh3 {x y:Zah}:Z2 x=Z2 y↔x=y:=by
 cases x;cases y;simp only[Z2,ZbP.mk.injEq,Zah.mk.injEq,Zel,Zck]
instance (priority :=high) ZJQ:ZeroC prog 164 (.agg (Z0 (Z2 ZeA))) (Z0 (Z2 ZeA)):=⟨by kernel_rfl,rfl⟩
instance (priority :=high) Zwi (x:Zah):LdC prog 164 (Z0 (Z2 x)) 0 (.agg (Z0 (Z2 x))):=⟨ZO 12⟩
instance (priority :=high) Zxn (x:Zah):LdC prog 54 (Z0 (Z2 x)) 0 (vQ x.C0):=⟨ZO 4⟩
instance (priority :=high) Zxg (x:Zah):LdC prog 54 (Z0 (Z2 x)) 4 (vQ x.C1):=⟨ZO 4⟩
instance (priority :=high) Zw8 (x:Zah):LdC prog 54 (Z0 (Z2 x)) 8 (vQ x.C2):=⟨ZO 4⟩
instance (priority :=high) ZHl:BdC prog 164 [] (.agg (Z0 (Z2 ⟨0,0,0⟩))):=⟨fun w=>by kernel_rfl⟩
instance (priority :=high) ZEG (x0:Rat):BdC prog 164 [(0,vQ x0)] (.agg (Z0 (Z2 ⟨x0,0,0⟩))):=⟨fun w=>by kernel_rfl⟩
instance (priority :=high) Zzv (x0:Rat)(x1:Rat):BdC prog 164 [(0,vQ x0),(1,vQ x1)] (.agg (Z0 (Z2 ⟨x0,x1,0⟩))):=⟨fun w=>by kernel_rfl⟩
instance (priority :=high) Zvp (x0:Rat)(x1:Rat)(x2:Rat):BdC prog 164 [(0,vQ x0),(1,vQ x1),(2,vQ x2)] (.agg (Z0 (Z2 ⟨x0,x1,x2⟩))):=⟨fun w=>by kernel_rfl⟩
instance (priority :=high) ZDF (x y:Zah):BinC prog .eql 164 (.agg (Z0 (Z2 x))) (.agg (Z0 (Z2 y))) (.bool (decide (x=y))):=by
 have h:decide (Z2 x=Z2 y)=decide (x=y):=by rw[decide_eq_decide];exact Zh3
 exact h▸(inferInstance:BinC prog .eql 164 (.agg (Z0 (Z2 x))) (.agg (Z0 (Z2 y))) (.bool (decide (Z2 x=Z2 y))))
structure ZN where
 In:Ze
 F:ZG
 deriving DecidableEq
def ZE (x:ZN):ZbT:=⟨Zx x.In,ZW x.F⟩
def Zbr :ZN:=⟨Zbt,Zdp⟩
instance (priority :=high) ZJd:ZeroC prog 224 (.agg (ZD (ZE Zbr))) (ZD (ZE Zbr)):=⟨by kernel_rfl,rfl⟩
instance (priority :=high) ZvV (x:ZN):LdC prog 224 (ZD (ZE x)) 0 (.agg (ZD (ZE x))):=⟨ZO 36⟩
instance (priority :=high) ZvB (x:ZN):LdC prog 111 (ZD (ZE x)) 0 (.agg (Zz (Zx x.In))):=⟨ZO 20⟩
instance (priority :=high) ZxT (x:ZN):LdC prog 97 (ZD (ZE x)) 0 (.agg (Zs (Zw x.In.From))):=⟨ZO 9⟩
instance (priority :=high) ZxK (x:ZN):LdC prog 97 (ZD (ZE x)) 9 (.agg (Zs (Zw x.In.To))):=⟨ZO 9⟩
instance (priority :=high) Zxf (x:ZN):LdC prog 4 (ZD (ZE x)) 18 (.bool x.In.OpenFrom):=⟨ZC⟩
instance (priority :=high) Zxy (x:ZN):LdC prog 4 (ZD (ZE x)) 19 (.bool x.In.OpenTo):=⟨ZC⟩
instance (priority :=high) ZuY (x:ZN):LdC prog 113 (ZD (ZE x)) 20 (.agg (ZV (ZW x.F))):=⟨ZO 16⟩
instance (priority :=high) ZxX (x0:Ze)(x1:ZG):BdC prog 224 [(0, .agg (Zz (Zx x0))),(1, .agg (ZV (ZW x1)))] (.agg (ZD (ZE ⟨x0,x1⟩))):=⟨fun w=>by kernel_rfl⟩
structure Za4 where
 at_:Zp
 behind:Bool
 deriving DecidableEq
def Zao (x:Za4):Zdx:=⟨Zw x.at_,x.behind⟩
def ZaY :Za4:=⟨Zbh,false⟩
instance (priority :=high) ZJK:ZeroC prog 403 (.agg (Zag (Zao ZaY))) (Zag (Zao ZaY)):=⟨by kernel_rfl,rfl⟩
instance (priority :=high) ZvK (x:Za4):LdC prog 403 (Zag (Zao x)) 0 (.agg (Zag (Zao x))):=⟨ZO 10⟩
instance (priority :=high) ZxA (x:Za4):LdC prog 97 (Zag (Zao x)) 0 (.agg (Zs (Zw x.at_))):=⟨ZO 9⟩
instance (priority :=high) Zzz (x:Za4):LdC prog 4 (Zag (Zao x)) 9 (.bool x.behind):=⟨ZC⟩
instance (priority :=high) Zx9 (x0:Zp)(x1:Bool):BdC prog 403 [(0, .agg (Zs (Zw x0))),(1, .bool x1)] (.agg (Zag (Zao ⟨x0,x1⟩))):=⟨fun w=>by kernel_rfl⟩
instance (priority :=high) ZHH (a b:Int):BinC prog .neq 52 (vI a) (vI b) (.bool (!decide (a=b))):=by
 have h:decide (I a=I b)=decide (a=b):=by rw[decide_eq_decide];exact Zck
 exact h▸(inferInstance:BinC prog .neq 52 (vI a) (vI b) (.bool (!decide (I a=I b))))
instance (priority :=high) ZHb (a b:Rat):BinC prog .neq 54 (vQ a) (vQ b) (.bool (!decide (a=b))):=by
 have h:decide (Q a=Q b)=decide (a=b):=by rw[decide_eq_decide];exact Zel
 exact h▸(inferInstance:BinC prog .neq 54 (vQ a) (vQ b) (.bool (!decide (Q a=Q b))))
end
section
theorem MB.lt {q:Rat}{k B:Nat}[h:MB q k](hk:Nat.ble k B=true):M q<=B:=Wi h.out (Nat.le_of_ble_eq_true hk)
theorem mb2 {p q:Rat}{j k B C:Nat}[MB p j][MB q k](h1:Nat.ble j B=true)(h2:Nat.ble k C=true):M p<=B/\M q<=C:=⟨MB.lt h1,MB.lt h2⟩
theorem mb4 {p q r s:Rat}{i j k l A B C D:Nat}[MB p i][MB q j][MB r k][MB s l](h1:Nat.ble i A=true)(h2:Nat.ble j B=true)(h3:Nat.ble k C=true)(h4:Nat.ble l D=true):M p<=A/\M q<=B/\M r<=C/\M s<=D:=⟨MB.lt h1,MB.lt h2,MB.lt h3,MB.lt h4⟩
abbrev vR (r:Zp):Value:= .agg (Zs (Zw r))
abbrev vP (p:Zal):Value:= .agg (ZaN (ZaO p))
instance ZzX (q:Rat):SpecC prog 66 [vQ q] (vR ⟨q,0,false⟩) True:=⟨fun _ w=>by
 refine Zg Tryz.func66 rfl Tryz.ntmps66 rfl ?_
 repeat(refine wkA ?_;intros)
 exact rtC rfl rfl⟩
instance Zuh (n:Int):SpecC prog 45 [.int .i64 n] (vR ⟨(n:Rat),0,false⟩) (-9223372036854775808<=n/\n<=9223372036854775807):=⟨fun hp w=>by
 refine Zg Tryz.func45 rfl Tryz.ntmps45 rfl ?_
 repeat(refine wkA ?_;intros)
 exact rtC rfl rfl⟩
instance Zxj (x:Zp):SpecC prog 423 [vR x] (.tuple #[vQ (if x.R=0 then x.P else 0), .bool (decide (x.R=0))]) True:=⟨fun _ w=>by
 refine Zg Tryz.func423 rfl Tryz.ntmps423 rfl ?_
 repeat(refine wkA ?_;intros)
 refine Zl rfl (fun h=>?_) (fun h=>?_)
 ·have h1:¬x.R=0:=by simpa using h
  rw[if_neg h1,We h1]
  repeat(refine wkA ?_;intros)
  exact ZA rfl (Zab rfl) (Zk rfl) (fun w hw=>ZZ hw)
 ·have h1:x.R=0:=by simpa using h
  rw[if_pos h1,Wc h1]
  repeat(refine wkA ?_;intros)
  exact ZA rfl (Zab rfl) (Zk rfl) (fun w hw=>ZZ hw)⟩
instance ZJo (x y:Int):SpecC prog 146 [.int .i64 x, .int .i64 y] (vP ⟨(x:Rat),(y:Rat)⟩) ((-9223372036854775808<=x/\x<=9223372036854775807)/\(-9223372036854775808<=y/\y<=9223372036854775807)):=⟨fun hp w=>by
 refine Zg Tryz.func146 rfl Tryz.ntmps146 rfl ?_
 repeat(first|(refine wkA ?_;intros)|(refine sC rfl rfl ?_ ?_;focus(first|exact hp.1|exact hp.2)))
 exact rtC rfl rfl⟩
instance ZHG (p q:Zal):SpecC prog 198 [vP p,vP q] (vP ⟨p.X-q.X,p.Y-q.Y⟩) (M p.X<=LQ/\M p.Y<=LQ/\M q.X<=LQ/\M q.Y<=LQ):=⟨fun hp w=>by
 obtain⟨h1,h2,h3,h4⟩:=hp
 refine Zg Tryz.func198 rfl Tryz.ntmps198 rfl ?_
 repeat(refine wkA ?_;intros)
 (refine jD 11 11 (h:=?_);(repeat(refine wkH ?_));refine Zn ?_;(repeat(refine Z4 ?_;intro _));refine Zr ?_)
 repeat(refine wkA ?_;intros)
 exact rtC rfl rfl⟩
instance ZHf (p q:Zal):SpecC prog 199 [vP p,vP q] (vQ (p.X*q.X+p.Y*q.Y)) (M p.X<=68719476736/\M p.Y<=68719476736/\M q.X<=68719476736/\M q.Y<=68719476736):=⟨fun hp w=>by
 obtain⟨h1,h2,h3,h4⟩:=hp
 have:=MB.mk h1
 have:=MB.mk h2
 have:=MB.mk h3
 have:=MB.mk h4
 refine Zg Tryz.func199 rfl Tryz.ntmps199 rfl ?_
 repeat(refine wkA ?_;intros)
 (refine jD 11 11 (h:=?_);(repeat(refine wkH ?_));refine Zn ?_;(repeat(refine Z4 ?_;intro _));refine Zr ?_)
 repeat(refine wkA ?_;intros)
 exact rtC rfl rfl⟩
def d2 (p q:Zal):Rat:=(p.X-q.X)*(p.X-q.X)+(p.Y-q.Y)*(p.Y-q.Y)
instance Zvm (p q:Zal):SpecC prog 145 [vP p,vP q] (vQ (d2 p q)) (M p.X<=8589934592/\M p.Y<=8589934592/\M q.X<=8589934592/\M q.Y<=8589934592):=⟨fun hp w=>by
 obtain⟨h1,h2,h3,h4⟩:=hp
 have:=MB.mk h1
 have:=MB.mk h2
 have:=MB.mk h3
 have:=MB.mk h4
 unfold d2
 refine Zg Tryz.func145 rfl Tryz.ntmps145 rfl ?_
 repeat(refine wkA ?_;intros)
 exact rtC rfl rfl⟩
instance ZK2 (p q:Zal)(i j k l:Nat)[h1:MB p.X i][h2:MB p.Y j][h3:MB q.X k][h4:MB q.Y l]:MB (d2 p q) (2*(i+j+k+l)+5):=⟨by
 unfold d2
 have:=(inferInstance:MB ((p.X-q.X)*(p.X-q.X)+(p.Y-q.Y)*(p.Y-q.Y)) _).out
 omega⟩
instance ZB0 (x y:Rat):SpecC prog 131 [vQ x,vQ y] (.agg (Z0 (Z2 ⟨x,y,0⟩))) True:=⟨fun _ w=>by
 refine Zg Tryz.func131 rfl Tryz.ntmps131 rfl ?_
 repeat(refine wkA ?_;intros)
 exact rtC rfl rfl⟩
instance ZGP (q:Zah)(t:Rat):SpecC prog 75 [.agg (Z0 (Z2 q)),vQ t] (vQ (q.C0+t*(q.C1+t*q.C2))) (M q.C0<=34359738368/\M q.C1<=34359738368/\M q.C2<=34359738368/\M t<=34359738368):=⟨fun hp w=>by
 obtain⟨h1,h2,h3,h4⟩:=hp
 have:=MB.mk h1
 have:=MB.mk h2
 have:=MB.mk h3
 have:=MB.mk h4
 refine Zg Tryz.func75 rfl Tryz.ntmps75 rfl ?_
 repeat(refine wkA ?_;intros)
 (refine jD 12 12 (h:=?_);(repeat(refine wkH ?_));refine Zn ?_;(repeat(refine Z4 ?_;intro _));refine Zr ?_)
 repeat(refine wkA ?_;intros)
 exact rtC rfl rfl⟩
def lin (t v u w:Rat):Zah:=if u-t=0 then ZeA else⟨v-(w-v) / (u-t)*t,(w-v) / (u-t),0⟩
instance ZyZ (t v u x:Rat):SpecC prog 113 [vQ t,vQ v,vQ u,vQ x] (.tuple #[.agg (Z0 (Z2 (lin t v u x))), .int .i64 (if u-t=0 then 6 else 0)]) (M t<=34359738368/\M v<=34359738368/\M u<=34359738368/\M x<=34359738368):=⟨fun hp w=>by
 obtain⟨h1,h2,h3,h4⟩:=hp
 have:=MB.mk h1
 have:=MB.mk h2
 have:=MB.mk h3
 have:=MB.mk h4
 refine Zg Tryz.func113 rfl Tryz.ntmps113 rfl ?_
 repeat(refine wkA ?_;intros)
 (refine Za9 [0,1,2,3,4,5,6,7,8,9] [10,11,12] (_) (h:=?_);refine wkI ?_;(repeat(refine wkH ?_));refine Zn ?_;(repeat(first|(refine eA rfl rfl ?_;intro _)|refine eT rfl ?_|refine eS rfl rfl ?_));refine Zba ?_)
 repeat(refine wkA ?_;intros)
 by_cases hz:u-t=0
 ·unfold lin
  simp only[if_pos hz]
  repeat(refine wkA ?_;intros)
  exact ZA rfl (Zab rfl) (Zk rfl) (fun w hw=>ZZ hw)
 ·unfold lin
  simp only[if_neg hz]
  repeat(refine wkA ?_;intros)
  (refine jD 7 7 (h:=?_);(repeat(refine wkH ?_));refine Zn ?_;(repeat(refine Z4 ?_;intro _));refine Zr ?_)
  repeat(refine wkA ?_;intros)
  exact ZA rfl (Zab rfl) (Zk rfl) (fun w hw=>ZZ hw)⟩
end
end Go.Vt
