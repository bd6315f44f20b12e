/- For any up to 12 units whose ends have up to 20 bytes, and for any decoded moving label (up to 8 stretches), Check returns OK or the first error. Conditions: none. (part 9 of 28.) Conditions: those that each statement names. -/
import Derived.Test.YtcgkgdgpdpihmaaGreatDoorProg
import Derived.Test.YtcgkgdgpdpihmaaGreatDoorKC4
import Derived.Test.YtcgkgdgpdpihmaaGreatDoorKC8
set_option linter.unusedSimpArgs false
set_option linter.unusedVariables false
set_option maxHeartbeats 2000000
set_option maxRecDepth 100000
set_option linter.unusedSectionVars false
namespace Go.Vt
open Go.RowKit Go.Proofs
open Go.Proofs.Tryz (prog)
section
def dn (q:Rat):Int:=if q.den=1 then 0 else q.den
def Q (q:Rat):ZK:=⟨I q.num,I (dn q)⟩
abbrev vQ (q:Rat):Value:= .agg (Zn (Q q))
def M (q:Rat):Nat:=max (mg q.num) (mg q.den)
abbrev LQ :Nat:=274877906944
theorem ZbS {a b:Int}:I a=I b↔a=b:=by
 refine⟨fun h=>?_,fun h=>by rw[h]⟩
 have h1:=congrArg ZN.Neg h
 have h2:=congrArg ZN.Mag h
 simp only[I] at h1 h2
 have h3:=Zdn.1 h2
 by_cases ha:a<0 <;> by_cases hb:b<0 <;> simp[ha,hb] at h1 <;> omega
theorem Zij {p q:Rat}:dn p=dn q↔p.den=q.den:=by
 have h1:=p.den_pos
 have h2:=q.den_pos
 unfold dn
 split <;> split <;> omega
theorem ZcY {p q:Rat}:Q p=Q q↔p=q:=by
 refine⟨fun h=>?_,fun h=>by rw[h]⟩
 have h1:=ZbS.1 (congrArg ZK.Num h)
 have h2:=Zij.1 (ZbS.1 (congrArg ZK.Den h))
 exact Rat.ext h1 h2
theorem z_I :Zak=I 0:=by decide
theorem z_Q :ZaH=Q 0:=by decide
instance (priority :=high) zeroI:ZeroC prog 31 (vI 0) (Zt (I 0)):=⟨by have h:= @ZeroC.out prog 31 (.agg (Zt Zak)) (Zt Zak) inferInstance;rw[z_I] at h;exact h,rfl⟩
instance (priority :=high) zeroQ:ZeroC prog 33 (vQ 0) (Zn (Q 0)):=⟨by have h:= @ZeroC.out prog 33 (.agg (Zn ZaH)) (Zn ZaH) inferInstance;rw[z_Q] at h;exact h,rfl⟩
instance (priority :=high) bdI0:BdC prog 31 [] (vI 0):=⟨by have h:= @BdC.out prog 31 [] (.agg (Zt Zak)) inferInstance;rw[z_I] at h;exact h⟩
instance (priority :=high) bdQ0:BdC prog 33 [] (vQ 0):=⟨by have h:= @BdC.out prog 33 [] (.agg (Zn ZaH)) inferInstance;rw[z_Q] at h;exact h⟩
instance (priority :=high) ZAr (q:Rat):LdC prog 31 (Zn (Q q)) 0 (vI q.num):=⟨ZG 2⟩
instance (priority :=high) Zzo (q:Rat):LdC prog 31 (Zn (Q q)) 2 (vI (dn q)):=⟨ZG 2⟩
instance (priority :=high) eqI (a b:Int):BinC prog .eql 31 (vI a) (vI b) (.bool (decide (a=b))):=by
 have h:decide (I a=I b)=decide (a=b):=by rw[decide_eq_decide];exact ZbS
 exact h▸(inferInstance:BinC prog .eql 31 (vI a) (vI b) (.bool (decide (I a=I b))))
instance (priority :=high) eqQ (a b:Rat):BinC prog .eql 33 (vQ a) (vQ b) (.bool (decide (a=b))):=by
 have h:decide (Q a=Q b)=decide (a=b):=by rw[decide_eq_decide];exact ZcY
 exact h▸(inferInstance:BinC prog .eql 33 (vQ a) (vQ b) (.bool (decide (Q a=Q b))))
theorem ZaG (q:Rat):mg q.num<=M q:=Nat.le_max_left _ _
theorem ZaK (q:Rat):mg q.den<=M q:=Nat.le_max_right _ _
theorem Zil (n:Nat):mg (n:Int)=(mag n).size:=by unfold mg;rw[Int.natAbs_natCast]
theorem ZiE (a:Int)(g:Nat)(h:(g:Int)∣a):(a / (g:Int)).natAbs<=a.natAbs:=by
 obtain⟨k,rfl⟩:=h
 rcases Nat.eq_zero_or_pos g with h|h
 ·subst h;simp
 ·rw[Int.mul_ediv_cancel_left _ (by omega),Int.natAbs_mul,Int.natAbs_natCast]
  exact Nat.le_mul_of_pos_left _ h
theorem ZcH {a b:Int}{k:Nat}(ha:mg a<=k)(hb:mg b<=k)(h1:1<=k):M (Rat.divInt a b)<=k:=by
 refine Nat.max_le.2 ⟨?_, ?_⟩
 ·refine Wi (ZeA ?_) ha
  rw[Rat.num_divInt]
  refine Wi (ZiE _ _ ?_) ?_
  ·exact Int.dvd_trans (Int.gcd_dvd_right ..) (Int.dvd_mul_left _ _)
  ·rw[Int.natAbs_mul]
   have:b.sign.natAbs<=1:=by rw[Int.natAbs_sign];split <;> omega
   calc b.sign.natAbs*a.natAbs<=1*a.natAbs:=Nat.mul_le_mul_right _ this
    _=a.natAbs:=Nat.one_mul _
 ·rw[Rat.den_divInt,Zil]
  split
  ·exact Wi (by decide) h1
  ·exact Wi (Zbs (Nat.div_le_self _ _)) hb
theorem Ze9 (q:Rat):(q.den:Int)≠0:=by have:=q.den_pos;omega
theorem ZfF (a b:Rat):a+b=Rat.divInt (a.num*b.den+b.num*a.den) (a.den*b.den):=by
 rw[Rat.add_def',<-Rat.divInt_ofNat,Int.natCast_mul]
theorem ZdK (a b:Rat):a*b=Rat.divInt (a.num*b.num) (a.den*b.den):=by
 rw[Rat.mul_def',<-Rat.divInt_ofNat,Int.natCast_mul]
theorem ZlL {q:Rat}:1<=M q:=by
 refine Wi ?_ (ZaK q)
 rw[Zil]
 rcases Nat.eq_zero_or_pos (mag q.den).size with h|h
 ·have h1:=(Z2 (n:=q.den) (k:=0)).1 (by omega)
  have:=q.den_pos
  simp at h1
  omega
 ·exact h
theorem Zk4 (a b:Rat):M (a+b)<=M a+M b+1:=by
 rw[ZfF]
 have h1:=ZaG a
 have h2:=ZaK a
 have h3:=ZaG b
 have h4:=ZaK b
 refine ZcH (Zly (k:=M a+M b) ?_ ?_) ?_ (by omega)
 ·exact Wi (Zbz _ _) (by omega)
 ·exact Wi (Zbz _ _) (by omega)
 ·exact Wi (Zbz _ _) (by omega)
theorem Zu1 (a b:Rat):M (a*b)<=M a+M b:=by
 rw[ZdK]
 have h1:=ZaG a
 have h2:=ZaK a
 have h3:=ZaG b
 have h4:=ZaK b
 have h5:= @ZlL a
 exact ZcH (Wi (Zbz _ _) (by omega)) (Wi (Zbz _ _) (by omega)) (by omega)
theorem Zpn (a:Rat):M (-a)=M a:=by unfold M;rw[Rat.neg_num,Rat.neg_den,Zfn]
theorem Zpk (a b:Rat):M (a-b)<=M a+M b+1:=by rw[Rat.sub_eq_add_neg,<-Zpn b];exact Zk4 _ _
class MB (q:Rat)(k:outParam Nat):Prop where out:M q<=k
instance ZA3 (a b:Rat)(j k:Nat)[h1:MB a j][h2:MB b k]:MB (a+b) (j+k+1):=⟨by have:=Zk4 a b;have:=h1.out;have:=h2.out;omega⟩
instance ZAT (a b:Rat)(j k:Nat)[h1:MB a j][h2:MB b k]:MB (a-b) (j+k+1):=⟨by have:=Zpk a b;have:=h1.out;have:=h2.out;omega⟩
instance ZBg (a b:Rat)(j k:Nat)[h1:MB a j][h2:MB b k]:MB (a*b) (j+k):=⟨by have:=Zu1 a b;have:=h1.out;have:=h2.out;omega⟩
instance ZBK :SpecC prog 206 [] (vI 1) True:=⟨fun _ w=>by
 refine Zb Tryz.func206 rfl Tryz.ntmps206 rfl ?_
 repeat(first|(refine wkA ?_;intros)|(refine sC rfl rfl ?_ ?_;focus(first|exact trivial|omega)))
 exact rtC rfl rfl⟩
theorem Zf1 {q:Rat}:dn q=0↔q.den=1:=by
 have:=q.den_pos
 unfold dn
 split <;> omega
instance ZBJ (q:Rat):SpecC prog 177 [vQ q] (vI q.den) True:=⟨fun _ w=>by
 refine Zb Tryz.func177 rfl Tryz.ntmps177 rfl ?_
 repeat(refine wkA ?_;intros)
 refine Zk rfl (fun h=>?_) (fun h=>?_)
 ·have h1:=Zf1.1 (Wa h)
  rw[h1]
  repeat(refine wkA ?_;intros)
  exact rtC rfl rfl
 ·have h1:¬q.den=1:=fun h0=>Wb h (Zf1.2 h0)
  have h2:dn q=q.den:=by unfold dn;rw[if_neg h1]
  repeat(refine wkA ?_;intros)
  exact Zcx rfl rfl (fun w hw=>by rw[<-h2];exact ZP hw)⟩
instance ZsX (a b:Int):SpecC prog 205 [vI a,vI b] (vI (a / b)) (b≠0/\mg a<=LIM/\mg b<=LIM):=⟨fun hp w=>by
 refine Zb Tryz.func205 rfl Tryz.ntmps205 rfl ?_
 repeat(refine wkA ?_;intros)
 exact rtC rfl rfl⟩
theorem Zgp {x y:Int}(hy:0<y):(Rat.divInt x y).num=x / (Int.gcd x y:Int)/\((Rat.divInt x y).den:Int)=y / (Int.gcd x y:Int):=by
 refine⟨?_, ?_⟩
 ·rw[Rat.num_divInt,Int.sign_eq_one_of_pos hy,Int.one_mul,Int.gcd_comm]
 ·rw[Rat.den_divInt,if_neg (by omega),Int.gcd_comm,Int.natCast_ediv]
  congr 1
  omega
instance Zr0 (x y:Int):SpecC prog 174 [vI x,vI y] (vQ (Rat.divInt x y)) (y≠0/\mg x<=LIM/\mg y<=LIM):=⟨fun hp w=>by
 obtain⟨hy,hx,hl⟩:=hp
 refine Zb Tryz.func174 rfl Tryz.ntmps174 rfl ?_
 repeat(refine wkA ?_;intros)
 rename_i ba bb bc
 refine ZY (S:=Int×Int) (fun s=>0<s.2/\Rat.divInt s.1 s.2=Rat.divInt x y/\mg s.1<=LIM/\mg s.2<=LIM) (fun _=>[(2, .pointer (some ⟨ba,0,none⟩)),(3, .pointer (some ⟨bb,0,none⟩)),(4, .pointer (some ⟨bc,0,none⟩))]) (fun s=>[⟨bc,Zn (Q 0),33⟩,⟨bb,Zt (I s.2),31⟩,⟨ba,Zt (I s.1),31⟩]) ?_ (fun s hs=>?_)
 ·refine Zk rfl (fun h=>?_) (fun h=>?_)
  ·have hneg:y<0:=Int.sign_neg_iff.1 (Wa h)
   repeat(refine wkA ?_;intros)
   (refine jD 4 4 (h:=?_);(repeat(refine wkH ?_));refine Zo ?_;(repeat(refine Z0 ?_;intro _));refine Zs ?_)
   repeat(refine wkA ?_;intros)
   exact Zj (-x, -y) ⟨by simp only;omega,Rat.neg_divInt_neg _ _,by simp only[Zfn];exact hx,by simp only[Zfn];exact hl⟩ sbB sbl
  ·have hpos:0<y:=by
    have h1:¬y.sign<0:=Wb h
    have h2:¬y<0:=fun h3=>h1 (Int.sign_neg_iff.2 h3)
    omega
   repeat(refine wkA ?_;intros)
   exact Zj (x,y) ⟨hpos,rfl,hx,hl⟩ sbB sbl
 obtain⟨p,q⟩:=s
 obtain⟨hq0,heq,hp,hq⟩:=hs
 simp only at hq0 heq hp hq⊢
 obtain⟨e1,e2⟩:=Zgp (x:=p) hq0
 have hg0:((Int.gcd p q:Nat):Int)≠0:=by
  have:=Int.gcd_pos_of_ne_zero_right p (Int.ne_of_gt hq0)
  omega
 have hg1:mg (Int.gcd p q:Nat)<=LIM:=by
  refine Wi (ZeA ?_) hq
  rw[Int.natAbs_natCast]
  exact Nat.le_of_dvd (by omega) (Int.gcd_dvd_natAbs_right p q)
 rw[<-heq]
 generalize hgd:((Int.gcd p q:Nat):Int)=g at*
 repeat(first|(refine wkA ?_;intros)|(refine sC rfl rfl ?_ ?_;focus(first|exact trivial|assumption|exact⟨hp,hq⟩)))
 rw[hgd]
 (refine jD 6 6 (h:=?_);(repeat(first|refine wkH ?_|(refine tC rfl rfl ?_ ?_;focus(first|exact trivial|exact⟨hg0,hp,hg1⟩|exact⟨hg0,hq,hg1⟩))));refine Zo ?_;(repeat(refine Z0 ?_;intro _));refine Zs ?_)
 rw[<-e1,<-e2]
 repeat(refine wkA ?_;intros)
 (refine jD 3 3 (h:=?_);(repeat(refine wkH ?_));refine Zo ?_;(repeat(refine Z0 ?_;intro _));refine Zs ?_)
 repeat(refine wkA ?_;intros)
 have key:∀d:Int,(if(Rat.divInt p q).den=1 then 0 else((Rat.divInt p q).den:Int))=d->(⟨I (Rat.divInt p q).num,I d⟩:ZK)=Q (Rat.divInt p q):=fun d hd=>by rw[<-hd];rfl
 refine Zk rfl (fun h=>?_) (fun h=>?_)
 ·have h1:(Rat.divInt p q).den=1:=by have:=Wa h;omega
  repeat(refine wkA ?_;intros)
  exact Zcx rfl rfl (fun w hw=>by rw[key 0 (by rw[if_pos h1])];exact ZP hw)
 ·have h1:¬(Rat.divInt p q).den=1:=fun h0=>Wb h (by omega)
  repeat(refine wkA ?_;intros)
  exact Zcx rfl rfl (fun w hw=>by rw[key _ (by rw[if_neg h1])];exact ZP hw)⟩
theorem ZpF (n:Int):(⟨I n,I 0⟩:ZK)=Q (n:Rat):=rfl
instance Ztg (n:Int):SpecC prog 134 [.int .i64 n] (vQ (n:Rat)) (-9223372036854775808<=n/\n<=9223372036854775807):=⟨fun hp w=>by
 refine Zb Tryz.func134 rfl Tryz.ntmps134 rfl ?_
 repeat(refine wkA ?_;intros)
 exact Zcx rfl rfl (fun w hw=>by rw[z_I,ZpF];exact ZP hw)⟩
def crs (a b:Rat):Int×Int×Int:=if a.den=b.den then(a.num,b.num,a.den) else(a.num*b.den,b.num*a.den,a.den*b.den)
theorem Zq7 (a b:Rat):mg (crs a b).1<=M a+M b/\mg (crs a b).2.1<=M a+M b/\mg (crs a b).2.2<=M a+M b:=by
 have h1:=ZaG a
 have h2:=ZaK a
 have h3:=ZaG b
 have h4:=ZaK b
 have h5:=Zbz a.num b.den
 have h6:=Zbz b.num a.den
 have h7:=Zbz a.den b.den
 unfold crs
 split <;> exact⟨by simp only;omega,by simp only;omega,by simp only;omega⟩
theorem Zkn (a b:Rat):0<(crs a b).2.2:=by
 have h1:=a.den_pos
 have h2:=b.den_pos
 unfold crs
 split
 ·show(0:Int)<a.den
  omega
 ·exact Int.mul_pos (by omega) (by omega)
theorem Zp8 (a b:Rat):a=Rat.divInt (crs a b).1 (crs a b).2.2/\b=Rat.divInt (crs a b).2.1 (crs a b).2.2:=by
 have ha:=Ze9 a
 have hb:=Ze9 b
 unfold crs
 split
 ·rename_i h
  exact⟨(Rat.num_divInt_den a).symm,by rw[h];exact(Rat.num_divInt_den b).symm⟩
 ·refine⟨?_, ?_⟩
  ·conv=>lhs;rw[<-Rat.num_divInt_den a]
   exact(Rat.divInt_mul_right hb).symm
  ·conv=>lhs;rw[<-Rat.num_divInt_den b]
   rw[Int.mul_comm (a.den:Int)]
   exact(Rat.divInt_mul_right ha).symm
theorem ZpX (a b:Rat):Rat.divInt ((crs a b).1+(crs a b).2.1) (crs a b).2.2=a+b:=by
 have h:=Zkn a b
 obtain⟨h1,h2⟩:=Zp8 a b
 have h3:(crs a b).2.2≠0:=by omega
 have e:a+b=Rat.divInt (crs a b).1 (crs a b).2.2+Rat.divInt (crs a b).2.1 (crs a b).2.2:=by rw[<-h1,<-h2]
 rw[e,Rat.divInt_add_divInt _ _ h3 h3,<-Int.add_mul]
 exact(Rat.divInt_mul_right h3).symm
def cq (a b:Rat):Int:=if a<b then-1 else if b<a then 1 else 0
theorem ZqD (a b:Rat):Lib.compareInt (crs a b).1 (crs a b).2.1=cq a b:=by
 have key:∀x y:Rat,x<y↔x.num*y.den<y.num*x.den:=Rat.lt_iff
 have h:((crs a b).1<(crs a b).2.1↔a<b)/\((crs a b).2.1<(crs a b).1↔b<a):=by
  unfold crs
  rw[key a b,key b a]
  have h1:=a.den_pos
  split
  ·rename_i hd
   rw[hd]
   have h2:(0:Int)<b.den:=by have:=b.den_pos;omega
   exact⟨(Int.mul_lt_mul_right h2).symm,(Int.mul_lt_mul_right h2).symm⟩
  ·exact⟨Iff.rfl,Iff.rfl⟩
 unfold Lib.compareInt cq
 simp only[h.1,h.2,GT.gt]
instance ZxT (a b:Rat):SpecC prog 173 [vQ a,vQ b] (.tuple #[vI (crs a b).1,vI (crs a b).2.1,vI (crs a b).2.2]) (M a<=LQ/\M b<=LQ):=⟨fun hp w=>by
 have hL:LQ<=LIM:=by decide
 have h1:=Wi (Wi (ZaG a) hp.1) hL
 have h2:=Wi (Wi (ZaK a) hp.1) hL
 have h3:=Wi (Wi (ZaG b) hp.2) hL
 have h4:=Wi (Wi (ZaK b) hp.2) hL
 refine Zb Tryz.func173 rfl Tryz.ntmps173 rfl ?_
 repeat(refine wkA ?_;intros)
 refine Zk rfl (fun h=>?_) (fun h=>?_)
 ·have hd:a.den=b.den:=Zij.1 (Wa h)
  rw[show crs a b=(a.num,b.num,(a.den:Int)) by unfold crs;rw[if_pos hd]]
  repeat(refine wkA ?_;intros)
  rename_i ba bb bc bd be
  (refine Zaq [0,1,2,3,4,5] [6,7,8] ([⟨bb,Zn (Q b),33⟩,⟨ba,Zn (Q a),33⟩]) (h:=?_);refine wkI ?_)
  (repeat(refine wkH ?_))
  refine Zo ?_
  refine ZdR rfl rfl rfl sbl (ZdR rfl rfl rfl sbl (ZdR rfl rfl rfl sbl (Za0 ?_)))
  repeat(refine wkA ?_;intros)
  exact Za4 rfl (Z6 rfl) (Z6 rfl) (Z6 rfl) (fun w hw=>ZP hw)
 ·have hd:¬a.den=b.den:=fun h0=>Wb h (Zij.2 h0)
  rw[show crs a b=(a.num*b.den,b.num*a.den,(a.den:Int)*b.den) by unfold crs;rw[if_neg hd]]
  repeat(refine wkA ?_;intros)
  (refine jD 15 15 (h:=?_);(repeat(refine wkH ?_));refine Zo ?_;(repeat(refine Z0 ?_;intro _));refine Zs ?_)
  repeat(refine wkA ?_;intros)
  exact Za4 rfl (Z6 rfl) (Z6 rfl) (Z6 rfl) (fun w hw=>ZP hw)⟩
theorem LQ2 {j k:Nat}(h:j<=LQ/\k<=LQ):j+k+1<=LIM:=by
 have h1:LQ+LQ+1<=LIM:=by decide
 exact Wi (Nat.add_le_add_right (Nat.add_le_add h.1 h.2) 1) h1
instance ZzV (a b:Rat):SpecC prog 132 [vQ a,vQ b] (vQ (a+b)) (M a<=LQ/\M b<=LQ):=⟨fun hp w=>by
 obtain⟨h1,h2,h3⟩:=Zq7 a b
 have hL:=LQ2 hp
 have g1:mg (crs a b).1<=LIM:=Wi (Nat.le_succ_of_le h1) hL
 have g2:mg (crs a b).2.1<=LIM:=Wi (Nat.le_succ_of_le h2) hL
 have g3:mg (crs a b).2.2<=LIM:=Wi (Nat.le_succ_of_le h3) hL
 have g4:mg ((crs a b).1+(crs a b).2.1)<=LIM:=Wi (Zly h1 h2) hL
 have g5:(crs a b).2.2≠0:=Int.ne_of_gt (Zkn a b)
 refine Zb Tryz.func132 rfl Tryz.ntmps132 rfl ?_
 repeat(refine wkA ?_;intros)
 (refine jD 5 5 (h:=?_);(repeat(first|refine wkH ?_|(refine tC rfl rfl ?_ ?_;focus(first|exact⟨by assumption,by assumption⟩|exact⟨g5,g4,g3⟩))));refine Zo ?_;(repeat(refine Z0 ?_;intro _));refine Zs ?_)
 rw[ZpX]
 repeat(refine wkA ?_;intros)
 exact rtC rfl rfl⟩
instance ZAe (a b:Rat):SpecC prog 133 [vQ a,vQ b] (vQ (a*b)) (M a<=LQ/\M b<=LQ):=⟨fun hp w=>by
 have hL:LQ<=LIM:=by decide
 have hM:=LQ2 hp
 have h1:=Wi (Wi (ZaG a) hp.1) hL
 have h2:=Wi (Wi (ZaK a) hp.1) hL
 have h3:=Wi (Wi (ZaG b) hp.2) hL
 have h4:=Wi (Wi (ZaK b) hp.2) hL
 have g1:mg (a.num*b.num)<=LIM:=Wi (Zbz _ _) (Wi (Nat.le_succ_of_le (Nat.add_le_add (ZaG a) (ZaG b))) hM)
 have g2:mg ((a.den:Int)*b.den)<=LIM:=Wi (Zbz _ _) (Wi (Nat.le_succ_of_le (Nat.add_le_add (ZaK a) (ZaK b))) hM)
 have g3:(a.den:Int)*b.den≠0:=Int.mul_ne_zero (Ze9 a) (Ze9 b)
 refine Zb Tryz.func133 rfl Tryz.ntmps133 rfl ?_
 repeat(refine wkA ?_;intros)
 (refine jD 11 11 (h:=?_);(repeat(first|refine wkH ?_|(refine tC rfl rfl ?_ ?_;focus(first|exact trivial|exact⟨by assumption,by assumption⟩|exact⟨g3,g1,g2⟩))));refine Zo ?_;(repeat(refine Z0 ?_;intro _));refine Zs ?_)
 rw[<-ZdK]
 repeat(refine wkA ?_;intros)
 exact rtC rfl rfl⟩
theorem Zt9 (q:Rat):(⟨I (-q.num),I (dn q)⟩:ZK)=Q (-q):=rfl
instance ZAx (a:Rat):SpecC prog 130 [vQ a] (vQ (-a)) True:=⟨fun _ w=>by
 refine Zb Tryz.func130 rfl Tryz.ntmps130 rfl ?_
 repeat(refine wkA ?_;intros)
 (refine jD 6 6 (h:=?_);(repeat(refine wkH ?_));refine Zo ?_;(repeat(refine Z0 ?_;intro _));refine Zs ?_)
 rw[Zt9]
 repeat(refine wkA ?_;intros)
 exact rtC rfl rfl⟩
instance Zz3 (a b:Rat):SpecC prog 128 [vQ a,vQ b] (vQ (a-b)) (M a<=LQ/\M b<=LQ):=⟨fun hp w=>by
 have h1:=hp.1
 have h2:M (-b)<=LQ:=by rw[Zpn];exact hp.2
 refine Zb Tryz.func128 rfl Tryz.ntmps128 rfl ?_
 repeat(refine wkA ?_;intros)
 (refine jD 4 4 (h:=?_);(repeat(refine wkH ?_));refine Zo ?_;(repeat(refine Z0 ?_;intro _));refine Zs ?_)
 rw[<-Rat.sub_eq_add_neg]
 repeat(refine wkA ?_;intros)
 exact rtC rfl rfl⟩
instance Ztd (a b:Rat):SpecC prog 172 [vQ a,vQ b] (.int .i64 (cq a b)) (M a<=LQ/\M b<=LQ):=⟨fun hp w=>by
 refine Zb Tryz.func172 rfl Tryz.ntmps172 rfl ?_
 repeat(refine wkA ?_;intros)
 refine Zk rfl (fun h=>?_) (fun h=>?_)
 ·have h1:a=b:=Wa h
  rw[show cq a b=0 by unfold cq;rw[h1,if_neg Rat.lt_irrefl,if_neg Rat.lt_irrefl]]
  repeat(refine wkA ?_;intros)
  exact rtT rfl rfl
 ·repeat(refine wkA ?_;intros)
  rw[ZqD]
  repeat(refine wkA ?_;intros)
  exact rtT rfl rfl⟩
instance Zxh (a:Rat):SpecC prog 86 [vQ a] (.int .i64 a.num.sign) True:=⟨fun _ w=>by
 refine Zb Tryz.func86 rfl Tryz.ntmps86 rfl ?_
 repeat(refine wkA ?_;intros)
 exact rtT rfl rfl⟩
end
section
structure Zi where
 P:Rat
 R:Rat
 Neg:Bool
 deriving DecidableEq
def Ze (x:Zi):ZI:=⟨Q x.P,Q x.R,x.Neg⟩
def Zag :Zi:=⟨0,0,false⟩
theorem Zbw {x y:Zi}:Ze x=Ze y↔x=y:=by
 cases x;cases y;simp only[Ze,ZI.mk.injEq,Zi.mk.injEq,ZcY,ZbS]
instance (priority :=high) ZCd:ZeroC prog 35 (.agg (Zc (Ze Zag))) (Zc (Ze Zag)):=⟨by kernel_rfl,rfl⟩
instance (priority :=high) Zvi (x:Zi):LdC prog 35 (Zc (Ze x)) 0 (.agg (Zc (Ze x))):=⟨ZG 9⟩
instance (priority :=high) ZtV (x:Zi):LdC prog 33 (Zc (Ze x)) 0 (vQ x.P):=⟨ZG 4⟩
instance (priority :=high) ZuT (x:Zi):LdC prog 33 (Zc (Ze x)) 4 (vQ x.R):=⟨ZG 4⟩
instance (priority :=high) ZwN (x:Zi):LdC prog 4 (Zc (Ze x)) 8 (.bool x.Neg):=⟨ZD⟩
instance (priority :=high) Zzw (x0:Rat):BdC prog 35 [(0,vQ x0)] (.agg (Zc (Ze ⟨x0,0,false⟩))):=⟨fun w=>by kernel_rfl⟩
instance (priority :=high) Ztt (x0:Rat)(x1:Rat)(x2:Bool):BdC prog 35 [(0,vQ x0),(1,vQ x1),(2, .bool x2)] (.agg (Zc (Ze ⟨x0,x1,x2⟩))):=⟨fun w=>by kernel_rfl⟩
instance (priority :=high) ZAM (x y:Zi):BinC prog .eql 35 (.agg (Zc (Ze x))) (.agg (Zc (Ze y))) (.bool (decide (x=y))):=by
 have h:decide (Ze x=Ze y)=decide (x=y):=by rw[decide_eq_decide];exact Zbw
 exact h▸(inferInstance:BinC prog .eql 35 (.agg (Zc (Ze x))) (.agg (Zc (Ze y))) (.bool (decide (Ze x=Ze y))))
instance (priority :=high) ZzA (x y:Zi):BinC prog .neq 35 (.agg (Zc (Ze x))) (.agg (Zc (Ze y))) (.bool (!decide (x=y))):=by
 have h:decide (Ze x=Ze y)=decide (x=y):=by rw[decide_eq_decide];exact Zbw
 exact h▸(inferInstance:BinC prog .neq 35 (.agg (Zc (Ze x))) (.agg (Zc (Ze y))) (.bool (!decide (Ze x=Ze y))))
structure Za where
 From:Zi
 To:Zi
 OpenFrom:Bool
 OpenTo:Bool
 deriving DecidableEq
def Zf (x:Za):Zr:=⟨Ze x.From,Ze x.To,x.OpenFrom,x.OpenTo⟩
def ZaJ :Za:=⟨Zag,Zag,false,false⟩
theorem Zcf {x y:Za}:Zf x=Zf y↔x=y:=by
 cases x;cases y;simp only[Zf,Zr.mk.injEq,Za.mk.injEq,ZcY,ZbS,Zbw,Zbw]
instance (priority :=high) ZCm:ZeroC prog 37 (.agg (Zh (Zf ZaJ))) (Zh (Zf ZaJ)):=⟨by kernel_rfl,rfl⟩
instance (priority :=high) ZuB (x:Za):LdC prog 37 (Zh (Zf x)) 0 (.agg (Zh (Zf x))):=⟨ZG 20⟩
instance (priority :=high) Zvg (x:Za):LdC prog 35 (Zh (Zf x)) 0 (.agg (Zc (Ze x.From))):=⟨ZG 9⟩
instance (priority :=high) ZtF (x:Za):LdC prog 35 (Zh (Zf x)) 9 (.agg (Zc (Ze x.To))):=⟨ZG 9⟩
instance (priority :=high) Ztv (x:Za):LdC prog 4 (Zh (Zf x)) 18 (.bool x.OpenFrom):=⟨ZD⟩
instance (priority :=high) Ztx (x:Za):LdC prog 4 (Zh (Zf x)) 19 (.bool x.OpenTo):=⟨ZD⟩
instance (priority :=high) Zwb (x0:Zi)(x1:Zi):BdC prog 37 [(0, .agg (Zc (Ze x0))),(1, .agg (Zc (Ze x1)))] (.agg (Zh (Zf ⟨x0,x1,false,false⟩))):=⟨fun w=>by kernel_rfl⟩
instance (priority :=high) ZsZ (x0:Zi)(x1:Zi)(x2:Bool):BdC prog 37 [(0, .agg (Zc (Ze x0))),(1, .agg (Zc (Ze x1))),(2, .bool x2)] (.agg (Zh (Zf ⟨x0,x1,x2,false⟩))):=⟨fun w=>by kernel_rfl⟩
instance (priority :=high) Zre (x0:Zi)(x1:Zi)(x2:Bool)(x3:Bool):BdC prog 37 [(0, .agg (Zc (Ze x0))),(1, .agg (Zc (Ze x1))),(2, .bool x2),(3, .bool x3)] (.agg (Zh (Zf ⟨x0,x1,x2,x3⟩))):=⟨fun w=>by kernel_rfl⟩
instance (priority :=high) Zz4 (x1:Zi):BdC prog 37 [(1, .agg (Zc (Ze x1)))] (.agg (Zh (Zf ⟨Zag,x1,false,false⟩))):=⟨fun w=>by kernel_rfl⟩
instance (priority :=high) ZwY (x1:Zi)(x3:Bool):BdC prog 37 [(1, .agg (Zc (Ze x1))),(3, .bool x3)] (.agg (Zh (Zf ⟨Zag,x1,false,x3⟩))):=⟨fun w=>by kernel_rfl⟩
instance (priority :=high) ZAa (x y:Za):BinC prog .eql 37 (.agg (Zh (Zf x))) (.agg (Zh (Zf y))) (.bool (decide (x=y))):=by
 have h:decide (Zf x=Zf y)=decide (x=y):=by rw[decide_eq_decide];exact Zcf
 exact h▸(inferInstance:BinC prog .eql 37 (.agg (Zh (Zf x))) (.agg (Zh (Zf y))) (.bool (decide (Zf x=Zf y))))
structure ZC where
 In:Za
 Label:Int
 deriving DecidableEq
def Zl (x:ZC):ZJ:=⟨Zf x.In,x.Label⟩
def ZbE :ZC:=⟨ZaJ,0⟩
theorem ZdT {x y:ZC}:Zl x=Zl y↔x=y:=by
 cases x;cases y;simp only[Zl,ZJ.mk.injEq,ZC.mk.injEq,ZcY,ZbS,Zcf]
instance (priority :=high) ZB8:ZeroC prog 46 (.agg (Zm (Zl ZbE))) (Zm (Zl ZbE)):=⟨by kernel_rfl,rfl⟩
instance (priority :=high) Zvf (x:ZC):LdC prog 46 (Zm (Zl x)) 0 (.agg (Zm (Zl x))):=⟨ZG 21⟩
instance (priority :=high) Zub (x:ZC):LdC prog 37 (Zm (Zl x)) 0 (.agg (Zh (Zf x.In))):=⟨ZG 20⟩
instance (priority :=high) Zus (x:ZC):LdC prog 35 (Zm (Zl x)) 0 (.agg (Zc (Ze x.In.From))):=⟨ZG 9⟩
instance (priority :=high) Zu2 (x:ZC):LdC prog 35 (Zm (Zl x)) 9 (.agg (Zc (Ze x.In.To))):=⟨ZG 9⟩
instance (priority :=high) Zuo (x:ZC):LdC prog 4 (Zm (Zl x)) 18 (.bool x.In.OpenFrom):=⟨ZD⟩
instance (priority :=high) ZuS (x:ZC):LdC prog 4 (Zm (Zl x)) 19 (.bool x.In.OpenTo):=⟨ZD⟩
instance (priority :=high) ZtA (x:ZC):LdC prog 3 (Zm (Zl x)) 20 (.int .i64 x.Label):=⟨ZD⟩
instance (priority :=high) ZwC (x0:Za)(x1:Int):BdC prog 46 [(0, .agg (Zh (Zf x0))),(1, .int .i64 x1)] (.agg (Zm (Zl ⟨x0,x1⟩))):=⟨fun w=>by kernel_rfl⟩
instance (priority :=high) Zzz (x y:ZC):BinC prog .neq 46 (.agg (Zm (Zl x))) (.agg (Zm (Zl y))) (.bool (!decide (x=y))):=by
 have h:decide (Zl x=Zl y)=decide (x=y):=by rw[decide_eq_decide];exact ZdT
 exact h▸(inferInstance:BinC prog .neq 46 (.agg (Zm (Zl x))) (.agg (Zm (Zl y))) (.bool (!decide (Zl x=Zl y))))
structure ZE where
 In:Za
 F:Int
 deriving DecidableEq
def Zx (x:ZE):Zab:=⟨Zf x.In,x.F⟩
def Zbr :ZE:=⟨ZaJ,0⟩
instance (priority :=high) ZB4:ZeroC prog 145 (.agg (Zp (Zx Zbr))) (Zp (Zx Zbr)):=⟨by kernel_rfl,rfl⟩
instance (priority :=high) ZrZ (x:ZE):LdC prog 145 (Zp (Zx x)) 0 (.agg (Zp (Zx x))):=⟨ZG 21⟩
instance (priority :=high) Zth (x:ZE):LdC prog 37 (Zp (Zx x)) 0 (.agg (Zh (Zf x.In))):=⟨ZG 20⟩
instance (priority :=high) Zs1 (x:ZE):LdC prog 35 (Zp (Zx x)) 0 (.agg (Zc (Ze x.In.From))):=⟨ZG 9⟩
instance (priority :=high) Zte (x:ZE):LdC prog 35 (Zp (Zx x)) 9 (.agg (Zc (Ze x.In.To))):=⟨ZG 9⟩
instance (priority :=high) Ztn (x:ZE):LdC prog 4 (Zp (Zx x)) 18 (.bool x.In.OpenFrom):=⟨ZD⟩
instance (priority :=high) ZsW (x:ZE):LdC prog 4 (Zp (Zx x)) 19 (.bool x.In.OpenTo):=⟨ZD⟩
instance (priority :=high) Zs2 (x:ZE):LdC prog 3 (Zp (Zx x)) 20 (.int .i64 x.F):=⟨ZD⟩
instance (priority :=high) Zuc (x0:Za)(x1:Int):BdC prog 145 [(0, .agg (Zh (Zf x0))),(1, .int .i64 x1)] (.agg (Zp (Zx ⟨x0,x1⟩))):=⟨fun w=>by kernel_rfl⟩
structure Zas where
 at_:Zi
 behind:Bool
 deriving DecidableEq
def ZS (x:Zas):Zcq:=⟨Ze x.at_,x.behind⟩
def Zam :Zas:=⟨Zag,false⟩
instance (priority :=high) ZBY:ZeroC prog 193 (.agg (ZQ (ZS Zam))) (ZQ (ZS Zam)):=⟨by kernel_rfl,rfl⟩
instance (priority :=high) ZrQ (x:Zas):LdC prog 193 (ZQ (ZS x)) 0 (.agg (ZQ (ZS x))):=⟨ZG 10⟩
instance (priority :=high) Zs0 (x:Zas):LdC prog 35 (ZQ (ZS x)) 0 (.agg (Zc (Ze x.at_))):=⟨ZG 9⟩
instance (priority :=high) Zve (x:Zas):LdC prog 4 (ZQ (ZS x)) 9 (.bool x.behind):=⟨ZD⟩
instance (priority :=high) ZtX (x0:Zi)(x1:Bool):BdC prog 193 [(0, .agg (Zc (Ze x0))),(1, .bool x1)] (.agg (ZQ (ZS ⟨x0,x1⟩))):=⟨fun w=>by kernel_rfl⟩
instance (priority :=high) ZAC (a b:Int):BinC prog .neq 31 (vI a) (vI b) (.bool (!decide (a=b))):=by
 have h:decide (I a=I b)=decide (a=b):=by rw[decide_eq_decide];exact ZbS
 exact h▸(inferInstance:BinC prog .neq 31 (vI a) (vI b) (.bool (!decide (I a=I b))))
end
section
theorem MB.lt {q:Rat}{k B:Nat}[h:MB q k](hk:Nat.ble k B=true):M q<=B:=Wi h.out (Nat.le_of_ble_eq_true hk)
theorem mb2 {p q:Rat}{j k B C:Nat}[MB p j][MB q k](h1:Nat.ble j B=true)(h2:Nat.ble k C=true):M p<=B/\M q<=C:=⟨MB.lt h1,MB.lt h2⟩
abbrev vR (r:Zi):Value:= .agg (Zc (Ze r))
end
section
abbrev Zv (x:Zi):Array Value:=Zc (Ze x)
instance : Inhabited Zi:=⟨Zag⟩
instance Zsq :EncC Zv 9:=⟨fun _=>CsC.size,fun _=>CsC.one⟩
abbrev Zbv (x:Za):Array Value:=Zh (Zf x)
instance : Inhabited Za:=⟨ZaJ⟩
instance ZoM :EncC Zbv 20:=⟨fun _=>CsC.size,fun _=>CsC.one⟩
abbrev Zaa (x:ZC):Array Value:=Zm (Zl x)
instance : Inhabited ZC:=⟨ZbE⟩
instance Znm :EncC Zaa 21:=⟨fun _=>CsC.size,fun _=>CsC.one⟩
abbrev ZaR (x:ZE):Array Value:=Zp (Zx x)
instance : Inhabited ZE:=⟨Zbr⟩
instance Zlm :EncC ZaR 21:=⟨fun _=>CsC.size,fun _=>CsC.one⟩
instance ZAm (x:Za)(v:Zi):StC prog 35 (Zh (Zf x)) 0 (.agg (Zc (Ze v))) (Zh (Zf {x with From:=v})):=⟨by kernel_rfl,by kernel_rfl,by kernel_rfl,by kernel_rfl⟩
instance ZAp (x:Za)(v:Zi):StC prog 35 (Zh (Zf x)) 9 (.agg (Zc (Ze v))) (Zh (Zf {x with To:=v})):=⟨by kernel_rfl,by kernel_rfl,by kernel_rfl,by kernel_rfl⟩
instance Zzv (x:Za)(v:Bool):StC prog 4 (Zh (Zf x)) 18 (.bool v) (Zh (Zf {x with OpenFrom:=v})):=⟨by kernel_rfl,by kernel_rfl,by kernel_rfl,by kernel_rfl⟩
instance ZAA (x:Za)(v:Bool):StC prog 4 (Zh (Zf x)) 19 (.bool v) (Zh (Zf {x with OpenTo:=v})):=⟨by kernel_rfl,by kernel_rfl,by kernel_rfl,by kernel_rfl⟩
instance Zwd (x:ZC)(v:Zi):StC prog 35 (Zm (Zl x)) 9 (.agg (Zc (Ze v))) (Zm (Zl {x with In:={x.In with To:=v}})):=⟨by kernel_rfl,by kernel_rfl,by kernel_rfl,by kernel_rfl⟩
instance Zwr (x:ZC)(v:Bool):StC prog 4 (Zm (Zl x)) 19 (.bool v) (Zm (Zl {x with In:={x.In with OpenTo:=v}})):=⟨by kernel_rfl,by kernel_rfl,by kernel_rfl,by kernel_rfl⟩
instance ZtY (x:ZE)(v:Zi):StC prog 35 (Zp (Zx x)) 9 (.agg (Zc (Ze v))) (Zp (Zx {x with In:={x.In with To:=v}})):=⟨by kernel_rfl,by kernel_rfl,by kernel_rfl,by kernel_rfl⟩
instance ZtZ (x:ZE)(v:Bool):StC prog 4 (Zp (Zx x)) 18 (.bool v) (Zp (Zx {x with In:={x.In with OpenFrom:=v}})):=⟨by kernel_rfl,by kernel_rfl,by kernel_rfl,by kernel_rfl⟩
instance Zt3 (x:ZE)(v:Bool):StC prog 4 (Zp (Zx x)) 19 (.bool v) (Zp (Zx {x with In:={x.In with OpenTo:=v}})):=⟨by kernel_rfl,by kernel_rfl,by kernel_rfl,by kernel_rfl⟩
instance Zyl (x:ZE)(v:Int):StC prog 3 (Zp (Zx x)) 20 (.int .i64 v) (Zp (Zx {x with F:=v})):=⟨by kernel_rfl,by kernel_rfl,by kernel_rfl,by kernel_rfl⟩
theorem Zoe (x0:ZC)(w:World):(Instr.buildSlice 22 1 [(0, .agg (Zm (Zl x0)))].toArray).run prog w= .ok (.slice (some ⟨w.heap.size,0,none⟩) 1 1) (w.alloc (.cells (row (Zaa) [x0] []) 46)):=by kernel_rfl
instance (priority :=high) Zw5 (x0:ZC):BsC prog 22 1 [(0, .agg (Zm (Zl x0)))] (row (Zaa) [x0] []) 46:=⟨Zoe x0⟩
theorem ZoQ (x0 x1:ZC)(w:World):(Instr.buildSlice 22 2 [(0, .agg (Zm (Zl x0))),(1, .agg (Zm (Zl x1)))].toArray).run prog w= .ok (.slice (some ⟨w.heap.size,0,none⟩) 2 2) (w.alloc (.cells (row (Zaa) [x0,x1] []) 46)):=by kernel_rfl
instance (priority :=high) Zxn (x0 x1:ZC):BsC prog 22 2 [(0, .agg (Zm (Zl x0))),(1, .agg (Zm (Zl x1)))] (row (Zaa) [x0,x1] []) 46:=⟨ZoQ x0 x1⟩
theorem Zpd (x0 x1 x2:ZC)(w:World):(Instr.buildSlice 22 3 [(0, .agg (Zm (Zl x0))),(1, .agg (Zm (Zl x1))),(2, .agg (Zm (Zl x2)))].toArray).run prog w= .ok (.slice (some ⟨w.heap.size,0,none⟩) 3 3) (w.alloc (.cells (row (Zaa) [x0,x1,x2] []) 46)):=by kernel_rfl
instance (priority :=high) Zw3 (x0 x1 x2:ZC):BsC prog 22 3 [(0, .agg (Zm (Zl x0))),(1, .agg (Zm (Zl x1))),(2, .agg (Zm (Zl x2)))] (row (Zaa) [x0,x1,x2] []) 46:=⟨Zpd x0 x1 x2⟩
theorem Zok (x0:Za)(w:World):(Instr.buildSlice 47 1 [(0, .agg (Zh (Zf x0)))].toArray).run prog w= .ok (.slice (some ⟨w.heap.size,0,none⟩) 1 1) (w.alloc (.cells (row (Zbv) [x0] []) 37)):=by kernel_rfl
instance (priority :=high) Zxj (x0:Za):BsC prog 47 1 [(0, .agg (Zh (Zf x0)))] (row (Zbv) [x0] []) 37:=⟨Zok x0⟩
theorem Zpc (x0:Zi)(w:World):(Instr.buildSlice 59 1 [(0, .agg (Zc (Ze x0)))].toArray).run prog w= .ok (.slice (some ⟨w.heap.size,0,none⟩) 1 1) (w.alloc (.cells (row (Zv) [x0] []) 35)):=by kernel_rfl
instance (priority :=high) Zxm (x0:Zi):BsC prog 59 1 [(0, .agg (Zc (Ze x0)))] (row (Zv) [x0] []) 35:=⟨Zpc x0⟩
theorem Zof (x0 x1:Zi)(w:World):(Instr.buildSlice 59 2 [(0, .agg (Zc (Ze x0))),(1, .agg (Zc (Ze x1)))].toArray).run prog w= .ok (.slice (some ⟨w.heap.size,0,none⟩) 2 2) (w.alloc (.cells (row (Zv) [x0,x1] []) 35)):=by kernel_rfl
instance (priority :=high) Zxl (x0 x1:Zi):BsC prog 59 2 [(0, .agg (Zc (Ze x0))),(1, .agg (Zc (Ze x1)))] (row (Zv) [x0,x1] []) 35:=⟨Zof x0 x1⟩
theorem Zou (x0:Int)(w:World):(Instr.buildSlice 65 1 [(0, .int .i64 x0)].toArray).run prog w= .ok (.slice (some ⟨w.heap.size,0,none⟩) 1 1) (w.alloc (.cells (row (eI .i64) [x0] []) 3)):=by kernel_rfl
instance (priority :=high) ZxD (x0:Int):BsC prog 65 1 [(0, .int .i64 x0)] (row (eI .i64) [x0] []) 3:=⟨Zou x0⟩
theorem Zn1 (x0 x1 x2:Int)(w:World):(Instr.buildSlice 65 3 [(0, .int .i64 x0),(1, .int .i64 x1),(2, .int .i64 x2)].toArray).run prog w= .ok (.slice (some ⟨w.heap.size,0,none⟩) 3 3) (w.alloc (.cells (row (eI .i64) [x0,x1,x2] []) 3)):=by kernel_rfl
instance (priority :=high) ZxA (x0 x1 x2:Int):BsC prog 65 3 [(0, .int .i64 x0),(1, .int .i64 x1),(2, .int .i64 x2)] (row (eI .i64) [x0,x1,x2] []) 3:=⟨Zn1 x0 x1 x2⟩
theorem ZmR (x0:ZE)(w:World):(Instr.buildSlice 110 1 [(0, .agg (Zp (Zx x0)))].toArray).run prog w= .ok (.slice (some ⟨w.heap.size,0,none⟩) 1 1) (w.alloc (.cells (row (ZaR) [x0] []) 145)):=by kernel_rfl
instance (priority :=high) Zww (x0:ZE):BsC prog 110 1 [(0, .agg (Zp (Zx x0)))] (row (ZaR) [x0] []) 145:=⟨ZmR x0⟩
theorem Zmk (x0:Int)(w:World):(Instr.buildSlice 236 1 [(0, .int .u8 x0)].toArray).run prog w= .ok (.slice (some ⟨w.heap.size,0,none⟩) 1 1) (w.alloc (.cells (row (eI .u8) [x0] []) 5)):=by kernel_rfl
instance (priority :=high) Zwa (x0:Int):BsC prog 236 1 [(0, .int .u8 x0)] (row (eI .u8) [x0] []) 5:=⟨Zmk x0⟩
end
end Go.Vt
namespace Go.Vt
open Go.RowKit
class RowC (w0:World)(L:List Blk)(b o:Nat)(α:outParam Type)(enc:outParam (α->Array Value))(xs:outParam (List α)):Prop where
 out:∀w,Own w0 L w->∃cs T fz,w.heap[b]? =some (.cells cs T fz)/\∀(i f k:Nat)(u:Value)(hi:i<xs.length),(∀x,(enc x).size=k)->(enc xs[i])[f]? =some u->cs[o+i*k+f]? =some u/\o+xs.length*k<=cs.size
structure ArgS {α:Type}(w0:World)(v:Value)(enc:α->Array Value)(xs:List α):Prop where
 out:(v= .slice none 0 0/\xs=[])\/∃(a:Addr)(c:Nat),v= .slice (some a) xs.length c/\xs.length<=c/\∀(i f k:Nat)(u:Value)(hi:i<xs.length),(∀x,(enc x).size=k)->(enc xs[i])[f]? =some u->w0.cell? (a.add (i*k+f))=some u
class ArgC (w0:World)(v:Value)(α:outParam Type)(enc:outParam (α->Array Value))(xs:outParam (List α)):Prop where
 out:ArgS w0 v enc xs
theorem ZgC {w:World}{a:Addr}{v:Value}(h:w.cell? a=some v):a=⟨a.block,a.off,none⟩/\∃cs T fz,w.heap[a.block]? =some (.cells cs T fz)/\cs[a.off]? =some v:=by
 unfold World.cell? at h
 split at h
 ·rename_i c T fz hb
  split at h
  ·cases h
  ·rename_i hs
   obtain⟨b,o,s⟩:=a
   cases s with
   |none=>exact⟨rfl,c,T,fz,hb,h⟩
   |some s=>exact absurd rfl hs
 ·cases h
theorem ArgS.blk {α:Type}{w0:World}{v:Value}{enc:α->Array Value}{xs:List α}{k:Nat}[he:EncC enc (k+1)](h:ArgS w0 v enc xs)(hne:xs≠[])(L:List Blk):∃b o c,v= .slice (some ⟨b,o,none⟩) xs.length c/\xs.length<=c/\RowC w0 L b o α enc xs:=by
 rcases h.out with⟨_,h0⟩|⟨a,c,hv,hc,hcell⟩
 ·exact absurd h0 hne
 have hlen:0<xs.length:=List.length_pos_iff.2 hne
 have hfirst:∃u,(enc xs[0])[0]? =some u:=by
  have:=he.size xs[0]
  exact⟨(enc xs[0])[0]'(by omega),by simp⟩
 obtain⟨u,hu⟩:=hfirst
 have h0:=hcell 0 0 (k+1) u hlen he.size hu
 rw[Nat.zero_mul,Nat.add_zero] at h0
 have ha:a.add 0=a:=by simp[Addr.add]
 rw[ha] at h0
 obtain⟨hae,cs,T,fz,hb,_⟩:=ZgC h0
 obtain⟨b,o,s⟩:=a
 simp only[Addr.mk.injEq,true_and] at hae
 subst hae
 refine⟨b,o,c,hv,hc,⟨fun w hw=>⟨cs,T,fz,by rw[hw.ext.block b (Zae hb)];exact hb,fun i f k' u hi hk hu=>?_⟩⟩⟩
 have h1:=hcell i f k' u hi hk hu
 rw[Zai,Zaf hb] at h1
 refine⟨by rw[Nat.add_assoc];exact h1, ?_⟩
 have hkk:k'=k+1:=by rw[<-hk xs[0],he.size xs[0]]
 subst hkk
 have hl:xs.length-1<xs.length:=by omega
 obtain⟨u2,hu2⟩:∃u,(enc xs[xs.length-1])[k]? =some u:=⟨(enc xs[xs.length-1])[k]'(by rw[he.size];omega),by simp⟩
 have h2:=hcell (xs.length-1) k (k+1) u2 hl he.size hu2
 rw[Zai,Zaf hb] at h2
 have h3:o+((xs.length-1)*(k+1)+k)<cs.size:=by
  rcases Nat.lt_or_ge (o+((xs.length-1)*(k+1)+k)) cs.size with h|h
  ·exact h
  ·rw[Array.getElem?_eq_none h] at h2;cases h2
 have h4:xs.length*(k+1)=(xs.length-1)*(k+1)+(k+1):=by
  rw[<-Nat.succ_mul]
  congr 1
  omega
 omega
theorem ArgS.opn {α:Type}{w0:World}{p:Option Addr}{n c:Nat}{enc:α->Array Value}{xs:List α}{k:Nat}[he:EncC enc (k+1)](h:ArgS w0 (.slice p n c) enc xs){i:Nat}(hi:i<xs.length):∃b o,p=some ⟨b,o,none⟩/\∀L,RowC w0 L b o α enc xs:=by
 obtain⟨b,o,c',h1, -,h2⟩:=h.blk (k:=k) (fun h0=>by rw[h0] at hi;cases hi) []
 injection h1 with e1
 exact⟨b,o,e1,fun L=>⟨fun w' hw'=>h2.out w' (hw'.sub (Wk _))⟩⟩
section
variable {P : Program} {w0 : World} {n : Nat} {ops : Array Oper} {L : List Blk} {E : Env} {v : Value} {x : Operand} {T : TypeId}
variable {α : Type} [Inhabited α] {enc : α -> Array Value} {k b o f : Nat} {xs : List α} {i : Int}
theorem Zjd [he:EncC enc k][h:RowC w0 L b o α enc xs]{d:Option Tmp}{ty:TypeId}{pos:String}{aft:Array Edge}{gd:Option (Nat×Bool)}(hk:0<k)(hx:Env.ev E x=some (.pointer (some ⟨b,o+i.toNat*k+f,none⟩)))(hi:i.toNat<xs.length)(hv:LdV P T (enc (gi xs i)) f v):Yl P w0 n L E ⟨d, .load T x,ty,pos,aft,gd⟩ v:=
 Z4 (fun _=>loadVar T ⟨b,o+i.toNat*k+f,none⟩) (fun a ha=>by
  simp only[execOp,ha.ev hx,Instr.loadAt,Instr.sureAddr]
  rfl) (fun a w _ hw=>by
   obtain⟨cs,T0,fz,hb,hc⟩:=h.out w hw
   rw[Zbk hi] at hv
   refine Zbi hb ?_
   have hsz:=he.size xs[i.toNat]
   have hle:=Nat.mul_le_mul_right k (show i.toNat+1<=xs.length from hi)
   rw[Nat.add_mul,Nat.one_mul] at hle
   rcases hv with⟨m,ha,hs,rfl⟩|⟨ho,hv⟩
   ·have hbig:=(hc i.toNat 0 k _ hi he.size (show(enc xs[i.toNat])[0]? =some ((enc xs[i.toNat])[0]'(by omega)) by simp)).2
    refine .inl ⟨m,ha,by omega, ?_⟩
    congr 1
    apply Array.ext_getElem?
    intro j
    rw[Array.getElem?_extract,Array.getElem?_extract]
    by_cases hj:j<m
    ·rw[if_pos (by omega),if_pos (by omega)]
     have hfj:f+j<(enc xs[i.toNat]).size:=by omega
     have:=(hc i.toNat (f+j) k _ hi he.size (show(enc xs[i.toNat])[f+j]? =some ((enc xs[i.toNat])[f+j]'hfj) by simp)).1
     rw[show o+i.toNat*k+f+j=o+i.toNat*k+(f+j) by omega,this]
     simp
    ·rw[if_neg (by omega),if_neg (by omega)]
   ·exact .inr ⟨ho,(hc i.toNat f k v hi he.size hv).1⟩)
instance (priority :=low) Zxx [IsC (evl E x) (.pointer (some ⟨b,o+i.toNat*k,none⟩))][h:RowC w0 L b o α enc xs][he:EncC enc k][hv:LdC P T (enc (gi xs i)) 0 v]:YsC P w0 n L E (.load T x) v (0<k/\i.toNat<xs.length):=⟨fun hi _ _ _ _ _=>Zjd (f:=0) (k:=k) hi.1 (by rw[Nat.add_zero];exact isE) hi.2 hv.out⟩
instance (priority :=low) Zyr [IsC (evl E x) (.pointer (some ⟨b,o+i.toNat*k+f,none⟩))][h:RowC w0 L b o α enc xs][he:EncC enc k][hv:LdC P T (enc (gi xs i)) f v]:YsC P w0 n L E (.load T x) v (0<k/\i.toNat<xs.length):=⟨fun hi _ _ _ _ _=>Zjd hi.1 isE hi.2 hv.out⟩
instance (priority :=low) Zzu {kd:IntKind}{T':TypeId}{y:Operand}{a c:Int}[hx:IsC (evl E x) (.int kd a)][hy:IsC (evl E y) (.int kd c)]:YsC P w0 n L E (.binOp .rem T x y T') (.int kd (a % c)) (0<=a/\1<=c):=⟨fun h _ _ _ _ _=>Zan isE isE fun w=>by rw[Zes _ _ (by omega),IntWalk.rem_in _ _ h.1]⟩
end
end Go.Vt
namespace Go.Vt
open Go.RowKit
section
variable {P : Program} {w0 : World} {n : Nat} {ops : Array Oper} {L L' Lw : List Blk} {E : Env}
variable {Q : Exit -> Act -> World -> Prop} {Z : List Nat}
def lexF (ops:Array Oper)(k:Array Bool->Bool):List Nat->Array Bool->Bool
 |[],listed=>k listed
 |h::hs,listed=>(Region.ready .any ops listed).contains h&&Region.free .any ops listed h&&lexF ops k hs (listed.setIfInBounds h true)
def seqF (ops:Array Oper)(k:Array Bool->Bool):List Nat->Array Bool->Bool
 |[],listed=>k listed
 |i::es,listed=>decide (Region.ready .any ops listed=[i])&&seqF ops k es (listed.setIfInBounds i true)
theorem Zkr {F G:List Blk->Act->Prop}{N:Nat}{k:Array Bool->Bool}(hk:∀listed L a,k listed=true->Weak w0 Lw L->G L a->wpG P w0 ops [] Lw F N listed [] L a):∀(es:List Nat)(listed:Array Bool)(L:List Blk)(a:Act),seqF ops k es listed=true->Weak w0 Lw L->EC P w0 ops [] Lw G es L a->wpG P w0 ops [] Lw F (es.length+N) listed es L a
 |[],listed,L,a,hB,hw,h=>by
  rw[Wx,Nat.zero_add]
  exact hk listed L a hB hw h
 |i::es,listed,L,a,hB,hw,h=>by
  simp only[seqF,Wq,decide_eq_true_eq] at hB
  rw[show(i::es).length+N=(es.length+N)+1 by simp only[Wu];omega]
  refine⟨by rw[hB.1];simp,fun j hj=>?_⟩
  rw[hB.1] at hj
  have:j=i:=by simpa using hj
  subst this
  obtain⟨o,ho,hE⟩:=h
  exact⟨o,ho, .inr ⟨es,rfl,hE.mono fun L' u hw' hK=>Zkr hk es _ _ _ hB.2 hw' hK⟩⟩
theorem Zfm {l:List Oper}{F:List Blk->Act->Prop}{es:List Nat}{G:Act->Prop}{N:Nat}{k:Array Bool->Bool}(hk:∀listed a,k listed=true->G a->wpG P w0 l.toArray [] Lw F N listed es L a)(hsel:Region.noSelect l.toArray=true)(hw:Weak w0 Lw L):∀(hs:List Nat)(listed:Array Bool)(a:Act),lexF l.toArray k hs listed=true->
  AH P w0 Lw l.toArray G (picks l hs) a->wpG P w0 l.toArray [] Lw F (hs.length+N) listed es L a
 |[],listed,a,hB,h=>by
  rw[Wx,Nat.zero_add]
  exact hk listed a hB h
 |i::hs,listed,a,hB,h=>by
  simp only[lexF,Wq] at hB
  obtain⟨⟨hr,hf⟩,hB'⟩:=hB
  have hr':i∈Region.ready .any l.toArray listed:=by simpa using hr
  obtain⟨_,o,ho,_⟩:=mem_ready.1 hr'
  have ho':l[i]? =some o:=by simpa using ho
  simp only[picks,ho',AH] at h
  obtain⟨v,hy,h⟩:=h
  rw[show(i::hs).length+N=(hs.length+N)+1 by simp only[Wu];omega]
  exact Zd1 ho (Region.noSelect_spec hsel) (fun z o hz _=>by simp at hz) _ _ _ _ _ (Region.free_spec ho hf) hr' hy hw (Zfm hk hsel hw hs _ _ hB' h)
def phB (ops:Array Oper):List (List Nat×List Nat)->Array Bool->Bool
 |[],listed=>(Region.ready .any ops listed).isEmpty
 |p::ps,listed=>lexF ops (seqF ops (phB ops ps) p.2) p.1 listed
def phN :List (List Nat×List Nat)->Nat
 |[]=>0
 |p::ps=>p.1.length+(p.2.length+phN ps)
def phE :List (List Nat×List Nat)->List Nat
 |[]=>[]
 |p::ps=>p.2++phE ps
def phA (ops:Array Oper)(ps:List (List Nat×List Nat)):Bool:=
 Region.noSelect ops&&decide (phN ps=ops.size)&&ps.all (fun p=>p.2.all (fun i=>decide (i<ops.size)))&&phB ops ps (Array.replicate ops.size false)
def PH (P:Program)(w0:World)(l:List Oper)(Lw:List Blk)(F:List Blk->Act->Prop):List (List Nat×List Nat)->List Blk->Act->Prop
 |[],L,a=>F L a
 |p::ps,L,a=>AH P w0 Lw l.toArray (fun a1=>EC P w0 l.toArray [] Lw (fun L1 a2=>PH P w0 l Lw F ps L1 a2) p.2 L a1) (picks l p.1) a
def JP (P:Program)(w0:World)(n:Nat)(l:List Oper)(Lw:List Blk)(K:Env->List Blk->Prop):List (List Nat×List Nat)->Env->List Blk->Prop
 |[],E,L=>K E L
 |p::ps,E,L=>JH P w0 n Lw l.toArray (fun E'=>JE P w0 n l.toArray Lw (fun E1 L1=>JP P w0 n l Lw K ps E1 L1) (picks l p.2) E' L) (picks l p.1) E
theorem Zfu {F G:List Blk->Act->Prop}{N:Nat}{R:List Nat}{k:Array Bool->Bool}(hk:∀listed L a,k listed=true->Weak w0 Lw L->G L a->wpG P w0 ops [] Lw F N listed R L a):∀(es:List Nat)(listed:Array Bool)(L:List Blk)(a:Act),seqF ops k es listed=true->Weak w0 Lw L->EC P w0 ops [] Lw G es L a->wpG P w0 ops [] Lw F (es.length+N) listed (es++R) L a
 |[],listed,L,a,hB,hw,h=>by
  rw[Wx,Nat.zero_add]
  exact hk listed L a hB hw h
 |i::es,listed,L,a,hB,hw,h=>by
  simp only[seqF,Wq,decide_eq_true_eq] at hB
  rw[show(i::es).length+N=(es.length+N)+1 by simp only[Wu];omega]
  refine⟨by rw[hB.1];simp,fun j hj=>?_⟩
  rw[hB.1] at hj
  have:j=i:=by simpa using hj
  subst this
  obtain⟨o,ho,hE⟩:=h
  exact⟨o,ho, .inr ⟨es++R,rfl,hE.mono fun L' u hw' hK=>Zfu hk es _ _ _ hB.2 hw' hK⟩⟩
theorem Zgm {l:List Oper}{F:List Blk->Act->Prop}(hsel:Region.noSelect l.toArray=true):∀(ps:List (List Nat×List Nat))(listed:Array Bool)(L:List Blk)(a:Act),phB l.toArray ps listed=true->Weak w0 Lw L->PH P w0 l Lw F ps L a->wpG P w0 l.toArray [] Lw F (phN ps) listed (phE ps) L a
 |[],listed,L,a,hB,hw,h=>⟨rfl,by simpa [phB] using hB,h⟩
 |p::ps,listed,L,a,hB,hw,h=>
  Zfm (fun listed a1 hb hG=>Zfu (fun listed L1 a2 hb2 hw2 hG2=>Zgm hsel ps listed L1 a2 hb2 hw2 hG2) p.2 listed L a1 hb hw hG) hsel hw p.1 listed a hB h
theorem Ziq {l:List Oper}{K:Env->List Blk->Prop}{F:List Blk->Act->Prop}(hK:∀E L a,Rep n E a->K E L->F L a):∀(ps:List (List Nat×List Nat))(E:Env)(L:List Blk)(a:Act),ps.all (fun p=>p.2.all (fun i=>decide (i<l.length)))=true->Rep n E a->JP P w0 n l Lw K ps E L->PH P w0 l Lw F ps L a
 |[],E,L,a,_,ha,h=>hK E L a ha h
 |p::ps,E,L,a,hi,ha,h=>by
  simp only[List.all_cons,Wq] at hi
  exact Zbo (n:=n) (fun E' a' ha' hK'=>ZaL (n:=n) (Lj:=Lw) (fun E1 L1 a1 ha1 h1=>Ziq hK ps E1 L1 a1 hi.2 ha1 h1) p.2 E' L a' hi.1 (fun _ _=>rfl) ha' hK') _ _ _ ha h
theorem Zn2 {id:Nat}{l:List Oper}(ps:List (List Nat×List Nat))(Lw:List Blk)(hm:P.follows .mixedOrders=true:=by exact mixed)(hB:phA l.toArray ps=true:=by kernel_rfl)(hL:Lw.Sublist L:=by first|exact Wj _|exact Wk _|exact sbl|(repeat(first|exact Wj _|exact Wk _|refine List.Sublist.cons_cons _ ?_|refine List.Sublist.cons _ ?_|refine List.Sublist.trans ?_ (List.sublist_append_right _ _))))
  (h:JP P w0 n l Lw (fun E2 L2=>JX w0 n .normal Q E2 L2) ps E L):J P w0 n (.region id l.toArray true) Q E L:=by
 refine⟨fun a w ha hw=>?_⟩
 simp only[phA,Wq,decide_eq_true_eq] at hB
 obtain⟨⟨⟨hsel,hlen⟩,hall⟩,hlex⟩:=hB
 refine wp_region_any hm ?_
 have H:=Zgm (P:=P) (F:=fun L a=>∀w,Own w0 L w->Q .normal a w) hsel ps _ L a hlex (Z8 hL) (Ziq (n:=n) (fun E2 L2 a2 ha2 hx w hw=>hx.out a2 w ha2 hw) ps E L a (by simpa using hall) ha h)
 have:=Za2 (P:=P) (Q:=Q) (fun L a w hF hw=>hF w hw) _ _ _ _ _ w.drew (hw.to (Ext.drew w)) H
 rw[hlen] at this
 exact this
end
section
variable {P : Program} {w0 : World} {n : Nat} {ops : Array Oper} {L Lw : List Blk} {E : Env} {K : Env -> List Blk -> Prop} {rest : List Oper} {v : Value} {op : Op} {S : Prop}
variable {ty : TypeId} {pos : String} {aft : Array Edge} {gd : Option (Nat × Bool)} {t : Tmp}
theorem eV (h:Yl P w0 n L E ⟨some t,op,ty,pos,aft,gd⟩ v)(hg:guardB ops E gd=some true)(hd:Nat.blt t n=true)(hw:Lw.Sublist L)(k:JE P w0 n ops Lw K rest ((t,v)::E) L):JE P w0 n ops Lw K (⟨some t,op,ty,pos,aft,gd⟩::rest) E L:=
 ⟨hg,hd,Unit,fun _=>v,fun _=>L,fun a w ha hw=>by
  have h1:=h.out a w ha hw
  unfold calm at h1
  generalize (execOp a.eval ⟨some t,op,ty,pos,aft,gd⟩).run P w=r at*
  cases r with
  |ok x w'=>
   cases x <;> simp only[calmUpon] at h1 <;> simp only[Hap]
   case value u=>exact⟨(),h1.1,hw.to h1.2⟩
   case skip=>exact⟨(),h1.1.symm,hw.to h1.2⟩
   case enter f args=>
    obtain⟨rfl,h2⟩:=h1
    exact h2.mono fun e w'' ⟨he,hx⟩=>⟨_,he,(),rfl,hw.to hx⟩
  |halt x w'=>simp only[calmUpon] at h1,fun _=>Z8 hw,fun _=>k⟩
theorem uS [h:YsC P w0 n L E op v S](hg:guardB ops E gd=some true)(hd:Nat.blt t n=true)[hw:SblC Lw L](s:S)(k:JE P w0 n ops Lw K rest ((t,v)::E) L):JE P w0 n ops Lw K (⟨some t,op,ty,pos,aft,gd⟩::rest) E L:=eV (h.out s _ _ _ _ _) hg hd hw.out k
theorem uC [h:YcC P w0 n L E op v S](hg:guardB ops E gd=some true)(hd:Nat.blt t n=true)[hw:SblC Lw L](s:S)(k:JE P w0 n ops Lw K rest ((t,v)::E) L):JE P w0 n ops Lw K (⟨some t,op,ty,pos,aft,gd⟩::rest) E L:=eV (h.out s _ _ _ _ _) hg hd hw.out k
end
theorem wkP {P Q:Prop}(k:Q)(h:Wr Q->P:=by intro hq;simp only[JP,picks,List.getElem?_cons_succ,List.getElem?_cons_zero];exact hq.out):P:=h ⟨k⟩
theorem wkT {P Q:Prop}(k:Q)(h:Wr Q->P:=by intro hq;(first|refine eS rfl rfl ?_|refine uP rfl rfl rfl rfl ?_|refine uQ rfl rfl rfl rfl ?_|refine eX rfl rfl ?_|(refine uS rfl rfl ?_ ?_;focus omega)|(refine uC rfl rfl ?_ ?_;focus(first|exact trivial|assumption|constructor <;> assumption|exact mb2 rfl rfl|exact mb4 rfl rfl rfl rfl))|refine uW rfl rfl ?_|refine eF rfl ?_|refine eT rfl ?_|(refine eA rfl rfl ?_)|(refine eB rfl rfl ?_)|(refine eN rfl rfl ?_ ?_;(focus(first|exact trivial|assumption|constructor <;> assumption|exact mb2 rfl rfl|exact mb4 rfl rfl rfl rfl));(try simp only[Wf,Wg,Wh]))|refine Za0 ?_|refine tX rfl rfl ?_|(refine tS rfl rfl ?_ ?_;focus omega)|(refine tC rfl rfl ?_ ?_;focus(first|exact trivial|assumption|constructor <;> assumption|exact mb2 rfl rfl|exact mb4 rfl rfl rfl rfl))|refine tW rfl rfl ?_|refine tK rfl rfl ?_|refine Go.Vt.hq (ZcD rfl rfl) rfl rfl ?_|refine Go.Vt.hq (ZcF rfl rfl) rfl rfl ?_|refine Zo ?_|(refine Z0 ?_)|refine Zs ?_);(repeat(first|refine eS rfl rfl ?_|refine uP rfl rfl rfl rfl ?_|refine uQ rfl rfl rfl rfl ?_|refine eX rfl rfl ?_|(refine uS rfl rfl ?_ ?_;focus omega)|(refine uC rfl rfl ?_ ?_;focus(first|exact trivial|assumption|constructor <;> assumption|exact mb2 rfl rfl|exact mb4 rfl rfl rfl rfl))|refine uW rfl rfl ?_|refine eF rfl ?_|refine eT rfl ?_|(refine eA rfl rfl ?_)|(refine eB rfl rfl ?_)|(refine eN rfl rfl ?_ ?_;(focus(first|exact trivial|assumption|constructor <;> assumption|exact mb2 rfl rfl|exact mb4 rfl rfl rfl rfl));(try simp only[Wf,Wg,Wh]))|refine Za0 ?_|refine tX rfl rfl ?_|(refine tS rfl rfl ?_ ?_;focus omega)|(refine tC rfl rfl ?_ ?_;focus(first|exact trivial|assumption|constructor <;> assumption|exact mb2 rfl rfl|exact mb4 rfl rfl rfl rfl))|refine tW rfl rfl ?_|refine tK rfl rfl ?_|refine Go.Vt.hq (ZcD rfl rfl) rfl rfl ?_|refine Go.Vt.hq (ZcF rfl rfl) rfl rfl ?_|refine Zo ?_|(refine Z0 ?_)|refine Zs ?_));exact hq.out):P:=h ⟨k⟩
end Go.Vt
