/- For any moving label, any fraction and any instant, Shift moves the labels in time, and back by the opposite fraction. Conditions: none. (part 9 of 28.) Conditions: those that each statement names. -/
import Derived.Test.YtcgkgdgpdpihmaaGreatDoorProg
import Derived.Test.YtcgkgdgpdpihmaaGreatDoorKS4
import Derived.Test.YtcgkgdgpdpihmaaGreatDoorKS8
set_option linter.unusedSimpArgs false
set_option linter.unusedVariables false
set_option maxHeartbeats 2000000
set_option maxRecDepth 100000
set_option linter.unusedSectionVars false
namespace Go.Vt
open Go.RowKit Go.Proofs
open Go.Proofs.Tryz (prog)
section
def dn (q:Rat):Int:=if q.den=1 then 0 else q.den
def Q (q:Rat):ZT:=⟨I q.num,I (dn q)⟩
abbrev vQ (q:Rat):Value:= .agg (Zj (Q q))
def M (q:Rat):Nat:=max (mg q.num) (mg q.den)
abbrev LQ :Nat:=274877906944
theorem Zca {a b:Int}:I a=I b↔a=b:=by
 refine⟨fun h=>?_,fun h=>by rw[h]⟩
 have h1:=congrArg ZI.Neg h
 have h2:=congrArg ZI.Mag h
 simp only[I] at h1 h2
 have h3:=Zel.1 h2
 by_cases ha:a<0 <;> by_cases hb:b<0 <;> simp[ha,hb] at h1 <;> omega
theorem ZhL {p q:Rat}:dn p=dn q↔p.den=q.den:=by
 have h1:=p.den_pos
 have h2:=q.den_pos
 unfold dn
 split <;> split <;> omega
theorem Zgx {p q:Rat}:Q p=Q q↔p=q:=by
 refine⟨fun h=>?_,fun h=>by rw[h]⟩
 have h1:=Zca.1 (congrArg ZT.Num h)
 have h2:=ZhL.1 (Zca.1 (congrArg ZT.Den h))
 exact Rat.ext h1 h2
theorem z_I :Zal=I 0:=by decide
theorem z_Q :Zbk=Q 0:=by decide
instance (priority :=high) zeroI:ZeroC prog 31 (vI 0) (Zp (I 0)):=⟨by have h:= @ZeroC.out prog 31 (.agg (Zp Zal)) (Zp Zal) inferInstance;rw[z_I] at h;exact h,rfl⟩
instance (priority :=high) zeroQ:ZeroC prog 33 (vQ 0) (Zj (Q 0)):=⟨by have h:= @ZeroC.out prog 33 (.agg (Zj Zbk)) (Zj Zbk) inferInstance;rw[z_Q] at h;exact h,rfl⟩
instance (priority :=high) bdI0:BdC prog 31 [] (vI 0):=⟨by have h:= @BdC.out prog 31 [] (.agg (Zp Zal)) inferInstance;rw[z_I] at h;exact h⟩
instance (priority :=high) bdQ0:BdC prog 33 [] (vQ 0):=⟨by have h:= @BdC.out prog 33 [] (.agg (Zj Zbk)) inferInstance;rw[z_Q] at h;exact h⟩
instance (priority :=high) Zz3 (q:Rat):LdC prog 31 (Zj (Q q)) 0 (vI q.num):=⟨ZL 2⟩
instance (priority :=high) Zza (q:Rat):LdC prog 31 (Zj (Q q)) 2 (vI (dn q)):=⟨ZL 2⟩
instance (priority :=high) eqI (a b:Int):BinC prog .eql 31 (vI a) (vI b) (.bool (decide (a=b))):=by
 have h:decide (I a=I b)=decide (a=b):=by rw[decide_eq_decide];exact Zca
 exact h▸(inferInstance:BinC prog .eql 31 (vI a) (vI b) (.bool (decide (I a=I b))))
instance (priority :=high) eqQ (a b:Rat):BinC prog .eql 33 (vQ a) (vQ b) (.bool (decide (a=b))):=by
 have h:decide (Q a=Q b)=decide (a=b):=by rw[decide_eq_decide];exact Zgx
 exact h▸(inferInstance:BinC prog .eql 33 (vQ a) (vQ b) (.bool (decide (Q a=Q b))))
theorem Za7 (q:Rat):mg q.num<=M q:=Nat.le_max_left _ _
theorem ZaQ (q:Rat):mg q.den<=M q:=Nat.le_max_right _ _
theorem ZgJ (n:Nat):mg (n:Int)=(mag n).size:=by unfold mg;rw[Int.natAbs_natCast]
theorem Zig (a:Int)(g:Nat)(h:(g:Int)∣a):(a / (g:Int)).natAbs<=a.natAbs:=by
 obtain⟨k,rfl⟩:=h
 rcases Nat.eq_zero_or_pos g with h|h
 ·subst h;simp
 ·rw[Int.mul_ediv_cancel_left _ (by omega),Int.natAbs_mul,Int.natAbs_natCast]
  exact Nat.le_mul_of_pos_left _ h
theorem ZbY {a b:Int}{k:Nat}(ha:mg a<=k)(hb:mg b<=k)(h1:1<=k):M (Rat.divInt a b)<=k:=by
 refine Nat.max_le.2 ⟨?_, ?_⟩
 ·refine Wi (Zeg ?_) ha
  rw[Rat.num_divInt]
  refine Wi (Zig _ _ ?_) ?_
  ·exact Int.dvd_trans (Int.gcd_dvd_right ..) (Int.dvd_mul_left _ _)
  ·rw[Int.natAbs_mul]
   have:b.sign.natAbs<=1:=by rw[Int.natAbs_sign];split <;> omega
   calc b.sign.natAbs*a.natAbs<=1*a.natAbs:=Nat.mul_le_mul_right _ this
    _=a.natAbs:=Nat.one_mul _
 ·rw[Rat.den_divInt,ZgJ]
  split
  ·exact Wi (by decide) h1
  ·exact Wi (Zbm (Nat.div_le_self _ _)) hb
theorem Zfa (q:Rat):(q.den:Int)≠0:=by have:=q.den_pos;omega
theorem Ze3 (a b:Rat):a+b=Rat.divInt (a.num*b.den+b.num*a.den) (a.den*b.den):=by
 rw[Rat.add_def',<-Rat.divInt_ofNat,Int.natCast_mul]
theorem Zdw (a b:Rat):a*b=Rat.divInt (a.num*b.num) (a.den*b.den):=by
 rw[Rat.mul_def',<-Rat.divInt_ofNat,Int.natCast_mul]
theorem ZlX {q:Rat}:1<=M q:=by
 refine Wi ?_ (ZaQ q)
 rw[ZgJ]
 rcases Nat.eq_zero_or_pos (mag q.den).size with h|h
 ·have h1:=(ZY (n:=q.den) (k:=0)).1 (by omega)
  have:=q.den_pos
  simp at h1
  omega
 ·exact h
theorem Zgu (a b:Rat):M (a+b)<=M a+M b+1:=by
 rw[Ze3]
 have h1:=Za7 a
 have h2:=ZaQ a
 have h3:=Za7 b
 have h4:=ZaQ b
 refine ZbY (ZlI (k:=M a+M b) ?_ ?_) ?_ (by omega)
 ·exact Wi (Zbz _ _) (by omega)
 ·exact Wi (Zbz _ _) (by omega)
 ·exact Wi (Zbz _ _) (by omega)
theorem ZsZ (a b:Rat):M (a*b)<=M a+M b:=by
 rw[Zdw]
 have h1:=Za7 a
 have h2:=ZaQ a
 have h3:=Za7 b
 have h4:=ZaQ b
 have h5:= @ZlX a
 exact ZbY (Wi (Zbz _ _) (by omega)) (Wi (Zbz _ _) (by omega)) (by omega)
theorem Zj7 (a:Rat):M (-a)=M a:=by unfold M;rw[Rat.neg_num,Rat.neg_den,Zfc]
theorem ZoH (a b:Rat):M (a-b)<=M a+M b+1:=by rw[Rat.sub_eq_add_neg,<-Zj7 b];exact Zgu _ _
class MB (q:Rat)(k:outParam Nat):Prop where out:M q<=k
instance ZAO (a b:Rat)(j k:Nat)[h1:MB a j][h2:MB b k]:MB (a+b) (j+k+1):=⟨by have:=Zgu a b;have:=h1.out;have:=h2.out;omega⟩
instance ZBg (a b:Rat)(j k:Nat)[h1:MB a j][h2:MB b k]:MB (a-b) (j+k+1):=⟨by have:=ZoH a b;have:=h1.out;have:=h2.out;omega⟩
instance ZAM (a b:Rat)(j k:Nat)[h1:MB a j][h2:MB b k]:MB (a*b) (j+k):=⟨by have:=ZsZ a b;have:=h1.out;have:=h2.out;omega⟩
instance ZAN :SpecC prog 206 [] (vI 1) True:=⟨fun _ w=>by
 refine Zb Tryz.func206 rfl Tryz.ntmps206 rfl ?_
 repeat(first|(refine wkA ?_;intros)|(refine sC rfl rfl ?_ ?_;focus(first|exact trivial|omega)))
 exact rtC rfl rfl⟩
theorem ZfL {q:Rat}:dn q=0↔q.den=1:=by
 have:=q.den_pos
 unfold dn
 split <;> omega
instance ZA1 (q:Rat):SpecC prog 177 [vQ q] (vI q.den) True:=⟨fun _ w=>by
 refine Zb Tryz.func177 rfl Tryz.ntmps177 rfl ?_
 repeat(refine wkA ?_;intros)
 refine Zi rfl (fun h=>?_) (fun h=>?_)
 ·have h1:=ZfL.1 (Wa h)
  rw[h1]
  repeat(refine wkA ?_;intros)
  exact rtC rfl rfl
 ·have h1:¬q.den=1:=fun h0=>Wb h (ZfL.2 h0)
  have h2:dn q=q.den:=by unfold dn;rw[if_neg h1]
  repeat(refine wkA ?_;intros)
  exact Zcx rfl rfl (fun w hw=>by rw[<-h2];exact ZM hw)⟩
instance Zsf (a b:Int):SpecC prog 205 [vI a,vI b] (vI (a / b)) (b≠0/\mg a<=LIM/\mg b<=LIM):=⟨fun hp w=>by
 refine Zb Tryz.func205 rfl Tryz.ntmps205 rfl ?_
 repeat(refine wkA ?_;intros)
 exact rtC rfl rfl⟩
theorem Zgi {x y:Int}(hy:0<y):(Rat.divInt x y).num=x / (Int.gcd x y:Int)/\((Rat.divInt x y).den:Int)=y / (Int.gcd x y:Int):=by
 refine⟨?_, ?_⟩
 ·rw[Rat.num_divInt,Int.sign_eq_one_of_pos hy,Int.one_mul,Int.gcd_comm]
 ·rw[Rat.den_divInt,if_neg (by omega),Int.gcd_comm,Int.natCast_ediv]
  congr 1
  omega
instance Zq7 (x y:Int):SpecC prog 174 [vI x,vI y] (vQ (Rat.divInt x y)) (y≠0/\mg x<=LIM/\mg y<=LIM):=⟨fun hp w=>by
 obtain⟨hy,hx,hl⟩:=hp
 refine Zb Tryz.func174 rfl Tryz.ntmps174 rfl ?_
 repeat(refine wkA ?_;intros)
 rename_i ba bb bc
 refine ZS (S:=Int×Int) (fun s=>0<s.2/\Rat.divInt s.1 s.2=Rat.divInt x y/\mg s.1<=LIM/\mg s.2<=LIM) (fun _=>[(2, .pointer (some ⟨ba,0,none⟩)),(3, .pointer (some ⟨bb,0,none⟩)),(4, .pointer (some ⟨bc,0,none⟩))]) (fun s=>[⟨bc,Zj (Q 0),33⟩,⟨bb,Zp (I s.2),31⟩,⟨ba,Zp (I s.1),31⟩]) ?_ (fun s hs=>?_)
 ·refine Zi rfl (fun h=>?_) (fun h=>?_)
  ·have hneg:y<0:=Int.sign_neg_iff.1 (Wa h)
   repeat(refine wkA ?_;intros)
   (refine jD 4 4 (h:=?_);(repeat(refine wkH ?_));refine Zo ?_;(repeat(refine ZZ ?_;intro _));refine Zr ?_)
   repeat(refine wkA ?_;intros)
   exact Zg (-x, -y) ⟨by simp only;omega,Rat.neg_divInt_neg _ _,by simp only[Zfc];exact hx,by simp only[Zfc];exact hl⟩ sbB sbl
  ·have hpos:0<y:=by
    have h1:¬y.sign<0:=Wb h
    have h2:¬y<0:=fun h3=>h1 (Int.sign_neg_iff.2 h3)
    omega
   repeat(refine wkA ?_;intros)
   exact Zg (x,y) ⟨hpos,rfl,hx,hl⟩ sbB sbl
 obtain⟨p,q⟩:=s
 obtain⟨hq0,heq,hp,hq⟩:=hs
 simp only at hq0 heq hp hq⊢
 obtain⟨e1,e2⟩:=Zgi (x:=p) hq0
 have hg0:((Int.gcd p q:Nat):Int)≠0:=by
  have:=Int.gcd_pos_of_ne_zero_right p (Int.ne_of_gt hq0)
  omega
 have hg1:mg (Int.gcd p q:Nat)<=LIM:=by
  refine Wi (Zeg ?_) hq
  rw[Int.natAbs_natCast]
  exact Nat.le_of_dvd (by omega) (Int.gcd_dvd_natAbs_right p q)
 rw[<-heq]
 generalize hgd:((Int.gcd p q:Nat):Int)=g at*
 repeat(first|(refine wkA ?_;intros)|(refine sC rfl rfl ?_ ?_;focus(first|exact trivial|assumption|exact⟨hp,hq⟩)))
 rw[hgd]
 (refine jD 6 6 (h:=?_);(repeat(first|refine wkH ?_|(refine tC rfl rfl ?_ ?_;focus(first|exact trivial|exact⟨hg0,hp,hg1⟩|exact⟨hg0,hq,hg1⟩))));refine Zo ?_;(repeat(refine ZZ ?_;intro _));refine Zr ?_)
 rw[<-e1,<-e2]
 repeat(refine wkA ?_;intros)
 (refine jD 3 3 (h:=?_);(repeat(refine wkH ?_));refine Zo ?_;(repeat(refine ZZ ?_;intro _));refine Zr ?_)
 repeat(refine wkA ?_;intros)
 have key:∀d:Int,(if(Rat.divInt p q).den=1 then 0 else((Rat.divInt p q).den:Int))=d->(⟨I (Rat.divInt p q).num,I d⟩:ZT)=Q (Rat.divInt p q):=fun d hd=>by rw[<-hd];rfl
 refine Zi rfl (fun h=>?_) (fun h=>?_)
 ·have h1:(Rat.divInt p q).den=1:=by have:=Wa h;omega
  repeat(refine wkA ?_;intros)
  exact Zcx rfl rfl (fun w hw=>by rw[key 0 (by rw[if_pos h1])];exact ZM hw)
 ·have h1:¬(Rat.divInt p q).den=1:=fun h0=>Wb h (by omega)
  repeat(refine wkA ?_;intros)
  exact Zcx rfl rfl (fun w hw=>by rw[key _ (by rw[if_neg h1])];exact ZM hw)⟩
theorem ZoP (n:Int):(⟨I n,I 0⟩:ZT)=Q (n:Rat):=rfl
instance ZsI (n:Int):SpecC prog 134 [.int .i64 n] (vQ (n:Rat)) (-9223372036854775808<=n/\n<=9223372036854775807):=⟨fun hp w=>by
 refine Zb Tryz.func134 rfl Tryz.ntmps134 rfl ?_
 repeat(refine wkA ?_;intros)
 exact Zcx rfl rfl (fun w hw=>by rw[z_I,ZoP];exact ZM hw)⟩
def crs (a b:Rat):Int×Int×Int:=if a.den=b.den then(a.num,b.num,a.den) else(a.num*b.den,b.num*a.den,a.den*b.den)
theorem Zp1 (a b:Rat):mg (crs a b).1<=M a+M b/\mg (crs a b).2.1<=M a+M b/\mg (crs a b).2.2<=M a+M b:=by
 have h1:=Za7 a
 have h2:=ZaQ a
 have h3:=Za7 b
 have h4:=ZaQ b
 have h5:=Zbz a.num b.den
 have h6:=Zbz b.num a.den
 have h7:=Zbz a.den b.den
 unfold crs
 split <;> exact⟨by simp only;omega,by simp only;omega,by simp only;omega⟩
theorem ZjO (a b:Rat):0<(crs a b).2.2:=by
 have h1:=a.den_pos
 have h2:=b.den_pos
 unfold crs
 split
 ·show(0:Int)<a.den
  omega
 ·exact Int.mul_pos (by omega) (by omega)
theorem ZpR (a b:Rat):a=Rat.divInt (crs a b).1 (crs a b).2.2/\b=Rat.divInt (crs a b).2.1 (crs a b).2.2:=by
 have ha:=Zfa a
 have hb:=Zfa b
 unfold crs
 split
 ·rename_i h
  exact⟨(Rat.num_divInt_den a).symm,by rw[h];exact(Rat.num_divInt_den b).symm⟩
 ·refine⟨?_, ?_⟩
  ·conv=>lhs;rw[<-Rat.num_divInt_den a]
   exact(Rat.divInt_mul_right hb).symm
  ·conv=>lhs;rw[<-Rat.num_divInt_den b]
   rw[Int.mul_comm (a.den:Int)]
   exact(Rat.divInt_mul_right ha).symm
theorem ZpE (a b:Rat):Rat.divInt ((crs a b).1+(crs a b).2.1) (crs a b).2.2=a+b:=by
 have h:=ZjO a b
 obtain⟨h1,h2⟩:=ZpR a b
 have h3:(crs a b).2.2≠0:=by omega
 have e:a+b=Rat.divInt (crs a b).1 (crs a b).2.2+Rat.divInt (crs a b).2.1 (crs a b).2.2:=by rw[<-h1,<-h2]
 rw[e,Rat.divInt_add_divInt _ _ h3 h3,<-Int.add_mul]
 exact(Rat.divInt_mul_right h3).symm
def cq (a b:Rat):Int:=if a<b then-1 else if b<a then 1 else 0
theorem Zpi (a b:Rat):Lib.compareInt (crs a b).1 (crs a b).2.1=cq a b:=by
 have key:∀x y:Rat,x<y↔x.num*y.den<y.num*x.den:=Rat.lt_iff
 have h:((crs a b).1<(crs a b).2.1↔a<b)/\((crs a b).2.1<(crs a b).1↔b<a):=by
  unfold crs
  rw[key a b,key b a]
  have h1:=a.den_pos
  split
  ·rename_i hd
   rw[hd]
   have h2:(0:Int)<b.den:=by have:=b.den_pos;omega
   exact⟨(Int.mul_lt_mul_right h2).symm,(Int.mul_lt_mul_right h2).symm⟩
  ·exact⟨Iff.rfl,Iff.rfl⟩
 unfold Lib.compareInt cq
 simp only[h.1,h.2,GT.gt]
instance ZxV (a b:Rat):SpecC prog 173 [vQ a,vQ b] (.tuple #[vI (crs a b).1,vI (crs a b).2.1,vI (crs a b).2.2]) (M a<=LQ/\M b<=LQ):=⟨fun hp w=>by
 have hL:LQ<=LIM:=by decide
 have h1:=Wi (Wi (Za7 a) hp.1) hL
 have h2:=Wi (Wi (ZaQ a) hp.1) hL
 have h3:=Wi (Wi (Za7 b) hp.2) hL
 have h4:=Wi (Wi (ZaQ b) hp.2) hL
 refine Zb Tryz.func173 rfl Tryz.ntmps173 rfl ?_
 repeat(refine wkA ?_;intros)
 refine Zi rfl (fun h=>?_) (fun h=>?_)
 ·have hd:a.den=b.den:=ZhL.1 (Wa h)
  rw[show crs a b=(a.num,b.num,(a.den:Int)) by unfold crs;rw[if_pos hd]]
  repeat(refine wkA ?_;intros)
  rename_i ba bb bc bd be
  (refine Zas [0,1,2,3,4,5] [6,7,8] ([⟨bb,Zj (Q b),33⟩,⟨ba,Zj (Q a),33⟩]) (h:=?_);refine wkI ?_)
  (repeat(refine wkH ?_))
  refine Zo ?_
  refine Zds rfl rfl rfl sbl (Zds rfl rfl rfl sbl (Zds rfl rfl rfl sbl (Za0 ?_)))
  repeat(refine wkA ?_;intros)
  exact ZaU rfl (Z6 rfl) (Z6 rfl) (Z6 rfl) (fun w hw=>ZM hw)
 ·have hd:¬a.den=b.den:=fun h0=>Wb h (ZhL.2 h0)
  rw[show crs a b=(a.num*b.den,b.num*a.den,(a.den:Int)*b.den) by unfold crs;rw[if_neg hd]]
  repeat(refine wkA ?_;intros)
  (refine jD 15 15 (h:=?_);(repeat(refine wkH ?_));refine Zo ?_;(repeat(refine ZZ ?_;intro _));refine Zr ?_)
  repeat(refine wkA ?_;intros)
  exact ZaU rfl (Z6 rfl) (Z6 rfl) (Z6 rfl) (fun w hw=>ZM hw)⟩
theorem LQ2 {j k:Nat}(h:j<=LQ/\k<=LQ):j+k+1<=LIM:=by
 have h1:LQ+LQ+1<=LIM:=by decide
 exact Wi (Nat.add_le_add_right (Nat.add_le_add h.1 h.2) 1) h1
instance ZzY (a b:Rat):SpecC prog 132 [vQ a,vQ b] (vQ (a+b)) (M a<=LQ/\M b<=LQ):=⟨fun hp w=>by
 obtain⟨h1,h2,h3⟩:=Zp1 a b
 have hL:=LQ2 hp
 have g1:mg (crs a b).1<=LIM:=Wi (Nat.le_succ_of_le h1) hL
 have g2:mg (crs a b).2.1<=LIM:=Wi (Nat.le_succ_of_le h2) hL
 have g3:mg (crs a b).2.2<=LIM:=Wi (Nat.le_succ_of_le h3) hL
 have g4:mg ((crs a b).1+(crs a b).2.1)<=LIM:=Wi (ZlI h1 h2) hL
 have g5:(crs a b).2.2≠0:=Int.ne_of_gt (ZjO a b)
 refine Zb Tryz.func132 rfl Tryz.ntmps132 rfl ?_
 repeat(refine wkA ?_;intros)
 (refine jD 5 5 (h:=?_);(repeat(first|refine wkH ?_|(refine tC rfl rfl ?_ ?_;focus(first|exact⟨by assumption,by assumption⟩|exact⟨g5,g4,g3⟩))));refine Zo ?_;(repeat(refine ZZ ?_;intro _));refine Zr ?_)
 rw[ZpE]
 repeat(refine wkA ?_;intros)
 exact rtC rfl rfl⟩
instance Zzl (a b:Rat):SpecC prog 133 [vQ a,vQ b] (vQ (a*b)) (M a<=LQ/\M b<=LQ):=⟨fun hp w=>by
 have hL:LQ<=LIM:=by decide
 have hM:=LQ2 hp
 have h1:=Wi (Wi (Za7 a) hp.1) hL
 have h2:=Wi (Wi (ZaQ a) hp.1) hL
 have h3:=Wi (Wi (Za7 b) hp.2) hL
 have h4:=Wi (Wi (ZaQ b) hp.2) hL
 have g1:mg (a.num*b.num)<=LIM:=Wi (Zbz _ _) (Wi (Nat.le_succ_of_le (Nat.add_le_add (Za7 a) (Za7 b))) hM)
 have g2:mg ((a.den:Int)*b.den)<=LIM:=Wi (Zbz _ _) (Wi (Nat.le_succ_of_le (Nat.add_le_add (ZaQ a) (ZaQ b))) hM)
 have g3:(a.den:Int)*b.den≠0:=Int.mul_ne_zero (Zfa a) (Zfa b)
 refine Zb Tryz.func133 rfl Tryz.ntmps133 rfl ?_
 repeat(refine wkA ?_;intros)
 (refine jD 11 11 (h:=?_);(repeat(first|refine wkH ?_|(refine tC rfl rfl ?_ ?_;focus(first|exact trivial|exact⟨by assumption,by assumption⟩|exact⟨g3,g1,g2⟩))));refine Zo ?_;(repeat(refine ZZ ?_;intro _));refine Zr ?_)
 rw[<-Zdw]
 repeat(refine wkA ?_;intros)
 exact rtC rfl rfl⟩
theorem Zte (q:Rat):(⟨I (-q.num),I (dn q)⟩:ZT)=Q (-q):=rfl
instance ZzJ (a:Rat):SpecC prog 130 [vQ a] (vQ (-a)) True:=⟨fun _ w=>by
 refine Zb Tryz.func130 rfl Tryz.ntmps130 rfl ?_
 repeat(refine wkA ?_;intros)
 (refine jD 6 6 (h:=?_);(repeat(refine wkH ?_));refine Zo ?_;(repeat(refine ZZ ?_;intro _));refine Zr ?_)
 rw[Zte]
 repeat(refine wkA ?_;intros)
 exact rtC rfl rfl⟩
instance ZyI (a b:Rat):SpecC prog 128 [vQ a,vQ b] (vQ (a-b)) (M a<=LQ/\M b<=LQ):=⟨fun hp w=>by
 have h1:=hp.1
 have h2:M (-b)<=LQ:=by rw[Zj7];exact hp.2
 refine Zb Tryz.func128 rfl Tryz.ntmps128 rfl ?_
 repeat(refine wkA ?_;intros)
 (refine jD 4 4 (h:=?_);(repeat(refine wkH ?_));refine Zo ?_;(repeat(refine ZZ ?_;intro _));refine Zr ?_)
 rw[<-Rat.sub_eq_add_neg]
 repeat(refine wkA ?_;intros)
 exact rtC rfl rfl⟩
instance Zse (a b:Rat):SpecC prog 172 [vQ a,vQ b] (.int .i64 (cq a b)) (M a<=LQ/\M b<=LQ):=⟨fun hp w=>by
 refine Zb Tryz.func172 rfl Tryz.ntmps172 rfl ?_
 repeat(refine wkA ?_;intros)
 refine Zi rfl (fun h=>?_) (fun h=>?_)
 ·have h1:a=b:=Wa h
  rw[show cq a b=0 by unfold cq;rw[h1,if_neg Rat.lt_irrefl,if_neg Rat.lt_irrefl]]
  repeat(refine wkA ?_;intros)
  exact rtT rfl rfl
 ·repeat(refine wkA ?_;intros)
  rw[Zpi]
  repeat(refine wkA ?_;intros)
  exact rtT rfl rfl⟩
instance Zv6 (a:Rat):SpecC prog 86 [vQ a] (.int .i64 a.num.sign) True:=⟨fun _ w=>by
 refine Zb Tryz.func86 rfl Tryz.ntmps86 rfl ?_
 repeat(refine wkA ?_;intros)
 exact rtT rfl rfl⟩
end
section
structure Zh where
 P:Rat
 R:Rat
 Neg:Bool
 deriving DecidableEq
def Ze (x:Zh):Zao:=⟨Q x.P,Q x.R,x.Neg⟩
def Zaf :Zh:=⟨0,0,false⟩
theorem Zbt {x y:Zh}:Ze x=Ze y↔x=y:=by
 cases x;cases y;simp only[Ze,Zao.mk.injEq,Zh.mk.injEq,Zgx,Zca]
instance (priority :=high) ZBp:ZeroC prog 35 (.agg (Zd (Ze Zaf))) (Zd (Ze Zaf)):=⟨by kernel_rfl,rfl⟩
instance (priority :=high) Zun (x:Zh):LdC prog 35 (Zd (Ze x)) 0 (.agg (Zd (Ze x))):=⟨ZL 9⟩
instance (priority :=high) Zth (x:Zh):LdC prog 33 (Zd (Ze x)) 0 (vQ x.P):=⟨ZL 4⟩
instance (priority :=high) Zs6 (x:Zh):LdC prog 33 (Zd (Ze x)) 4 (vQ x.R):=⟨ZL 4⟩
instance (priority :=high) Zvk (x:Zh):LdC prog 4 (Zd (Ze x)) 8 (.bool x.Neg):=⟨ZF⟩
instance (priority :=high) Zyw (x0:Rat):BdC prog 35 [(0,vQ x0)] (.agg (Zd (Ze ⟨x0,0,false⟩))):=⟨fun w=>by kernel_rfl⟩
instance (priority :=high) Zst (x0:Rat)(x1:Rat)(x2:Bool):BdC prog 35 [(0,vQ x0),(1,vQ x1),(2, .bool x2)] (.agg (Zd (Ze ⟨x0,x1,x2⟩))):=⟨fun w=>by kernel_rfl⟩
instance (priority :=high) ZyZ (x y:Zh):BinC prog .eql 35 (.agg (Zd (Ze x))) (.agg (Zd (Ze y))) (.bool (decide (x=y))):=by
 have h:decide (Ze x=Ze y)=decide (x=y):=by rw[decide_eq_decide];exact Zbt
 exact h▸(inferInstance:BinC prog .eql 35 (.agg (Zd (Ze x))) (.agg (Zd (Ze y))) (.bool (decide (Ze x=Ze y))))
instance (priority :=high) ZzB (x y:Zh):BinC prog .neq 35 (.agg (Zd (Ze x))) (.agg (Zd (Ze y))) (.bool (!decide (x=y))):=by
 have h:decide (Ze x=Ze y)=decide (x=y):=by rw[decide_eq_decide];exact Zbt
 exact h▸(inferInstance:BinC prog .neq 35 (.agg (Zd (Ze x))) (.agg (Zd (Ze y))) (.bool (!decide (Ze x=Ze y))))
structure Za where
 From:Zh
 To:Zh
 OpenFrom:Bool
 OpenTo:Bool
 deriving DecidableEq
def Zl (x:Za):Z2:=⟨Ze x.From,Ze x.To,x.OpenFrom,x.OpenTo⟩
def ZaJ :Za:=⟨Zaf,Zaf,false,false⟩
theorem Zch {x y:Za}:Zl x=Zl y↔x=y:=by
 cases x;cases y;simp only[Zl,Z2.mk.injEq,Za.mk.injEq,Zgx,Zca,Zbt,Zbt]
instance (priority :=high) ZBq:ZeroC prog 37 (.agg (Zk (Zl ZaJ))) (Zk (Zl ZaJ)):=⟨by kernel_rfl,rfl⟩
instance (priority :=high) Zup (x:Za):LdC prog 37 (Zk (Zl x)) 0 (.agg (Zk (Zl x))):=⟨ZL 20⟩
instance (priority :=high) ZsO (x:Za):LdC prog 35 (Zk (Zl x)) 0 (.agg (Zd (Ze x.From))):=⟨ZL 9⟩
instance (priority :=high) Zs9 (x:Za):LdC prog 35 (Zk (Zl x)) 9 (.agg (Zd (Ze x.To))):=⟨ZL 9⟩
instance (priority :=high) Zuf (x:Za):LdC prog 4 (Zk (Zl x)) 18 (.bool x.OpenFrom):=⟨ZF⟩
instance (priority :=high) Zti (x:Za):LdC prog 4 (Zk (Zl x)) 19 (.bool x.OpenTo):=⟨ZF⟩
instance (priority :=high) ZvT (x0:Zh)(x1:Zh):BdC prog 37 [(0, .agg (Zd (Ze x0))),(1, .agg (Zd (Ze x1)))] (.agg (Zk (Zl ⟨x0,x1,false,false⟩))):=⟨fun w=>by kernel_rfl⟩
instance (priority :=high) ZsC (x0:Zh)(x1:Zh)(x2:Bool):BdC prog 37 [(0, .agg (Zd (Ze x0))),(1, .agg (Zd (Ze x1))),(2, .bool x2)] (.agg (Zk (Zl ⟨x0,x1,x2,false⟩))):=⟨fun w=>by kernel_rfl⟩
instance (priority :=high) ZqA (x0:Zh)(x1:Zh)(x2:Bool)(x3:Bool):BdC prog 37 [(0, .agg (Zd (Ze x0))),(1, .agg (Zd (Ze x1))),(2, .bool x2),(3, .bool x3)] (.agg (Zk (Zl ⟨x0,x1,x2,x3⟩))):=⟨fun w=>by kernel_rfl⟩
instance (priority :=high) Zzx (x1:Zh):BdC prog 37 [(1, .agg (Zd (Ze x1)))] (.agg (Zk (Zl ⟨Zaf,x1,false,false⟩))):=⟨fun w=>by kernel_rfl⟩
instance (priority :=high) ZvD (x1:Zh)(x3:Bool):BdC prog 37 [(1, .agg (Zd (Ze x1))),(3, .bool x3)] (.agg (Zk (Zl ⟨Zaf,x1,false,x3⟩))):=⟨fun w=>by kernel_rfl⟩
instance (priority :=high) ZyN (x y:Za):BinC prog .eql 37 (.agg (Zk (Zl x))) (.agg (Zk (Zl y))) (.bool (decide (x=y))):=by
 have h:decide (Zl x=Zl y)=decide (x=y):=by rw[decide_eq_decide];exact Zch
 exact h▸(inferInstance:BinC prog .eql 37 (.agg (Zk (Zl x))) (.agg (Zk (Zl y))) (.bool (decide (Zl x=Zl y))))
structure ZB where
 In:Za
 Label:Int
 deriving DecidableEq
def Zn (x:ZB):Zak:=⟨Zl x.In,x.Label⟩
def ZbG :ZB:=⟨ZaJ,0⟩
theorem ZdH {x y:ZB}:Zn x=Zn y↔x=y:=by
 cases x;cases y;simp only[Zn,Zak.mk.injEq,ZB.mk.injEq,Zgx,Zca,Zch]
instance (priority :=high) ZBr:ZeroC prog 46 (.agg (Zm (Zn ZbG))) (Zm (Zn ZbG)):=⟨by kernel_rfl,rfl⟩
instance (priority :=high) Zua (x:ZB):LdC prog 46 (Zm (Zn x)) 0 (.agg (Zm (Zn x))):=⟨ZL 21⟩
instance (priority :=high) ZsQ (x:ZB):LdC prog 37 (Zm (Zn x)) 0 (.agg (Zk (Zl x.In))):=⟨ZL 20⟩
instance (priority :=high) Ztp (x:ZB):LdC prog 35 (Zm (Zn x)) 0 (.agg (Zd (Ze x.In.From))):=⟨ZL 9⟩
instance (priority :=high) ZtB (x:ZB):LdC prog 35 (Zm (Zn x)) 9 (.agg (Zd (Ze x.In.To))):=⟨ZL 9⟩
instance (priority :=high) Zt8 (x:ZB):LdC prog 4 (Zm (Zn x)) 18 (.bool x.In.OpenFrom):=⟨ZF⟩
instance (priority :=high) ZtD (x:ZB):LdC prog 4 (Zm (Zn x)) 19 (.bool x.In.OpenTo):=⟨ZF⟩
instance (priority :=high) Ztc (x:ZB):LdC prog 3 (Zm (Zn x)) 20 (.int .i64 x.Label):=⟨ZF⟩
instance (priority :=high) Zux (x0:Za)(x1:Int):BdC prog 46 [(0, .agg (Zk (Zl x0))),(1, .int .i64 x1)] (.agg (Zm (Zn ⟨x0,x1⟩))):=⟨fun w=>by kernel_rfl⟩
instance (priority :=high) Zy7 (x y:ZB):BinC prog .neq 46 (.agg (Zm (Zn x))) (.agg (Zm (Zn y))) (.bool (!decide (x=y))):=by
 have h:decide (Zn x=Zn y)=decide (x=y):=by rw[decide_eq_decide];exact ZdH
 exact h▸(inferInstance:BinC prog .neq 46 (.agg (Zm (Zn x))) (.agg (Zm (Zn y))) (.bool (!decide (Zn x=Zn y))))
structure ZC where
 In:Za
 F:Int
 deriving DecidableEq
def Zw (x:ZC):ZbT:=⟨Zl x.In,x.F⟩
def Zbl :ZC:=⟨ZaJ,0⟩
instance (priority :=high) ZBb:ZeroC prog 145 (.agg (Zv (Zw Zbl))) (Zv (Zw Zbl)):=⟨by kernel_rfl,rfl⟩
instance (priority :=high) ZqW (x:ZC):LdC prog 145 (Zv (Zw x)) 0 (.agg (Zv (Zw x))):=⟨ZL 21⟩
instance (priority :=high) Zsp (x:ZC):LdC prog 37 (Zv (Zw x)) 0 (.agg (Zk (Zl x.In))):=⟨ZL 20⟩
instance (priority :=high) ZsH (x:ZC):LdC prog 35 (Zv (Zw x)) 0 (.agg (Zd (Ze x.In.From))):=⟨ZL 9⟩
instance (priority :=high) Zsq (x:ZC):LdC prog 35 (Zv (Zw x)) 9 (.agg (Zd (Ze x.In.To))):=⟨ZL 9⟩
instance (priority :=high) Zsm (x:ZC):LdC prog 4 (Zv (Zw x)) 18 (.bool x.In.OpenFrom):=⟨ZF⟩
instance (priority :=high) Zsi (x:ZC):LdC prog 4 (Zv (Zw x)) 19 (.bool x.In.OpenTo):=⟨ZF⟩
instance (priority :=high) Zsc (x:ZC):LdC prog 3 (Zv (Zw x)) 20 (.int .i64 x.F):=⟨ZF⟩
instance (priority :=high) ZtA (x0:Za)(x1:Int):BdC prog 145 [(0, .agg (Zk (Zl x0))),(1, .int .i64 x1)] (.agg (Zv (Zw ⟨x0,x1⟩))):=⟨fun w=>by kernel_rfl⟩
structure Zaw where
 at_:Zh
 behind:Bool
 deriving DecidableEq
def ZP (x:Zaw):Zcm:=⟨Ze x.at_,x.behind⟩
def Zan :Zaw:=⟨Zaf,false⟩
instance (priority :=high) ZAC:ZeroC prog 193 (.agg (ZO (ZP Zan))) (ZO (ZP Zan)):=⟨by kernel_rfl,rfl⟩
instance (priority :=high) ZrQ (x:Zaw):LdC prog 193 (ZO (ZP x)) 0 (.agg (ZO (ZP x))):=⟨ZL 10⟩
instance (priority :=high) ZsG (x:Zaw):LdC prog 35 (ZO (ZP x)) 0 (.agg (Zd (Ze x.at_))):=⟨ZL 9⟩
instance (priority :=high) Zug (x:Zaw):LdC prog 4 (ZO (ZP x)) 9 (.bool x.behind):=⟨ZF⟩
instance (priority :=high) Zud (x0:Zh)(x1:Bool):BdC prog 193 [(0, .agg (Zd (Ze x0))),(1, .bool x1)] (.agg (ZO (ZP ⟨x0,x1⟩))):=⟨fun w=>by kernel_rfl⟩
instance (priority :=high) Zzi (a b:Int):BinC prog .neq 31 (vI a) (vI b) (.bool (!decide (a=b))):=by
 have h:decide (I a=I b)=decide (a=b):=by rw[decide_eq_decide];exact Zca
 exact h▸(inferInstance:BinC prog .neq 31 (vI a) (vI b) (.bool (!decide (I a=I b))))
end
section
theorem MB.lt {q:Rat}{k B:Nat}[h:MB q k](hk:Nat.ble k B=true):M q<=B:=Wi h.out (Nat.le_of_ble_eq_true hk)
theorem mb2 {p q:Rat}{j k B C:Nat}[MB p j][MB q k](h1:Nat.ble j B=true)(h2:Nat.ble k C=true):M p<=B/\M q<=C:=⟨MB.lt h1,MB.lt h2⟩
abbrev vR (r:Zh):Value:= .agg (Zd (Ze r))
end
section
abbrev Zu (x:Zh):Array Value:=Zd (Ze x)
instance : Inhabited Zh:=⟨Zaf⟩
instance ZrZ :EncC Zu 9:=⟨fun _=>CsC.size,fun _=>CsC.one⟩
abbrev Zbw (x:Za):Array Value:=Zk (Zl x)
instance : Inhabited Za:=⟨ZaJ⟩
instance Znp :EncC Zbw 20:=⟨fun _=>CsC.size,fun _=>CsC.one⟩
abbrev Zaa (x:ZB):Array Value:=Zm (Zn x)
instance : Inhabited ZB:=⟨ZbG⟩
instance ZmH :EncC Zaa 21:=⟨fun _=>CsC.size,fun _=>CsC.one⟩
abbrev ZaS (x:ZC):Array Value:=Zv (Zw x)
instance : Inhabited ZC:=⟨Zbl⟩
instance ZkL :EncC ZaS 21:=⟨fun _=>CsC.size,fun _=>CsC.one⟩
instance Zze (x:Zh)(v:Rat):StC prog 33 (Zd (Ze x)) 0 (vQ v) (Zd (Ze {x with P:=v})):=⟨by kernel_rfl,by kernel_rfl,by kernel_rfl,by kernel_rfl⟩
instance ZyV (x:Za)(v:Zh):StC prog 35 (Zk (Zl x)) 0 (.agg (Zd (Ze v))) (Zk (Zl {x with From:=v})):=⟨by kernel_rfl,by kernel_rfl,by kernel_rfl,by kernel_rfl⟩
instance ZyY (x:Za)(v:Zh):StC prog 35 (Zk (Zl x)) 9 (.agg (Zd (Ze v))) (Zk (Zl {x with To:=v})):=⟨by kernel_rfl,by kernel_rfl,by kernel_rfl,by kernel_rfl⟩
instance ZyT (x:Za)(v:Bool):StC prog 4 (Zk (Zl x)) 18 (.bool v) (Zk (Zl {x with OpenFrom:=v})):=⟨by kernel_rfl,by kernel_rfl,by kernel_rfl,by kernel_rfl⟩
instance Zzz (x:Za)(v:Bool):StC prog 4 (Zk (Zl x)) 19 (.bool v) (Zk (Zl {x with OpenTo:=v})):=⟨by kernel_rfl,by kernel_rfl,by kernel_rfl,by kernel_rfl⟩
instance Zvw (x:ZB)(v:Zh):StC prog 35 (Zm (Zn x)) 9 (.agg (Zd (Ze v))) (Zm (Zn {x with In:={x.In with To:=v}})):=⟨by kernel_rfl,by kernel_rfl,by kernel_rfl,by kernel_rfl⟩
instance ZuU (x:ZB)(v:Bool):StC prog 4 (Zm (Zn x)) 19 (.bool v) (Zm (Zn {x with In:={x.In with OpenTo:=v}})):=⟨by kernel_rfl,by kernel_rfl,by kernel_rfl,by kernel_rfl⟩
instance ZtF (x:ZC)(v:Zh):StC prog 35 (Zv (Zw x)) 9 (.agg (Zd (Ze v))) (Zv (Zw {x with In:={x.In with To:=v}})):=⟨by kernel_rfl,by kernel_rfl,by kernel_rfl,by kernel_rfl⟩
instance ZtS (x:ZC)(v:Bool):StC prog 4 (Zv (Zw x)) 18 (.bool v) (Zv (Zw {x with In:={x.In with OpenFrom:=v}})):=⟨by kernel_rfl,by kernel_rfl,by kernel_rfl,by kernel_rfl⟩
instance Zs4 (x:ZC)(v:Bool):StC prog 4 (Zv (Zw x)) 19 (.bool v) (Zv (Zw {x with In:={x.In with OpenTo:=v}})):=⟨by kernel_rfl,by kernel_rfl,by kernel_rfl,by kernel_rfl⟩
instance ZxU (x:ZC)(v:Int):StC prog 3 (Zv (Zw x)) 20 (.int .i64 v) (Zv (Zw {x with F:=v})):=⟨by kernel_rfl,by kernel_rfl,by kernel_rfl,by kernel_rfl⟩
theorem Zng (x0:ZB)(w:World):(Instr.buildSlice 22 1 [(0, .agg (Zm (Zn x0)))].toArray).run prog w= .ok (.slice (some ⟨w.heap.size,0,none⟩) 1 1) (w.alloc (.cells (row (Zaa) [x0] []) 46)):=by kernel_rfl
instance (priority :=high) Zwr (x0:ZB):BsC prog 22 1 [(0, .agg (Zm (Zn x0)))] (row (Zaa) [x0] []) 46:=⟨Zng x0⟩
theorem ZmT (x0 x1:ZB)(w:World):(Instr.buildSlice 22 2 [(0, .agg (Zm (Zn x0))),(1, .agg (Zm (Zn x1)))].toArray).run prog w= .ok (.slice (some ⟨w.heap.size,0,none⟩) 2 2) (w.alloc (.cells (row (Zaa) [x0,x1] []) 46)):=by kernel_rfl
instance (priority :=high) Zxx (x0 x1:ZB):BsC prog 22 2 [(0, .agg (Zm (Zn x0))),(1, .agg (Zm (Zn x1)))] (row (Zaa) [x0,x1] []) 46:=⟨ZmT x0 x1⟩
theorem Zm6 (x0 x1 x2:ZB)(w:World):(Instr.buildSlice 22 3 [(0, .agg (Zm (Zn x0))),(1, .agg (Zm (Zn x1))),(2, .agg (Zm (Zn x2)))].toArray).run prog w= .ok (.slice (some ⟨w.heap.size,0,none⟩) 3 3) (w.alloc (.cells (row (Zaa) [x0,x1,x2] []) 46)):=by kernel_rfl
instance (priority :=high) ZwM (x0 x1 x2:ZB):BsC prog 22 3 [(0, .agg (Zm (Zn x0))),(1, .agg (Zm (Zn x1))),(2, .agg (Zm (Zn x2)))] (row (Zaa) [x0,x1,x2] []) 46:=⟨Zm6 x0 x1 x2⟩
theorem ZnW (x0:Za)(w:World):(Instr.buildSlice 47 1 [(0, .agg (Zk (Zl x0)))].toArray).run prog w= .ok (.slice (some ⟨w.heap.size,0,none⟩) 1 1) (w.alloc (.cells (row (Zbw) [x0] []) 37)):=by kernel_rfl
instance (priority :=high) Zw4 (x0:Za):BsC prog 47 1 [(0, .agg (Zk (Zl x0)))] (row (Zbw) [x0] []) 37:=⟨ZnW x0⟩
theorem Zoh (x0:Zh)(w:World):(Instr.buildSlice 59 1 [(0, .agg (Zd (Ze x0)))].toArray).run prog w= .ok (.slice (some ⟨w.heap.size,0,none⟩) 1 1) (w.alloc (.cells (row (Zu) [x0] []) 35)):=by kernel_rfl
instance (priority :=high) Zwv (x0:Zh):BsC prog 59 1 [(0, .agg (Zd (Ze x0)))] (row (Zu) [x0] []) 35:=⟨Zoh x0⟩
theorem Zny (x0 x1:Zh)(w:World):(Instr.buildSlice 59 2 [(0, .agg (Zd (Ze x0))),(1, .agg (Zd (Ze x1)))].toArray).run prog w= .ok (.slice (some ⟨w.heap.size,0,none⟩) 2 2) (w.alloc (.cells (row (Zu) [x0,x1] []) 35)):=by kernel_rfl
instance (priority :=high) Zw1 (x0 x1:Zh):BsC prog 59 2 [(0, .agg (Zd (Ze x0))),(1, .agg (Zd (Ze x1)))] (row (Zu) [x0,x1] []) 35:=⟨Zny x0 x1⟩
theorem Znh (x0:Int)(w:World):(Instr.buildSlice 65 1 [(0, .int .i64 x0)].toArray).run prog w= .ok (.slice (some ⟨w.heap.size,0,none⟩) 1 1) (w.alloc (.cells (row (eI .i64) [x0] []) 3)):=by kernel_rfl
instance (priority :=high) ZxP (x0:Int):BsC prog 65 1 [(0, .int .i64 x0)] (row (eI .i64) [x0] []) 3:=⟨Znh x0⟩
theorem ZnF (x0 x1 x2:Int)(w:World):(Instr.buildSlice 65 3 [(0, .int .i64 x0),(1, .int .i64 x1),(2, .int .i64 x2)].toArray).run prog w= .ok (.slice (some ⟨w.heap.size,0,none⟩) 3 3) (w.alloc (.cells (row (eI .i64) [x0,x1,x2] []) 3)):=by kernel_rfl
instance (priority :=high) ZxO (x0 x1 x2:Int):BsC prog 65 3 [(0, .int .i64 x0),(1, .int .i64 x1),(2, .int .i64 x2)] (row (eI .i64) [x0,x1,x2] []) 3:=⟨ZnF x0 x1 x2⟩
theorem ZlW (x0:ZC)(w:World):(Instr.buildSlice 110 1 [(0, .agg (Zv (Zw x0)))].toArray).run prog w= .ok (.slice (some ⟨w.heap.size,0,none⟩) 1 1) (w.alloc (.cells (row (ZaS) [x0] []) 145)):=by kernel_rfl
instance (priority :=high) ZvL (x0:ZC):BsC prog 110 1 [(0, .agg (Zv (Zw x0)))] (row (ZaS) [x0] []) 145:=⟨ZlW x0⟩
theorem ZmC (x0:Int)(w:World):(Instr.buildSlice 236 1 [(0, .int .u8 x0)].toArray).run prog w= .ok (.slice (some ⟨w.heap.size,0,none⟩) 1 1) (w.alloc (.cells (row (eI .u8) [x0] []) 5)):=by kernel_rfl
instance (priority :=high) Zuy (x0:Int):BsC prog 236 1 [(0, .int .u8 x0)] (row (eI .u8) [x0] []) 5:=⟨ZmC x0⟩
end
end Go.Vt
namespace Go.Vt
open Go.RowKit
class RowC (w0:World)(L:List Blk)(b o:Nat)(α:outParam Type)(enc:outParam (α->Array Value))(xs:outParam (List α)):Prop where
 out:∀w,Own w0 L w->∃cs T fz,w.heap[b]? =some (.cells cs T fz)/\∀(i f k:Nat)(u:Value)(hi:i<xs.length),(∀x,(enc x).size=k)->(enc xs[i])[f]? =some u->cs[o+i*k+f]? =some u/\o+xs.length*k<=cs.size
structure ArgS {α:Type}(w0:World)(v:Value)(enc:α->Array Value)(xs:List α):Prop where
 out:(v= .slice none 0 0/\xs=[])\/∃(a:Addr)(c:Nat),v= .slice (some a) xs.length c/\xs.length<=c/\∀(i f k:Nat)(u:Value)(hi:i<xs.length),(∀x,(enc x).size=k)->(enc xs[i])[f]? =some u->w0.cell? (a.add (i*k+f))=some u
class ArgC (w0:World)(v:Value)(α:outParam Type)(enc:outParam (α->Array Value))(xs:outParam (List α)):Prop where
 out:ArgS w0 v enc xs
theorem Zf3 {w:World}{a:Addr}{v:Value}(h:w.cell? a=some v):a=⟨a.block,a.off,none⟩/\∃cs T fz,w.heap[a.block]? =some (.cells cs T fz)/\cs[a.off]? =some v:=by
 unfold World.cell? at h
 split at h
 ·rename_i c T fz hb
  split at h
  ·cases h
  ·rename_i hs
   obtain⟨b,o,s⟩:=a
   cases s with
   |none=>exact⟨rfl,c,T,fz,hb,h⟩
   |some s=>exact absurd rfl hs
 ·cases h
theorem ArgS.blk {α:Type}{w0:World}{v:Value}{enc:α->Array Value}{xs:List α}{k:Nat}[he:EncC enc (k+1)](h:ArgS w0 v enc xs)(hne:xs≠[])(L:List Blk):∃b o c,v= .slice (some ⟨b,o,none⟩) xs.length c/\xs.length<=c/\RowC w0 L b o α enc xs:=by
 rcases h.out with⟨_,h0⟩|⟨a,c,hv,hc,hcell⟩
 ·exact absurd h0 hne
 have hlen:0<xs.length:=List.length_pos_iff.2 hne
 have hfirst:∃u,(enc xs[0])[0]? =some u:=by
  have:=he.size xs[0]
  exact⟨(enc xs[0])[0]'(by omega),by simp⟩
 obtain⟨u,hu⟩:=hfirst
 have h0:=hcell 0 0 (k+1) u hlen he.size hu
 rw[Nat.zero_mul,Nat.add_zero] at h0
 have ha:a.add 0=a:=by simp[Addr.add]
 rw[ha] at h0
 obtain⟨hae,cs,T,fz,hb,_⟩:=Zf3 h0
 obtain⟨b,o,s⟩:=a
 simp only[Addr.mk.injEq,true_and] at hae
 subst hae
 refine⟨b,o,c,hv,hc,⟨fun w hw=>⟨cs,T,fz,by rw[hw.ext.block b (Zac hb)];exact hb,fun i f k' u hi hk hu=>?_⟩⟩⟩
 have h1:=hcell i f k' u hi hk hu
 rw[Zah,Zad hb] at h1
 refine⟨by rw[Nat.add_assoc];exact h1, ?_⟩
 have hkk:k'=k+1:=by rw[<-hk xs[0],he.size xs[0]]
 subst hkk
 have hl:xs.length-1<xs.length:=by omega
 obtain⟨u2,hu2⟩:∃u,(enc xs[xs.length-1])[k]? =some u:=⟨(enc xs[xs.length-1])[k]'(by rw[he.size];omega),by simp⟩
 have h2:=hcell (xs.length-1) k (k+1) u2 hl he.size hu2
 rw[Zah,Zad hb] at h2
 have h3:o+((xs.length-1)*(k+1)+k)<cs.size:=by
  rcases Nat.lt_or_ge (o+((xs.length-1)*(k+1)+k)) cs.size with h|h
  ·exact h
  ·rw[Array.getElem?_eq_none h] at h2;cases h2
 have h4:xs.length*(k+1)=(xs.length-1)*(k+1)+(k+1):=by
  rw[<-Nat.succ_mul]
  congr 1
  omega
 omega
theorem ArgS.opn {α:Type}{w0:World}{p:Option Addr}{n c:Nat}{enc:α->Array Value}{xs:List α}{k:Nat}[he:EncC enc (k+1)](h:ArgS w0 (.slice p n c) enc xs){i:Nat}(hi:i<xs.length):∃b o,p=some ⟨b,o,none⟩/\∀L,RowC w0 L b o α enc xs:=by
 obtain⟨b,o,c',h1, -,h2⟩:=h.blk (k:=k) (fun h0=>by rw[h0] at hi;cases hi) []
 injection h1 with e1
 exact⟨b,o,e1,fun L=>⟨fun w' hw'=>h2.out w' (hw'.sub (Wk _))⟩⟩
section
variable {P : Program} {w0 : World} {n : Nat} {ops : Array Oper} {L : List Blk} {E : Env} {v : Value} {x : Operand} {T : TypeId}
variable {α : Type} [Inhabited α] {enc : α -> Array Value} {k b o f : Nat} {xs : List α} {i : Int}
theorem Zjf [he:EncC enc k][h:RowC w0 L b o α enc xs]{d:Option Tmp}{ty:TypeId}{pos:String}{aft:Array Edge}{gd:Option (Nat×Bool)}(hk:0<k)(hx:Env.ev E x=some (.pointer (some ⟨b,o+i.toNat*k+f,none⟩)))(hi:i.toNat<xs.length)(hv:LdV P T (enc (gi xs i)) f v):Yl P w0 n L E ⟨d, .load T x,ty,pos,aft,gd⟩ v:=
 Z5 (fun _=>loadVar T ⟨b,o+i.toNat*k+f,none⟩) (fun a ha=>by
  simp only[execOp,ha.ev hx,Instr.loadAt,Instr.sureAddr]
  rfl) (fun a w _ hw=>by
   obtain⟨cs,T0,fz,hb,hc⟩:=h.out w hw
   rw[Zbh hi] at hv
   refine Zbg hb ?_
   have hsz:=he.size xs[i.toNat]
   have hle:=Nat.mul_le_mul_right k (show i.toNat+1<=xs.length from hi)
   rw[Nat.add_mul,Nat.one_mul] at hle
   rcases hv with⟨m,ha,hs,rfl⟩|⟨ho,hv⟩
   ·have hbig:=(hc i.toNat 0 k _ hi he.size (show(enc xs[i.toNat])[0]? =some ((enc xs[i.toNat])[0]'(by omega)) by simp)).2
    refine .inl ⟨m,ha,by omega, ?_⟩
    congr 1
    apply Array.ext_getElem?
    intro j
    rw[Array.getElem?_extract,Array.getElem?_extract]
    by_cases hj:j<m
    ·rw[if_pos (by omega),if_pos (by omega)]
     have hfj:f+j<(enc xs[i.toNat]).size:=by omega
     have:=(hc i.toNat (f+j) k _ hi he.size (show(enc xs[i.toNat])[f+j]? =some ((enc xs[i.toNat])[f+j]'hfj) by simp)).1
     rw[show o+i.toNat*k+f+j=o+i.toNat*k+(f+j) by omega,this]
     simp
    ·rw[if_neg (by omega),if_neg (by omega)]
   ·exact .inr ⟨ho,(hc i.toNat f k v hi he.size hv).1⟩)
instance (priority :=low) Zxm [IsC (evl E x) (.pointer (some ⟨b,o+i.toNat*k,none⟩))][h:RowC w0 L b o α enc xs][he:EncC enc k][hv:LdC P T (enc (gi xs i)) 0 v]:YsC P w0 n L E (.load T x) v (0<k/\i.toNat<xs.length):=⟨fun hi _ _ _ _ _=>Zjf (f:=0) (k:=k) hi.1 (by rw[Nat.add_zero];exact isE) hi.2 hv.out⟩
instance (priority :=low) Zxk [IsC (evl E x) (.pointer (some ⟨b,o+i.toNat*k+f,none⟩))][h:RowC w0 L b o α enc xs][he:EncC enc k][hv:LdC P T (enc (gi xs i)) f v]:YsC P w0 n L E (.load T x) v (0<k/\i.toNat<xs.length):=⟨fun hi _ _ _ _ _=>Zjf hi.1 isE hi.2 hv.out⟩
instance (priority :=low) ZzN {kd:IntKind}{T':TypeId}{y:Operand}{a c:Int}[hx:IsC (evl E x) (.int kd a)][hy:IsC (evl E y) (.int kd c)]:YsC P w0 n L E (.binOp .rem T x y T') (.int kd (a % c)) (0<=a/\1<=c):=⟨fun h _ _ _ _ _=>Zam isE isE fun w=>by rw[Zek _ _ (by omega),IntWalk.rem_in _ _ h.1]⟩
end
end Go.Vt
namespace Go.Vt
open Go.RowKit
section
variable {P : Program} {w0 : World} {n : Nat} {ops : Array Oper} {L L' Lw : List Blk} {E : Env}
variable {Q : Exit -> Act -> World -> Prop} {Z : List Nat}
def lexF (ops:Array Oper)(k:Array Bool->Bool):List Nat->Array Bool->Bool
 |[],listed=>k listed
 |h::hs,listed=>(Region.ready .any ops listed).contains h&&Region.free .any ops listed h&&lexF ops k hs (listed.setIfInBounds h true)
def seqF (ops:Array Oper)(k:Array Bool->Bool):List Nat->Array Bool->Bool
 |[],listed=>k listed
 |i::es,listed=>decide (Region.ready .any ops listed=[i])&&seqF ops k es (listed.setIfInBounds i true)
theorem Zkl {F G:List Blk->Act->Prop}{N:Nat}{k:Array Bool->Bool}(hk:∀listed L a,k listed=true->Weak w0 Lw L->G L a->wpG P w0 ops [] Lw F N listed [] L a):∀(es:List Nat)(listed:Array Bool)(L:List Blk)(a:Act),seqF ops k es listed=true->Weak w0 Lw L->EC P w0 ops [] Lw G es L a->wpG P w0 ops [] Lw F (es.length+N) listed es L a
 |[],listed,L,a,hB,hw,h=>by
  rw[Wx,Nat.zero_add]
  exact hk listed L a hB hw h
 |i::es,listed,L,a,hB,hw,h=>by
  simp only[seqF,Wq,decide_eq_true_eq] at hB
  rw[show(i::es).length+N=(es.length+N)+1 by simp only[Wu];omega]
  refine⟨by rw[hB.1];simp,fun j hj=>?_⟩
  rw[hB.1] at hj
  have:j=i:=by simpa using hj
  subst this
  obtain⟨o,ho,hE⟩:=h
  exact⟨o,ho, .inr ⟨es,rfl,hE.mono fun L' u hw' hK=>Zkl hk es _ _ _ hB.2 hw' hK⟩⟩
theorem ZeZ {l:List Oper}{F:List Blk->Act->Prop}{es:List Nat}{G:Act->Prop}{N:Nat}{k:Array Bool->Bool}(hk:∀listed a,k listed=true->G a->wpG P w0 l.toArray [] Lw F N listed es L a)(hsel:Region.noSelect l.toArray=true)(hw:Weak w0 Lw L):∀(hs:List Nat)(listed:Array Bool)(a:Act),lexF l.toArray k hs listed=true->
  AH P w0 Lw l.toArray G (picks l hs) a->wpG P w0 l.toArray [] Lw F (hs.length+N) listed es L a
 |[],listed,a,hB,h=>by
  rw[Wx,Nat.zero_add]
  exact hk listed a hB h
 |i::hs,listed,a,hB,h=>by
  simp only[lexF,Wq] at hB
  obtain⟨⟨hr,hf⟩,hB'⟩:=hB
  have hr':i∈Region.ready .any l.toArray listed:=by simpa using hr
  obtain⟨_,o,ho,_⟩:=mem_ready.1 hr'
  have ho':l[i]? =some o:=by simpa using ho
  simp only[picks,ho',AH] at h
  obtain⟨v,hy,h⟩:=h
  rw[show(i::hs).length+N=(hs.length+N)+1 by simp only[Wu];omega]
  exact ZdX ho (Region.noSelect_spec hsel) (fun z o hz _=>by simp at hz) _ _ _ _ _ (Region.free_spec ho hf) hr' hy hw (ZeZ hk hsel hw hs _ _ hB' h)
def phB (ops:Array Oper):List (List Nat×List Nat)->Array Bool->Bool
 |[],listed=>(Region.ready .any ops listed).isEmpty
 |p::ps,listed=>lexF ops (seqF ops (phB ops ps) p.2) p.1 listed
def phN :List (List Nat×List Nat)->Nat
 |[]=>0
 |p::ps=>p.1.length+(p.2.length+phN ps)
def phE :List (List Nat×List Nat)->List Nat
 |[]=>[]
 |p::ps=>p.2++phE ps
def phA (ops:Array Oper)(ps:List (List Nat×List Nat)):Bool:=
 Region.noSelect ops&&decide (phN ps=ops.size)&&ps.all (fun p=>p.2.all (fun i=>decide (i<ops.size)))&&phB ops ps (Array.replicate ops.size false)
def PH (P:Program)(w0:World)(l:List Oper)(Lw:List Blk)(F:List Blk->Act->Prop):List (List Nat×List Nat)->List Blk->Act->Prop
 |[],L,a=>F L a
 |p::ps,L,a=>AH P w0 Lw l.toArray (fun a1=>EC P w0 l.toArray [] Lw (fun L1 a2=>PH P w0 l Lw F ps L1 a2) p.2 L a1) (picks l p.1) a
def JP (P:Program)(w0:World)(n:Nat)(l:List Oper)(Lw:List Blk)(K:Env->List Blk->Prop):List (List Nat×List Nat)->Env->List Blk->Prop
 |[],E,L=>K E L
 |p::ps,E,L=>JH P w0 n Lw l.toArray (fun E'=>JE P w0 n l.toArray Lw (fun E1 L1=>JP P w0 n l Lw K ps E1 L1) (picks l p.2) E' L) (picks l p.1) E
theorem Zfe {F G:List Blk->Act->Prop}{N:Nat}{R:List Nat}{k:Array Bool->Bool}(hk:∀listed L a,k listed=true->Weak w0 Lw L->G L a->wpG P w0 ops [] Lw F N listed R L a):∀(es:List Nat)(listed:Array Bool)(L:List Blk)(a:Act),seqF ops k es listed=true->Weak w0 Lw L->EC P w0 ops [] Lw G es L a->wpG P w0 ops [] Lw F (es.length+N) listed (es++R) L a
 |[],listed,L,a,hB,hw,h=>by
  rw[Wx,Nat.zero_add]
  exact hk listed L a hB hw h
 |i::es,listed,L,a,hB,hw,h=>by
  simp only[seqF,Wq,decide_eq_true_eq] at hB
  rw[show(i::es).length+N=(es.length+N)+1 by simp only[Wu];omega]
  refine⟨by rw[hB.1];simp,fun j hj=>?_⟩
  rw[hB.1] at hj
  have:j=i:=by simpa using hj
  subst this
  obtain⟨o,ho,hE⟩:=h
  exact⟨o,ho, .inr ⟨es++R,rfl,hE.mono fun L' u hw' hK=>Zfe hk es _ _ _ hB.2 hw' hK⟩⟩
theorem ZfW {l:List Oper}{F:List Blk->Act->Prop}(hsel:Region.noSelect l.toArray=true):∀(ps:List (List Nat×List Nat))(listed:Array Bool)(L:List Blk)(a:Act),phB l.toArray ps listed=true->Weak w0 Lw L->PH P w0 l Lw F ps L a->wpG P w0 l.toArray [] Lw F (phN ps) listed (phE ps) L a
 |[],listed,L,a,hB,hw,h=>⟨rfl,by simpa [phB] using hB,h⟩
 |p::ps,listed,L,a,hB,hw,h=>
  ZeZ (fun listed a1 hb hG=>Zfe (fun listed L1 a2 hb2 hw2 hG2=>ZfW hsel ps listed L1 a2 hb2 hw2 hG2) p.2 listed L a1 hb hw hG) hsel hw p.1 listed a hB h
theorem ZhK {l:List Oper}{K:Env->List Blk->Prop}{F:List Blk->Act->Prop}(hK:∀E L a,Rep n E a->K E L->F L a):∀(ps:List (List Nat×List Nat))(E:Env)(L:List Blk)(a:Act),ps.all (fun p=>p.2.all (fun i=>decide (i<l.length)))=true->Rep n E a->JP P w0 n l Lw K ps E L->PH P w0 l Lw F ps L a
 |[],E,L,a,_,ha,h=>hK E L a ha h
 |p::ps,E,L,a,hi,ha,h=>by
  simp only[List.all_cons,Wq] at hi
  exact Zbr (n:=n) (fun E' a' ha' hK'=>ZaM (n:=n) (Lj:=Lw) (fun E1 L1 a1 ha1 h1=>ZhK hK ps E1 L1 a1 hi.2 ha1 h1) p.2 E' L a' hi.1 (fun _ _=>rfl) ha' hK') _ _ _ ha h
theorem Zol {id:Nat}{l:List Oper}(ps:List (List Nat×List Nat))(Lw:List Blk)(hm:P.follows .mixedOrders=true:=by exact mixed)(hB:phA l.toArray ps=true:=by kernel_rfl)(hL:Lw.Sublist L:=by first|exact Wj _|exact Wk _|exact sbl|(repeat(first|exact Wj _|exact Wk _|refine List.Sublist.cons_cons _ ?_|refine List.Sublist.cons _ ?_|refine List.Sublist.trans ?_ (List.sublist_append_right _ _))))
  (h:JP P w0 n l Lw (fun E2 L2=>JX w0 n .normal Q E2 L2) ps E L):J P w0 n (.region id l.toArray true) Q E L:=by
 refine⟨fun a w ha hw=>?_⟩
 simp only[phA,Wq,decide_eq_true_eq] at hB
 obtain⟨⟨⟨hsel,hlen⟩,hall⟩,hlex⟩:=hB
 refine wp_region_any hm ?_
 have H:=ZfW (P:=P) (F:=fun L a=>∀w,Own w0 L w->Q .normal a w) hsel ps _ L a hlex (Z3 hL) (ZhK (n:=n) (fun E2 L2 a2 ha2 hx w hw=>hx.out a2 w ha2 hw) ps E L a (by simpa using hall) ha h)
 have:=ZaX (P:=P) (Q:=Q) (fun L a w hF hw=>hF w hw) _ _ _ _ _ w.drew (hw.to (Ext.drew w)) H
 rw[hlen] at this
 exact this
end
section
variable {P : Program} {w0 : World} {n : Nat} {ops : Array Oper} {L Lw : List Blk} {E : Env} {K : Env -> List Blk -> Prop} {rest : List Oper} {v : Value} {op : Op} {S : Prop}
variable {ty : TypeId} {pos : String} {aft : Array Edge} {gd : Option (Nat × Bool)} {t : Tmp}
theorem eV (h:Yl P w0 n L E ⟨some t,op,ty,pos,aft,gd⟩ v)(hg:guardB ops E gd=some true)(hd:Nat.blt t n=true)(hw:Lw.Sublist L)(k:JE P w0 n ops Lw K rest ((t,v)::E) L):JE P w0 n ops Lw K (⟨some t,op,ty,pos,aft,gd⟩::rest) E L:=
 ⟨hg,hd,Unit,fun _=>v,fun _=>L,fun a w ha hw=>by
  have h1:=h.out a w ha hw
  unfold calm at h1
  generalize (execOp a.eval ⟨some t,op,ty,pos,aft,gd⟩).run P w=r at*
  cases r with
  |ok x w'=>
   cases x <;> simp only[calmUpon] at h1 <;> simp only[Hap]
   case value u=>exact⟨(),h1.1,hw.to h1.2⟩
   case skip=>exact⟨(),h1.1.symm,hw.to h1.2⟩
   case enter f args=>
    obtain⟨rfl,h2⟩:=h1
    exact h2.mono fun e w'' ⟨he,hx⟩=>⟨_,he,(),rfl,hw.to hx⟩
  |halt x w'=>simp only[calmUpon] at h1,fun _=>Z3 hw,fun _=>k⟩
theorem uS [h:YsC P w0 n L E op v S](hg:guardB ops E gd=some true)(hd:Nat.blt t n=true)[hw:SblC Lw L](s:S)(k:JE P w0 n ops Lw K rest ((t,v)::E) L):JE P w0 n ops Lw K (⟨some t,op,ty,pos,aft,gd⟩::rest) E L:=eV (h.out s _ _ _ _ _) hg hd hw.out k
theorem uC [h:YcC P w0 n L E op v S](hg:guardB ops E gd=some true)(hd:Nat.blt t n=true)[hw:SblC Lw L](s:S)(k:JE P w0 n ops Lw K rest ((t,v)::E) L):JE P w0 n ops Lw K (⟨some t,op,ty,pos,aft,gd⟩::rest) E L:=eV (h.out s _ _ _ _ _) hg hd hw.out k
end
theorem wkP {P Q:Prop}(k:Q)(h:Wr Q->P:=by intro hq;simp only[JP,picks,List.getElem?_cons_succ,List.getElem?_cons_zero];exact hq.out):P:=h ⟨k⟩
theorem wkT {P Q:Prop}(k:Q)(h:Wr Q->P:=by intro hq;(first|refine eS rfl rfl ?_|refine uP rfl rfl rfl rfl ?_|refine uQ rfl rfl rfl rfl ?_|refine eX rfl rfl ?_|(refine uS rfl rfl ?_ ?_;focus omega)|(refine uC rfl rfl ?_ ?_;focus(first|exact trivial|assumption|constructor <;> assumption|exact mb2 rfl rfl|exact mb4 rfl rfl rfl rfl))|refine uW rfl rfl ?_|refine eF rfl ?_|refine eT rfl ?_|(refine eA rfl rfl ?_)|(refine eB rfl rfl ?_)|(refine eN rfl rfl ?_ ?_;(focus(first|exact trivial|assumption|constructor <;> assumption|exact mb2 rfl rfl|exact mb4 rfl rfl rfl rfl));(try simp only[Wf,Wg,Wh]))|refine Za0 ?_|refine tX rfl rfl ?_|(refine tS rfl rfl ?_ ?_;focus omega)|(refine tC rfl rfl ?_ ?_;focus(first|exact trivial|assumption|constructor <;> assumption|exact mb2 rfl rfl|exact mb4 rfl rfl rfl rfl))|refine tW rfl rfl ?_|refine tK rfl rfl ?_|refine Go.Vt.hq (ZcI rfl rfl) rfl rfl ?_|refine Go.Vt.hq (ZcM rfl rfl) rfl rfl ?_|refine Zo ?_|(refine ZZ ?_)|refine Zr ?_);(repeat(first|refine eS rfl rfl ?_|refine uP rfl rfl rfl rfl ?_|refine uQ rfl rfl rfl rfl ?_|refine eX rfl rfl ?_|(refine uS rfl rfl ?_ ?_;focus omega)|(refine uC rfl rfl ?_ ?_;focus(first|exact trivial|assumption|constructor <;> assumption|exact mb2 rfl rfl|exact mb4 rfl rfl rfl rfl))|refine uW rfl rfl ?_|refine eF rfl ?_|refine eT rfl ?_|(refine eA rfl rfl ?_)|(refine eB rfl rfl ?_)|(refine eN rfl rfl ?_ ?_;(focus(first|exact trivial|assumption|constructor <;> assumption|exact mb2 rfl rfl|exact mb4 rfl rfl rfl rfl));(try simp only[Wf,Wg,Wh]))|refine Za0 ?_|refine tX rfl rfl ?_|(refine tS rfl rfl ?_ ?_;focus omega)|(refine tC rfl rfl ?_ ?_;focus(first|exact trivial|assumption|constructor <;> assumption|exact mb2 rfl rfl|exact mb4 rfl rfl rfl rfl))|refine tW rfl rfl ?_|refine tK rfl rfl ?_|refine Go.Vt.hq (ZcI rfl rfl) rfl rfl ?_|refine Go.Vt.hq (ZcM rfl rfl) rfl rfl ?_|refine Zo ?_|(refine ZZ ?_)|refine Zr ?_));exact hq.out):P:=h ⟨k⟩
end Go.Vt
