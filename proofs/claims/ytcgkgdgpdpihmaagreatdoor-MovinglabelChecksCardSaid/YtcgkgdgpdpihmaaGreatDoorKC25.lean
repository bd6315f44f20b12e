/- For any up to 12 units whose ends have up to 20 bytes, and for any decoded moving label (up to 8 stretches), Check returns OK or the first error. Conditions: none. (part 25 of 28.) Conditions: those that each statement names. -/
import Derived.Test.YtcgkgdgpdpihmaaGreatDoorProg
import Derived.Test.YtcgkgdgpdpihmaaGreatDoorKC13
import Derived.Test.YtcgkgdgpdpihmaaGreatDoorKC17
import Derived.Test.YtcgkgdgpdpihmaaGreatDoorKC21
import Derived.Test.YtcgkgdgpdpihmaaGreatDoorKC24
set_option linter.unusedSimpArgs false
set_option linter.unusedVariables false
set_option maxHeartbeats 2000000
set_option maxRecDepth 100000
namespace Go.Vt
open Go.RowKit Go.Proofs
open Go.Proofs.Tryz (prog)
section
def CnR (x:ZI):Prop:=∃X:Zi,(rvR X).ok/\x=Ze X
noncomputable def rlb (x:ZI):Bool:= @decide (CnR x) (Classical.propDecidable _)
theorem Zaz {x:ZI}:rlb x=true↔CnR x:=by
 unfold rlb
 exact @decide_eq_true_iff _ (Classical.propDecidable _)
structure ShR (x:ZI):Prop where
 a:x.P.Num.Mag.size<=1000
 b:x.P.Den.Mag.size<=1000
 c:x.R.Num.Mag.size<=1000
 d:x.R.Den.Mag.size<=1000
theorem Zbf {x:ZI}(h:¬CnR x):rlb x=false:=by
 cases hb:rlb x with
 |false=>rfl
 |true=>exact absurd (Zaz.1 hb) h
theorem ZgR {x:ZI}(h:CnR x):rcb x.P=true/\rcb x.R=true:=by
 obtain⟨X,_,rfl⟩:=h
 exact⟨Zfd _,Zfd _⟩
theorem ZcX {x:ZK}{q:Rat}(h:x=Q q)(h1:x.Num.Mag.size<=1000)(h2:x.Den.Mag.size<=1000):M q<=1000:=by
 subst h
 have e1:mg q.num<=1000:=h1
 have e2:(mag (dn q).natAbs).size<=1000:=h2
 unfold M
 refine Nat.max_le.2 ⟨e1, ?_⟩
 by_cases h3:q.den=1
 ·rw[h3]
  decide
 ·have:dn q=(q.den:Int):=by unfold dn;rw[if_neg h3]
  rw[this] at e2
  exact e2
theorem Zbm {X:Zi}:CnR (Ze X)↔(rvR X).ok:=by
 constructor
 ·rintro⟨Y,h,e⟩
  have:X=Y:=by
   unfold Ze at e
   injection e with e1 e2 e3
   obtain⟨a,b,c⟩:=X
   obtain⟨a',b',c'⟩:=Y
   dsimp only at e1 e2 e3
   rw[ZcY.1 e1,ZcY.1 e2,e3]
  rw[this]
  exact h
 ·exact fun h=>⟨X,h,rfl⟩
theorem realCheckX (X:Zi)(w:World)(h1:M X.P<=1000)(h2:M X.R<=1000):Calls prog 150 [vR X].toArray w (Ret (.int .i64 (if rlb (Ze X)=true then 0 else 5)) w):=by
 have p1:M X.P<=LQ:=Wi h1 (by decide)
 have p2:M X.R<=LQ:=Wi h2 (by decide)
 have p3:M X.R<=1048576:=Wi h2 (by decide)
 refine Zb Tryz.func150 rfl Tryz.ntmps150 rfl ?_
 repeat(first|(refine wkB ?_;intros)|(refine wnM ?_ ?_;(focus(first|exact p1|exact p2));intros))
 rcases nsg X.R with⟨hs,hg⟩|⟨hs,hg⟩|⟨hs,hg⟩
 ·simp only[hg]
  repeat(first|(refine wkB ?_;intros)|(refine wnM ?_ ?_;(focus(exact p3));intros))
  cases hr:rtQ X.R with
  |none=>
   have hc:rlb (Ze X)=true:=Zaz.2 (Zbm.2 ⟨.inr ⟨hs,ZdG hr⟩,fun h0=>by
    have h0:X.R=0:=h0
    rw[h0] at hs
    exact absurd hs (by decide)⟩)
   simp only[hc,if_true]
   repeat(refine wkB ?_;intros)
   exact rtT rfl rfl
  |some q=>
   have hc:rlb (Ze X)=false:=Zbf fun h=>by
    rcases(Zbm.1 h).k with h0|⟨_,h0⟩
    ·have h0:X.R=0:=h0
     rw[h0] at hs
     exact absurd hs (by decide)
    ·exact h0 q (ZeY hr).2
   simp only[hc,Bool.false_eq_true,if_false]
   repeat(refine wkB ?_;intros)
   exact rtT rfl rfl
 ·simp only[hg]
  repeat(refine wkB ?_;intros)
  cases hn:X.Neg with
  |false=>
   have hc:rlb (Ze X)=true:=Zaz.2 (Zbm.2 ⟨.inl hs,fun _=>hn⟩)
   simp only[hc,if_true]
   repeat(refine wkB ?_;intros)
   exact rtT rfl rfl
  |true=>
   have hc:rlb (Ze X)=false:=Zbf fun h=>by
    have:=(Zbm.1 h).z hs
    rw[show(rvR X).n=X.Neg from rfl,hn] at this
    cases this
   simp only[hc,Bool.false_eq_true,if_false]
   repeat(refine wkB ?_;intros)
   exact rtT rfl rfl
 ·have hc:rlb (Ze X)=false:=Zbf fun h=>by
   rcases(Zbm.1 h).k with h0|⟨h0,_⟩
   ·have h0:X.R=0:=h0
    rw[h0] at hs
    exact absurd hs (by decide)
   ·have h0:0<X.R:=h0
    exact absurd hs (by grind)
  simp only[hg,hc,Bool.false_eq_true,if_false]
  repeat(refine wkB ?_;intros)
  exact rtT rfl rfl
instance Zrd (x:ZI):SpecC prog 150 [.agg (Zc x)] (.int .i64 (if rlb x=true then 0 else 5)) (ShR x):=⟨fun hp w=>by
 obtain⟨a,b,c,d⟩:=hp
 have p1:x.P.Num.Mag.size<=LIM/\x.P.Den.Mag.size<=LIM:=⟨Wi a (by decide),Wi b (by decide)⟩
 have p2:x.R.Num.Mag.size<=LIM/\x.R.Den.Mag.size<=LIM:=⟨Wi c (by decide),Wi d (by decide)⟩
 by_cases hP:rcb x.P=true
 ·by_cases hR:rcb x.R=true
  ·obtain⟨p,e1⟩:=Zdc.1 hP
   obtain⟨r,e2⟩:=Zdc.1 hR
   have m1:=ZcX e1 a b
   have m2:=ZcX e2 c d
   obtain⟨xP,xR,n⟩:=x
   dsimp only at e1 e2
   subst e1 e2
   exact realCheckX ⟨p,r,n⟩ w m1 m2
  ·have hn:rlb x=false:=Zbf fun h=>hR (ZgR h).2
   refine Zb Tryz.func150 rfl Tryz.ntmps150 rfl ?_
   repeat(first|(refine wkB ?_;intros)|(refine wnM ?_ ?_;(focus(first|exact p1|exact p2));intros))
   simp only[if_pos hP,Wc (rfl:(0:Int)=0),Bool.not_true]
   repeat(first|(refine wkB ?_;intros)|(refine wnM ?_ ?_;(focus(first|exact p1|exact p2));intros))
   simp only[if_neg hR,hn,Bool.false_eq_true,if_false,show decide ((5:Int)=0)=false from rfl,Bool.not_false]
   repeat(refine wkB ?_;intros)
   exact rtT rfl rfl
 ·have hn:rlb x=false:=Zbf fun h=>hP (ZgR h).1
  refine Zb Tryz.func150 rfl Tryz.ntmps150 rfl ?_
  repeat(first|(refine wkB ?_;intros)|(refine wnM ?_ ?_;(focus(first|exact p1|exact p2));intros))
  simp only[if_neg hP,hn,Bool.false_eq_true,if_false,show decide ((5:Int)=0)=false from rfl,Bool.not_false]
  repeat(refine wkB ?_;intros)
  exact rtT rfl rfl⟩
theorem ZsC (q:Rat):(Q q).Den.Mag.size<=M q:=by
 show(mag (dn q).natAbs).size<=M q
 have h:=ZaK q
 unfold dn
 split
 ·exact Wm _
 ·exact h
def CnI2 (x:Zr):Prop:=CnR x.From/\CnR x.To
theorem ZpG {x:Zr}(h:CnI2 x):∃I:Za,x=Zf I/\(rvR I.From).ok/\(rvR I.To).ok:=by
 obtain⟨⟨X,h1,e1⟩,⟨Y,h2,e2⟩⟩:=h
 obtain⟨a,b,c,d⟩:=x
 dsimp only at e1 e2
 subst e1 e2
 exact⟨⟨X,Y,c,d⟩,rfl,h1,h2⟩
structure ShI (x:Zr):Prop where
 a:ShR x.From
 b:ShR x.To
theorem Zfb {I:Za}(h:ShI (Zf I))(h1:(rvR I.From).ok)(h2:(rvR I.To).ok):IvOk 1000 I:=
 ⟨⟨h1,ZcX (x:=Q I.From.P) rfl h.a.a h.a.b,ZcX (x:=Q I.From.R) rfl h.a.c h.a.d⟩,⟨h2,ZcX (x:=Q I.To.P) rfl h.b.a h.b.b,ZcX (x:=Q I.To.R) rfl h.b.c h.b.d⟩⟩
open Classical in
noncomputable def ivE (x:Zr):Int:=if CnI2 x then(if∃I:Za,x=Zf I/\okI I then 0 else 10) else 5
theorem Zb7 {I J:Za}(h:Zf I=Zf J):I=J:=by
 have hr:∀X Y:Zi,Ze X=Ze Y->X=Y:=fun X Y e=>by
  unfold Ze at e
  injection e with e1 e2 e3
  obtain⟨a,b,c⟩:=X
  obtain⟨a',b',c'⟩:=Y
  dsimp only at e1 e2 e3
  rw[ZcY.1 e1,ZcY.1 e2,e3]
 unfold Zf at h
 injection h with e1 e2 e3 e4
 obtain⟨a,b,c,d⟩:=I
 obtain⟨a',b',c',d'⟩:=J
 dsimp only at e1 e2 e3 e4
 rw[hr _ _ e1,hr _ _ e2,e3,e4]
theorem Zky {I:Za}(h1:(rvR I.From).ok)(h2:(rvR I.To).ok):(okI I->ivE (Zf I)=0)/\(¬okI I->ivE (Zf I)=10):=by
 have hc:CnI2 (Zf I):=⟨Zbm.2 h1,Zbm.2 h2⟩
 constructor
 ·intro h
  unfold ivE
  rw[if_pos hc,if_pos ⟨I,rfl,h⟩]
 ·intro h
  unfold ivE
  rw[if_pos hc,if_neg (fun⟨J,e,k⟩=>h (by rw[Zb7 e];exact k))]
theorem Zfl {x:Zr}(h:¬CnI2 x):ivE x=5:=by
 unfold ivE
 rw[if_neg h]
theorem checkIvX (I:Za)(w:World)(h0:IvOk 1000 I):Calls prog 107 [vIv I].toArray w (Ret (.int .i64 (ivE (Zf I))) w):=by
 have h1:IvOk KR I:=h0.mono (by decide)
 have h3:IvOk 1048576 I:=h0.mono (by decide)
 obtain⟨q1,q2⟩:=Zky h0.a.o h0.b.o
 refine Zb Tryz.func107 rfl Tryz.ntmps107 rfl ?_
 repeat(first|(refine wkB ?_;intros)|(refine wnM ?_ ?_;(focus(first|exact h3.a|exact h3.b));intros))
 (refine jD 6 6 (h:=?_);(repeat(first|refine wkH ?_|(refine tC rfl rfl ?_ ?_;focus(first|exact trivial|exact⟨⟨h1.a⟩,⟨h1.b⟩⟩))));refine Zo ?_;(repeat(refine Z0 ?_;intro _));refine Zs ?_)
 rcases Classical.em (okI I) with h2|h2
 ·have hlt:=Zea.1 h2
  have hn:¬0<=cmpB (bdF I) (bdL I):=fun h=>(ZfC.1 hlt) (Zet (by omega))
  rw[q1 h2]
  simp only[We hn]
  repeat(refine wkB ?_;intros)
  exact rtT rfl rfl
 ·have hn:0<=cmpB (bdF I) (bdL I):=by
   rcases Int.lt_or_le (cmpB (bdF I) (bdL I)) 0 with h|h
   ·have hle:bLe (bdL I) (bdF I):=Classical.byContradiction fun k=>h2 (Zea.2 (ZfC.2 k))
    have:=Zhm.2 ⟨Zj4 h,hle⟩
    omega
   ·exact h
  rw[q2 h2]
  simp only[Wc hn]
  repeat(refine wkB ?_;intros)
  exact rtT rfl rfl
instance Ztj (x:Zr):SpecC prog 107 [.agg (Zh x)] (.int .i64 (ivE x)) (ShI x):=⟨fun hp w=>by
 by_cases hF:rlb x.From=true
 ·by_cases hT:rlb x.To=true
  ·obtain⟨I,rfl,h1,h2⟩:=ZpG ⟨Zaz.1 hF,Zaz.1 hT⟩
   exact checkIvX I w (Zfb hp h1 h2)
  ·rw[Zfl fun h=>hT (Zaz.2 h.2)]
   have p1:=hp.a
   have p2:=hp.b
   refine Zb Tryz.func107 rfl Tryz.ntmps107 rfl ?_
   repeat(first|(refine wkB ?_;intros)|(refine wnM ?_ ?_;(focus(first|exact p1|exact p2));intros))
   simp only[if_pos hF,Wc (rfl:(0:Int)=0),Bool.not_true]
   repeat(first|(refine wkB ?_;intros)|(refine wnM ?_ ?_;(focus(first|exact p1|exact p2));intros))
   simp only[if_neg hT,show decide ((5:Int)=0)=false from rfl,Bool.not_false]
   repeat(refine wkB ?_;intros)
   exact rtT rfl rfl
 ·rw[Zfl fun h=>hF (Zaz.2 h.1)]
  have p1:=hp.a
  refine Zb Tryz.func107 rfl Tryz.ntmps107 rfl ?_
  repeat(first|(refine wkB ?_;intros)|(refine wnM ?_ ?_;(focus(exact p1));intros))
  simp only[if_neg hF,show decide ((5:Int)=0)=false from rfl,Bool.not_false]
  repeat(refine wkB ?_;intros)
  exact rtT rfl rfl⟩
theorem size0 {s:ByteArray}:(s.size:Int)=0↔s=ByteArray.empty:=by
 constructor
 ·intro h
  have h0:s.size=0:=by omega
  obtain⟨⟨l⟩⟩:=s
  cases l with
  |nil=>rfl
  |cons y r=>simp[ByteArray.size] at h0
 ·rintro rfl
  rfl
instance Zwg (x:ZN):SpecC prog 156 [.agg (Zt x)] (.bool (icb x)) (x.Mag.size<=1000):=⟨fun hp w=>by
 refine Zb Tryz.func156 rfl Tryz.ntmps156 rfl ?_
 repeat(refine wkB ?_;intros)
 by_cases h:x.Mag=ByteArray.empty
 ·have e:icb x= !x.Neg:=by unfold icb;rw[if_pos h]
  rw[e]
  simp only[Wc (size0.2 h)]
  repeat(refine wkB ?_;intros)
  exact rtT rfl rfl
 ·have e:icb x= !decide (x.Mag[0]? =some 0):=by unfold icb;rw[if_neg h]
  rw[e]
  simp only[We (fun k=>h (size0.1 k))]
  repeat(refine wkB ?_;intros)
  obtain⟨u,hu⟩:∃u,x.Mag[0]? =some u:=by
   rw[bget]
   cases hl:x.Mag.data.toList with
   |nil=>
    refine absurd ?_ h
    have h2:x.Mag.data=#[]:=by rw[<-Array.toArray_toList (xs:=x.Mag.data),hl]
    cases hx:x.Mag with
    |mk d=>
     rw[hx] at h2
     simp only at h2
     subst h2
     rfl
   |cons y r=>exact⟨y,rfl⟩
  refine jq (ZaX rfl rfl (by omega) (show x.Mag[(0:Int).toNat]? =some u from hu)) rfl rfl ?_
  repeat(refine wkB ?_;intros)
  have hd:decide (((u.toNat:Nat):Int)=0)=decide (x.Mag[0]? =some 0):=by
   rw[hu,decide_eq_decide]
   simp only[Option.some.injEq]
   constructor
   ·intro h0
    exact UInt8.toNat_inj.1 (by simpa using h0)
   ·intro h0
    subst h0
    rfl
  rw[hd]
  exact rtT rfl rfl⟩
theorem ZrI {P:Program}{w0:World}{n:Nat}{ops:Array Oper}{rest:List Oper}{Q:Exit->Act->World->Prop}{E:Env}{L:List Blk}{α:Type}{enc:α->Array Value}{xs:List α}{k:Nat}[EncC enc (k+1)]{v:Value}(h:LstC w0 L v α enc xs)(hne:xs≠[])
  (kk:∀b o c,v= .slice (some ⟨b,o,none⟩) xs.length c->RowC w0 L b o α enc xs->JO P w0 n ops Q rest E L):JO P w0 n ops Q rest E L:=⟨fun a w ha hw=>by
 obtain⟨b,o,c,hv,hc,hr⟩:=(h.out w hw).blk (k:=k) hne []
 exact(kk b o c hv ⟨fun w' hw'=>by
  obtain⟨b',o',c',hv',hc',hr'⟩:=(h.out w' hw').blk (k:=k) hne []
  rw[hv] at hv'
  injection hv' with e1 e2 e3
  injection e1 with e1
  injection e1 with e1 e4
  subst e1 e4
  exact hr'.out w' (Own.start w')⟩).out a w ha hw⟩
theorem Ztw {n d:Int}:rcb ⟨I n,I d⟩=(decide (d=0)||(!decide (Lib.compareInt d 1<=0)&&decide ((Int.gcd n d:Int)=1))):=by
 rw[Zlt,ZgT,ZgT,Zci,Zci]
 simp only[Bool.true_and,ZbS]
instance Zvn (x:ZK):SpecC prog 110 [.agg (Zn x)] (.bool (rcb x)) (x.Num.Mag.size<=1000/\x.Den.Mag.size<=1000):=⟨fun hp w=>by
 have p1:=hp.1
 have p2:=hp.2
 refine Zb Tryz.func110 rfl Tryz.ntmps110 rfl ?_
 repeat(first|(refine wkB ?_;intros)|(refine wnM ?_ ?_;(focus(first|exact p1|exact p2));intros))
 rename_i b
 cases hn:icb x.Num with
 |false=>
  have e:rcb x=false:=by unfold rcb;rw[hn];rfl
  rw[e]
  simp only[Bool.not_false]
  repeat(refine wkB ?_;intros)
  exact rtT rfl rfl
 |true=>
  simp only[Bool.not_true]
  repeat(first|(refine wkB ?_;intros)|(refine wnM ?_ ?_;(focus(first|exact p1|exact p2));intros))
  cases hd:icb x.Den with
  |false=>
   have e:rcb x=false:=by unfold rcb;rw[hn,hd];rfl
   rw[e]
   simp only[Bool.not_false]
   repeat(refine wkB ?_;intros)
   exact rtT rfl rfl
  |true=>
   simp only[Bool.not_true]
   repeat(first|(refine wkB ?_;intros)|(refine wnM ?_ ?_;(focus(first|exact p1|exact p2));intros))
   obtain⟨n,e1⟩:=ZbV.1 hn
   obtain⟨d,e2⟩:=ZbV.1 hd
   obtain⟨xN,xD⟩:=x
   dsimp only at e1 e2 p1 p2
   subst e1 e2
   have q1:(I n).Mag.size<=1099511627776:=Wi p1 (by decide)
   have q2:(I d).Mag.size<=1099511627776:=Wi p2 (by decide)
   rw[Ztw]
   have zdN:(I d).Neg=decide (d<0):=rfl
   have zdM:(I d).Mag=mag d.natAbs:=rfl
   dsimp only
   by_cases hdn:d<0
   ·have e:(decide (d=0)||(!decide (Lib.compareInt d 1<=0)&&decide ((Int.gcd n d:Int)=1)))=false:=by
     rw[We (show¬d=0 by omega),Wc (show Lib.compareInt d 1<=0 by unfold Lib.compareInt;rw[if_pos (by omega)];decide)]
     rfl
    rw[e]
    simp only[zdN,Wc hdn]
    repeat(refine wkB ?_;intros)
    exact rtT rfl rfl
   ·simp only[zdN,We hdn]
    by_cases h0:d=0
    ·subst h0
     repeat(refine wkB ?_;intros)
     simp only[Wc (show(I 0).Mag=⟨#[]⟩ from rfl)]
     repeat(refine wkB ?_;intros)
     exact rtT rfl rfl
    ·have hme:¬mag d.natAbs=⟨#[]⟩:=fun k=>by
      have:=Z7.1 (show mag d.natAbs=ByteArray.empty from k)
      omega
     repeat(refine wkB ?_;intros)
     dsimp only
     simp only[zdM,We hme]
     repeat(refine wkB ?_;intros)
     have b1:bN (I n).Mag=n.natAbs:=Zde _
     have b2:bN (I d).Mag=d.natAbs:=Zde _
     have c1:(dI (bN (I n).Mag)).length<=1073741824/\(dI (bN (I d).Mag)).length<=1073741824:=by
      rw[b1,b2,Zbl,Zbl]
      exact⟨Wi p1 (by decide),Wi p2 (by decide)⟩
     have hgk:Nat.gcd n.natAbs d.natAbs=Int.gcd n d:=rfl
     have hg0:Int.gcd n d≠0:=fun k=>h0 (Int.gcd_eq_zero_iff.1 k).2
     (refine ZH (.v [0,1,3,4] (.e1 2 (.e1 5 (.e1 6 (.e1 7 (.fin)))))) ([⟨b,Zn ⟨I n,I d⟩,33⟩]) (h:=?_);refine wkX ?_)
     repeat' (first|(with_reducible refine And.intro ?_ ?_)|(with_reducible exact True.intro)|(refine wkT ?_;intros)|(refine tC rfl rfl ?_ ?_;focus(first|exact q1|exact q2|exact c1))|(refine uC rfl rfl ?_ ?_;focus(first|exact q1|exact q2|exact c1))|(refine eN rfl rfl ?_ ?_;(focus(first|exact q1|exact q2|exact c1));intro _;(try simp only[Wf,Wg,Wh]))|fail)
     rename_i f1 f2 s
     repeat(refine wkB ?_;intros)
     have hk:Nat.gcd (bN (I n).Mag) (bN (I d).Mag)=Int.gcd n d:=by rw[b1,b2];exact hgk
     have hne:dI (Nat.gcd (bN (I n).Mag) (bN (I d).Mag))≠[]:=fun k=>hg0 (by rw[<-hk];exact ZcT.1 k)
     refine ZrI (v:=s.v) (xs:=dI (Nat.gcd (bN (I n).Mag) (bN (I d).Mag))) (k:=0) (enc:=eI .i64) ?_ hne (fun bq oq cq hv hr=>?_)
     ·infer_instance
     rw[hv]
     have h1:=ZhT (Nat.gcd (bN (I n).Mag) (bN (I d).Mag))
     have hlen:0<(dI (Nat.gcd (bN (I n).Mag) (bN (I d).Mag))).length:=List.length_pos_iff.2 hne
     repeat(refine wkB ?_;intros)
     have hm1:(I d).Mag=⟨#[1]⟩↔d=1:=by
      rw[zdM,show(⟨#[1]⟩:ByteArray)=mag 1 from by decide+kernel,Zdn]
      omega
     have hc1:Lib.compareInt d 1<=0↔d=1:=by
      unfold Lib.compareInt
      split
      ·omega
      ·split <;> omega
     rw[We h0]
     dsimp only
     by_cases hd1:d=1
     ·simp only[Wc (hm1.2 hd1),Wc (hc1.2 hd1),Bool.not_true,Bool.false_and,Bool.or_false]
      repeat(refine wkB ?_;intros)
      exact rtT rfl rfl
     ·simp only[We (fun k=>hd1 (hm1.1 k)),We (fun k=>hd1 (hc1.1 k)),Bool.not_false,Bool.true_and,Bool.false_or]
      repeat(refine wkB ?_;intros)
      by_cases hg:Int.gcd n d=1
      ·obtain⟨l1,l2⟩:=h1.2 (by rw[hk];exact hg)
       rw[Wc (show((Int.gcd n d:Nat):Int)=1 by omega)]
       simp only[Wc (show(((dI (Nat.gcd (bN (I n).Mag) (bN (I d).Mag))).length:Nat):Int)=1 by omega)]
       repeat(refine wkB ?_;intros)
       simp only[Wc l2]
       repeat(refine wkB ?_;intros)
       exact rtT rfl rfl
      ·rw[We (show¬((Int.gcd n d:Nat):Int)=1 by omega)]
       have hno:¬((dI (Nat.gcd (bN (I n).Mag) (bN (I d).Mag))).length=1/\gi (dI (Nat.gcd (bN (I n).Mag) (bN (I d).Mag))) (0:Int)=1):=fun k=>hg (by rw[<-hk];exact h1.1 k)
       by_cases hl1:(dI (Nat.gcd (bN (I n).Mag) (bN (I d).Mag))).length=1
       ·simp only[Wc (show(((dI (Nat.gcd (bN (I n).Mag) (bN (I d).Mag))).length:Nat):Int)=1 by omega)]
        repeat(refine wkB ?_;intros)
        simp only[We (fun k=>hno ⟨hl1,k⟩)]
        repeat(refine wkB ?_;intros)
        exact rtT rfl rfl
       ·simp only[We (show¬(((dI (Nat.gcd (bN (I n).Mag) (bN (I d).Mag))).length:Nat):Int)=1 by omega)]
        repeat(refine wkB ?_;intros)
        exact rtT rfl rfl⟩
theorem isRealX (X:Zi)(w:World)(h1:M X.P<=1000)(h2:M X.R<=1000):Calls prog 64 [vR X].toArray w (Ret (.bool (rlb (Ze X))) w):=by
 have z1:(Q X.P).Num.Mag.size<=1000/\(Q X.P).Den.Mag.size<=1000:=⟨Wi (ZaG X.P) h1,Wi (ZsC X.P) h1⟩
 have z2:(Q X.R).Num.Mag.size<=1000/\(Q X.R).Den.Mag.size<=1000:=⟨Wi (ZaG X.R) h2,Wi (ZsC X.R) h2⟩
 have p3:M X.R<=268435456:=Wi h2 (by decide)
 refine Zb Tryz.func64 rfl Tryz.ntmps64 rfl ?_
 repeat(first|(refine wkB ?_;intros)|(refine wnM ?_ ?_;(focus(first|exact z1|exact z2));intros))
 simp only[Zfd,Bool.not_true]
 repeat(first|(refine wkB ?_;intros)|(refine wnM ?_ ?_;(focus(first|exact z1|exact z2));intros))
 try simp only[Zfd,Bool.not_true]
 repeat(first|(refine wkB ?_;intros)|(refine wnM ?_ ?_;(focus(first|exact z1|exact z2));intros))
 rcases nsg X.R with⟨hs,hg⟩|⟨hs,hg⟩|⟨hs,hg⟩
 ·simp only[hg,show decide ((1:Int)<0)=false from rfl]
  repeat(refine wkB ?_;intros)
  simp only[hg,show decide ((1:Int)=0)=false from rfl]
  repeat(first|(refine wkB ?_;intros)|(refine wnM ?_ ?_;(focus(exact p3));intros))
  cases hr:rtQ X.R with
  |none=>
   have hc:rlb (Ze X)=true:=Zaz.2 (Zbm.2 ⟨.inr ⟨hs,ZdG hr⟩,fun h0=>by
    have h0:X.R=0:=h0
    rw[h0] at hs
    exact absurd hs (by decide)⟩)
   rw[hc]
   repeat(refine wkB ?_;intros)
   exact rtT rfl rfl
  |some q=>
   have hc:rlb (Ze X)=false:=Zbf fun h=>by
    rcases(Zbm.1 h).k with h0|⟨_,h0⟩
    ·have h0:X.R=0:=h0
     rw[h0] at hs
     exact absurd hs (by decide)
    ·exact h0 q (ZeY hr).2
   rw[hc]
   repeat(refine wkB ?_;intros)
   exact rtT rfl rfl
 ·simp only[hg,show decide ((0:Int)<0)=false from rfl]
  repeat(refine wkB ?_;intros)
  simp only[hg,show decide ((0:Int)=0)=true from rfl]
  repeat(refine wkB ?_;intros)
  have hc:rlb (Ze X)= !X.Neg:=by
   cases hn:X.Neg with
   |false=>exact Zaz.2 (Zbm.2 ⟨.inl hs,fun _=>hn⟩)
   |true=>
    exact Zbf fun h=>by
     have:=(Zbm.1 h).z hs
     rw[show(rvR X).n=X.Neg from rfl,hn] at this
     cases this
  rw[hc]
  exact rtT rfl rfl
 ·have hc:rlb (Ze X)=false:=Zbf fun h=>by
   rcases(Zbm.1 h).k with h0|⟨h0,_⟩
   ·have h0:X.R=0:=h0
    rw[h0] at hs
    exact absurd hs (by decide)
   ·have h0:0<X.R:=h0
    exact absurd hs (by grind)
  rw[hc]
  simp only[hg,show decide ((-1:Int)<0)=true from rfl]
  repeat(refine wkB ?_;intros)
  exact rtT rfl rfl
instance Zvl (x:ZI):SpecC prog 64 [.agg (Zc x)] (.bool (rlb x)) (ShR x):=⟨fun hp w=>by
 obtain⟨a,b,c,d⟩:=hp
 have p1:x.P.Num.Mag.size<=1000/\x.P.Den.Mag.size<=1000:=⟨a,b⟩
 have p2:x.R.Num.Mag.size<=1000/\x.R.Den.Mag.size<=1000:=⟨c,d⟩
 by_cases hP:rcb x.P=true
 ·by_cases hR:rcb x.R=true
  ·obtain⟨p,e1⟩:=Zdc.1 hP
   obtain⟨r,e2⟩:=Zdc.1 hR
   have m1:=ZcX e1 a b
   have m2:=ZcX e2 c d
   obtain⟨xP,xR,n⟩:=x
   dsimp only at e1 e2
   subst e1 e2
   exact isRealX ⟨p,r,n⟩ w m1 m2
  ·have hn:rlb x=false:=Zbf fun h=>hR (ZgR h).2
   have hR':rcb x.R=false:=by simpa using hR
   rw[hn]
   refine Zb Tryz.func64 rfl Tryz.ntmps64 rfl ?_
   repeat(first|(refine wkB ?_;intros)|(refine wnM ?_ ?_;(focus(first|exact p1|exact p2));intros))
   simp only[hP,Bool.not_true]
   repeat(first|(refine wkB ?_;intros)|(refine wnM ?_ ?_;(focus(first|exact p1|exact p2));intros))
   simp only[hR',Bool.not_false]
   repeat(refine wkB ?_;intros)
   exact rtT rfl rfl
 ·have hn:rlb x=false:=Zbf fun h=>hP (ZgR h).1
  have hP':rcb x.P=false:=by simpa using hP
  rw[hn]
  refine Zb Tryz.func64 rfl Tryz.ntmps64 rfl ?_
  repeat(first|(refine wkB ?_;intros)|(refine wnM ?_ ?_;(focus(first|exact p1|exact p2));intros))
  simp only[hP',Bool.not_false]
  repeat(refine wkB ?_;intros)
  exact rtT rfl rfl⟩
instance Zo7 (I:Za):SpecC prog 65 [vIv I] (.bool (@decide (okI I) (Classical.propDecidable _))) (IvOk 1000 I):=⟨fun hp w=>by
 have p1:RtB I.From/\RtB I.To:=⟨hp.a.mono (by decide),hp.b.mono (by decide)⟩
 refine Zb Tryz.func65 rfl Tryz.ntmps65 rfl ?_
 repeat(first|(refine wkB ?_;intros)|(refine wnM ?_ ?_;(focus(exact p1));intros))
 have hD:okI I↔cl I.From I.To<0\/(cl I.From I.To=0/\I.OpenFrom=false/\I.OpenTo=false):=by
  unfold okI
  rw[Zal,Zao]
 by_cases h1:cl I.From I.To<0
 ·rw[@Wc _ (Classical.propDecidable _) (hD.2 (.inl h1))]
  simp only[Wc h1]
  repeat(refine wkB ?_;intros)
  exact rtT rfl rfl
 ·by_cases h2:cl I.From I.To=0
  ·simp only[We h1]
   repeat(refine wkB ?_;intros)
   simp only[Wc h2]
   repeat(refine wkB ?_;intros)
   cases ho:I.OpenFrom with
   |true=>
    rw[@We _ (Classical.propDecidable _) (fun k=>by
     rcases hD.1 k with k|⟨_,k,_⟩
     ·exact h1 k
     ·rw[ho] at k;cases k)]
    simp only[Bool.not_true]
    repeat(refine wkB ?_;intros)
    exact rtT rfl rfl
   |false=>
    simp only[Bool.not_false]
    repeat(refine wkB ?_;intros)
    cases hc:I.OpenTo with
    |true=>
     rw[@We _ (Classical.propDecidable _) (fun k=>by
      rcases hD.1 k with k|⟨_,_,k⟩
      ·exact h1 k
      ·rw[hc] at k;cases k)]
     simp only[Bool.not_true]
     repeat(refine wkB ?_;intros)
     exact rtT rfl rfl
    |false=>
     rw[@Wc _ (Classical.propDecidable _) (hD.2 (.inr ⟨h2,ho,hc⟩))]
     simp only[Bool.not_false]
     repeat(refine wkB ?_;intros)
     exact rtT rfl rfl
  ·rw[@We _ (Classical.propDecidable _) (fun k=>by
    rcases hD.1 k with k|⟨k,_⟩
    ·exact h1 k
    ·exact h2 k)]
   simp only[We h1]
   repeat(refine wkB ?_;intros)
   simp only[We h2]
   repeat(refine wkB ?_;intros)
   exact rtT rfl rfl⟩
end
section
abbrev RW :=ZJ
abbrev RC :=Zab
abbrev rRW :=Zm
abbrev rRC :=Zp
instance ZBI :Inhabited RW:=⟨Zfy⟩
instance ZBx :Inhabited RC:=⟨ZeH⟩
instance Zlq :EncC rRW 21:=⟨fun _=>CsC.size,fun _=>CsC.one⟩
instance ZBd :EncC rRC 21:=⟨fun _=>CsC.size,fun _=>CsC.one⟩
def cvR (u:RW):RC:=⟨u.In,u.Label⟩
theorem ZhS {α β:Type}[Inhabited α]{enc:β->Array Value}{k:Nat}[he:EncC enc k]{g:α->β}{w:World}{v:Value}{xs:List α}(h:ArgS w v enc (xs.map g)):ArgS w v (fun x=>enc (g x)) xs:=by
 rcases h.out with⟨h1,h2⟩|⟨a,c,h1,h2,h3⟩
 ·exact⟨.inl ⟨h1,List.map_eq_nil_iff.1 h2⟩⟩
 ·rw[Ws] at h1 h2
  refine⟨.inr ⟨a,c,h1,h2,fun i f k' u hi hk hu=>?_⟩⟩
  have hk':k'=k:=by rw[<-hk default,he.size]
  subst hk'
  exact h3 i f k' u (by rw[Ws];exact hi) (fun x=>he.size x) (by rw[List.getElem_map];exact hu)
def ApR (a b:Zr):Prop:=∃I J:Za,a=Zf I/\b=Zf J/\bfI I J
open Classical in
noncomputable def unE (f:Nat->Zr)(i:Nat):Int:=if ivE (f i)≠0 then ivE (f i) else if 0<i/\¬ApR (f (i-1)) (f i) then 7 else 0
noncomputable def scE (f:Nat->Zr):Nat->Int
 |0=>0
 |m+1=>if scE f m≠0 then scE f m else unE f m
theorem ZcV {f:Nat->Zr}{m:Nat}(h:scE f m≠0):∀n,m<=n->scE f n=scE f m:=fun n hn=>by
 induction n with
 |zero=>rw[show m=0 by omega]
 |succ n ih=>
  rcases(by omega:m=n+1\/m<=n) with h1|h1
  ·rw[h1]
  ·have:=ih h1
   rw[scE,if_pos (by rw[this];exact h),this]
theorem Zf4 {f:Nat->Zr}{m n:Nat}(h0:scE f m=0)(h:unE f m≠0)(hn:m<n):scE f n=unE f m:=by
 have h1:scE f (m+1)=unE f m:=by rw[scE,if_neg (by omega)]
 rw[ZcV (m:=m+1) (by rw[h1];exact h) n hn,h1]
theorem ZbU {f:Nat->Zr}{m:Nat}(h0:scE f m=0)(h:unE f m=0):scE f (m+1)=0:=by rw[scE,if_neg (by omega)];exact h
theorem Zg1 {f:Nat->Zr}{n:Nat}(h:scE f n=0):∀i,i<n->unE f i=0:=fun i hi=>by
 rcases Int.lt_trichotomy (unE f i) 0 with h1|h1|h1
 ·exfalso
  rcases Int.lt_trichotomy (scE f i) 0 with h2|h2|h2
  ·have:=ZcV (f:=f) (m:=i) (by omega) n (by omega);omega
  ·have:=Zf4 h2 (by omega) hi;omega
  ·have:=ZcV (f:=f) (m:=i) (by omega) n (by omega);omega
 ·exact h1
 ·exfalso
  rcases Int.lt_trichotomy (scE f i) 0 with h2|h2|h2
  ·have:=ZcV (f:=f) (m:=i) (by omega) n (by omega);omega
  ·have:=Zf4 h2 (by omega) hi;omega
  ·have:=ZcV (f:=f) (m:=i) (by omega) n (by omega);omega
theorem Zpq {x:Zr}(h:ivE x=0):∃I:Za,x=Zf I/\okI I/\(rvR I.From).ok/\(rvR I.To).ok:=by
 unfold ivE at h
 split at h
 ·rename_i hc
  split at h
  ·rename_i hI
   obtain⟨I,rfl,ho⟩:=hI
   exact⟨I,rfl,ho,Zbm.1 hc.1,Zbm.1 hc.2⟩
  ·cases h
 ·cases h
def fIv (l:List RW)(i:Nat):Zr:=(gi l (i:Int)).In
def NfC (l:List RW):Prop:=∃us:List PU,l=us.map Zl/\NF (us.map absQ)
open Classical in
noncomputable def chkV (l:List RW):Int:=if scE (fIv l) l.length≠0 then scE (fIv l) l.length else if NfC l then 0 else 5
theorem Zkz {x y:PU}(h:Zl x=Zl y):x=y:=by
 unfold Zl at h
 injection h with e1 e2
 obtain⟨a,b⟩:=x
 obtain⟨a',b'⟩:=y
 dsimp only at e1 e2
 rw[Zb7 e1,e2]
theorem ZgB :∀{l m:List PU},l.map Zl=m.map Zl->l=m
 |[],[],_=>rfl
 |[],_::_,h=>by cases h
 |_::_,[],h=>by cases h
 |x::l,y::m,h=>by
  obtain⟨h1,h2⟩:=List.cons.inj h
  rw[Zkz h1,ZgB h2]
structure RsK (l:List RW)(us:List PU):Prop where
 e:l=us.map Zl
 o:∀u∈us,okI u.In
 k:∀u∈us,IvOk 1000 u.In
 p:us.Pairwise (fun u w=>bfI u.In w.In)
theorem Zir {α β:Type}[Inhabited α][Inhabited β]{g:α->β}{l:List α}{i:Nat}(h:i<l.length):gi (l.map g) (i:Int)=g (gi l (i:Int)):=by
 rw[Zw (by rw[Ws];exact h),Zw h,List.getElem_map]
theorem ZgI {l:List RW}(hs:∀u∈l,ShI u.In)(h:scE (fIv l) l.length=0):∃us:List PU,RsK l us:=by
 have hiv:∀u∈l,∃x:PU,u=Zl x/\okI x.In/\IvOk 1000 x.In:=fun u hu=>by
  obtain⟨i,hi,rfl⟩:=List.getElem_of_mem hu
  have h1:=Zg1 h i hi
  have h2:ivE (fIv l i)=0:=by
   unfold unE at h1
   split at h1
   ·exact absurd h1 (by assumption)
   ·rename_i h3;omega
  have e:fIv l i=l[i].In:=by unfold fIv;rw[Zw hi]
  rw[e] at h2
  obtain⟨I,hI,ho,c1,c2⟩:=Zpq h2
  have hsh:=hs _ hu
  refine⟨⟨I,l[i].Label⟩, ?_,ho,Zfb (by rw[<-hI];exact hsh) c1 c2⟩
  unfold Zl
  dsimp only
  rw[<-hI]
 have hex:∃us:List PU,l=us.map Zl/\∀u∈us,okI u.In/\IvOk 1000 u.In:=by
  clear h hs
  induction l with
  |nil=>exact⟨[],rfl,fun u hu=>by cases hu⟩
  |cons u l ih=>
   obtain⟨us,e,hus⟩:=ih (fun w hw=>hiv w (.tail _ hw))
   obtain⟨x,hx,hx2⟩:=hiv u (.head _)
   refine⟨x::us,by rw[List.map_cons,<-hx,<-e],fun w hw=>?_⟩
   rcases List.mem_cons.1 hw with rfl|hw
   ·exact hx2
   ·exact hus w hw
 obtain⟨us,e,hus⟩:=hex
 refine⟨us,e,fun u hu=>(hus u hu).1,fun u hu=>(hus u hu).2, ?_⟩
 have hll:l.length=us.length:=by rw[e,Ws]
 have hp:=ZdB (l:=us.map absQ) (fun u hu=>by obtain⟨w,hw,rfl⟩:=List.mem_map.1 hu;exact(hus w hw).1) (fun i hi=>by
  rw[Ws] at hi
  rw[List.getElem_map,List.getElem_map]
  have h1:=Zg1 h (i+1) (by omega)
  unfold unE at h1
  split at h1
  ·exact absurd h1 (by assumption)
  ·split at h1
   ·cases h1
   ·rename_i h3
    have h4:ApR (fIv l i) (fIv l (i+1)):=Classical.byContradiction fun k=>h3 ⟨by omega,k⟩
    obtain⟨I,J,e1,e2,hb⟩:=h4
    unfold fIv at e1 e2
    rw[e,Zir (by omega)] at e1
    rw[e,Zir (by omega)] at e2
    have f1:=Zb7 (show Zf (gi us (i:Int)).In=Zf I from e1)
    have f2:=Zb7 (show Zf (gi us ((i+1:Nat):Int)).In=Zf J from e2)
    rw[Zw (by omega)] at f1
    rw[Zw hi] at f2
    show bfI us[i].In us[i+1].In
    rw[f1,f2]
    exact hb)
 exact(List.pairwise_map.1 hp:us.Pairwise (fun u w=>(absQ u).bfr (absQ w)))
theorem Zko {l:List RW}{us:List PU}(h:scE (fIv l) l.length=0)(hr:RsK l us):(NF (us.map absQ)->chkV l=0)/\(¬NF (us.map absQ)->chkV l=5):=by
 unfold chkV
 rw[if_neg (by omega)]
 constructor
 ·intro k
  rw[if_pos ⟨us,hr.e,k⟩]
 ·intro k
  rw[if_neg]
  rintro⟨ws,e,hn⟩
  have:=ZgB (hr.e.symm.trans e)
  rw[this] at k
  exact k hn
theorem ZnH {l:List RW}(h:scE (fIv l) l.length≠0):chkV l=scE (fIv l) l.length:=by
 unfold chkV
 rw[if_pos h]
theorem ZtE {l:List RW}{us:List PU}(hr:RsK l us):jnL us us.length=us↔NF (us.map absQ):=by
 have h1:=Zkt (l:=us) (K:=1000) hr.k hr.o hr.p us.length (Wl _)
 rw[List.take_length] at h1
 constructor
 ·intro e
  have:=h1.1.nf
  rwa [e] at this
 ·intro h
  exact ZhA h1.2 hr.k (h1.1.nf.uniq h fun z x=>h1.1.has z x)
end
section
theorem Zsg (x0:RC)(w:World):(Instr.buildSlice 110 1 [(0, .agg (Zp x0))].toArray).run prog w= .ok (.slice (some ⟨w.heap.size,0,none⟩) 1 1) (w.alloc (.cells (row rRC [x0] []) 145)):=by kernel_rfl
instance ZBk (x0:RC):BsC prog 110 1 [(0, .agg (Zp x0))] (row rRC [x0] []) 145:=⟨Zsg x0⟩
theorem Znv (v:Value)(us:List RW)(w:World)(hv:ArgS w v rRW us)(hl:us.length<=1048576):
  Calls prog 63 [v].toArray w (RetM (SlS rRC 21 (mpN cvR us us.length)) (fun s=>vSl s) (fun s=>mS 145 s) w):=by
 refine Zb Tryz.func63 rfl Tryz.ntmps63 rfl ?_
 obtain⟨p,cp,rfl⟩:=hv.form
 repeat(refine wkB ?_;intros)
 refine Zq (S:=(m:Nat)×SlS rRC 21 (mpN cvR us m)) (fun s=>s.1<=us.length) (fun s=>[(3,vSl s.2),(6, .slice p us.length cp),(7, .int .i64 us.length),(8, .int .i64 (s.1:Nat))]) (fun s=>mS 145 s.2) (fun s=>us.length-s.1) ⟨0,SlS.no⟩
  (Wm _) sbB slB (fun s hm=>?_)
 obtain⟨m,s⟩:=s
 simp only at hm⊢
 repeat(refine wkB ?_;intros)
 refine Zk rfl (fun h=>?_) (fun h=>?_)
 ·have hlt:m<us.length:=by have:=Wa h;omega
  obtain⟨bw,ow,rfl,hrow'⟩:=hv.opn (k:=20) hlt
  repeat(refine wkB ?_;intros)
  have hml:=ZaV cvR us m
  refine sU rfl rfl ?_ ?_ ?_ ?_
  ·rfl
  ·rfl
  ·exact⟨by decide,by omega,by omega⟩
  intro s'
  repeat(first|(refine wkB ?_;intros)|(refine wnM ?_ ?_;(focus(exact⟨by omega,by omega⟩));intros))
  exact Zg ⟨m+1,s'⟩ hlt sbB suB (by show us.length-(m+1)<us.length-m;omega)
 ·have hge:m=us.length:=by have:=Wb h;omega
  subst hge
  repeat(refine wkB ?_;intros)
  exact ZB rfl rfl (fun w hw=>⟨s,rfl,hw.sub sbl⟩)
theorem Zse {α:Type}[Inhabited α]{us ws:List α}(h0:us.length=ws.length)(h:∀i,i<us.length->gi us (i:Int)=gi ws (i:Int)):us=ws:=by
 refine List.ext_getElem h0 fun i h1 h2=>?_
 have:=h i h1
 rwa [Zw h1,Zw h2] at this
theorem ZlW (v1 v2:Value)(us ws:List UL)(b:Nat)(w:World)(h1:ArgS w v1 rU us)(h2:ArgS w v2 rU ws)(hb:∃T fz,w.heap[b]? =some (.cells #[vLabels] T fz))(hl:us.length<=1048576)(hl2:ws.length<=1048576):
  Calls prog 154 [v1,v2, .func (.func 155) #[] [.pointer (some ⟨b,0,none⟩)].toArray].toArray w (Ret (.bool (decide (us=ws))) w):=by
 obtain⟨T,hb⟩:=hb
 have:=FoC.mk hb
 refine Zb Tryz.func154 rfl Tryz.ntmps154 rfl ?_
 obtain⟨p1,c1,rfl⟩:=h1.form
 obtain⟨p2,c2,rfl⟩:=h2.form
 repeat(refine wkB ?_;intros)
 by_cases hle:us.length=ws.length
 ·simp only[Wc (show(us.length:Int)=(ws.length:Int) by omega),Bool.not_true]
  repeat(refine wkB ?_;intros)
  refine Zq (S:=Nat) (fun m=>m<=us.length/\∀i,i<m->gi us (i:Int)=gi ws (i:Int)) (fun m=>[(1, .slice p2 ws.length c2),(2, .func (.func 155) #[] [.pointer (some ⟨b,0,none⟩)].toArray),(15, .slice p1 us.length c1),(16, .int .i64 us.length),(17, .int .i64 (m:Nat))]) (fun _=>[]) (fun m=>us.length-m) 0 ⟨Wm _,fun i hi=>absurd hi (Nat.not_lt_zero _)⟩ sbB slB (fun m hm=>?_)
  obtain⟨hm,hE⟩:=hm
  repeat(refine wkB ?_;intros)
  refine Zk rfl (fun h=>?_) (fun h=>?_)
  ·have hlt:m<us.length:=by have:=Wa h;omega
   have hlt2:m<ws.length:=by omega
   have hne:us≠[]:=fun h0=>by rw[h0] at hlt;simp at hlt
   have hne2:ws≠[]:=fun h0=>by rw[h0] at hlt2;simp at hlt2
   obtain⟨b1,o1,c1',hv1,hc1,hr1⟩:=h1.blk (k:=20) hne []
   injection hv1 with e1 e2 e3
   subst e1
   subst e3
   obtain⟨b2,o2,c2',hv2,hc2,hr2⟩:=h2.blk (k:=20) hne2 []
   injection hv2 with e1 e2 e3
   subst e1
   subst e3
   have hr1':∀L,RowC w L b1 o1 UL rU us:=fun L=>⟨fun w' hw'=>hr1.out w' (hw'.sub (Wk _))⟩
   have hr2':∀L,RowC w L b2 o2 UL rU ws:=fun L=>⟨fun w' hw'=>hr2.out w' (hw'.sub (Wk _))⟩
   repeat(refine wkB ?_;intros)
   by_cases hq:gi us (m:Int)=gi ws (m:Int)
   ·simp only[Wc hq,Bool.not_true]
    repeat(refine wkB ?_;intros)
    refine Zg (m+1) ⟨hlt,fun i hi=>?_⟩ sbB slB (by omega)
    rcases(by omega:i=m\/i<m) with rfl|h0
    ·exact hq
    ·exact hE i h0
   ·simp only[We hq,Bool.not_false]
    repeat(refine wkB ?_;intros)
    rw[We (show¬us=ws from fun e=>hq (by rw[e]))]
    exact rtT rfl rfl
  ·have hge:m=us.length:=by have:=Wb h;omega
   repeat(refine wkB ?_;intros)
   rw[Wc (show us=ws from Zse hle fun i hi=>hE i (by omega))]
   exact rtT rfl rfl
 ·simp only[We (show¬(us.length:Int)=(ws.length:Int) by omega),Bool.not_false]
  repeat(refine wkB ?_;intros)
  rw[We (show¬us=ws from fun e=>hle (by rw[e]))]
  exact rtT rfl rfl
theorem Zlz (v1 v2:Value)(us ws:List UL)(w:World)(h1:ArgS w v1 rU us)(h2:ArgS w v2 rU ws)(hl:us.length<=1048576)(hl2:ws.length<=1048576):
  Calls prog 109 [vLabels,v1,v2].toArray w (Ret (.bool (decide (us=ws))) w):=by
 have hi:∀(w0:World)(L:List Blk)(v1 v2:Value)(us ws:List UL)(b:Nat)(T:TypeId) [h1:LstC w0 L v1 UL rU us] [h2:LstC w0 L v2 UL rU ws] [h:AtC w0 L b #[vLabels] T],SpecM prog w0 L 154 [v1,v2, .func (.func 155) #[] [.pointer (some ⟨b,0,none⟩)].toArray] (.bool (decide (us=ws))) (us.length<=1048576/\ws.length<=1048576):=fun w0 L v1 v2 us ws b T h1 h2 h=>⟨fun hp w hw=>ZlW v1 v2 us ws b w (h1.out w hw) (h2.out w hw) ⟨T,h.out w hw⟩ hp.1 hp.2⟩
 have:=ArgC.mk h1
 have:=ArgC.mk h2
 refine Zb Tryz.func109 rfl Tryz.ntmps109 rfl ?_
 repeat(first|(refine wkB ?_;intros)|(refine wnM ?_ ?_;(focus(exact⟨hl,hl2⟩));intros))
 exact rtT rfl rfl
noncomputable def apB (x y:Zr):Bool:= @decide (ApR x y) (Classical.propDecidable _)
theorem Zpz (I J:Za):apB (Zf I) (Zf J)=aprt I J:=by
 have h:ApR (Zf I) (Zf J)↔aprt I J=true:=by
  rw[show aprt I J=aprt (⟨I,0⟩:UL).In (⟨J,0⟩:UL).In from rfl,ZdE]
  constructor
  ·rintro⟨I',J',e1,e2,h⟩
   rw[Zb7 e1,Zb7 e2]
   exact h
  ·exact fun h=>⟨I,J,rfl,rfl,h⟩
 unfold apB
 cases hb:aprt I J with
 |true=>exact @Wc _ (Classical.propDecidable _) (h.2 hb)
 |false=>exact @We _ (Classical.propDecidable _) (fun k=>by rw[h.1 k] at hb;cases hb)
theorem Zkm {x y:Zr}:apB x y=true↔ApR x y:=by
 unfold apB
 exact @decide_eq_true_iff _ (Classical.propDecidable _)
theorem Zk2 {x:Zr}(h:ivE x=0)(hs:ShI x):∃I:Za,x=Zf I/\okI I/\IvOk 1000 I:=by
 obtain⟨I,rfl,ho,h1,h2⟩:=Zpq h
 exact⟨I,rfl,ho,Zfb hs h1 h2⟩
theorem Zmf (x y:Zr):SpecC prog 108 [.agg (Zh x), .agg (Zh y)] (.bool (apB x y)) ((ShI x/\ivE x=0)/\(ShI y/\ivE y=0)):=⟨fun hp w=>by
 obtain⟨I,rfl,_,k1⟩:=Zk2 hp.1.2 hp.1.1
 obtain⟨J,rfl,_,k2⟩:=Zk2 hp.2.2 hp.2.1
 rw[Zpz]
 exact(Zn8 I J).out ⟨(k1.mono (by decide)).b,(k2.mono (by decide)).a⟩ w⟩
theorem Zui {l:List RW}{i:Nat}(h:i<l.length):(gi (l.map cvR) (i:Int)).In=fIv l i:=by
 rw[Zir h]
 rfl
theorem ZfB {l:List RW}(hs:∀u∈l,ShI u.In){i:Nat}(h:i<l.length):ShI (fIv l i):=by
 unfold fIv
 exact hs _ (ZA (by omega))
theorem Zl8 {f:Nat->Zr}{m:Nat}(h:scE f m=0){i:Nat}(hi:i<m):ivE (f i)=0:=by
 have h1:=Zg1 h i hi
 unfold unE at h1
 split at h1
 ·exact h1
 ·rename_i h3
  omega
theorem Zj3 {l:List RW}{us:List PU}(h:RsK l us):UVal (us.map toU)/\((us.map toU).map absU).Pairwise Dis:=by
 refine⟨⟨fun u hu=>?_,fun u hu=>?_⟩, ?_⟩
 ·obtain⟨x,hx,rfl⟩:=List.mem_map.1 hu
  exact⟨(h.k x hx).mono (by decide)⟩
 ·obtain⟨x,hx,rfl⟩:=List.mem_map.1 hu
  exact h.o x hx
 ·rw[List.map_map]
  refine List.pairwise_map.2 (h.p.imp fun {a b} hb=>?_)
  have hb':(absQ a).bfr (absQ b):=hb
  exact hb'.Dis
theorem Zr7 {l:List RW}{us:List PU}(h:RsK l us):us.map toU=nrmR (us.map toU)↔NF (us.map absQ):=by
 obtain⟨hv,hd⟩:=Zj3 h
 have e:(us.map toU).map absU=us.map absQ:=by rw[List.map_map];rfl
 constructor
 ·intro k
  have:=(ZfG hv hd).1
  rwa [<-k,e] at this
 ·intro k
  rw[<-e] at k
  exact(Zia k hv.1).1.symm
end
section
theorem Zcw {l:List RW}{m:Nat}(h0:scE (fIv l) m=0)(h:unE (fIv l) m≠0)(hm:m<l.length):unE (fIv l) m=chkV l:=by
 have h1:=Zf4 h0 h hm
 rw[ZnH (by rw[h1];exact h),h1]
theorem Zcg {f:Nat->Zr}{m:Nat}(h:ivE (f m)≠0):unE f m=ivE (f m):=by
 unfold unE
 rw[if_pos h]
theorem ZlA {f:Nat->Zr}{m:Nat}(h:ivE (f m)=0)(hm:0<m):(apB (f (m-1)) (f m)=true->unE f m=0)/\(apB (f (m-1)) (f m)=false->unE f m=7):=by
 unfold unE
 rw[if_neg (by omega)]
 constructor
 ·intro k
  rw[if_neg (fun⟨_,q⟩=>q (Zkm.1 k))]
 ·intro k
  rw[if_pos ⟨hm,fun q=>by rw[Zkm.2 q] at k;cases k⟩]
theorem ZlO {f:Nat->Zr}(h:ivE (f 0)=0):unE f 0=0:=by
 unfold unE
 rw[if_neg (by omega),if_neg (fun⟨q,_⟩=>by omega)]
theorem Zg7 (v:Value)(l:List RW)(w:World)(hv:ArgS w v rRC (l.map cvR))(hnil:l=[]->v= .slice none 0 0)(hs:∀u∈l,ShI u.In)(hl:l.length<=12):
  Calls prog 62 [vLabels,v].toArray w (Ret (.int .i64 (chkV l)) w):=by
 have hap:=Zmf
 have hpe:∀(w0:World)(L:List Blk)(v1 v2:Value)(us ws:List UL) [h1:LstC w0 L v1 UL rU us] [h2:LstC w0 L v2 UL rU ws],SpecM prog w0 L 109 [vLabels,v1,v2] (.bool (decide (us=ws))) (us.length<=1048576/\ws.length<=1048576):=fun w0 L v1 v2 us ws h1 h2=>⟨fun hp w hw=>Zlz v1 v2 us ws w (h1.out w hw) (h2.out w hw) hp.1 hp.2⟩
 have hlen:(l.map cvR).length=l.length:=Ws _
 have hgi:∀i,i<l.length->(gi (l.map cvR) (i:Int)).In=fIv l i:=fun i hi=>Zui hi
 obtain⟨lc,hlc⟩:∃lc,lc=l.map cvR:=⟨_,rfl⟩
 rw[<-hlc] at hv hlen hgi
 obtain⟨p,cp,rfl⟩:=hv.form
 refine Zb Tryz.func62 rfl Tryz.ntmps62 rfl ?_
 repeat(refine wkB ?_;intros)
 simp only[We (show¬(256:Int)<lc.length by omega)]
 repeat(refine wkB ?_;intros)
 refine Zq (S:=Nat) (fun m=>m<=l.length/\scE (fIv l) m=0) (fun m=>[(0,vLabels),(1, .slice p lc.length cp),(14, .slice p lc.length cp),(15, .int .i64 lc.length),(16, .int .i64 (m:Nat))]) (fun _=>[]) (fun m=>l.length-m) 0 ⟨Wm _,rfl⟩ sbB slB (fun m hm=>?_)
 obtain⟨hm,hsc⟩:=hm
 repeat(refine wkB ?_;intros)
 refine Zk rfl (fun hc=>?_) (fun hc=>?_)
 ·have hlt:m<l.length:=by have:=Wa hc;omega
  have hne:lc≠[]:=fun h0=>by rw[h0] at hlen;simp at hlen;omega
  obtain⟨b1,o1,c1',hv1,hc1,hr1⟩:=hv.blk (k:=20) hne []
  injection hv1 with e1 e2 e3
  subst e1
  subst e3
  have hr1':∀L,RowC w L b1 o1 RC rRC lc:=fun L=>⟨fun w' hw'=>hr1.out w' (hw'.sub (Wk _))⟩
  have p1:ShI (gi lc (m:Int)).In:=by rw[hgi m hlt];exact ZfB hs hlt
  repeat(first|(refine wkB ?_;intros)|(refine wnM ?_ ?_;(focus(first|exact p1|exact trivial));intros))
  rename_i b6
  by_cases hi:ivE (gi lc (m:Int)).In=0
  ·simp only[hi,show decide ((0:Int)=0)=true from rfl,Bool.not_true]
   have hi':ivE (fIv l m)=0:=by rw[<-hgi m hlt];exact hi
   repeat(first|(refine wkB ?_;intros)|(refine wnM ?_ ?_;(focus(exact trivial));intros))
   rcases Nat.eq_zero_or_pos m with h0|h0
   ·subst h0
    refine jD 14 14 (h:=?_)
    (repeat(refine wkH ?_))
    simp only[We (show¬(0:Int)<((0:Nat):Int) by decide)]
    (repeat(refine wkH ?_))
    refine Zo ?_
    refine Zs ?_
    repeat(refine wkB ?_;intros)
    exact Zg 1 ⟨hlt,ZbU hsc (ZlO hi')⟩ sbB slB (by omega)
   ·have hg1:(gi lc ((m:Int)-1)).In=fIv l (m-1):=by
     have:=hgi (m-1) (by omega)
     rwa [show((m-1:Nat):Int)=(m:Int)-1 by omega] at this
    have p2:(ShI (gi lc ((m:Int)-1)).In/\ivE (gi lc ((m:Int)-1)).In=0)/\(ShI (gi lc (m:Int)).In/\ivE (gi lc (m:Int)).In=0):=by
     refine⟨?_,p1,hi⟩
     rw[hg1]
     exact⟨ZfB hs (by omega),Zl8 hsc (by omega)⟩
    obtain⟨ua,ub⟩:=ZlA hi' h0
    rw[<-hg1,<-hgi m hlt] at ua ub
    refine jD 14 14 (h:=?_)
    (repeat(refine wkH ?_))
    simp only[Wc (show(0:Int)<(m:Int) by omega)]
    (repeat(first|refine wkH ?_|(refine tC rfl rfl ?_ ?_;focus(exact p2))))
    cases hb:apB (gi lc ((m:Int)-1)).In (gi lc (m:Int)).In with
    |true=>
     simp only[Bool.not_true]
     (repeat(refine wkH ?_))
     refine Zo ?_
     refine Zs ?_
     repeat(refine wkB ?_;intros)
     exact Zg (m+1) ⟨hlt,ZbU hsc (ua hb)⟩ sbB slB (by omega)
    |false=>
     simp only[Bool.not_false]
     (repeat(refine wkH ?_))
     refine Zo ?_
     refine Zs ?_
     repeat(refine wkB ?_;intros)
     rw[<-Zcw hsc (by rw[ub hb];decide) hlt,ub hb]
     exact rtT rfl rfl
  ·simp only[We hi,Bool.not_false]
   repeat(refine wkB ?_;intros)
   have hi':ivE (fIv l m)≠0:=by rw[<-hgi m hlt];exact hi
   rw[<-Zcw hsc (by rw[Zcg hi'];exact hi') hlt,Zcg hi',<-hgi m hlt]
   exact rtT rfl rfl
 ·have hge:m=l.length:=by have:=Wb hc;omega
  subst hge
  obtain⟨us,hr⟩:=ZgI hs hsc
  obtain⟨hU,hD⟩:=Zj3 hr
  obtain⟨c1,c2⟩:=Zko hsc hr
  have hnf:=Zr7 hr
  have e1:lc=(us.map toU).map Zx:=by
   rw[hlc,hr.e,List.map_map,List.map_map]
   rfl
  have hl2:lc.length=(us.map toU).length:=by rw[e1,Ws]
  have hul:(us.map toU).length<=12:=by omega
  rw[e1] at hv
  have hv2:ArgS w _ rU (us.map toU):=ZhS (enc:=rRC) (g:=Zx) hv
  rw[<-e1] at hv2
  have hn2:us.map toU=[]->Value.slice p lc.length cp= .slice none 0 0:=fun k=>hnil (List.length_eq_zero_iff.1 (by rw[<-hlen,hl2,k];rfl))
  have h0:nrmE (us.map toU)=0:=(Zfg hU).2 hD
  obtain⟨ul,hul0⟩:∃ul,ul=us.map toU:=⟨_,rfl⟩
  rw[<-hul0] at hU hD hnf hul hv2 hn2 h0
  have:∀L,LstN w L (.slice p lc.length cp) UL rU ul:=fun L=>⟨fun w' hw'=>hv2.to hw'.ext,hn2⟩
  have:=ArgC.mk hv2
  have q1:NrP ul:= .inl (by omega)
  have q2:=hU.1
  repeat(first|(refine wkB ?_;intros)|(refine wnM ?_ ?_;(focus(exact⟨q1,q2⟩));intros))
  rename_i s
  simp only[h0,decide_true,Bool.not_true]
  have q3:ul.length<=1048576/\(nrmR ul).length<=1048576:=⟨by omega,by have:=Zio ul;omega⟩
  repeat(first|(refine wkB ?_;intros)|(refine wnM ?_ ?_;(focus(exact q3));intros))
  by_cases hE:ul=nrmR ul
  ·simp only[Wc hE,Bool.not_true]
   repeat(refine wkB ?_;intros)
   rw[c1 (hnf.1 hE)]
   exact rtT rfl rfl
  ·simp only[We hE,Bool.not_false]
   repeat(refine wkB ?_;intros)
   rw[c2 (fun k=>hE (hnf.2 k))]
   exact rtT rfl rfl
end
section
set_option maxHeartbeats 8000000 in
theorem Ziw (v1 v2:Value)(l m:List PU)(w:World)(h1:ArgS w v1 rP l)(h2:ArgS w v2 rP m)(hl:l.length<=1048576/\m.length<=1048576):
  Calls prog 22 [v1,v2].toArray w (Ret (.bool (decide (l=m))) w):=by
 have hav1:=ArgC.mk h1
 have hav2:=ArgC.mk h2
 have A1:=h1
 have A2:=h2
 obtain⟨p,cp,rfl⟩:=h1.form
 obtain⟨q,cq',rfl⟩:=h2.form
 refine Zb Tryz.func22 rfl Tryz.ntmps22 rfl ?_
 repeat(refine wkB ?_;intros)
 by_cases hlen:l.length=m.length
 ·simp only[Wc (show((l.length:Nat):Int)=((m.length:Nat):Int) by omega),Bool.not_true]
  repeat(refine wkB ?_;intros)
  refine Zq (S:=Nat) (fun k=>k<=l.length/\∀j:Nat,j<k->gi l (j:Int)=gi m (j:Int)) (fun k=>[(0, .slice p l.length cp),(1, .slice q m.length cq'),(5, .int .i64 (k:Nat))]) (fun _=>[]) (fun k=>l.length-k) 0 ⟨Wm _,fun j hj=>by omega⟩ sbB slB (fun k hk=>?_)
  obtain⟨hk,hsame⟩:=hk
  repeat(refine wkB ?_;intros)
  refine Zk rfl (fun h=>?_) (fun h=>?_)
  ·have hlt:k<l.length:=by have:=Wa h;omega
   have hne:l≠[]:=fun h0=>by rw[h0] at hlt;simp at hlt
   have hne2:m≠[]:=fun h0=>by rw[h0] at hlen;rw[hlen] at hlt;simp at hlt
   obtain⟨bw,ow,cw,hvw,hcw,hrow⟩:=A1.blk (k:=20) hne []
   obtain⟨bw',ow',cw',hvw',hcw',hrow2⟩:=A2.blk (k:=20) hne2 []
   injection hvw with x1 x2 x3
   injection hvw' with y1 y2 y3
   subst x1 x3
   subst y1 y3
   have hr1:∀L,RowC w L bw ow PU rP l:=fun L=>⟨fun w' hw'=>hrow.out w' (hw'.sub (Wk _))⟩
   have hr2:∀L,RowC w L bw' ow' PU rP m:=fun L=>⟨fun w' hw'=>hrow2.out w' (hw'.sub (Wk _))⟩
   repeat(refine wkB ?_;intros)
   refine jD 9 9 (h:=?_)
   (repeat(refine wkH ?_))
   refine Zo ?_
   refine Zs ?_
   by_cases he:gi l (k:Int)=gi m (k:Int)
   ·simp only[Wc he,Bool.not_true]
    repeat(first|(refine wkB ?_;intros)|(refine wnM ?_ ?_;(focus(exact⟨by omega,by omega⟩));intros))
    refine Zg (k+1) ⟨hlt,fun j hj=>?_⟩ sbB slB (by omega)
    rcases(by omega:j<k\/j=k) with h1|rfl
    ·exact hsame j h1
    ·exact he
   ·simp only[We he,Bool.not_false]
    repeat(refine wkB ?_;intros)
    rw[We (show¬l=m from fun h0=>he (by rw[h0]))]
    exact rtT rfl rfl
  ·have hge:k=l.length:=by have:=Wb h;omega
   subst hge
   have he:l=m:=List.ext_getElem hlen fun j h1 h2=>by
    have:=hsame j h1
    rwa [Zw h1,Zw h2] at this
   repeat(refine wkB ?_;intros)
   rw[Wc he]
   exact rtT rfl rfl
 ·simp only[We (show¬((l.length:Nat):Int)=((m.length:Nat):Int) by omega),Bool.not_false]
  repeat(refine wkB ?_;intros)
  rw[We (show¬l=m from fun h0=>hlen (by rw[h0]))]
  exact rtT rfl rfl
instance ZwV (w0:World)(L:List Blk)(v1 v2:Value)(l m:List PU)[h1:LstC w0 L v1 PU rP l][h2:LstC w0 L v2 PU rP m]:SpecM prog w0 L 22 [v1,v2] (.bool (decide (l=m))) (l.length<=1048576/\m.length<=1048576):=⟨fun hp w hw=>Ziw v1 v2 l m w (h1.out w hw) (h2.out w hw) hp⟩
end
section
theorem ZhM (v:Value)(l:List RW)(w:World)(hv:ArgS w v rRW l)(hs:∀u∈l,ShI u.In)(hl:l.length<=12):Calls prog 15 [v].toArray w (Ret (.int .i64 (chkV l)) w):=by
 have hto:∀(w0:World)(L:List Blk)(v:Value)(us:List RW) [h:LstC w0 L v RW rRW us],SpecR prog w0 L 63 [v] (SlS rRC 21 (mpN cvR us us.length)) (fun s=>vSl s) (fun s=>mS 145 s) (us.length<=1048576):=fun w0 L v us h=>⟨fun hl w hw=>Znv v us w (h.out w hw) hl⟩
 have hck:∀(w0:World)(L:List Blk)(v:Value) [h:LstN w0 L v RC rRC (mpN cvR l l.length)],SpecM prog w0 L 62 [vLabels,v] (.int .i64 (chkV l)) True:=fun w0 L v h=>⟨fun _ w hw=>by
  have h1:=h.out w hw
  rw[Zjn] at h1
  exact Zg7 v l w h1 (fun k=>h.nil (by rw[Zjn,k];rfl)) hs hl⟩
 have:=ArgC.mk hv
 refine Zb Tryz.func15 rfl Tryz.ntmps15 rfl ?_
 have hl1:l.length<=1048576:=by omega
 repeat(refine wkB ?_;intros)
 (refine ZH (.v [0,1,2] (.e1 3 (.e1 4 (.e1 5 (.fin))))) (([]:List Blk)) (h:=?_);refine wkX ?_)
 (repeat(refine wkH ?_))
 repeat(first|(refine wkT ?_;intros)|(refine tC rfl rfl ?_ ?_;focus(first|exact hl1|exact trivial))|(refine uC rfl rfl ?_ ?_;focus(first|exact hl1|exact trivial))|(refine eN rfl rfl ?_ ?_;(focus(first|exact hl1|exact trivial));intro _;(try simp only[Wf,Wg,Wh])))
 repeat(refine wkB ?_;intros)
 exact rtT rfl rfl
theorem Zrr {I J:Za}:(aprt J I=true->¬cl I.From J.To<0/\¬(cl I.From J.To=0/\I.OpenFrom=false/\J.OpenTo=false))/\(aprt J I=false->cl I.From J.To<0\/(cl I.From J.To=0/\I.OpenFrom=false/\J.OpenTo=false)):=by
 unfold aprt
 simp only[Zal,Zao,Bool.or_eq_true,Wq,decide_eq_true_eq,Bool.or_eq_false_iff,Bool.and_eq_false_iff,decide_eq_false_iff_not]
 have t:ri I.From<ri J.To\/ri I.From=ri J.To\/ri J.To<ri I.From:=by grind
 rcases t with h|h|h <;> grind
theorem ZiK (v:Value)(l:List RW)(w:World)(hv:ArgS w v rRW l)(hs:∀u∈l,ShI u.In)(hl:l.length<=12):Calls prog 16 [v].toArray w (Ret (.int .i64 (chkV l)) w):=by
 obtain⟨p,cp,rfl⟩:=hv.form
 refine Zb Tryz.func16 rfl Tryz.ntmps16 rfl ?_
 repeat(refine wkB ?_;intros)
 simp only[We (show¬(256:Int)<l.length by omega)]
 repeat(refine wkB ?_;intros)
 refine Zq (S:=Nat) (fun m=>m<=l.length/\scE (fIv l) m=0) (fun m=>[(0, .slice p l.length cp),(3, .int .i64 (m:Nat))]) (fun _=>[]) (fun m=>l.length-m) 0 ⟨Wm _,rfl⟩ sbB slB (fun m hm=>?_)
 obtain⟨hm,hsc⟩:=hm
 repeat(refine wkB ?_;intros)
 refine Zk rfl (fun hc=>?_) (fun hc=>?_)
 ·have hlt:m<l.length:=by have:=Wa hc;omega
  have hne:l≠[]:=fun h0=>by rw[h0] at hlt;simp at hlt
  obtain⟨b1,o1,c1',hv1,hc1,hr1⟩:=hv.blk (k:=20) hne []
  injection hv1 with e1 e2 e3
  subst e1
  subst e3
  have hr1':∀L,RowC w L b1 o1 RW rRW l:=fun L=>⟨fun w' hw'=>hr1.out w' (hw'.sub (Wk _))⟩
  have p1:ShI (gi l (m:Int)).In:=ZfB hs hlt
  have p1a:=p1.a
  have p1b:=p1.b
  repeat(first|(refine wkB ?_;intros)|(refine wnM ?_ ?_;(focus(first|exact p1a|exact p1b));intros))
  by_cases h1:rlb (gi l (m:Int)).In.From=true
  ·simp only[h1,Bool.not_true]
   repeat(first|(refine wkB ?_;intros)|(refine wnM ?_ ?_;(focus(first|exact p1a|exact p1b));intros))
   by_cases h2:rlb (gi l (m:Int)).In.To=true
   ·simp only[h2,Bool.not_true]
    obtain⟨I,eI,k1,k2⟩:=ZpG ⟨Zaz.1 h1,Zaz.1 h2⟩
    have kI:IvOk 1000 I:=Zfb (by rw[<-eI];exact p1) k1 k2
    have eF:fIv l m=Zf I:=eI
    have hii:SpecC prog 65 [.agg (Zh (gi l (m:Int)).In)] (.bool (@decide (okI I) (Classical.propDecidable _))) True:=⟨fun _ w=>by
     rw[eI]
     exact(Zo7 I).out kI w⟩
    repeat(first|(refine wkB ?_;intros)|(refine wnM ?_ ?_;(focus(exact trivial));intros))
    by_cases ho:okI I
    ·simp only[@Wc _ (Classical.propDecidable _) ho,Bool.not_true]
     have hi':ivE (fIv l m)=0:=by rw[eF];exact(Zky k1 k2).1 ho
     repeat(refine wkB ?_;intros)
     rcases Nat.eq_zero_or_pos m with h0|h0
     ·subst h0
      simp only[show decide (((0:Nat):Int)=0)=true from rfl]
      repeat(refine wkB ?_;intros)
      exact Zg 1 ⟨hlt,ZbU hsc (ZlO hi')⟩ sbB slB (by omega)
     ·simp only[We (show¬((m:Nat):Int)=0 by omega)]
      have em:((m-1:Nat):Int)=(m:Int)-1:=by omega
      obtain⟨J,eJ0,hJo,kJ⟩:=Zk2 (Zl8 hsc (i:=m-1) (by omega)) (ZfB hs (by omega))
      have eJ:(gi l ((m:Int)-1)).In=Zf J:=by rw[<-em];exact eJ0
      have hcm:SpecC prog 29 [.agg (Zc (gi l (m:Int)).In.From), .agg (Zc (gi l ((m:Int)-1)).In.To)] (.int .i64 (cl I.From J.To)) True:=⟨fun _ w=>by
       rw[eI,eJ]
       exact(ZoL I.From J.To).out ⟨(kI.mono (by decide)).a,(kJ.mono (by decide)).b⟩ w⟩
      have eo1:(gi l (m:Int)).In.OpenFrom=I.OpenFrom:=by rw[eI];rfl
      have eo2:(gi l ((m:Int)-1)).In.OpenTo=J.OpenTo:=by rw[eJ];rfl
      obtain⟨ua,ub⟩:=ZlA hi' h0
      rw[eJ0,eF,Zpz] at ua ub
      obtain⟨d1,d2⟩:=Zrr (I:=I) (J:=J)
      repeat(first|(refine wkB ?_;intros)|(refine wnM ?_ ?_;(focus(exact trivial));intros))
      cases hb:aprt J I with
      |true=>
       obtain⟨d3,d4⟩:=d1 hb
       simp only[We d3]
       repeat(refine wkB ?_;intros)
       by_cases hz:cl I.From J.To=0
       ·simp only[Wc hz]
        repeat(refine wkB ?_;intros)
        simp only[eo1,eo2]
        cases o1:I.OpenFrom with
        |true=>
         simp only[Bool.not_true]
         repeat(refine wkB ?_;intros)
         exact Zg (m+1) ⟨hlt,ZbU hsc (ua hb)⟩ sbB slB (by omega)
        |false=>
         simp only[Bool.not_false]
         repeat(refine wkB ?_;intros)
         try simp only[eo2]
         cases o2:J.OpenTo with
         |true=>
          simp only[Bool.not_true]
          repeat(refine wkB ?_;intros)
          exact Zg (m+1) ⟨hlt,ZbU hsc (ua hb)⟩ sbB slB (by omega)
         |false=>exact absurd ⟨hz,o1,o2⟩ d4
       ·simp only[We hz]
        repeat(refine wkB ?_;intros)
        exact Zg (m+1) ⟨hlt,ZbU hsc (ua hb)⟩ sbB slB (by omega)
      |false=>
       have hfin:7=chkV l:=by rw[<-Zcw hsc (by rw[ub hb];decide) hlt,ub hb]
       by_cases hz:cl I.From J.To<0
       ·simp only[Wc hz]
        repeat(refine wkB ?_;intros)
        rw[<-hfin]
        exact rtT rfl rfl
       ·obtain⟨z1,z2,z3⟩:=(d2 hb).resolve_left hz
        simp only[We hz]
        repeat(refine wkB ?_;intros)
        simp only[Wc z1]
        repeat(refine wkB ?_;intros)
        simp only[eo1,z2,Bool.not_false]
        repeat(refine wkB ?_;intros)
        simp only[eo2,z3,Bool.not_false]
        repeat(refine wkB ?_;intros)
        rw[<-hfin]
        exact rtT rfl rfl
    ·simp only[@We _ (Classical.propDecidable _) ho,Bool.not_false]
     repeat(refine wkB ?_;intros)
     have hE:ivE (fIv l m)=10:=by rw[eF];exact(Zky k1 k2).2 ho
     rw[<-Zcw hsc (by rw[Zcg (by omega)];omega) hlt,Zcg (by omega),hE]
     exact rtT rfl rfl
   ·have h2':rlb (gi l (m:Int)).In.To=false:=by simpa using h2
    simp only[h2',Bool.not_false]
    repeat(refine wkB ?_;intros)
    have hE:ivE (fIv l m)=5:=Zfl fun k=>h2 (Zaz.2 k.2)
    rw[<-Zcw hsc (by rw[Zcg (by omega)];omega) hlt,Zcg (by omega),hE]
    exact rtT rfl rfl
  ·have h1':rlb (gi l (m:Int)).In.From=false:=by simpa using h1
   simp only[h1',Bool.not_false]
   repeat(refine wkB ?_;intros)
   have hE:ivE (fIv l m)=5:=Zfl fun k=>h1 (Zaz.2 k.1)
   rw[<-Zcw hsc (by rw[Zcg (by omega)];omega) hlt,Zcg (by omega),hE]
   exact rtT rfl rfl
 ·have hge:m=l.length:=by have:=Wb hc;omega
  subst hge
  obtain⟨us,hr⟩:=ZgI hs hsc
  obtain⟨c1,c2⟩:=Zko hsc hr
  have hnf:=ZtE hr
  have hl2:l.length=us.length:=by rw[hr.e,Ws]
  have e1:=hr.e
  rw[e1] at hv
  have hv2:ArgS w _ rP us:=ZhS (enc:=rRW) (g:=Zl) hv
  rw[<-e1] at hv2
  have:=ArgC.mk hv2
  have q1:us.length<=1048576:=by omega
  have q2:(jnL us us.length).length<=1048576/\us.length<=1048576:=⟨by have:=Zev us us.length;omega,q1⟩
  repeat(first|(refine wkB ?_;intros)|(refine wnM ?_ ?_;(focus(first|exact q1|exact q2));intros))
  by_cases hE:jnL us us.length=us
  ·simp only[Wc hE,Bool.not_true]
   repeat(refine wkB ?_;intros)
   rw[c1 (hnf.1 hE)]
   exact rtT rfl rfl
  ·simp only[We hE,Bool.not_false]
   repeat(refine wkB ?_;intros)
   rw[c2 (fun k=>hE (hnf.2 k))]
   exact rtT rfl rfl
end
section
theorem ZpQ (s:WS):Dsc (ivS s).From/\Dsc (ivS s).To:=by
 unfold ivS
 split
 ·exact⟨⟨_,rfl⟩,⟨_,rfl⟩⟩
 ·split <;> exact⟨⟨_,rfl⟩,⟨_,rfl⟩⟩
theorem Zja (l:List St):∀m,∀i∈inS l m,Dsc i.From/\Dsc i.To
 |0,i,hi=>by cases hi
 |m+1,i,hi=>by
  rw[inS,Wv,Wo] at hi
  rcases hi with hi|rfl
  ·exact Zja l m i hi
  ·exact ZpQ _
theorem Zol (l:List St):DscL (movV l):=fun u hu=>by
 have h1:∀i∈insV l,Dsc i.From/\Dsc i.To:=Zja l _
 have h2:∀i∈celV l,Dsc i.From/\Dsc i.To:=Zmu (Zhe h1) (ZgX h1)
 exact ZkE (Pr:=Dsc) (fun u hu=>h2 _ (ZfO u hu)) _ (Wl _) u hu
theorem ZjM {l:List St}{ins cs:List Za}:∀i,∀u∈mvS l ins cs i,Lb u.Label
 |0,u,hu=>by cases hu
 |i+1,u,hu=>by
  have ih:=ZjM (l:=l) (ins:=ins) (cs:=cs) i
  rw[mvS] at hu
  unfold mv1 at hu
  split at hu
  ·rename_i k _
   rw[Wv,Wo] at hu
   rcases hu with hu|rfl
   ·exact ih u hu
   ·show-1000<=(gi l (k:Int)).Label % 5/\(gi l (k:Int)).Label % 5<=1000
    omega
  ·exact ih u hu
theorem ZjH {l:List PU}(h:∀u∈l,Lb u.Label):∀i,i<=l.length->∀u∈jnL l i,Lb u.Label
 |0,_,u,hu=>by cases hu
 |i+1,hi,u,hu=>by
  have ih:=ZjH h i (by omega)
  have h1:=h (gi l (i:Int)) (ZA (by omega))
  rw[jnL] at hu
  unfold jn1 at hu
  split at hu
  ·rename_i hc
   rcases List.mem_or_eq_of_mem_set hu with hu|rfl
   ·exact ih u hu
   ·exact ih (lstP (jnL l i)) (ZA (by omega))
  ·rw[Wv,Wo] at hu
   rcases hu with hu|rfl
   ·exact ih u hu
   ·exact h1
theorem Zrc {l:List St}(hk:∀x∈l,StOk x):MvP (movV l):=⟨Zqc hk,Zol l,ZjH (ZjM _) _ (Wl _)⟩
end
end Go.Vt
