/- that a label follows another one where the units say so (part 23 of 25.) Conditions: those that each statement names. -/
import Derived.Test.YtcgkgdgpdpihmaaGreatDoorProg
import Derived.Test.YtcgkgdgpdpihmaaGreatDoorKF21
import Derived.Test.YtcgkgdgpdpihmaaGreatDoorKF22
set_option linter.unusedSimpArgs false
set_option linter.unusedVariables false
set_option maxHeartbeats 2000000
set_option maxRecDepth 100000
namespace Go.Vt
open Go.RowKit Go.Proofs
open Go.Proofs.Tryz (prog)
abbrev e2B (a b:Int):Array Value:=row (eI .u8) [a,b] []
instance (priority :=high) Zxh {w0:World}{n:Nat}{L:List Blk}{E:Env}{T T0:TypeId}{x:Operand}{b:Nat}{i a1 a2:Int}[IsC (evl E x) (.pointer (some ⟨b,0+i.toNat*1,none⟩))][h:AtC w0 L b (row (eI .u8) [a1,a2] []) T0][hv:LdC prog T (eI .u8 (gi [a1,a2] i)) 0 (.int .u8 (gi [a1,a2] i))]:YsC prog w0 n L E (.load T x) (.int .u8 (gi [a1,a2] i)) (0<=i/\i<2):=⟨fun hi=>ZeV.out (by show i.toNat<2;omega)⟩
theorem ZnO (l:List St):NB (movV l):=Zj2 _ _
set_option maxHeartbeats 32000000 in
theorem lfollows_spec (v1 v2:Value)(l1 l2:List St)(k0 k1:Int)(h1:0<=k0/\k0<=255)(h2:0<=k1/\k1<=255)(w:World)(hv1:ArgS w v1 rSt l1)(hv2:ArgS w v2 rSt l2)(hl1:l1.length<=9223372036854775807)(hl2:l2.length<=9223372036854775807)(hk1:∀x∈l1,StOk x)(hk2:∀x∈l2,StOk x):
  Calls prog 5 [v1,v2, .agg (e2B k0 k1)].toArray w (Ret (.bool true) w):=by
 have:=ArgC.mk hv1
 have:=ArgC.mk hv2
 have h1':0<=gi [k0,k1] 0/\gi [k0,k1] 0<=255:=h1
 have h2':0<=gi [k0,k1] 1/\gi [k0,k1] 1<=255:=h2
 have hn1:=ZnO l1
 have hm1:=Zf2 l1
 have hm2:=Zf2 l2
 refine Zb Tryz.func5 rfl Tryz.ntmps5 rfl ?_
 repeat(first|(refine wkB ?_;intros)|(refine wnM ?_ ?_;(focus(first|exact⟨hl1,hk1⟩|exact⟨hl2,hk2⟩));intros))
 rename_i b5 r1 r2
 generalize movV l1=l at*
 generalize movV l2=m at*
 have hl:l.length<=1048576:=by omega
 refine ZT (S:=Unit) (fun _=>True) (fun _=>[(6, .bool false),(7,vSl r1),(8,vSl r2),(9, .int .i64 (gi [k0,k1] 0 % 6)),(10, .int .i64 (gi [k0,k1] 1 % 6))]) (fun _=>mS 46 r2++mS 46 r1) ?_ (fun _ _=>?_)
 ·(refine ZE (.v [0,1,2,3,4,5,6,7] (.e1 8 (.e1 9 (.fin)))) ([⟨b5,e2B k0 k1,58⟩]) (h:=?_);refine wkX ?_)
  repeat' (first|(with_reducible refine And.intro ?_ ?_)|(with_reducible exact True.intro)|(refine wkT ?_;intros)|(refine tC rfl rfl ?_ ?_;focus(exact⟨by omega,by omega⟩))|(refine uC rfl rfl ?_ ?_;focus(exact⟨by omega,by omega⟩))|(refine eN rfl rfl ?_ ?_;(focus(exact⟨by omega,by omega⟩));intro _;(try simp only[Wf,Wg,Wh]))|fail)
  all_goals exact Zh () trivial sbB suB
 generalize gi [k0,k1] 0 % 6=x at*
 generalize gi [k0,k1] 1 % 6=y at*
 repeat(first|(refine wkB ?_;intros)|(refine wnM ?_ ?_;(focus(exact hl));intros))
 rename_i s3
 refine Zaw (S:=SlS Zq 9 (wnL l x y (l.length-1))) (fun _=>True) (fun o=>[(6, .bool false),(7,vSl r1),(8,vSl r2),(11,vSl s3),(12,vSl o)]) (fun o=>mS 35 o++(mS 35 s3++(mS 46 r2++mS 46 r1))) ?_ (fun o _=>?_)
 ·refine Zp (S:=(_:Nat)×(o:List Rl)×SlS Zq 9 o) (fun q=>q.1<=l.length-1/\q.2.1=wnL l x y q.1) (fun q=>[(6, .bool false),(7,vSl r1),(8,vSl r2),(9, .int .i64 x),(10, .int .i64 y),(11,vSl s3),(12,vSl q.2.2),(13, .int .i64 ((q.1:Nat):Int))]) (fun q=>mS 35 q.2.2++(mS 35 s3++(mS 46 r2++mS 46 r1))) (fun q=>l.length-q.1) ⟨0,[],SlS.no⟩ ⟨Wm _,rfl⟩ sbB suB (fun q hq=>?_)
  obtain⟨i,out,o⟩:=q
  obtain⟨hq,ho⟩:=hq
  dsimp only at hq ho⊢
  have hln:out.length<=i:=by rw[ho];exact ZhM l x y i
  have hend:i=l.length-1->out=wnL l x y (l.length-1):=fun h=>by rw[ho,h]
  have hnxt:(if wnB (gi l (i:Int)) (gi l ((i+1:Nat):Int)) x y=true then out++[(gi l ((i+1:Nat):Int)).In.From] else out)=wnL l x y (i+1):=by rw[ho];rfl
  clear ho
  have e3:(i:Int)+1=((i+1:Nat):Int):=by omega
  repeat(first|(refine wkB ?_;intros)|(refine wnM ?_ ?_;(focus(exact⟨by omega,by omega⟩));intros))
  refine Zi rfl (fun h=>?_) (fun h=>?_)
  ·have hlt:i+1<l.length:=by have:=Wa h;omega
   rcases r1.cases 46 with⟨y0,y1,y2⟩|⟨br,cr,sp,hcr,y1,y2,yne⟩
   ·rw[y0] at hlt;cases hlt
   simp only[y1,y2]
   repeat(refine wkB ?_;intros)
   (refine ZbJ [0,1,2,3,4,5,6,7,8] [9,10] [11,12] ([⟨br,row rP l sp,46⟩]) (h:=?_);refine wkI ?_)
   (repeat(first|refine wkH ?_|(refine tC rfl rfl ?_ ?_;focus(exact⟨by omega,by omega⟩))))
   simp only[e3]
   (repeat(refine wkH ?_))
   repeat(refine wkT ?_;intros)
   repeat(refine wkB ?_;intros)
   by_cases c0:x=y
   ·simp only[Wc c0,Bool.not_true]
    repeat(refine wkB ?_;intros)
    have hf:wnB (gi l (i:Int)) (gi l ((i+1:Nat):Int)) x y=false:=Bool.eq_false_iff.2 fun g=>by
     obtain⟨g0,g1,g2,g3,g4,g5,g6⟩:=ZaN.1 g
     first|exact g0 c0|exact g1 c1|exact g2 c2|exact c3 g3|exact g4 ⟨c4,c4b⟩|exact c5 g5|exact c6 g6
    rw[hf] at hnxt
    simp only[Bool.false_eq_true,if_false] at hnxt
    repeat(first|(refine wkB ?_;intros)|(refine wnM ?_ ?_;(focus(exact⟨by omega,by omega⟩));intros))
    simp only[e3]
    exact Zf ⟨i+1,_,o⟩ ⟨by show i+1<=l.length-1;omega,hnxt⟩ sbB suB (by show l.length-(i+1)<l.length-i;omega)
   ·simp only[We c0,Bool.not_false]
    repeat(refine wkB ?_;intros)
    by_cases c5:(gi l (i:Int)).Label=x
    ·simp only[Wc c5]
     repeat(refine wkB ?_;intros)
     by_cases c6:(gi l ((i+1:Nat):Int)).Label=y
     ·simp only[Wc c6]
      repeat(refine wkB ?_;intros)
      by_cases c3:(gi l (i:Int)).In.To=(gi l ((i+1:Nat):Int)).In.From
      ·simp only[Wc c3]
       repeat(refine wkB ?_;intros)
       cases c4:(gi l (i:Int)).In.OpenTo with
       |false=>
        repeat(refine wkB ?_;intros)
        by_cases c1:(gi l (i:Int)).In.From=(gi l (i:Int)).In.To
        ·simp only[Wc c1,Bool.not_true]
         repeat(refine wkB ?_;intros)
         have hf:wnB (gi l (i:Int)) (gi l ((i+1:Nat):Int)) x y=false:=Bool.eq_false_iff.2 fun g=>by
          obtain⟨g0,g1,g2,g3,g4,g5,g6⟩:=ZaN.1 g
          first|exact g0 c0|exact g1 c1|exact g2 c2|exact c3 g3|exact g4 ⟨c4,c4b⟩|exact c5 g5|exact c6 g6
         rw[hf] at hnxt
         simp only[Bool.false_eq_true,if_false] at hnxt
         repeat(first|(refine wkB ?_;intros)|(refine wnM ?_ ?_;(focus(exact⟨by omega,by omega⟩));intros))
         simp only[e3]
         exact Zf ⟨i+1,_,o⟩ ⟨by show i+1<=l.length-1;omega,hnxt⟩ sbB suB (by show l.length-(i+1)<l.length-i;omega)
        ·simp only[We c1,Bool.not_false]
         repeat(refine wkB ?_;intros)
         by_cases c2:(gi l ((i+1:Nat):Int)).In.From=(gi l ((i+1:Nat):Int)).In.To
         ·simp only[Wc c2,Bool.not_true]
          repeat(refine wkB ?_;intros)
          have hf:wnB (gi l (i:Int)) (gi l ((i+1:Nat):Int)) x y=false:=Bool.eq_false_iff.2 fun g=>by
           obtain⟨g0,g1,g2,g3,g4,g5,g6⟩:=ZaN.1 g
           first|exact g0 c0|exact g1 c1|exact g2 c2|exact c3 g3|exact g4 ⟨c4,c4b⟩|exact c5 g5|exact c6 g6
          rw[hf] at hnxt
          simp only[Bool.false_eq_true,if_false] at hnxt
          repeat(first|(refine wkB ?_;intros)|(refine wnM ?_ ?_;(focus(exact⟨by omega,by omega⟩));intros))
          simp only[e3]
          exact Zf ⟨i+1,_,o⟩ ⟨by show i+1<=l.length-1;omega,hnxt⟩ sbB suB (by show l.length-(i+1)<l.length-i;omega)
         ·simp only[We c2,Bool.not_false]
          repeat(refine wkB ?_;intros)
          have hf:wnB (gi l (i:Int)) (gi l ((i+1:Nat):Int)) x y=true:=ZaN.2 ⟨c0,c1,c2,c3,(fun g=>by first|exact Bool.noConfusion (g.1.symm.trans c4)|exact Bool.noConfusion (g.2.symm.trans c4b)),c5,c6⟩
          rw[hf] at hnxt
          simp only[if_true] at hnxt
          repeat(refine wkB ?_;intros)
          refine sU (k:=9) (enc:=Zq) (s:=o) rfl rfl ?_ ?_ ?_ ?_
          ·rfl
          ·rfl
          ·exact⟨by decide,by omega,by omega⟩
          intro s'
          repeat(first|(refine wkB ?_;intros)|(refine wnM ?_ ?_;(focus(exact⟨by omega,by omega⟩));intros))
          simp only[e3]
          exact Zf ⟨i+1,_,s'⟩ ⟨by show i+1<=l.length-1;omega,hnxt⟩ sbB suB (by show l.length-(i+1)<l.length-i;omega)
       |true=>
        repeat(refine wkB ?_;intros)
        cases c4b:(gi l ((i+1:Nat):Int)).In.OpenFrom with
        |false=>
         repeat(refine wkB ?_;intros)
         by_cases c1:(gi l (i:Int)).In.From=(gi l (i:Int)).In.To
         ·simp only[Wc c1,Bool.not_true]
          repeat(refine wkB ?_;intros)
          have hf:wnB (gi l (i:Int)) (gi l ((i+1:Nat):Int)) x y=false:=Bool.eq_false_iff.2 fun g=>by
           obtain⟨g0,g1,g2,g3,g4,g5,g6⟩:=ZaN.1 g
           first|exact g0 c0|exact g1 c1|exact g2 c2|exact c3 g3|exact g4 ⟨c4,c4b⟩|exact c5 g5|exact c6 g6
          rw[hf] at hnxt
          simp only[Bool.false_eq_true,if_false] at hnxt
          repeat(first|(refine wkB ?_;intros)|(refine wnM ?_ ?_;(focus(exact⟨by omega,by omega⟩));intros))
          simp only[e3]
          exact Zf ⟨i+1,_,o⟩ ⟨by show i+1<=l.length-1;omega,hnxt⟩ sbB suB (by show l.length-(i+1)<l.length-i;omega)
         ·simp only[We c1,Bool.not_false]
          repeat(refine wkB ?_;intros)
          by_cases c2:(gi l ((i+1:Nat):Int)).In.From=(gi l ((i+1:Nat):Int)).In.To
          ·simp only[Wc c2,Bool.not_true]
           repeat(refine wkB ?_;intros)
           have hf:wnB (gi l (i:Int)) (gi l ((i+1:Nat):Int)) x y=false:=Bool.eq_false_iff.2 fun g=>by
            obtain⟨g0,g1,g2,g3,g4,g5,g6⟩:=ZaN.1 g
            first|exact g0 c0|exact g1 c1|exact g2 c2|exact c3 g3|exact g4 ⟨c4,c4b⟩|exact c5 g5|exact c6 g6
           rw[hf] at hnxt
           simp only[Bool.false_eq_true,if_false] at hnxt
           repeat(first|(refine wkB ?_;intros)|(refine wnM ?_ ?_;(focus(exact⟨by omega,by omega⟩));intros))
           simp only[e3]
           exact Zf ⟨i+1,_,o⟩ ⟨by show i+1<=l.length-1;omega,hnxt⟩ sbB suB (by show l.length-(i+1)<l.length-i;omega)
          ·simp only[We c2,Bool.not_false]
           repeat(refine wkB ?_;intros)
           have hf:wnB (gi l (i:Int)) (gi l ((i+1:Nat):Int)) x y=true:=ZaN.2 ⟨c0,c1,c2,c3,(fun g=>by first|exact Bool.noConfusion (g.1.symm.trans c4)|exact Bool.noConfusion (g.2.symm.trans c4b)),c5,c6⟩
           rw[hf] at hnxt
           simp only[if_true] at hnxt
           repeat(refine wkB ?_;intros)
           refine sU (k:=9) (enc:=Zq) (s:=o) rfl rfl ?_ ?_ ?_ ?_
           ·rfl
           ·rfl
           ·exact⟨by decide,by omega,by omega⟩
           intro s'
           repeat(first|(refine wkB ?_;intros)|(refine wnM ?_ ?_;(focus(exact⟨by omega,by omega⟩));intros))
           simp only[e3]
           exact Zf ⟨i+1,_,s'⟩ ⟨by show i+1<=l.length-1;omega,hnxt⟩ sbB suB (by show l.length-(i+1)<l.length-i;omega)
        |true=>
         repeat(refine wkB ?_;intros)
         have hf:wnB (gi l (i:Int)) (gi l ((i+1:Nat):Int)) x y=false:=Bool.eq_false_iff.2 fun g=>by
          obtain⟨g0,g1,g2,g3,g4,g5,g6⟩:=ZaN.1 g
          first|exact g0 c0|exact g1 c1|exact g2 c2|exact c3 g3|exact g4 ⟨c4,c4b⟩|exact c5 g5|exact c6 g6
         rw[hf] at hnxt
         simp only[Bool.false_eq_true,if_false] at hnxt
         repeat(first|(refine wkB ?_;intros)|(refine wnM ?_ ?_;(focus(exact⟨by omega,by omega⟩));intros))
         simp only[e3]
         exact Zf ⟨i+1,_,o⟩ ⟨by show i+1<=l.length-1;omega,hnxt⟩ sbB suB (by show l.length-(i+1)<l.length-i;omega)
      ·simp only[We c3]
       repeat(refine wkB ?_;intros)
       have hf:wnB (gi l (i:Int)) (gi l ((i+1:Nat):Int)) x y=false:=Bool.eq_false_iff.2 fun g=>by
        obtain⟨g0,g1,g2,g3,g4,g5,g6⟩:=ZaN.1 g
        first|exact g0 c0|exact g1 c1|exact g2 c2|exact c3 g3|exact g4 ⟨c4,c4b⟩|exact c5 g5|exact c6 g6
       rw[hf] at hnxt
       simp only[Bool.false_eq_true,if_false] at hnxt
       repeat(first|(refine wkB ?_;intros)|(refine wnM ?_ ?_;(focus(exact⟨by omega,by omega⟩));intros))
       simp only[e3]
       exact Zf ⟨i+1,_,o⟩ ⟨by show i+1<=l.length-1;omega,hnxt⟩ sbB suB (by show l.length-(i+1)<l.length-i;omega)
     ·simp only[We c6]
      repeat(refine wkB ?_;intros)
      have hf:wnB (gi l (i:Int)) (gi l ((i+1:Nat):Int)) x y=false:=Bool.eq_false_iff.2 fun g=>by
       obtain⟨g0,g1,g2,g3,g4,g5,g6⟩:=ZaN.1 g
       first|exact g0 c0|exact g1 c1|exact g2 c2|exact c3 g3|exact g4 ⟨c4,c4b⟩|exact c5 g5|exact c6 g6
      rw[hf] at hnxt
      simp only[Bool.false_eq_true,if_false] at hnxt
      repeat(first|(refine wkB ?_;intros)|(refine wnM ?_ ?_;(focus(exact⟨by omega,by omega⟩));intros))
      simp only[e3]
      exact Zf ⟨i+1,_,o⟩ ⟨by show i+1<=l.length-1;omega,hnxt⟩ sbB suB (by show l.length-(i+1)<l.length-i;omega)
    ·simp only[We c5]
     repeat(refine wkB ?_;intros)
     have hf:wnB (gi l (i:Int)) (gi l ((i+1:Nat):Int)) x y=false:=Bool.eq_false_iff.2 fun g=>by
      obtain⟨g0,g1,g2,g3,g4,g5,g6⟩:=ZaN.1 g
      first|exact g0 c0|exact g1 c1|exact g2 c2|exact c3 g3|exact g4 ⟨c4,c4b⟩|exact c5 g5|exact c6 g6
     rw[hf] at hnxt
     simp only[Bool.false_eq_true,if_false] at hnxt
     repeat(first|(refine wkB ?_;intros)|(refine wnM ?_ ?_;(focus(exact⟨by omega,by omega⟩));intros))
     simp only[e3]
     exact Zf ⟨i+1,_,o⟩ ⟨by show i+1<=l.length-1;omega,hnxt⟩ sbB suB (by show l.length-(i+1)<l.length-i;omega)
  ·have hge:i=l.length-1:=by have:=Wb h;omega
   obtain⟨s',f1,f2⟩:=SlS.turn 35 (hend hge) o
   repeat(refine wkB ?_;intros)
   exact Zh s' trivial (by rw[f1];exact sbB) (by rw[f2];exact suB)
 obtain⟨o,f1,f2⟩:=SlS.turn 35 (Zmz hn1 (x:=x) (y:=y) _ (Wl _)) o
 simp only[<-f1,<-f2]
 have hfl:=ZeO l x y (l.length-1)
 generalize flL l x y (l.length-1)=fs at*
 have q1:l.length<=1048576/\m.length<=1048576:=⟨by omega,by omega⟩
 have q2:l.length<=1048576/\l.length<=1048576:=⟨by omega,by omega⟩
 repeat(first|(refine wkB ?_;intros)|(refine wnM ?_ ?_;(focus(first|exact q1|exact q2));intros))
 simp only[Wc (rfl:((fs.length:Nat):Int)=(fs.length:Nat)),Bool.not_true]
 repeat(first|(refine wkB ?_;intros)|(refine wnM ?_ ?_;(focus(first|exact q1|exact q2));intros))
 generalize decide (l=m)=z
 have hz:(!decide (z=z))=false:=by simp
 try simp only[hz,bne_self_eq_false]
 repeat(first|(refine wkB ?_;intros)|(refine wnM ?_ ?_;(focus(first|exact q1|exact q2));intros))
 simp only[Wc (rfl:l=l),Bool.not_true]
 repeat(first|(refine wkB ?_;intros)|(refine wnM ?_ ?_;(focus(first|exact q1|exact q2));intros))
 refine Zp (S:=Nat) (fun k=>k<=fs.length) (fun k=>[(11,vSl s3),(12,vSl o),(16, .int .i64 (k:Nat))]) (fun _=>mS 35 o++mS 35 s3) (fun k=>fs.length-k) 0 (Wm _) sbB suB (fun k hk=>?_)
 repeat(refine wkB ?_;intros)
 refine Zi rfl (fun h=>?_) (fun h=>?_)
 ·have hlt:k<fs.length:=by have:=Wa h;omega
  rcases s3.cases 35 with⟨y0,y1,y2⟩|⟨ba,ca,spa,hca,y1,y2,yne⟩
  ·rw[y0] at hlt;cases hlt
  rcases o.cases 35 with⟨z0,z1,z2⟩|⟨bb,cb,spb,hcb,z1,z2,zne⟩
  ·rw[z0] at hlt;cases hlt
  simp only[y1,y2,z1,z2,Wf,Wg]
  repeat(refine wkB ?_;intros)
  refine jD 9 9 (h:=?_)
  (repeat(refine wkH ?_))
  refine Zo ?_
  refine Zr ?_
  simp only[Wc (rfl:gi fs (k:Int)=gi fs (k:Int)),Bool.not_true]
  repeat(first|(refine wkB ?_;intros)|(refine wnM ?_ ?_;(focus(exact⟨by omega,by omega⟩));intros))
  exact Zf (k+1) hlt (by(try simp only[y1,z1]);exact sbB) (by(try simp only[y2,z2,Wf,Wg]);exact suB) (by omega)
 ·repeat(refine wkB ?_;intros)
  exact rtT rfl rfl
end Go.Vt
namespace Go.Proofs.YtcgkgdgpdpihmaaGreatDoor
open Go.ChangeShapes Go.WideShapes Go.ChangeAt Go.RowKit Go.Deep
def folArgs :Array Value:=#[.slice none 0 0, .slice none 0 0, .agg #[.int .u8 0, .int .u8 0]]
theorem bunder58 :Tryz.prog.underlying 58=some (.array 2 5):=by kernel_rfl
theorem Zkm {H:Type}{enc:TypeId×Value->H}{P:Program}{W:World}{base fuel:Nat}{sp:Nat->Bool}{held:Bool}{t e:TypeId}{a b:Value}{x:DataW H×List MemPlace}(ht:P.underlying t=some (.array 2 e))(hc:P.cellsOf e=1)(h:DataW.trod enc P W base sp held fuel t [a,b]=some x):
  ∃y z k,DataW.trod enc P W base sp held k e [a]=some y/\DataW.trod enc P W base sp held k e [b]=some z:=by
 match fuel with
 |0=>simp[DataW.trod] at h
 |k+1=>
  unfold DataW.trod at h
  rw[ht] at h
  simp[show List.range 2=[0,1] from rfl,hc] at h
  obtain⟨-,h⟩:=h
  rcases ha:DataW.trod enc P W base sp held k e [a] with _|y
  ·simp[ha] at h
  ·rcases hb:DataW.trod enc P W base sp held k e [b] with _|z
   ·simp[ha,hb] at h
   ·exact⟨y,z,k,ha,hb⟩
theorem Zlf {H:Type}{enc:TypeId×Value->H}{W:World}{base b0:Nat}{r:Reach}{held:Bool}{v:Value}{d:DataW H}{p:List MemPlace}(hv:Value.okWide Tryz.prog W r b0 58 v)(h:DataW.Trod enc Tryz.prog W base (fun _=>true) held 58 v d p):
  ∃a1 a2:Int,v= .agg (Go.Vt.e2B a1 a2)/\(0<=a1/\a1<=255)/\(0<=a2/\a2<=255):=by
 simp only[Value.okWide,bunder58] at hv
 obtain⟨cs,rfl,hs,_⟩:=hv
 have h3:cs.size=2:=by rw[hs];kernel_rfl
 obtain⟨fuel,hf⟩:=h
 match cs,h3 with
 |⟨[c0,c1]⟩,_=>
  simp only[Value.cells] at hf
  obtain⟨y0,y1,n,g0,g1⟩:=Zkm bunder58 (by kernel_rfl) hf
  obtain⟨n0,p0,_,q0⟩:=DataW.trod_int Tryz.underlying5 g0
  obtain⟨n1,p1,_,q1⟩:=DataW.trod_int Tryz.underlying5 g1
  simp only[List.cons.injEq,and_true] at p0 p1
  subst p0;subst p1
  exact⟨n0,n1,rfl,Zc0 q0,Zc0 q1⟩
theorem Zkg (os:Os){H:Type}(enc:TypeId×Value->H):∃places,DataW.whole enc Tryz.prog ((laidWorld os).forCall (fun _ _=>0) ⟨#[],folArgs,[]⟩).memory Tryz.f5.params.toList Rows.movinglabelFollowsSpec.vars false folArgs.toList 8=some ([.nil, .nil, .agg [.lit (.int .u8 0), .lit (.int .u8 0)]],[],places):=
 ⟨[],by kernel_rfl⟩
theorem Zgt (H:Type)(enc:TypeId×Value->H)(W:World)(base:Nat)(args:Array Value)(ds gs:List (DataW H))(before:List MemPlace)
  (hval:∀(j:Nat) t v,Tryz.f5.params[j]? =some t->args[j]? =some v->Value.okWide Tryz.prog W .any base t v)
  (hW:DataW.Whole enc Tryz.prog Tryz.f5.params.toList Rows.movinglabelFollowsSpec.vars false W args.toList ds gs before):
  Calls Tryz.prog 5 args W fun e W'=>∃v,e= .returned v/\Rows.movinglabelFollowsSpec.post enc Tryz.prog Tryz.f5 false true false false W args v W':=by
 have hW':=hW
 obtain⟨p,q,hA0,hV,rfl,hfz,hnd⟩:=hW
 have hA:DataW.TrodAll enc Tryz.prog W 0 (fun _=>true) true Tryz.f5.params.toList args.toList ds p:=hA0
 rw[Tryz.params5] at hA hval
 obtain⟨v0,vs0,d0,ds0,p0,q0,hargs,rfl,rfl,h0,r0⟩:=trodAll_cons hA
 obtain⟨v1,vs1,d1,ds1,p1,q1,hargs1,rfl,rfl,h1,r1⟩:=trodAll_cons r0
 obtain⟨v2,vs2,d2,ds2,p2,q2,hargs2,rfl,rfl,h2,r2⟩:=trodAll_cons r1
 subst hargs2
 subst hargs1
 obtain⟨rfl,rfl,rfl⟩:=trodAll_nil r2
 obtain rfl:args=#[v0,v1,v2]:=by cases args;simp_all
 obtain⟨rfl,rfl⟩:=trodVars_none hV
 clear hA0
 simp only[List.append_nil] at hW'
 have hlt:∀x∈p0++(p1++p2),x.block<W.heap.size:=fun x hx=>by simpa using hW'.lt x hx
 obtain⟨a1,a2,rfl,g1,g2⟩:=Zlf (hval 2 58 v2 rfl rfl) h2
 have h0k:=h0
 have h1k:=h1
 have h2k:=h2
 obtain⟨fuel,hf⟩:=h0
 obtain⟨fuel1,hf1⟩:=h1
 obtain⟨ws,hws,hok,hlen⟩:=Zf3 (okWide_slice Tryz.underlying23 (hval 0 23 v0 rfl rfl)) hf
 obtain⟨ws1,hws1,hok1,hlen1⟩:=Zf3 (okWide_slice Tryz.underlying23 (hval 1 23 v1 rfl rfl)) hf1
 refine(Go.Vt.lfollows_spec v0 v1 ws ws1 a1 a2 g1 g2 W hws hws1 hlen hlen1 hok hok1).mono fun e' W' ⟨he',⟨hb,_⟩⟩=>?_
 subst he'
 exact⟨_,rfl,⟨_,_,_,[],_,[],hW',trodAll_mk1 (shut_bool Tryz.underlying4 _),trodAll_mk3 (Below.trod rlaidOut (by kernel_rfl) (of_decide_eq_true (by kernel_rfl)) h0k hb (fun x hx=>hlt x (List.mem_append_left _ hx))) (Below.trod rlaidOut (by kernel_rfl) (of_decide_eq_true (by kernel_rfl)) h1k hb (fun x hx=>hlt x (List.mem_append_right _ (List.mem_append_left _ hx)))) (Below.trod rlaidOut (by kernel_rfl) (of_decide_eq_true (by kernel_rfl)) h2k hb (fun x hx=>hlt x (List.mem_append_right _ (List.mem_append_right _ hx)))),(by first|rfl|(simp;done)),hb.frame _,fun h=>by cases h⟩⟩
theorem fol_lifted (os:Os)(started:os.Started)(H:Type)(enc:TypeId×Value->H)(F:Stop.Interp):
  ReturnsInHanded {} Tryz.checked os 5 .any ((OpenSpec.ofChange Rows.movinglabelFollowsSpec).preRow enc Tryz.prog Tryz.f5 Rows.movinglabelFollowsRow.domain false Rows.movinglabelFollowsRow.laid) (((OpenSpec.ofChange Rows.movinglabelFollowsSpec).at F).post enc Tryz.prog Tryz.f5 false true false false):=by
 obtain⟨places,hx⟩:=Zkg os enc
 refine returnsInHanded_of_row (C:=Tryz.checked) (s:=OpenSpec.ofChange Rows.movinglabelFollowsSpec) rown started (by kernel_rfl) Tryz.func5
  (witness_row_at (enc:=enc) (C:=Tryz.checked) false (laidWorld os) folArgs rfl (by kernel_rfl) (by kernel_rfl) (by kernel_rfl)
   (OpenSpec.preRow_of_cond 8 hx (by kernel_rfl) (fun k hk=>by cases hk) (by kernel_rfl) (Zmd os _))) ?_
 intro W base args ds gs before hval hW _ _ _ _ _ _
 exact Zgt H enc W base args ds gs before hval hW
end Go.Proofs.YtcgkgdgpdpihmaaGreatDoor
