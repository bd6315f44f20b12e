/- For any up to 12 units whose ends have up to 20 bytes, and for any decoded moving label (up to 8 stretches), Check returns OK or the first error. Conditions: none. (part 26 of 28.) Conditions: those that each statement names. -/
import Derived.Test.YtcgkgdgpdpihmaaGreatDoorProg
import Derived.SizedLaws
import Derived.Test.YtcgkgdgpdpihmaaGreatDoorKC20
import Derived.Test.YtcgkgdgpdpihmaaGreatDoorKC21
import Derived.Test.YtcgkgdgpdpihmaaGreatDoorKC22
import Derived.Test.YtcgkgdgpdpihmaaGreatDoorKC23
import Derived.Test.YtcgkgdgpdpihmaaGreatDoorKC24
import Derived.Test.YtcgkgdgpdpihmaaGreatDoorKC25
set_option linter.unusedSimpArgs false
set_option linter.unusedVariables false
set_option maxHeartbeats 2000000
set_option maxRecDepth 100000
namespace Go.Vt
open Go.RowKit Go.Proofs
open Go.Proofs.Tryz (prog)
section
def flB (a b:PU)(x y:Int):Bool:= !decide (a.In.From=a.In.To)&&(!decide (b.In.From=b.In.To)&&(decide (a.In.To=b.In.From)&&(!(a.In.OpenTo&&b.In.OpenFrom)&&(decide (a.Label=x)&&decide (b.Label=y)))))
theorem Zbh {a b:PU}{x y:Int}:flB a b x y=true↔True/\¬a.In.From=a.In.To/\¬b.In.From=b.In.To/\a.In.To=b.In.From/\¬(a.In.OpenTo=true/\b.In.OpenFrom=true)/\a.Label=x/\b.Label=y:=by
 unfold flB
 simp only[Wq,Bool.not_eq_true',decide_eq_true_eq,decide_eq_false_iff_not,true_and,<-Bool.not_eq_true]
def flL (l:List PU)(x y:Int):Nat->List Rl
 |0=>[]
 |i+1=>if flB (gi l (i:Int)) (gi l ((i+1:Nat):Int)) x y=true then flL l x y i++[(gi l ((i+1:Nat):Int)).In.From] else flL l x y i
theorem Zj0 (l:List PU)(x y:Int):∀i,(flL l x y i).length<=i
 |0=>Wl _
 |i+1=>by
  have h1:=Zj0 l x y i
  rw[flL]
  split
  ·rw[Wp];simp;exact h1
  ·omega
instance ZzM (u:PU):SpecC prog 78 [vPU u] (.bool (!decide (u.In.From=u.In.To))) True:=⟨fun _ w=>by
 refine Zb Tryz.func78 rfl Tryz.ntmps78 rfl ?_
 repeat(refine wkB ?_;intros)
 exact rtT rfl rfl⟩
set_option maxHeartbeats 16000000 in
theorem Ziu (v:Value)(l:List PU)(x y:Int)(w:World)(hv:ArgS w v rP l)(hl:l.length<=1048576):
  Calls prog 26 [v, .int .i64 x, .int .i64 y].toArray w (RetM (SlS Zv 9 (flL l x y (l.length-1))) (fun q=>vSl q) (fun q=>mS 35 q) w):=by
 obtain⟨p,cp,rfl⟩:=hv.form
 refine Zb Tryz.func26 rfl Tryz.ntmps26 rfl ?_
 repeat(refine wkB ?_;intros)
 refine Zad (S:=SlS Zv 9 (flL l x y (l.length-1))) (fun _=>True) (fun q=>[(7,vSl q)]) (fun q=>mS 35 q) ?_ (fun q _=>?_)
 ·refine Zq (S:=(_:Nat)×(o:List Rl)×SlS Zv 9 o) (fun q=>q.1<=l.length-1/\q.2.1=flL l x y q.1) (fun q=>[(0, .slice p l.length cp),(1, .int .i64 x),(2, .int .i64 y),(7,vSl q.2.2),(8, .int .i64 ((q.1+1:Nat):Int))]) (fun q=>mS 35 q.2.2) (fun q=>l.length-q.1) ⟨0,[],SlS.no⟩ ⟨Wm _,rfl⟩ sbB suB (fun q hq=>?_)
  obtain⟨i,out,o⟩:=q
  obtain⟨hq,ho⟩:=hq
  dsimp only at hq ho⊢
  have hln:out.length<=i:=by rw[ho];exact Zj0 l x y i
  have hend:i=l.length-1->out=flL l x y (l.length-1):=fun h=>by rw[ho,h]
  have hnxt:(if flB (gi l (i:Int)) (gi l ((i+1:Nat):Int)) x y=true then out++[(gi l ((i+1:Nat):Int)).In.From] else out)=flL l x y (i+1):=by rw[ho];rfl
  clear ho
  have e2:((i+1:Nat):Int)-1=(i:Int):=by omega
  have e3:((i+1:Nat):Int)+1=((i+1+1:Nat):Int):=by omega
  repeat(refine wkB ?_;intros)
  refine Zk rfl (fun h=>?_) (fun h=>?_)
  ·have hlt:i+1<l.length:=by have:=Wa h;omega
   obtain⟨bw,ow,rfl,hrow'⟩:=hv.opn (k:=20) hlt
   repeat(refine wkB ?_;intros)
   (refine Zb4 [0,1,2,3,4,5,6,7,8] [9,10] [11,12] (([]:List Blk)) (h:=?_);refine wkI ?_)
   (repeat(refine wkH ?_))
   repeat(refine wkT ?_;intros)
   repeat(refine wkB ?_;intros)
   simp only[e2]
   repeat(refine wkB ?_;intros)
   by_cases c1:(gi l (i:Int)).In.From=(gi l (i:Int)).In.To
   ·simp only[Wc c1,Bool.not_true]
    repeat(refine wkB ?_;intros)
    have hf:flB (gi l (i:Int)) (gi l ((i+1:Nat):Int)) x y=false:=Bool.eq_false_iff.2 fun g=>by
     obtain⟨g0,g1,g2,g3,g4,g5,g6⟩:=Zbh.1 g
     first|exact g0 c0|exact g1 c1|exact g2 c2|exact c3 g3|exact g4 ⟨c4,c4b⟩|exact c5 g5|exact c6 g6
    rw[hf] at hnxt
    simp only[Bool.false_eq_true,if_false] at hnxt
    repeat(first|(refine wkB ?_;intros)|(refine wnM ?_ ?_;(focus(exact⟨by omega,by omega⟩));intros))
    simp only[e3]
    exact Zg ⟨i+1,_,o⟩ ⟨by show i+1<=l.length-1;omega,hnxt⟩ sbB suB (by show l.length-(i+1)<l.length-i;omega)
   ·simp only[We c1,Bool.not_false]
    repeat(refine wkB ?_;intros)
    by_cases c2:(gi l ((i+1:Nat):Int)).In.From=(gi l ((i+1:Nat):Int)).In.To
    ·simp only[Wc c2,Bool.not_true]
     repeat(refine wkB ?_;intros)
     have hf:flB (gi l (i:Int)) (gi l ((i+1:Nat):Int)) x y=false:=Bool.eq_false_iff.2 fun g=>by
      obtain⟨g0,g1,g2,g3,g4,g5,g6⟩:=Zbh.1 g
      first|exact g0 c0|exact g1 c1|exact g2 c2|exact c3 g3|exact g4 ⟨c4,c4b⟩|exact c5 g5|exact c6 g6
     rw[hf] at hnxt
     simp only[Bool.false_eq_true,if_false] at hnxt
     repeat(first|(refine wkB ?_;intros)|(refine wnM ?_ ?_;(focus(exact⟨by omega,by omega⟩));intros))
     simp only[e3]
     exact Zg ⟨i+1,_,o⟩ ⟨by show i+1<=l.length-1;omega,hnxt⟩ sbB suB (by show l.length-(i+1)<l.length-i;omega)
    ·simp only[We c2,Bool.not_false]
     repeat(refine wkB ?_;intros)
     by_cases c3:(gi l (i:Int)).In.To=(gi l ((i+1:Nat):Int)).In.From
     ·simp only[Wc c3]
      repeat(refine wkB ?_;intros)
      cases c4:(gi l (i:Int)).In.OpenTo with
      |false=>
       repeat(refine wkB ?_;intros)
       by_cases c5:(gi l (i:Int)).Label=x
       ·simp only[Wc c5]
        repeat(refine wkB ?_;intros)
        by_cases c6:(gi l ((i+1:Nat):Int)).Label=y
        ·simp only[Wc c6]
         repeat(refine wkB ?_;intros)
         have hf:flB (gi l (i:Int)) (gi l ((i+1:Nat):Int)) x y=true:=Zbh.2 ⟨trivial,c1,c2,c3,(fun g=>by first|exact Bool.noConfusion (g.1.symm.trans c4)|exact Bool.noConfusion (g.2.symm.trans c4b)),c5,c6⟩
         rw[hf] at hnxt
         simp only[if_true] at hnxt
         repeat(refine wkB ?_;intros)
         refine sU (k:=9) (enc:=Zv) (s:=o) rfl rfl ?_ ?_ ?_ ?_
         ·rfl
         ·rfl
         ·exact⟨by decide,by omega,by omega⟩
         intro s'
         repeat(first|(refine wkB ?_;intros)|(refine wnM ?_ ?_;(focus(exact⟨by omega,by omega⟩));intros))
         simp only[e3]
         exact Zg ⟨i+1,_,s'⟩ ⟨by show i+1<=l.length-1;omega,hnxt⟩ sbB suB (by show l.length-(i+1)<l.length-i;omega)
        ·simp only[We c6]
         repeat(refine wkB ?_;intros)
         have hf:flB (gi l (i:Int)) (gi l ((i+1:Nat):Int)) x y=false:=Bool.eq_false_iff.2 fun g=>by
          obtain⟨g0,g1,g2,g3,g4,g5,g6⟩:=Zbh.1 g
          first|exact g0 c0|exact g1 c1|exact g2 c2|exact c3 g3|exact g4 ⟨c4,c4b⟩|exact c5 g5|exact c6 g6
         rw[hf] at hnxt
         simp only[Bool.false_eq_true,if_false] at hnxt
         repeat(first|(refine wkB ?_;intros)|(refine wnM ?_ ?_;(focus(exact⟨by omega,by omega⟩));intros))
         simp only[e3]
         exact Zg ⟨i+1,_,o⟩ ⟨by show i+1<=l.length-1;omega,hnxt⟩ sbB suB (by show l.length-(i+1)<l.length-i;omega)
       ·simp only[We c5]
        repeat(refine wkB ?_;intros)
        have hf:flB (gi l (i:Int)) (gi l ((i+1:Nat):Int)) x y=false:=Bool.eq_false_iff.2 fun g=>by
         obtain⟨g0,g1,g2,g3,g4,g5,g6⟩:=Zbh.1 g
         first|exact g0 c0|exact g1 c1|exact g2 c2|exact c3 g3|exact g4 ⟨c4,c4b⟩|exact c5 g5|exact c6 g6
        rw[hf] at hnxt
        simp only[Bool.false_eq_true,if_false] at hnxt
        repeat(first|(refine wkB ?_;intros)|(refine wnM ?_ ?_;(focus(exact⟨by omega,by omega⟩));intros))
        simp only[e3]
        exact Zg ⟨i+1,_,o⟩ ⟨by show i+1<=l.length-1;omega,hnxt⟩ sbB suB (by show l.length-(i+1)<l.length-i;omega)
      |true=>
       repeat(refine wkB ?_;intros)
       cases c4b:(gi l ((i+1:Nat):Int)).In.OpenFrom with
       |false=>
        repeat(refine wkB ?_;intros)
        by_cases c5:(gi l (i:Int)).Label=x
        ·simp only[Wc c5]
         repeat(refine wkB ?_;intros)
         by_cases c6:(gi l ((i+1:Nat):Int)).Label=y
         ·simp only[Wc c6]
          repeat(refine wkB ?_;intros)
          have hf:flB (gi l (i:Int)) (gi l ((i+1:Nat):Int)) x y=true:=Zbh.2 ⟨trivial,c1,c2,c3,(fun g=>by first|exact Bool.noConfusion (g.1.symm.trans c4)|exact Bool.noConfusion (g.2.symm.trans c4b)),c5,c6⟩
          rw[hf] at hnxt
          simp only[if_true] at hnxt
          repeat(refine wkB ?_;intros)
          refine sU (k:=9) (enc:=Zv) (s:=o) rfl rfl ?_ ?_ ?_ ?_
          ·rfl
          ·rfl
          ·exact⟨by decide,by omega,by omega⟩
          intro s'
          repeat(first|(refine wkB ?_;intros)|(refine wnM ?_ ?_;(focus(exact⟨by omega,by omega⟩));intros))
          simp only[e3]
          exact Zg ⟨i+1,_,s'⟩ ⟨by show i+1<=l.length-1;omega,hnxt⟩ sbB suB (by show l.length-(i+1)<l.length-i;omega)
         ·simp only[We c6]
          repeat(refine wkB ?_;intros)
          have hf:flB (gi l (i:Int)) (gi l ((i+1:Nat):Int)) x y=false:=Bool.eq_false_iff.2 fun g=>by
           obtain⟨g0,g1,g2,g3,g4,g5,g6⟩:=Zbh.1 g
           first|exact g0 c0|exact g1 c1|exact g2 c2|exact c3 g3|exact g4 ⟨c4,c4b⟩|exact c5 g5|exact c6 g6
          rw[hf] at hnxt
          simp only[Bool.false_eq_true,if_false] at hnxt
          repeat(first|(refine wkB ?_;intros)|(refine wnM ?_ ?_;(focus(exact⟨by omega,by omega⟩));intros))
          simp only[e3]
          exact Zg ⟨i+1,_,o⟩ ⟨by show i+1<=l.length-1;omega,hnxt⟩ sbB suB (by show l.length-(i+1)<l.length-i;omega)
        ·simp only[We c5]
         repeat(refine wkB ?_;intros)
         have hf:flB (gi l (i:Int)) (gi l ((i+1:Nat):Int)) x y=false:=Bool.eq_false_iff.2 fun g=>by
          obtain⟨g0,g1,g2,g3,g4,g5,g6⟩:=Zbh.1 g
          first|exact g0 c0|exact g1 c1|exact g2 c2|exact c3 g3|exact g4 ⟨c4,c4b⟩|exact c5 g5|exact c6 g6
         rw[hf] at hnxt
         simp only[Bool.false_eq_true,if_false] at hnxt
         repeat(first|(refine wkB ?_;intros)|(refine wnM ?_ ?_;(focus(exact⟨by omega,by omega⟩));intros))
         simp only[e3]
         exact Zg ⟨i+1,_,o⟩ ⟨by show i+1<=l.length-1;omega,hnxt⟩ sbB suB (by show l.length-(i+1)<l.length-i;omega)
       |true=>
        repeat(refine wkB ?_;intros)
        have hf:flB (gi l (i:Int)) (gi l ((i+1:Nat):Int)) x y=false:=Bool.eq_false_iff.2 fun g=>by
         obtain⟨g0,g1,g2,g3,g4,g5,g6⟩:=Zbh.1 g
         first|exact g0 c0|exact g1 c1|exact g2 c2|exact c3 g3|exact g4 ⟨c4,c4b⟩|exact c5 g5|exact c6 g6
        rw[hf] at hnxt
        simp only[Bool.false_eq_true,if_false] at hnxt
        repeat(first|(refine wkB ?_;intros)|(refine wnM ?_ ?_;(focus(exact⟨by omega,by omega⟩));intros))
        simp only[e3]
        exact Zg ⟨i+1,_,o⟩ ⟨by show i+1<=l.length-1;omega,hnxt⟩ sbB suB (by show l.length-(i+1)<l.length-i;omega)
     ·simp only[We c3]
      repeat(refine wkB ?_;intros)
      have hf:flB (gi l (i:Int)) (gi l ((i+1:Nat):Int)) x y=false:=Bool.eq_false_iff.2 fun g=>by
       obtain⟨g0,g1,g2,g3,g4,g5,g6⟩:=Zbh.1 g
       first|exact g0 c0|exact g1 c1|exact g2 c2|exact c3 g3|exact g4 ⟨c4,c4b⟩|exact c5 g5|exact c6 g6
      rw[hf] at hnxt
      simp only[Bool.false_eq_true,if_false] at hnxt
      repeat(first|(refine wkB ?_;intros)|(refine wnM ?_ ?_;(focus(exact⟨by omega,by omega⟩));intros))
      simp only[e3]
      exact Zg ⟨i+1,_,o⟩ ⟨by show i+1<=l.length-1;omega,hnxt⟩ sbB suB (by show l.length-(i+1)<l.length-i;omega)
  ·have hge:i=l.length-1:=by have:=Wb h;omega
   obtain⟨s',f1,f2⟩:=SlS.turn 35 (hend hge) o
   repeat(refine wkB ?_;intros)
   exact Zj s' trivial (by rw[f1];exact sbB) (by rw[f2];exact suB)
 ·repeat(refine wkB ?_;intros)
  exact ZB rfl rfl (fun w hw=>⟨q,rfl,hw.sub suB⟩)
instance ZtJ (w0:World)(L:List Blk)(v:Value)(l:List PU)(x y:Int)[h:LstC w0 L v PU rP l]:SpecR prog w0 L 26 [v, .int .i64 x, .int .i64 y] (SlS Zv 9 (flL l x y (l.length-1))) (fun q=>vSl q) (fun q=>mS 35 q) (l.length<=1048576):=⟨fun hp w hw=>Ziu v l x y w (h.out w hw) hp⟩
end
section
def wl (n:Int):Rl:=rl (n:Rat)
theorem Zt8 {a b:Int}:ri (wl a)<ri (wl b)↔a<b:=by
 unfold wl
 rw[Zua]
 exact Rat.intCast_lt_intCast
theorem ZcJ {n:Int}(h:M (n:Rat)<=1):RlB KR (wl n):=(ZlF h (Wl _)).mono (by decide)
def kI0 :Za:=⟨wl 0,wl 4,false,true⟩
def kI1 :Za:=⟨wl 4,wl 6,false,false⟩
def kI2 :Za:=⟨wl 6,wl 9,true,false⟩
def exU :List PU:=[⟨kI0,1⟩,⟨kI1,2⟩,⟨kI2,1⟩]
def exT :List UL:=[⟨kI0,1⟩,⟨kI1,2⟩,⟨kI2,1⟩]
theorem Zsv :mpN toU exU exU.length=exT:=rfl
theorem Zc5 :IvOk KR kI0/\IvOk KR kI1/\IvOk KR kI2:=⟨⟨ZcJ (by decide),ZcJ (by decide)⟩,⟨ZcJ (by decide),ZcJ (by decide)⟩,⟨ZcJ (by decide),ZcJ (by decide)⟩⟩
theorem kx :ri (wl 0)<ri (wl 2)/\ri (wl 2)<ri (wl 3)/\ri (wl 3)<ri (wl 4)/\ri (wl 4)<ri (wl 6)/\ri (wl 6)<ri (wl 9):=by
 simp only[Zt8]
 decide
theorem Zsr :Cut exT (wl 4) 0:=by
 obtain⟨h1,h2,h3,h4,h5⟩:=kx
 refine⟨Wm _,fun j hj=>by omega,fun j _ hj=>?_⟩
 have hj':j<3:=hj
 rcases(by omega:j=0\/j=1\/j=2) with rfl|rfl|rfl
 ·show ri (wl 4)<=ri (wl 4);grind
 ·show ri (wl 4)<=ri (wl 6);grind
 ·show ri (wl 4)<=ri (wl 9);grind
theorem ZuD :AtR exT (ri (wl 4)) (some 2):=by
 obtain⟨h1,h2,h3,h4,h5⟩:=kx
 refine⟨.inl ⟨1,by decide, ?_,fun j hj=>?_,fun j hj=>?_,rfl⟩⟩
 ·show(ri (wl 4)<ri (wl 4)\/(ri (wl 4)=ri (wl 4)/\false=false))/\(ri (wl 4)<ri (wl 6)\/_)
  exact⟨.inr ⟨rfl,rfl⟩, .inl h4⟩
 ·obtain rfl:j=0:=by omega
  rintro⟨-,h|h⟩
  ·exact absurd (show ri (wl 4)<ri (wl 4) from h) (by grind)
  ·cases (show true=false from h.2)
 ·rcases(by omega:j=0\/j=1) with rfl|rfl
  ·show ri (wl 0)<=ri (wl 4);grind
  ·show ri (wl 4)<=ri (wl 4);grind
theorem Zun :flL exU 1 2 2=[wl 4]:=by decide
theorem Zt2 :cmI' (lbL exU)=[1,2,1]:=by decide
theorem ZpA :whL exU 1 exU.length=[kI0,kI2]:=by decide
theorem ZjU {i:Za}(h:IvOk KR i):BdOk (bdF i)/\BdOk (bdL i):=⟨⟨h.a⟩,⟨h.b⟩⟩
theorem Zuu :SwOk [kI0,kI2] []:=⟨by decide,fun i hi=>by
 simp only[Ww,List.not_mem_nil,or_false] at hi
 rcases hi with rfl|rfl
 ·exact ZjU Zc5.1
 ·exact ZjU Zc5.2.2,fun i hi=>by cases hi⟩
theorem ZmU :Sep [kI0,kI2]:=by
 obtain⟨h1,h2,h3,h4,h5⟩:=kx
 refine⟨List.pairwise_cons.2 ⟨fun j hj=>?_,List.pairwise_singleton _ _⟩,fun i hi=>?_⟩
 ·rw[Wo] at hj
  rw[hj]
  exact .inl h4
 ·simp only[Ww,List.not_mem_nil,or_false] at hi
  rcases hi with rfl|rfl
  ·exact .inl (show ri (wl 0)<ri (wl 4) by grind)
  ·exact .inl h5
theorem ivEq {i j:Za}(hi:IvOk KR i)(hj:IvOk KR j)(h:absI i=absI j):i=j:=by
 obtain⟨a,b,c,d⟩:=i
 obtain⟨a',b',c',d'⟩:=j
 injection h with e1 e2 e3 e4
 have e1':=(ZcN hi.a.o hj.a.o).1 e1
 have e2':=(ZcN hi.b.o hj.b.o).1 e2
 simp only at e1' e2' e3 e4
 rw[e1',e2',e3,e4]
theorem sepEq {l m:List Za}(hl:Sep l)(hm:Sep m)(kl:∀i∈l,IvOk KR i)(km:∀i∈m,IvOk KR i)(H:∀t,HoldP l t↔HoldP m t):l=m:=by
 have h:=hl.uniq hm H
 have hlen:l.length=m.length:=by
  have:=congrArg List.length h
  simpa using this
 refine List.ext_getElem hlen fun j h1 h2=>ivEq (kl _ (List.getElem_mem h1)) (km _ (List.getElem_mem h2)) ?_
 have:=congrArg (fun z:List (GU Ri Unit)=>z[j]?) h
 simpa [List.getElem?_eq_getElem h1,List.getElem?_eq_getElem h2] using this
theorem ZqI :swpR kpU [kI0,kI2] []=[kI0,kI2]:=by
 have hle:∀i∈[kI0,kI2],bLe (bdF i) (bdL i):=fun i hi=>(ZmU.v i hi).le
 obtain⟨h1,h2,h3⟩:=ZoO (kp:=kpU) rfl hle (fun i (hi:i∈[])=>by cases hi)
 have hk:∀i∈[kI0,kI2],IvOk KR i:=fun i hi=>by
  simp only[Ww,List.not_mem_nil,or_false] at hi
  rcases hi with rfl|rfl
  ·exact Zc5.1
  ·exact Zc5.2.2
 have hb:=ZqX (Pb:=fun b=>RlB KR b.at_) kpU (is:=[kI0,kI2]) (js:=[]) (fun i hi=>⟨(hk i hi).a,(hk i hi).b⟩) (fun i hi=>by cases hi)
 refine sepEq ⟨h2,h3⟩ ZmU (fun i hi=>⟨(hb i hi).1,(hb i hi).2⟩) hk (fun t=>?_)
 unfold HoldP
 rw[h1 t]
 simp[kpU]
def nmU :List PU:=[⟨⟨wl 2,wl 3,true,true⟩,5⟩,⟨⟨wl 0,wl 2,false,false⟩,5⟩]
def nmT :List UL:=[⟨⟨wl 2,wl 3,true,true⟩,5⟩,⟨⟨wl 0,wl 2,false,false⟩,5⟩]
theorem ZpO :∀u∈nmT,UIn u:=fun u hu=>by
 simp only[nmT,Ww,List.not_mem_nil,or_false] at hu
 rcases hu with rfl|rfl
 ·exact⟨⟨ZcJ (by decide),ZcJ (by decide)⟩⟩
 ·exact⟨⟨ZcJ (by decide),ZcJ (by decide)⟩⟩
theorem Zm5 :UVal nmT:=⟨ZpO,fun u hu=>by
 obtain⟨h1,h2,h3,h4,h5⟩:=kx
 simp only[nmT,Ww,List.not_mem_nil,or_false] at hu
 rcases hu with rfl|rfl
 ·exact .inl h2
 ·exact .inl h1⟩
theorem ZlS :(nmT.map absU).Pairwise Dis:=by
 refine List.pairwise_cons.2 ⟨fun j hj=>?_,List.pairwise_singleton _ _⟩
 rw[List.map_cons,List.map_nil,Wo] at hj
 subst hj
 rintro t ⟨⟨h1, -⟩, -,h2⟩
 have h1':ri (wl 2)<t:=h1.elim id (fun h=>by cases (show true=false from h.2))
 have h2':t<ri (wl 2)\/t=ri (wl 2):=h2.imp id (·.1)
 grind
theorem Zst :(nrmR nmT).map absU=[⟨ri (wl 0),ri (wl 3),false,true,5⟩]:=by
 obtain⟨h1,h2,h3,h4,h5⟩:=kx
 obtain⟨k1,k2⟩:=ZfG Zm5 ZlS
 refine k1.uniq (NF.one (.inl (show ri (wl 0)<ri (wl 3) by grind)) (fun h=>absurd (show ri (wl 0)=ri (wl 3) from h) (by grind))) (fun t v=>?_)
 rw[k2 t v]
 show Has [absU _,absU _] t v↔_
 rw[Zah,ZcC,ZcC]
 show((((ri (wl 2)<t\/(ri (wl 2)=t/\true=false))/\(t<ri (wl 3)\/(t=ri (wl 3)/\true=false)))/\(5:Int)=v)\/(((ri (wl 0)<t\/(ri (wl 0)=t/\false=false))/\(t<ri (wl 2)\/(t=ri (wl 2)/\false=false)))/\(5:Int)=v))↔((ri (wl 0)<t\/(ri (wl 0)=t/\false=false))/\(t<ri (wl 3)\/(t=ri (wl 3)/\true=false)))/\(5:Int)=v
 grind
theorem ZrR :nrmE nmT=0:=(Zfg Zm5).2 ZlS
theorem ZrX :∃u:PU,mNorm nmU=[u]/\u.In.OpenTo=true:=by
 have h:=Zst
 have hn:mNorm nmU=mpN ofU (nrmR nmT) (nrmR nmT).length:=rfl
 rw[hn]
 generalize nrmR nmT=l at h
 have hlen:l.length=1:=by
  have:=congrArg List.length h
  simpa using this
 obtain⟨u,rfl⟩:=List.length_eq_one_iff.1 hlen
 have h1:absU u=_:=(List.cons.inj h).1
 exact⟨ofU u,rfl,congrArg GU.ob h1⟩
theorem Zqw :PFine exU:=by
 obtain⟨h1,h2,h3,h4,h5⟩:=kx
 have a4:ri (wl 0)<ri (wl 4):=by grind
 refine⟨⟨fun u hu=>?_,fun u _ _=>rfl, ?_⟩,fun u hu=>?_,fun u hu=>?_,by decide⟩
 ·simp only[exU,List.map_cons,List.map_nil,Ww,List.not_mem_nil,or_false] at hu
  rcases hu with rfl|rfl|rfl
  ·exact .inl a4
  ·exact .inl h4
  ·exact .inl h5
 ·refine List.pairwise_cons.2 ⟨fun j hj=>?_,List.pairwise_cons.2 ⟨fun j hj=>?_,List.pairwise_singleton _ _⟩⟩
  ·simp only[List.map_cons,List.map_nil,Ww,List.not_mem_nil,or_false] at hj
   rcases hj with rfl|rfl
   ·exact⟨.inr ⟨rfl, .inl rfl⟩,fun _ _ _=>(by decide:(1:Int)≠2),fun _ _=>(by decide:(1:Int)≠2),fun _ _=>(by decide:(1:Int)≠2)⟩
   ·exact⟨.inl h4,fun h=>absurd (show ri (wl 4)=ri (wl 6) from h) (by grind),fun h=>absurd (show ri (wl 4)=ri (wl 6) from h) (by grind),fun h=>absurd (show ri (wl 4)=ri (wl 6) from h) (by grind)⟩
  ·simp only[List.map_cons,List.map_nil,Ww,List.not_mem_nil,or_false] at hj
   subst hj
   exact⟨.inr ⟨rfl, .inr rfl⟩,fun _ _ _=>(by decide:(2:Int)≠1),fun _ _=>(by decide:(2:Int)≠1),fun _ _=>(by decide:(2:Int)≠1)⟩
 ·simp only[exU,Ww,List.not_mem_nil,or_false] at hu
  rcases hu with rfl|rfl|rfl
  ·exact⟨Zc5.1⟩
  ·exact⟨Zc5.2.1⟩
  ·exact⟨Zc5.2.2⟩
 ·simp only[exU,Ww,List.not_mem_nil,or_false] at hu
  rcases hu with rfl|rfl|rfl <;> exact⟨rfl,rfl⟩
end
section
theorem divInt1 (n:Int):Rat.divInt n 1=(n:Rat):=by
 rw[Rat.divInt_eq_div]
 have h:((1:Int):Rat)=1:=rfl
 rw[h]
 grind
instance Zwz (n:Int):SpecC prog 61 [.int .i64 n] (vR (wl n)) (-9223372036854775808<=n/\n<=9223372036854775807):=⟨fun hp w=>by
 have p1:(1:Int)≠0/\(-9223372036854775808<=n/\n<=9223372036854775807)/\(-9223372036854775808<=(1:Int)/\(1:Int)<=9223372036854775807):=by omega
 refine Zb Tryz.func61 rfl Tryz.ntmps61 rfl ?_
 repeat(first|(refine wkB ?_;intros)|(refine wnM ?_ ?_;(focus(exact p1));intros))
 simp only[divInt1]
 exact rtC rfl rfl⟩
set_option maxHeartbeats 8000000 in
theorem ZhD (w:World):Calls prog 60 [].toArray w (RetM (SlS rP 21 exU) (fun s=>vSl s) (fun s=>mS 46 s) w):=by
 refine Zb Tryz.func60 rfl Tryz.ntmps60 rfl ?_
 repeat(first|(refine wkB ?_;intros)|(refine wnM ?_ ?_;(focus(decide));intros))
 rename_i b
 exact ZB rfl rfl (fun w hw=>⟨SlS.at_ b 3 [] ⟨Wl _,rfl⟩ (by decide),rfl,hw⟩)
instance Zvc (w0:World)(L:List Blk):SpecR prog w0 L 60 [] (SlS rP 21 exU) (fun s=>vSl s) (fun s=>mS 46 s) True:=⟨fun _ w _=>ZhD w⟩
instance lst2 {α:Type}{enc:α->Array Value}{k:Nat}{x y:α}{sp:List Value}[he:EncC enc k](w0:World)(L:List Blk)(b c:Nat)(T:TypeId)[h:AtC w0 L b (row enc [x,y] sp) T]:LstC w0 L (.slice (some ⟨b,0,none⟩) 2 (c+2)) α enc [x,y]:=⟨fun w hw=>by
 obtain⟨fz,hb⟩:=h.out w hw
 exact ZbH (c:=c+2) hb (Nat.le_add_left 2 c)⟩
end
section
theorem ZpM {n:Int}(h:M (n:Rat)<=1):RlB 1048576 (wl n):=(ZlF h (Wl _)).mono (by decide)
theorem ZoX :∀u∈exU,IvOk 1048576 u.In:=fun u hu=>by
 simp only[exU,Ww,List.not_mem_nil,or_false] at hu
 rcases hu with rfl|rfl|rfl <;> exact⟨ZpM (by decide),ZpM (by decide)⟩
set_option maxHeartbeats 16000000 in
theorem ZiH (w:World):Calls prog 13 [].toArray w (Ret (.bool true) w):=by
 have i1:CtC (mpN toU exU exU.length) (wl 4) 0:=⟨Zsr⟩
 have i2:AtC' (mpN toU exU exU.length) (ri (wl 4)) (some 2):=⟨ZuD⟩
 have hk:=Zc5
 have p1:exU.length<=1048576/\RlB KR (wl 4)/\∀u∈mpN toU exU exU.length,IvOk BQ u.In:=⟨by decide,ZcJ (by decide),fun u hu=>by
  rw[Zsv] at hu
  simp only[exT,Ww,List.not_mem_nil,or_false] at hu
  rcases hu with rfl|rfl|rfl
  ·exact hk.1
  ·exact hk.2.1
  ·exact hk.2.2⟩
 have p2:exU.length<=1048576/\SwOk (whL exU 1 exU.length) []:=⟨by decide,by rw[ZpA];exact Zuu⟩
 have p3:exU.length<=1048576:=by decide
 have p4:NrP (mpN toU nmU nmU.length)/\∀u∈mpN toU nmU nmU.length,UIn u:=⟨.inl (by rw[ZaV];decide),ZpO⟩
 have p5:PFineI exU:=⟨Zqw.nf,fun u hu=>ZoX u hu,by decide⟩
 refine Zb Tryz.func13 rfl Tryz.ntmps13 rfl ?_
 repeat(first|(refine wkB ?_;intros)|(refine wnM ?_ ?_;(focus(first|exact p1|exact p2|exact p3|exact p4|exact p5|decide));intros))
 rename_i sx sw sf bn sn
 obtain⟨u,hu,ho⟩:=ZrX
 have hwh:swpR kpU (whL exU 1 exU.length) []=[kI0,kI2]:=by rw[ZpA,ZqI]
 obtain⟨sn',f1,f2⟩:=SlS.turn 46 hu sn
 obtain⟨sw',f3,f4⟩:=SlS.turn 37 hwh sw
 obtain⟨sf',f5,f6⟩:=SlS.turn 35 (show flL exU 1 2 (exU.length-1)=[wl 4] from Zun) sf
 have he:nrmE (mpN toU nmU nmU.length)=0:=ZrR
 rw[show vSl sn=vSl sn' from f1.symm,show mS 46 sn=mS 46 sn' from f2.symm]
 simp only[show nrmE (mpN toU [⟨⟨wl 2,wl 3,true,true⟩,5⟩,⟨⟨Zag,wl 2,false,false⟩,5⟩] ([⟨⟨wl 2,wl 3,true,true⟩,5⟩,⟨⟨Zag,wl 2,false,false⟩,5⟩]:List PU).length)=0 from ZrR,<-f3,<-f4,<-f5,<-f6,Option.getD_some,Option.isSome_some]
 rcases sx.cases 46 with⟨y0,y1,y2⟩|⟨bx,cx,spx,hcx,y1,y2,yne⟩
 ·cases y0
 rcases sw'.cases 37 with⟨z0,z1,z2⟩|⟨bw,cw,spw,hcw,z1,z2,zne⟩
 ·cases z0
 rcases sf'.cases 35 with⟨x0,x1,x2⟩|⟨bf,cf,spf,hcf,x1,x2,xne⟩
 ·cases x0
 rcases sn'.cases 46 with⟨v0,v1,v2⟩|⟨bm,cm,spm,hcm,v1,v2,vne⟩
 ·cases v0
 simp only[y1,y2,z1,z2,x1,x2,v1,v2,Wf,Wg]
 have hLx:∀L [h:AtC w L bx (row rP exU spx) 46],LstC w L (.slice (some ⟨bx,0,none⟩) exU.length cx) PU rP exU:=fun L h=>⟨fun w' hw'=>by
  obtain⟨fz,hb⟩:=h.out w' hw'
  exact ZbH (c:=cx) hb hcx.1⟩
 have g1:(1:Int)<([kI0,kI2].length:Nat):=by decide
 have g2:(2:Int)<(exU.length:Nat):=by decide
 have g3:(0:Int)<([wl 4].length:Nat):=by decide
 have g4:(0:Int)<([u].length:Nat):=by simp
 have d1:((([kI0,kI2]:List Za).length:Nat):Int)=2:=rfl
 have d2:gi [kI0,kI2] 1=(gi exU 2).In:=rfl
 have d3:((([wl 4]:List Rl).length:Nat):Int)=1:=rfl
 have d4:gi [wl 4] 0=wl 4:=rfl
 have d5:((([u]:List PU).length:Nat):Int)=1:=rfl
 have d6:(gi [u] 0).In.OpenTo=true:=ho
 have d7:(((cmI' (lbL exU)).length:Nat):Int)=3:=by rw[Zt2];rfl
 (refine ZH (.v [0,1,2,3,4,5,6,7,8,9,10,11,12,13,14,15,16,17,18,19,20,21,22,23,24,25,26,27,28,29,30,31,32,33,34,35,36,37,38,39,40,41,42,43,44,45,46,47,48,49,50,51,52,53,54] (.e1 55 (.v [56,57,58] (.e1 59 (.fin))))) ([⟨bm,row rP [u] spm,46⟩,⟨bf,row Zv [wl 4] spf,35⟩,⟨bw,row rI [kI0,kI2] spw,37⟩,⟨bx,row rP exU spx,46⟩]) (h:=?_);refine wkX ?_)
 (repeat(first|refine wkH ?_|(refine tC rfl rfl ?_ ?_;focus(first|exact p5|decide))))
 try simp only[Wc (rfl:(0:Int)=0)]
 (repeat(first|refine wkH ?_|(refine tC rfl rfl ?_ ?_;focus(first|exact p5|decide))))
 try simp only[Wc (rfl:(2:Int)=2)]
 (repeat(first|refine wkH ?_|(refine tC rfl rfl ?_ ?_;focus(first|exact p5|decide))))
 try simp only[Wc d1]
 (repeat(first|refine wkH ?_|(refine tC rfl rfl ?_ ?_;focus(first|exact p5|decide))))
 try simp only[Wc d2]
 (repeat(first|refine wkH ?_|(refine tC rfl rfl ?_ ?_;focus(first|exact p5|decide))))
 try simp only[Wc d3]
 (repeat(first|refine wkH ?_|(refine tC rfl rfl ?_ ?_;focus(first|exact p5|decide))))
 try simp only[Wc d4]
 (repeat(first|refine wkH ?_|(refine tC rfl rfl ?_ ?_;focus(first|exact p5|decide))))
 try simp only[Wc d5]
 (repeat(first|refine wkH ?_|(refine tC rfl rfl ?_ ?_;focus(first|exact p5|decide))))
 try simp only[d6]
 (repeat(first|refine wkH ?_|(refine tC rfl rfl ?_ ?_;focus(first|exact p5|decide))))
 repeat(first|(refine wkT ?_;intros)|(refine tC rfl rfl ?_ ?_;focus(exact p3))|(refine uC rfl rfl ?_ ?_;focus(exact p3))|(refine eN rfl rfl ?_ ?_;(focus(exact p3));intro _;(try simp only[Wf,Wg,Wh])))
 try simp only[Wc d7]
 repeat(refine wkT ?_;intros)
 repeat(refine wkB ?_;intros)
 exact rtT rfl rfl
instance Zwu :SpecC prog 13 [] (.bool true) True:=⟨fun _ w=>ZiH w⟩
end
end Go.Vt
namespace Go.Vt
open Go.RowKit Go.Proofs
open Go.Proofs.Tryz (prog)
def sumRW (x:ZI):Nat:=x.P.Num.Mag.size+x.P.Den.Mag.size+x.R.Num.Mag.size+x.R.Den.Mag.size
def WtU (u:RW):Prop:=sumRW u.In.From<=562949953421312/\sumRW u.In.To<=562949953421312
def shtU (u:RW):Prop:=sumRW u.In.From<=20/\sumRW u.In.To<=20
def ShL (l:List RW):Prop:=l.length<=12/\∀u∈l,shtU u
noncomputable def shtB (l:List RW):Bool:= @decide (ShL l) (Classical.propDecidable _)
theorem Zen {l:List RW}(h:¬ShL l):shtB l=false:= @We _ (Classical.propDecidable _) h
theorem ZjB {l:List RW}(h:ShL l):shtB l=true:= @Wc _ (Classical.propDecidable _) h
theorem ShL.sh {l:List RW}(h:ShL l):∀u∈l,ShI u.In:=fun u hu=>by
 obtain⟨h1,h2⟩:=h.2 u hu
 unfold sumRW at h1 h2
 exact⟨⟨by omega,by omega,by omega,by omega⟩,⟨by omega,by omega,by omega,by omega⟩⟩
theorem ZiQ (v:Value)(l:List RW)(w:World)(hv:ArgS w v rRW l)(hw:∀u∈l,WtU u)(hl:l.length<=9223372036854775807):Calls prog 14 [v].toArray w (Ret (.bool (shtB l)) w):=by
 obtain⟨p,cp,rfl⟩:=hv.form
 refine Zb Tryz.func14 rfl Tryz.ntmps14 rfl ?_
 repeat(refine wkB ?_;intros)
 refine Zq (S:=Nat) (fun m=>m<=l.length/\m<=12/\∀i,i<m->shtU (gi l (i:Int))) (fun m=>[(0, .slice p l.length cp),(3, .int .i64 (m:Nat))]) (fun _=>[]) (fun m=>l.length-m) 0 ⟨Wm _,Wm _,fun i hi=>absurd hi (Nat.not_lt_zero _)⟩ sbB slB (fun m hm=>?_)
 obtain⟨hm,hm12,hS⟩:=hm
 repeat(refine wkB ?_;intros)
 refine Zk rfl (fun hc=>?_) (fun hc=>?_)
 ·have hlt:m<l.length:=by have:=Wa hc;omega
  have hne:l≠[]:=fun h0=>by rw[h0] at hlt;simp at hlt
  obtain⟨b1,o1,c1',hv1,hc1,hr1⟩:=hv.blk (k:=20) hne []
  injection hv1 with e1 e2 e3
  subst e1
  subst e3
  have hr1':∀L,RowC w L b1 o1 RW rRW l:=fun L=>⟨fun w' hw'=>hr1.out w' (hw'.sub (Wk _))⟩
  have hmem:gi l (m:Int)∈l:=ZA (by omega)
  obtain⟨hA,hB⟩:=hw _ hmem
  have hSA:((gi l (m:Int)).In.From.P.Num.Mag.size:Int)+((gi l (m:Int)).In.From.P.Den.Mag.size:Int)+((gi l (m:Int)).In.From.R.Num.Mag.size:Int)+((gi l (m:Int)).In.From.R.Den.Mag.size:Int)=((sumRW (gi l (m:Int)).In.From:Nat):Int):=by unfold sumRW;omega
  have hSB:((gi l (m:Int)).In.To.P.Num.Mag.size:Int)+((gi l (m:Int)).In.To.P.Den.Mag.size:Int)+((gi l (m:Int)).In.To.R.Num.Mag.size:Int)+((gi l (m:Int)).In.To.R.Den.Mag.size:Int)=((sumRW (gi l (m:Int)).In.To:Nat):Int):=by unfold sumRW;omega
  unfold sumRW at hA hB
  repeat(refine wkB ?_;intros)
  (refine Zb4 [0,1,2,3,4,5,6,7,8,9,10,11] [12,13] [14,15] (([]:List Blk)) (h:=?_);refine wkI ?_)
  repeat' (first|(with_reducible refine And.intro ?_ ?_)|(with_reducible exact True.intro)|(refine wkT ?_;intros)|(refine tC rfl rfl ?_ ?_;focus(exact trivial))|(refine uC rfl rfl ?_ ?_;focus(exact trivial))|(refine eN rfl rfl ?_ ?_;(focus(exact trivial));intro _;(try simp only[Wf,Wg,Wh]))|fail)
  repeat(refine wkB ?_;intros)
  rcases Nat.lt_or_ge m 12 with h12|h12
  ·simp only[We (show¬(12:Int)<=(m:Int) by omega)]
   repeat(refine wkB ?_;intros)
   simp only[hSA]
   by_cases hA2:sumRW (gi l (m:Int)).In.From<=20
   ·simp only[We (show¬(20:Int)<((sumRW (gi l (m:Int)).In.From:Nat):Int) by omega)]
    repeat(refine wkB ?_;intros)
    simp only[hSB]
    by_cases hB2:sumRW (gi l (m:Int)).In.To<=20
    ·simp only[We (show¬(20:Int)<((sumRW (gi l (m:Int)).In.To:Nat):Int) by omega)]
     repeat(refine wkB ?_;intros)
     refine Zg (m+1) ⟨hlt,h12,fun i hi=>?_⟩ sbB slB (by omega)
     rcases(by omega:i=m\/i<m) with rfl|h0
     ·exact⟨hA2,hB2⟩
     ·exact hS i h0
    ·simp only[Wc (show(20:Int)<((sumRW (gi l (m:Int)).In.To:Nat):Int) by omega)]
     repeat(refine wkB ?_;intros)
     rw[Zen fun k=>hB2 (k.2 _ hmem).2]
     exact rtT rfl rfl
   ·simp only[Wc (show(20:Int)<((sumRW (gi l (m:Int)).In.From:Nat):Int) by omega)]
    repeat(refine wkB ?_;intros)
    rw[Zen fun k=>hA2 (k.2 _ hmem).1]
    exact rtT rfl rfl
  ·simp only[Wc (show(12:Int)<=(m:Int) by omega)]
   repeat(refine wkB ?_;intros)
   rw[Zen fun k=>by have:=k.1;omega]
   exact rtT rfl rfl
 ·have hge:m=l.length:=by have:=Wb hc;omega
  subst hge
  repeat(refine wkB ?_;intros)
  rw[ZjB ⟨hm12,fun u hu=>by
   obtain⟨i,hi,rfl⟩:=List.getElem_of_mem hu
   rw[<-Zw hi]
   exact hS i hi⟩]
  exact rtT rfl rfl
attribute [local irreducible] movV
theorem lchecks_spec (v0 v1:Value)(l:List RW)(s:List St)(w:World)(hv0:ArgS w v0 rRW l)(hw0:∀u∈l,WtU u)(hl0:l.length<=9223372036854775807)(hv1:ArgS w v1 rSt s)(hl1:s.length<=9223372036854775807)(hk1:∀x∈s,StOk x):
  Calls prog 3 [v0,v1].toArray w (Ret (.bool true) w):=by
 have hsh:∀L,SpecM prog w L 14 [v0] (.bool (shtB l)) True:=fun L=>⟨fun _ w' hw'=>ZiQ v0 l w' (hv0.to hw'.ext) hw0 hl0⟩
 have:=ArgC.mk hv1
 have ha:=Zrc hk1
 refine Zb Tryz.func3 rfl Tryz.ntmps3 rfl ?_
 by_cases hS:ShL l
 ·have hsl:=hS.sh
  have hck:∀L,SpecM prog w L 15 [v0] (.int .i64 (chkV l)) True:=fun L=>⟨fun _ w' hw'=>ZhM v0 l w' (hv0.to hw'.ext) hsl hS.1⟩
  have hcm:∀L,SpecM prog w L 16 [v0] (.int .i64 (chkV l)) True:=fun L=>⟨fun _ w' hw'=>ZiK v0 l w' (hv0.to hw'.ext) hsl hS.1⟩
  have na:=ha.nf.len
  have p5:PFineI (movV s):=⟨ha.nf.nf,fun u hu=>(ha.nf.k u hu).mono (by decide),by omega⟩
  repeat(first|(refine wkB ?_;intros)|(refine wnM ?_ ?_;(focus(exact trivial));intros))
  simp only[ZjB hS,Bool.not_true]
  repeat(first|(refine wkB ?_;intros)|(refine wnM ?_ ?_;(focus(exact trivial));intros))
  simp only[decide_true]
  repeat(first|(refine wkB ?_;intros)|(refine wnM ?_ ?_;(focus(first|exact⟨hl1,hk1⟩|exact p5));intros))
  exact rtT rfl rfl
 ·repeat(first|(refine wkB ?_;intros)|(refine wnM ?_ ?_;(focus(exact trivial));intros))
  simp only[Zen hS,Bool.not_false]
  repeat(first|(refine wkB ?_;intros)|(refine wnM ?_ ?_;(focus(exact trivial));intros))
  exact rtT rfl rfl
end Go.Vt
namespace Go.Proofs.YtcgkgdgpdpihmaaGreatDoor
open Go.ChangeShapes Go.WideShapes Go.ChangeAt Go.RowKit Go.Deep Go.Vt
def LeW {H:Type}(P:Program)(t:TypeId)(d:DataW H):Prop:=∀n∈d.weights P t,n<=reachBytes
theorem Zqy {H:Type}{P:Program}{ts:List TypeId}{ds:List (DataW H)}(h:(DataW.weightsEach P ts ds).all (· <=reachBytes)=true){j:Nat}{t:TypeId}{d:DataW H}(ht:ts[j]? =some t)(hd:ds[j]? =some d):LeW P t d:=fun n hn=>by
 have:=List.all_eq_true.1 h _ (DataW.weights_mem_each ht hd n hn)
 simpa using this
theorem Zc1 {H:Type}{P:Program}{e:TypeId}:∀{l:List (DataW H)} {d:DataW H},d∈l->∀n∈d.weights P e,n∈DataW.weightsAll P e l
 |[],_,h,_,_=>by cases h
 |x::l,d,h,n,hn=>by
  simp only[DataW.weightsAll,List.mem_append]
  rcases List.mem_cons.1 h with rfl|h
  ·exact .inl hn
  ·exact .inr (Zc1 h n hn)
theorem ZlE {H:Type}{P:Program}{t e:TypeId}{elems spare:List (DataW H)}(hu:P.underlying t=some (.slice e))(h:LeW P t (.slice elems spare)):(elems.length+spare.length)*P.bytesOf e<=reachBytes/\∀d∈elems,LeW P e d:=by
 have hw:(DataW.slice elems spare).weights P t=(elems.length+spare.length)*P.bytesOf e::(DataW.weightsAll P e elems++DataW.weightsAll P e spare):=by simp[DataW.weights,hu]
 unfold LeW at h
 rw[hw] at h
 exact⟨h _ (.head _),fun d hd n hn=>h n (.tail _ (List.mem_append_left _ (Zc1 hd n hn)))⟩
theorem ZbN {H:Type}{P:Program}{t:TypeId}{fs:Array Field}{parts:List (DataW H)}(hu:P.underlying t=some (.struct fs))(h:LeW P t (.agg parts)){i:Nat}{f:Field}{d:DataW H}(hf:fs[i]? =some f)(hd:parts[i]? =some d):LeW P f.type d:=fun n hn=>by
 have hw:(DataW.agg parts).weights P t=DataW.weightsEach P (fs.toList.map (·.type)) parts:=by simp[DataW.weights,hu]
 unfold LeW at h
 rw[hw] at h
 exact h n (DataW.weights_mem_each (by simp[hf]) hd n hn)
theorem ZpT {H:Type}{P:Program}{t:TypeId}{s:List UInt8}(h:LeW (H:=H) P t (.lit (.string s))):s.length<=reachBytes:=h _ (by simp[DataW.weights])
theorem ru9 :Tryz.prog.underlying 9=some .string:=by kernel_rfl
theorem rc9 :Tryz.prog.cellsOf 9=1:=by kernel_rfl
theorem rc31 :Tryz.prog.cellsOf 31=2:=by kernel_rfl
theorem rc33 :Tryz.prog.cellsOf 33=4:=by kernel_rfl
theorem rc35 :Tryz.prog.cellsOf 35=9:=by kernel_rfl
theorem rc37 :Tryz.prog.cellsOf 37=20:=by kernel_rfl
theorem rc46 :Tryz.prog.cellsOf 46=21:=by kernel_rfl
theorem ru22 :Tryz.prog.underlying 22=some (.slice 46):=by kernel_rfl
theorem reach47 :reachBytes<=140737488355328:=by decide
theorem ru31 :∃f0 f1,Tryz.prog.underlying 31=some (.struct #[f0,f1])/\f0.type=4/\f1.type=9/\f0.offset=0/\f1.offset=1:=⟨_,_,Tryz.underlying31,rfl,rfl,rfl,rfl⟩
theorem ru33 :∃f0 f1,Tryz.prog.underlying 33=some (.struct #[f0,f1])/\f0.type=31/\f1.type=31/\f0.offset=0/\f1.offset=2:=⟨_,_,Tryz.underlying33,rfl,rfl,rfl,rfl⟩
theorem ru35 :∃f0 f1 f2,Tryz.prog.underlying 35=some (.struct #[f0,f1,f2])/\f0.type=33/\f1.type=33/\f2.type=4/\f0.offset=0/\f1.offset=4/\f2.offset=8:=⟨_,_,_,Tryz.underlying35,rfl,rfl,rfl,rfl,rfl,rfl⟩
theorem ru37 :∃f0 f1 f2 f3,Tryz.prog.underlying 37=some (.struct #[f0,f1,f2,f3])/\f0.type=35/\f1.type=35/\f2.type=4/\f3.type=4/\f0.offset=0/\f1.offset=9/\f2.offset=18/\f3.offset=19:=⟨_,_,_,_,Tryz.underlying37,rfl,rfl,rfl,rfl,rfl,rfl,rfl,rfl⟩
theorem ru46 :∃f0 f1,Tryz.prog.underlying 46=some (.struct #[f0,f1])/\f0.type=37/\f1.type=3/\f0.offset=0/\f1.offset=20:=⟨_,_,Tryz.underlying46,rfl,rfl,rfl,rfl⟩
theorem e33 (x:ZK):(Zn x).toList=(Zt x.Num).toList++(Zt x.Den).toList:=rfl
theorem e35 (x:ZI):(Zc x).toList=(Zn x.P).toList++((Zn x.R).toList++[.bool x.Neg]):=rfl
theorem e37 (x:Zr):(Zh x).toList=(Zc x.From).toList++((Zc x.To).toList++([.bool x.OpenFrom]++[.bool x.OpenTo])):=rfl
theorem e46 (x:ZJ):(Zm x).toList=(Zh x.In).toList++[.int .i64 x.Label]:=rfl
section
variable {H : Type} {eH : TypeId × Value -> H} {W : World} {base : Nat} {sp : Nat -> Bool} {held : Bool}
theorem ZhJ (n:Nat)(cs:List Value)(y:DataW H×List MemPlace)(h:DataW.trod eH Tryz.prog W base sp held n 31 cs=some y)(hw:LeW Tryz.prog 31 y.1):∃x:ZN,cs=(Zt x).toList/\x.Mag.size<=140737488355328:=by
 obtain⟨f0,f1,he,t0,t1,o0,o1⟩:=ru31
 obtain⟨xs,k,hk,hxy,hlen,hxl,hf⟩:=DataW.trod_struct he h
 rw[rc31] at hlen
 rw[hxy] at hw
 match xs,hxl,cs,hlen,hw with
 |[y0,y1],_,[v0,v1],_,hw=>
  have g0:=hf 0 f0 rfl
  have g1:=hf 1 f1 rfl
  have w1:=ZbN he hw (i:=1) (f:=f1) (d:=y1.1) rfl rfl
  simp[o0,t0,o1,t1,rc4,rc9] at g0 g1
  obtain⟨b0,p0,_⟩:=DataW.trod_bool ru4 g0
  obtain⟨b1,p1,x1,_⟩:=DataW.trod_string ru9 g1
  rw[t1] at w1
  rw[show y1.1= .lit (.string b1.data.toList) by rw[x1]] at w1
  have z1:=Nat.le_trans (ZpT w1) reach47
  simp only[List.cons.injEq,and_true] at p0 p1
  subst p0 p1
  exact⟨⟨b0,b1⟩,rfl,by simpa using z1⟩
theorem ZhN (n:Nat)(cs:List Value)(y:DataW H×List MemPlace)(h:DataW.trod eH Tryz.prog W base sp held n 33 cs=some y)(hw:LeW Tryz.prog 33 y.1):∃x:ZK,cs=(Zn x).toList/\x.Num.Mag.size+x.Den.Mag.size<=281474976710656:=by
 obtain⟨f0,f1,he,t0,t1,o0,o1⟩:=ru33
 obtain⟨xs,k,hk,hxy,hlen,hxl,hf⟩:=DataW.trod_struct he h
 rw[rc33] at hlen
 rw[hxy] at hw
 match xs,hxl,cs,hlen,hw with
 |[y0,y1],_,[v0,v1,v2,v3],_,hw=>
  have g0:=hf 0 f0 rfl
  have g1:=hf 1 f1 rfl
  have w0:=ZbN he hw (i:=0) (f:=f0) (d:=y0.1) rfl rfl
  have w1:=ZbN he hw (i:=1) (f:=f1) (d:=y1.1) rfl rfl
  simp[o0,t0,o1,t1,rc31] at g0 g1
  rw[t0] at w0
  obtain⟨b0,p0,z0⟩:=ZhJ _ _ _ g0 w0
  rw[t1] at w1
  obtain⟨b1,p1,z1⟩:=ZhJ _ _ _ g1 w1
  refine⟨⟨b0,b1⟩, ?_,by dsimp only;omega⟩
  rw[e33]
  show [v0,v1]++[v2,v3]=_
  rw[p0,p1]
theorem Zh4 (n:Nat)(cs:List Value)(y:DataW H×List MemPlace)(h:DataW.trod eH Tryz.prog W base sp held n 35 cs=some y)(hw:LeW Tryz.prog 35 y.1):∃x:ZI,cs=(Zc x).toList/\sumRW x<=562949953421312:=by
 obtain⟨f0,f1,f2,he,t0,t1,t2,o0,o1,o2⟩:=ru35
 obtain⟨xs,k,hk,hxy,hlen,hxl,hf⟩:=DataW.trod_struct he h
 rw[rc35] at hlen
 rw[hxy] at hw
 match xs,hxl,cs,hlen,hw with
 |[y0,y1,y2],_,[v0,v1,v2,v3,v4,v5,v6,v7,v8],_,hw=>
  have g0:=hf 0 f0 rfl
  have g1:=hf 1 f1 rfl
  have g2:=hf 2 f2 rfl
  have w0:=ZbN he hw (i:=0) (f:=f0) (d:=y0.1) rfl rfl
  have w1:=ZbN he hw (i:=1) (f:=f1) (d:=y1.1) rfl rfl
  simp[o0,t0,o1,t1,o2,t2,rc4,rc33] at g0 g1 g2
  rw[t0] at w0
  obtain⟨b0,p0,z0⟩:=ZhN _ _ _ g0 w0
  rw[t1] at w1
  obtain⟨b1,p1,z1⟩:=ZhN _ _ _ g1 w1
  obtain⟨b2,p2,_⟩:=DataW.trod_bool ru4 g2
  refine⟨⟨b0,b1,b2⟩, ?_,by unfold sumRW;dsimp only;omega⟩
  rw[e35]
  show [v0,v1,v2,v3]++([v4,v5,v6,v7]++[v8])=_
  rw[p0,p1,p2]
theorem ZoE (n:Nat)(cs:List Value)(y:DataW H×List MemPlace)(h:DataW.trod eH Tryz.prog W base sp held n 37 cs=some y)(hw:LeW Tryz.prog 37 y.1):∃x:Zr,cs=(Zh x).toList/\sumRW x.From<=562949953421312/\sumRW x.To<=562949953421312:=by
 obtain⟨f0,f1,f2,f3,he,t0,t1,t2,t3,o0,o1,o2,o3⟩:=ru37
 obtain⟨xs,k,hk,hxy,hlen,hxl,hf⟩:=DataW.trod_struct he h
 rw[rc37] at hlen
 rw[hxy] at hw
 match xs,hxl,cs,hlen,hw with
 |[y0,y1,y2,y3],_,[v0,v1,v2,v3,v4,v5,v6,v7,v8,v9,v10,v11,v12,v13,v14,v15,v16,v17,v18,v19],_,hw=>
  have g0:=hf 0 f0 rfl
  have g1:=hf 1 f1 rfl
  have g2:=hf 2 f2 rfl
  have g3:=hf 3 f3 rfl
  have w0:=ZbN he hw (i:=0) (f:=f0) (d:=y0.1) rfl rfl
  have w1:=ZbN he hw (i:=1) (f:=f1) (d:=y1.1) rfl rfl
  simp[o0,t0,o1,t1,o2,t2,o3,t3,rc4,rc35] at g0 g1 g2 g3
  rw[t0] at w0
  obtain⟨b0,p0,z0⟩:=Zh4 _ _ _ g0 w0
  rw[t1] at w1
  obtain⟨b1,p1,z1⟩:=Zh4 _ _ _ g1 w1
  obtain⟨b2,p2,_⟩:=DataW.trod_bool ru4 g2
  obtain⟨b3,p3,_⟩:=DataW.trod_bool ru4 g3
  refine⟨⟨b0,b1,b2,b3⟩, ?_,⟨z0,z1⟩⟩
  rw[e37]
  show [v0,v1,v2,v3,v4,v5,v6,v7,v8]++([v9,v10,v11,v12,v13,v14,v15,v16,v17]++([v18]++[v19]))=_
  rw[p0,p1,p2,p3]
theorem Zno (n:Nat)(cs:List Value)(y:DataW H×List MemPlace)(h:DataW.trod eH Tryz.prog W base sp held n 46 cs=some y)(hw:LeW Tryz.prog 46 y.1):∃x:ZJ,cs=(Zm x).toList/\WtU x:=by
 obtain⟨f0,f1,he,t0,t1,o0,o1⟩:=ru46
 obtain⟨xs,k,hk,hxy,hlen,hxl,hf⟩:=DataW.trod_struct he h
 rw[rc46] at hlen
 rw[hxy] at hw
 match xs,hxl,cs,hlen,hw with
 |[y0,y1],_,[v0,v1,v2,v3,v4,v5,v6,v7,v8,v9,v10,v11,v12,v13,v14,v15,v16,v17,v18,v19,v20],_,hw=>
  have g0:=hf 0 f0 rfl
  have g1:=hf 1 f1 rfl
  have w0:=ZbN he hw (i:=0) (f:=f0) (d:=y0.1) rfl rfl
  simp[o0,t0,o1,t1,rc3,rc37] at g0 g1
  rw[t0] at w0
  obtain⟨b0,p0,z0⟩:=ZoE _ _ _ g0 w0
  obtain⟨b1,p1,_,q1⟩:=DataW.trod_int ru3 g1
  refine⟨⟨b0,b1⟩, ?_,z0⟩
  rw[e46]
  show [v0,v1,v2,v3,v4,v5,v6,v7,v8,v9,v10,v11,v12,v13,v14,v15,v16,v17,v18,v19]++[v20]=_
  rw[p0,p1]
end
theorem Zk3 {H:Type}{eH:TypeId×Value->H}{W:World}{base:Nat}{sp:Nat->Bool}{held:Bool}{fuel:Nat}{v:Value}{x:DataW H×List MemPlace}(hs:∃a l c,v= .slice a l c)(h:DataW.trod eH Tryz.prog W base sp held fuel 22 v.cells.toList=some x)(hw:LeW Tryz.prog 22 x.1):
  ∃xs:List RW,ArgS W v rRW xs/\(∀x∈xs,WtU x)/\xs.length<=9223372036854775807:=by
 obtain⟨a0,l0,c0,rfl⟩:=hs
 rcases open_slice ru22 h with⟨h0,_⟩|⟨a,len,cap,m,n,D,Pl,hcs,hb,hl,hm,hmm,hx,hcl⟩
 ·simp[Value.cells] at h0
  obtain⟨rfl,rfl,rfl⟩:=h0
  exact⟨[],⟨.inl ⟨rfl,rfl⟩⟩,(fun x hx=>by cases hx),by simp⟩
 ·simp[Value.cells] at hcs
  obtain⟨rfl,rfl,rfl⟩:=hcs
  have hlm:l0<=m:=by rw[hmm];split <;> omega
  have hx1:x.1= .slice ((List.range l0).map D) ((List.range (m-l0)).map fun j=>D (l0+j)):=by rw[hx]
  rw[hx1] at hw
  obtain⟨w1,w2⟩:=ZlE ru22 hw
  have each:∀i,i<l0->∃z:RW,(∃cs',W.cells? base (a.add (i*21)) 21=some cs'/\cs'=(rRW z).toList)/\WtU z:=fun i hi=>by
   obtain⟨cs',c1,c2⟩:=hcl i (by omega)
   rw[rc46] at c1
   obtain⟨z,z1,z2⟩:=Zno _ _ _ c2 (w2 _ (List.mem_map.2 ⟨i,List.mem_range.2 hi,rfl⟩))
   exact⟨z,⟨cs',c1,z1⟩,z2⟩
  obtain⟨q,hq⟩:=choose_lt each
  refine⟨(List.range l0).map q,⟨.inr ⟨a,c0,by simp,by simpa using hl,fun i f k' u hi hk hu=>?_⟩⟩,fun z hz=>?_, ?_⟩
  ·simp only[List.length_map,List.length_range] at hi
   obtain rfl:k'=21:=by rw[<-hk default,Zlq.size]
   simp only[List.getElem_map,List.getElem_range] at hu
   obtain⟨cs',c1,c2⟩:=(hq i hi).1
   obtain⟨_,hlen,hcell⟩:=World.cells?_some c1
   have hf:f<21:=by
    have:=(Array.getElem?_eq_some_iff.1 hu).1
    rw[Zlq.size] at this
    exact this
   have h1:=hcell f (by omega)
   rw[add_add] at h1
   rw[h1]
   subst c2
   simpa using hu
  ·obtain⟨i,hi,rfl⟩:=List.mem_map.1 hz
   exact(hq i (List.mem_range.1 hi)).2
  ·simp only[List.length_map,List.length_range]
   have:(maxLen:Nat)=9223372036854775807:=by decide
   omega
end Go.Proofs.YtcgkgdgpdpihmaaGreatDoor
namespace Go.Proofs.YtcgkgdgpdpihmaaGreatDoor
open Go.ChangeShapes Go.WideShapes Go.ChangeAt Go.RowKit Go.Deep
def chsArgs :Array Value:=#[.slice none 0 0, .slice none 0 0]
theorem Zqu (os:Os)(args:Array Value):laidMet Tryz.prog Rows.movinglabelChecksRow.laid ((laidWorld os).forCall (fun _ _=>0) ⟨#[],args,[]⟩).memory:=
 laidMet_of_run3 8 (by kernel_rfl) (by kernel_rfl) (by kernel_rfl)
theorem ZmT (os:Os){H:Type}(enc:TypeId×Value->H):∃places,DataW.whole enc Tryz.prog ((laidWorld os).forCall (fun _ _=>0) ⟨#[],chsArgs,[]⟩).memory Tryz.f3.params.toList Rows.movinglabelChecksSpec.vars false chsArgs.toList 8=some ([.nil, .nil],[],places):=
 ⟨[],by kernel_rfl⟩
theorem ZhU (H:Type)(enc:TypeId×Value->H)(W:World)(base:Nat)(args:Array Value)(ds gs:List (DataW H))(before:List MemPlace)
  (hval:∀(j:Nat) t v,Tryz.f3.params[j]? =some t->args[j]? =some v->Value.okWide Tryz.prog W .any base t v)
  (hW:DataW.Whole enc Tryz.prog Tryz.f3.params.toList Rows.movinglabelChecksSpec.vars false W args.toList ds gs before)
  (hwt:(DataW.weightsEach Tryz.prog (Tryz.f3.params.toList++(OpenSpec.ofChange Rows.movinglabelChecksSpec).bare.plain.varTypes Tryz.prog) (ds++gs)).all (· <=reachBytes)=true):
  Calls Tryz.prog 3 args W fun e W'=>∃v,e= .returned v/\Rows.movinglabelChecksSpec.post enc Tryz.prog Tryz.f3 false true false false W args v W':=by
 have hW':=hW
 obtain⟨p,q,hA0,hV,rfl,hfz,hnd⟩:=hW
 have hA:DataW.TrodAll enc Tryz.prog W 0 (fun _=>true) true Tryz.f3.params.toList args.toList ds p:=hA0
 rw[Tryz.params3] at hA hval hwt
 obtain⟨v0,vs0,d0,ds0,p0,q0,hargs0,rfl,rfl,h0,r0⟩:=trodAll_cons hA
 obtain⟨v1,vs1,d1,ds1,p1,q1,hargs1,rfl,rfl,h1,r1⟩:=trodAll_cons r0
 subst hargs1
 obtain⟨rfl,rfl,rfl⟩:=trodAll_nil r1
 obtain rfl:args=#[v0,v1]:=by cases args;simp_all
 obtain⟨rfl,rfl⟩:=trodVars_none hV
 clear hA0
 simp only[List.append_nil] at hW'
 have hlt:∀x∈p0++(p1),x.block<W.heap.size:=fun x hx=>by simpa using hW'.lt x hx
 have h0k:=h0
 have h1k:=h1
 obtain⟨fuel0,hf0⟩:=h0
 have hw0:=Zqy hwt (j:=0) (t:=22) (d:=d0) rfl rfl
 obtain⟨ws0,hws0,hok0,hlen0⟩:=Zk3 (okWide_slice Tryz.underlying22 (hval 0 22 v0 rfl rfl)) hf0 hw0
 obtain⟨fuel1,hf1⟩:=h1
 obtain⟨ws1,hws1,hok1,hlen1⟩:=Zos (okWide_slice Tryz.underlying23 (hval 1 23 v1 rfl rfl)) hf1
 refine(Go.Vt.lchecks_spec v0 v1 ws0 ws1 W hws0 hok0 hlen0 hws1 hlen1 hok1).mono fun e' W' ⟨he',⟨hb,_⟩⟩=>?_
 subst he'
 exact⟨_,rfl,⟨_,_,_,[],_,[],hW',trodAll_mk1 (shut_bool Tryz.underlying4 _),trodAll_mk2 (Below.trod rlaidOut (by kernel_rfl) (of_decide_eq_true (by kernel_rfl)) h0k hb (fun x hx=>hlt x (List.mem_append_left _ hx))) (Below.trod rlaidOut (by kernel_rfl) (of_decide_eq_true (by kernel_rfl)) h1k hb (fun x hx=>hlt x (List.mem_append_right _ (hx)))),(by first|rfl|(simp;done)),hb.frame _,fun h=>by cases h⟩⟩
theorem chs_lifted (os:Os)(started:os.Started)(H:Type)(enc:TypeId×Value->H)(F:Stop.Interp):
  ReturnsInHanded {} Tryz.checked os 3 .any ((OpenSpec.ofChange Rows.movinglabelChecksSpec).preRow enc Tryz.prog Tryz.f3 Rows.movinglabelChecksRow.domain false Rows.movinglabelChecksRow.laid) (((OpenSpec.ofChange Rows.movinglabelChecksSpec).at F).post enc Tryz.prog Tryz.f3 false true false false):=by
 obtain⟨places,hx⟩:=ZmT os enc
 refine returnsInHanded_of_row (C:=Tryz.checked) (s:=OpenSpec.ofChange Rows.movinglabelChecksSpec) rown started (by kernel_rfl) Tryz.func3
  (witness_row_at (enc:=enc) (C:=Tryz.checked) false (laidWorld os) chsArgs rfl (by kernel_rfl) (by kernel_rfl) (by kernel_rfl)
   (OpenSpec.preRow_of_cond 8 hx (by kernel_rfl) (fun k hk=>by cases hk) (by kernel_rfl) (Zqu os _))) ?_
 intro W base args ds gs before hval hW _ _ hwt _ _ _
 exact ZhU H enc W base args ds gs before hval hW hwt
end Go.Proofs.YtcgkgdgpdpihmaaGreatDoor
