/- For any moving label and any length, Visits returns the labels of the units without repetitions, and Longer the units that last at least so long. Conditions: none. (part 23 of 27.) Conditions: those that each statement names. -/
import Derived.Test.YtcgkgdgpdpihmaaGreatDoorProg
import Derived.Test.YtcgkgdgpdpihmaaGreatDoorKV10
import Derived.Test.YtcgkgdgpdpihmaaGreatDoorKV16
import Derived.Test.YtcgkgdgpdpihmaaGreatDoorKV19
import Derived.Test.YtcgkgdgpdpihmaaGreatDoorKV20
import Derived.Test.YtcgkgdgpdpihmaaGreatDoorKV21
import Derived.Test.YtcgkgdgpdpihmaaGreatDoorKV22
set_option linter.unusedSimpArgs false
set_option linter.unusedVariables false
set_option maxHeartbeats 2000000
set_option maxRecDepth 100000
namespace Go.Vt
open Go.RowKit Go.Proofs
open Go.Proofs.Tryz (prog)
section
instance (priority :=high) Zy5 {P:Program}{w0:World}{n:Nat}{L:List Blk}{E:Env}{T T0:TypeId}{x:Operand}{b:Nat}{i:Int}{a1 a2:Sl}[IsC (evl E x) (.pointer (some ⟨b,0+i.toNat*1,none⟩))][h:AtC w0 L b (row eSlc [a1,a2] []) T0][hv:LdC P T (eSlc (gi [a1,a2] i)) 0 (.slice (gi [a1,a2] i).a (gi [a1,a2] i).len (gi [a1,a2] i).cap)]:YsC P w0 n L E (.load T x) (.slice (gi [a1,a2] i).a (gi [a1,a2] i).len (gi [a1,a2] i).cap) (0<=i/\i<2):=⟨fun hi=>Zh8.out (by show i.toNat<2;omega)⟩
theorem ZnY (x y:Ev):∀w:World,(Instr.buildSlice 213 2 [(0,vEv x),(1,vEv y)].toArray).run prog w= .ok (.slice (some ⟨w.heap.size,0,none⟩) 2 2) (w.alloc (.cells (row eEv [x,y] []) 216)):=fun w=>by kernel_rfl
instance ZyD (x y:Ev):BsC prog 213 2 [(0,vEv x),(1,vEv y)] (row eEv [x,y] []) 216:=⟨ZnY x y⟩
instance (priority :=high) Zy6 {P:Program}{w0:World}{n:Nat}{L:List Blk}{E:Env}{T T0:TypeId}{x:Operand}{b:Nat}{i a1 a2:Int}[IsC (evl E x) (.pointer (some ⟨b,0+i.toNat*1,none⟩))][h:AtC w0 L b (row (eI .i64) [a1,a2] []) T0][hv:LdC P T (eI .i64 (gi [a1,a2] i)) 0 (.int .i64 (gi [a1,a2] i))]:YsC P w0 n L E (.load T x) (.int .i64 (gi [a1,a2] i)) (0<=i/\i<2):=⟨fun hi=>Zh8.out (by show i.toNat<2;omega)⟩
instance ZxY (x:Ev):LdC prog 3 (eEv x) (10+Int.toNat 0*1) (.int .i64 x.n0):=⟨ZD⟩
instance ZwA (x:Ev):LdC prog 3 (eEv x) (10+Int.toNat 1*1) (.int .i64 x.n1):=⟨ZD⟩
set_option maxHeartbeats 4000000 in
theorem Zjl (kf:FuncId)(kp:Bool->Bool->Bool)[CallC prog kf](hkp:∀a b,SpecC prog kf [.bool a, .bool b] (.bool (kp a b)) True)(v1 v2:Value)(is js:List Za)(w:World)(hv1:ArgS w v1 rI is)(hv2:ArgS w v2 rI js)(hl:2*is.length+2*js.length<=65536)(hk0:kp false false=false)(ho1:∀i∈is,BdOk (bdF i)/\BdOk (bdL i))(ho2:∀i∈js,BdOk (bdF i)/\BdOk (bdL i)):
  Calls prog 138 [v1,v2,vFn kf].toArray w (RetM (SlS rI 20 (swpR kp is js)) (fun s=>vSl s) (fun s=>mS 37 s) w):=by
 refine Zb Tryz.func138 rfl Tryz.ntmps138 rfl ?_
 obtain⟨p1,c1,rfl⟩:=hv1.form
 obtain⟨p2,c2,rfl⟩:=hv2.form
 repeat(refine wkB ?_;intros)
 rename_i b23
 refine Zq (S:=(ys:List Ev)×Nat×SlS eEv 12 ys) (fun s=>s.1=evK is js s.2.1/\s.2.1<=2) (fun s=>[(2,vFn kf),(7,vSl s.2.2),(23, .slice (some ⟨b23,0,none⟩) 2 2),(24, .int .i64 2),(25, .int .i64 (s.2.1:Nat))])
  (fun s=>mS 216 s.2.2++[⟨b23,row eSlc [⟨p1,is.length,c1⟩,⟨p2,js.length,c2⟩] [],47⟩]) (fun s=>2-s.2.1) ⟨[],0,SlS.no⟩ ⟨rfl,Wm _⟩ sbB slB (fun s hs=>?_)
 obtain⟨ys,k,s⟩:=s
 obtain⟨hys,hk⟩:=hs
 simp only at hys hk s⊢
 have hz:prog.info? 0=prog.info? 0:=rfl
 repeat(refine wkB ?_;intros)
 rcases(by omega:k=0\/k=1\/k=2) with h0|h0|h0
 ·subst h0
  simp only[Wc (show((0:Nat):Int)<2 by omega)]
  repeat(refine wkB ?_;intros)
  simp only[show gi [(⟨p1,is.length,c1⟩:Sl),⟨p2,js.length,c2⟩] ((0:Nat):Int)=⟨p1,is.length,c1⟩ from rfl]
  repeat(refine wkB ?_;intros)
  refine Zq (S:=(zs:List Ev)×Nat×SlS eEv 12 zs) (fun r=>r.1=evA is r.2.1/\r.2.1<=is.length) (fun r=>[(2,vFn kf),(7,vSl r.2.2),(8, .int .i64 0),(23, .slice (some ⟨b23,0,none⟩) 2 2),(24, .int .i64 2),(25, .int .i64 0),(30, .slice p1 is.length c1),(31, .int .i64 is.length),(32, .int .i64 (r.2.1:Nat))])
   (fun r=>mS 216 r.2.2++[⟨b23,row eSlc [⟨p1,is.length,c1⟩,⟨p2,js.length,c2⟩] [],47⟩]) (fun r=>is.length-r.2.1) ⟨ys,0,s⟩ ⟨hys,Wm _⟩ sbB slB (fun r hr=>?_)
  obtain⟨zs,m,r⟩:=r
  obtain⟨hzs,hm⟩:=hr
  simp only at hzs hm r⊢
  repeat(refine wkB ?_;intros)
  refine Zi rfl (fun h=>?_) (fun h=>?_)
  ·have hlt:m<is.length:=by have:=Wa h;omega
   have hne:is≠[]:=fun h0=>by rw[h0] at hlt;simp at hlt
   obtain⟨bw,ow,cw,hvw,hcw,hrow⟩:=hv1.blk (k:=19) hne []
   injection hvw with e1 e2 e3
   subst e1
   subst e3
   have hrow':∀L,RowC w L bw ow Za rI is:=fun L=>⟨fun w' hw'=>hrow.out w' (hw'.sub (Wk _))⟩
   have hel:=Zd6 is m
   repeat(refine wkB ?_;intros)
   rename_i b11
   obtain⟨iv,hiv⟩:∃iv,iv=gi is (m:Int):=⟨_,rfl⟩
   simp only[<-hiv]
   (refine Zcl [0,1,2,3,4,5] [6,7] [8,9] ([⟨b11,Zk (Zl iv),37⟩]) (h:=?_);refine wkI ?_)
   (repeat(refine wkH ?_))
   repeat(refine wkT ?_;intros)
   repeat(refine wkB ?_;intros)
   refine sU rfl rfl ?_ ?_ ?_ ?_
   ·rfl
   ·rfl
   ·exact⟨by decide,by rw[hzs];omega,by rw[hzs];omega⟩
   intro r'
   repeat(first|(refine wkB ?_;intros)|(refine wnM ?_ ?_;(focus(exact⟨by omega,by omega⟩));intros))
   exact Ze ⟨_,m+1,r'⟩ ⟨by show zs++_=evA is m++_;rw[hzs,hiv],hlt⟩ sbB suB (by show is.length-(m+1)<is.length-m;omega)
  ·have hge:m=is.length:=by have:=Wb h;omega
   subst hge
   repeat(refine wkB ?_;intros)
   exact Ze ⟨zs,1,r⟩ ⟨hzs,Nat.le_of_ble_eq_true rfl⟩ sbB suB (by show 2-1<2-0;decide)
 ·subst h0
  simp only[Wc (show((1:Nat):Int)<2 by omega)]
  repeat(refine wkB ?_;intros)
  simp only[show gi [(⟨p1,is.length,c1⟩:Sl),⟨p2,js.length,c2⟩] ((1:Nat):Int)=⟨p2,js.length,c2⟩ from rfl]
  repeat(refine wkB ?_;intros)
  refine Zq (S:=(zs:List Ev)×Nat×SlS eEv 12 zs) (fun r=>r.1=evA is is.length++evB js r.2.1/\r.2.1<=js.length) (fun r=>[(2,vFn kf),(7,vSl r.2.2),(8, .int .i64 1),(23, .slice (some ⟨b23,0,none⟩) 2 2),(24, .int .i64 2),(25, .int .i64 1),(30, .slice p2 js.length c2),(31, .int .i64 js.length),(32, .int .i64 (r.2.1:Nat))])
   (fun r=>mS 216 r.2.2++[⟨b23,row eSlc [⟨p1,is.length,c1⟩,⟨p2,js.length,c2⟩] [],47⟩]) (fun r=>js.length-r.2.1) ⟨ys,0,s⟩ ⟨by rw[evB,Wh];exact hys,Wm _⟩ sbB slB (fun r hr=>?_)
  obtain⟨zs,m,r⟩:=r
  obtain⟨hzs,hm⟩:=hr
  simp only at hzs hm r⊢
  repeat(refine wkB ?_;intros)
  refine Zi rfl (fun h=>?_) (fun h=>?_)
  ·have hlt:m<js.length:=by have:=Wa h;omega
   have hne:js≠[]:=fun h0=>by rw[h0] at hlt;simp at hlt
   obtain⟨bw,ow,cw,hvw,hcw,hrow⟩:=hv2.blk (k:=19) hne []
   injection hvw with e1 e2 e3
   subst e1
   subst e3
   have hrow':∀L,RowC w L bw ow Za rI js:=fun L=>⟨fun w' hw'=>hrow.out w' (hw'.sub (Wk _))⟩
   have hel:=ZfB js m
   have hel2:=Zd6 is is.length
   repeat(refine wkB ?_;intros)
   rename_i b11
   obtain⟨iv,hiv⟩:∃iv,iv=gi js (m:Int):=⟨_,rfl⟩
   simp only[<-hiv]
   (refine Zcl [0,1,2,3,4,5] [6,7] [8,9] ([⟨b11,Zk (Zl iv),37⟩]) (h:=?_);refine wkI ?_)
   (repeat(refine wkH ?_))
   repeat(refine wkT ?_;intros)
   repeat(refine wkB ?_;intros)
   refine sU rfl rfl ?_ ?_ ?_ ?_
   ·rfl
   ·rfl
   ·exact⟨by decide,by rw[hzs,Wp];omega,by rw[hzs,Wp];omega⟩
   intro r'
   repeat(first|(refine wkB ?_;intros)|(refine wnM ?_ ?_;(focus(exact⟨by omega,by omega⟩));intros))
   exact Ze ⟨_,m+1,r'⟩ ⟨by show zs++_=evA is is.length++(evB js m++_);rw[hzs,hiv,List.append_assoc],hlt⟩ sbB suB (by show js.length-(m+1)<js.length-m;omega)
  ·have hge:m=js.length:=by have:=Wb h;omega
   subst hge
   repeat(refine wkB ?_;intros)
   exact Ze ⟨zs,2,r⟩ ⟨hzs,Nat.le_of_ble_eq_true rfl⟩ sbB suB (by show 2-2<2-1;decide)
 ·subst h0
  simp only[We (show¬((2:Nat):Int)<2 by omega)]
  have hlen2:ys.length<=65536:=by
   rw[hys]
   show(evA is is.length++evB js js.length).length<=65536
   rw[Wp,Zd6,ZfB]
   exact hl
  have hbd:∀u∈ys,BdOk u.b:=by
   rw[hys]
   intro u hu
   rcases List.mem_append.1 (show u∈evA is is.length++evB js js.length from hu) with h1|h1
   ·exact Zj4 ho1 _ (Wl _) u h1
   ·exact ZkR ho2 _ (Wl _) u h1
  repeat(refine wkB ?_;intros)
  refine sZ rfl rfl ?_ ?_
  ·exact⟨by omega,hbd⟩
  intro s'
  obtain⟨⟨es,hso⟩,s3,hv3⟩:=s'
  dsimp only
  dsimp only at s3 hv3
  repeat(refine wkB ?_;intros)
  rename_i b15 b16
  have hzl:ys.length=es.length:=hso.p.length_eq.symm
  have hzb:∀u∈es,BdOk u.b:=fun u hu=>hbd u (hso.p.mem_iff.1 hu)
  have hz1:∀u∈es,Ev1 u:=fun u hu=>by
   have h2:=hso.p.mem_iff.1 hu
   rw[hys] at h2
   rcases List.mem_append.1 (show u∈evA is is.length++evB js js.length from h2) with h3|h3
   ·exact Znl _ _ u h3
   ·exact Zny _ _ u h3
  simp only[<-hv3,hzl]
  refine Zq (S:=(q:SwS)×Nat×SlS rI 20 q.out) (fun r=>r.1=sws kp es r.2.1/\r.2.1<=es.length) (fun r=>[(2,vFn kf),(7,vSl s3),(14,vSl r.2.2),(15, .pointer (some ⟨b15,0,none⟩)),(16, .pointer (some ⟨b16,0,none⟩)),(17, .bool r.1.on),(57,vSl s3),(58, .int .i64 es.length),(59, .int .i64 (r.2.1:Nat))])
   (fun r=>mS 37 r.2.2++(⟨b16,ZM (ZP r.1.fr),193⟩::⟨b15,row (eI .i64) [r.1.n0,r.1.n1] [],78⟩::mS 216 s3)) (fun r=>es.length-r.2.1) ⟨sws kp es 0,0,SlS.no⟩ ⟨rfl,Wm _⟩ sbB suB (fun r hr=>?_)
  obtain⟨q,m,r⟩:=r
  obtain⟨hq,hm⟩:=hr
  simp only at hq hm r⊢
  repeat(refine wkB ?_;intros)
  refine Zi rfl (fun h=>?_) (fun h=>?_)
  ·have hlt:m<es.length:=by have:=Wa h;omega
   rcases s3.cases 216 with⟨h0, -, -⟩|⟨bE,cE,spE,hc1,hvE,hmE,hneE⟩
   ·rw[h0] at hlt;simp at hlt
   ·simp only[hvE,hmE]
    obtain⟨w1,w2⟩:=ZiS (kp:=kp) hz1 m (by omega)
    rw[<-hq] at w1 w2
    obtain⟨w3,w4⟩:=hz1 _ (Zz (i:=(m:Int)) (xs:=es) (by omega))
    repeat(refine wkB ?_;intros)
    rename_i b19
    have q0:gi [q.n0,q.n1] 0=q.n0:=rfl
    have q1:gi [q.n0,q.n1] 1=q.n1:=rfl
    refine ZO (S:=Unit) (fun _=>True) (fun _=>[(2,vFn kf),(7, .slice (some ⟨bE,0,none⟩) es.length cE),(14,vSl r),(15, .pointer (some ⟨b15,0,none⟩)),(16, .pointer (some ⟨b16,0,none⟩)),(17, .bool q.on),(18, .int .i64 (m:Nat)),(19, .pointer (some ⟨b19,0,none⟩)),(57, .slice (some ⟨bE,0,none⟩) es.length cE),(58, .int .i64 es.length),(59, .int .i64 (m:Nat))])
     (fun _=>⟨b19,eEv (gi es (m:Int)),216⟩::(mS 37 r++[⟨b16,ZM (ZP q.fr),193⟩,⟨b15,row (eI .i64) [q.n0+(gi es (m:Int)).n0,q.n1+(gi es (m:Int)).n1] [],78⟩,⟨bE,row eEv es spE,216⟩])) ?_ (fun _ _=>?_)
    ·(refine ZF (.v [0,2,3,4,6,8,9,10] (.e2 1 (.v [5] (.e1 7 (.v [11,12] (.e1 13 (.v [14] (.e1 15 (.fin))))))) 7 (.v [11] (.e1 1 (.v [5,12] (.e1 13 (.v [14] (.e1 15 (.fin))))))))) ([⟨b19,eEv (gi es (m:Int)),216⟩]) (h:=?_);refine wkX ?_)
     repeat' (first|(with_reducible refine And.intro ?_ ?_)|(with_reducible exact True.intro)|(refine wkT ?_;intros)|fail)
     all_goals simp only[q0,q1]
     all_goals refine eR rfl ?_ ?_
     all_goals first|exact Nat.le_of_ble_eq_true rfl|skip
     repeat' (first|(with_reducible refine And.intro ?_ ?_)|(with_reducible exact True.intro)|(refine wkT ?_;intros)|fail)
     all_goals refine eR rfl ?_ ?_
     all_goals first|exact Nat.le_of_ble_eq_true rfl|skip
     repeat' (first|(with_reducible refine And.intro ?_ ?_)|(with_reducible exact True.intro)|(refine wkT ?_;intros)|fail)
     all_goals exact Zd () trivial sbB suB
    repeat(refine wkB ?_;intros)
    obtain⟨x,hx⟩:∃x,x=gi es (m:Int):=⟨_,rfl⟩
    obtain⟨nx,hnx⟩:∃nx,nx=gi es ((m+1:Nat):Int):=⟨_,rfl⟩
    obtain⟨N0,hN0⟩:∃N0,N0=q.n0+(gi es (m:Int)).n0:=⟨_,rfl⟩
    obtain⟨N1,hN1⟩:∃N1,N1=q.n1+(gi es (m:Int)).n1:=⟨_,rfl⟩
    simp only[<-hN0,<-hN1]
    have hxo:=hzb _ (Zz (i:=(m:Int)) (xs:=es) (by omega))
    have e1:(m:Int)+1=((m+1:Nat):Int):=by omega
    refine ZO (S:=Bool) (fun v=>v=decide (m+1<es.length/\cmpB x.b nx.b=0)) (fun v=>[(2,vFn kf),(7, .slice (some ⟨bE,0,none⟩) es.length cE),(14,vSl r),(15, .pointer (some ⟨b15,0,none⟩)),(16, .pointer (some ⟨b16,0,none⟩)),(17, .bool q.on),(18, .int .i64 (m:Nat)),(19, .pointer (some ⟨b19,0,none⟩)),(57, .slice (some ⟨bE,0,none⟩) es.length cE),(58, .int .i64 es.length),(59, .int .i64 (m:Nat)),(94, .bool v)])
     (fun _=>⟨b19,eEv (gi es (m:Int)),216⟩::(mS 37 r++[⟨b16,ZM (ZP q.fr),193⟩,⟨b15,row (eI .i64) [N0,N1] [],78⟩,⟨bE,row eEv es spE,216⟩])) ?_ (fun v hv=>?_)
    ·by_cases hml:m+1<es.length
     ·have hno:=hzb _ (Zz (i:=((m+1:Nat):Int)) (xs:=es) (by omega))
      refine jD 17 17 (h:=?_)
      (repeat(refine wkH ?_))
      simp only[Wc (show(m:Int)+1<(es.length:Int) by omega)]
      (repeat(refine wkH ?_))
      simp only[e1]
      (repeat(first|refine wkH ?_|(refine tC rfl rfl ?_ ?_;focus(exact⟨hxo,hno⟩))))
      refine Zo ?_
      refine Zr ?_
      repeat(refine wkB ?_;intros)
      exact Zd (decide (cmpB (gi es (m:Int)).b (gi es ((m+1:Nat):Int)).b=0)) (by rw[hx,hnx];simp[hml]) sbB suB
     ·refine jD 17 17 (h:=?_)
      (repeat(refine wkH ?_))
      simp only[We (show¬(m:Int)+1<(es.length:Int) by omega)]
      (repeat(refine wkH ?_))
      refine Zo ?_
      refine Zr ?_
      repeat(refine wkB ?_;intros)
      exact Zd false (by simp[hml]) sbB suB
    ·have hsw:sws kp es (m+1)=if m+1<es.length/\cmpB x.b nx.b=0 then⟨N0,N1,q.fr,q.on,q.out⟩ else
       ⟨N0,N1,if kp (decide (0<N0)) (decide (0<N1))&& !q.on then x.b else q.fr,kp (decide (0<N0)) (decide (0<N1)),if kp (decide (0<N0)) (decide (0<N1))&& !q.on then q.out else if !kp (decide (0<N0)) (decide (0<N1))&&q.on then q.out++[bdB q.fr x.b] else q.out⟩:=by
      rw[sws,<-hq,<-hx,<-hnx,hN0,hN1,hx]
     by_cases hc:m+1<es.length/\cmpB x.b nx.b=0
     ·rw[if_pos hc] at hsw
      rw[Wc hc] at hv
      subst hv
      repeat(first|(refine wkB ?_;intros)|(refine wnM ?_ ?_;(focus(exact⟨by omega,by omega⟩));intros))
      exact Ze ⟨⟨N0,N1,q.fr,q.on,q.out⟩,m+1,r⟩ ⟨hsw.symm,hlt⟩ sbB suB (by show es.length-(m+1)<es.length-m;omega)
     ·rw[if_neg hc] at hsw
      rw[We hc] at hv
      subst hv
      repeat(first|(refine wkB ?_;intros)|(refine wnM ?_ ?_;(focus(first|exact trivial|exact⟨by omega,by omega⟩));intros))
      obtain⟨nw,hnw⟩:∃nw,nw=kp (decide (0<N0)) (decide (0<N1)):=⟨_,rfl⟩
      simp only[show gi [N0,N1] 0=N0 from rfl,show gi [N0,N1] 1=N1 from rfl,<-hnw]
      rw[<-hnw] at hsw
      have hol:=Zii kp es m
      rw[<-hq] at hol
      obtain⟨n0',n1',fr,on,out⟩:=q
      simp only at hol
      simp only at hsw r⊢
      rcases nw with _|_ <;> rcases on with _|_
      ·repeat(first|(refine wkB ?_;intros)|(refine wnM ?_ ?_;(focus(exact⟨by omega,by omega⟩));intros))
       exact Ze ⟨⟨N0,N1,fr,false,out⟩,m+1,r⟩ ⟨hsw.symm,hlt⟩ sbB suB (by show es.length-(m+1)<es.length-m;omega)
      ·repeat(first|(refine wkB ?_;intros)|(refine wnM ?_ ?_;(focus(first|exact trivial|exact⟨by omega,by omega⟩));intros))
       rw[<-hx]
       refine sU rfl rfl ?_ ?_ ?_ ?_
       ·rfl
       ·rfl
       ·exact⟨by decide,by omega,by omega⟩
       intro r'
       repeat(first|(refine wkB ?_;intros)|(refine wnM ?_ ?_;(focus(exact⟨by omega,by omega⟩));intros))
       exact Ze ⟨⟨N0,N1,fr,false,out++[bdB fr x.b]⟩,m+1,r'⟩ ⟨hsw.symm,hlt⟩ sbB suB (by show es.length-(m+1)<es.length-m;omega)
      ·repeat(first|(refine wkB ?_;intros)|(refine wnM ?_ ?_;(focus(exact⟨by omega,by omega⟩));intros))
       rw[<-hx]
       exact Ze ⟨⟨N0,N1,x.b,true,out⟩,m+1,r⟩ ⟨hsw.symm,hlt⟩ sbB suB (by show es.length-(m+1)<es.length-m;omega)
      ·repeat(first|(refine wkB ?_;intros)|(refine wnM ?_ ?_;(focus(exact⟨by omega,by omega⟩));intros))
       exact Ze ⟨⟨N0,N1,fr,true,out⟩,m+1,r⟩ ⟨hsw.symm,hlt⟩ sbB suB (by show es.length-(m+1)<es.length-m;omega)
  ·have hge:m=es.length:=by have:=Wb h;omega
   subst hge
   subst hq
   repeat(refine wkB ?_;intros)
   have hfin:swpR kp is js=(sws kp es es.length).out:=by
    have h1:=ZdG is is.length
    have h2:=ZdG js js.length
    have h3:evK is js 2=evA is is.length++evB js js.length:=rfl
    unfold swpR
    rw[<-hys]
    refine(ZoL hk0 hso hbd ?_ ?_).symm
    ·rw[hys,h3,ZaM,h1.1.1,h2.2.1];rfl
    ·rw[hys,h3,ZaM,h1.1.2,h2.2.2];rfl
   obtain⟨r2,hr1,hr2⟩:=r.like hfin
   refine ZA (v:=vSl r2) rfl (by rw[hr1];rfl) (fun w hw=>⟨r2,rfl, ?_⟩)
   dsimp only
   rw[hr2]
   exact hw.sub suB
instance ZuE (w0:World)(L:List Blk)(kf:FuncId)(kp:Bool->Bool->Bool)[CallC prog kf][hkp:∀a b,SpecC prog kf [.bool a, .bool b] (.bool (kp a b)) True](v1 v2:Value)(is js:List Za)[h1:LstC w0 L v1 Za rI is][h2:LstC w0 L v2 Za rI js]:SpecR prog w0 L 138 [v1,v2,vFn kf] (SlS rI 20 (swpR kp is js)) (fun s=>vSl s) (fun s=>mS 37 s) (2*is.length+2*js.length<=65536/\kp false false=false/\(∀i∈is,BdOk (bdF i)/\BdOk (bdL i))/\∀i∈js,BdOk (bdF i)/\BdOk (bdL i)):=⟨fun hp w hw=>Zjl kf kp hkp v1 v2 is js w (h1.out w hw) (h2.out w hw) hp.1 hp.2.1 hp.2.2.1 hp.2.2.2⟩
end
section
instance Ztx (a b:Bool):SpecC prog 195 [.bool a, .bool b] (.bool (kpU a b)) True:=⟨fun _ w=>by
 refine Zb Tryz.func195 rfl Tryz.ntmps195 rfl ?_
 rcases a with _|_
 ·repeat(refine wkB ?_;intros)
  exact rtT rfl rfl
 ·repeat(refine wkB ?_;intros)
  exact rtT rfl rfl⟩
structure SwOk (is js:List Za):Prop where
 l:2*is.length+2*js.length<=65536
 a:∀i∈is,BdOk (bdF i)/\BdOk (bdL i)
 b:∀i∈js,BdOk (bdF i)/\BdOk (bdL i)
theorem Zjv (v1 v2:Value)(is js:List Za)(w:World)(hv1:ArgS w v1 rI is)(hv2:ArgS w v2 rI js)(h:SwOk is js):
  Calls prog 149 [v1,v2].toArray w (RetM (SlS rI 20 (swpR kpU is js)) (fun s=>vSl s) (fun s=>mS 37 s) w):=by
 have:=ArgC.mk hv1
 have:=ArgC.mk hv2
 refine Zb Tryz.func149 rfl Tryz.ntmps149 rfl ?_
 repeat(first|(refine wkB ?_;intros)|(refine wnM ?_ ?_;(focus(exact⟨h.l,rfl,h.a,h.b⟩));intros))
 rename_i s
 exact ZA rfl rfl (fun w hw=>⟨s,rfl,hw.sub suB⟩)
instance ZvQ (w0:World)(L:List Blk)(v1 v2:Value)(is js:List Za)[h1:LstC w0 L v1 Za rI is][h2:LstC w0 L v2 Za rI js]:SpecR prog w0 L 149 [v1,v2] (SlS rI 20 (swpR kpU is js)) (fun s=>vSl s) (fun s=>mS 37 s) (SwOk is js):=⟨fun hp w hw=>Zjv v1 v2 is js w (h1.out w hw) (h2.out w hw) hp⟩
theorem ZkT (v1:Value)(is:List Za)(w:World)(hv1:ArgS w v1 rI is)(h:SwOk is []):
  Calls prog 106 [v1].toArray w (RetM (SlS rI 20 (swpR kpU is [])) (fun s=>vSl s) (fun s=>mS 37 s) w):=by
 have:=ArgC.mk hv1
 have hn:∀L,LstC w L (.slice none 0 0) Za rI []:=fun L=>⟨fun _ _=>⟨.inl ⟨rfl,rfl⟩⟩⟩
 refine Zb Tryz.func106 rfl Tryz.ntmps106 rfl ?_
 repeat(first|(refine wkB ?_;intros)|(refine wnM ?_ ?_;(focus(exact h));intros))
 rename_i s
 exact ZA rfl rfl (fun w hw=>⟨s,rfl,hw.sub suB⟩)
instance ZwD (w0:World)(L:List Blk)(v1:Value)(is:List Za)[h1:LstC w0 L v1 Za rI is]:SpecR prog w0 L 106 [v1] (SlS rI 20 (swpR kpU is [])) (fun s=>vSl s) (fun s=>mS 37 s) (SwOk is []):=⟨fun hp w hw=>ZkT v1 is w (h1.out w hw) hp⟩
end
section
structure Cut (us:List UL)(t:Rl)(k:Nat):Prop where
 le:k<=us.length
 lo:∀j:Nat,j<k->ri (gi us (j:Int)).In.To<ri t
 hi:∀j:Nat,k<=j->j<us.length->ri t<=ri (gi us (j:Int)).In.To
instance ZtB (u:UL)(t:Zh):SpecC prog 146 [vUL u,vR t] (.int .i64 (cl u.In.To t)) (RlB KR u.In.To/\RlB KR t):=⟨fun hp w=>by
 refine Zb Tryz.func146 rfl Tryz.ntmps146 rfl ?_
 repeat(first|(refine wkB ?_;intros)|(refine wnM ?_ ?_;(focus(exact hp));intros))
 exact rtT rfl rfl⟩
theorem Zgt (v:Value)(us:List UL)(t:Zh)(k:Nat)(hk:Cut us t k)(w:World)(hv:ArgS w v rU us)(hl:us.length<=1048576)(ht:RlB KR t)(hok:∀u∈us,IvOk BQ u.In):
  Calls prog 145 [v,vR t,vFn 146].toArray w (Ret (.tuple #[.int .i64 (k:Nat), .bool (decide (k<us.length)&&decide (cl (gi us (k:Int)).In.To t=0))]) w):=by
 refine Zb Tryz.func145 rfl Tryz.ntmps145 rfl ?_
 obtain⟨p,cp,rfl⟩:=hv.form
 have hpre:∀j:Nat,j<us.length->RlB KR (gi us (j:Int)).In.To/\RlB KR t:=fun j hj=>by
  have h1:=hok _ (Zz (i:=(j:Int)) (by omega))
  exact⟨h1.b,ht⟩
 repeat(refine wkB ?_;intros)
 rename_i b4
 refine Zq (S:=Nat×Nat) (fun s=>s.1<=k/\k<=s.2/\s.2<=us.length) (fun s=>[(0, .slice p us.length cp),(2,vFn 146),(4, .pointer (some ⟨b4,0,none⟩)),(8, .int .i64 us.length),(9, .int .i64 (s.1:Nat)),(10, .int .i64 (s.2:Nat))]) (fun _=>[⟨b4,Zf (Zg t),35⟩]) (fun s=>s.2-s.1) (0,us.length)
  ⟨Wm _,hk.le,Wl _⟩ sbB slB (fun s hs=>?_)
 obtain⟨lo,hi⟩:=s
 obtain⟨h1,h2,h3⟩:=hs
 simp only at h1 h2 h3⊢
 repeat(refine wkB ?_;intros)
 refine Zi rfl (fun h=>?_) (fun h=>?_)
 ·have hlt:lo<hi:=by have:=Wa h;omega
  have hne:us≠[]:=fun h0=>by rw[h0] at h3;simp at h3;omega
  obtain⟨bw,ow,cw,hvw,hcw,hrow⟩:=hv.blk (k:=20) hne []
  injection hvw with e1 e2 e3
  subst e1
  subst e3
  have hrow':∀L,RowC w L bw ow UL rU us:=fun L=>⟨fun w' hw'=>hrow.out w' (hw'.sub (Wk _))⟩
  repeat(refine wkB ?_;intros)
  refine jq (ZaF rfl rfl (by decide)) rfl rfl ?_
  obtain⟨m,hm⟩:∃m,m=(lo+hi) / 2:=⟨_,rfl⟩
  have em:((lo:Int)+(hi:Int)) / 2 ^ (1:Int).toNat=(m:Int):=by
   rw[show(2:Int) ^ (1:Int).toNat=2 from rfl]
   omega
  simp only[em]
  have hml:lo<=m/\m<hi:=by omega
  have hpm:=hpre m (by omega)
  repeat(refine wkB ?_;intros)
  (refine jD 8 8 (h:=?_);(repeat(first|refine wkH ?_|(refine tC rfl rfl ?_ ?_;focus(exact hpm))));refine Zo ?_;(repeat(refine Z2 ?_;intro _));refine Zr ?_)
  repeat(refine wkB ?_;intros)
  by_cases hc:cl (gi us (m:Int)).In.To t<0
  ·simp only[Wc hc]
   have hmk:m<k:=by
    rcases Nat.lt_or_ge m k with h1|h1
    ·exact h1
    ·have:=hk.hi m h1 (by omega)
     have:=Zas.1 hc
     grind
   repeat(first|(refine wkB ?_;intros)|(refine wnM ?_ ?_;(focus(exact⟨by omega,by omega⟩));intros))
   exact Ze (m+1,hi) ⟨hmk,h2,h3⟩ sbB slB (by show hi-(m+1)<hi-lo;omega)
  ·simp only[We hc]
   have hmk:k<=m:=by
    rcases Nat.lt_or_ge m k with h1|h1
    ·exact absurd (Zas.2 (hk.lo m h1)) hc
    ·exact h1
   repeat(refine wkB ?_;intros)
   exact Ze (lo,m) ⟨h1,hmk,by show m<=us.length;omega⟩ sbB slB (by show m-lo<hi-lo;omega)
 ·have hge:lo=k/\hi=k:=by have:=Wb h;omega
  obtain⟨rfl,rfl⟩:=hge
  repeat(refine wkB ?_;intros)
  by_cases hlt:hi<us.length
  ·have hne:us≠[]:=fun h0=>by rw[h0] at hlt;simp at hlt
   obtain⟨bw,ow,cw,hvw,hcw,hrow⟩:=hv.blk (k:=20) hne []
   injection hvw with e1 e2 e3
   subst e1
   subst e3
   have hrow':∀L,RowC w L bw ow UL rU us:=fun L=>⟨fun w' hw'=>hrow.out w' (hw'.sub (Wk _))⟩
   have hpm:=hpre hi hlt
   (refine Zap [0,1,2,3,4,5,6,7,8,9,10,11,12,13] [14,15] (_) (h:=?_);refine wkI ?_)
   (repeat(refine wkH ?_))
   simp only[Wc (show(hi:Int)<(us.length:Int) by omega)]
   (repeat(first|refine wkH ?_|(refine tC rfl rfl ?_ ?_;focus(exact hpm))))
   repeat(refine wkT ?_;intros)
   repeat(refine wkB ?_;intros)
   rw[Wc hlt,Bool.true_and]
   exact ZI rfl (Zy rfl) (Zy rfl) (fun w hw=>ZW hw)
  ·(refine Zap [0,1,2,3,4,5,6,7,8,9,10,11,12,13] [14,15] (_) (h:=?_);refine wkI ?_)
   (repeat(refine wkH ?_))
   simp only[We (show¬(hi:Int)<(us.length:Int) by omega)]
   (repeat(refine wkH ?_))
   repeat(refine wkT ?_;intros)
   repeat(refine wkB ?_;intros)
   rw[We hlt,Bool.false_and]
   exact ZI rfl (Zy rfl) (Zy rfl) (fun w hw=>ZW hw)
end
section
class CtC (us:List UL)(t:Rl)(k:outParam Nat):Prop where
 out:Cut us t k
instance ZrG (w0:World)(L:List Blk)(v:Value)(us:List UL)(t:Zh)(k:Nat)[h:LstC w0 L v UL rU us][hk:CtC us t k]:SpecM prog w0 L 145 [v,vR t,vFn 146] (.tuple #[.int .i64 (k:Nat), .bool (decide (k<us.length)&&decide (cl (gi us (k:Int)).In.To t=0))]) (us.length<=1048576/\RlB KR t/\∀u∈us,IvOk BQ u.In):=⟨fun hp w hw=>Zgt v us t k hk.out w (h.out w hw) hp.1 hp.2.1 hp.2.2⟩
structure AtR (us:List UL)(t:Ri)(r:Option Int):Prop where
 out:(∃k:Nat,k<us.length/\(absU (gi us (k:Int))).mem t/\(∀j:Nat,j<k->¬(absU (gi us (j:Int))).mem t)/\(∀j:Nat,j<=k->ri (gi us (j:Int)).In.From<=t)/\r=some (gi us (k:Int)).F)\/((∀j:Nat,j<us.length->¬(absU (gi us (j:Int))).mem t)/\r=none)
theorem AtR.hit {us:List UL}{t:Ri}{r:Option Int}(h:AtR us t r){i:Nat}(hi:i<us.length)(hm:(absU (gi us (i:Int))).mem t)(hn:∀j:Nat,j<i->¬(absU (gi us (j:Int))).mem t):r=some (gi us (i:Int)).F:=by
 rcases h.out with⟨k,h1,h2,h3, -,h5⟩|⟨h1, -⟩
 ·rcases Nat.lt_trichotomy i k with h6|h6|h6
  ·exact absurd hm (h3 i h6)
  ·subst h6;exact h5
  ·exact absurd h2 (hn k h6)
 ·exact absurd hm (h1 i hi)
theorem AtR.miss {us:List UL}{t:Ri}{r:Option Int}(h:AtR us t r){i:Nat}(hi:us.length<=i\/t<ri (gi us (i:Int)).In.From)(hn:∀j:Nat,j<i->¬(absU (gi us (j:Int))).mem t):r=none:=by
 rcases h.out with⟨k,h1,h2,h3,h4,h5⟩|⟨-,h2⟩
 ·have hik:i<=k:=by
   rcases Nat.lt_or_ge k i with h6|h6
   ·exact absurd h2 (hn k h6)
   ·exact h6
  rcases hi with h6|h6
  ·omega
  ·have:=h4 i hik
   grind
 ·exact h2
class AtC' (us:List UL)(t:Ri)(r:outParam (Option Int)):Prop where
 out:AtR us t r
noncomputable def tst (u:UL)(t:Zh):Bool:=(decide (cl u.In.From t<0)|| !u.In.OpenFrom)&&(!decide (u.In.To=t)|| !u.In.OpenTo)
theorem Zn2 {u:UL}{t:Zh}{K:Nat}(hu:IvOk K u.In)(ht:(rvR t).ok)(h1:ri u.In.From<=ri t)(h2:ri t<=ri u.In.To):tst u t=true↔(absU u).mem (ri t):=by
 have e:=ZcX hu.b.o ht
 unfold tst GU.mem absU
 simp only[Wq,Bool.or_eq_true,decide_eq_true_eq,Bool.not_eq_true',decide_eq_false_iff_not,<-e,Zas]
 grind
theorem ZlW (v:Value)(us:List UL)(t:Zh)(c:Nat)(r:Option Int)(hk:Cut us t c)(hr:AtR us (ri t) r)(w:World)(hv:ArgS w v rU us)(hl:us.length<=1048576)(ht:RlB KR t)(hok:∀u∈us,IvOk BQ u.In):
  Calls prog 104 [v,vR t].toArray w (Ret (.tuple #[.int .i64 (r.getD 0), .bool r.isSome]) w):=by
 have:=ArgC.mk hv
 have:=CtC.mk hk
 have hcl:=hk.le
 refine Zb Tryz.func104 rfl Tryz.ntmps104 rfl ?_
 obtain⟨p,cp,rfl⟩:=hv.form
 repeat(first|(refine wkB ?_;intros)|(refine wnM ?_ ?_;(focus(exact⟨hl,ht,hok⟩));intros))
 rename_i b3
 refine Zq (S:=Nat) (fun i=>(c<=i/\i<=us.length)/\∀j:Nat,j<i->¬(absU (gi us (j:Int))).mem (ri t)) (fun i=>[(0, .slice p us.length cp),(3, .pointer (some ⟨b3,0,none⟩)),(4, .int .i64 0),(5, .bool false),(6, .int .i64 (i:Nat))]) (fun _=>[⟨b3,Zf (Zg t),35⟩]) (fun i=>us.length-i) c
  ⟨⟨Wl _,hcl⟩,fun j hj hm=>?_⟩ sbB slB (fun i hi=>?_)
 ·have h1:=hk.lo j hj
  unfold GU.mem absU at hm
  grind
 obtain⟨⟨hci,hil⟩,hno⟩:=hi
 repeat(refine wkB ?_;intros)
 refine Zi rfl (fun h=>?_) (fun h=>?_)
 ·have hlt:i<us.length:=by have:=Wa h;omega
  obtain⟨bw,ow,rfl,hrow'⟩:=hv.opn (k:=20) hlt
  have ho:=hok _ (Zz (i:=(i:Int)) (xs:=us) (by omega))
  have hto:=hk.hi i hci hlt
  repeat(refine wkB ?_;intros)
  (refine Zap [0,1,2,3,4,5,6,7] [8] (_) (h:=?_);refine wkI ?_)
  (repeat(first|refine wkH ?_|(refine tC rfl rfl ?_ ?_;focus(exact⟨ho.a,ht⟩))))
  repeat(refine wkT ?_;intros)
  repeat(refine wkB ?_;intros)
  by_cases hgt:ri t<ri (gi us (i:Int)).In.From
  ·have hrn:=hr.miss (.inr hgt) hno
   subst hrn
   simp only[Wc (ZjS.2 hgt)]
   repeat(refine wkB ?_;intros)
   exact ZI rfl (Zy rfl) (Zy rfl) (fun w hw=>ZW hw)
  ·have hle:ri (gi us (i:Int)).In.From<=ri t:=by grind
   have hti:=Zn2 ho ht.o hle hto
   simp only[We (fun h=>hgt (ZjS.1 h))]
   repeat(refine wkB ?_;intros)
   refine ZO (S:=Bool) (fun v=>v=tst (gi us (i:Int)) t) (fun v=>[(61, .bool v),(0, .slice (some ⟨bw,ow,none⟩) us.length cp),(3, .pointer (some ⟨b3,0,none⟩)),(4, .int .i64 0),(5, .bool false),(6, .int .i64 (i:Nat))]) (fun _=>[⟨b3,Zf (Zg t),35⟩]) ?_ (fun v hv3=>?_)
   ·refine jD 30 30 (h:=?_)
    (repeat(refine wkH ?_))
    unfold tst
    rcases hd1:decide (cl (gi us (i:Int)).In.From t<0) with _|_
    ·(repeat(refine wkH ?_))
     rcases hd2:(gi us (i:Int)).In.OpenFrom with _|_
     ·(repeat(refine wkH ?_))
      rcases hd3:decide ((gi us (i:Int)).In.To=t) with _|_
      ·(repeat(refine wkH ?_))
       refine Zo ?_
       refine Zr ?_
       repeat(refine wkB ?_;intros)
       exact Zd true rfl sbB slB
      ·(repeat(refine wkH ?_))
       refine Zo ?_
       refine Zr ?_
       repeat(refine wkB ?_;intros)
       exact Zd (!(gi us (i:Int)).In.OpenTo) (by simp) sbB slB
     ·(repeat(refine wkH ?_))
      refine Zo ?_
      refine Zr ?_
      repeat(refine wkB ?_;intros)
      exact Zd false (by simp) sbB slB
    ·(repeat(refine wkH ?_))
     rcases hd3:decide ((gi us (i:Int)).In.To=t) with _|_
     ·(repeat(refine wkH ?_))
      refine Zo ?_
      refine Zr ?_
      repeat(refine wkB ?_;intros)
      exact Zd true rfl sbB slB
     ·(repeat(refine wkH ?_))
      refine Zo ?_
      refine Zr ?_
      repeat(refine wkB ?_;intros)
      exact Zd (!(gi us (i:Int)).In.OpenTo) (by simp) sbB slB
   subst hv3
   rcases htt:tst (gi us (i:Int)) t with _|_
   ·repeat(first|(refine wkB ?_;intros)|(refine wnM ?_ ?_;(focus(exact⟨by omega,by omega⟩));intros))
    refine Ze (i+1) ⟨⟨by omega,hlt⟩,fun j hj hm=>?_⟩ sbB slB (by omega)
    rcases(by omega:j<i\/j=i) with h1|h1
    ·exact hno j h1 hm
    ·subst h1
     rw[hti.2 hm] at htt
     cases htt
   ·have hrs:=hr.hit hlt (hti.1 htt) hno
    subst hrs
    repeat(refine wkB ?_;intros)
    exact ZI rfl (Zy rfl) (Zy rfl) (fun w hw=>ZW hw)
 ·have hge:us.length<=i:=by have:=Wb h;omega
  have hrn:=hr.miss (.inl hge) hno
  subst hrn
  repeat(refine wkB ?_;intros)
  exact ZI rfl (Zy rfl) (Zy rfl) (fun w hw=>ZW hw)
instance Zyr (w0:World)(L:List Blk)(v:Value)(us:List UL)(t:Zh)(c:Nat)(r:Option Int)[h:LstC w0 L v UL rU us][hk:CtC us t c][hr:AtC' us (ri t) r]:SpecM prog w0 L 104 [v,vR t] (.tuple #[.int .i64 (r.getD 0), .bool r.isSome]) (us.length<=1048576/\RlB KR t/\∀u∈us,IvOk BQ u.In):=⟨fun hp w hw=>ZlW v us t c r hk.out hr.out w (h.out w hw) hp.1 hp.2.1 hp.2.2⟩
end
section
instance ZqR (w0:World)(L L1:List Blk)(xs:List Int)(s:SlS (eI .i64) 1 xs)[hd:OwnS 3 s L L1]:SpecX prog w0 L 85 [vSl s] (SlS (eI .i64) 1 (cmI' xs)) (fun s=>vSl s) (fun s=>mS 3 s++L1) (xs.length<=1048576):=⟨fun hp w hw=>Zf2 w0 w L L1 xs s hp hw⟩
def lbL (us:List PU):List Int:=mpN (fun u:PU=>u.Label) us us.length
set_option maxHeartbeats 8000000 in
theorem ZhO (v:Value)(us:List PU)(w:World)(hv:ArgS w v rP us)(hl:us.length<=1048576):
  Calls prog 32 [v].toArray w (RetM (SlS (eI .i64) 1 (cmI' (lbL us))) (fun s=>vSl s) (fun s=>mS 3 s) w):=by
 obtain⟨p,cp,rfl⟩:=hv.form
 refine Zb Tryz.func32 rfl Tryz.ntmps32 rfl ?_
 repeat(refine wkB ?_;intros)
 refine Z0 (S:=SlS (eI .i64) 1 (lbL us)) (fun _=>True) (fun s=>[(3,vSl s)]) (fun s=>mS 3 s) ?_ (fun s _=>?_)
 ·refine Zq (S:=(_:Nat)×(o:List Int)×SlS (eI .i64) 1 o) (fun q=>q.1<=us.length/\q.2.1=mpN (fun u:PU=>u.Label) us q.1) (fun q=>[(3,vSl q.2.2),(6, .slice p us.length cp),(7, .int .i64 (us.length:Nat)),(8, .int .i64 (q.1:Nat))]) (fun q=>mS 3 q.2.2) (fun q=>us.length-q.1) ⟨0,[],SlS.no⟩ ⟨Wm _,rfl⟩ sbB suB (fun q hq=>?_)
  obtain⟨m,out,s⟩:=q
  obtain⟨hq,ho⟩:=hq
  dsimp only at hq ho⊢
  have hlen:out.length=m:=by rw[ho];exact ZaE _ us m
  have hend:m=us.length->out=lbL us:=fun h=>by rw[ho,h];rfl
  have hnxt:out++[(gi us (m:Int)).Label]=mpN (fun u:PU=>u.Label) us (m+1):=by rw[ho];rfl
  clear ho
  repeat(refine wkB ?_;intros)
  refine Zi rfl (fun h=>?_) (fun h=>?_)
  ·have hlt:m<us.length:=by have:=Wa h;omega
   obtain⟨bw,ow,rfl,hrow'⟩:=hv.opn (k:=20) hlt
   repeat(refine wkB ?_;intros)
   refine sU (k:=1) (enc:=eI .i64) (s:=s) rfl rfl ?_ ?_ ?_ ?_
   ·rfl
   ·rfl
   ·exact⟨by decide,by omega,by omega⟩
   intro s'
   repeat(first|(refine wkB ?_;intros)|(refine wnM ?_ ?_;(focus(exact⟨by omega,by omega⟩));intros))
   exact Ze ⟨m+1,_,s'⟩ ⟨hlt,hnxt⟩ sbB suB (by show us.length-(m+1)<us.length-m;omega)
  ·have hge:m=us.length:=by have:=Wb h;omega
   obtain⟨s',f1,f2⟩:=SlS.turn 3 (hend hge) s
   repeat(refine wkB ?_;intros)
   exact Zd s' trivial (by rw[f1];exact sbB) (by rw[f2];exact suB)
 have hl':(lbL us).length<=1048576:=by unfold lbL;rw[ZaE];exact hl
 repeat(first|(refine wkB ?_;intros)|(refine wnM ?_ ?_;(focus(exact hl'));intros))
 refine sZ rfl rfl hl' (fun r=>?_)
 repeat(refine wkB ?_;intros)
 exact ZA rfl rfl (fun w hw=>⟨r,rfl,hw.sub suB⟩)
instance Ztz (w0:World)(L:List Blk)(v:Value)(us:List PU)[h:LstC w0 L v PU rP us]:SpecR prog w0 L 32 [v] (SlS (eI .i64) 1 (cmI' (lbL us))) (fun s=>vSl s) (fun s=>mS 3 s) (us.length<=1048576):=⟨fun hp w hw=>ZhO v us w (h.out w hw) hp⟩
def whL (us:List PU)(x:Int):Nat->List Za
 |0=>[]
 |m+1=>if(gi us (m:Int)).Label=x then whL us x m++[(gi us (m:Int)).In] else whL us x m
theorem ZiT (us:List PU)(x:Int):∀m,(whL us x m).length<=m
 |0=>Wl _
 |m+1=>by
  have:=ZiT us x m
  rw[whL]
  split
  ·simp;exact this
  ·omega
set_option maxHeartbeats 8000000 in
theorem Zke (v:Value)(us:List PU)(x:Int)(w:World)(hv:ArgS w v rP us)(hl:us.length<=1048576)(hsw:SwOk (whL us x us.length) []):
  Calls prog 59 [v, .int .i64 x].toArray w (RetM (SlS rI 20 (swpR kpU (whL us x us.length) [])) (fun s=>vSl s) (fun s=>mS 37 s) w):=by
 obtain⟨p,cp,rfl⟩:=hv.form
 refine Zb Tryz.func59 rfl Tryz.ntmps59 rfl ?_
 repeat(refine wkB ?_;intros)
 refine Z0 (S:=SlS rI 20 (whL us x us.length)) (fun _=>True) (fun s=>[(5,vSl s)]) (fun s=>mS 37 s) ?_ (fun s _=>?_)
 ·refine Zq (S:=(_:Nat)×(o:List Za)×SlS rI 20 o) (fun q=>q.1<=us.length/\q.2.1=whL us x q.1) (fun q=>[(1, .int .i64 x),(5,vSl q.2.2),(8, .slice p us.length cp),(9, .int .i64 (us.length:Nat)),(10, .int .i64 (q.1:Nat))]) (fun q=>mS 37 q.2.2) (fun q=>us.length-q.1) ⟨0,[],SlS.no⟩ ⟨Wm _,rfl⟩ sbB suB (fun q hq=>?_)
  obtain⟨m,out,s⟩:=q
  obtain⟨hq,ho⟩:=hq
  dsimp only at hq ho⊢
  have hlen:out.length<=m:=by rw[ho];exact ZiT us x m
  have hend:m=us.length->out=whL us x us.length:=fun h=>by rw[ho,h]
  have hnxt:(if(gi us (m:Int)).Label=x then out++[(gi us (m:Int)).In] else out)=whL us x (m+1):=by rw[ho];rfl
  clear ho
  repeat(refine wkB ?_;intros)
  refine Zi rfl (fun h=>?_) (fun h=>?_)
  ·have hlt:m<us.length:=by have:=Wa h;omega
   obtain⟨bw,ow,rfl,hrow'⟩:=hv.opn (k:=20) hlt
   repeat(refine wkB ?_;intros)
   by_cases c:(gi us (m:Int)).Label=x
   ·simp only[Wc c]
    rw[if_pos c] at hnxt
    repeat(refine wkB ?_;intros)
    refine sU (k:=20) (enc:=rI) (s:=s) rfl rfl ?_ ?_ ?_ ?_
    ·rfl
    ·rfl
    ·exact⟨by decide,by omega,by omega⟩
    intro s'
    repeat(first|(refine wkB ?_;intros)|(refine wnM ?_ ?_;(focus(exact⟨by omega,by omega⟩));intros))
    exact Ze ⟨m+1,_,s'⟩ ⟨hlt,hnxt⟩ sbB suB (by show us.length-(m+1)<us.length-m;omega)
   ·simp only[We c]
    rw[if_neg c] at hnxt
    repeat(first|(refine wkB ?_;intros)|(refine wnM ?_ ?_;(focus(exact⟨by omega,by omega⟩));intros))
    exact Ze ⟨m+1,_,s⟩ ⟨hlt,hnxt⟩ sbB suB (by show us.length-(m+1)<us.length-m;omega)
  ·have hge:m=us.length:=by have:=Wb h;omega
   obtain⟨s',f1,f2⟩:=SlS.turn 37 (hend hge) s
   repeat(refine wkB ?_;intros)
   exact Zd s' trivial (by rw[f1];exact sbB) (by rw[f2];exact suB)
 repeat(first|(refine wkB ?_;intros)|(refine wnM ?_ ?_;(focus(exact hsw));intros))
 rename_i r
 exact ZA rfl rfl (fun w hw=>⟨r,rfl,hw.sub suB⟩)
instance ZwQ (w0:World)(L:List Blk)(v:Value)(us:List PU)(x:Int)[h:LstC w0 L v PU rP us]:SpecR prog w0 L 59 [v, .int .i64 x] (SlS rI 20 (swpR kpU (whL us x us.length) [])) (fun s=>vSl s) (fun s=>mS 37 s) (us.length<=1048576/\SwOk (whL us x us.length) []):=⟨fun hp w hw=>Zke v us x w (h.out w hw) hp.1 hp.2⟩
theorem Zmz (v:Value)(us:List PU)(t:Zh)(c:Nat)(r:Option Int)(w:World)(hv:ArgS w v rP us)(hc:Cut (mpN toU us us.length) t c)(hr:AtR (mpN toU us us.length) (ri t) r)(hl:us.length<=1048576)(ht:RlB KR t)(hu:∀u∈mpN toU us us.length,IvOk BQ u.In):
  Calls prog 57 [v,vR t].toArray w (Ret (.tuple #[.int .i64 (r.getD 0), .bool r.isSome]) w):=by
 have:=ArgC.mk hv
 have hml:=ZaE toU us us.length
 have i1:CtC (mpN toU us us.length) t c:=⟨hc⟩
 have i2:AtC' (mpN toU us us.length) (ri t) r:=⟨hr⟩
 have p2:(mpN toU us us.length).length<=1048576/\RlB KR t/\∀u∈mpN toU us us.length,IvOk BQ u.In:=⟨by omega,ht,hu⟩
 refine Zb Tryz.func57 rfl Tryz.ntmps57 rfl ?_
 repeat(refine wkB ?_;intros)
 rename_i b3
 (refine ZF (.v [0,2] (.e1 1 (.e1 3 (.v [4,5] (.e1 6 (.e1 7 (.fin))))))) ([⟨b3,Zf (Zg t),35⟩]) (h:=?_);refine wkX ?_)
 (repeat(refine wkH ?_))
 repeat(first|(refine wkT ?_;intros)|(refine tC rfl rfl ?_ ?_;focus(first|exact hl|exact p2))|(refine uC rfl rfl ?_ ?_;focus(first|exact hl|exact p2))|(refine eN rfl rfl ?_ ?_;(focus(first|exact hl|exact p2));intro _;(try simp only[Wf,Wg,Wh])))
 repeat(refine wkB ?_;intros)
 exact ZI rfl (Zy rfl) (Zy rfl) (fun w hw=>ZW hw)
instance ZyE (w0:World)(L:List Blk)(v:Value)(us:List PU)(t:Zh)(c:Nat)(r:Option Int)[h:LstC w0 L v PU rP us][hk:CtC (mpN toU us us.length) t c][hr:AtC' (mpN toU us us.length) (ri t) r]:SpecM prog w0 L 57 [v,vR t] (.tuple #[.int .i64 (r.getD 0), .bool r.isSome]) (us.length<=1048576/\RlB KR t/\∀u∈mpN toU us us.length,IvOk BQ u.In):=⟨fun hp w hw=>Zmz v us t c r w (h.out w hw) hk.out hr.out hp.1 hp.2.1 hp.2.2⟩
end
section
set_option maxHeartbeats 8000000 in
theorem Zhy (v1 v2:Value)(l m:List PU)(w:World)(h1:ArgS w v1 rP l)(h2:ArgS w v2 rP m)(hl:l.length<=1048576/\m.length<=1048576):
  Calls prog 22 [v1,v2].toArray w (Ret (.bool (decide (l=m))) w):=by
 have hav1:=ArgC.mk h1
 have hav2:=ArgC.mk h2
 have A1:=h1
 have A2:=h2
 obtain⟨p,cp,rfl⟩:=h1.form
 obtain⟨q,cq',rfl⟩:=h2.form
 refine Zb Tryz.func22 rfl Tryz.ntmps22 rfl ?_
 repeat(refine wkB ?_;intros)
 by_cases hlen:l.length=m.length
 ·simp only[Wc (show((l.length:Nat):Int)=((m.length:Nat):Int) by omega),Bool.not_true]
  repeat(refine wkB ?_;intros)
  refine Zq (S:=Nat) (fun k=>k<=l.length/\∀j:Nat,j<k->gi l (j:Int)=gi m (j:Int)) (fun k=>[(0, .slice p l.length cp),(1, .slice q m.length cq'),(5, .int .i64 (k:Nat))]) (fun _=>[]) (fun k=>l.length-k) 0 ⟨Wm _,fun j hj=>by omega⟩ sbB slB (fun k hk=>?_)
  obtain⟨hk,hsame⟩:=hk
  repeat(refine wkB ?_;intros)
  refine Zi rfl (fun h=>?_) (fun h=>?_)
  ·have hlt:k<l.length:=by have:=Wa h;omega
   have hne:l≠[]:=fun h0=>by rw[h0] at hlt;simp at hlt
   have hne2:m≠[]:=fun h0=>by rw[h0] at hlen;rw[hlen] at hlt;simp at hlt
   obtain⟨bw,ow,cw,hvw,hcw,hrow⟩:=A1.blk (k:=20) hne []
   obtain⟨bw',ow',cw',hvw',hcw',hrow2⟩:=A2.blk (k:=20) hne2 []
   injection hvw with x1 x2 x3
   injection hvw' with y1 y2 y3
   subst x1 x3
   subst y1 y3
   have hr1:∀L,RowC w L bw ow PU rP l:=fun L=>⟨fun w' hw'=>hrow.out w' (hw'.sub (Wk _))⟩
   have hr2:∀L,RowC w L bw' ow' PU rP m:=fun L=>⟨fun w' hw'=>hrow2.out w' (hw'.sub (Wk _))⟩
   repeat(refine wkB ?_;intros)
   refine jD 9 9 (h:=?_)
   (repeat(refine wkH ?_))
   refine Zo ?_
   refine Zr ?_
   by_cases he:gi l (k:Int)=gi m (k:Int)
   ·simp only[Wc he,Bool.not_true]
    repeat(first|(refine wkB ?_;intros)|(refine wnM ?_ ?_;(focus(exact⟨by omega,by omega⟩));intros))
    refine Ze (k+1) ⟨hlt,fun j hj=>?_⟩ sbB slB (by omega)
    rcases(by omega:j<k\/j=k) with h1|rfl
    ·exact hsame j h1
    ·exact he
   ·simp only[We he,Bool.not_false]
    repeat(refine wkB ?_;intros)
    rw[We (show¬l=m from fun h0=>he (by rw[h0]))]
    exact rtT rfl rfl
  ·have hge:k=l.length:=by have:=Wb h;omega
   subst hge
   have he:l=m:=List.ext_getElem hlen fun j h1 h2=>by
    have:=hsame j h1
    rwa [Zv h1,Zv h2] at this
   repeat(refine wkB ?_;intros)
   rw[Wc he]
   exact rtT rfl rfl
 ·simp only[We (show¬((l.length:Nat):Int)=((m.length:Nat):Int) by omega),Bool.not_false]
  repeat(refine wkB ?_;intros)
  rw[We (show¬l=m from fun h0=>hlen (by rw[h0]))]
  exact rtT rfl rfl
instance Zt1 (w0:World)(L:List Blk)(v1 v2:Value)(l m:List PU)[h1:LstC w0 L v1 PU rP l][h2:LstC w0 L v2 PU rP m]:SpecM prog w0 L 22 [v1,v2] (.bool (decide (l=m))) (l.length<=1048576/\m.length<=1048576):=⟨fun hp w hw=>Zhy v1 v2 l m w (h1.out w hw) (h2.out w hw) hp⟩
end
section
def RV.sh (x:RV)(s:Rat):RV:=⟨x.p+s,x.r,x.n⟩
theorem RV.sh_ok {x:RV}(h:x.ok)(s:Rat):(x.sh s).ok:=⟨h.1,h.2⟩
theorem RV.sh_ql {x:RV}{s q:Rat}:RV.ql q (x.sh s)↔RV.ql (q-s) x:=by
 unfold RV.ql RV.sh
 dsimp only
 rw[show x.p+s-q=x.p-(q-s) by grind]
theorem RV.sh_le {x:RV}(h:x.ok){s:Rat}(hs:s<=0):¬x.lt (x.sh s):=by
 rintro⟨q,h1,h2⟩
 exact RV.lq_ql h1 (RV.ql_mono h (RV.sh_ql.1 h2) (by grind))
theorem ZrJ (x:Rl)(s:Rat):rvR (shR x s)=(rvR x).sh s:=rfl
theorem ZnP {k:Nat}{x:Rl}{s:Rat}(h:RlB k x)(hs:M s<=k):RlB (2*k+1) (shR x s):=by
 refine⟨by rw[ZrJ];exact RV.sh_ok h.o s, ?_, ?_⟩
 ·have:=Zf7 x.P s
  have:=h.p
  show M (x.P+s)<=_
  omega
 ·have:=h.r
  show M x.R<=_
  omega
theorem ZmV {x:Rl}(hx:(rvR x).ok){s:Rat}(hs:s<=0):ri (shR x s)<=ri x:=by
 unfold ri
 rw[dif_pos hx,dif_pos (show(rvR (shR x s)).ok from RV.sh_ok hx s)]
 exact RV.sh_le hx hs
def LeU (u:PU):Prop:=ri u.In.From<=ri u.In.To
theorem Zip {p:List Za}{n:Nat}{c:List Rl}(h:SrR n c):∀k,k<=c.length->∀i∈celS p c k,ri i.From<=ri i.To
 |0,_,i,hi=>by cases hi
 |k+1,hk,i,hi=>by
  have ih:=Zip (p:=p) h k (by omega)
  rw[celS] at hi
  have hI:∀i∈celI p c k (celS p c k),ri i.From<=ri i.To:=fun i hi=>by
   unfold celI at hi
   split at hi
   ·rw[Wv,Wo] at hi
    rcases hi with hi|rfl
    ·exact ih i hi
    ·show ri (gi c (k:Int))<=ri (gi c (k:Int));grind
   ·exact ih i hi
  unfold celJ at hi
  split at hi
  ·rename_i hc
   rw[Wv,Wo] at hi
   rcases hi with hi|rfl
   ·exact hI i hi
   ·have:=h.at (Nat.lt_succ_self k) hc.1
    show ri (gi c (k:Int))<=ri (gi c ((k+1:Nat):Int))
    grind
  ·exact hI i hi
theorem Zod {l:List St}(hk:∀x∈l,StOk x):∀i∈celV l,ri i.From<=ri i.To:=by
 have hil:=Zeg l
 have hio:=Zck hk
 have hno:=Zh9 hk
 have p3:CelIn (nrmS (insV l)) (enR (insV l)):=by
  have h1:=Zef (insV l)
  have h2:=Zc7 (insV l)
  exact⟨by omega,by omega,fun i hi=>(hno i hi).mono (by decide),(ZdB (fun i hi=>(hio i hi).mono (by decide))).b⟩
 exact Zip (Zi6 p3) _ (Wl _)
theorem ZdN {l:List St}{ins cs:List Za}:∀i,i<=cs.length->∀u∈mvS l ins cs i,u.In∈cs
 |0,_,u,hu=>by cases hu
 |i+1,hi,u,hu=>by
  rw[mvS] at hu
  unfold mv1 at hu
  split at hu
  ·rw[Wv,Wo] at hu
   rcases hu with hu|rfl
   ·exact ZdN i (by omega) u hu
   ·exact Zz (by omega)
  ·exact ZdN i (by omega) u hu
theorem Zlu {l:List PU}(h:∀u∈l,LeU u):∀i,i<=l.length->∀u∈jnL l i,LeU u
 |0,_,u,hu=>by cases hu
 |i+1,hi,u,hu=>by
  have ih:=Zlu h i (by omega)
  have h1:=h (gi l (i:Int)) (Zz (by omega))
  rw[jnL] at hu
  unfold jn1 at hu
  split at hu
  ·rename_i hc
   rcases List.mem_or_eq_of_mem_set hu with hu|rfl
   ·exact ih u hu
   ·have h2:=ih (lstP (jnL l i)) (Zz (by omega))
    have h3:=hc.2
    unfold jnB at h3
    rw[Wq,Wq] at h3
    have h4:(lstP (jnL l i)).In.To=(gi l (i:Int)).In.From:=Wa h3.2.1
    unfold LeU at h1 h2⊢
    rw[h4] at h2
    show ri (lstP (jnL l i)).In.From<=ri (gi l (i:Int)).In.To
    grind
  ·rw[Wv,Wo] at hu
   rcases hu with hu|rfl
   ·exact ih u hu
   ·exact h1
theorem ZoY {l:List St}(hk:∀x∈l,StOk x):∀u∈movV l,LeU u:=
 Zlu (fun u hu=>Zod hk _ (ZdN _ (Wl _) u hu)) _ (Wl _)
theorem ZnC {Pr:Rl->Prop}{l:List PU}(h:∀u∈l,Pr u.In.From/\Pr u.In.To):∀i,i<=l.length->∀u∈jnL l i,Pr u.In.From/\Pr u.In.To
 |0,_,u,hu=>by cases hu
 |i+1,hi,u,hu=>by
  have ih:=ZnC h i (by omega)
  have h1:=h (gi l (i:Int)) (Zz (by omega))
  rw[jnL] at hu
  unfold jn1 at hu
  split at hu
  ·rename_i hc
   rcases List.mem_or_eq_of_mem_set hu with hu|rfl
   ·exact ih u hu
   ·exact⟨(ih (lstP (jnL l i)) (Zz (by omega))).1,h1.2⟩
  ·rw[Wv,Wo] at hu
   rcases hu with hu|rfl
   ·exact ih u hu
   ·exact h1
theorem Zot {l:List St}(hk:∀x∈l,StOk x):∀u∈movV l,IvOk 3 u.In:=fun u hu=>by
 have:=ZnC (Pr:=RlB 3) (fun u hu=>⟨(Ze3 hk _ (ZdN _ (Wl _) u hu)).a,(Ze3 hk _ (ZdN _ (Wl _) u hu)).b⟩) _ (Wl _) u hu
 exact⟨this.1,this.2⟩
end
section
noncomputable def lgB (u:PU)(q:Rat):Bool:=decide (q.num.sign<=0)||decide (cl (shR u.In.From q) u.In.To<=0)
noncomputable def lgL (us:List PU)(q:Rat):Nat->List PU
 |0=>[]
 |m+1=>if lgB (gi us (m:Int)) q=true then lgL us q m++[gi us (m:Int)] else lgL us q m
theorem Zfa (us:List PU)(q:Rat):∀m,(lgL us q m).length<=m
 |0=>Wl _
 |m+1=>by
  have:=Zfa us q m
  rw[lgL]
  split
  ·simp;exact this
  ·omega
set_option maxHeartbeats 8000000 in
theorem ZhA (v:Value)(us:List PU)(q:Rat)(w:World)(hv:ArgS w v rP us)(hl:us.length<=1048576)(hq:M q<=16)(hu:∀u∈us,IvOk 3 u.In):
  Calls prog 33 [v,vQ q].toArray w (RetM (SlS rP 21 (lgL us q us.length)) (fun s=>vSl s) (fun s=>mS 46 s) w):=by
 obtain⟨p,cp,rfl⟩:=hv.form
 refine Zb Tryz.func33 rfl Tryz.ntmps33 rfl ?_
 repeat(refine wkB ?_;intros)
 rename_i b3
 refine Z0 (S:=SlS rP 21 (lgL us q us.length)) (fun _=>True) (fun s=>[(5,vSl s)]) (fun s=>mS 46 s) ?_ (fun s _=>?_)
 ·refine Zq (S:=(_:Nat)×(o:List PU)×SlS rP 21 o) (fun k=>k.1<=us.length/\k.2.1=lgL us q k.1) (fun k=>[(3, .pointer (some ⟨b3,0,none⟩)),(5,vSl k.2.2),(8, .slice p us.length cp),(9, .int .i64 (us.length:Nat)),(10, .int .i64 (k.1:Nat))]) (fun k=>mS 46 k.2.2++[⟨b3,Zj (Q q),33⟩]) (fun k=>us.length-k.1) ⟨0,[],SlS.no⟩ ⟨Wm _,rfl⟩ sbB suB (fun k hk=>?_)
  obtain⟨m,out,s⟩:=k
  obtain⟨hm,ho⟩:=hk
  dsimp only at hm ho⊢
  have hlen:out.length<=m:=by rw[ho];exact Zfa us q m
  have hend:m=us.length->out=lgL us q us.length:=fun h=>by rw[ho,h]
  have hnxt:(if lgB (gi us (m:Int)) q=true then out++[gi us (m:Int)] else out)=lgL us q (m+1):=by rw[ho];rfl
  clear ho
  repeat(refine wkB ?_;intros)
  refine Zi rfl (fun h=>?_) (fun h=>?_)
  ·have hlt:m<us.length:=by have:=Wa h;omega
   obtain⟨bw,ow,rfl,hrow'⟩:=hv.opn (k:=20) hlt
   have hui:=hu (gi us (m:Int)) (Zz (by omega))
   have q1:M (gi us (m:Int)).In.From.P<=LQ/\M q<=LQ:=⟨Wi hui.a.p (by decide),Wi hq (by decide)⟩
   have q2:RlB KR (shR (gi us (m:Int)).In.From q)/\RlB KR (gi us (m:Int)).In.To:=⟨(ZnP (hui.a.mono (show 3<=16 by decide)) hq).mono (by decide),hui.b.mono (by decide)⟩
   repeat(refine wkB ?_;intros)
   rename_i b7
   refine ZO (S:={z:Bool // z=lgB (gi us (m:Int)) q}) (fun _=>True) (fun z=>[(28, .bool z.1),(3, .pointer (some ⟨b3,0,none⟩)),(5,vSl s),(7, .pointer (some ⟨b7,0,none⟩)),(8, .slice (some ⟨bw,ow,none⟩) us.length cp),(9, .int .i64 (us.length:Nat)),(10, .int .i64 (m:Nat))]) (fun _=>⟨b7,rP (gi us (m:Int)),46⟩::(mS 46 s++[⟨b3,Zj (Q q),33⟩])) ?_ (fun z _=>?_)
   ·refine jD 15 15 (h:=?_)
    (repeat(refine wkH ?_))
    by_cases c:q.num.sign<=0
    ·simp only[Wc c]
     (repeat(refine wkH ?_))
     refine Zo ?_
     refine Zr ?_
     repeat(refine wkB ?_;intros)
     exact Zd ⟨true,by unfold lgB;rw[Wc c];rfl⟩ trivial sbB suB
    ·simp only[We c]
     (repeat(first|refine wkH ?_|(refine tC rfl rfl ?_ ?_;focus(first|exact q1|exact q2))))
     refine Zo ?_
     refine Zr ?_
     repeat(refine wkB ?_;intros)
     exact Zd ⟨_,by unfold lgB;rw[We c,Bool.false_or]⟩ trivial sbB suB
   obtain⟨z,hz⟩:=z
   dsimp only
   rw[<-hz] at hnxt
   clear hz
   repeat(refine wkB ?_;intros)
   cases z with
   |true=>
    simp only[if_true] at hnxt
    repeat(refine wkB ?_;intros)
    refine sU (k:=21) (enc:=rP) (s:=s) rfl rfl ?_ ?_ ?_ ?_
    ·rfl
    ·rfl
    ·exact⟨by decide,by omega,by omega⟩
    intro s'
    repeat(first|(refine wkB ?_;intros)|(refine wnM ?_ ?_;(focus(exact⟨by omega,by omega⟩));intros))
    exact Ze ⟨m+1,_,s'⟩ ⟨hlt,hnxt⟩ sbB suB (by show us.length-(m+1)<us.length-m;omega)
   |false=>
    simp only[Bool.false_eq_true,if_false] at hnxt
    repeat(first|(refine wkB ?_;intros)|(refine wnM ?_ ?_;(focus(exact⟨by omega,by omega⟩));intros))
    exact Ze ⟨m+1,_,s⟩ ⟨hlt,hnxt⟩ sbB suB (by show us.length-(m+1)<us.length-m;omega)
  ·have hge:m=us.length:=by have:=Wb h;omega
   obtain⟨s',f1,f2⟩:=SlS.turn 46 (hend hge) s
   repeat(refine wkB ?_;intros)
   exact Zd s' trivial (by rw[f1];exact sbB) (by rw[f2];exact suB)
 repeat(refine wkB ?_;intros)
 exact ZA rfl rfl (fun w hw=>⟨s,rfl,hw.sub suB⟩)
instance Zuh (w0:World)(L:List Blk)(v:Value)(us:List PU)(q:Rat)[h:LstC w0 L v PU rP us]:SpecR prog w0 L 33 [v,vQ q] (SlS rP 21 (lgL us q us.length)) (fun s=>vSl s) (fun s=>mS 46 s) (us.length<=1048576/\M q<=16/\∀u∈us,IvOk 3 u.In):=⟨fun hp w hw=>ZhA v us q w (h.out w hw) hp.1 hp.2.1 hp.2.2⟩
end
end Go.Vt
