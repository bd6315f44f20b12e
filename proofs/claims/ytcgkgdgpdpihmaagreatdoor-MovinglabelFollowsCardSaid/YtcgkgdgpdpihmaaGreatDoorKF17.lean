/- that a label follows another one where the units say so (part 17 of 25.) Conditions: those that each statement names. -/
import Derived.Test.YtcgkgdgpdpihmaaGreatDoorProg
import Derived.Test.YtcgkgdgpdpihmaaGreatDoorKF10
import Derived.Test.YtcgkgdgpdpihmaaGreatDoorKF16
set_option linter.unusedSimpArgs false
set_option linter.unusedVariables false
set_option maxHeartbeats 2000000
set_option maxRecDepth 100000
namespace Go.Vt
open Go.RowKit Go.Proofs
open Go.Proofs.Tryz (prog)
section
instance (priority :=low) lstFV {xs:List Za}(w0:World)(L L1:List Blk)(s:FlS rI 20 xs)[h:OwnF 37 s L L1]:LstC w0 L (vF s) Za rI xs:=⟨fun w hw=>s.reads 37 ((hw.perm h.out).sub (List.sublist_append_left _ _))⟩
def dcd (op:Int)(a b:Bool):Bool:=if op=1 then a||b else if op=2 then a&&b else a&& !b
instance (priority :=high) ZpU (op:Int)(a b:Bool):SpecC prog 72 [.int .i64 op, .bool a, .bool b] (.bool (dcd op a b)) True:=ZiM op a b
abbrev lstI (xs:List Za):Za:=gi xs ((xs.length:Int)-1)
def turnI (xs:List Za)(t:Rl)(o:Bool):List Za:=xs.set (xs.length-1) ⟨(lstI xs).From,t,(lstI xs).OpenFrom,o⟩
theorem Zcx (xs:List Za)(t:Rl)(o:Bool):(turnI xs t o).length=xs.length:=by simp[turnI]
structure CbS where
 out:List Za
 on:Bool
def cbH (out:List Za)(on here:Bool)(t:Rl):List Za:=if on=true then turnI out t (!here) else if here=true then out++[⟨t,t,false,false⟩] else out
noncomputable def cbR (op:Int)(a b:List Za)(xs:List Rl):Nat->CbS
 |0=>⟨[],false⟩
 |k+1=>
  let p:=cbR op a b xs k
  let t:=gi xs (k:Int)
  let here:=dcd op (hlB a t) (hlB b t)
  let o1:=cbH p.out p.on here t
  if k+1=xs.length then⟨o1,p.on⟩
  else
   let u:=gi xs ((k+1:Nat):Int)
   let bt:=dcd op (spB a t u) (spB b t u)
   ⟨if(bt&& !here)=true then o1++[⟨t,u,true,true⟩] else o1,bt⟩
noncomputable def cmbR (op:Int)(a b:List Za):List Za:=(cbR op a b (enR (a++b)) (enR (a++b)).length).out
theorem ZhH (out:List Za)(on here:Bool)(t:Rl):(cbH out on here t).length<=out.length+1:=by
 unfold cbH
 split
 ·rw[Zcx];omega
 ·split <;> simp
theorem ZeY (op:Int)(a b:List Za)(xs:List Rl):∀k,(cbR op a b xs k).out.length<=2*k
 |0=>Wl _
 |k+1=>by
  have h1:=ZeY op a b xs k
  have h2:=ZhH (cbR op a b xs k).out (cbR op a b xs k).on (dcd op (hlB a (gi xs (k:Int))) (hlB b (gi xs (k:Int)))) (gi xs (k:Int))
  rw[cbR]
  dsimp only
  split
  ·dsimp only;omega
  ·dsimp only
   split
   ·simp only[Wp,List.length_singleton];omega
   ·omega
theorem Zka (op:Int)(a b:List Za)(xs:List Rl):∀k,(cbR op a b xs k).on=true->0<(cbR op a b xs k).out.length
 |0,h=>by cases h
 |k+1,h=>by
  have ih:=Zka op a b xs k
  rw[cbR] at h⊢
  dsimp only at h⊢
  generalize cbR op a b xs k=p at*
  generalize dcd op (hlB a (gi xs (k:Int))) (hlB b (gi xs (k:Int)))=here at*
  generalize gi xs (k:Int)=t at*
  have hH:p.on=true\/here=true->0<(cbH p.out p.on here t).length:=fun hc=>by
   unfold cbH
   by_cases c:p.on=true
   ·rw[if_pos c,Zcx];exact ih c
   ·rw[if_neg c,if_pos (hc.resolve_left c)];simp
  split at h
  ·rename_i hk
   rw[if_pos hk]
   exact hH (.inl h)
  ·rename_i hk
   rw[if_neg hk]
   dsimp only at h⊢
   rw[h]
   cases here
   ·simp
   ·simpa using hH (.inr rfl)
theorem ZnJ {P:Program}{w0:World}{n:Nat}{ops:Array Oper}{Q:Exit->Act->World->Prop}{E:Env}{L:List Blk}{S:Type}{id:Nat}(I:S->Prop)(Es:S->Env)(Ls:S->List Blk){l:List Oper}{x y:Code}(h1:JO P w0 n ops (Then P x (Exit.inBlock id (MidQ w0 n I Es Ls (fun _ _=>True) Q))) l E L)(h2:∀s,I s->J P w0 n y Q (Es s) (Ls s)):JO P w0 n ops (Then P x (Exit.inBlock id (Then P y Q))) l E L:=⟨fun a w ha hw=>by
 refine Zba (fun e a' w' hq=>?_) l a w (h1.out a w ha hw)
 cases e with
 |normal=>exact wp_mono hq (ZN (ZV h2))
 |exit j=>exact ZN (id:=id) (ZV h2) (.exit j) a' w' hq
 |goto j=>exact ZN (id:=id) (ZV h2) (.goto j) a' w' hq
 |ret=>exact ZN (id:=id) (ZV h2) .ret a' w' hq
 |panic j=>exact ZN (id:=id) (ZV h2) (.panic j) a' w' hq
 |outgrown=>exact ZN (id:=id) (ZV h2) .outgrown a' w' hq⟩
theorem ZnS {P:Program}{w0:World}{n:Nat}{ops:Array Oper}{Q:Exit->Act->World->Prop}{E:Env}{L:List Blk}{S:Type}(I:S->Prop)(Es:S->Env)(Ls:S->List Blk){l:List Oper}{x y:Code}(h1:JO P w0 n ops (Then P x (MidQ w0 n I Es Ls (fun _ _=>True) Q)) l E L)(h2:∀s,I s->J P w0 n y Q (Es s) (Ls s)):JO P w0 n ops (Then P x (Then P y Q)) l E L:=⟨fun a w ha hw=>by
 refine Zba (fun e a' w' hq=>?_) l a w (h1.out a w ha hw)
 cases e with
 |normal=>exact wp_mono hq (ZV h2)
 |exit j=>exact(ZV h2) (.exit j) a' w' hq
 |goto j=>exact(ZV h2) (.goto j) a' w' hq
 |ret=>exact(ZV h2) .ret a' w' hq
 |panic j=>exact(ZV h2) (.panic j) a' w' hq
 |outgrown=>exact(ZV h2) .outgrown a' w' hq⟩
theorem pm3 (M:List Blk)(x b q:Blk):(M++[x,b,q]).Perm ((b::(M++[q]))++[x]):=by
 have h1:(b::(M++[q]))++[x]=b::(M++[q,x]):=by simp
 rw[h1]
 exact List.perm_append_comm.trans (((List.Perm.swap b x (q::M)).trans ((List.Perm.swap q x M).cons b)).trans ((List.perm_append_comm (l₁:=[q,x]) (l₂:=M)).cons b))
structure CbIn (a b:List Za):Prop where
 la:a.length<=1024
 lb:b.length<=1024
 ia:∀i∈a,IvOk B28 i
 ib:∀i∈b,IvOk B28 i
set_option maxHeartbeats 16000000 in
theorem Zjd (op:Int)(v1 v2:Value)(a b:List Za)(w:World)(hv1:ArgS w v1 rI a)(hv2:ArgS w v2 rI b)(hk:CbIn a b):
  Calls prog 19 [.int .i64 op,v1,v2].toArray w (RetM (SlS rI 20 (cmbR op a b)) (fun s=>vSl s) (fun s=>mS 37 s) w):=by
 have hL1:=fun L=>hv1.lst L
 have hL2:=fun L=>hv2.lst L
 have hla:=hk.la
 have hlb:=hk.lb
 have hen:(([]++a)++b).length<=65536/\∀i∈([]++a)++b,IvOk B28 i:=by
  refine⟨by simp only[Wg,Wp];omega,fun i hi=>?_⟩
  rw[Wg,Wv] at hi
  exact hi.elim (hk.ia i) (hk.ib i)
 refine Zb Tryz.func19 rfl Tryz.ntmps19 rfl ?_
 repeat(refine wkB ?_;intros)
 rename_i b0
 refine sVF (k:=19) (enc:=rI) (s:=FlS.em b0) (hx:=⟨rfl⟩) rfl rfl ?_ ?_ ?_
 ·rfl
 ·exact⟨by simp only[Wx];omega,by simp only[Wx];omega⟩
 intro s1
 repeat(refine wkB ?_;intros)
 refine sVF rfl rfl ?_ ?_ ?_
 ·rfl
 ·exact⟨by simp only[Wp,Wx];omega,by simp only[Wp,Wx];omega⟩
 intro s2
 repeat(first|(refine wkB ?_;intros)|(refine wnM ?_ ?_;(focus(exact hen));intros))
 rename_i q
 have hx:SrR (2*(([]++a)++b).length) (enR (a++b)):=Zep hen.2
 have hfin:cmbR op a b=(cbR op a b (enR (a++b)) (enR (a++b)).length).out:=rfl
 rw[hfin]
 generalize enR (a++b)=xs at*
 have hxn:=hx.n
 have hxl:xs.length<=65536:=by
  simp only[Wg,Wp] at hxn
  omega
 refine Zp (S:=(_:Nat)×(_:Bool)×(p:List Za)×SlS rI 20 p) (fun k=>(k.1<=xs.length/\(k.1=0\/k.1<xs.length))/\(⟨k.2.2.1,k.2.1⟩:CbS)=cbR op a b xs k.1) (fun k=>[(0, .int .i64 op),(1,v1),(2,v2),(7,vSl q),(8,vSl k.2.2.2),(9, .bool k.2.1),(10, .int .i64 (k.1:Nat))]) (fun k=>mS 37 k.2.2.2++mS 35 q) (fun k=>xs.length-k.1) ⟨0,false,[],SlS.no⟩ ⟨⟨Wm _, .inl rfl⟩,rfl⟩ sbB suB (fun k hkl=>?_)
 obtain⟨k,on,out,o⟩:=k
 obtain⟨⟨hkl,hk2⟩,hpe⟩:=hkl
 dsimp only at hkl hk2 hpe⊢
 have hon:=Zka op a b xs k
 have hln:=ZeY op a b xs k
 have hstp:cbR op a b xs (k+1)=(if k+1=xs.length then⟨cbH (cbR op a b xs k).out (cbR op a b xs k).on (dcd op (hlB a (gi xs (k:Int))) (hlB b (gi xs (k:Int)))) (gi xs (k:Int)),(cbR op a b xs k).on⟩ else⟨if(dcd op (spB a (gi xs (k:Int)) (gi xs ((k+1:Nat):Int))) (spB b (gi xs (k:Int)) (gi xs ((k+1:Nat):Int)))&& !(dcd op (hlB a (gi xs (k:Int))) (hlB b (gi xs (k:Int)))))=true then cbH (cbR op a b xs k).out (cbR op a b xs k).on (dcd op (hlB a (gi xs (k:Int))) (hlB b (gi xs (k:Int)))) (gi xs (k:Int))++[⟨gi xs (k:Int),gi xs ((k+1:Nat):Int),true,true⟩] else cbH (cbR op a b xs k).out (cbR op a b xs k).on (dcd op (hlB a (gi xs (k:Int))) (hlB b (gi xs (k:Int)))) (gi xs (k:Int)),dcd op (spB a (gi xs (k:Int)) (gi xs ((k+1:Nat):Int))) (spB b (gi xs (k:Int)) (gi xs ((k+1:Nat):Int)))⟩):=by
  conv=>lhs;unfold cbR
 have hz0:k=xs.length->(cbR op a b xs k).out=(cbR op a b xs xs.length).out:=fun h=>by rw[h]
 have hnxt:k+1=xs.length->(cbR op a b xs (k+1)).out=(cbR op a b xs xs.length).out:=fun h=>by rw[h]
 rw[<-hpe] at hon hln hstp hz0
 clear hpe
 dsimp only at*
 repeat(refine wkB ?_;intros)
 refine Zi rfl (fun h=>?_) (fun h=>?_)
 ·have hlt:k<xs.length:=by have:=Wa h;omega
  have e1:(k:Int)+1=((k+1:Nat):Int):=by omega
  have hr1:=hx.b (gi xs (k:Int)) (ZB (by omega))
  have p1:a.length<=1048576/\(∀i∈a,IvOk B28 i)/\RtB (gi xs (k:Int)):=⟨by omega,hk.ia,hr1⟩
  have p2:b.length<=1048576/\(∀i∈b,IvOk B28 i)/\RtB (gi xs (k:Int)):=⟨by omega,hk.ib,hr1⟩
  rcases q.cases 35 with⟨y0,y1,y2⟩|⟨bq,cb,sp,hc1,y1,y2,yne⟩
  ·rw[y0] at hlt
   cases hlt
  simp only[y1,y2,Wf,Wg]
  repeat(refine wkB ?_;intros)
  rename_i b11
  (refine ZE (.v [0,1,2,3,4,5,6,7] (.e1 8 (.fin))) ([⟨b11,Zd (Ze (gi xs (k:Int))),35⟩]) (h:=?_);refine wkX ?_)
  (repeat(first|refine wkH ?_|(refine tC rfl rfl ?_ ?_;focus(first|exact p1|exact p2|exact trivial))))
  repeat(refine wkT ?_;intros)
  generalize hhere:dcd op (hlB a (gi xs (k:Int))) (hlB b (gi xs (k:Int)))=here at*
  generalize htt:gi xs (k:Int)=t at*
  repeat(refine wkB ?_;intros)
  refine ZnJ (S:=SlS rI 20 (cbH out on here t)) (fun _=>True) (fun s=>[(0, .int .i64 op),(1,v1),(2,v2),(7, .slice (some ⟨bq,0,none⟩) xs.length cb),(8,vSl s),(9, .bool on),(10, .int .i64 (k:Nat)),(11, .pointer (some ⟨b11,0,none⟩)),(12, .bool here)]) (fun s=>⟨b11,Zd (Ze t),35⟩::(mS 37 s++[⟨bq,row Zq xs sp,35⟩])) ?_ (fun s _=>?_)
  ·cases on with
   |true=>
    have hpo:=hon rfl
    have ek:((out.length:Int)-1).toNat=out.length-1:=by omega
    rcases o.cases 37 with⟨z0,z1,z2⟩|⟨bo,co,so,ho,z1,z2,zne⟩
    ·rw[z0] at hpo;cases hpo
    simp only[z1,z2,Wf,Wg]
    have hbr:∀z:Bool,cbH out true z t=turnI out t (!z):=fun z=>if_pos rfl
    have hset:∀(z:Bool),(out.set ((out.length:Int)-1).toNat ⟨(lstI out).From,t,(lstI out).OpenFrom,(lstI out).OpenTo⟩).set ((out.length:Int)-1).toNat ⟨(gi (out.set ((out.length:Int)-1).toNat ⟨(lstI out).From,t,(lstI out).OpenFrom,(lstI out).OpenTo⟩) ((out.length:Int)-1)).From,(gi (out.set ((out.length:Int)-1).toNat ⟨(lstI out).From,t,(lstI out).OpenFrom,(lstI out).OpenTo⟩) ((out.length:Int)-1)).To,(gi (out.set ((out.length:Int)-1).toNat ⟨(lstI out).From,t,(lstI out).OpenFrom,(lstI out).OpenTo⟩) ((out.length:Int)-1)).OpenFrom,z⟩=turnI out t z:=fun z=>by
     have hg:gi (out.set ((out.length:Int)-1).toNat ⟨(lstI out).From,t,(lstI out).OpenFrom,(lstI out).OpenTo⟩) ((out.length:Int)-1)=⟨(lstI out).From,t,(lstI out).OpenFrom,(lstI out).OpenTo⟩:=by
      rw[Zbl (by simp only[List.length_set];omega)]
      simp
     rw[hg,List.set_set,ek]
     rfl
    cases here with
    |true=>
     repeat(refine wkB ?_;intros)
     refine sRF (i:=(out.length:Int)-1) (f:=9) (⟨(lstI out).From,t,(lstI out).OpenFrom,(lstI out).OpenTo⟩:Za) rfl rfl ?_ ?_
     ·omega
     repeat(refine wkB ?_;intros)
     refine sRF (i:=(out.length:Int)-1) (f:=19) (⟨(gi (out.set ((out.length:Int)-1).toNat ⟨(lstI out).From,t,(lstI out).OpenFrom,(lstI out).OpenTo⟩) ((out.length:Int)-1)).From,(gi (out.set ((out.length:Int)-1).toNat ⟨(lstI out).From,t,(lstI out).OpenFrom,(lstI out).OpenTo⟩) ((out.length:Int)-1)).To,(gi (out.set ((out.length:Int)-1).toNat ⟨(lstI out).From,t,(lstI out).OpenFrom,(lstI out).OpenTo⟩) ((out.length:Int)-1)).OpenFrom,false⟩:Za) rfl rfl ?_ ?_
     ·rw[List.length_set];omega
     rw[hset]
     obtain⟨s0,hv',hm'⟩:=SlS.put (enc:=rI) (k:=20) (b:=bo) 37 (Zcx out t false) ho hpo
     rw[<-hv']
     obtain⟨s',f1,f2⟩:=SlS.turn 37 (hbr true).symm s0
     repeat(refine wkB ?_;intros)
     exact Zh s' trivial (by rw[f1];exact sbB) (by rw[f2,show mS 37 s0=_ from hm'];exact suB)
    |false=>
     repeat(refine wkB ?_;intros)
     refine sRF (i:=(out.length:Int)-1) (f:=9) (⟨(lstI out).From,t,(lstI out).OpenFrom,(lstI out).OpenTo⟩:Za) rfl rfl ?_ ?_
     ·omega
     repeat(refine wkB ?_;intros)
     refine sRF (i:=(out.length:Int)-1) (f:=19) (⟨(gi (out.set ((out.length:Int)-1).toNat ⟨(lstI out).From,t,(lstI out).OpenFrom,(lstI out).OpenTo⟩) ((out.length:Int)-1)).From,(gi (out.set ((out.length:Int)-1).toNat ⟨(lstI out).From,t,(lstI out).OpenFrom,(lstI out).OpenTo⟩) ((out.length:Int)-1)).To,(gi (out.set ((out.length:Int)-1).toNat ⟨(lstI out).From,t,(lstI out).OpenFrom,(lstI out).OpenTo⟩) ((out.length:Int)-1)).OpenFrom,true⟩:Za) rfl rfl ?_ ?_
     ·rw[List.length_set];omega
     rw[hset]
     obtain⟨s0,hv',hm'⟩:=SlS.put (enc:=rI) (k:=20) (b:=bo) 37 (Zcx out t true) ho hpo
     rw[<-hv']
     obtain⟨s',f1,f2⟩:=SlS.turn 37 (hbr false).symm s0
     repeat(refine wkB ?_;intros)
     exact Zh s' trivial (by rw[f1];exact sbB) (by rw[f2,show mS 37 s0=_ from hm'];exact suB)
   |false=>
    cases here with
    |true=>
     repeat(refine wkB ?_;intros)
     refine sU rfl rfl ?_ ?_ ?_ ?_
     ·rfl
     ·rfl
     ·exact⟨by decide,by omega,by omega⟩
     intro s0
     obtain⟨s',f1,f2⟩:=SlS.turn 37 (show out++[⟨t,t,false,false⟩]=cbH out false true t from rfl) s0
     repeat(refine wkB ?_;intros)
     exact Za0 s' trivial (by rw[f1];exact sbB) (by rw[f2];exact⟨_,pm3 _ _ _ _⟩)
    |false=>
     obtain⟨s',f1,f2⟩:=SlS.turn 37 (show out=cbH out false false t from rfl) o
     repeat(refine wkB ?_;intros)
     exact Zh s' trivial (by rw[f1];exact sbB) (by rw[f2];exact suB)
  have hcl:(cbH out on here t).length<=out.length+1:=ZhH out on here t
  repeat(refine wkB ?_;intros)
  by_cases c:k+1=xs.length
  ·simp only[Wc (show(k:Int)+1=(xs.length:Nat) by omega)]
   rw[if_pos c] at hstp
   have hres:=hnxt c
   rw[hstp] at hres
   obtain⟨s',f1,f2⟩:=SlS.turn 37 hres s
   repeat(refine wkB ?_;intros)
   exact Zz rfl rfl (fun w hw=>⟨s',by show Ending.returned _=Ending.returned (vSl s');rw[f1],by show Own _ (mS _ s') _;rw[f2];exact hw.sub suB⟩)
  ·simp only[We (show¬(k:Int)+1=(xs.length:Nat) by omega)]
   rw[if_neg c] at hstp
   have hlt2:k+1<xs.length:=by omega
   have hr2:=hx.b (gi xs ((k+1:Nat):Int)) (ZB (by omega))
   have p3:a.length<=1048576/\(∀i∈a,IvOk B28 i)/\RtB t/\RtB (gi xs ((k+1:Nat):Int)):=⟨by omega,hk.ia,hr1,hr2⟩
   have p4:b.length<=1048576/\(∀i∈b,IvOk B28 i)/\RtB t/\RtB (gi xs ((k+1:Nat):Int)):=⟨by omega,hk.ib,hr1,hr2⟩
   repeat(refine wkB ?_;intros)
   simp only[e1]
   repeat(refine wkB ?_;intros)
   rename_i b14
   (refine ZE (.v [0,1,2,3,4,5,6,7,8,9] (.e1 10 (.fin))) ([⟨b14,Zd (Ze (gi xs ((k+1:Nat):Int))),35⟩,⟨b11,Zd (Ze t),35⟩]) (h:=?_);refine wkX ?_)
   (repeat(first|refine wkH ?_|(refine tC rfl rfl ?_ ?_;focus(first|exact p3|exact p4|exact trivial))))
   repeat(refine wkT ?_;intros)
   generalize dcd op (spB a t (gi xs ((k+1:Nat):Int))) (spB b t (gi xs ((k+1:Nat):Int)))=bt at*
   generalize huu:gi xs ((k+1:Nat):Int)=u at*
   repeat(refine wkB ?_;intros)
   have hson:(cbR op a b xs (k+1)).on=bt:=by rw[hstp]
   refine ZnS (S:=SlS rI 20 (cbR op a b xs (k+1)).out) (fun _=>True) (fun s=>[(0, .int .i64 op),(1,v1),(2,v2),(7, .slice (some ⟨bq,0,none⟩) xs.length cb),(8,vSl s),(10, .int .i64 (k:Nat)),(15, .bool bt)]) (fun s=>mS 37 s++[⟨bq,row Zq xs sp,35⟩]) ?_ (fun s3 _=>?_)
   ·have hout:∀ys,(if(bt&& !here)=true then cbH out on here t++[⟨t,u,true,true⟩] else cbH out on here t)=ys->ys=(cbR op a b xs (k+1)).out:=fun ys h=>by rw[hstp];exact h.symm
    cases bt with
    |true=>
     cases here with
     |true=>
      obtain⟨s',f1,f2⟩:=SlS.turn 37 (hout _ rfl) s
      repeat(refine wkB ?_;intros)
      exact Zh s' trivial (by rw[f1];exact sbB) (by rw[f2];exact suB)
     |false=>
      repeat(refine wkB ?_;intros)
      refine sU rfl rfl ?_ ?_ ?_ ?_
      ·rfl
      ·rfl
      ·exact⟨by decide,by omega,by omega⟩
      intro s4
      obtain⟨s',f1,f2⟩:=SlS.turn 37 (hout _ rfl) s4
      repeat(refine wkB ?_;intros)
      exact Zh s' trivial (by rw[f1];exact sbB) (by rw[f2];exact suB)
    |false=>
     obtain⟨s',f1,f2⟩:=SlS.turn 37 (hout _ rfl) s
     repeat(refine wkB ?_;intros)
     exact Zh s' trivial (by rw[f1];exact sbB) (by rw[f2];exact suB)
   repeat(first|(refine wkB ?_;intros)|(refine wnM ?_ ?_;(focus(exact⟨by omega,by omega⟩));intros))
   exact Zf ⟨k+1,bt,_,s3⟩ ⟨⟨hlt, .inr hlt2⟩,(by show CbS.mk (cbR op a b xs (k+1)).out bt=_;rw[<-hson])⟩ (by simp only[y1];exact sbB) (by simp only[y2];exact suB) (by show xs.length-(k+1)<xs.length-k;omega)
 ·have hge:k=xs.length:=by have:=Wb h;omega
  obtain⟨s',f1,f2⟩:=SlS.turn 37 (hz0 hge) o
  repeat(refine wkB ?_;intros)
  exact Zz rfl rfl (fun w hw=>⟨s',by show Ending.returned _=Ending.returned (vSl s');rw[f1],by show Own _ (mS _ s') _;rw[f2];exact hw.sub suB⟩)
instance Zuu (w0:World)(L:List Blk)(op:Int)(v1 v2:Value)(a b:List Za)[h1:LstC w0 L v1 Za rI a][h2:LstC w0 L v2 Za rI b]:SpecR prog w0 L 19 [.int .i64 op,v1,v2] (SlS rI 20 (cmbR op a b)) (fun s=>vSl s) (fun s=>mS 37 s) (CbIn a b):=⟨fun hp w hw=>Zjd op v1 v2 a b w (h1.out w hw) (h2.out w hw) hp⟩
end
section
class LstN (w0:World)(L:List Blk)(v:Value)(α:outParam Type)(enc:outParam (α->Array Value))(xs:outParam (List α)):Prop where
 out:∀w,Own w0 L w->ArgS w v enc xs
 nil:xs=[]->v= .slice none 0 0
instance lstNOwn {α:Type}{enc:α->Array Value}{k:Nat}{xs:List α}[he:EncC enc k](w0:World)(L L1:List Blk)(T:TypeId)(s:SlS enc k xs)[h:OwnS T s L L1]:LstN w0 L (vSl s) α enc xs:=⟨(lstOwn w0 L L1 T s).out,fun h0=>by
 rcases s.cases T with⟨-,hv, -⟩|⟨b,c,sp,h1,hv,hm,hne⟩
 ·exact hv
 ·exact absurd h0 hne⟩
instance Zvl :BsC prog 110 0 [] (row rU [] []) 145:=⟨fun w=>by kernel_rfl⟩
theorem Zi3 (v:Value)(us:List UL)(w:World)(hv:ArgS w v rU us)(hn:us=[]->v= .slice none 0 0)(hl:us.length<=1048576):
  Calls prog 160 [v].toArray w (RetM (SlS rU 21 us) (fun s=>vSl s) (fun s=>mS 145 s) w):=by
 by_cases h0:us=[]
 ·obtain rfl:=hn h0
  subst h0
  refine Zb Tryz.func160 rfl Tryz.ntmps160 rfl ?_
  repeat(refine wkB ?_;intros)
  exact Zz rfl rfl (fun w hw=>⟨SlS.no,rfl,hw⟩)
 ·obtain⟨bw,ow,cw,rfl,hcw,hrow⟩:=hv.blk (k:=20) h0 []
  have hrow':∀L,RowC w L bw ow UL rU us:=fun L=>⟨fun w' hw'=>hrow.out w' (hw'.sub (Wk _))⟩
  refine Zb Tryz.func160 rfl Tryz.ntmps160 rfl ?_
  repeat(refine wkB ?_;intros)
  refine sG rfl rfl ?_ h0 ?_ ?_ ?_ ?_ ?_
  ·rfl
  ·rfl
  ·rfl
  ·decide
  ·exact⟨by omega,by omega⟩
  intro s'
  repeat(refine wkB ?_;intros)
  exact Zz rfl rfl (fun w hw=>⟨s',rfl,hw.sub suB⟩)
instance Zu4 (w0:World)(L:List Blk)(v:Value)(us:List UL)[h:LstN w0 L v UL rU us]:SpecR prog w0 L 160 [v] (SlS rU 21 us) (fun s=>vSl s) (fun s=>mS 145 s) (us.length<=1048576):=⟨fun hl w hw=>Zi3 v us w (h.out w hw) h.nil hl⟩
instance ZmM :CallC prog 161:=⟨by kernel_rfl⟩
noncomputable def sor (us:List UL):List UL:=srt us (us.length-1)
theorem Zhk (v:Value)(us:List UL)(w:World)(hv:ArgS w v rU us)(hn:us=[]->v= .slice none 0 0)(hl:us.length<=19)(hok:∀u∈us,IvOk BQ u.In):
  Calls prog 114 [v].toArray w (RetM (SlS rU 21 (sor us)) (fun s=>vSl s) (fun s=>mS 145 s) w):=by
 have:∀L,LstN w L v UL rU us:=fun L=>⟨fun w' hw'=>hv.to hw'.ext,hn⟩
 refine Zb Tryz.func114 rfl Tryz.ntmps114 rfl ?_
 repeat(first|(refine wkB ?_;intros)|(refine wnM ?_ ?_;(focus(omega));intros))
 rename_i s
 refine sZ rfl rfl ?_ ?_
 ·exact⟨hl,hok⟩
 intro s'
 repeat(refine wkB ?_;intros)
 exact Zz rfl rfl (fun w hw=>⟨s'.1,by show Ending.returned (vSl s)=Ending.returned (vSl s'.1);rw[s'.2],hw.sub suB⟩)
instance Zs7 (w0:World)(L:List Blk)(v:Value)(us:List UL)[h:LstN w0 L v UL rU us]:SpecR prog w0 L 114 [v] (SlS rU 21 (sor us)) (fun s=>vSl s) (fun s=>mS 145 s) (us.length<=19/\∀u∈us,IvOk BQ u.In):=⟨fun hp w hw=>Zhk v us w (h.out w hw) h.nil hp.1 hp.2⟩
end
section
section
variable {P : Program} {α : Type} {enc : α -> Array Value} {k : Nat} {xs ys : List α}
instance ldVS {T e:TypeId}{s:SlS enc k xs}[h:UndC P T (.slice e)]:LdC P T #[vSl s] 0 (vSl s):=⟨ZD (by simp[oneB,h.out]) rfl⟩
theorem Zcy (s:SlS enc k xs):(vSl s).cells=#[vSl s]:=by
 rcases s.cases 0 with⟨-,hv, -⟩|⟨b,c,sp, -,hv, -, -⟩ <;> rw[hv] <;> rfl
theorem ZnB (s:SlS enc k xs):(vSl s).oneCell'=true:=by
 rcases s.cases 0 with⟨-,hv, -⟩|⟨b,c,sp, -,hv, -, -⟩ <;> rw[hv] <;> rfl
instance stVS {T:TypeId}{v:Value}{s:SlS enc k xs}[h:SizeC P T 1]:StC P T #[v] 0 (vSl s) #[vSl s]:=⟨by rw[Zcy];exact h.out,by rw[Zcy];rfl,by rw[Zcy];simp[ZnB],by rw[Zcy];rfl⟩
end
theorem Zh3 {P:Program}{w0:World}{n:Nat}{c:Code}{Q:Exit->Act->World->Prop}{E:Env}{L:List Blk}(L':List Blk)(p:L.Perm L')(h:J P w0 n c Q E L'):J P w0 n c Q E L:=⟨fun a w ha hw=>h.out a w ha (hw.perm p)⟩
def at1 (t:Zg)(f:Int):UL:=⟨⟨t,t,false,false⟩,f⟩
theorem ZiY (w0 w:World)(L2:List Blk)(b:Nat)(xs:List UL)(s:SlS rU 21 xs)(t:Zg)(f:Int)(hl:xs.length<=1048576)(hw:Own w0 (mS 145 s++⟨b,#[vSl s],110⟩::L2) w):
  Calls prog 166 [vR t, .int .i64 f, .pointer (some ⟨b,0,none⟩)].toArray w (RetX w0 (SlS rU 21 (xs++[at1 t f])) (fun _=> .tuple #[]) (fun s'=>mS 145 s'++⟨b,#[vSl s'],110⟩::L2)):=by
 refine Zas Tryz.func166 rfl Tryz.ntmps166 rfl hw ?_
 repeat(refine wkB ?_;intros)
 refine sU rfl rfl ?_ ?_ ?_ ?_
 ·rfl
 ·rfl
 ·exact⟨by decide,by omega,by omega⟩
 intro s'
 repeat(refine wkB ?_;intros)
 exact Zby rfl (fun w hw=>⟨s',rfl,hw.sub suB⟩)
instance Zu2 (w0:World)(L L1 L2:List Blk)(b:Nat){xs:List UL}(s:SlS rU 21 xs)(t:Zg)(f:Int)[h1:DelC b L #[vSl s] 110 L1][h2:OwnS 145 s L1 L2]:SpecX prog w0 L 166 [vR t, .int .i64 f, .pointer (some ⟨b,0,none⟩)] (SlS rU 21 (xs++[at1 t f])) (fun _=> .tuple #[]) (fun s'=>mS 145 s'++⟨b,#[vSl s'],110⟩::L2) (xs.length<=1048576):=⟨fun hl w hw=>
 ZiY w0 w L2 b xs s t f hl (hw.perm ((h1.out.trans (h2.out.cons _)).trans List.perm_middle.symm))⟩
def inn1 (u:UL):UL:=⟨⟨u.In.From,u.In.To,true,true⟩,u.F⟩
def atU (u:UL):List UL:=(if u.In.OpenFrom=true then [] else [at1 u.In.From u.F])++(if u.In.From=u.In.To then [] else inn1 u::if u.In.OpenTo=true then [] else [at1 u.In.To u.F])
def atm (us:List UL):Nat->List UL
 |0=>[]
 |m+1=>atm us m++atU (gi us (m:Int))
theorem ZnU (u:UL):(atU u).length<=3:=by
 unfold atU
 split <;> split <;> (try split) <;> simp
theorem ZdJ (us:List UL):∀m,(atm us m).length<=3*m
 |0=>Wl _
 |m+1=>by
  have:=ZdJ us m
  have:=ZnU (gi us (m:Int))
  rw[atm,Wp]
  omega
theorem ZiF (v:Value)(us:List UL)(w:World)(hv:ArgS w v rU us)(hl:us.length<=65536):
  Calls prog 115 [v].toArray w (RetM (SlS rU 21 (atm us us.length)) (fun s=>vSl s) (fun s=>mS 145 s) w):=by
 refine Zb Tryz.func115 rfl Tryz.ntmps115 rfl ?_
 obtain⟨p,cp,rfl⟩:=hv.form
 repeat(refine wkB ?_;intros)
 rename_i b3
 refine Zp (S:=(xs:List UL)×Nat×SlS rU 21 xs) (fun s=>s.2.1<=us.length/\s.1=atm us s.2.1) (fun s=>[(3, .pointer (some ⟨b3,0,none⟩)),(4, .func (.func 166) #[] [.pointer (some ⟨b3,0,none⟩)].toArray),(8, .slice p us.length cp),(9, .int .i64 us.length),(10, .int .i64 (s.2.1:Nat))]) (fun s=>mS 145 s.2.2++[⟨b3,#[vSl s.2.2],110⟩]) (fun s=>us.length-s.2.1) ⟨[],0,SlS.no⟩
  ⟨Wm _,rfl⟩ sbB slB (fun s hs=>?_)
 obtain⟨xs,m,s⟩:=s
 obtain⟨hm,hxs⟩:=hs
 simp only at hm hxs⊢
 repeat(refine wkB ?_;intros)
 refine Zi rfl (fun h=>?_) (fun h=>?_)
 ·have hlt:m<us.length:=by have:=Wa h;omega
  have hne:us≠[]:=fun h0=>by rw[h0] at hlt;simp at hlt
  obtain⟨bw,ow,cw,hvw,hcw,hrow⟩:=hv.blk (k:=20) hne []
  injection hvw with e1 e2 e3
  subst e1
  subst e3
  have hrow':∀L,RowC w L bw ow UL rU us:=fun L=>⟨fun w' hw'=>hrow.out w' (hw'.sub (Wk _))⟩
  have hxl:=ZdJ us m
  rw[<-hxs] at hxl
  obtain⟨u,hu⟩:∃u,u=gi us (m:Int):=⟨_,rfl⟩
  have hnx:atm us (m+1)=xs++atU u:=by rw[atm,hxs,hu]
  repeat(refine wkB ?_;intros)
  simp only[<-hu]
  rename_i b6
  refine Zh3 (mS 145 s++[⟨b3,#[vSl s],110⟩,⟨b6,rU u,145⟩]) (by
   have h1:=(List.perm_append_singleton (⟨b6,rU u,145⟩:Blk) (mS 145 s++[⟨b3,#[vSl s],110⟩])).symm
   rw[List.append_assoc] at h1
   exact h1) ?_
  refine ZT (S:=(ys:List UL)×SlS rU 21 ys) (fun s'=>s'.1=xs++(if u.In.OpenFrom=true then [] else [at1 u.In.From u.F])) (fun s'=>[(6, .pointer (some ⟨b6,0,none⟩)),(3, .pointer (some ⟨b3,0,none⟩)),(4, .func (.func 166) #[] [.pointer (some ⟨b3,0,none⟩)].toArray),(8, .slice (some ⟨bw,ow,none⟩) us.length cp),(9, .int .i64 us.length),(10, .int .i64 (m:Nat))])
   (fun s'=>mS 145 s'.2++[⟨b3,#[vSl s'.2],110⟩,⟨b6,rU u,145⟩]) ?_ (fun s' hs'=>?_)
  ·rcases ho:u.In.OpenFrom with _|_
   ·repeat(refine wkB ?_;intros)
    refine sY rfl rfl ?_ ?_
    ·omega
    intro s'
    repeat(refine wkB ?_;intros)
    exact Zh ⟨_,s'⟩ rfl sbB suB
   ·repeat(refine wkB ?_;intros)
    exact Zh ⟨_,s⟩ (by rw[if_pos rfl,Wh]) sbB suB
  obtain⟨ys,s'⟩:=s'
  simp only at hs'⊢
  have hyl:ys.length<=3*m+1:=by rw[hs',Wp];split <;> simp <;> omega
  repeat(refine wkB ?_;intros)
  by_cases hi:u.In.From=u.In.To
  ·simp only[Wc hi]
   repeat(first|(refine wkB ?_;intros)|(refine wnM ?_ ?_;(focus(exact⟨by omega,by omega⟩));intros))
   exact Zf ⟨ys,m+1,s'⟩ ⟨hlt,by rw[hnx,atU,if_pos hi,Wh];exact hs'⟩ sbB suB (by show us.length-(m+1)<us.length-m;omega)
  ·simp only[We hi]
   repeat(refine wkB ?_;intros)
   refine sU rfl rfl ?_ ?_ ?_ ?_
   ·rfl
   ·rfl
   ·exact⟨by decide,by omega,by omega⟩
   intro s2
   repeat(refine wkB ?_;intros)
   rcases hc:u.In.OpenTo with _|_
   ·have e3:ys++[inn1 u]++[at1 u.In.To u.F]=atm us (m+1):=by
     rw[hnx,hs']
     unfold atU
     rw[if_neg hi,hc]
     simp
    repeat(refine wkB ?_;intros)
    refine sY rfl rfl ?_ ?_
    ·simp only[Wp,List.length_singleton];omega
    intro s3
    repeat(first|(refine wkB ?_;intros)|(refine wnM ?_ ?_;(focus(exact⟨by omega,by omega⟩));intros))
    exact Zf ⟨_,m+1,s3⟩ ⟨hlt,e3⟩ sbB suB (by show us.length-(m+1)<us.length-m;omega)
   ·have e3:ys++[inn1 u]=atm us (m+1):=by
     rw[hnx,hs']
     unfold atU
     rw[if_neg hi,hc]
     simp
    repeat(first|(refine wkB ?_;intros)|(refine wnM ?_ ?_;(focus(exact⟨by omega,by omega⟩));intros))
    exact Zf ⟨_,m+1,s2⟩ ⟨hlt,e3⟩ sbB suB (by show us.length-(m+1)<us.length-m;omega)
 ·have hge:m=us.length:=by have:=Wb h;omega
  subst hge
  subst hxs
  repeat(refine wkB ?_;intros)
  exact Zz rfl rfl (fun w hw=>⟨s,rfl,hw.sub suB⟩)
instance Zup (w0:World)(L:List Blk)(v:Value)(us:List UL)[h:LstC w0 L v UL rU us]:SpecR prog w0 L 115 [v] (SlS rU 21 (atm us us.length)) (fun s=>vSl s) (fun s=>mS 145 s) (us.length<=65536):=⟨fun hl w hw=>ZiF v us w (h.out w hw) hl⟩
end
section
abbrev lstU (xs:List UL):UL:=gi xs ((xs.length:Int)-1)
def hld (xs:List UL)(t:Zg):Bool:=decide (0<xs.length)&&(decide ((lstU xs).In.To=t)&& !(lstU xs).In.OpenTo)
theorem Zj0 (v:Value)(xs:List UL)(t:Zg)(w:World)(hv:ArgS w v rU xs)(hl:xs.length<=1048576):
  Calls prog 117 [v,vR t].toArray w (Ret (.bool (hld xs t)) w):=by
 refine Zb Tryz.func117 rfl Tryz.ntmps117 rfl ?_
 obtain⟨p,cp,rfl⟩:=hv.form
 repeat(refine wkB ?_;intros)
 by_cases h0:0<xs.length
 ·have hne:xs≠[]:=fun h=>by rw[h] at h0;simp at h0
  obtain⟨bw,ow,cw,hvw,hcw,hrow⟩:=hv.blk (k:=20) hne []
  injection hvw with e1 e2 e3
  subst e1
  subst e3
  have hrow':∀L,RowC w L bw ow UL rU xs:=fun L=>⟨fun w' hw'=>hrow.out w' (hw'.sub (Wk _))⟩
  (refine Zal [0,1,2,3,4,5,6,7,8,9,10,11,12,13,14,15,16,17,18,19,20,21,22] [23] (_) (h:=?_);refine wkI ?_)
  (repeat(refine wkH ?_))
  simp only[Wc (show(0:Int)<(xs.length:Int) by omega)]
  (repeat(refine wkH ?_))
  rcases h1:decide ((lstU xs).In.To=t) with _|_
  ·repeat(refine wkT ?_;intros)
   repeat(refine wkB ?_;intros)
   unfold hld
   rw[h1,Wc h0]
   exact rtT rfl rfl
  ·repeat(refine wkT ?_;intros)
   repeat(refine wkB ?_;intros)
   unfold hld
   rw[h1,Wc h0]
   exact rtT rfl rfl
 ·(refine Zal [0,1,2,3,4,5,6,7,8,9,10,11,12,13,14,15,16,17,18,19,20,21,22] [23] (_) (h:=?_);refine wkI ?_)
  (repeat(refine wkH ?_))
  simp only[We (show¬(0:Int)<(xs.length:Int) by omega)]
  (repeat(refine wkH ?_))
  repeat(refine wkT ?_;intros)
  repeat(refine wkB ?_;intros)
  unfold hld
  rw[We h0]
  exact rtT rfl rfl
instance ZwR (w0:World)(L:List Blk)(v:Value)(xs:List UL)(t:Zg)[h:LstC w0 L v UL rU xs]:SpecM prog w0 L 117 [v,vR t] (.bool (hld xs t)) (xs.length<=1048576):=⟨fun hl w hw=>Zj0 v xs t w (h.out w hw) hl⟩
abbrev vLabels :Value:= .iface 109 (.agg #[])
instance Zs5 :MethC prog 109 (.agg #[]) "Same" 301 (.agg #[]):=⟨fun w=>by kernel_rfl⟩
instance Zre :MethC prog 109 (.agg #[]) "Equal" 299 (.agg #[]):=⟨fun w=>by kernel_rfl⟩
instance ZpB :MethC prog 109 (.agg #[]) "Reduce" 300 (.agg #[]):=⟨fun w=>by kernel_rfl⟩
instance Zuc :NahC prog 109 (.agg #[]) "Same" :=⟨fun w=>by kernel_rfl⟩
instance ZrW :NahC prog 109 (.agg #[]) "Equal" :=⟨fun w=>by kernel_rfl⟩
instance Zsh :NifC prog 109:=⟨fun v w=>by kernel_rfl⟩
instance ZuL :PtrC prog 155:=⟨by kernel_rfl⟩
instance ZrH (z:Array Value)(f g:Int):SpecC prog 299 [.agg z, .int .i64 f, .int .i64 g] (.bool (decide (f=g))) True:=⟨fun _ w=>by
 refine Zb Tryz.func299 rfl Tryz.ntmps299 rfl ?_
 repeat(refine wkB ?_;intros)
 exact rtT rfl rfl⟩
instance ZtB (z:Array Value)(f g:Int)(t:Rl):SpecC prog 301 [.agg z, .int .i64 f, .int .i64 g,vR t] (.bool (decide (f=g))) True:=⟨fun _ w=>by
 refine Zb Tryz.func301 rfl Tryz.ntmps301 rfl ?_
 repeat(refine wkB ?_;intros)
 exact rtT rfl rfl⟩
instance Zrc (z:Array Value)(f:Int)(t:Rl):SpecC prog 300 [.agg z, .int .i64 f,vR t] (.int .i64 f) True:=⟨fun _ w=>by
 refine Zb Tryz.func300 rfl Tryz.ntmps300 rfl ?_
 repeat(refine wkB ?_;intros)
 exact rtT rfl rfl⟩
end
section
abbrev KN :Nat:=1073741824
structure UOk (u:UL):Prop where
 i:IvOk KN u.In
structure UIn (u:UL):Prop where
 i:IvOk KN u.In
def bef (xs:List UL)(t:Zg):Bool:=decide (0<xs.length)&&(decide ((lstU xs).In.To=t)&& !decide ((lstU xs).In.From=(lstU xs).In.To))
def turn (xs:List UL)(u:UL):List UL:=xs.set (xs.length-1) u
def isI (u:UL):Bool:=decide (u.In.From=u.In.To)
def cA (xs:List UL)(x:UL):Bool:=bef xs x.In.From&&(!(lstU xs).In.OpenTo&&decide ((lstU xs).F=x.F))
def cB (l:List UL)(i:Nat)(xs:List UL)(x:UL):Bool:=decide (0<i)&&(isI (gi l ((i:Int)-1))&&(decide ((gi l ((i:Int)-1)).In.From=x.In.From)&& !hld xs x.In.From))
def cC (xs:List UL)(x:UL):Bool:=bef xs x.In.From&&decide ((lstU xs).F=x.F)
def cD (l:List UL)(i:Nat)(x:UL):Bool:=decide (i+1<l.length)&&(decide ((gi l ((i:Int)+1)).In.From=x.In.From)&&decide ((gi l ((i:Int)+1)).F=x.F))
def ext (u x:UL):UL:=⟨⟨u.In.From,x.In.To,u.In.OpenFrom,true⟩,u.F⟩
def clo (u:UL):UL:=⟨⟨u.In.From,u.In.To,u.In.OpenFrom,false⟩,u.F⟩
def opF (x:UL):UL:=⟨⟨x.In.From,x.In.To,false,x.In.OpenTo⟩,x.F⟩
def redU (x:UL):UL:=x
noncomputable def nstp (l:List UL)(i:Nat)(xs:List UL)(x:UL):List UL:=
 if isI x=false then
  if cA xs x=true then turn xs (ext (lstU xs) x) else xs++[if cB l i xs x=true then opF x else x]
 else if cC xs x=true then turn xs (clo (lstU xs))
 else if cD l i x=true then xs else xs++[redU x]
noncomputable def nrm (l:List UL):Nat->List UL
 |0=>[]
 |i+1=>nstp l i (nrm l i) (gi l (i:Int))
noncomputable def aprN (l:List UL):Nat->Bool
 |0=>true
 |m+1=>aprN l m&& !(decide (0<m)&& !aprt (gi l ((m:Int)-1)).In (gi l (m:Int)).In)
noncomputable def allU (us:List UL):List UL:=atm (sor us) (sor us).length
noncomputable def nrmR (us:List UL):List UL:=if aprN (sor us) (sor us).length=true then nrm (allU us) (allU us).length else []
noncomputable def nrmE (us:List UL):Int:=if aprN (sor us) (sor us).length=true then 0 else 11
theorem IvOk.at {K:Nat}{I:Za}(h:IvOk K I)(o c:Bool):IvOk K ⟨I.From,I.To,o,c⟩:=⟨h.a,h.b⟩
theorem UIn.ok {u:UL}(h:UIn u):UOk u:=⟨h.i⟩
theorem ZhP {xs:List UL}{u:UL}(h:∀v∈xs,UOk v)(hu:UOk u):∀v∈turn xs u,UOk v:=fun v hv=>by
 rcases List.mem_or_eq_of_mem_set hv with h1|h1
 ·exact h v h1
 ·rw[h1];exact hu
theorem ZbL {xs:List UL}{t:Zg}(h:bef xs t=true):0<xs.length:=by
 unfold bef at h
 simp only[Wq,decide_eq_true_eq] at h
 exact h.1
theorem Zkt {xs:List UL}(h:∀v∈xs,UOk v)(h0:0<xs.length):UOk (lstU xs):=h _ (ZB (by omega))
theorem Znj {l:List UL}{i:Nat}{xs:List UL}{x:UL}(h:∀v∈xs,UOk v)(hx:UIn x):∀v∈nstp l i xs x,UOk v:=by
 unfold nstp
 split
 ·split
  ·rename_i hc
   have h0:0<xs.length:=by
    unfold cA at hc
    simp only[Wq] at hc
    exact ZbL hc.1
   have hl:=Zkt h h0
   exact ZhP h ⟨⟨hl.i.a,hx.i.b⟩⟩
  ·intro v hv
   rcases List.mem_append.1 hv with h1|h1
   ·exact h v h1
   ·rw[Wo] at h1
    subst h1
    split
    ·exact⟨hx.i.at _ _⟩
    ·exact hx.ok
 ·split
  ·rename_i hc
   have h0:0<xs.length:=by
    unfold cC at hc
    simp only[Wq] at hc
    exact ZbL hc.1
   have hl:=Zkt h h0
   exact ZhP h ⟨hl.i.at _ _⟩
  ·split
   ·exact h
   ·intro v hv
    rcases List.mem_append.1 hv with h1|h1
    ·exact h v h1
    ·rw[Wo] at h1
     subst h1
     exact hx.ok
theorem Zek {l:List UL}(h:∀u∈l,UIn u):∀m,m<=l.length->∀v∈nrm l m,UOk v
 |0,_=>fun v hv=>by cases hv
 |m+1,hm=>Znj (Zek h m (by omega)) (h _ (ZB (by omega)))
theorem Zlz (l:List UL)(i:Nat)(xs:List UL)(x:UL):(nstp l i xs x).length<=xs.length+1:=by
 unfold nstp turn
 split
 ·split <;> simp
 ·split
  ·simp
  ·split <;> simp
theorem ZeW (l:List UL):∀m,(nrm l m).length<=m
 |0=>Wl _
 |m+1=>by
  have:=ZeW l m
  have:=Zlz l m (nrm l m) (gi l (m:Int))
  rw[nrm]
  omega
theorem ZdQ (us:List UL):(sor us).length=us.length:=ZcF us _
theorem ZdE {us:List UL}{u:UL}(h:u∈sor us):u∈us:=by
 rcases Nat.eq_zero_or_pos us.length with h0|h0
 ·have h1:=ZdQ us
  rw[h0] at h1
  rw[List.length_eq_zero_iff.1 h1] at h
  cases h
 ·exact ZeP us _ (by omega) u h
theorem Zpu {u v:UL}(h:UIn u)(hv:v∈atU u):UIn v:=by
 unfold atU at hv
 have e1:IvOk KN ⟨u.In.From,u.In.From,false,false⟩:=⟨h.i.a,h.i.a⟩
 have e2:IvOk KN ⟨u.In.To,u.In.To,false,false⟩:=⟨h.i.b,h.i.b⟩
 rcases List.mem_append.1 hv with h1|h1
 ·split at h1
  ·cases h1
  ·rw[Wo] at h1
   subst h1
   exact⟨e1⟩
 ·split at h1
  ·cases h1
  ·rcases List.mem_cons.1 h1 with h2|h2
   ·subst h2
    exact⟨h.i.at _ _⟩
   ·split at h2
    ·cases h2
    ·rw[Wo] at h2
     subst h2
     exact⟨e2⟩
theorem Zeu {us:List UL}(h:∀u∈us,UIn u):∀m,m<=us.length->∀v∈atm us m,UIn v
 |0,_,v,hv=>by cases hv
 |m+1,hm,v,hv=>by
  rw[atm] at hv
  rcases List.mem_append.1 hv with h1|h1
  ·exact Zeu h m (by omega) v h1
  ·exact Zpu (h _ (ZB (by omega))) h1
theorem ZkL {l:List UL}{m:Nat}(h:aprN l m=false):∀n,m<=n->aprN l n=false:=fun n hn=>by
 induction n with
 |zero=>rw[show m=0 by omega] at h;exact h
 |succ n ih=>
  rcases(by omega:m=n+1\/m<=n) with h1|h1
  ·rw[<-h1];exact h
  ·rw[aprN,ih h1];rfl
theorem Zgm (xs:List UL)(u:UL):(turn xs u).length=xs.length:=by simp[turn]
set_option maxHeartbeats 2000000 in
theorem Zgf (v:Value)(us:List UL)(w:World)(hv:ArgS w v rU us)(hn:us=[]->v= .slice none 0 0)(hl:us.length<=19)(hok:∀u∈us,UIn u):
  Calls prog 74 [vLabels,v].toArray w (RetM (SlS rU 21 (nrmR us)) (fun s=> .tuple #[vSl s, .int .i64 (nrmE us)]) (fun s=>mS 145 s) w):=by
 have hN:∀L,LstN w L v UL rU us:=fun L=>⟨fun w' hw'=>hv.to hw'.ext,hn⟩
 have hsl:=ZdQ us
 have hso:∀u∈sor us,UIn u:=fun u hu=>hok u (ZdE hu)
 refine Zb Tryz.func74 rfl Tryz.ntmps74 rfl ?_
 repeat(first|(refine wkB ?_;intros)|(refine wnM ?_ ?_;(focus(exact⟨hl,fun u hu=>(hok u hu).i.mono (by decide)⟩));intros))
 rename_i s1
 refine Zp (S:=Nat) (fun m=>m<=(sor us).length/\aprN (sor us) m=true) (fun m=>[(0,vLabels),(1,vSl s1),(17, .int .i64 (sor us).length),(18, .int .i64 (m:Nat))]) (fun _=>mS 145 s1) (fun m=>(sor us).length-m) 0
  ⟨Wm _,rfl⟩ sbB suB (fun m hm=>?_)
 obtain⟨hm,ham⟩:=hm
 repeat(refine wkB ?_;intros)
 refine Zi rfl (fun h=>?_) (fun h=>?_)
 ·have hlt:m<(sor us).length:=by have:=Wa h;omega
  rcases s1.cases 145 with⟨h0, -, -⟩|⟨b1,c1,sp1,h1,hv1,hm1,hne⟩
  ·rw[h0] at hlt;simp at hlt
  rw[hv1,hm1]
  have hap:aprN (sor us) (m+1)= !(decide (0<m)&& !aprt (gi (sor us) ((m:Int)-1)).In (gi (sor us) (m:Int)).In):=by rw[aprN,ham,Bool.true_and]
  have o1:=hso _ (ZB (i:=(m:Int)) (by omega))
  repeat(refine wkB ?_;intros)
  rcases m with _|m
  ·(refine jD 17 17 (h:=?_);(repeat(refine wkH ?_));refine Zo ?_;(repeat(refine Z3 ?_;intro _));refine Zr ?_)
   repeat(first|(refine wkB ?_;intros)|(refine wnM ?_ ?_;(focus(exact⟨by omega,by omega⟩));intros))
   exact Zf 1 ⟨hlt,by rw[hap];rfl⟩ sbB suB (by omega)
  ·have e1:((m+1:Nat):Int)-1=(m:Int):=by omega
   have o2:=hso _ (ZB (i:=(m:Int)) (by omega))
   rw[e1,Wc (show 0<m+1 by omega),Bool.true_and,Bool.not_not] at hap
   refine jD 17 17 (h:=?_)
   (repeat(refine wkH ?_))
   simp only[Wc (show(0:Int)<((m+1:Nat):Int) by omega),e1]
   (repeat(refine wkH ?_))
   simp only[e1]
   (repeat(first|refine wkH ?_|(refine tC rfl rfl ?_ ?_;focus(exact⟨o2.i.b,o1.i.a⟩))))
   refine Zo ?_
   refine Zr ?_
   repeat(refine wkB ?_;intros)
   rcases ha:aprt (gi (sor us) (m:Int)).In (gi (sor us) ((m+1:Nat):Int)).In with _|_
   ·rw[ha] at hap
    repeat(refine wkB ?_;intros)
    have hf:=ZkL hap (sor us).length hlt
    obtain⟨s0,hs1,hs2⟩:=SlS.turn (enc:=rU) (k:=21) 145 (show([]:List UL)=nrmR us by unfold nrmR;rw[hf,if_neg (by decide)]) SlS.no
    have he:nrmE us=11:=by unfold nrmE;rw[hf,if_neg (by decide)]
    exact ZF rfl (Zv rfl) (Zv rfl) (fun w hw=>⟨s0,by dsimp only;rw[hs1,he];rfl,by dsimp only;rw[hs2];exact hw.sub (Wk _)⟩)
   ·rw[ha] at hap
    repeat(first|(refine wkB ?_;intros)|(refine wnM ?_ ?_;(focus(exact⟨by omega,by omega⟩));intros))
    exact Zf (m+2) ⟨hlt,hap⟩ sbB suB (by omega)
 ·have hge:m=(sor us).length:=by have:=Wb h;omega
  subst hge
  repeat(first|(refine wkB ?_;intros)|(refine wnM ?_ ?_;(focus(omega));intros))
  rename_i s8
  have hao:∀u∈atm (sor us) (sor us).length,UIn u:=Zeu hso _ (Wl _)
  have hall:=ZdJ (sor us) (sor us).length
  have hR:nrmR us=nrm (atm (sor us) (sor us).length) (atm (sor us) (sor us).length).length:=by unfold nrmR allU;rw[ham,if_pos rfl]
  have hE:nrmE us=0:=by unfold nrmE;rw[ham,if_pos rfl]
  generalize atm (sor us) (sor us).length=al at*
  refine Zp (S:=(xs:List UL)×Nat×SlS rU 21 xs) (fun s=>s.2.1<=al.length/\s.1=nrm al s.2.1) (fun s=>[(0,vLabels),(7,vSl s.2.2),(8,vSl s8),(41,vSl s8),(42, .int .i64 al.length),(43, .int .i64 (s.2.1:Nat))]) (fun s=>mS 145 s.2.2++mS 145 s8) (fun s=>al.length-s.2.1) ⟨[],0,SlS.no⟩
   ⟨Wm _,rfl⟩ sbB suB (fun s hs=>?_)
  obtain⟨xs,i,s⟩:=s
  obtain⟨hi,hxs⟩:=hs
  simp only at hi hxs⊢
  repeat(refine wkB ?_;intros)
  refine Zi rfl (fun h=>?_) (fun h=>?_)
  ·have hlt:i<al.length:=by have:=Wa h;omega
   rcases s8.cases 145 with⟨h0, -, -⟩|⟨b8,c8,sp8,h1,hv8,hm8,hne⟩
   ·rw[h0] at hlt;simp at hlt
   rw[hv8,hm8]
   have hx0:=hao _ (ZB (i:=(i:Int)) (by omega))
   have hnx:nrm al (i+1)=nstp al i xs (gi al (i:Int)):=by rw[nrm,hxs]
   have hxo:=Zek hao i (by omega)
   have hxl:=ZeW al i
   rw[<-hxs] at hxo hxl
   repeat(refine wkB ?_;intros)
   rename_i b10 b11
   obtain⟨x,hx⟩:∃x,x=gi al (i:Int):=⟨_,rfl⟩
   simp only[<-hx] at hx0 hnx⊢
   refine Zh3 (mS 145 s++[⟨b11,Zd (Ze x.In.From),35⟩,⟨b10,rU x,145⟩,⟨b8,row rU al sp8,145⟩]) ((List.perm_middle.trans (List.perm_middle.cons _)).symm) ?_
   refine ZT (S:=Bool) (fun v=>v=bef xs x.In.From) (fun v=>[(75, .bool v),(0,vLabels),(7,vSl s),(8, .slice (some ⟨b8,0,none⟩) al.length c8),(9, .int .i64 (i:Nat)),(10, .pointer (some ⟨b10,0,none⟩)),(11, .pointer (some ⟨b11,0,none⟩)),(12, .pointer none),(13, .int .i64 xs.length),(41, .slice (some ⟨b8,0,none⟩) al.length c8),(42, .int .i64 al.length),(43, .int .i64 (i:Nat))]) (fun _=>mS 145 s++[⟨b11,Zd (Ze x.In.From),35⟩,⟨b10,rU x,145⟩,⟨b8,row rU al sp8,145⟩]) ?_ (fun v hv3=>?_)
   ·rcases s.cases 145 with⟨h0, -, -⟩|⟨bo,co,so,ho,hvo,hmo,hneo⟩
    ·refine jD 23 23 (h:=?_)
     (repeat(refine wkH ?_))
     simp only[We (show¬(0:Int)<(xs.length:Int) by rw[h0];simp)]
     (repeat(refine wkH ?_))
     refine Zo ?_
     refine Zr ?_
     repeat(refine wkB ?_;intros)
     exact Zh false (by rw[h0];rfl) sbB suB
    ·have hpo:0<xs.length:=by rcases xs with _|⟨a,xs⟩;exact absurd rfl hneo;simp
     rw[hvo,hmo]
     simp only[Wf,Wg]
     refine jD 23 23 (h:=?_)
     (repeat(refine wkH ?_))
     simp only[Wc (show(0:Int)<(xs.length:Int) by omega)]
     (repeat(refine wkH ?_))
     rcases hto:decide ((lstU xs).In.To=x.In.From) with _|_
     ·(repeat(refine wkH ?_))
      refine Zo ?_
      refine Zr ?_
      repeat(refine wkB ?_;intros)
      exact Zh false (by unfold bef;rw[hto,Bool.false_and,Bool.and_false]) sbB suB
     ·(repeat(refine wkH ?_))
      refine Zo ?_
      refine Zr ?_
      repeat(refine wkB ?_;intros)
      exact Zh (!decide ((lstU xs).In.From=(lstU xs).In.To)) (by unfold bef;rw[hto,Wc hpo,Bool.true_and,Bool.true_and]) sbB suB
   refine ZT (S:=Option Addr) (fun p=>(bef xs x.In.From=false/\p=none)\/(bef xs x.In.From=true/\∃bo co so,(xs.length<=co/\so.length=(co-xs.length)*21)/\vSl s= .slice (some ⟨bo,0,none⟩) xs.length co/\mS 145 s=[⟨bo,row rU xs so,145⟩]/\p=some ⟨bo,0+((xs.length:Int)-1).toNat*21,none⟩)) (fun p=>[(0,vLabels),(7,vSl s),(8, .slice (some ⟨b8,0,none⟩) al.length c8),(9, .int .i64 (i:Nat)),(10, .pointer (some ⟨b10,0,none⟩)),(11, .pointer (some ⟨b11,0,none⟩)),(12, .pointer p),(13, .int .i64 xs.length),(41, .slice (some ⟨b8,0,none⟩) al.length c8),(42, .int .i64 al.length),(43, .int .i64 (i:Nat))]) (fun _=>mS 145 s++[⟨b11,Zd (Ze x.In.From),35⟩,⟨b10,rU x,145⟩,⟨b8,row rU al sp8,145⟩]) ?_ (fun p hp=>?_)
   ·subst hv3
    rcases hb:bef xs x.In.From with _|_
    ·repeat(refine wkB ?_;intros)
     exact Zh none (.inl ⟨rfl,rfl⟩) sbB suB
    ·have hpo:=ZbL hb
     rcases s.cases 145 with⟨h0, -, -⟩|⟨bo,co,so,ho,hvo,hmo,hneo⟩
     ·rw[h0] at hpo;simp at hpo
     rw[hvo,hmo]
     simp only[Wf,Wg]
     repeat(refine wkB ?_;intros)
     exact Zh (some ⟨bo,0+((xs.length:Int)-1).toNat*21,none⟩) (.inr ⟨trivial,bo,co,so,ho,rfl,rfl,rfl⟩) sbB suB
   repeat(refine wkB ?_;intros)
   rcases hI:isI x with _|_
   ·have hI':decide (x.In.From=x.In.To)=false:=hI
    simp only[hI']
    repeat(refine wkB ?_;intros)
    refine ZT (S:=Bool) (fun v=>v=cA xs x) (fun v=>[(117, .bool v),(0,vLabels),(7,vSl s),(8, .slice (some ⟨b8,0,none⟩) al.length c8),(9, .int .i64 (i:Nat)),(10, .pointer (some ⟨b10,0,none⟩)),(11, .pointer (some ⟨b11,0,none⟩)),(12, .pointer p),(13, .int .i64 xs.length),(41, .slice (some ⟨b8,0,none⟩) al.length c8),(42, .int .i64 al.length),(43, .int .i64 (i:Nat))]) (fun _=>mS 145 s++[⟨b11,Zd (Ze x.In.From),35⟩,⟨b10,rU x,145⟩,⟨b8,row rU al sp8,145⟩]) ?_ (fun v hv4=>?_)
    ·rcases hp with⟨hb,rfl⟩|⟨hb,bo,co,so,ho,hvo,hmo,rfl⟩
     ·(refine jD 23 23 (h:=?_);(repeat(refine wkH ?_));refine Zo ?_;(repeat(refine Z3 ?_;intro _));refine Zr ?_)
      repeat(refine wkB ?_;intros)
      exact Zh false (by unfold cA;rw[hb,Bool.false_and]) sbB suB
     ·have hpo:=ZbL hb
      rw[hvo,hmo]
      simp only[Wf,Wg]
      refine jD 23 23 (h:=?_)
      (repeat(refine wkH ?_))
      rcases hot:(lstU xs).In.OpenTo with _|_
      ·(repeat(refine wkH ?_))
       refine Zo ?_
       refine Zr ?_
       repeat(refine wkB ?_;intros)
       exact Zh (decide ((lstU xs).F=x.F)) (by unfold cA;rw[hb,hot,Bool.true_and,Bool.not_false,Bool.true_and]) sbB suB
      ·(repeat(refine wkH ?_))
       refine Zo ?_
       refine Zr ?_
       repeat(refine wkB ?_;intros)
       exact Zh false (by unfold cA;rw[hb,hot,Bool.true_and,Bool.not_true,Bool.false_and]) sbB suB
    subst hv4
    refine ZT (S:=Unit) (fun _=>cA xs x=false) (fun _=>[(0,vLabels),(7,vSl s),(8, .slice (some ⟨b8,0,none⟩) al.length c8),(9, .int .i64 (i:Nat)),(10, .pointer (some ⟨b10,0,none⟩)),(11, .pointer (some ⟨b11,0,none⟩)),(13, .int .i64 xs.length),(41, .slice (some ⟨b8,0,none⟩) al.length c8),(42, .int .i64 al.length),(43, .int .i64 (i:Nat))]) (fun _=>mS 145 s++[⟨b11,Zd (Ze x.In.From),35⟩,⟨b10,rU x,145⟩,⟨b8,row rU al sp8,145⟩]) ?_ (fun _ hcA=>?_)
    ·rcases hcA:cA xs x with _|_
     ·repeat(refine wkB ?_;intros)
      exact Zh () rfl sbB suB
     ·have hb:bef xs x.In.From=true:=by
       unfold cA at hcA
       simp only[Wq] at hcA
       exact hcA.1
      have hpo:=ZbL hb
      rcases hp with⟨hb', -⟩|⟨-,bo,co,so,ho,hvo,hmo,rfl⟩
      ·rw[hb] at hb';cases hb'
      rw[hvo,hmo]
      simp only[Wf,Wg]
      have ek:((xs.length:Int)-1).toNat=xs.length-1:=by omega
      repeat(refine wkB ?_;intros)
      refine sRF (i:=(xs.length:Int)-1) (f:=9) (⟨⟨(lstU xs).In.From,x.In.To,(lstU xs).In.OpenFrom,(lstU xs).In.OpenTo⟩,(lstU xs).F⟩:UL) rfl rfl ?_ ?_
      ·omega
      obtain⟨zs,hzs⟩:∃zs,zs=xs.set ((xs.length:Int)-1).toNat (⟨⟨(lstU xs).In.From,x.In.To,(lstU xs).In.OpenFrom,(lstU xs).In.OpenTo⟩,(lstU xs).F⟩:UL):=⟨_,rfl⟩
      simp only[<-hzs]
      have hzl:zs.length=xs.length:=by rw[hzs];simp
      have hg:gi zs ((xs.length:Int)-1)=⟨⟨(lstU xs).In.From,x.In.To,(lstU xs).In.OpenFrom,(lstU xs).In.OpenTo⟩,(lstU xs).F⟩:=by
       rw[Zbl (by omega)]
       simp only[hzs,List.getElem_set_self]
      repeat(refine wkB ?_;intros)
      refine sRF (i:=(xs.length:Int)-1) (f:=19) (⟨⟨(gi zs ((xs.length:Int)-1)).In.From,(gi zs ((xs.length:Int)-1)).In.To,(gi zs ((xs.length:Int)-1)).In.OpenFrom,true⟩,(gi zs ((xs.length:Int)-1)).F⟩:UL) rfl rfl ?_ ?_
      ·omega
      have hfin:zs.set ((xs.length:Int)-1).toNat (⟨⟨(gi zs ((xs.length:Int)-1)).In.From,(gi zs ((xs.length:Int)-1)).In.To,(gi zs ((xs.length:Int)-1)).In.OpenFrom,true⟩,(gi zs ((xs.length:Int)-1)).F⟩:UL)=turn xs (ext (lstU xs) x):=by
       rw[hg,hzs,List.set_set,ek]
       rfl
      rw[hfin]
      obtain⟨s',hv',hm'⟩:=SlS.put (enc:=rU) (k:=21) (b:=bo) 145 (Zgm xs (ext (lstU xs) x)) ho hpo
      rw[<-hv']
      repeat(first|(refine wkB ?_;intros)|(refine wnM ?_ ?_;(focus(exact⟨by omega,by omega⟩));intros))
      exact Zf ⟨turn xs (ext (lstU xs) x),i+1,s'⟩ ⟨hlt,by rw[hnx,nstp,if_pos hI,if_pos hcA]⟩ sbB (by dsimp only;rw[hm'];exact suB) (by show al.length-(i+1)<al.length-i;omega)
    refine Zcz ?_
    refine ZT (S:=UL) (fun y=>y=if cB al i xs x=true then opF x else x) (fun _=>[(0,vLabels),(7,vSl s),(8, .slice (some ⟨b8,0,none⟩) al.length c8),(9, .int .i64 (i:Nat)),(10, .pointer (some ⟨b10,0,none⟩)),(11, .pointer (some ⟨b11,0,none⟩)),(13, .int .i64 xs.length),(41, .slice (some ⟨b8,0,none⟩) al.length c8),(42, .int .i64 al.length),(43, .int .i64 (i:Nat))]) (fun y=>mS 145 s++[⟨b11,Zd (Ze x.In.From),35⟩,⟨b10,rU y,145⟩,⟨b8,row rU al sp8,145⟩]) ?_ (fun y hy=>?_)
    ·refine Zcz ?_
     refine ZT (S:=Bool) (fun v=>v=cB al i xs x) (fun v=>[(156, .bool v),(0,vLabels),(7,vSl s),(8, .slice (some ⟨b8,0,none⟩) al.length c8),(9, .int .i64 (i:Nat)),(10, .pointer (some ⟨b10,0,none⟩)),(11, .pointer (some ⟨b11,0,none⟩)),(13, .int .i64 xs.length),(41, .slice (some ⟨b8,0,none⟩) al.length c8),(42, .int .i64 al.length),(43, .int .i64 (i:Nat))]) (fun _=>mS 145 s++[⟨b11,Zd (Ze x.In.From),35⟩,⟨b10,rU x,145⟩,⟨b8,row rU al sp8,145⟩]) ?_ (fun v hv5=>?_)
     ·by_cases hi0:0<i
      ·have ep:((i:Int)-1).toNat<al.length:=by omega
       refine jD 28 28 (h:=?_)
       (repeat(refine wkH ?_))
       simp only[Wc (show(0:Int)<(i:Int) by omega)]
       (repeat(refine wkH ?_))
       rcases hi1:isI (gi al ((i:Int)-1)) with _|_
       ·have hi1':decide ((gi al ((i:Int)-1)).In.From=(gi al ((i:Int)-1)).In.To)=false:=hi1
        simp only[hi1']
        (repeat(refine wkH ?_))
        refine Zo ?_
        refine Zr ?_
        repeat(refine wkB ?_;intros)
        exact Zh false (by unfold cB;rw[hi1,Bool.false_and,Bool.and_false]) sbB suB
       ·have hi1':decide ((gi al ((i:Int)-1)).In.From=(gi al ((i:Int)-1)).In.To)=true:=hi1
        simp only[hi1']
        (repeat(refine wkH ?_))
        rcases hft:decide ((gi al ((i:Int)-1)).In.From=x.In.From) with _|_
        ·(repeat(refine wkH ?_))
         refine Zo ?_
         refine Zr ?_
         repeat(refine wkB ?_;intros)
         exact Zh false (by unfold cB;rw[hft,Bool.false_and,Bool.and_false,Bool.and_false]) sbB suB
        ·(repeat(first|refine wkH ?_|(refine tC rfl rfl ?_ ?_;focus(omega))))
         refine Zo ?_
         refine Zr ?_
         repeat(refine wkB ?_;intros)
         exact Zh (!hld xs x.In.From) (by unfold cB;rw[hi1,hft,Wc hi0,Bool.true_and,Bool.true_and,Bool.true_and]) sbB suB
      ·refine jD 28 28 (h:=?_)
       (repeat(refine wkH ?_))
       simp only[We (show¬(0:Int)<(i:Int) by omega)]
       (repeat(refine wkH ?_))
       refine Zo ?_
       refine Zr ?_
       repeat(refine wkB ?_;intros)
       exact Zh false (by unfold cB;rw[We hi0,Bool.false_and]) sbB suB
     ·subst hv5
      rcases hcB:cB al i xs x with _|_
      ·repeat(refine wkB ?_;intros)
       exact Zh x (by rw[if_neg (by decide)]) sbB suB
      ·repeat(refine wkB ?_;intros)
       exact Zh (opF x) (by rw[if_pos rfl]) sbB suB
    repeat(refine wkB ?_;intros)
    refine sU rfl rfl ?_ ?_ ?_ ?_
    ·rfl
    ·rfl
    ·exact⟨by decide,by omega,by omega⟩
    intro s'
    repeat(first|(refine wkB ?_;intros)|(refine wnM ?_ ?_;(focus(exact⟨by omega,by omega⟩));intros))
    exact Zf ⟨xs++[y],i+1,s'⟩ ⟨hlt,by show xs++[y]=nrm al (i+1);rw[hnx,nstp,if_pos hI,hcA,if_neg (by decide),hy]⟩ sbB suB (by show al.length-(i+1)<al.length-i;omega)
   ·have hI':decide (x.In.From=x.In.To)=true:=hI
    simp only[hI']
    repeat(refine wkB ?_;intros)
    refine ZT (S:=Bool) (fun v=>v=cC xs x) (fun v=>[(163, .bool v),(0,vLabels),(7,vSl s),(8, .slice (some ⟨b8,0,none⟩) al.length c8),(9, .int .i64 (i:Nat)),(10, .pointer (some ⟨b10,0,none⟩)),(11, .pointer (some ⟨b11,0,none⟩)),(12, .pointer p),(13, .int .i64 xs.length),(41, .slice (some ⟨b8,0,none⟩) al.length c8),(42, .int .i64 al.length),(43, .int .i64 (i:Nat))]) (fun _=>mS 145 s++[⟨b11,Zd (Ze x.In.From),35⟩,⟨b10,rU x,145⟩,⟨b8,row rU al sp8,145⟩]) ?_ (fun v hv4=>?_)
    ·rcases hp with⟨hb,rfl⟩|⟨hb,bo,co,so,ho,hvo,hmo,rfl⟩
     ·(refine Zal [0,1,2,3,4,5,6,7,8,9,10,11,12,13,14,15] [16] (_) (h:=?_);refine wkI ?_)
      (repeat(refine wkH ?_))
      repeat(refine wkT ?_;intros)
      repeat(refine wkB ?_;intros)
      exact Zh false (by unfold cC;rw[hb,Bool.false_and]) sbB suB
     ·have hpo:=ZbL hb
      rw[hvo,hmo]
      simp only[Wf,Wg]
      (refine Zal [0,1,2,3,4,5,6,7,8,9,10,11,12,13,14,15] [16] (_) (h:=?_);refine wkI ?_)
      (repeat(first|refine wkH ?_|(refine tC rfl rfl ?_ ?_;focus(exact trivial))))
      repeat(refine wkT ?_;intros)
      repeat(refine wkB ?_;intros)
      exact Zh (decide ((lstU xs).F=x.F)) (by unfold cC;rw[hb,Bool.true_and]) sbB suB
    subst hv4
    rcases hcC:cC xs x with _|_
    ·refine ZcP (by rfl) ?_
     (first|refine sX rfl rfl ?_|(refine sS rfl rfl ?_ ?_;focus omega)|(refine sC rfl rfl ?_ ?_;focus(first|exact trivial|assumption|constructor <;> assumption|exact mb2 rfl rfl|exact mb4 rfl rfl rfl rfl))|refine cX ?_|refine cY ?_|(refine sA rfl rfl ?_;intro _)|refine sT rfl ?_|refine sF rfl ?_|(refine sR rfl ?_ ?_;focus omega)|(refine sB rfl rfl ?_;intro _)|(refine sN rfl rfl ?_ ?_;(focus(first|exact trivial|assumption|constructor <;> assumption|exact mb2 rfl rfl|exact mb4 rfl rfl rfl rfl));intro _;(try simp only[Wf,Wg,Wh]))|refine sW rfl rfl ?_|refine sK rfl rfl ?_|refine Zgs rfl ?_|refine ZcP rfl ?_|refine pkT rfl rfl rfl rfl ?_|refine pkF rfl rfl rfl rfl ?_)
     refine ZT (S:=Bool) (fun v=>v=cD al i x) (fun v=>[(184, .bool v),(0,vLabels),(7,vSl s),(8, .slice (some ⟨b8,0,none⟩) al.length c8),(9, .int .i64 (i:Nat)),(10, .pointer (some ⟨b10,0,none⟩)),(11, .pointer (some ⟨b11,0,none⟩)),(13, .int .i64 xs.length),(41, .slice (some ⟨b8,0,none⟩) al.length c8),(42, .int .i64 al.length),(43, .int .i64 (i:Nat))]) (fun _=>mS 145 s++[⟨b11,Zd (Ze x.In.From),35⟩,⟨b10,rU x,145⟩,⟨b8,row rU al sp8,145⟩]) ?_ (fun v hv5=>?_)
     ·by_cases hi1:i+1<al.length
      ·have hya:=hao _ (ZB (i:=(i:Int)+1) (by omega))
       (refine Zal [0,1,2,3,4,5,6,7,8,9,10,11,12,13,14,15,16,17,18,19,20,21,22,23,24,25,26,27,28,29,30,31] [32] (_) (h:=?_);refine wkI ?_)
       (repeat(refine wkH ?_))
       simp only[Wc (show(i:Int)+1<(al.length:Int) by omega)]
       (repeat(refine wkH ?_))
       rcases hft:decide ((gi al ((i:Int)+1)).In.From=x.In.From) with _|_
       ·(repeat(refine wkH ?_))
        repeat(refine wkT ?_;intros)
        repeat(refine wkB ?_;intros)
        exact Zh false (by unfold cD;rw[hft,Bool.false_and,Bool.and_false]) sbB suB
       ·(repeat(first|refine wkH ?_|(refine tC rfl rfl ?_ ?_;focus(exact trivial))))
        repeat(refine wkT ?_;intros)
        repeat(refine wkB ?_;intros)
        exact Zh (decide ((gi al ((i:Int)+1)).F=x.F)) (by unfold cD;rw[hft,Wc hi1,Bool.true_and,Bool.true_and]) sbB suB
      ·(refine Zal [0,1,2,3,4,5,6,7,8,9,10,11,12,13,14,15,16,17,18,19,20,21,22,23,24,25,26,27,28,29,30,31] [32] (_) (h:=?_);refine wkI ?_)
       (repeat(refine wkH ?_))
       simp only[We (show¬(i:Int)+1<(al.length:Int) by omega)]
       (repeat(refine wkH ?_))
       repeat(refine wkT ?_;intros)
       repeat(refine wkB ?_;intros)
       exact Zh false (by unfold cD;rw[We hi1,Bool.false_and]) sbB suB
     subst hv5
     rcases hcD:cD al i x with _|_
     ·repeat(first|(refine wkB ?_;intros)|(refine wnM ?_ ?_;(focus(exact trivial));intros))
      refine sU rfl rfl ?_ ?_ ?_ ?_
      ·rfl
      ·rfl
      ·exact⟨by decide,by omega,by omega⟩
      intro s'
      repeat(first|(refine wkB ?_;intros)|(refine wnM ?_ ?_;(focus(exact⟨by omega,by omega⟩));intros))
      exact Zf ⟨_,i+1,s'⟩ ⟨hlt,by show xs++[redU x]=nrm al (i+1);rw[hnx,nstp,hI,if_neg (by decide),hcC,if_neg (by decide),hcD,if_neg (by decide)]⟩ sbB suB (by show al.length-(i+1)<al.length-i;omega)
     ·repeat(first|(refine wkB ?_;intros)|(refine wnM ?_ ?_;(focus(exact⟨by omega,by omega⟩));intros))
      exact Zf ⟨xs,i+1,s⟩ ⟨hlt,by show xs=nrm al (i+1);rw[hnx,nstp,hI,if_neg (by decide),hcC,if_neg (by decide),hcD,if_pos rfl]⟩ sbB suB (by show al.length-(i+1)<al.length-i;omega)
    ·have hb:bef xs x.In.From=true:=by
      unfold cC at hcC
      simp only[Wq] at hcC
      exact hcC.1
     have hpo:=ZbL hb
     rcases hp with⟨hb', -⟩|⟨-,bo,co,so,ho,hvo,hmo,rfl⟩
     ·rw[hb] at hb';cases hb'
     rw[hvo,hmo]
     simp only[Wf,Wg]
     have ek:((xs.length:Int)-1).toNat=xs.length-1:=by omega
     repeat(refine wkB ?_;intros)
     refine sRF (i:=(xs.length:Int)-1) (f:=19) (clo (lstU xs)) rfl rfl ?_ ?_
     ·omega
     rw[ek]
     obtain⟨s',hv',hm'⟩:=SlS.put (enc:=rU) (k:=21) (b:=bo) 145 (Zgm xs (clo (lstU xs))) ho hpo
     rw[<-hv']
     repeat(first|(refine wkB ?_;intros)|(refine wnM ?_ ?_;(focus(exact⟨by omega,by omega⟩));intros))
     exact Zf ⟨turn xs (clo (lstU xs)),i+1,s'⟩ ⟨hlt,by show turn xs (clo (lstU xs))=nrm al (i+1);rw[hnx,nstp,hI,if_neg (by decide),if_pos hcC]⟩ sbB (by dsimp only;rw[hm'];exact suB) (by show al.length-(i+1)<al.length-i;omega)
  ·have hge:i=al.length:=by have:=Wb h;omega
   subst hge
   subst hxs
   repeat(refine wkB ?_;intros)
   obtain⟨s0,hs1,hs2⟩:=SlS.turn 145 hR.symm s
   exact ZF rfl (Zv rfl) (Zv rfl) (fun w hw=>⟨s0,by dsimp only;rw[hs1,hE],by dsimp only;rw[hs2];exact hw.sub suB⟩)
end
end Go.Vt
