/- For any up to 12 units whose ends have up to 20 bytes, and for any decoded moving label (up to 8 stretches), Check returns OK or the first error. Conditions: none. (part 17 of 28.) Conditions: those that each statement names. -/
import Derived.Test.YtcgkgdgpdpihmaaGreatDoorProg
import Derived.Test.YtcgkgdgpdpihmaaGreatDoorKC4
import Derived.Test.YtcgkgdgpdpihmaaGreatDoorKC16
set_option linter.unusedSimpArgs false
set_option linter.unusedVariables false
set_option maxHeartbeats 2000000
set_option maxRecDepth 100000
namespace Go.Vt
open Go.RowKit Go.Proofs
open Go.Proofs.Tryz (prog)
instance (priority :=low) lstFV {xs:List Za}(w0:World)(L L1:List Blk)(s:FlS rI 20 xs)[h:OwnF 37 s L L1]:LstC w0 L (vF s) Za rI xs:=⟨fun w hw=>s.reads 37 ((hw.perm h.out).sub (List.sublist_append_left _ _))⟩
def dcd (op:Int)(a b:Bool):Bool:=if op=1 then a||b else if op=2 then a&&b else a&& !b
instance (priority :=high) Zta (op:Int)(a b:Bool):SpecC prog 72 [.int .i64 op, .bool a, .bool b] (.bool (dcd op a b)) True:=ZkV op a b
abbrev lstI (xs:List Za):Za:=gi xs ((xs.length:Int)-1)
def turnI (xs:List Za)(t:Rl)(o:Bool):List Za:=xs.set (xs.length-1) ⟨(lstI xs).From,t,(lstI xs).OpenFrom,o⟩
theorem Zc4 (xs:List Za)(t:Rl)(o:Bool):(turnI xs t o).length=xs.length:=by simp[turnI]
structure CbS where
 out:List Za
 on:Bool
def cbH (out:List Za)(on here:Bool)(t:Rl):List Za:=if on=true then turnI out t (!here) else if here=true then out++[⟨t,t,false,false⟩] else out
noncomputable def cbR (op:Int)(a b:List Za)(xs:List Rl):Nat->CbS
 |0=>⟨[],false⟩
 |k+1=>
  let p:=cbR op a b xs k
  let t:=gi xs (k:Int)
  let here:=dcd op (hlB a t) (hlB b t)
  let o1:=cbH p.out p.on here t
  if k+1=xs.length then⟨o1,p.on⟩
  else
   let u:=gi xs ((k+1:Nat):Int)
   let bt:=dcd op (spB a t u) (spB b t u)
   ⟨if(bt&& !here)=true then o1++[⟨t,u,true,true⟩] else o1,bt⟩
noncomputable def cmbR (op:Int)(a b:List Za):List Za:=(cbR op a b (enR (a++b)) (enR (a++b)).length).out
theorem ZjY (out:List Za)(on here:Bool)(t:Rl):(cbH out on here t).length<=out.length+1:=by
 unfold cbH
 split
 ·rw[Zc4];omega
 ·split <;> simp
theorem ZfZ (op:Int)(a b:List Za)(xs:List Rl):∀k,(cbR op a b xs k).out.length<=2*k
 |0=>Wl _
 |k+1=>by
  have h1:=ZfZ op a b xs k
  have h2:=ZjY (cbR op a b xs k).out (cbR op a b xs k).on (dcd op (hlB a (gi xs (k:Int))) (hlB b (gi xs (k:Int)))) (gi xs (k:Int))
  rw[cbR]
  dsimp only
  split
  ·dsimp only;omega
  ·dsimp only
   split
   ·simp only[Wp,List.length_singleton];omega
   ·omega
theorem Zm6 (op:Int)(a b:List Za)(xs:List Rl):∀k,(cbR op a b xs k).on=true->0<(cbR op a b xs k).out.length
 |0,h=>by cases h
 |k+1,h=>by
  have ih:=Zm6 op a b xs k
  rw[cbR] at h⊢
  dsimp only at h⊢
  generalize cbR op a b xs k=p at*
  generalize dcd op (hlB a (gi xs (k:Int))) (hlB b (gi xs (k:Int)))=here at*
  generalize gi xs (k:Int)=t at*
  have hH:p.on=true\/here=true->0<(cbH p.out p.on here t).length:=fun hc=>by
   unfold cbH
   by_cases c:p.on=true
   ·rw[if_pos c,Zc4];exact ih c
   ·rw[if_neg c,if_pos (hc.resolve_left c)];simp
  split at h
  ·rename_i hk
   rw[if_pos hk]
   exact hH (.inl h)
  ·rename_i hk
   rw[if_neg hk]
   dsimp only at h⊢
   rw[h]
   cases here
   ·simp
   ·simpa using hH (.inr rfl)
theorem Zp9 {P:Program}{w0:World}{n:Nat}{ops:Array Oper}{Q:Exit->Act->World->Prop}{E:Env}{L:List Blk}{S:Type}{id:Nat}(I:S->Prop)(Es:S->Env)(Ls:S->List Blk){l:List Oper}{x y:Code}(h1:JO P w0 n ops (Then P x (Exit.inBlock id (MidQ w0 n I Es Ls (fun _ _=>True) Q))) l E L)(h2:∀s,I s->J P w0 n y Q (Es s) (Ls s)):JO P w0 n ops (Then P x (Exit.inBlock id (Then P y Q))) l E L:=⟨fun a w ha hw=>by
 refine ZaW (fun e a' w' hq=>?_) l a w (h1.out a w ha hw)
 cases e with
 |normal=>exact wp_mono hq (ZU (ZO h2))
 |exit j=>exact ZU (id:=id) (ZO h2) (.exit j) a' w' hq
 |goto j=>exact ZU (id:=id) (ZO h2) (.goto j) a' w' hq
 |ret=>exact ZU (id:=id) (ZO h2) .ret a' w' hq
 |panic j=>exact ZU (id:=id) (ZO h2) (.panic j) a' w' hq
 |outgrown=>exact ZU (id:=id) (ZO h2) .outgrown a' w' hq⟩
theorem ZqC {P:Program}{w0:World}{n:Nat}{ops:Array Oper}{Q:Exit->Act->World->Prop}{E:Env}{L:List Blk}{S:Type}(I:S->Prop)(Es:S->Env)(Ls:S->List Blk){l:List Oper}{x y:Code}(h1:JO P w0 n ops (Then P x (MidQ w0 n I Es Ls (fun _ _=>True) Q)) l E L)(h2:∀s,I s->J P w0 n y Q (Es s) (Ls s)):JO P w0 n ops (Then P x (Then P y Q)) l E L:=⟨fun a w ha hw=>by
 refine ZaW (fun e a' w' hq=>?_) l a w (h1.out a w ha hw)
 cases e with
 |normal=>exact wp_mono hq (ZO h2)
 |exit j=>exact(ZO h2) (.exit j) a' w' hq
 |goto j=>exact(ZO h2) (.goto j) a' w' hq
 |ret=>exact(ZO h2) .ret a' w' hq
 |panic j=>exact(ZO h2) (.panic j) a' w' hq
 |outgrown=>exact(ZO h2) .outgrown a' w' hq⟩
theorem pm3 (M:List Blk)(x b q:Blk):(M++[x,b,q]).Perm ((b::(M++[q]))++[x]):=by
 have h1:(b::(M++[q]))++[x]=b::(M++[q,x]):=by simp
 rw[h1]
 exact List.perm_append_comm.trans (((List.Perm.swap b x (q::M)).trans ((List.Perm.swap q x M).cons b)).trans ((List.perm_append_comm (l₁:=[q,x]) (l₂:=M)).cons b))
structure CbIn (a b:List Za):Prop where
 la:a.length<=1024
 lb:b.length<=1024
 ia:∀i∈a,IvOk B28 i
 ib:∀i∈b,IvOk B28 i
set_option maxHeartbeats 16000000 in
theorem ZkA (op:Int)(v1 v2:Value)(a b:List Za)(w:World)(hv1:ArgS w v1 rI a)(hv2:ArgS w v2 rI b)(hk:CbIn a b):
  Calls prog 19 [.int .i64 op,v1,v2].toArray w (RetM (SlS rI 20 (cmbR op a b)) (fun s=>vSl s) (fun s=>mS 37 s) w):=by
 have hL1:=fun L=>hv1.lst L
 have hL2:=fun L=>hv2.lst L
 have hla:=hk.la
 have hlb:=hk.lb
 have hen:(([]++a)++b).length<=65536/\∀i∈([]++a)++b,IvOk B28 i:=by
  refine⟨by simp only[Wg,Wp];omega,fun i hi=>?_⟩
  rw[Wg,Wv] at hi
  exact hi.elim (hk.ia i) (hk.ib i)
 refine Zb Tryz.func19 rfl Tryz.ntmps19 rfl ?_
 repeat(refine wkB ?_;intros)
 rename_i b0
 refine sVF (k:=19) (enc:=rI) (s:=FlS.em b0) (hx:=⟨rfl⟩) rfl rfl ?_ ?_ ?_
 ·rfl
 ·exact⟨by simp only[Wx];omega,by simp only[Wx];omega⟩
 intro s1
 repeat(refine wkB ?_;intros)
 refine sVF rfl rfl ?_ ?_ ?_
 ·rfl
 ·exact⟨by simp only[Wp,Wx];omega,by simp only[Wp,Wx];omega⟩
 intro s2
 repeat(first|(refine wkB ?_;intros)|(refine wnM ?_ ?_;(focus(exact hen));intros))
 rename_i q
 have hx:SrR (2*(([]++a)++b).length) (enR (a++b)):=Zec hen.2
 have hfin:cmbR op a b=(cbR op a b (enR (a++b)) (enR (a++b)).length).out:=rfl
 rw[hfin]
 generalize enR (a++b)=xs at*
 have hxn:=hx.n
 have hxl:xs.length<=65536:=by
  simp only[Wg,Wp] at hxn
  omega
 refine Zq (S:=(_:Nat)×(_:Bool)×(p:List Za)×SlS rI 20 p) (fun k=>(k.1<=xs.length/\(k.1=0\/k.1<xs.length))/\(⟨k.2.2.1,k.2.1⟩:CbS)=cbR op a b xs k.1) (fun k=>[(0, .int .i64 op),(1,v1),(2,v2),(7,vSl q),(8,vSl k.2.2.2),(9, .bool k.2.1),(10, .int .i64 (k.1:Nat))]) (fun k=>mS 37 k.2.2.2++mS 35 q) (fun k=>xs.length-k.1) ⟨0,false,[],SlS.no⟩ ⟨⟨Wm _, .inl rfl⟩,rfl⟩ sbB suB (fun k hkl=>?_)
 obtain⟨k,on,out,o⟩:=k
 obtain⟨⟨hkl,hk2⟩,hpe⟩:=hkl
 dsimp only at hkl hk2 hpe⊢
 have hon:=Zm6 op a b xs k
 have hln:=ZfZ op a b xs k
 have hstp:cbR op a b xs (k+1)=(if k+1=xs.length then⟨cbH (cbR op a b xs k).out (cbR op a b xs k).on (dcd op (hlB a (gi xs (k:Int))) (hlB b (gi xs (k:Int)))) (gi xs (k:Int)),(cbR op a b xs k).on⟩ else⟨if(dcd op (spB a (gi xs (k:Int)) (gi xs ((k+1:Nat):Int))) (spB b (gi xs (k:Int)) (gi xs ((k+1:Nat):Int)))&& !(dcd op (hlB a (gi xs (k:Int))) (hlB b (gi xs (k:Int)))))=true then cbH (cbR op a b xs k).out (cbR op a b xs k).on (dcd op (hlB a (gi xs (k:Int))) (hlB b (gi xs (k:Int)))) (gi xs (k:Int))++[⟨gi xs (k:Int),gi xs ((k+1:Nat):Int),true,true⟩] else cbH (cbR op a b xs k).out (cbR op a b xs k).on (dcd op (hlB a (gi xs (k:Int))) (hlB b (gi xs (k:Int)))) (gi xs (k:Int)),dcd op (spB a (gi xs (k:Int)) (gi xs ((k+1:Nat):Int))) (spB b (gi xs (k:Int)) (gi xs ((k+1:Nat):Int)))⟩):=by
  conv=>lhs;unfold cbR
 have hz0:k=xs.length->(cbR op a b xs k).out=(cbR op a b xs xs.length).out:=fun h=>by rw[h]
 have hnxt:k+1=xs.length->(cbR op a b xs (k+1)).out=(cbR op a b xs xs.length).out:=fun h=>by rw[h]
 rw[<-hpe] at hon hln hstp hz0
 clear hpe
 dsimp only at*
 repeat(refine wkB ?_;intros)
 refine Zk rfl (fun h=>?_) (fun h=>?_)
 ·have hlt:k<xs.length:=by have:=Wa h;omega
  have e1:(k:Int)+1=((k+1:Nat):Int):=by omega
  have hr1:=hx.b (gi xs (k:Int)) (ZA (by omega))
  have p1:a.length<=1048576/\(∀i∈a,IvOk B28 i)/\RtB (gi xs (k:Int)):=⟨by omega,hk.ia,hr1⟩
  have p2:b.length<=1048576/\(∀i∈b,IvOk B28 i)/\RtB (gi xs (k:Int)):=⟨by omega,hk.ib,hr1⟩
  rcases q.cases 35 with⟨y0,y1,y2⟩|⟨bq,cb,sp,hc1,y1,y2,yne⟩
  ·rw[y0] at hlt
   cases hlt
  simp only[y1,y2,Wf,Wg]
  repeat(refine wkB ?_;intros)
  rename_i b11
  (refine ZH (.v [0,1,2,3,4,5,6,7] (.e1 8 (.fin))) ([⟨b11,Zc (Ze (gi xs (k:Int))),35⟩]) (h:=?_);refine wkX ?_)
  (repeat(first|refine wkH ?_|(refine tC rfl rfl ?_ ?_;focus(first|exact p1|exact p2|exact trivial))))
  repeat(refine wkT ?_;intros)
  generalize hhere:dcd op (hlB a (gi xs (k:Int))) (hlB b (gi xs (k:Int)))=here at*
  generalize htt:gi xs (k:Int)=t at*
  repeat(refine wkB ?_;intros)
  refine Zp9 (S:=SlS rI 20 (cbH out on here t)) (fun _=>True) (fun s=>[(0, .int .i64 op),(1,v1),(2,v2),(7, .slice (some ⟨bq,0,none⟩) xs.length cb),(8,vSl s),(9, .bool on),(10, .int .i64 (k:Nat)),(11, .pointer (some ⟨b11,0,none⟩)),(12, .bool here)]) (fun s=>⟨b11,Zc (Ze t),35⟩::(mS 37 s++[⟨bq,row Zv xs sp,35⟩])) ?_ (fun s _=>?_)
  ·cases on with
   |true=>
    have hpo:=hon rfl
    have ek:((out.length:Int)-1).toNat=out.length-1:=by omega
    rcases o.cases 37 with⟨z0,z1,z2⟩|⟨bo,co,so,ho,z1,z2,zne⟩
    ·rw[z0] at hpo;cases hpo
    simp only[z1,z2,Wf,Wg]
    have hbr:∀z:Bool,cbH out true z t=turnI out t (!z):=fun z=>if_pos rfl
    have hset:∀(z:Bool),(out.set ((out.length:Int)-1).toNat ⟨(lstI out).From,t,(lstI out).OpenFrom,(lstI out).OpenTo⟩).set ((out.length:Int)-1).toNat ⟨(gi (out.set ((out.length:Int)-1).toNat ⟨(lstI out).From,t,(lstI out).OpenFrom,(lstI out).OpenTo⟩) ((out.length:Int)-1)).From,(gi (out.set ((out.length:Int)-1).toNat ⟨(lstI out).From,t,(lstI out).OpenFrom,(lstI out).OpenTo⟩) ((out.length:Int)-1)).To,(gi (out.set ((out.length:Int)-1).toNat ⟨(lstI out).From,t,(lstI out).OpenFrom,(lstI out).OpenTo⟩) ((out.length:Int)-1)).OpenFrom,z⟩=turnI out t z:=fun z=>by
     have hg:gi (out.set ((out.length:Int)-1).toNat ⟨(lstI out).From,t,(lstI out).OpenFrom,(lstI out).OpenTo⟩) ((out.length:Int)-1)=⟨(lstI out).From,t,(lstI out).OpenFrom,(lstI out).OpenTo⟩:=by
      rw[Zbk (by simp only[List.length_set];omega)]
      simp
     rw[hg,List.set_set,ek]
     rfl
    cases here with
    |true=>
     repeat(refine wkB ?_;intros)
     refine sRF (i:=(out.length:Int)-1) (f:=9) (⟨(lstI out).From,t,(lstI out).OpenFrom,(lstI out).OpenTo⟩:Za) rfl rfl ?_ ?_
     ·omega
     repeat(refine wkB ?_;intros)
     refine sRF (i:=(out.length:Int)-1) (f:=19) (⟨(gi (out.set ((out.length:Int)-1).toNat ⟨(lstI out).From,t,(lstI out).OpenFrom,(lstI out).OpenTo⟩) ((out.length:Int)-1)).From,(gi (out.set ((out.length:Int)-1).toNat ⟨(lstI out).From,t,(lstI out).OpenFrom,(lstI out).OpenTo⟩) ((out.length:Int)-1)).To,(gi (out.set ((out.length:Int)-1).toNat ⟨(lstI out).From,t,(lstI out).OpenFrom,(lstI out).OpenTo⟩) ((out.length:Int)-1)).OpenFrom,false⟩:Za) rfl rfl ?_ ?_
     ·rw[List.length_set];omega
     rw[hset]
     obtain⟨s0,hv',hm'⟩:=SlS.put (enc:=rI) (k:=20) (b:=bo) 37 (Zc4 out t false) ho hpo
     rw[<-hv']
     obtain⟨s',f1,f2⟩:=SlS.turn 37 (hbr true).symm s0
     repeat(refine wkB ?_;intros)
     exact Zj s' trivial (by rw[f1];exact sbB) (by rw[f2,show mS 37 s0=_ from hm'];exact suB)
    |false=>
     repeat(refine wkB ?_;intros)
     refine sRF (i:=(out.length:Int)-1) (f:=9) (⟨(lstI out).From,t,(lstI out).OpenFrom,(lstI out).OpenTo⟩:Za) rfl rfl ?_ ?_
     ·omega
     repeat(refine wkB ?_;intros)
     refine sRF (i:=(out.length:Int)-1) (f:=19) (⟨(gi (out.set ((out.length:Int)-1).toNat ⟨(lstI out).From,t,(lstI out).OpenFrom,(lstI out).OpenTo⟩) ((out.length:Int)-1)).From,(gi (out.set ((out.length:Int)-1).toNat ⟨(lstI out).From,t,(lstI out).OpenFrom,(lstI out).OpenTo⟩) ((out.length:Int)-1)).To,(gi (out.set ((out.length:Int)-1).toNat ⟨(lstI out).From,t,(lstI out).OpenFrom,(lstI out).OpenTo⟩) ((out.length:Int)-1)).OpenFrom,true⟩:Za) rfl rfl ?_ ?_
     ·rw[List.length_set];omega
     rw[hset]
     obtain⟨s0,hv',hm'⟩:=SlS.put (enc:=rI) (k:=20) (b:=bo) 37 (Zc4 out t true) ho hpo
     rw[<-hv']
     obtain⟨s',f1,f2⟩:=SlS.turn 37 (hbr false).symm s0
     repeat(refine wkB ?_;intros)
     exact Zj s' trivial (by rw[f1];exact sbB) (by rw[f2,show mS 37 s0=_ from hm'];exact suB)
   |false=>
    cases here with
    |true=>
     repeat(refine wkB ?_;intros)
     refine sU rfl rfl ?_ ?_ ?_ ?_
     ·rfl
     ·rfl
     ·exact⟨by decide,by omega,by omega⟩
     intro s0
     obtain⟨s',f1,f2⟩:=SlS.turn 37 (show out++[⟨t,t,false,false⟩]=cbH out false true t from rfl) s0
     repeat(refine wkB ?_;intros)
     exact Zbg s' trivial (by rw[f1];exact sbB) (by rw[f2];exact⟨_,pm3 _ _ _ _⟩)
    |false=>
     obtain⟨s',f1,f2⟩:=SlS.turn 37 (show out=cbH out false false t from rfl) o
     repeat(refine wkB ?_;intros)
     exact Zj s' trivial (by rw[f1];exact sbB) (by rw[f2];exact suB)
  have hcl:(cbH out on here t).length<=out.length+1:=ZjY out on here t
  repeat(refine wkB ?_;intros)
  by_cases c:k+1=xs.length
  ·simp only[Wc (show(k:Int)+1=(xs.length:Nat) by omega)]
   rw[if_pos c] at hstp
   have hres:=hnxt c
   rw[hstp] at hres
   obtain⟨s',f1,f2⟩:=SlS.turn 37 hres s
   repeat(refine wkB ?_;intros)
   exact ZB rfl rfl (fun w hw=>⟨s',by show Ending.returned _=Ending.returned (vSl s');rw[f1],by show Own _ (mS _ s') _;rw[f2];exact hw.sub suB⟩)
  ·simp only[We (show¬(k:Int)+1=(xs.length:Nat) by omega)]
   rw[if_neg c] at hstp
   have hlt2:k+1<xs.length:=by omega
   have hr2:=hx.b (gi xs ((k+1:Nat):Int)) (ZA (by omega))
   have p3:a.length<=1048576/\(∀i∈a,IvOk B28 i)/\RtB t/\RtB (gi xs ((k+1:Nat):Int)):=⟨by omega,hk.ia,hr1,hr2⟩
   have p4:b.length<=1048576/\(∀i∈b,IvOk B28 i)/\RtB t/\RtB (gi xs ((k+1:Nat):Int)):=⟨by omega,hk.ib,hr1,hr2⟩
   repeat(refine wkB ?_;intros)
   simp only[e1]
   repeat(refine wkB ?_;intros)
   rename_i b14
   (refine ZH (.v [0,1,2,3,4,5,6,7,8,9] (.e1 10 (.fin))) ([⟨b14,Zc (Ze (gi xs ((k+1:Nat):Int))),35⟩,⟨b11,Zc (Ze t),35⟩]) (h:=?_);refine wkX ?_)
   (repeat(first|refine wkH ?_|(refine tC rfl rfl ?_ ?_;focus(first|exact p3|exact p4|exact trivial))))
   repeat(refine wkT ?_;intros)
   generalize dcd op (spB a t (gi xs ((k+1:Nat):Int))) (spB b t (gi xs ((k+1:Nat):Int)))=bt at*
   generalize huu:gi xs ((k+1:Nat):Int)=u at*
   repeat(refine wkB ?_;intros)
   have hson:(cbR op a b xs (k+1)).on=bt:=by rw[hstp]
   refine ZqC (S:=SlS rI 20 (cbR op a b xs (k+1)).out) (fun _=>True) (fun s=>[(0, .int .i64 op),(1,v1),(2,v2),(7, .slice (some ⟨bq,0,none⟩) xs.length cb),(8,vSl s),(10, .int .i64 (k:Nat)),(15, .bool bt)]) (fun s=>mS 37 s++[⟨bq,row Zv xs sp,35⟩]) ?_ (fun s3 _=>?_)
   ·have hout:∀ys,(if(bt&& !here)=true then cbH out on here t++[⟨t,u,true,true⟩] else cbH out on here t)=ys->ys=(cbR op a b xs (k+1)).out:=fun ys h=>by rw[hstp];exact h.symm
    cases bt with
    |true=>
     cases here with
     |true=>
      obtain⟨s',f1,f2⟩:=SlS.turn 37 (hout _ rfl) s
      repeat(refine wkB ?_;intros)
      exact Zj s' trivial (by rw[f1];exact sbB) (by rw[f2];exact suB)
     |false=>
      repeat(refine wkB ?_;intros)
      refine sU rfl rfl ?_ ?_ ?_ ?_
      ·rfl
      ·rfl
      ·exact⟨by decide,by omega,by omega⟩
      intro s4
      obtain⟨s',f1,f2⟩:=SlS.turn 37 (hout _ rfl) s4
      repeat(refine wkB ?_;intros)
      exact Zj s' trivial (by rw[f1];exact sbB) (by rw[f2];exact suB)
    |false=>
     obtain⟨s',f1,f2⟩:=SlS.turn 37 (hout _ rfl) s
     repeat(refine wkB ?_;intros)
     exact Zj s' trivial (by rw[f1];exact sbB) (by rw[f2];exact suB)
   repeat(first|(refine wkB ?_;intros)|(refine wnM ?_ ?_;(focus(exact⟨by omega,by omega⟩));intros))
   exact Zg ⟨k+1,bt,_,s3⟩ ⟨⟨hlt, .inr hlt2⟩,(by show CbS.mk (cbR op a b xs (k+1)).out bt=_;rw[<-hson])⟩ (by simp only[y1];exact sbB) (by simp only[y2];exact suB) (by show xs.length-(k+1)<xs.length-k;omega)
 ·have hge:k=xs.length:=by have:=Wb h;omega
  obtain⟨s',f1,f2⟩:=SlS.turn 37 (hz0 hge) o
  repeat(refine wkB ?_;intros)
  exact ZB rfl rfl (fun w hw=>⟨s',by show Ending.returned _=Ending.returned (vSl s');rw[f1],by show Own _ (mS _ s') _;rw[f2];exact hw.sub suB⟩)
instance Zx1 (w0:World)(L:List Blk)(op:Int)(v1 v2:Value)(a b:List Za)[h1:LstC w0 L v1 Za rI a][h2:LstC w0 L v2 Za rI b]:SpecR prog w0 L 19 [.int .i64 op,v1,v2] (SlS rI 20 (cmbR op a b)) (fun s=>vSl s) (fun s=>mS 37 s) (CbIn a b):=⟨fun hp w hw=>ZkA op v1 v2 a b w (h1.out w hw) (h2.out w hw) hp⟩
end Go.Vt
namespace Go.Vt
section
variable {α : Type} [Inhabited α]
def swx (xs:List α)(i j:Nat):List α:=(xs.set i (gi xs (j:Int))).set j (gi xs (i:Int))
theorem ZbM (xs:List α)(i j:Nat):(swx xs i j).length=xs.length:=by simp[swx]
theorem Zmz {xs:List α}{p:Nat}(h:xs.length<=p):gi xs (p:Int)=default:=by
 unfold gi
 rw[Int.toNat_natCast,List.getD_eq_getElem?_getD,List.getElem?_eq_none h]
 rfl
theorem ZcR {xs:List α}{i j:Nat}(hi:i<xs.length)(hj:j<xs.length)(p:Nat):gi (swx xs i j) (p:Int)=if p=j then gi xs (i:Int) else if p=i then gi xs (j:Int) else gi xs (p:Int):=by
 by_cases hp:p<xs.length
 ·rw[Zw (by rw[ZbM];exact hp)]
  unfold swx
  rw[List.getElem_set,List.getElem_set]
  by_cases h1:p=j
  ·subst h1;simp
  ·rw[if_neg (fun h=>h1 h.symm),if_neg h1]
   by_cases h2:p=i
   ·subst h2;simp
   ·rw[if_neg (fun h=>h2 h.symm),if_neg h2,Zw hp]
 ·rw[Zmz (by rw[ZbM];omega),if_neg (by omega),if_neg (by omega),Zmz (by omega)]
theorem Zhv {xs:List α}{i j:Nat}(hi:i<xs.length)(hj:j<xs.length):(swx xs i j).Perm xs:=by
 unfold swx
 rw[Zw hi,Zw hj]
 exact List.set_set_perm hi hj
structure Sg (xs ys:List α)(a b:Nat):Prop where
 perm:ys.Perm xs
 out:∀p:Nat,p<a\/b<=p->gi ys (p:Int)=gi xs (p:Int)
 mem:∀p:Nat,a<=p->p<b->∃q:Nat,a<=q/\q<b/\gi ys (p:Int)=gi xs (q:Int)
theorem Sg.len {xs ys:List α}{a b:Nat}(h:Sg xs ys a b):ys.length=xs.length:=h.perm.length_eq
theorem Sg.refl (xs:List α)(a b:Nat):Sg xs xs a b:=⟨.refl _,fun _ _=>rfl,fun p h1 h2=>⟨p,h1,h2,rfl⟩⟩
theorem Sg.trans {xs ys zs:List α}{a b c d:Nat}(h:Sg xs ys a b)(k:Sg ys zs c d)(h1:a<=c)(h2:d<=b):Sg xs zs a b:=by
 refine⟨k.perm.trans h.perm,fun p hp=>?_,fun p hp1 hp2=>?_⟩
 ·rw[k.out p (by omega),h.out p hp]
 ·by_cases hc:c<=p/\p<d
  ·obtain⟨q,q1,q2,q3⟩:=k.mem p hc.1 hc.2
   rw[q3]
   exact h.mem q (by omega) (by omega)
  ·rw[k.out p (by omega)]
   exact h.mem p hp1 hp2
theorem Sg.swx {xs:List α}{i j a b:Nat}(hi:a<=i/\i<b)(hj:a<=j/\j<b)(hb:b<=xs.length):Sg xs (swx xs i j) a b:=by
 refine⟨Zhv (by omega) (by omega),fun p hp=>?_,fun p hp1 hp2=>?_⟩
 ·rw[ZcR (by omega) (by omega),if_neg (by omega),if_neg (by omega)]
 ·rw[ZcR (by omega) (by omega)]
  split
  ·exact⟨i,hi.1,hi.2,rfl⟩
  ·split
   ·exact⟨j,hj.1,hj.2,rfl⟩
   ·exact⟨p,hp1,hp2,rfl⟩
theorem Sg.wid {xs ys:List α}{a b c d:Nat}(h:Sg xs ys a b)(h1:c<=a)(h2:b<=d):Sg xs ys c d:=(Sg.refl xs c d).trans h h1 h2
def swR (xs:List α)(a b:Nat):Nat->List α
 |0=>xs
 |k+1=>swx (swR xs a b k) (a+k) (b+k)
theorem Zei (xs:List α)(a b:Nat):∀k,(swR xs a b k).length=xs.length
 |0=>rfl
 |k+1=>by rw[swR,ZbM,Zei]
theorem Zfs {xs:List α}{a b:Nat}:∀k:Nat,a+k<=b->b+k<=xs.length->∀p:Nat,gi (swR xs a b k) (p:Int)=if a<=p/\p<a+k then gi xs ((p-a+b:Nat):Int) else if b<=p/\p<b+k then gi xs ((p-b+a:Nat):Int) else gi xs (p:Int)
 |0,_,_,p=>by rw[if_neg (by omega),if_neg (by omega)];rfl
 |k+1,h1,h2,p=>by
  have ih:=Zfs (xs:=xs) (a:=a) (b:=b) k (by omega) (by omega)
  have hl:=Zei xs a b k
  rw[swR,ZcR (by omega) (by omega),ih p,ih (a+k),ih (b+k)]
  rw[if_neg (show¬(a<=a+k/\a+k<a+k) by omega),if_neg (show¬(b<=a+k/\a+k<b+k) by omega),if_neg (show¬(a<=b+k/\b+k<a+k) by omega),if_neg (show¬(b<=b+k/\b+k<b+k) by omega)]
  by_cases e1:p=b+k
  ·subst e1
   rw[if_pos rfl,if_neg (by omega),if_pos (by omega),show b+k-b+a=a+k by omega]
  ·rw[if_neg e1]
   by_cases e2:p=a+k
   ·subst e2
    rw[if_pos rfl,if_pos (by omega),show a+k-a+b=b+k by omega]
   ·rw[if_neg e2]
    by_cases e3:a<=p/\p<a+k
    ·rw[if_pos e3,if_pos (by omega)]
    ·rw[if_neg e3,if_neg (show¬(a<=p/\p<a+(k+1)) by omega)]
     by_cases e4:b<=p/\p<b+k
     ·rw[if_pos e4,if_pos (by omega)]
     ·rw[if_neg e4,if_neg (by omega)]
theorem Zfj {xs:List α}{a b lo hi:Nat}:∀k:Nat,lo<=a->a+k<=b->b+k<=hi->hi<=xs.length->Sg xs (swR xs a b k) lo hi
 |0,_,_,_,_=>Sg.refl _ _ _
 |k+1,h1,h2,h3,h4=>(Zfj k h1 (by omega) (by omega) h4).trans (Sg.swx (a:=lo) (b:=hi) (by omega) (by omega) (by rw[Zei];exact h4)) (Wl _) (Wl _)
def rtI (a m b p:Nat):Nat:=if p<a\/b<=p then p else if p<a+(b-m) then p+(m-a) else p-(b-m)
theorem ZtQ {ys:List α}{m i j:Nat}(hij:j<i)(hm:i<=m)(hl:m+j<=ys.length)(p:Nat):gi (swR ys (m-i) m j) ((rtI (m-(i-j)) m (m+j) p:Nat):Int)=gi ys ((rtI (m-i) m (m+j) p:Nat):Int):=by
 rw[Zfs j (by omega) hl]
 unfold rtI
 by_cases c1:p<m-i\/m+j<=p
 ·rw[if_pos c1,if_pos (show p<m-(i-j)\/m+j<=p by omega),if_neg (by omega),if_neg (by omega)]
 ·rw[if_neg c1]
  by_cases c2:p<m-i+(m+j-m)
  ·rw[if_pos c2,if_pos (show p<m-(i-j)\/m+j<=p by omega),if_pos (by omega)]
   congr 2;omega
  ·rw[if_neg c2,if_neg (show¬(p<m-(i-j)\/m+j<=p) by omega)]
   by_cases c3:p<m-(i-j)+(m+j-m)
   ·rw[if_pos c3,if_neg (by omega),if_pos (by omega)]
    congr 2;omega
   ·rw[if_neg c3,if_neg (by omega),if_neg (by omega)]
theorem ZtP {ys:List α}{m i j:Nat}(hij:i<j)(hm:i<=m)(hl:m+j<=ys.length)(p:Nat):gi (swR ys (m-i) (m+j-i) i) ((rtI (m-i) m (m+(j-i)) p:Nat):Int)=gi ys ((rtI (m-i) m (m+j) p:Nat):Int):=by
 rw[Zfs i (by omega) (by omega)]
 by_cases c1:p<m-i\/m+j<=p
 ·have e1:rtI (m-i) m (m+j) p=p:=by unfold rtI;rw[if_pos c1]
  have e2:rtI (m-i) m (m+(j-i)) p=p:=by unfold rtI;rw[if_pos (by omega)]
  rw[e1,e2,if_neg (by omega),if_neg (by omega)]
 ·by_cases c0:p<m-i\/m+(j-i)<=p
  ·have e1:rtI (m-i) m (m+j) p=p-j:=by unfold rtI;rw[if_neg c1,if_neg (by omega)];omega
   have e2:rtI (m-i) m (m+(j-i)) p=p:=by unfold rtI;rw[if_pos c0]
   rw[e1,e2,if_neg (by omega),if_pos (by omega)]
   congr 2;omega
  ·have e1:rtI (m-i) m (m+j) p=p+i:=by unfold rtI;rw[if_neg c1,if_pos (by omega)];omega
   by_cases c2:p<m-i+(m+(j-i)-m)
   ·have e2:rtI (m-i) m (m+(j-i)) p=p+i:=by unfold rtI;rw[if_neg c0,if_pos c2];omega
    rw[e1,e2,if_neg (by omega),if_neg (by omega)]
   ·have e2:rtI (m-i) m (m+(j-i)) p=p-(j-i):=by unfold rtI;rw[if_neg c0,if_neg c2];omega
    rw[e1,e2,if_pos (by omega)]
    congr 2;omega
theorem Zsl {ys:List α}{m i:Nat}(hm:i<=m)(hl:m+i<=ys.length)(p:Nat):gi (swR ys (m-i) m i) (p:Int)=gi ys ((rtI (m-i) m (m+i) p:Nat):Int):=by
 rw[Zfs i (by omega) hl]
 unfold rtI
 by_cases c1:p<m-i\/m+i<=p
 ·rw[if_pos c1,if_neg (by omega),if_neg (by omega)]
 ·rw[if_neg c1]
  by_cases c2:p<m-i+(m+i-m)
  ·rw[if_pos c2,if_pos (by omega)]
   congr 2;omega
  ·rw[if_neg c2,if_neg (by omega),if_pos (by omega)]
   congr 2;omega
structure RtS (xs:List α)(a m b:Nat)(ys:List α)(i j:Nat):Prop where
 i0:0<i
 j0:0<j
 ia:a+i<=m
 jb:m+j<=b
 sg:Sg xs ys a b
 eq:∀p:Nat,gi ys ((rtI (m-i) m (m+j) p:Nat):Int)=gi xs ((rtI a m b p:Nat):Int)
theorem RtS.start {xs:List α}{a m b:Nat}(h1:a<m)(h2:m<b):RtS xs a m b xs (m-a) (b-m):=
 ⟨by omega,by omega,by omega,by omega,Sg.refl _ _ _,fun p=>by rw[show m-(m-a)=a by omega,show m+(b-m)=b by omega]⟩
theorem RtS.gt {xs ys:List α}{a m b i j:Nat}(h:RtS xs a m b ys i j)(hb:b<=xs.length)(hij:j<i):RtS xs a m b (swR ys (m-i) m j) (i-j) j:=by
 have hl:=h.sg.len
 have:=h.ia;have:=h.jb;have:=h.j0
 exact⟨by omega,h.j0,by omega,h.jb,h.sg.trans (Zfj (lo:=a) (hi:=b) j (by omega) (by omega) (by omega) (by omega)) (Wl _) (Wl _),fun p=>by rw[ZtQ hij (by omega) (by omega),h.eq]⟩
theorem RtS.lt {xs ys:List α}{a m b i j:Nat}(h:RtS xs a m b ys i j)(hb:b<=xs.length)(hij:i<j):RtS xs a m b (swR ys (m-i) (m+j-i) i) i (j-i):=by
 have hl:=h.sg.len
 have:=h.ia;have:=h.jb;have:=h.i0
 exact⟨h.i0,by omega,h.ia,by omega,h.sg.trans (Zfj (lo:=a) (hi:=b) i (by omega) (by omega) (by omega) (by omega)) (Wl _) (Wl _),fun p=>by rw[ZtP hij (by omega) (by omega),h.eq]⟩
structure RtO (xs:List α)(a m b:Nat)(zs:List α):Prop where
 sg:Sg xs zs a b
 eq:∀p:Nat,gi zs (p:Int)=gi xs ((rtI a m b p:Nat):Int)
theorem RtS.fin {xs ys:List α}{a m b i:Nat}(h:RtS xs a m b ys i i)(hb:b<=xs.length):RtO xs a m b (swR ys (m-i) m i):=by
 have hl:=h.sg.len
 have:=h.ia;have:=h.jb
 exact⟨h.sg.trans (Zfj (lo:=a) (hi:=b) i (by omega) (by omega) (by omega) (by omega)) (Wl _) (Wl _),fun p=>by rw[Zsl (by omega) (by omega),h.eq]⟩
section
variable {le : α -> α -> Prop} (tr : ∀ x y z, le x y -> le y z -> le x z)
def Od (le:α->α->Prop)(xs:List α)(a b:Nat):Prop:=∀p q:Nat,a<=p->p<q->q<b->le (gi xs (p:Int)) (gi xs (q:Int))
theorem Od.sub {xs:List α}{a b c d:Nat}(h:Od le xs a b)(h1:a<=c)(h2:d<=b):Od le xs c d:=fun p q hp hpq hq=>h p q (by omega) hpq (by omega)
theorem Od.triv {xs:List α}{a b:Nat}(h:b<=a+1):Od le xs a b:=fun p q hp hpq hq=>by omega
theorem Od.out {xs ys:List α}{a b c d:Nat}(h:Od le xs a b)(k:Sg xs ys c d)(hd:b<=c\/d<=a):Od le ys a b:=fun p q hp hpq hq=>by
 rw[k.out p (by omega),k.out q (by omega)]
 exact h p q hp hpq hq
include tr
def shU (xs:List α)(a:Nat):Nat->List α
 |0=>xs
 |t+1=>swx (shU xs a t) (a+t) (a+t+1)
omit tr in
theorem Zex (xs:List α)(a:Nat):∀t,(shU xs a t).length=xs.length
 |0=>rfl
 |t+1=>by rw[shU,ZbM,Zex]
omit tr in
theorem Zg8 {xs:List α}{a:Nat}:∀t:Nat,a+t<xs.length->∀p:Nat,gi (shU xs a t) (p:Int)=if a<=p/\p<a+t then gi xs ((p+1:Nat):Int) else if p=a+t then gi xs (a:Int) else gi xs (p:Int)
 |0,_,p=>by
  rw[if_neg (by omega)]
  split
  ·rename_i h;rw[h];rfl
  ·rfl
 |t+1,h,p=>by
  have ih:=Zg8 (xs:=xs) (a:=a) t (by omega)
  have hl:=Zex xs a t
  rw[shU,ZcR (by omega) (by omega),ih p,ih (a+t),ih (a+t+1)]
  rw[if_neg (show¬(a<=a+t/\a+t<a+t) by omega),if_pos rfl,if_neg (show¬(a<=a+t+1/\a+t+1<a+t) by omega),if_neg (show¬(a+t+1=a+t) by omega)]
  by_cases e1:p=a+t+1
  ·subst e1
   rw[if_pos rfl,if_neg (by omega),if_pos (by omega)]
  ·rw[if_neg e1]
   by_cases e2:p=a+t
   ·subst e2
    rw[if_pos rfl,if_pos (by omega)]
   ·rw[if_neg e2,if_neg e2]
    by_cases e3:a<=p/\p<a+t
    ·rw[if_pos e3,if_pos (by omega)]
    ·rw[if_neg e3,if_neg (by omega),if_neg (by omega)]
omit tr in
theorem Zlw {xs:List α}{a lo hi:Nat}:∀t:Nat,lo<=a->a+t<hi->hi<=xs.length->Sg xs (shU xs a t) lo hi
 |0,_,_,_=>Sg.refl _ _ _
 |t+1,h1,h2,h3=>(Zlw t h1 (by omega) h3).trans (Sg.swx (a:=lo) (b:=hi) (by omega) (by omega) (by rw[Zex];exact h3)) (Wl _) (Wl _)
theorem Zsj {xs:List α}{a b i:Nat}(hl:b<=xs.length)(h:Od le xs (a+1) b)(hi:a+1<=i/\i<=b)(h1:i=a+1\/le (gi xs ((i-1:Nat):Int)) (gi xs (a:Int)))(h2:i=b\/le (gi xs (a:Int)) (gi xs (i:Int))):Od le (shU xs a (i-1-a)) a b:=by
 have lo:∀q:Nat,a+1<=q->q<i->le (gi xs (q:Int)) (gi xs (a:Int)):=fun q hq1 hq2=>by
  have h1':=h1.resolve_left (by omega)
  by_cases e:q=i-1
  ·rw[e];exact h1'
  ·exact tr _ _ _ (h q (i-1) hq1 (by omega) (by omega)) h1'
 have up:∀q:Nat,i<=q->q<b->le (gi xs (a:Int)) (gi xs (q:Int)):=fun q hq1 hq2=>by
  have h2':=h2.resolve_left (by omega)
  by_cases e:q=i
  ·rw[e];exact h2'
  ·exact tr _ _ _ h2' (h i q (by omega) (by omega) hq2)
 intro p q hp hpq hq
 rw[Zg8 _ (by omega),Zg8 _ (by omega)]
 by_cases c1:p<i-1
 ·rw[if_pos (show a<=p/\p<a+(i-1-a) by omega)]
  by_cases c2:q<i-1
  ·rw[if_pos (show a<=q/\q<a+(i-1-a) by omega)]
   exact h _ _ (by omega) (by omega) (by omega)
  ·rw[if_neg (show¬(a<=q/\q<a+(i-1-a)) by omega)]
   split
   ·exact lo _ (by omega) (by omega)
   ·exact h _ _ (by omega) (by omega) (by omega)
 ·rw[if_neg (show¬(a<=p/\p<a+(i-1-a)) by omega),if_neg (show¬(a<=q/\q<a+(i-1-a)) by omega),if_neg (show¬q=a+(i-1-a) by omega)]
  split
  ·exact up _ (by omega) (by omega)
  ·exact h _ _ (by omega) (by omega) (by omega)
def shD (xs:List α)(m:Nat):Nat->List α
 |0=>xs
 |t+1=>swx (shD xs m t) (m-t) (m-t-1)
omit tr in
theorem ZeG (xs:List α)(m:Nat):∀t,(shD xs m t).length=xs.length
 |0=>rfl
 |t+1=>by rw[shD,ZbM,ZeG]
omit tr in
theorem Zh8 {xs:List α}{m:Nat}(hm:m<xs.length):∀t:Nat,t<=m->∀p:Nat,gi (shD xs m t) (p:Int)=if m-t<p/\p<=m then gi xs ((p-1:Nat):Int) else if p=m-t then gi xs (m:Int) else gi xs (p:Int)
 |0,_,p=>by
  rw[if_neg (by omega)]
  split
  ·rename_i h;rw[h];rfl
  ·rfl
 |t+1,h,p=>by
  have ih:=Zh8 hm t (by omega)
  have hl:=ZeG xs m t
  rw[shD,ZcR (by omega) (by omega),ih p,ih (m-t),ih (m-t-1)]
  rw[if_neg (show¬(m-t<m-t/\m-t<=m) by omega),if_pos rfl,if_neg (show¬(m-t<m-t-1/\m-t-1<=m) by omega),if_neg (show¬(m-t-1=m-t) by omega)]
  by_cases e1:p=m-t-1
  ·subst e1
   rw[if_pos rfl,if_neg (by omega),if_pos (by omega)]
  ·rw[if_neg e1]
   by_cases e2:p=m-t
   ·subst e2
    rw[if_pos rfl,if_pos (by omega)]
   ·rw[if_neg e2,if_neg e2]
    by_cases e3:m-t<p/\p<=m
    ·rw[if_pos e3,if_pos (by omega)]
    ·rw[if_neg e3,if_neg (by omega),if_neg (by omega)]
omit tr in
theorem ZmH {xs:List α}{m lo hi:Nat}:∀t:Nat,lo+t<=m->m<hi->hi<=xs.length->Sg xs (shD xs m t) lo hi
 |0,_,_,_=>Sg.refl _ _ _
 |t+1,h1,h2,h3=>(ZmH t (by omega) h2 h3).trans (Sg.swx (a:=lo) (b:=hi) (by omega) (by omega) (by rw[ZeG];exact h3)) (Wl _) (Wl _)
theorem Zsh {xs:List α}{a m i:Nat}(hl:m<xs.length)(h:Od le xs a m)(hi:a<=i/\i<=m)(h1:i=a\/le (gi xs ((i-1:Nat):Int)) (gi xs (m:Int)))(h2:i=m\/le (gi xs (m:Int)) (gi xs (i:Int))):Od le (shD xs m (m-i)) a (m+1):=by
 have lo:∀q:Nat,a<=q->q<i->le (gi xs (q:Int)) (gi xs (m:Int)):=fun q hq1 hq2=>by
  have h1':=h1.resolve_left (by omega)
  by_cases e:q=i-1
  ·rw[e];exact h1'
  ·exact tr _ _ _ (h q (i-1) hq1 (by omega) (by omega)) h1'
 have up:∀q:Nat,i<=q->q<m->le (gi xs (m:Int)) (gi xs (q:Int)):=fun q hq1 hq2=>by
  have h2':=h2.resolve_left (by omega)
  by_cases e:q=i
  ·rw[e];exact h2'
  ·exact tr _ _ _ h2' (h i q (by omega) (by omega) hq2)
 intro p q hp hpq hq
 rw[Zh8 hl _ (by omega),Zh8 hl _ (by omega)]
 by_cases c1:p<i
 ·rw[if_neg (show¬(m-(m-i)<p/\p<=m) by omega),if_neg (show¬p=m-(m-i) by omega)]
  by_cases c2:i<q
  ·rw[if_pos (show m-(m-i)<q/\q<=m by omega)]
   exact h _ _ (by omega) (by omega) (by omega)
  ·rw[if_neg (show¬(m-(m-i)<q/\q<=m) by omega)]
   split
   ·exact lo _ (by omega) (by omega)
   ·exact h _ _ (by omega) (by omega) (by omega)
 ·rw[if_pos (show m-(m-i)<q/\q<=m by omega)]
  by_cases c2:i<p
  ·rw[if_pos (show m-(m-i)<p/\p<=m by omega)]
   exact h _ _ (by omega) (by omega) (by omega)
  ·rw[if_neg (show¬(m-(m-i)<p/\p<=m) by omega),if_pos (by omega)]
   exact up _ (by omega) (by omega)
structure SmP (le:α->α->Prop)(zs:List α)(a s mid e b:Nat):Prop where
 o1:Od le zs a s
 o2:Od le zs s mid
 o3:Od le zs mid e
 o4:Od le zs e b
 cr:∀p q:Nat,a<=p->p<mid->mid<=q->q<b->le (gi zs (p:Int)) (gi zs (q:Int))
theorem Zoi {xs zs:List α}{a m b s e mid:Nat}(h1:Od le xs a m)(h2:Od le xs m b)(hs:a<=s/\s<=m)(he:m<=e/\e<=b)(hm:s+e=mid+m)
  (c1:s=a\/e=b\/le (gi xs ((s-1:Nat):Int)) (gi xs (e:Int))) (c2:s=m\/e=m\/le (gi xs ((e-1:Nat):Int)) (gi xs (s:Int)))
  (hz:∀p:Nat,gi zs (p:Int)=gi xs ((rtI s m e p:Nat):Int)):SmP le zs a s mid e b:=by
 have k1:∀p q:Nat,a<=p->p<s->e<=q->q<b->le (gi xs (p:Int)) (gi xs (q:Int)):=fun p q p1 p2 q1 q2=>by
  have c:=(c1.resolve_left (by omega)).resolve_left (by omega)
  have t1:le (gi xs (p:Int)) (gi xs (e:Int)):=by
   by_cases h:p=s-1
   ·rw[h];exact c
   ·exact tr _ _ _ (h1 p (s-1) p1 (by omega) (by omega)) c
  by_cases h:q=e
  ·rw[h];exact t1
  ·exact tr _ _ _ t1 (h2 e q (by omega) (by omega) q2)
 have k2:∀p q:Nat,m<=p->p<e->s<=q->q<m->le (gi xs (p:Int)) (gi xs (q:Int)):=fun p q p1 p2 q1 q2=>by
  have c:=(c2.resolve_left (by omega)).resolve_left (by omega)
  have t1:le (gi xs (p:Int)) (gi xs (s:Int)):=by
   by_cases h:p=e-1
   ·rw[h];exact c
   ·exact tr _ _ _ (h2 p (e-1) p1 (by omega) (by omega)) c
  by_cases h:q=s
  ·rw[h];exact t1
  ·exact tr _ _ _ t1 (h1 s q (by omega) (by omega) q2)
 have z1:∀p:Nat,p<s->gi zs (p:Int)=gi xs (p:Int):=fun p hp=>by rw[hz];unfold rtI;rw[if_pos (.inl hp)]
 have z2:∀p:Nat,s<=p->p<mid->gi zs (p:Int)=gi xs ((p+(m-s):Nat):Int):=fun p hp hq=>by rw[hz];unfold rtI;rw[if_neg (by omega),if_pos (by omega)]
 have z3:∀p:Nat,mid<=p->p<e->gi zs (p:Int)=gi xs ((p-(e-m):Nat):Int):=fun p hp hq=>by rw[hz];unfold rtI;rw[if_neg (by omega),if_neg (by omega)]
 have z4:∀p:Nat,e<=p->gi zs (p:Int)=gi xs (p:Int):=fun p hp=>by rw[hz];unfold rtI;rw[if_pos (.inr hp)]
 refine⟨fun p q hp hpq hq=>?_,fun p q hp hpq hq=>?_,fun p q hp hpq hq=>?_,fun p q hp hpq hq=>?_,fun p q p1 p2 q1 q2=>?_⟩
 ·rw[z1 p (by omega),z1 q hq];exact h1 _ _ hp hpq (by omega)
 ·rw[z2 p hp (by omega),z2 q (by omega) hq];exact h2 _ _ (by omega) (by omega) (by omega)
 ·rw[z3 p hp (by omega),z3 q (by omega) hq];exact h1 _ _ (by omega) (by omega) (by omega)
 ·rw[z4 p hp,z4 q (by omega)];exact h2 _ _ (by omega) hpq hq
 ·by_cases cp:p<s
  ·rw[z1 p cp]
   by_cases cq:q<e
   ·rw[z3 q q1 cq];exact h1 _ _ p1 (by omega) (by omega)
   ·rw[z4 q (by omega)];exact k1 _ _ p1 cp (by omega) q2
  ·rw[z2 p (by omega) p2]
   by_cases cq:q<e
   ·rw[z3 q q1 cq];exact k2 _ _ (by omega) (by omega) (by omega) (by omega)
   ·rw[z4 q (by omega)];exact h2 _ _ (by omega) (by omega) q2
omit tr in
theorem Zgb {zs ys us:List α}{a s mid e b:Nat}(h:SmP le zs a s mid e b)(hm:a<=mid/\mid<=b)(g1:Sg zs ys a mid)(o1:Od le ys a mid)(g2:Sg ys us mid b)(o2:Od le us mid b):Sg zs us a b/\Od le us a b:=by
 refine⟨(g1.wid (Wl _) hm.2).trans g2 hm.1 (Wl _),fun p q hp hpq hq=>?_⟩
 by_cases c1:q<mid
 ·rw[g2.out p (by omega),g2.out q (by omega)]
  exact o1 p q hp hpq c1
 ·by_cases c2:mid<=p
  ·exact o2 p q c2 hpq hq
  ·rw[g2.out p (by omega)]
   obtain⟨q',q1,q2,q3⟩:=g2.mem q (by omega) hq
   obtain⟨p',p1,p2,p3⟩:=g1.mem p hp (by omega)
   rw[q3,p3,g1.out q' (by omega)]
   exact h.cr p' q' p1 p2 q1 q2
structure SmS (le:α->α->Prop)(xs:List α)(n s0 r0 s r:Nat):Prop where
 a:s0<=s
 b:s<=r
 c:r<=r0
 d:s=s0\/le (gi xs ((s-1:Nat):Int)) (gi xs ((n-s:Nat):Int))
 e:r=r0\/le (gi xs ((n-1-r:Nat):Int)) (gi xs (r:Int))
omit tr in
theorem SmS.up {xs:List α}{n s0 r0 s r:Nat}(h:SmS le xs n s0 r0 s r)(hlt:s<r)(hn:r<=n)(hc:le (gi xs (((s+r) / 2:Nat):Int)) (gi xs ((n-1-(s+r) / 2:Nat):Int))):SmS le xs n s0 r0 ((s+r) / 2+1) r:=by
 have:=h.a;have:=h.c
 refine⟨by omega,by omega,h.c, .inr ?_,h.e⟩
 rw[show(s+r) / 2+1-1=(s+r) / 2 by omega,show n-((s+r) / 2+1)=n-1-(s+r) / 2 by omega]
 exact hc
omit tr in
theorem SmS.dn {xs:List α}{n s0 r0 s r:Nat}(h:SmS le xs n s0 r0 s r)(hlt:s<r)(hc:le (gi xs ((n-1-(s+r) / 2:Nat):Int)) (gi xs (((s+r) / 2:Nat):Int))):SmS le xs n s0 r0 s ((s+r) / 2):=by
 have:=h.a;have:=h.c
 exact⟨h.a,by omega,by omega,h.d, .inr hc⟩
structure BsS (P Q:Nat->Prop)(s0 r0 s r:Nat):Prop where
 a:s0<=s
 b:s<=r
 c:r<=r0
 d:s=s0\/P (s-1)
 e:r=r0\/Q r
omit tr in
theorem BsS.up {P Q:Nat->Prop}{s0 r0 s r:Nat}(h:BsS P Q s0 r0 s r)(hlt:s<r)(hc:P ((s+r) / 2)):BsS P Q s0 r0 ((s+r) / 2+1) r:=by
 have:=h.a;have:=h.c
 exact⟨by omega,by omega,h.c, .inr hc,h.e⟩
omit tr in
theorem BsS.dn {P Q:Nat->Prop}{s0 r0 s r:Nat}(h:BsS P Q s0 r0 s r)(hlt:s<r)(hc:Q ((s+r) / 2)):BsS P Q s0 r0 s ((s+r) / 2):=by
 have:=h.a;have:=h.c
 exact⟨h.a,by omega,by omega,h.d, .inr hc⟩
omit tr
variable {c : α -> α -> Int}
def dwA (c:α->α->Int)(a:Nat)(xs:List α):Nat->List α
 |0=>xs
 |d+1=>if c (gi xs ((a+d+1:Nat):Int)) (gi xs ((a+d:Nat):Int))<0 then dwA c a (swx xs (a+d+1) (a+d)) d else xs
def srA (c:α->α->Int)(a:Nat)(xs:List α):Nat->List α
 |0=>xs
 |i+1=>dwA c a (srA c a xs i) (i+1)
theorem Zlu (c:α->α->Int){a hi:Nat}:∀(d:Nat)(xs:List α),a+d<hi->hi<=xs.length->Sg xs (dwA c a xs d) a hi
 |0,xs,_,_=>Sg.refl _ _ _
 |d+1,xs,h1,h2=>by
  rw[dwA]
  split
  ·exact(Sg.swx (a:=a) (b:=hi) (by omega) (by omega) h2).trans (Zlu c d _ (by omega) (by rw[ZbM];exact h2)) (Wl _) (Wl _)
  ·exact Sg.refl _ _ _
theorem Zfc (c:α->α->Int){a hi:Nat}(xs:List α)(h2:hi<=xs.length):∀i,a+i<hi->Sg xs (srA c a xs i) a hi
 |0,_=>Sg.refl _ _ _
 |i+1,h=>by
  have h1:=Zfc (a:=a) c xs h2 i (by omega)
  rw[srA]
  exact h1.trans (Zlu c (hi:=hi) (i+1) _ h (by rw[h1.len];exact h2)) (Wl _) (Wl _)
variable (h1 : ∀ x y, c x y < 0 -> le x y) (h2 : ∀ x y, ¬ c x y < 0 -> le y x)
include tr h1 h2
theorem ZjC {a:Nat}:∀(j n:Nat)(xs:List α),j<n->a+n<=xs.length->(∀p q:Nat,p<q->q<n->q≠j->le (gi xs ((a+p:Nat):Int)) (gi xs ((a+q:Nat):Int)))->∀p q:Nat,p<q->q<n->le (gi (dwA c a xs j) ((a+p:Nat):Int)) (gi (dwA c a xs j) ((a+q:Nat):Int))
 |0,n,xs,_,_,H,p,q,hpq,hq=>H p q hpq hq (by omega)
 |j+1,n,xs,hj,hn,H,p,q,hpq,hq=>by
  rw[dwA]
  split
  ·rename_i hc
   refine ZjC j n (swx xs (a+j+1) (a+j)) (by omega) (by rw[ZbM];exact hn) (fun p q hpq hq hqj=>?_) p q hpq hq
   rw[ZcR (by omega) (by omega),ZcR (by omega) (by omega),if_neg (show¬a+q=a+j by omega)]
   by_cases e1:q=j+1
   ·rw[if_pos (show a+q=a+j+1 by omega)]
    by_cases e2:p=j
    ·rw[if_pos (show a+p=a+j by omega)];exact h1 _ _ hc
    ·rw[if_neg (show¬a+p=a+j by omega),if_neg (show¬a+p=a+j+1 by omega)];exact H p j (by omega) (by omega) (by omega)
   ·rw[if_neg (show¬a+q=a+j+1 by omega)]
    by_cases e2:p=j
    ·rw[if_pos (show a+p=a+j by omega)];exact H (j+1) q (by omega) hq e1
    ·rw[if_neg (show¬a+p=a+j by omega)]
     by_cases e3:p=j+1
     ·rw[if_pos (show a+p=a+j+1 by omega)];exact H j q (by omega) hq e1
     ·rw[if_neg (show¬a+p=a+j+1 by omega)];exact H p q hpq hq e1
  ·rename_i hc
   have h4:=h2 _ _ hc
   by_cases e1:q=j+1
   ·subst e1
    by_cases e2:p=j
    ·subst e2;exact h4
    ·exact tr _ _ _ (H p j (by omega) (by omega) (by omega)) h4
   ·exact H p q hpq hq e1
theorem Zje {a:Nat}(xs:List α):∀i,a+i<xs.length->∀p q:Nat,p<q->q<i+1->le (gi (srA c a xs i) ((a+p:Nat):Int)) (gi (srA c a xs i) ((a+q:Nat):Int))
 |0,_,p,q,_,_=>by omega
 |i+1,h,p,q,hpq,hq=>by
  have hl:=(Zfc (a:=a) c (hi:=xs.length) xs (Wl _) i (by omega)).len
  rw[srA]
  exact ZjC tr h1 h2 (i+1) (i+2) _ (by omega) (by omega) (fun p q hpq hq hne=>Zje xs i (by omega) p q hpq (by omega)) p q hpq hq
theorem Zr6 {a b:Nat}(xs:List α)(hb:b<=xs.length):Od le (srA c a xs (b-a-1)) a b:=fun p q hp hpq hq=>by
 have:=Zje tr h1 h2 (a:=a) xs (b-a-1) (by omega) (p-a) (q-a) (by omega) (by omega)
 rwa [show a+(p-a)=p by omega,show a+(q-a)=q by omega] at this
end
def Bk (le:α->α->Prop)(xs:List α)(s n t:Nat):Prop:=∀u,t<=u->Od le xs (s*u) (min (s*u+s) n)
def Bp (le:α->α->Prop)(xs:List α)(s n t:Nat):Prop:=∀u,u<t->Od le xs (s*u) (min (s*u+s) n)
theorem Bk.all {le:α->α->Prop}{xs:List α}{s n:Nat}(h:Bk le xs s n 0)(hs:n<=s):Od le xs 0 n:=by
 have:=h 0 (Wl _)
 rw[Nat.mul_zero] at this
 exact this.sub (Wl _) (by omega)
theorem Bp.all {le:α->α->Prop}{xs:List α}{s n t:Nat}(h:Bp le xs s n t)(hn:n<=s*t+1):Bk le xs s n 0:=fun u _=>by
 by_cases hu:u<t
 ·exact h u hu
 ·have h1:s*t<=s*u:=Nat.mul_le_mul_left _ (by omega)
  exact Od.triv (by omega)
theorem Bp.next {le:α->α->Prop}{xs ys:List α}{s n t:Nat}(h:Bp le xs (2*s) n t)(hs:0<s)(g:Sg xs ys (2*s*t) (min (2*s*t+2*s) n))(o:Od le ys (2*s*t) (min (2*s*t+2*s) n)):Bp le ys (2*s) n (t+1):=fun u hu=>by
 rcases Nat.lt_or_ge u t with h1|h1
 ·have h2:2*s*(u+1)<=2*s*t:=Nat.mul_le_mul_left _ h1
  rw[Nat.mul_add,Nat.mul_one] at h2
  exact(h u h1).out g (.inl (by omega))
 ·have:u=t:=by omega
  subst this
  exact o
theorem Bk.next {le:α->α->Prop}{xs ys:List α}{s n t:Nat}(h:Bk le xs s n (2*t))(hs:0<s)(g:Sg xs ys (2*s*t) (min (2*s*t+2*s) n)):Bk le ys s n (2*(t+1)):=fun u hu=>by
 have h2:s*(2*(t+1))<=s*u:=Nat.mul_le_mul_left _ hu
 have e:s*(2*(t+1))=2*s*t+2*s:=by rw[Nat.mul_add,Nat.mul_add,<-Nat.mul_assoc,Nat.mul_comm s 2]
 exact(h u (by omega)).out g (.inr (by omega))
theorem Bk.two {le:α->α->Prop}{xs:List α}{s n t:Nat}(h:Bk le xs s n (2*t)):Od le xs (2*s*t) (min (2*s*t+s) n)/\Od le xs (2*s*t+s) (min (2*s*t+2*s) n):=by
 have h1:=h (2*t) (Wl _)
 have h2:=h (2*t+1) (by omega)
 have e:s*(2*t)=2*s*t:=by rw[<-Nat.mul_assoc,Nat.mul_comm s 2]
 rw[e] at h1
 rw[Nat.mul_add,e,Nat.mul_one] at h2
 exact⟨h1,h2.sub (by omega) (by omega)⟩
theorem Bp.nextI {le:α->α->Prop}{xs ys:List α}{s n t:Nat}(h:Bp le xs s n t)(g:Sg xs ys (s*t) (s*t+s))(o:Od le ys (s*t) (min (s*t+s) n)):Bp le ys s n (t+1):=fun u hu=>by
 rcases Nat.lt_or_ge u t with h1|h1
 ·have h2:s*(u+1)<=s*t:=Nat.mul_le_mul_left _ h1
  rw[Nat.mul_add,Nat.mul_one] at h2
  exact(h u h1).out g (.inl (by omega))
 ·have:u=t:=by omega
  subst this
  exact o
end
end Go.Vt
namespace Go.Vt
open Go.RowKit Go.Proofs
open Go.Proofs.Tryz (prog)
theorem Zho {P:Program}{w0:World}{n:Nat}{ops:Array Oper}{Q:Exit->Act->World->Prop}{E:Env}{L:List Blk}{S:Type}(I:S->Prop)(Es:S->Env)(Ls:S->List Blk){l:List Oper}{x y:Code}(h1:JO P w0 n ops (Then P x (MidQ w0 n I Es Ls (fun _ _=>True) Q)) l E L)(h2:∀s,I s->J P w0 n y Q (Es s) (Ls s)):JO P w0 n ops (Then P x (Then P y Q)) l E L:=⟨fun a w ha hw=>by
 refine ZaW (fun e a' w' hq=>?_) l a w (h1.out a w ha hw)
 cases e with
 |normal=>exact wp_mono hq (ZO h2)
 |exit j=>exact(ZO h2) (.exit j) a' w' hq
 |goto j=>exact(ZO h2) (.goto j) a' w' hq
 |ret=>exact(ZO h2) .ret a' w' hq
 |panic j=>exact(ZO h2) (.panic j) a' w' hq
 |outgrown=>exact(ZO h2) .outgrown a' w' hq⟩
def leS (u w:UL):Prop:=ri u.In.From<ri w.In.From\/(ri u.In.From=ri w.In.From/\(opn u.In<opn w.In\/(opn u.In=opn w.In/\ri u.In.To<=ri w.In.To)))
theorem Zeh {u w:UL}(h:cmpU u w<0):leS u w:=by
 unfold cmpU at h
 unfold leS
 have k1:= @Zal u.In.From w.In.From
 have k2:= @Zao u.In.From w.In.From
 have k3:= @Zal u.In.To w.In.To
 rw[orL,orL,orL,orL] at h
 split at h
 ·rename_i e1
  split at h
  ·rename_i e2
   split at h
   ·omega
   ·have:=k3.1 h
    refine .inr ⟨k2.1 e1, .inr ⟨?_,by grind⟩⟩
    unfold Lib.compareInt at e2
    split at e2
    ·omega
    ·split at e2 <;> omega
  ·refine .inr ⟨k2.1 e1, .inl ?_⟩
   unfold Lib.compareInt at h
   split at h
   ·assumption
   ·split at h <;> omega
 ·exact .inl (k1.1 h)
theorem Zeq {u w:UL}(h:¬cmpU u w<0):leS w u:=by
 unfold cmpU at h
 unfold leS
 have k1:= @Zal u.In.From w.In.From
 have k2:= @Zao u.In.From w.In.From
 have k3:= @Zal u.In.To w.In.To
 have k4:= @Zao u.In.To w.In.To
 rw[orL,orL,orL,orL] at h
 split at h
 ·rename_i e1
  split at h
  ·rename_i e2
   refine .inr ⟨(k2.1 e1).symm, .inr ⟨?_, ?_⟩⟩
   ·unfold Lib.compareInt at e2
    split at e2
    ·omega
    ·split at e2 <;> omega
   ·split at h
    ·rename_i e3
     have:=k4.1 e3
     grind
    ·have:¬ri u.In.To<ri w.In.To:=fun k=>h (k3.2 k)
     grind
  ·rename_i e2
   refine .inr ⟨(k2.1 e1).symm, .inl ?_⟩
   unfold Lib.compareInt at h e2
   split at h
   ·omega
   ·split at h
    ·assumption
    ·rename_i g1 g2
     rw[if_neg g1,if_neg g2] at e2
     omega
 ·rename_i e1
  have h1:¬ri u.In.From<ri w.In.From:=fun k=>h (k1.2 k)
  have h2:¬ri u.In.From=ri w.In.From:=fun k=>e1 (k2.2 k)
  exact .inl (by grind)
theorem Zfz (u v w:UL)(h:leS u v)(k:leS v w):leS u w:=by
 unfold leS at*
 rcases h with h|⟨h1,h⟩ <;> rcases k with k|⟨k1,k⟩
 ·exact .inl (by grind)
 ·exact .inl (by grind)
 ·exact .inl (by grind)
 ·refine .inr ⟨by grind, ?_⟩
  rcases h with h|⟨h2,h⟩ <;> rcases k with k|⟨k2,k⟩
  ·exact .inl (by omega)
  ·exact .inl (by omega)
  ·exact .inl (by omega)
  ·exact .inr ⟨by omega,by grind⟩
abbrev OdU (xs:List UL)(a b:Nat):Prop:=Od leS xs a b
theorem Sg.ok {xs ys:List UL}{a b:Nat}(h:Sg xs ys a b)(k:∀u∈xs,IvOk BQ u.In):∀u∈ys,IvOk BQ u.In:=fun u hu=>k u (h.perm.mem_iff.1 hu)
theorem Zcp {xs:List UL}(k:∀u∈xs,IvOk BQ u.In){p:Nat}(h:p<xs.length):IvOk BQ (gi xs (p:Int)).In:=k _ (by rw[Zw h];exact List.getElem_mem _)
theorem ZoV (w0 w:World)(L1:List Blk)(b c n:Nat)(xs:List UL)(sp:List Value)(T:TypeId)(A B K:Nat)(hn:xs.length=n)(hl:n<=1048576)(h1:A+K<=B)(h2:B+K<=n)(hw:Own w0 (⟨b,row rU xs sp,T⟩::L1) w):
  Calls prog 253 [.slice (some ⟨b,0,none⟩) n c, .int .i64 (A:Nat), .int .i64 (B:Nat), .int .i64 (K:Nat),vFn 162].toArray w (RetX w0 Unit (fun _=> .tuple #[]) (fun _=>⟨b,row rU (swR xs A B K) sp,T⟩::L1)):=by
 refine Zaj Tryz.func253 rfl Tryz.ntmps253 rfl hw ?_
 repeat(refine wkB ?_;intros)
 refine Zq (S:=Nat) (fun k=>k<=K) (fun k=>[(0, .slice (some ⟨b,0,none⟩) n c),(1, .int .i64 (A:Nat)),(2, .int .i64 (B:Nat)),(3, .int .i64 (K:Nat)),(10, .int .i64 (k:Nat))]) (fun k=>⟨b,row rU (swR xs A B k) sp,T⟩::L1) (fun k=>K-k) 0 (Wm _) sbB slB (fun k hk=>?_)
 have hsl:=Zei xs A B k
 repeat(refine wkB ?_;intros)
 refine Zk rfl (fun h=>?_) (fun h=>?_)
 ·have hlt:k<K:=by have:=Wa h;omega
  have e1:(A:Int)+(k:Int)=((A+k:Nat):Int):=by omega
  have e2:(B:Int)+(k:Int)=((B+k:Nat):Int):=by omega
  have hnx:(((swR xs A B k).set (A+k) (gi (swR xs A B k) ((B+k:Nat):Int))).set (B+k) (gi (swR xs A B k) ((A+k:Nat):Int)))=swR xs A B (k+1):=rfl
  generalize swR xs A B k=ys at*
  repeat(refine wkB ?_;intros)
  (refine Zfh [(true,[0,1,2,3,4,5,6,7,8,9,10,11,12]),(false,[13]),(true,[14,15,16,17,18]),(false,[19]),(true,[20])] [21,22,23] (h:=?_);refine wkS ?_)
  (repeat(refine wkH ?_))
  simp only[e1,e2]
  refine Zo ?_
  refine eR rfl ?_ ?_
  ·omega
  refine uS rfl rfl ?_ ?_
  ·omega
  refine eR rfl ?_ ?_
  ·rw[List.length_set];omega
  refine Za0 ?_
  simp only[Int.toNat_natCast]
  rw[hnx]
  repeat(first|(refine wkB ?_;intros)|(refine wnM ?_ ?_;(focus(exact⟨by omega,by omega⟩));intros))
  exact Zg (k+1) hlt sbB slB (by omega)
 ·have hge:k=K:=by have:=Wb h;omega
  subst hge
  repeat(refine wkB ?_;intros)
  exact Zay rfl (fun w hw=>⟨(),rfl,hw⟩)
instance ZBS (w0:World)(L L1:List Blk)(b c n:Nat)(xs:List UL)(sp:List Value)(T:TypeId)(i j k:Int)[h:DelC b L (row rU xs sp) T L1]:SpecX prog w0 L 253 [.slice (some ⟨b,0,none⟩) n c, .int .i64 i, .int .i64 j, .int .i64 k,vFn 162] Unit (fun _=> .tuple #[]) (fun _=>⟨b,row rU (swR xs i.toNat j.toNat k.toNat) sp,T⟩::L1) ((xs.length=n/\n<=1048576)/\(0<=i/\0<=k)/\i+k<=j/\j+k<=n):=⟨fun hp w hw=>by
 obtain⟨h1,h2,h3,h4⟩:=hp
 have:=ZoV w0 w L1 b c n xs sp T i.toNat j.toNat k.toNat h1.1 h1.2 (by omega) (by omega) (hw.perm h.out)
 rwa [show((i.toNat:Nat):Int)=i by omega,show((j.toNat:Nat):Int)=j by omega,show((k.toNat:Nat):Int)=k by omega] at this⟩
theorem Zo4 (w0 w:World)(L1:List Blk)(b c n:Nat)(xs:List UL)(sp:List Value)(T:TypeId)(A M B:Nat)(hn:xs.length=n)(hl:n<=1048576)(h1:A<M)(h2:M<B)(h3:B<=n)(hw:Own w0 (⟨b,row rU xs sp,T⟩::L1) w):
  Calls prog 240 [.slice (some ⟨b,0,none⟩) n c, .int .i64 (A:Nat), .int .i64 (M:Nat), .int .i64 (B:Nat),vFn 162].toArray w (RetX w0 {ys:List UL // RtO xs A M B ys} (fun _=> .tuple #[]) (fun ys=>⟨b,row rU ys.1 sp,T⟩::L1)):=by
 refine Zaj Tryz.func240 rfl Tryz.ntmps240 rfl hw ?_
 repeat(refine wkB ?_;intros)
 refine Zq (S:=Nat×Nat×List UL) (fun s=>RtS xs A M B s.2.2 s.1 s.2.1) (fun s=>[(0, .slice (some ⟨b,0,none⟩) n c),(2, .int .i64 (M:Nat)),(4,vFn 162),(10, .int .i64 (s.1:Nat)),(11, .int .i64 (s.2.1:Nat))]) (fun s=>⟨b,row rU s.2.2 sp,T⟩::L1) (fun s=>s.1+s.2.1) (M-A,B-M,xs) (RtS.start h1 h2) (by dsimp only;exact sbB) slB (fun s hs=>?_)
 obtain⟨i,j,ys⟩:=s
 dsimp only at hs⊢
 have hyl:=hs.sg.len
 have g1:=hs.i0
 have g2:=hs.j0
 have g3:=hs.ia
 have g4:=hs.jb
 repeat(refine wkB ?_;intros)
 by_cases hij:i=j
 ·subst hij
  simp only[Wc (show(i:Int)=(i:Int) from rfl),Bool.not_true]
  repeat(refine wkB ?_;intros)
  refine sZ rfl rfl ?_ ?_
  ·exact⟨⟨by omega,hl⟩,⟨by omega,by omega⟩,by omega,by omega⟩
  intro _
  rw[show((M:Int)-(i:Int)).toNat=M-i by omega]
  simp only[Int.toNat_natCast]
  repeat(refine wkB ?_;intros)
  exact Zay rfl (fun w hw=>⟨⟨_,hs.fin (by omega)⟩,rfl,hw⟩)
 ·simp only[We (show¬(i:Int)=(j:Int) by omega),Bool.not_false]
  repeat(refine wkB ?_;intros)
  refine Zk rfl (fun h=>?_) (fun h=>?_)
  ·have hgt:j<i:=by have:=Wa h;omega
   repeat(refine wkB ?_;intros)
   refine sZ rfl rfl ?_ ?_
   ·exact⟨⟨by omega,hl⟩,⟨by omega,by omega⟩,by omega,by omega⟩
   intro _
   rw[show((M:Int)-(i:Int)).toNat=M-i by omega]
   simp only[Int.toNat_natCast]
   repeat(first|(refine wkB ?_;intros)|(refine wnM ?_ ?_;(focus(exact⟨by omega,by omega⟩));intros))
   exact Zg (i-j,j,_) (hs.gt (by omega) hgt) (by dsimp only;exact sbB) slB (by show i-j+j<i+j;omega)
  ·have hlt:i<j:=by have:=Wb h;omega
   repeat(refine wkB ?_;intros)
   refine sZ rfl rfl ?_ ?_
   ·exact⟨⟨by omega,hl⟩,⟨by omega,by omega⟩,by omega,by omega⟩
   intro _
   rw[show((M:Int)-(i:Int)).toNat=M-i by omega,show((M:Int)+(j:Int)-(i:Int)).toNat=M+j-i by omega]
   simp only[Int.toNat_natCast]
   repeat(first|(refine wkB ?_;intros)|(refine wnM ?_ ?_;(focus(exact⟨by omega,by omega⟩));intros))
   exact Zg (i,j-i,_) (hs.lt (by omega) hlt) (by dsimp only;exact sbB) slB (by show i+(j-i)<i+j;omega)
instance ZA1 (w0:World)(L L1:List Blk)(b c n:Nat)(xs:List UL)(sp:List Value)(T:TypeId)(i j k:Int)[h:DelC b L (row rU xs sp) T L1]:SpecX prog w0 L 240 [.slice (some ⟨b,0,none⟩) n c, .int .i64 i, .int .i64 j, .int .i64 k,vFn 162] {ys:List UL // RtO xs i.toNat j.toNat k.toNat ys} (fun _=> .tuple #[]) (fun ys=>⟨b,row rU ys.1 sp,T⟩::L1) ((xs.length=n/\n<=1048576)/\0<=i/\i<j/\j<k/\k<=n):=⟨fun hp w hw=>by
 obtain⟨h1,h2,h3,h4,h5⟩:=hp
 have:=Zo4 w0 w L1 b c n xs sp T i.toNat j.toNat k.toNat h1.1 h1.2 (by omega) (by omega) (by omega) (hw.perm h.out)
 rwa [show((i.toNat:Nat):Int)=i by omega,show((j.toNat:Nat):Int)=j by omega,show((k.toNat:Nat):Int)=k by omega] at this⟩
end Go.Vt
