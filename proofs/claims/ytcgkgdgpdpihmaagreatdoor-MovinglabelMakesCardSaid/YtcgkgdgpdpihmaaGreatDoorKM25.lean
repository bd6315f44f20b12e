/- For any moving Boolean, any period and any two labels, Constant and FromBool have their labels, and Is gives the moving Boolean back, if both labels differ. Conditions: none. (part 25 of 28.) Conditions: those that each statement names. -/
import Derived.Test.YtcgkgdgpdpihmaaGreatDoorProg
import Derived.Test.YtcgkgdgpdpihmaaGreatDoorKM19
import Derived.Test.YtcgkgdgpdpihmaaGreatDoorKM20
import Derived.Test.YtcgkgdgpdpihmaaGreatDoorKM21
import Derived.Test.YtcgkgdgpdpihmaaGreatDoorKM22
import Derived.Test.YtcgkgdgpdpihmaaGreatDoorKM23
import Derived.Test.YtcgkgdgpdpihmaaGreatDoorKM24
set_option linter.unusedSimpArgs false
set_option linter.unusedVariables false
set_option maxHeartbeats 2000000
set_option maxRecDepth 100000
namespace Go.Vt
open Go.RowKit Go.Proofs
open Go.Proofs.Tryz (prog)
section
theorem Zii (B:ZR)(d t:List WS)(w:World)(h1:ArgS w (.slice B.Domain.a B.Domain.len B.Domain.cap) rWS d)(h2:ArgS w (.slice B.True.a B.True.len B.True.cap) rWS t)(hd:d.length<=9223372036854775807/\∀x∈d,WSOk x)(ht:t.length<=9223372036854775807/\∀x∈t,WSOk x):
  Calls prog 37 [.agg (ZI B)].toArray w (RetM (SlS rI 20 (nrmS (perL d))×SlS rI 20 (mkT (perL d) (perL t))) (fun q=> .agg (ZJ ⟨slOf q.1,slOf q.2⟩)) (fun q=>mS 37 q.2++mS 37 q.1) w):=by
 have:=ArgC.mk h1
 have:=ArgC.mk h2
 have n1:=ZhX d
 have n2:=ZhX t
 have p1:((perL d).length<=1024/\∀i∈perL d,IvOk B28 i)/\((perL t).length<=1024/\∀i∈perL t,IvOk B28 i):=⟨⟨by omega,fun i hi=>(ZfG hd.2 i hi).mono (by decide)⟩,⟨by omega,fun i hi=>(ZfG ht.2 i hi).mono (by decide)⟩⟩
 refine Zb Tryz.func37 rfl Tryz.ntmps37 rfl ?_
 repeat(refine wkB ?_;intros)
 rename_i b1 b2
 (refine ZF (.v [0,1,3,4] (.e1 2 (.e1 5 (.e1 6 (.e1 7 (.fin)))))) ([⟨b1,ZI B,77⟩]) (h:=?_);refine wkX ?_)
 repeat' (first|(with_reducible refine And.intro ?_ ?_)|(with_reducible exact True.intro)|(refine wkT ?_;intros)|(refine tC rfl rfl ?_ ?_;focus(first|exact hd|exact ht|exact p1))|(refine uC rfl rfl ?_ ?_;focus(first|exact hd|exact ht|exact p1))|(refine eN rfl rfl ?_ ?_;(focus(first|exact hd|exact ht|exact p1));intro _;(try simp only[Wf,Wg,Wh]))|fail)
 all_goals rename_i s
 all_goals simp only[List.append_assoc]
 repeat' (first|(with_reducible refine And.intro ?_ ?_)|(with_reducible exact True.intro)|(refine wkT ?_;intros)|(refine tC rfl rfl ?_ ?_;focus(first|exact hd|exact ht|exact p1))|(refine uC rfl rfl ?_ ?_;focus(first|exact hd|exact ht|exact p1))|(refine eN rfl rfl ?_ ?_;(focus(first|exact hd|exact ht|exact p1));intro _;(try simp only[Wf,Wg,Wh]))|fail)
 all_goals(
  repeat(refine wkB ?_;intros)
  exact Zbv rfl rfl (fun w hw=>⟨s,rfl,hw.sub (by dsimp only;exact suB)⟩))
instance Zu0 (w0:World)(L:List Blk)(B:ZR)(d t:List WS)[h1:LstC w0 L (.slice B.Domain.a B.Domain.len B.Domain.cap) WS rWS d][h2:LstC w0 L (.slice B.True.a B.True.len B.True.cap) WS rWS t]:SpecR prog w0 L 37 [.agg (ZI B)] (SlS rI 20 (nrmS (perL d))×SlS rI 20 (mkT (perL d) (perL t))) (fun q=> .agg (ZJ ⟨slOf q.1,slOf q.2⟩)) (fun q=>mS 37 q.2++mS 37 q.1) ((d.length<=9223372036854775807/\∀x∈d,WSOk x)/\(t.length<=9223372036854775807/\∀x∈t,WSOk x)):=⟨fun hp w hw=>Zii B d t w (h1.out w hw) (h2.out w hw) hp.1 hp.2⟩
noncomputable def frL (d t:List Za)(no yes:Int):List PU:=mpN (cnU yes) t t.length++mpN (cnU no) (swpR kpM d t) (swpR kpM d t).length
structure FrP (d t:List Za)(no yes:Int):Prop where
 s:SwOk d t
 n:t.length<=1024/\(swpR kpM d t).length<=1024
 u:NrP (mpN toU (frL d t no yes) (frL d t no yes).length)/\∀u∈mpN toU (frL d t no yes) (frL d t no yes).length,UIn u
theorem Zop (B:Zbl)(no yes:Int)(d t:List Za)(w:World)(h1:ArgS w (.slice B.Domain.a B.Domain.len B.Domain.cap) rI d)(h2:ArgS w (.slice B.True.a B.True.len B.True.cap) rI t)(hp:FrP d t no yes):
  Calls prog 40 [.agg (ZJ B), .int .i64 no, .int .i64 yes].toArray w (RetM (SlS rP 21 (mNorm (frL d t no yes))) (fun s=>vSl s) (fun s=>mS 46 s) w):=by
 have:=ArgC.mk h1
 have:=ArgC.mk h2
 obtain⟨hs,hn,hu⟩:=hp
 have m1:=Z4 (cnU yes) t t.length
 have m2:=Z4 (cnU no) (swpR kpM d t) (swpR kpM d t).length
 have n1:t.length<=1048576:=by omega
 have n2:(swpR kpM d t).length<=1048576:=by omega
 have n3:(mpN (cnU yes) t t.length).length+(mpN (cnU no) (swpR kpM d t) (swpR kpM d t).length).length<=65536:=by omega
 unfold frL at*
 refine Zb Tryz.func40 rfl Tryz.ntmps40 rfl ?_
 repeat(refine wkB ?_;intros)
 rename_i b3
 refine ZX (S:=SlS rP 21 (mNorm (mpN (cnU yes) t t.length++mpN (cnU no) (swpR kpM d t) (swpR kpM d t).length))) (fun _=>True) (fun s=>[(7,vSl s)]) (fun s=>mS 46 s) ?_ (fun s _=>?_)
 ·(refine ZF (.v [0,1,2,4,5,6,7,8] (.e1 3 (.e1 9 (.e1 10 (.e1 11 (.e1 12 (.e1 13 (.v [14,15,16] (.e1 17 (.e1 18 (.fin))))))))))) ([⟨b3,ZJ B,80⟩]) (h:=?_);refine wkX ?_)
  repeat' (first|(with_reducible refine And.intro ?_ ?_)|(with_reducible exact True.intro)|(refine wkT ?_;intros)|(refine tC rfl rfl ?_ ?_;focus(first|exact n1|exact n2|exact hs))|(refine uC rfl rfl ?_ ?_;focus(first|exact n1|exact n2|exact hs))|(refine eN rfl rfl ?_ ?_;(focus(first|exact n1|exact n2|exact hs));intro _;(try simp only[Wf,Wg,Wh]))|fail)
  all_goals simp only[ZdS]
  repeat' (first|(with_reducible refine And.intro ?_ ?_)|(with_reducible exact True.intro)|(refine wkT ?_;intros)|(refine tC rfl rfl ?_ ?_;focus(first|exact n1|exact n2|exact hs))|(refine uC rfl rfl ?_ ?_;focus(first|exact n1|exact n2|exact hs))|(refine eN rfl rfl ?_ ?_;(focus(first|exact n1|exact n2|exact hs));intro _;(try simp only[Wf,Wg,Wh]))|fail)
  all_goals(rename_i s;simp only[ZdS];exact Zh s trivial sbB suB)
 repeat(refine wkB ?_;intros)
 exact Zs rfl rfl (fun w hw=>⟨s,rfl,hw.sub suB⟩)
instance ZBe (w0:World)(L:List Blk)(B:Zbl)(no yes:Int)(d t:List Za)[h1:LstC w0 L (.slice B.Domain.a B.Domain.len B.Domain.cap) Za rI d][h2:LstC w0 L (.slice B.True.a B.True.len B.True.cap) Za rI t]:SpecR prog w0 L 40 [.agg (ZJ B), .int .i64 no, .int .i64 yes] (SlS rP 21 (mNorm (frL d t no yes))) (fun s=>vSl s) (fun s=>mS 46 s) (FrP d t no yes):=⟨fun hp w hw=>Zop B no yes d t w (h1.out w hw) (h2.out w hw) hp⟩
end
section
theorem Zj2 {l:List Za}(h:Sep l)(x:Int):NF ((l.map (cnU x)).map absQ):=by
 refine⟨fun u hu=>?_,fun u hu _=>rfl, ?_⟩
 ·obtain⟨w,hw,rfl⟩:=List.mem_map.1 hu
  obtain⟨i,hi,rfl⟩:=List.mem_map.1 hw
  exact ZaB.2 (h.v i hi)
 ·rw[List.pairwise_map,List.pairwise_map]
  refine List.Pairwise.imp_of_mem (fun {i j} hi hj hb=>?_) h.p
  have hv:=ZaB.2 (h.v i hi)
  unfold okI at hv
  unfold bLt bdL bdF at hb
  rcases hb with hb|⟨e,h1,h2⟩
  ·have hb:ri i.To<ri j.From:=hb
   exact⟨.inl hb,fun e=>absurd (show ri i.To=ri j.From from e) (by grind),fun e=>absurd (show ri i.To=ri j.From from e) (by grind),fun e=>absurd (show ri i.To=ri j.From from e) (by grind)⟩
  ·have e:ri i.To=ri j.From:=e
   have h1:i.OpenTo=true:=by simpa using h1
   have h2:j.OpenFrom=true:=h2
   exact⟨.inr ⟨e, .inl h1⟩,fun _ k=>absurd (show i.OpenTo=false from k) (by simp[h1]),fun _ k=>absurd (show j.OpenFrom=false from k) (by simp[h2]),fun _ k=>absurd (show ri i.From=ri i.To from k) (hv.elim (fun hv=>by grind) (fun hv=>by rw[h1] at hv;cases hv.2.2))⟩
theorem Zhg (x:Int)(l:List Za):mpN (cnU x) l l.length=l.map (cnU x):=Zas _ _
theorem Ztt (x:Int)(l:List Za):inL (l.map (cnU x))=l:=by
 unfold inL
 rw[Zas,List.map_map]
 exact List.map_id _
theorem ZdO {x:Int}{l:List Za}{z:Ri}{y:Int}:Has ((l.map (cnU x)).map absQ) z y↔x=y/\HoldP l z:=by
 constructor
 ·rintro⟨u,hu,h1,h2⟩
  obtain⟨w,hw,rfl⟩:=List.mem_map.1 hu
  obtain⟨i,hi,rfl⟩:=List.mem_map.1 hw
  exact⟨h2,i,hi,h1⟩
 ·rintro⟨rfl,i,hi,h1⟩
  exact⟨absQ (cnU x i),List.mem_map_of_mem (List.mem_map_of_mem hi),h1,rfl⟩
structure BlP (E:List Rl)(d t:List Za):Prop where
 sd:Sep d
 st:Sep t
 kd:∀i∈d,IvOk 3 i
 kt:∀i∈t,IvOk 3 i
 ed:∀i∈d,i.From∈E/\i.To∈E
 et:∀i∈t,i.From∈E/\i.To∈E
 n:E.length<=32
 sub:∀z,HoldP t z->HoldP d z
theorem ZbZ {E:List Rl}{d:List Za}(hs:Sep d)(hk:∀i∈d,IvOk 3 i)(he:∀i∈d,i.From∈E/\i.To∈E)(hn:E.length<=32):d.length<=64:=by
 have:=ZeB hs.bf (fun i hi=>ZaB.2 (hs.v i hi)) (fun i hi=>ZgC (hk i hi)) (fun i hi=>(he i hi).1)
 omega
theorem ZpK {d t:List WS}(hd:∀x∈d,WSOk x)(ht:∀x∈t,WSOk x):BlP (endI (iv6 d)++endI (iv6 t)) (nrmS (perL d)) (mkT (perL d) (perL t)):=by
 have pd:=ZfN hd
 have pt:=ZfN ht
 have ld:=pd.len
 have lt:=pt.len
 obtain⟨n1,n2⟩:=ZdD (a:=perL d) (by omega) (fun i hi=>(pd.k i hi).mono (by decide))
 obtain⟨c1,c2,c3⟩:=cm2 (p:=perL t) (q:=perL d) ⟨by omega,pt.k⟩ ⟨by omega,pd.k⟩
 have e1:∀i∈perL d,i.From∈endI (iv6 d)++endI (iv6 t)/\i.To∈endI (iv6 d)++endI (iv6 t):=fun i hi=>⟨List.mem_append_left _ (pd.e i hi).1,List.mem_append_left _ (pd.e i hi).2⟩
 have e2:∀i∈perL t,i.From∈endI (iv6 d)++endI (iv6 t)/\i.To∈endI (iv6 d)++endI (iv6 t):=fun i hi=>⟨List.mem_append_right _ (pt.e i hi).1,List.mem_append_right _ (pt.e i hi).2⟩
 have m1:=pd.n
 have m2:=pt.n
 refine⟨n1,c1,Zeq pd.k,c3,Zh5 (Pr:=(· ∈endI (iv6 d)++endI (iv6 t))) e1,Zhc (Pr:=(· ∈endI (iv6 d)++endI (iv6 t))) e2 e1,by rw[Wp];omega,fun z h=>?_⟩
 rw[n2]
 exact((c2 z).1 h).2
structure FrL (d t:List Za)(no yes:Int)(f:List PU):Prop where
 p:FrP d t no yes
 nf:NF (f.map absQ)
 has:∀z x,Has (f.map absQ) z x↔(yes=x/\HoldP t z)\/(no=x/\HoldP d z/\¬HoldP t z)
 k:∀u∈f,IvOk 3 u.In
 n:f.length<=64
theorem ZrG {E:List Rl}{d t:List Za}(h:BlP E d t)(no yes:Int):FrL d t no yes (mNorm (frL d t no yes)):=by
 have ld:=ZbZ h.sd h.kd h.ed h.n
 have lt:=ZbZ h.st h.kt h.et h.n
 obtain⟨m1,m2⟩:=ZmY (a:=d) (b:=t) (fun i hi=>ZaB.2 (h.sd.v i hi)) (fun i hi=>ZaB.2 (h.st.v i hi))
 have hkM:∀i∈swpR kpM d t,IvOk 3 i:=ZfQ kpM h.kd h.kt
 have heM:∀i∈swpR kpM d t,i.From∈E/\i.To∈E:=fun i hi=>by
  have:=ZfD (Pb:=fun x=>x.at_∈E) kpM (is:=d) (js:=t) (fun i hi=>h.ed i hi) (fun i hi=>h.et i hi) i hi
  exact⟨this.1,this.2⟩
 have lM:=ZbZ m1 hkM heM h.n
 have hf:frL d t no yes=t.map (cnU yes)++(swpR kpM d t).map (cnU no):=by
  unfold frL
  rw[Zhg,Zhg]
 have hmem:∀{u:PU},u∈frL d t no yes↔(∃i∈t,cnU yes i=u)\/∃i∈swpR kpM d t,cnU no i=u:=by
  intro u
  rw[hf,Wv,List.mem_map,List.mem_map]
 have hkf:∀u∈frL d t no yes,IvOk 3 u.In:=fun u hu=>by
  rcases hmem.1 hu with⟨i,hi,rfl⟩|⟨i,hi,rfl⟩
  ·exact h.kt i hi
  ·exact hkM i hi
 have hef:∀u∈frL d t no yes,u.In.From∈E/\u.In.To∈E:=fun u hu=>by
  rcases hmem.1 hu with⟨i,hi,rfl⟩|⟨i,hi,rfl⟩
  ·exact h.et i hi
  ·exact heM i hi
 have hA:=Zas toU (frL d t no yes)
 have hab:((frL d t no yes).map toU).map absU=(t.map (cnU yes)).map absQ++((swpR kpM d t).map (cnU no)).map absQ:=by
  rw[hf,List.map_map,List.map_append]
  rfl
 have hd:(((frL d t no yes).map toU).map absU).Pairwise Dis:=by
  rw[hab,List.pairwise_append]
  refine⟨(Zj2 h.st yes).pw.imp fun e=>e.bf.Dis,(Zj2 m1 no).pw.imp fun e=>e.bf.Dis,fun u hu w hw z hz=>?_⟩
  have h1:Has ((t.map (cnU yes)).map absQ) z u.f:=⟨u,hu,hz.1,rfl⟩
  have h2:Has (((swpR kpM d t).map (cnU no)).map absQ) z w.f:=⟨w,hw,hz.2,rfl⟩
  exact((m2 z).1 (ZdO.1 h2).2).2 (ZdO.1 h1).2
 have hco:∀u∈(frL d t no yes).map toU,okI u.In:=fun u hu=>by
  obtain⟨w,hw,rfl⟩:=List.mem_map.1 hu
  rcases hmem.1 hw with⟨i,hi,rfl⟩|⟨i,hi,rfl⟩
  ·exact ZaB.2 (h.st.v i hi)
  ·exact ZaB.2 (m1.v i hi)
 have hck:∀u∈(frL d t no yes).map toU,IvOk 3 u.In:=fun u hu=>by
  obtain⟨w,hw,rfl⟩:=List.mem_map.1 hu
  exact hkf w hw
 have hl:(frL d t no yes).length<=128:=by
  rw[hf,Wp,Ws,Ws]
  omega
 obtain⟨r1,r2,r3,r4⟩:=Zoe (fun u hu=>(hck u hu).mono (by decide)) hco hd (by rw[Ws];omega)
 have hq:(mNorm (frL d t no yes)).map absQ=(nrmR ((frL d t no yes).map toU)).map absU:=by
  unfold mNorm
  rw[hA,ZiL]
 have hmn:∀{u:PU},u∈mNorm (frL d t no yes)->toU u∈nrmR ((frL d t no yes).map toU):=by
  intro u hu
  unfold mNorm at hu
  rw[hA,Zas] at hu
  obtain⟨w,hw,rfl⟩:=List.mem_map.1 hu
  exact hw
 have hP:∀Pr:Rl->Prop,(∀u∈frL d t no yes,Pr u.In.From/\Pr u.In.To)->∀u∈mNorm (frL d t no yes),Pr u.In.From/\Pr u.In.To:=fun Pr p1 u hu=>Zrk (Pr:=Pr) (fun x hx=>by obtain⟨w,hw,rfl⟩:=List.mem_map.1 hx;exact p1 w hw) _ (hmn hu)
 have hk3:∀u∈mNorm (frL d t no yes),IvOk 3 u.In:=fun u hu=>by
  have:=hP (RlB 3) (fun u hu=>⟨(hkf u hu).a,(hkf u hu).b⟩) u hu
  exact⟨this.1,this.2⟩
 have hnf:NF ((mNorm (frL d t no yes)).map absQ):=by rw[hq];exact r3
 have hn:=Zni hnf (fun u hu=>(hk3 u hu).cn) (E:=E) fun u hu=>(hP (· ∈E) hef u hu).1
 refine⟨⟨SwOk.of (K:=3) (by decide) (by omega) h.kd h.kt,⟨by omega,by omega⟩,by rw[hA];exact⟨r1,r2⟩⟩,hnf,fun z x=>?_,hk3,by have:=h.n;omega⟩
 rw[hq,r4,hab]
 have hap:Has ((t.map (cnU yes)).map absQ++((swpR kpM d t).map (cnU no)).map absQ) z x↔Has ((t.map (cnU yes)).map absQ) z x\/Has (((swpR kpM d t).map (cnU no)).map absQ) z x:=by
  constructor
  ·rintro⟨u,hu,h1,h2⟩
   rcases List.mem_append.1 hu with h3|h3
   ·exact .inl ⟨u,h3,h1,h2⟩
   ·exact .inr ⟨u,h3,h1,h2⟩
  ·rintro(⟨u,hu,h1,h2⟩|⟨u,hu,h1,h2⟩)
   ·exact⟨u,List.mem_append_left _ hu,h1,h2⟩
   ·exact⟨u,List.mem_append_right _ hu,h1,h2⟩
 rw[hap,ZdO,ZdO,show HoldP (swpR kpM d t) z↔HoldP d z/\¬HoldP t z from m2 z]
theorem Zb0 {l m:List Za}(h:Sep l)(k:Sep m)(hl:∀i∈l,IvOk 3 i)(hm:∀i∈m,IvOk 3 i)(H:∀t,HoldP l t↔HoldP m t):l=m:=ZrB h k hl hm H
structure MkL (P:List Za)(c:List PU)(x:Int):Prop where
 ch:PFineI c
 n:c.length<=64
 k:∀u∈c,IvOk 3 u.In
 whn:nrmS (whL c x c.length)=P
 inn:inL c=P
theorem ZoU {E:List Rl}{P:List Za}(h:PtD E P)(x:Int):MkL P (mpN (cnU x) P P.length) x:=by
 have hl:=h.len
 rw[Zhg]
 have hk:∀u∈P.map (cnU x),IvOk 3 u.In:=fun u hu=>by obtain⟨i,hi,rfl⟩:=List.mem_map.1 hu;exact h.k i hi
 have hw:=Zea hk x
 have l1:=ZbO (P.map (cnU x)) x (P.map (cnU x)).length
 rw[Ws] at l1
 obtain⟨n1,n2⟩:=ZdD (a:=whL (P.map (cnU x)) x (P.map (cnU x)).length) (by rw[Ws] at*;omega) (fun i hi=>(hw i hi).mono (by decide))
 refine⟨⟨Zj2 h.s x,fun u hu=>(hk u hu).mono (by decide),by rw[Ws];omega⟩,by rw[Ws];omega,hk,Zb0 n1 h.s (Zeq hw) h.k fun z=>?_,Ztt x P⟩
 rw[n2,<-ZeD,ZdO]
 exact⟨fun h=>h.2,fun h=>⟨rfl,h⟩⟩
structure MbL (d t:List Za)(no yes:Int)(f:List PU):Prop where
 l:FrL d t no yes f
 c:PFineI f
 s1:SwOk (pIv f) []
 s2:SwOk (whL f yes f.length) []
 dom:pDom f=d
 eqT:no=yes->whR f yes=d
 eqW:no=yes->nrmS (whL f no f.length)=d
 neT:no≠yes->whR f yes=t
 neY:no≠yes->nrmS (whL f yes f.length)=t
 neN:no≠yes->nrmS (whL f no f.length)=cmbR 3 d t
theorem Zqa {E:List Rl}{d t:List Za}(h:BlP E d t)(no yes:Int):MbL d t no yes (mNorm (frL d t no yes)):=by
 have hl:=ZrG h no yes
 generalize mNorm (frL d t no yes)=f at*
 have hk:=hl.k
 have hn:=hl.n
 have ld:=ZbZ h.sd h.kd h.ed h.n
 have lt:=ZbZ h.st h.kt h.et h.n
 have hpk:∀i∈pIv f,IvOk 3 i:=fun i hi=>by obtain⟨u,hu,rfl⟩:=Zjg.1 hi;exact hk u hu
 have hpo:∀i∈pIv f,okI i:=fun i hi=>by obtain⟨u,hu,rfl⟩:=Zjg.1 hi;exact hl.nf.ok _ (List.mem_map_of_mem hu)
 have hpl:(pIv f).length=f.length:=by rw[Zhd];unfold inL;exact Z4 _ _ _
 have hwk:∀x,∀i∈whL f x f.length,IvOk 3 i:=fun x=>Zea hk x
 have hwo:∀x,∀i∈whL f x f.length,okI i:=fun x i hi=>by obtain⟨u,hu,_,rfl⟩:=Zd6.1 hi;exact hl.nf.ok _ (List.mem_map_of_mem hu)
 have hwl:∀x,(whL f x f.length).length<=64:=fun x=>by have:=ZbO f x f.length;omega
 have nw:∀x,Sep (nrmS (whL f x f.length))/\(∀z,HoldP (nrmS (whL f x f.length)) z↔Has (f.map absQ) z x)/\∀i∈nrmS (whL f x f.length),IvOk 3 i:=fun x=>by
  have:=hwl x
  obtain⟨n1,n2⟩:=ZdD (a:=whL f x f.length) (by omega) (fun i hi=>(hwk x i hi).mono (by decide))
  exact⟨n1,fun z=>by rw[n2,ZeD],Zeq (hwk x)⟩
 have sw:∀x,Sep (whR f x)/\(∀z,HoldP (whR f x) z↔Has (f.map absQ) z x)/\∀i∈whR f x,IvOk 3 i:=fun x=>by
  obtain⟨n1,n2⟩:=Zg9 (hwo x)
  exact⟨n1,fun z=>by rw[ZeD];exact n2 z,ZfQ kpU (hwk x) (fun i hi=>by cases hi)⟩
 have hdm:∀z,(∃x,Has (f.map absQ) z x)↔HoldP d z:=fun z=>by
  constructor
  ·rintro⟨x,hx⟩
   rcases(hl.has z x).1 hx with⟨_,h1⟩|⟨_,h1,_⟩
   ·exact h.sub z h1
   ·exact h1
  ·intro h1
   rcases Classical.em (HoldP t z) with h2|h2
   ·exact⟨yes,(hl.has z yes).2 (.inl ⟨rfl,h2⟩)⟩
   ·exact⟨no,(hl.has z no).2 (.inr ⟨rfl,h1,h2⟩)⟩
 have heq:no=yes->∀z,Has (f.map absQ) z yes↔HoldP d z:=fun e z=>by
  subst e
  rw[<-hdm]
  refine⟨fun h=>⟨no,h⟩,fun⟨x,hx⟩=>?_⟩
  rcases(hl.has z x).1 hx with⟨e,_⟩|⟨e,_⟩
  ·rw[e];exact hx
  ·rw[e];exact hx
 have hne1:no≠yes->∀z,Has (f.map absQ) z yes↔HoldP t z:=fun e z=>by
  rw[hl.has]
  exact⟨fun h=>h.elim (fun h=>h.2) (fun h=>absurd h.1 e),fun h=> .inl ⟨rfl,h⟩⟩
 have hne2:no≠yes->∀z,Has (f.map absQ) z no↔HoldP d z/\¬HoldP t z:=fun e z=>by
  rw[hl.has]
  exact⟨fun h=>h.elim (fun h=>absurd h.1.symm e) (fun h=>h.2),fun h=> .inr ⟨rfl,h⟩⟩
 obtain⟨u1,u2⟩:=Zg9 hpo
 refine⟨hl,⟨hl.nf,fun u hu=>(hk u hu).mono (by decide),by omega⟩,SwOk.of (K:=3) (by decide) (by rw[hpl];simp only[Wx];omega) hpk (fun i hi=>by cases hi),SwOk.of (K:=3) (by decide) (by have:=hwl yes;simp only[Wx];omega) (hwk yes) (fun i hi=>by cases hi), ?_,fun e=>?_,fun e=>?_,fun e=>?_,fun e=>?_,fun e=>?_⟩
 ·refine Zb0 u1 h.sd (ZfQ kpU hpk (fun i hi=>by cases hi)) h.kd fun z=>?_
  rw[<-hdm,Znl,<-Zhd]
  exact u2 z
 ·exact Zb0 (sw yes).1 h.sd (sw yes).2.2 h.kd fun z=>((sw yes).2.1 z).trans (heq e z)
 ·have e':=heq e
  rw[<-e] at e'
  exact Zb0 (nw no).1 h.sd (nw no).2.2 h.kd fun z=>((nw no).2.1 z).trans (e' z)
 ·exact Zb0 (sw yes).1 h.st (sw yes).2.2 h.kt fun z=>((sw yes).2.1 z).trans (hne1 e z)
 ·exact Zb0 (nw yes).1 h.st (nw yes).2.2 h.kt fun z=>((nw yes).2.1 z).trans (hne1 e z)
 ·obtain⟨c1,c2⟩:=ZeK 3 (a:=d) (b:=t) ⟨by omega,by omega,fun i hi=>(h.kd i hi).mono (by decide),fun i hi=>(h.kt i hi).mono (by decide)⟩
  refine Zb0 (nw no).1 c1 (nw no).2.2 (ZjH h.kd h.kt) fun z=>?_
  rw[(nw no).2.1,c2,hne2 e]
  unfold dcdP
  rw[if_neg (by decide),if_neg (by decide)]
end
section
def flB (a b:PU)(x y:Int):Bool:= !decide (a.In.From=a.In.To)&&(!decide (b.In.From=b.In.To)&&(decide (a.In.To=b.In.From)&&(!(a.In.OpenTo&&b.In.OpenFrom)&&(decide (a.Label=x)&&decide (b.Label=y)))))
theorem Zbe {a b:PU}{x y:Int}:flB a b x y=true↔True/\¬a.In.From=a.In.To/\¬b.In.From=b.In.To/\a.In.To=b.In.From/\¬(a.In.OpenTo=true/\b.In.OpenFrom=true)/\a.Label=x/\b.Label=y:=by
 unfold flB
 simp only[Wq,Bool.not_eq_true',decide_eq_true_eq,decide_eq_false_iff_not,true_and,<-Bool.not_eq_true]
def flL (l:List PU)(x y:Int):Nat->List Rl
 |0=>[]
 |i+1=>if flB (gi l (i:Int)) (gi l ((i+1:Nat):Int)) x y=true then flL l x y i++[(gi l ((i+1:Nat):Int)).In.From] else flL l x y i
theorem ZjY (l:List PU)(x y:Int):∀i,(flL l x y i).length<=i
 |0=>Wl _
 |i+1=>by
  have h1:=ZjY l x y i
  rw[flL]
  split
  ·rw[Wp];simp;exact h1
  ·omega
instance Zz6 (u:PU):SpecC prog 78 [vPU u] (.bool (!decide (u.In.From=u.In.To))) True:=⟨fun _ w=>by
 refine Zb Tryz.func78 rfl Tryz.ntmps78 rfl ?_
 repeat(refine wkB ?_;intros)
 exact rtT rfl rfl⟩
set_option maxHeartbeats 16000000 in
theorem ZgQ (v:Value)(l:List PU)(x y:Int)(w:World)(hv:ArgS w v rP l)(hl:l.length<=1048576):
  Calls prog 26 [v, .int .i64 x, .int .i64 y].toArray w (RetM (SlS Zz 9 (flL l x y (l.length-1))) (fun q=>vSl q) (fun q=>mS 35 q) w):=by
 obtain⟨p,cp,rfl⟩:=hv.form
 refine Zb Tryz.func26 rfl Tryz.ntmps26 rfl ?_
 repeat(refine wkB ?_;intros)
 refine Zab (S:=SlS Zz 9 (flL l x y (l.length-1))) (fun _=>True) (fun q=>[(7,vSl q)]) (fun q=>mS 35 q) ?_ (fun q _=>?_)
 ·refine Zm (S:=(_:Nat)×(o:List Rl)×SlS Zz 9 o) (fun q=>q.1<=l.length-1/\q.2.1=flL l x y q.1) (fun q=>[(0, .slice p l.length cp),(1, .int .i64 x),(2, .int .i64 y),(7,vSl q.2.2),(8, .int .i64 ((q.1+1:Nat):Int))]) (fun q=>mS 35 q.2.2) (fun q=>l.length-q.1) ⟨0,[],SlS.no⟩ ⟨Wm _,rfl⟩ sbB suB (fun q hq=>?_)
  obtain⟨i,out,o⟩:=q
  obtain⟨hq,ho⟩:=hq
  dsimp only at hq ho⊢
  have hln:out.length<=i:=by rw[ho];exact ZjY l x y i
  have hend:i=l.length-1->out=flL l x y (l.length-1):=fun h=>by rw[ho,h]
  have hnxt:(if flB (gi l (i:Int)) (gi l ((i+1:Nat):Int)) x y=true then out++[(gi l ((i+1:Nat):Int)).In.From] else out)=flL l x y (i+1):=by rw[ho];rfl
  clear ho
  have e2:((i+1:Nat):Int)-1=(i:Int):=by omega
  have e3:((i+1:Nat):Int)+1=((i+1+1:Nat):Int):=by omega
  repeat(refine wkB ?_;intros)
  refine Zg rfl (fun h=>?_) (fun h=>?_)
  ·have hlt:i+1<l.length:=by have:=Wa h;omega
   obtain⟨bw,ow,rfl,hrow'⟩:=hv.opn (k:=20) hlt
   repeat(refine wkB ?_;intros)
   (refine ZcB [0,1,2,3,4,5,6,7,8] [9,10] [11,12] (([]:List Blk)) (h:=?_);refine wkI ?_)
   (repeat(refine wkH ?_))
   repeat(refine wkT ?_;intros)
   repeat(refine wkB ?_;intros)
   simp only[e2]
   repeat(refine wkB ?_;intros)
   by_cases c1:(gi l (i:Int)).In.From=(gi l (i:Int)).In.To
   ·simp only[Wc c1,Bool.not_true]
    repeat(refine wkB ?_;intros)
    have hf:flB (gi l (i:Int)) (gi l ((i+1:Nat):Int)) x y=false:=Bool.eq_false_iff.2 fun g=>by
     obtain⟨g0,g1,g2,g3,g4,g5,g6⟩:=Zbe.1 g
     first|exact g0 c0|exact g1 c1|exact g2 c2|exact c3 g3|exact g4 ⟨c4,c4b⟩|exact c5 g5|exact c6 g6
    rw[hf] at hnxt
    simp only[Bool.false_eq_true,if_false] at hnxt
    repeat(first|(refine wkB ?_;intros)|(refine wnM ?_ ?_;(focus(exact⟨by omega,by omega⟩));intros))
    simp only[e3]
    exact Zd ⟨i+1,_,o⟩ ⟨by show i+1<=l.length-1;omega,hnxt⟩ sbB suB (by show l.length-(i+1)<l.length-i;omega)
   ·simp only[We c1,Bool.not_false]
    repeat(refine wkB ?_;intros)
    by_cases c2:(gi l ((i+1:Nat):Int)).In.From=(gi l ((i+1:Nat):Int)).In.To
    ·simp only[Wc c2,Bool.not_true]
     repeat(refine wkB ?_;intros)
     have hf:flB (gi l (i:Int)) (gi l ((i+1:Nat):Int)) x y=false:=Bool.eq_false_iff.2 fun g=>by
      obtain⟨g0,g1,g2,g3,g4,g5,g6⟩:=Zbe.1 g
      first|exact g0 c0|exact g1 c1|exact g2 c2|exact c3 g3|exact g4 ⟨c4,c4b⟩|exact c5 g5|exact c6 g6
     rw[hf] at hnxt
     simp only[Bool.false_eq_true,if_false] at hnxt
     repeat(first|(refine wkB ?_;intros)|(refine wnM ?_ ?_;(focus(exact⟨by omega,by omega⟩));intros))
     simp only[e3]
     exact Zd ⟨i+1,_,o⟩ ⟨by show i+1<=l.length-1;omega,hnxt⟩ sbB suB (by show l.length-(i+1)<l.length-i;omega)
    ·simp only[We c2,Bool.not_false]
     repeat(refine wkB ?_;intros)
     by_cases c3:(gi l (i:Int)).In.To=(gi l ((i+1:Nat):Int)).In.From
     ·simp only[Wc c3]
      repeat(refine wkB ?_;intros)
      cases c4:(gi l (i:Int)).In.OpenTo with
      |false=>
       repeat(refine wkB ?_;intros)
       by_cases c5:(gi l (i:Int)).Label=x
       ·simp only[Wc c5]
        repeat(refine wkB ?_;intros)
        by_cases c6:(gi l ((i+1:Nat):Int)).Label=y
        ·simp only[Wc c6]
         repeat(refine wkB ?_;intros)
         have hf:flB (gi l (i:Int)) (gi l ((i+1:Nat):Int)) x y=true:=Zbe.2 ⟨trivial,c1,c2,c3,(fun g=>by first|exact Bool.noConfusion (g.1.symm.trans c4)|exact Bool.noConfusion (g.2.symm.trans c4b)),c5,c6⟩
         rw[hf] at hnxt
         simp only[if_true] at hnxt
         repeat(refine wkB ?_;intros)
         refine sU (k:=9) (enc:=Zz) (s:=o) rfl rfl ?_ ?_ ?_ ?_
         ·rfl
         ·rfl
         ·exact⟨by decide,by omega,by omega⟩
         intro s'
         repeat(first|(refine wkB ?_;intros)|(refine wnM ?_ ?_;(focus(exact⟨by omega,by omega⟩));intros))
         simp only[e3]
         exact Zd ⟨i+1,_,s'⟩ ⟨by show i+1<=l.length-1;omega,hnxt⟩ sbB suB (by show l.length-(i+1)<l.length-i;omega)
        ·simp only[We c6]
         repeat(refine wkB ?_;intros)
         have hf:flB (gi l (i:Int)) (gi l ((i+1:Nat):Int)) x y=false:=Bool.eq_false_iff.2 fun g=>by
          obtain⟨g0,g1,g2,g3,g4,g5,g6⟩:=Zbe.1 g
          first|exact g0 c0|exact g1 c1|exact g2 c2|exact c3 g3|exact g4 ⟨c4,c4b⟩|exact c5 g5|exact c6 g6
         rw[hf] at hnxt
         simp only[Bool.false_eq_true,if_false] at hnxt
         repeat(first|(refine wkB ?_;intros)|(refine wnM ?_ ?_;(focus(exact⟨by omega,by omega⟩));intros))
         simp only[e3]
         exact Zd ⟨i+1,_,o⟩ ⟨by show i+1<=l.length-1;omega,hnxt⟩ sbB suB (by show l.length-(i+1)<l.length-i;omega)
       ·simp only[We c5]
        repeat(refine wkB ?_;intros)
        have hf:flB (gi l (i:Int)) (gi l ((i+1:Nat):Int)) x y=false:=Bool.eq_false_iff.2 fun g=>by
         obtain⟨g0,g1,g2,g3,g4,g5,g6⟩:=Zbe.1 g
         first|exact g0 c0|exact g1 c1|exact g2 c2|exact c3 g3|exact g4 ⟨c4,c4b⟩|exact c5 g5|exact c6 g6
        rw[hf] at hnxt
        simp only[Bool.false_eq_true,if_false] at hnxt
        repeat(first|(refine wkB ?_;intros)|(refine wnM ?_ ?_;(focus(exact⟨by omega,by omega⟩));intros))
        simp only[e3]
        exact Zd ⟨i+1,_,o⟩ ⟨by show i+1<=l.length-1;omega,hnxt⟩ sbB suB (by show l.length-(i+1)<l.length-i;omega)
      |true=>
       repeat(refine wkB ?_;intros)
       cases c4b:(gi l ((i+1:Nat):Int)).In.OpenFrom with
       |false=>
        repeat(refine wkB ?_;intros)
        by_cases c5:(gi l (i:Int)).Label=x
        ·simp only[Wc c5]
         repeat(refine wkB ?_;intros)
         by_cases c6:(gi l ((i+1:Nat):Int)).Label=y
         ·simp only[Wc c6]
          repeat(refine wkB ?_;intros)
          have hf:flB (gi l (i:Int)) (gi l ((i+1:Nat):Int)) x y=true:=Zbe.2 ⟨trivial,c1,c2,c3,(fun g=>by first|exact Bool.noConfusion (g.1.symm.trans c4)|exact Bool.noConfusion (g.2.symm.trans c4b)),c5,c6⟩
          rw[hf] at hnxt
          simp only[if_true] at hnxt
          repeat(refine wkB ?_;intros)
          refine sU (k:=9) (enc:=Zz) (s:=o) rfl rfl ?_ ?_ ?_ ?_
          ·rfl
          ·rfl
          ·exact⟨by decide,by omega,by omega⟩
          intro s'
          repeat(first|(refine wkB ?_;intros)|(refine wnM ?_ ?_;(focus(exact⟨by omega,by omega⟩));intros))
          simp only[e3]
          exact Zd ⟨i+1,_,s'⟩ ⟨by show i+1<=l.length-1;omega,hnxt⟩ sbB suB (by show l.length-(i+1)<l.length-i;omega)
         ·simp only[We c6]
          repeat(refine wkB ?_;intros)
          have hf:flB (gi l (i:Int)) (gi l ((i+1:Nat):Int)) x y=false:=Bool.eq_false_iff.2 fun g=>by
           obtain⟨g0,g1,g2,g3,g4,g5,g6⟩:=Zbe.1 g
           first|exact g0 c0|exact g1 c1|exact g2 c2|exact c3 g3|exact g4 ⟨c4,c4b⟩|exact c5 g5|exact c6 g6
          rw[hf] at hnxt
          simp only[Bool.false_eq_true,if_false] at hnxt
          repeat(first|(refine wkB ?_;intros)|(refine wnM ?_ ?_;(focus(exact⟨by omega,by omega⟩));intros))
          simp only[e3]
          exact Zd ⟨i+1,_,o⟩ ⟨by show i+1<=l.length-1;omega,hnxt⟩ sbB suB (by show l.length-(i+1)<l.length-i;omega)
        ·simp only[We c5]
         repeat(refine wkB ?_;intros)
         have hf:flB (gi l (i:Int)) (gi l ((i+1:Nat):Int)) x y=false:=Bool.eq_false_iff.2 fun g=>by
          obtain⟨g0,g1,g2,g3,g4,g5,g6⟩:=Zbe.1 g
          first|exact g0 c0|exact g1 c1|exact g2 c2|exact c3 g3|exact g4 ⟨c4,c4b⟩|exact c5 g5|exact c6 g6
         rw[hf] at hnxt
         simp only[Bool.false_eq_true,if_false] at hnxt
         repeat(first|(refine wkB ?_;intros)|(refine wnM ?_ ?_;(focus(exact⟨by omega,by omega⟩));intros))
         simp only[e3]
         exact Zd ⟨i+1,_,o⟩ ⟨by show i+1<=l.length-1;omega,hnxt⟩ sbB suB (by show l.length-(i+1)<l.length-i;omega)
       |true=>
        repeat(refine wkB ?_;intros)
        have hf:flB (gi l (i:Int)) (gi l ((i+1:Nat):Int)) x y=false:=Bool.eq_false_iff.2 fun g=>by
         obtain⟨g0,g1,g2,g3,g4,g5,g6⟩:=Zbe.1 g
         first|exact g0 c0|exact g1 c1|exact g2 c2|exact c3 g3|exact g4 ⟨c4,c4b⟩|exact c5 g5|exact c6 g6
        rw[hf] at hnxt
        simp only[Bool.false_eq_true,if_false] at hnxt
        repeat(first|(refine wkB ?_;intros)|(refine wnM ?_ ?_;(focus(exact⟨by omega,by omega⟩));intros))
        simp only[e3]
        exact Zd ⟨i+1,_,o⟩ ⟨by show i+1<=l.length-1;omega,hnxt⟩ sbB suB (by show l.length-(i+1)<l.length-i;omega)
     ·simp only[We c3]
      repeat(refine wkB ?_;intros)
      have hf:flB (gi l (i:Int)) (gi l ((i+1:Nat):Int)) x y=false:=Bool.eq_false_iff.2 fun g=>by
       obtain⟨g0,g1,g2,g3,g4,g5,g6⟩:=Zbe.1 g
       first|exact g0 c0|exact g1 c1|exact g2 c2|exact c3 g3|exact g4 ⟨c4,c4b⟩|exact c5 g5|exact c6 g6
      rw[hf] at hnxt
      simp only[Bool.false_eq_true,if_false] at hnxt
      repeat(first|(refine wkB ?_;intros)|(refine wnM ?_ ?_;(focus(exact⟨by omega,by omega⟩));intros))
      simp only[e3]
      exact Zd ⟨i+1,_,o⟩ ⟨by show i+1<=l.length-1;omega,hnxt⟩ sbB suB (by show l.length-(i+1)<l.length-i;omega)
  ·have hge:i=l.length-1:=by have:=Wb h;omega
   obtain⟨s',f1,f2⟩:=SlS.turn 35 (hend hge) o
   repeat(refine wkB ?_;intros)
   exact Zh s' trivial (by rw[f1];exact sbB) (by rw[f2];exact suB)
 ·repeat(refine wkB ?_;intros)
  exact Zs rfl rfl (fun w hw=>⟨q,rfl,hw.sub suB⟩)
instance Zum (w0:World)(L:List Blk)(v:Value)(l:List PU)(x y:Int)[h:LstC w0 L v PU rP l]:SpecR prog w0 L 26 [v, .int .i64 x, .int .i64 y] (SlS Zz 9 (flL l x y (l.length-1))) (fun q=>vSl q) (fun q=>mS 35 q) (l.length<=1048576):=⟨fun hp w hw=>ZgQ v l x y w (h.out w hw) hp⟩
end
section
def wl (n:Int):Rl:=rl (n:Rat)
theorem ZtQ {a b:Int}:ri (wl a)<ri (wl b)↔a<b:=by
 unfold wl
 rw[Ztz]
 exact Rat.intCast_lt_intCast
theorem ZcH {n:Int}(h:M (n:Rat)<=1):RlB KR (wl n):=(ZmA h (Wl _)).mono (by decide)
def kI0 :Za:=⟨wl 0,wl 4,false,true⟩
def kI1 :Za:=⟨wl 4,wl 6,false,false⟩
def kI2 :Za:=⟨wl 6,wl 9,true,false⟩
def exU :List PU:=[⟨kI0,1⟩,⟨kI1,2⟩,⟨kI2,1⟩]
def exT :List UL:=[⟨kI0,1⟩,⟨kI1,2⟩,⟨kI2,1⟩]
theorem ZqX :mpN toU exU exU.length=exT:=rfl
theorem Zc1 :IvOk KR kI0/\IvOk KR kI1/\IvOk KR kI2:=⟨⟨ZcH (by decide),ZcH (by decide)⟩,⟨ZcH (by decide),ZcH (by decide)⟩,⟨ZcH (by decide),ZcH (by decide)⟩⟩
theorem kx :ri (wl 0)<ri (wl 2)/\ri (wl 2)<ri (wl 3)/\ri (wl 3)<ri (wl 4)/\ri (wl 4)<ri (wl 6)/\ri (wl 6)<ri (wl 9):=by
 simp only[ZtQ]
 decide
theorem Zrw :Cut exT (wl 4) 0:=by
 obtain⟨h1,h2,h3,h4,h5⟩:=kx
 refine⟨Wm _,fun j hj=>by omega,fun j _ hj=>?_⟩
 have hj':j<3:=hj
 rcases(by omega:j=0\/j=1\/j=2) with rfl|rfl|rfl
 ·show ri (wl 4)<=ri (wl 4);grind
 ·show ri (wl 4)<=ri (wl 6);grind
 ·show ri (wl 4)<=ri (wl 9);grind
theorem Zt7 :AtR exT (ri (wl 4)) (some 2):=by
 obtain⟨h1,h2,h3,h4,h5⟩:=kx
 refine⟨.inl ⟨1,by decide, ?_,fun j hj=>?_,fun j hj=>?_,rfl⟩⟩
 ·show(ri (wl 4)<ri (wl 4)\/(ri (wl 4)=ri (wl 4)/\false=false))/\(ri (wl 4)<ri (wl 6)\/_)
  exact⟨.inr ⟨rfl,rfl⟩, .inl h4⟩
 ·obtain rfl:j=0:=by omega
  rintro⟨-,h|h⟩
  ·exact absurd (show ri (wl 4)<ri (wl 4) from h) (by grind)
  ·cases (show true=false from h.2)
 ·rcases(by omega:j=0\/j=1) with rfl|rfl
  ·show ri (wl 0)<=ri (wl 4);grind
  ·show ri (wl 4)<=ri (wl 4);grind
theorem Ztf :flL exU 1 2 2=[wl 4]:=by decide
theorem Zuv :cmI' (lbL exU)=[1,2,1]:=by decide
theorem Zpv :whL exU 1 exU.length=[kI0,kI2]:=by decide
theorem Zjf {i:Za}(h:IvOk KR i):BdOk (bdF i)/\BdOk (bdL i):=⟨⟨h.a⟩,⟨h.b⟩⟩
theorem ZtI :SwOk [kI0,kI2] []:=⟨by decide,fun i hi=>by
 simp only[Ww,List.not_mem_nil,or_false] at hi
 rcases hi with rfl|rfl
 ·exact Zjf Zc1.1
 ·exact Zjf Zc1.2.2,fun i hi=>by cases hi⟩
theorem Zk6 :Sep [kI0,kI2]:=by
 obtain⟨h1,h2,h3,h4,h5⟩:=kx
 refine⟨List.pairwise_cons.2 ⟨fun j hj=>?_,List.pairwise_singleton _ _⟩,fun i hi=>?_⟩
 ·rw[Wo] at hj
  rw[hj]
  exact .inl h4
 ·simp only[Ww,List.not_mem_nil,or_false] at hi
  rcases hi with rfl|rfl
  ·exact .inl (show ri (wl 0)<ri (wl 4) by grind)
  ·exact .inl h5
theorem ivEq {i j:Za}(hi:IvOk KR i)(hj:IvOk KR j)(h:absI i=absI j):i=j:=by
 obtain⟨a,b,c,d⟩:=i
 obtain⟨a',b',c',d'⟩:=j
 injection h with e1 e2 e3 e4
 have e1':=(ZbX hi.a.o hj.a.o).1 e1
 have e2':=(ZbX hi.b.o hj.b.o).1 e2
 simp only at e1' e2' e3 e4
 rw[e1',e2',e3,e4]
theorem sepEq {l m:List Za}(hl:Sep l)(hm:Sep m)(kl:∀i∈l,IvOk KR i)(km:∀i∈m,IvOk KR i)(H:∀t,HoldP l t↔HoldP m t):l=m:=by
 have h:=hl.uniq hm H
 have hlen:l.length=m.length:=by
  have:=congrArg List.length h
  simpa using this
 refine List.ext_getElem hlen fun j h1 h2=>ivEq (kl _ (List.getElem_mem h1)) (km _ (List.getElem_mem h2)) ?_
 have:=congrArg (fun z:List (GU Ri Unit)=>z[j]?) h
 simpa [List.getElem?_eq_getElem h1,List.getElem?_eq_getElem h2] using this
theorem Zp3 :swpR kpU [kI0,kI2] []=[kI0,kI2]:=by
 have hle:∀i∈[kI0,kI2],bLe (bdF i) (bdL i):=fun i hi=>(Zk6.v i hi).le
 obtain⟨h1,h2,h3⟩:=ZeC (kp:=kpU) rfl hle (fun i (hi:i∈[])=>by cases hi)
 have hk:∀i∈[kI0,kI2],IvOk KR i:=fun i hi=>by
  simp only[Ww,List.not_mem_nil,or_false] at hi
  rcases hi with rfl|rfl
  ·exact Zc1.1
  ·exact Zc1.2.2
 have hb:=ZfD (Pb:=fun b=>RlB KR b.at_) kpU (is:=[kI0,kI2]) (js:=[]) (fun i hi=>⟨(hk i hi).a,(hk i hi).b⟩) (fun i hi=>by cases hi)
 refine sepEq ⟨h2,h3⟩ Zk6 (fun i hi=>⟨(hb i hi).1,(hb i hi).2⟩) hk (fun t=>?_)
 unfold HoldP
 rw[h1 t]
 simp[kpU]
def nmU :List PU:=[⟨⟨wl 2,wl 3,true,true⟩,5⟩,⟨⟨wl 0,wl 2,false,false⟩,5⟩]
def nmT :List UL:=[⟨⟨wl 2,wl 3,true,true⟩,5⟩,⟨⟨wl 0,wl 2,false,false⟩,5⟩]
theorem Zpl :∀u∈nmT,UIn u:=fun u hu=>by
 simp only[nmT,Ww,List.not_mem_nil,or_false] at hu
 rcases hu with rfl|rfl
 ·exact⟨⟨ZcH (by decide),ZcH (by decide)⟩⟩
 ·exact⟨⟨ZcH (by decide),ZcH (by decide)⟩⟩
theorem Zmh :UVal nmT:=⟨Zpl,fun u hu=>by
 obtain⟨h1,h2,h3,h4,h5⟩:=kx
 simp only[nmT,Ww,List.not_mem_nil,or_false] at hu
 rcases hu with rfl|rfl
 ·exact .inl h2
 ·exact .inl h1⟩
theorem Zmd :(nmT.map absU).Pairwise Dis:=by
 refine List.pairwise_cons.2 ⟨fun j hj=>?_,List.pairwise_singleton _ _⟩
 rw[List.map_cons,List.map_nil,Wo] at hj
 subst hj
 rintro t ⟨⟨h1, -⟩, -,h2⟩
 have h1':ri (wl 2)<t:=h1.elim id (fun h=>by cases (show true=false from h.2))
 have h2':t<ri (wl 2)\/t=ri (wl 2):=h2.imp id (·.1)
 grind
theorem Zr6 :(nrmR nmT).map absU=[⟨ri (wl 0),ri (wl 3),false,true,5⟩]:=by
 obtain⟨h1,h2,h3,h4,h5⟩:=kx
 obtain⟨k1,k2⟩:=Ze6 Zmh Zmd
 refine k1.uniq (NF.one (.inl (show ri (wl 0)<ri (wl 3) by grind)) (fun h=>absurd (show ri (wl 0)=ri (wl 3) from h) (by grind))) (fun t v=>?_)
 rw[k2 t v]
 show Has [absU _,absU _] t v↔_
 rw[Zag,Zds,Zds]
 show((((ri (wl 2)<t\/(ri (wl 2)=t/\true=false))/\(t<ri (wl 3)\/(t=ri (wl 3)/\true=false)))/\(5:Int)=v)\/(((ri (wl 0)<t\/(ri (wl 0)=t/\false=false))/\(t<ri (wl 2)\/(t=ri (wl 2)/\false=false)))/\(5:Int)=v))↔((ri (wl 0)<t\/(ri (wl 0)=t/\false=false))/\(t<ri (wl 3)\/(t=ri (wl 3)/\true=false)))/\(5:Int)=v
 grind
theorem Zsc :nrmE nmT=0:=(Zh6 Zmh).2 Zmd
theorem ZqV :∃u:PU,mNorm nmU=[u]/\u.In.OpenTo=true:=by
 have h:=Zr6
 have hn:mNorm nmU=mpN ofU (nrmR nmT) (nrmR nmT).length:=rfl
 rw[hn]
 generalize nrmR nmT=l at h
 have hlen:l.length=1:=by
  have:=congrArg List.length h
  simpa using this
 obtain⟨u,rfl⟩:=List.length_eq_one_iff.1 hlen
 have h1:absU u=_:=(List.cons.inj h).1
 exact⟨ofU u,rfl,congrArg GU.ob h1⟩
theorem Zpz :PFine exU:=by
 obtain⟨h1,h2,h3,h4,h5⟩:=kx
 have a4:ri (wl 0)<ri (wl 4):=by grind
 refine⟨⟨fun u hu=>?_,fun u _ _=>rfl, ?_⟩,fun u hu=>?_,fun u hu=>?_,by decide⟩
 ·simp only[exU,List.map_cons,List.map_nil,Ww,List.not_mem_nil,or_false] at hu
  rcases hu with rfl|rfl|rfl
  ·exact .inl a4
  ·exact .inl h4
  ·exact .inl h5
 ·refine List.pairwise_cons.2 ⟨fun j hj=>?_,List.pairwise_cons.2 ⟨fun j hj=>?_,List.pairwise_singleton _ _⟩⟩
  ·simp only[List.map_cons,List.map_nil,Ww,List.not_mem_nil,or_false] at hj
   rcases hj with rfl|rfl
   ·exact⟨.inr ⟨rfl, .inl rfl⟩,fun _ _ _=>(by decide:(1:Int)≠2),fun _ _=>(by decide:(1:Int)≠2),fun _ _=>(by decide:(1:Int)≠2)⟩
   ·exact⟨.inl h4,fun h=>absurd (show ri (wl 4)=ri (wl 6) from h) (by grind),fun h=>absurd (show ri (wl 4)=ri (wl 6) from h) (by grind),fun h=>absurd (show ri (wl 4)=ri (wl 6) from h) (by grind)⟩
  ·simp only[List.map_cons,List.map_nil,Ww,List.not_mem_nil,or_false] at hj
   subst hj
   exact⟨.inr ⟨rfl, .inr rfl⟩,fun _ _ _=>(by decide:(2:Int)≠1),fun _ _=>(by decide:(2:Int)≠1),fun _ _=>(by decide:(2:Int)≠1)⟩
 ·simp only[exU,Ww,List.not_mem_nil,or_false] at hu
  rcases hu with rfl|rfl|rfl
  ·exact⟨Zc1.1⟩
  ·exact⟨Zc1.2.1⟩
  ·exact⟨Zc1.2.2⟩
 ·simp only[exU,Ww,List.not_mem_nil,or_false] at hu
  rcases hu with rfl|rfl|rfl <;> exact⟨rfl,rfl⟩
end
section
theorem divInt1 (n:Int):Rat.divInt n 1=(n:Rat):=by
 rw[Rat.divInt_eq_div]
 have h:((1:Int):Rat)=1:=rfl
 rw[h]
 grind
instance ZvW (n:Int):SpecC prog 61 [.int .i64 n] (vR (wl n)) (-9223372036854775808<=n/\n<=9223372036854775807):=⟨fun hp w=>by
 have p1:(1:Int)≠0/\(-9223372036854775808<=n/\n<=9223372036854775807)/\(-9223372036854775808<=(1:Int)/\(1:Int)<=9223372036854775807):=by omega
 refine Zb Tryz.func61 rfl Tryz.ntmps61 rfl ?_
 repeat(first|(refine wkB ?_;intros)|(refine wnM ?_ ?_;(focus(exact p1));intros))
 simp only[divInt1]
 exact rtC rfl rfl⟩
set_option maxHeartbeats 8000000 in
theorem ZhI (w:World):Calls prog 60 [].toArray w (RetM (SlS rP 21 exU) (fun s=>vSl s) (fun s=>mS 46 s) w):=by
 refine Zb Tryz.func60 rfl Tryz.ntmps60 rfl ?_
 repeat(first|(refine wkB ?_;intros)|(refine wnM ?_ ?_;(focus(decide));intros))
 rename_i b
 exact Zs rfl rfl (fun w hw=>⟨SlS.at_ b 3 [] ⟨Wl _,rfl⟩ (by decide),rfl,hw⟩)
instance ZtY (w0:World)(L:List Blk):SpecR prog w0 L 60 [] (SlS rP 21 exU) (fun s=>vSl s) (fun s=>mS 46 s) True:=⟨fun _ w _=>ZhI w⟩
instance lst2 {α:Type}{enc:α->Array Value}{k:Nat}{x y:α}{sp:List Value}[he:EncC enc k](w0:World)(L:List Blk)(b c:Nat)(T:TypeId)[h:AtC w0 L b (row enc [x,y] sp) T]:LstC w0 L (.slice (some ⟨b,0,none⟩) 2 (c+2)) α enc [x,y]:=⟨fun w hw=>by
 obtain⟨fz,hb⟩:=h.out w hw
 exact ZbI (c:=c+2) hb (Nat.le_add_left 2 c)⟩
end
section
theorem Zpu {n:Int}(h:M (n:Rat)<=1):RlB 1048576 (wl n):=(ZmA h (Wl _)).mono (by decide)
theorem Zn8 :∀u∈exU,IvOk 1048576 u.In:=fun u hu=>by
 simp only[exU,Ww,List.not_mem_nil,or_false] at hu
 rcases hu with rfl|rfl|rfl <;> exact⟨Zpu (by decide),Zpu (by decide)⟩
set_option maxHeartbeats 16000000 in
theorem Zik (w:World):Calls prog 13 [].toArray w (Ret (.bool true) w):=by
 have i1:CtC (mpN toU exU exU.length) (wl 4) 0:=⟨Zrw⟩
 have i2:AtC' (mpN toU exU exU.length) (ri (wl 4)) (some 2):=⟨Zt7⟩
 have hk:=Zc1
 have p1:exU.length<=1048576/\RlB KR (wl 4)/\∀u∈mpN toU exU exU.length,IvOk BQ u.In:=⟨by decide,ZcH (by decide),fun u hu=>by
  rw[ZqX] at hu
  simp only[exT,Ww,List.not_mem_nil,or_false] at hu
  rcases hu with rfl|rfl|rfl
  ·exact hk.1
  ·exact hk.2.1
  ·exact hk.2.2⟩
 have p2:exU.length<=1048576/\SwOk (whL exU 1 exU.length) []:=⟨by decide,by rw[Zpv];exact ZtI⟩
 have p3:exU.length<=1048576:=by decide
 have p4:NrP (mpN toU nmU nmU.length)/\∀u∈mpN toU nmU nmU.length,UIn u:=⟨.inl (by rw[Z4];decide),Zpl⟩
 have p5:PFineI exU:=⟨Zpz.nf,fun u hu=>Zn8 u hu,by decide⟩
 refine Zb Tryz.func13 rfl Tryz.ntmps13 rfl ?_
 repeat(first|(refine wkB ?_;intros)|(refine wnM ?_ ?_;(focus(first|exact p1|exact p2|exact p3|exact p4|exact p5|decide));intros))
 rename_i sx sw sf bn sn
 obtain⟨u,hu,ho⟩:=ZqV
 have hwh:swpR kpU (whL exU 1 exU.length) []=[kI0,kI2]:=by rw[Zpv,Zp3]
 obtain⟨sn',f1,f2⟩:=SlS.turn 46 hu sn
 obtain⟨sw',f3,f4⟩:=SlS.turn 37 hwh sw
 obtain⟨sf',f5,f6⟩:=SlS.turn 35 (show flL exU 1 2 (exU.length-1)=[wl 4] from Ztf) sf
 have he:nrmE (mpN toU nmU nmU.length)=0:=Zsc
 rw[show vSl sn=vSl sn' from f1.symm,show mS 46 sn=mS 46 sn' from f2.symm]
 simp only[show nrmE (mpN toU [⟨⟨wl 2,wl 3,true,true⟩,5⟩,⟨⟨Zaf,wl 2,false,false⟩,5⟩] ([⟨⟨wl 2,wl 3,true,true⟩,5⟩,⟨⟨Zaf,wl 2,false,false⟩,5⟩]:List PU).length)=0 from Zsc,<-f3,<-f4,<-f5,<-f6,Option.getD_some,Option.isSome_some]
 rcases sx.cases 46 with⟨y0,y1,y2⟩|⟨bx,cx,spx,hcx,y1,y2,yne⟩
 ·cases y0
 rcases sw'.cases 37 with⟨z0,z1,z2⟩|⟨bw,cw,spw,hcw,z1,z2,zne⟩
 ·cases z0
 rcases sf'.cases 35 with⟨x0,x1,x2⟩|⟨bf,cf,spf,hcf,x1,x2,xne⟩
 ·cases x0
 rcases sn'.cases 46 with⟨v0,v1,v2⟩|⟨bm,cm,spm,hcm,v1,v2,vne⟩
 ·cases v0
 simp only[y1,y2,z1,z2,x1,x2,v1,v2,Wf,Wg]
 have hLx:∀L [h:AtC w L bx (row rP exU spx) 46],LstC w L (.slice (some ⟨bx,0,none⟩) exU.length cx) PU rP exU:=fun L h=>⟨fun w' hw'=>by
  obtain⟨fz,hb⟩:=h.out w' hw'
  exact ZbI (c:=cx) hb hcx.1⟩
 have g1:(1:Int)<([kI0,kI2].length:Nat):=by decide
 have g2:(2:Int)<(exU.length:Nat):=by decide
 have g3:(0:Int)<([wl 4].length:Nat):=by decide
 have g4:(0:Int)<([u].length:Nat):=by simp
 have d1:((([kI0,kI2]:List Za).length:Nat):Int)=2:=rfl
 have d2:gi [kI0,kI2] 1=(gi exU 2).In:=rfl
 have d3:((([wl 4]:List Rl).length:Nat):Int)=1:=rfl
 have d4:gi [wl 4] 0=wl 4:=rfl
 have d5:((([u]:List PU).length:Nat):Int)=1:=rfl
 have d6:(gi [u] 0).In.OpenTo=true:=ho
 have d7:(((cmI' (lbL exU)).length:Nat):Int)=3:=by rw[Zuv];rfl
 (refine ZF (.v [0,1,2,3,4,5,6,7,8,9,10,11,12,13,14,15,16,17,18,19,20,21,22,23,24,25,26,27,28,29,30,31,32,33,34,35,36,37,38,39,40,41,42,43,44,45,46,47,48,49,50,51,52,53,54] (.e1 55 (.v [56,57,58] (.e1 59 (.fin))))) ([⟨bm,row rP [u] spm,46⟩,⟨bf,row Zz [wl 4] spf,35⟩,⟨bw,row rI [kI0,kI2] spw,37⟩,⟨bx,row rP exU spx,46⟩]) (h:=?_);refine wkX ?_)
 (repeat(first|refine wkH ?_|(refine tC rfl rfl ?_ ?_;focus(first|exact p5|decide))))
 try simp only[Wc (rfl:(0:Int)=0)]
 (repeat(first|refine wkH ?_|(refine tC rfl rfl ?_ ?_;focus(first|exact p5|decide))))
 try simp only[Wc (rfl:(2:Int)=2)]
 (repeat(first|refine wkH ?_|(refine tC rfl rfl ?_ ?_;focus(first|exact p5|decide))))
 try simp only[Wc d1]
 (repeat(first|refine wkH ?_|(refine tC rfl rfl ?_ ?_;focus(first|exact p5|decide))))
 try simp only[Wc d2]
 (repeat(first|refine wkH ?_|(refine tC rfl rfl ?_ ?_;focus(first|exact p5|decide))))
 try simp only[Wc d3]
 (repeat(first|refine wkH ?_|(refine tC rfl rfl ?_ ?_;focus(first|exact p5|decide))))
 try simp only[Wc d4]
 (repeat(first|refine wkH ?_|(refine tC rfl rfl ?_ ?_;focus(first|exact p5|decide))))
 try simp only[Wc d5]
 (repeat(first|refine wkH ?_|(refine tC rfl rfl ?_ ?_;focus(first|exact p5|decide))))
 try simp only[d6]
 (repeat(first|refine wkH ?_|(refine tC rfl rfl ?_ ?_;focus(first|exact p5|decide))))
 repeat(first|(refine wkT ?_;intros)|(refine tC rfl rfl ?_ ?_;focus(exact p3))|(refine uC rfl rfl ?_ ?_;focus(exact p3))|(refine eN rfl rfl ?_ ?_;(focus(exact p3));intro _;(try simp only[Wf,Wg,Wh])))
 try simp only[Wc d7]
 repeat(refine wkT ?_;intros)
 repeat(refine wkB ?_;intros)
 exact rtT rfl rfl
instance ZuU :SpecC prog 13 [] (.bool true) True:=⟨fun _ w=>Zik w⟩
end
end Go.Vt
namespace Go.Vt
open Go.RowKit Go.Proofs
open Go.Proofs.Tryz (prog)
abbrev e2N (a b:Int):Array Value:=row (eI .i64) [a,b] []
attribute [local irreducible] perL nrmS mkT mNorm frL
set_option maxHeartbeats 32000000 in
theorem Zid (B:ZR)(v2:Value)(d t p:List WS)(k0 k1:Int)(w:World)(h1:ArgS w (.slice B.Domain.a B.Domain.len B.Domain.cap) rWS d)(h2:ArgS w (.slice B.True.a B.True.len B.True.cap) rWS t)(h3:ArgS w v2 rWS p)(hd:d.length<=9223372036854775807/\∀x∈d,WSOk x)(ht:t.length<=9223372036854775807/\∀x∈t,WSOk x)(hp:p.length<=9223372036854775807/\∀x∈p,WSOk x):
  Calls prog 8 [.agg (ZI B),v2, .agg (e2N k0 k1)].toArray w (Ret (.bool true) w):=by
 have:=ArgC.mk h1
 have:=ArgC.mk h2
 have:=ArgC.mk h3
 have hB:=ZpK hd.2 ht.2
 have hP:=ZfN hp.2
 have pb:(d.length<=9223372036854775807/\∀x∈d,WSOk x)/\(t.length<=9223372036854775807/\∀x∈t,WSOk x):=⟨hd,ht⟩
 refine Zb Tryz.func8 rfl Tryz.ntmps8 rfl ?_
 repeat(first|(refine wkB ?_;intros)|(refine wnM ?_ ?_;(focus(first|exact pb|exact hp));intros))
 rename_i b3 b5 q8 zP b7
 obtain⟨zD,zT⟩:=q8
 dsimp only
 simp only[List.append_assoc]
 clear pb
 generalize nrmS (perL d)=D at*
 generalize mkT (perL d) (perL t)=T at*
 generalize perL p=P at*
 generalize endI (iv6 d)++endI (iv6 t)=E1 at*
 generalize endI (iv6 p)=E2 at*
 have hc:=ZoU hP (gi [k0,k1] 0)
 have hf:=Zqa hB (gi [k0,k1] 0) (gi [k0,k1] 1)
 have hPl:=hP.len
 have z0:P.length<=1048576:=by omega
 have zF:=hf.l.p
 repeat(first|(refine wkB ?_;intros)|(refine wnM ?_ ?_;(focus(first|exact z0|exact zF));intros))
 rename_i sc sf
 generalize mNorm (frL D T (gi [k0,k1] 0) (gi [k0,k1] 1))=f at*
 generalize mpN (cnU (gi [k0,k1] 0)) P P.length=c at*
 have nf:=hf.l.n
 have zI:f.length<=1048576/\SwOk (pIv f) []/\SwOk (whL f (gi [k0,k1] 1) f.length) []:=⟨by omega,hf.s1,hf.s2⟩
 repeat(first|(refine wkB ?_;intros)|(refine wnM ?_ ?_;(focus(exact zI));intros))
 rename_i q11 b11
 obtain⟨sd,st⟩:=q11
 dsimp only
 simp only[List.append_assoc]
 have nc:=hc.n
 have hwc:=Zea hc.k (gi [k0,k1] 0)
 have lwc:=ZbO c (gi [k0,k1] 0) c.length
 have lD:=ZbZ hB.sd hB.kd hB.ed hB.n
 have lT:=ZbZ hB.st hB.kt hB.et hB.n
 have y1:=hc.ch
 have y2:=hf.c
 have y3:c.length<=1024/\∀i∈whL c (gi [k0,k1] 0) c.length,IvOk B28 i:=⟨by omega,fun i hi=>(hwc i hi).mono (by decide)⟩
 have y4:(nrmS (whL c (gi [k0,k1] 0) c.length)).length<=1048576/\P.length<=1048576:=⟨by rw[hc.whn];omega,z0⟩
 have y5:c.length<=1048576:=by omega
 have y6:(inL c).length<=1048576/\P.length<=1048576:=⟨by rw[hc.inn];omega,z0⟩
 have y7:(pDom f).length<=1048576/\D.length<=1048576:=⟨by rw[hf.dom];omega,by omega⟩
 repeat(first|(refine wkB ?_;intros)|(refine wnM ?_ ?_;(focus(first|exact y1|exact y2));intros))
 try simp only[Wc (rfl:(0:Int)=0),Bool.not_true]
 repeat(first|(refine wkB ?_;intros)|(refine wnM ?_ ?_;(focus(first|exact y1|exact y2|exact y3|exact y4));intros))
 simp only[Wc hc.whn,Bool.not_true]
 repeat(first|(refine wkB ?_;intros)|(refine wnM ?_ ?_;(focus(first|exact y5|exact y6));intros))
 simp only[Wc hc.inn,Bool.not_true]
 repeat(first|(refine wkB ?_;intros)|(refine wnM ?_ ?_;(focus(first|exact y7));intros))
 simp only[Wc hf.dom,Bool.not_true]
 repeat(refine wkB ?_;intros)
 have hwf:=fun x=>Zea hf.l.k x
 have lwf:=fun x=>ZbO f x f.length
 have lnf:=fun x=>ZgJ (whL f x f.length)
 have l0:=lwf (gi [k0,k1] 0)
 have l1:=lwf (gi [k0,k1] 1)
 have m0:=lnf (gi [k0,k1] 0)
 have m1:=lnf (gi [k0,k1] 1)
 have w0:f.length<=1024/\∀i∈whL f (gi [k0,k1] 0) f.length,IvOk B28 i:=⟨by omega,fun i hi=>(hwf _ i hi).mono (by decide)⟩
 have w1:f.length<=1024/\∀i∈whL f (gi [k0,k1] 1) f.length,IvOk B28 i:=⟨by omega,fun i hi=>(hwf _ i hi).mono (by decide)⟩
 refine Zg rfl (fun h=>?_) (fun h=>?_)
 ·have he:gi [k0,k1] 0=gi [k0,k1] 1:=Wa h
  have e1:=hf.eqT he
  have e2:=hf.eqW he
  have x1:(whR f (gi [k0,k1] 1)).length<=1048576/\D.length<=1048576:=⟨by rw[e1];omega,by omega⟩
  have x2:(nrmS (whL f (gi [k0,k1] 0) f.length)).length<=1048576/\D.length<=1048576:=⟨by omega,by omega⟩
  repeat(refine wkB ?_;intros)
  (refine ZF (.v [0,1,2,3] (.e1 4 (.v [5,6,7,8,10,11] (.e1 9 (.e1 12 (.v [13] (.e1 14 (.fin)))))))) ([⟨b11,ZJ ⟨slOf sd,slOf st⟩,80⟩,⟨b7,ZJ ⟨slOf zD,slOf zT⟩,80⟩,⟨b5,e2N k0 k1,78⟩]) (h:=?_);refine wkX ?_)
  (repeat(refine wkH ?_))
  repeat(first|(refine wkT ?_;intros)|(refine tC rfl rfl ?_ ?_;focus(exact x1))|(refine uC rfl rfl ?_ ?_;focus(exact x1))|(refine eN rfl rfl ?_ ?_;(focus(exact x1));intro _;(try simp only[Wf,Wg,Wh])))
  simp only[Wc e1]
  repeat(first|(refine wkT ?_;intros)|(refine tC rfl rfl ?_ ?_;focus(first|exact w0|exact x2))|(refine uC rfl rfl ?_ ?_;focus(first|exact w0|exact x2))|(refine eN rfl rfl ?_ ?_;(focus(first|exact w0|exact x2));intro _;(try simp only[Wf,Wg,Wh])))
  simp only[Wc e2]
  repeat(refine wkT ?_;intros)
  repeat(refine wkB ?_;intros)
  exact rtT rfl rfl
 ·have he:gi [k0,k1] 0≠gi [k0,k1] 1:=Wb h
  have e1:=hf.neT he
  have e2:=hf.neY he
  have e3:=hf.neN he
  have nc3:=Zh3 3 D T
  have x1:(whR f (gi [k0,k1] 1)).length<=1048576/\T.length<=1048576:=⟨by rw[e1];omega,by omega⟩
  have x2:(nrmS (whL f (gi [k0,k1] 1) f.length)).length<=1048576/\T.length<=1048576:=⟨by omega,by omega⟩
  have x3:CbIn D T:=⟨by omega,by omega,fun i hi=>(hB.kd i hi).mono (by decide),fun i hi=>(hB.kt i hi).mono (by decide)⟩
  have x4:(nrmS (whL f (gi [k0,k1] 0) f.length)).length<=1048576/\(cmbR 3 D T).length<=1048576:=⟨by omega,by omega⟩
  repeat(refine wkB ?_;intros)
  (refine ZF (.v [0,1,2,3] (.e1 4 (.v [5,6,7,8,10,11] (.e1 9 (.e1 12 (.v [13,14,15,16,17,19,20,21,22] (.e1 18 (.e1 23 (.e1 24 (.v [25] (.e1 26 (.fin)))))))))))) ([⟨b11,ZJ ⟨slOf sd,slOf st⟩,80⟩,⟨b7,ZJ ⟨slOf zD,slOf zT⟩,80⟩,⟨b5,e2N k0 k1,78⟩]) (h:=?_);refine wkX ?_)
  (repeat(refine wkH ?_))
  repeat(first|(refine wkT ?_;intros)|(refine tC rfl rfl ?_ ?_;focus(exact x1))|(refine uC rfl rfl ?_ ?_;focus(exact x1))|(refine eN rfl rfl ?_ ?_;(focus(exact x1));intro _;(try simp only[Wf,Wg,Wh])))
  simp only[Wc e1]
  repeat(first|(refine wkT ?_;intros)|(refine tC rfl rfl ?_ ?_;focus(first|exact w1|exact x2))|(refine uC rfl rfl ?_ ?_;focus(first|exact w1|exact x2))|(refine eN rfl rfl ?_ ?_;(focus(first|exact w1|exact x2));intro _;(try simp only[Wf,Wg,Wh])))
  simp only[Wc e2]
  repeat(first|(refine wkT ?_;intros)|(refine tC rfl rfl ?_ ?_;focus(first|exact w0|exact x3|exact x4))|(refine uC rfl rfl ?_ ?_;focus(first|exact w0|exact x3|exact x4))|(refine eN rfl rfl ?_ ?_;(focus(first|exact w0|exact x3|exact x4));intro _;(try simp only[Wf,Wg,Wh])))
  simp only[Wc e3]
  repeat(refine wkT ?_;intros)
  repeat(refine wkB ?_;intros)
  exact rtT rfl rfl
end Go.Vt
namespace Go.Proofs.YtcgkgdgpdpihmaaGreatDoor
open Go.ChangeShapes Go.WideShapes Go.ChangeAt Go.RowKit Go.Deep Go.Vt
theorem rc75 :Tryz.prog.cellsOf 75=1:=by kernel_rfl
theorem ru77 :∃f0 f1,Tryz.prog.underlying 77=some (.struct #[f0,f1])/\f0.type=75/\f1.type=75/\f0.offset=0/\f1.offset=1:=⟨_,_,Tryz.underlying77,rfl,rfl,rfl,rfl⟩
theorem ru78 :Tryz.prog.underlying 78=some (.array 2 3):=by kernel_rfl
def SpR (W:World)(v:Value):Prop:=∃xs:List WS,ArgS W v rWS xs/\xs.length<=9223372036854775807/\∀x∈xs,WSOk x
def MvR (W:World)(x:ZR):Prop:=SpR W (.slice x.Domain.a x.Domain.len x.Domain.cap)/\SpR W (.slice x.True.a x.True.len x.True.cap)
section
variable {H : Type} {enc : TypeId × Value -> H} {W : World} {base b0 : Nat} {r : Reach} {held : Bool} {v : Value} {d : DataW H} {p : List MemPlace}
theorem ZdJ {sp:Nat->Bool}{fuel:Nat}{x:DataW H×List MemPlace}(h:DataW.trod enc Tryz.prog W base sp held fuel 75 [v]=some x):∃a l c,v= .slice a l c/\SpR W v:=by
 have key:∃a l c,v= .slice a l c:=by
  rcases open_slice runder75 h with⟨h0,_⟩|⟨a,len,cap,m,n,D,Pl,hcs,_⟩
  ·injection h0 with h0 _
   exact⟨_,_,_,h0⟩
  ·injection hcs with h0 _
   exact⟨_,_,_,h0⟩
 obtain⟨a,l,c,rfl⟩:=key
 obtain⟨xs,h1,h2,h3⟩:=Zfu (v:= .slice a l c) ⟨a,l,c,rfl⟩ h
 exact⟨a,l,c,rfl,xs,h1,h3,h2⟩
theorem Zng (hv:Value.okWide Tryz.prog W r b0 77 v)(h:DataW.Trod enc Tryz.prog W base (fun _=>true) held 77 v d p):∃x:ZR,v= .agg (ZI x)/\MvR W x:=by
 obtain⟨f0,f1,he,t0,t1,o0,o1⟩:=ru77
 simp only[Value.okWide,he] at hv
 obtain⟨cs,rfl,hs,_⟩:=hv
 have h3:cs.size=2:=by rw[hs];kernel_rfl
 obtain⟨fuel,hf⟩:=h
 obtain⟨xs,k,hk,hxy,_,hxl,hg⟩:=DataW.trod_struct he hf
 match cs,h3,xs,hxl with
 |⟨[c0,c1]⟩,_,[y0,y1],_=>
  have g0:=hg 0 f0 rfl
  have g1:=hg 1 f1 rfl
  simp[Value.cells,o0,o1,t0,t1,rc75] at g0 g1
  obtain⟨a,l,c,rfl,q0⟩:=ZdJ g0
  obtain⟨a',l',c',rfl,q1⟩:=ZdJ g1
  exact⟨⟨⟨a,l,c⟩,⟨a',l',c'⟩⟩,rfl,q0,q1⟩
theorem Zkt {P:Program}{w:World}{fuel:Nat}{sp:Nat->Bool}{t e:TypeId}{a b:Value}{x:DataW H×List MemPlace}(ht:P.underlying t=some (.array 2 e))(hc:P.cellsOf e=1)(h:DataW.trod enc P w base sp held fuel t [a,b]=some x):
  ∃y z k,DataW.trod enc P w base sp held k e [a]=some y/\DataW.trod enc P w base sp held k e [b]=some z:=by
 match fuel with
 |0=>simp[DataW.trod] at h
 |k+1=>
  unfold DataW.trod at h
  rw[ht] at h
  simp[show List.range 2=[0,1] from rfl,hc] at h
  obtain⟨-,h⟩:=h
  rcases ha:DataW.trod enc P w base sp held k e [a] with _|y
  ·simp[ha] at h
  ·rcases hb:DataW.trod enc P w base sp held k e [b] with _|z
   ·simp[ha,hb] at h
   ·exact⟨y,z,k,ha,hb⟩
theorem Zla (hv:Value.okWide Tryz.prog W r b0 78 v)(h:DataW.Trod enc Tryz.prog W base (fun _=>true) held 78 v d p):∃x:Int×Int,v= .agg (e2N x.1 x.2)/\True:=by
 simp only[Value.okWide,ru78] at hv
 obtain⟨cs,rfl,hs,_⟩:=hv
 have h3:cs.size=2:=by rw[hs];kernel_rfl
 obtain⟨fuel,hf⟩:=h
 match cs,h3 with
 |⟨[c0,c1]⟩,_=>
  simp only[Value.cells] at hf
  obtain⟨y0,y1,n,g0,g1⟩:=Zkt ru78 (by kernel_rfl) hf
  obtain⟨n0,p0,_,q0⟩:=DataW.trod_int Tryz.underlying3 g0
  obtain⟨n1,p1,_,q1⟩:=DataW.trod_int Tryz.underlying3 g1
  simp only[List.cons.injEq,and_true] at p0 p1
  subst p0;subst p1
  exact⟨(n0,n1),rfl,trivial⟩
theorem ZmC {x:ZR}{v2:Value}{p:List WS}{y:Int×Int}{w:World}(hx:MvR w x)(h3:ArgS w v2 rWS p)(hl:p.length<=9223372036854775807)(hk:∀x∈p,WSOk x):
  Calls Tryz.prog 8 [.agg (ZI x),v2, .agg (e2N y.1 y.2)].toArray w (Ret (.bool true) w):=by
 obtain⟨⟨d,h1,l1,k1⟩,⟨t,h2,l2,k2⟩⟩:=hx
 exact Zid x v2 d t p y.1 y.2 w h1 h2 h3 ⟨l1,k1⟩ ⟨l2,k2⟩ ⟨hl,hk⟩
end
end Go.Proofs.YtcgkgdgpdpihmaaGreatDoor
