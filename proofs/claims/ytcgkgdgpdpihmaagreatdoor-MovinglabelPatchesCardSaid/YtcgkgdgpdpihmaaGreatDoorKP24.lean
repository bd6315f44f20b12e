/- For any two moving labels and any period, Restrict returns the part during the period, and Patch the second one in place of the first one; patching by a part of itself changes nothing. Conditions: none. (part 24 of 30.) Conditions: those that each statement names. -/
import Derived.Shelf.SortM.Plain
import Derived.Shelf.SortM.SortNone
import Derived.Ground.SlgmProg
import Derived.Test.YtcgkgdgpdpihmaaGreatDoorProg
import Derived.Shelf.Spec.SlicesGrow
import Derived.Ground.Names8Prog
import Derived.Test.YtcgkgdgpdpihmaaGreatDoorKP19
import Derived.Test.YtcgkgdgpdpihmaaGreatDoorKP20
import Derived.Test.YtcgkgdgpdpihmaaGreatDoorKP21
import Derived.Test.YtcgkgdgpdpihmaaGreatDoorKP22
import Derived.Test.YtcgkgdgpdpihmaaGreatDoorKP23
set_option linter.unusedSimpArgs false
set_option linter.unusedVariables false
set_option maxHeartbeats 2000000
set_option maxRecDepth 100000
namespace Go.Vt
open Go.RowKit Go.Proofs
open Go.Proofs.Tryz (prog)
noncomputable def absQ (u:PU):GU Ri Int:=⟨ri u.In.From,ri u.In.To,u.In.OpenFrom,u.In.OpenTo,u.Label⟩
theorem hvaL (f g:Int)(t:Ri):Fv.va f t=Fv.va g t↔f=g:=Iff.rfl
theorem hrdL (f:Int)(t:Ri):Fv.red f t=f:=rfl
def bfI (i j:Za):Prop:=ri i.To<ri j.From\/(ri i.To=ri j.From/\(i.OpenTo=true\/j.OpenFrom=true))
theorem Zj2 {u w:PU}:(absQ u).bfr (absQ w)↔bfI u.In w.In:=Iff.rfl
theorem ZkF {a u:PU}{K K':Nat}(ha:IvOk K a.In)(hu:IvOk K' u.In):jnB a u=true↔jnBG (absQ a) (absQ u):=by
 have e:=Zbi ha.b.o hu.a.o
 unfold jnB jnBG absQ
 dsimp only
 rw[Wq,Wq,decide_eq_true_eq,decide_eq_true_eq,e,Bool.not_eq_true',<-Bool.not_eq_true,Wq]
theorem Znk (ys:List PU)(a:PU):lstP (ys++[a])=a:=by
 unfold lstP
 rw[Zbc (by simp only[Wp,List.length_singleton];omega)]
 simp only[Wp,List.length_singleton]
 rw[List.getElem_append_right (by omega)]
 simp
theorem Zn1 (ys:List PU)(a x:PU):(ys++[a]).set (((ys++[a]).length:Int)-1).toNat x=ys++[x]:=by
 simp
theorem Zlp {l:List PU}{K:Nat}(hk:∀u∈l,IvOk K u.In)(hv:∀u∈l,okI u.In)(hp:l.Pairwise (fun u w=>bfI u.In w.In)):∀i,i<=l.length->JnI ((l.take i).map absQ) ((jnL l i).map absQ)/\∀u∈jnL l i,IvOk K u.In
 |0,_=>⟨JnI.nil,(fun u hu=>by cases hu)⟩
 |i+1,hi=>by
  obtain⟨ih,ihk⟩:=Zlp hk hv hp i (by omega)
  have hg:=Zt (xs:=l) (i:=i) (by omega)
  have hm:gi l (i:Int)∈l:=Zu (by omega)
  have huk:=hk _ hm
  have huo:(absQ (gi l (i:Int))).ok:=hv _ hm
  have hb:∀w∈(l.take i).map absQ,w.bfr (absQ (gi l (i:Int))):=fun w hw=>by
   obtain⟨x,hx,rfl⟩:=List.mem_map.1 hw
   obtain⟨j,hj,rfl⟩:=List.mem_take_iff_getElem.1 hx
   rw[hg]
   exact List.pairwise_iff_getElem.1 hp j i (by omega) (by omega) (by omega)
  rw[Wn (by omega),List.map_append,jnL,<-hg]
  generalize gi l (i:Int)=u at*
  generalize jnL l i=out at*
  rcases ZaT out with rfl|⟨ys,a,rfl⟩
  ·have e:jn1 [] u=[u]:=by unfold jn1;rw[if_neg (fun h=>by simp at h)];rfl
   rw[e]
   exact⟨ih.app hvaL hrdL huo hb (fun ys a h=>by simp at h),fun x hx=>by rw[Wo] at hx;rw[hx];exact huk⟩
  ·have hka:=ihk a (by simp)
   unfold jn1
   rw[Znk]
   by_cases c:jnB a u=true
   ·rw[if_pos ⟨by simp,c⟩,Zn1,List.map_append]
    refine⟨ih.mrg hvaL hrdL huo hb (ys:=ys.map absQ) (a:=absQ a) (by simp) ((ZkF hka huk).1 c),fun x hx=>?_⟩
    rcases List.mem_append.1 hx with h1|h1
    ·exact ihk x (List.mem_append_left _ h1)
    ·rw[Wo] at h1
     rw[h1]
     exact⟨hka.a,huk.b⟩
   ·rw[if_neg (fun h=>c h.2),List.map_append]
    refine⟨ih.app hvaL hrdL huo hb (fun zs b h=>?_),fun x hx=>?_⟩
    ·rw[List.map_append] at h
     obtain⟨_,h2⟩:=Zbe h
     rw[<-h2]
     exact fun k=>c ((ZkF hka huk).2 k)
    ·rcases List.mem_append.1 hx with h1|h1
     ·exact ihk x h1
     ·rw[Wo] at h1;rw[h1];exact huk
structure CelB (p:List Za)(c:List Rl)(k:Nat):Prop where
 pw:(celS p c k).Pairwise bfI
 ok:∀i∈celS p c k,okI i
 up:k<c.length->∀i∈celS p c k,ri i.To<ri (gi c (k:Int))\/(ri i.To=ri (gi c (k:Int))/\i.OpenTo=true)
theorem Zf8 {p:List Za}{n:Nat}{c:List Rl}(h:SrR n c):∀k,k<=c.length->CelB p c k
 |0,_=>⟨.nil,(fun i hi=>by cases hi),fun _ i hi=>by cases hi⟩
 |k+1,hk=>by
  have ih:=Zf8 (p:=p) h k (by omega)
  have hup:=ih.up (by omega)
  have hI:(celI p c k (celS p c k)).Pairwise bfI/\(∀i∈celI p c k (celS p c k),okI i)/\∀i∈celI p c k (celS p c k),ri i.To<=ri (gi c (k:Int)):=by
   unfold celI
   split
   ·refine⟨List.pairwise_append.2 ⟨ih.pw,List.pairwise_singleton _ _,fun i hi j hj=>?_⟩,fun i hi=>?_,fun i hi=>?_⟩
    ·rw[List.mem_singleton.1 hj]
     rcases hup i hi with h1|⟨h1,h2⟩
     ·exact .inl h1
     ·exact .inr ⟨h1, .inl h2⟩
    ·rcases List.mem_append.1 hi with h1|h1
     ·exact ih.ok i h1
     ·rw[List.mem_singleton.1 h1];exact .inr ⟨rfl,rfl,rfl⟩
    ·rcases List.mem_append.1 hi with h1|h1
     ·rcases hup i h1 with h2|h2 <;> grind
     ·rw[List.mem_singleton.1 h1];show ri (gi c (k:Int))<=ri (gi c (k:Int));grind
   ·exact⟨ih.pw,ih.ok,fun i hi=>by rcases hup i hi with h2|h2 <;> grind⟩
  obtain⟨h1,h2,h3⟩:=hI
  have e:celS p c (k+1)=celJ p c k (celI p c k (celS p c k)):=rfl
  have hlt:k+1<c.length->ri (gi c (k:Int))<ri (gi c ((k+1:Nat):Int)):=fun h4=>h.at (Nat.lt_succ_self k) h4
  refine⟨?_, ?_,fun h4=>?_⟩ <;> rw[e] <;> unfold celJ
  ·split
   ·rename_i hc
    refine List.pairwise_append.2 ⟨h1,List.pairwise_singleton _ _,fun i hi j hj=>?_⟩
    rw[List.mem_singleton.1 hj]
    have:=h3 i hi
    show ri i.To<ri (gi c (k:Int))\/(ri i.To=ri (gi c (k:Int))/\(i.OpenTo=true\/true=true))
    grind
   ·exact h1
  ·split
   ·rename_i hc
    intro i hi
    rcases List.mem_append.1 hi with h5|h5
    ·exact h2 i h5
    ·rw[List.mem_singleton.1 h5];exact .inl (hlt hc.1)
   ·exact h2
  ·have h6:=hlt h4
   split
   ·intro i hi
    rcases List.mem_append.1 hi with h5|h5
    ·have:=h3 i h5;exact .inl (by grind)
    ·rw[List.mem_singleton.1 h5];exact .inr ⟨rfl,rfl⟩
   ·intro i hi
    have:=h3 i hi
    exact .inl (by grind)
theorem Zk1 {l:List St}{ins cs:List Za}:∀i,i<=cs.length->((mvS l ins cs i).map (·.In)).Sublist (cs.take i)
 |0,_=>Wk _
 |i+1,hi=>by
  have ih:=Zk1 (l:=l) (ins:=ins) i (by omega:i<=cs.length)
  rw[mvS,Wn (by omega),<-Zt (by omega)]
  unfold mv1
  split
  ·rw[List.map_append]
   exact ih.append (Wj _)
  ·exact ih.trans (List.sublist_append_left _ _)
theorem Zrp {l:List St}(hk:∀x∈l,StOk x):(celV l).Pairwise bfI/\∀i∈celV l,okI i:=by
 have hil:=Zd3 l
 have hio:=ZcN hk
 have hno:=Zky hk
 have p3:CelIn (nrmS (insV l)) (enR (insV l)):=by
  have h1:=Zbw (insV l)
  have h2:=ZbW (insV l)
  exact⟨by omega,by omega,fun i hi=>(hno i hi).mono (by decide),(Zb3 (fun i hi=>(hio i hi).mono (by decide))).b⟩
 have:=Zf8 (p:=nrmS (insV l)) (Zgc p3) _ (Wl _)
 exact⟨this.pw,this.ok⟩
theorem ZeJ {l:List St}:∀u∈movU l,u.In∈celV l:=fun u hu=>Zeb _ (Wl _) u hu
structure NfP (l:List PU):Prop where
 nf:NF (l.map absQ)
 k:∀u∈l,IvOk 3 u.In
 len:l.length<=160
theorem ZrW {l:List St}(hk:∀x∈l,StOk x):JnI ((movU l).map absQ) ((movV l).map absQ):=by
 have hc:=Zrp hk
 have hs:=Zk1 (l:=l) (ins:=insV l) (cs:=celV l) _ (Wl _)
 rw[List.take_length] at hs
 have hpw:(movU l).Pairwise (fun u w=>bfI u.In w.In):=List.pairwise_map.1 (hc.1.sublist hs)
 have:=(Zlp (l:=movU l) (K:=3) (fun u hu=>ZeM hk _ (ZeJ u hu)) (fun u hu=>hc.2 _ (ZeJ u hu)) hpw _ (Wl _)).1
 rw[List.take_length] at this
 exact this
theorem Zrg {l:List St}(hk:∀x∈l,StOk x):NfP (movV l):=⟨(ZrW hk).nf,ZrZ hk,Zpg l⟩
theorem Zcf {a:List Za}(hl:a.length<=1024)(hk:∀i∈a,IvOk B28 i):Sep (nrmS a)/\∀z,HoldP (nrmS a) z↔HoldP a z:=by
 obtain⟨h1,h2⟩:=ZiD 1 (a:=a) (b:=[]) ⟨hl,Wm _,hk,fun i hi=>by cases hi⟩
 refine⟨h1,fun z=>?_⟩
 rw[nrmS,h2 z]
 unfold dcdP HoldP
 simp
theorem ZfC {K:Nat}{i:Za}(h:IvOk K i):(rvR i.From).ok/\(rvR i.To).ok:=⟨h.a.o,h.b.o⟩
theorem Znn {K:Nat}{l m:List Za}(h:Sep l)(k:Sep m)(hl:∀i∈l,IvOk K i)(hm:∀i∈m,IvOk K i)(H:∀t,HoldP l t↔HoldP m t):l=m:=h.eq k (fun i hi=>ZfC (hl i hi)) (fun i hi=>ZfC (hm i hi)) H
theorem ZbT {K:Nat}{a:List Za}(h:∀i∈a,IvOk K i):∀i∈nrmS a,IvOk K i:=fun i hi=>by
 have:=Zb0 (Pr:=RlB K) (fun i hi=>⟨(h i hi).a,(h i hi).b⟩) i hi
 exact⟨this.1,this.2⟩
theorem ZrU {K:Nat}{op:Int}{a b:List Za}(ha:∀i∈a,IvOk K i)(hb:∀i∈b,IvOk K i):∀i∈cmbR op a b,IvOk K i:=fun i hi=>by
 have:=Zn8 (Pr:=RlB K) (fun i hi=>⟨(ha i hi).a,(ha i hi).b⟩) (fun i hi=>⟨(hb i hi).a,(hb i hi).b⟩) i hi
 exact⟨this.1,this.2⟩
theorem Zj4 {K:Nat}(kp:Bool->Bool->Bool){a b:List Za}(ha:∀i∈a,IvOk K i)(hb:∀i∈b,IvOk K i):∀i∈swpR kp a b,IvOk K i:=fun i hi=>by
 have:=Zet (Pb:=fun x=>RlB K x.at_) kp (fun i hi=>⟨(ha i hi).a,(ha i hi).b⟩) (fun i hi=>⟨(hb i hi).a,(hb i hi).b⟩) i hi
 exact⟨this.1,this.2⟩
theorem ZpZ {a:List Za}(ho:∀i∈a,okI i):Sep (swpR kpU a [])/\∀z,HoldP (swpR kpU a []) z↔HoldP a z:=by
 obtain⟨h1,h2,h3⟩:=Zfi (kp:=kpU) rfl (is:=a) (js:=[]) (fun i hi=>ZhG (ho i hi)) (fun i hi=>by cases hi)
 refine⟨⟨h2,h3⟩,fun z=>?_⟩
 unfold HoldP
 rw[h1 z]
 unfold kpU
 simp
theorem ZoL {a b:List Za}(ho:∀i∈a,okI i)(ho2:∀i∈b,okI i):Sep (swpR kpM a b)/\∀z,HoldP (swpR kpM a b) z↔HoldP a z/\¬HoldP b z:=by
 obtain⟨h1,h2,h3⟩:=Zfi (kp:=kpM) rfl (is:=a) (js:=b) (fun i hi=>ZhG (ho i hi)) (fun i hi=>ZhG (ho2 i hi))
 refine⟨⟨h2,h3⟩,fun z=>?_⟩
 unfold HoldP
 rw[h1 z]
 unfold kpM
 simp
theorem SwOk.of {K:Nat}{a b:List Za}(hK:K<=KR)(hl:a.length+b.length<=32768)(hk:∀i∈a,IvOk K i)(hk2:∀i∈b,IvOk K i):SwOk a b:=
 ⟨by omega,fun i hi=>⟨⟨(hk i hi).a.mono hK⟩,⟨(hk i hi).b.mono hK⟩⟩,fun i hi=>⟨⟨(hk2 i hi).a.mono hK⟩,⟨(hk2 i hi).b.mono hK⟩⟩⟩
end Go.Vt
/-
 DERIVED: THE SHELF's CONTRACTS AT THIS DUMP, IN PLAIN WORDS (tools/lay-plain.mjs out of 'YtcgkgdgpdpihmaaGreatDoorLaySi.lean', which tools/lay-shelf.mjs wrote): THE SAME DECLARATIONS UNDER THE SAME NAMES: 'import', 'namespace', 'open', 'def', 'theorem' AND NOTHING ELSE: no command of the shelf's: FOR A HAND-IN. Each laying: the table of numbers ('.._ren') and one theorem, a field a fact of the dump's own or the kernel's comparison; each contract: ONE APPLICATION.
-/
namespace Go.Proofs
open Go.Shelf
end Go.Proofs
namespace Go.Vt
open Go.RowKit Go.Proofs
open Go.Proofs.Tryz (prog)
section
abbrev inL (us:List PU):List Za:=mpN (fun u:PU=>u.In) us us.length
set_option maxHeartbeats 8000000 in
theorem ZfP (v:Value)(us:List PU)(w:World)(hv:ArgS w v rP us)(hl:us.length<=1048576):
  Calls prog 20 [v].toArray w (RetM (SlS rI 20 (inL us)) (fun s=>vSl s) (fun s=>mS 37 s) w):=by
 obtain⟨p,cp,rfl⟩:=hv.form
 refine Zb Tryz.func20 rfl Tryz.ntmps20 rfl ?_
 repeat(refine wkB ?_;intros)
 refine ZW (S:=SlS rI 20 (inL us)) (fun _=>True) (fun s=>[(3,vSl s)]) (fun s=>mS 37 s) ?_ (fun s _=>?_)
 ·refine Zo (S:=(_:Nat)×(o:List Za)×SlS rI 20 o) (fun q=>q.1<=us.length/\q.2.1=mpN (fun u:PU=>u.In) us q.1) (fun q=>[(0, .slice p us.length cp),(3,vSl q.2.2),(4, .int .i64 (q.1:Nat))]) (fun q=>mS 37 q.2.2) (fun q=>us.length-q.1) ⟨0,[],SlS.no⟩ ⟨Wm _,rfl⟩ sbB suB (fun q hq=>?_)
  obtain⟨m,out,s⟩:=q
  obtain⟨hq,ho⟩:=hq
  dsimp only at hq ho⊢
  have hlen:out.length=m:=by rw[ho];exact ZJ _ us m
  have hend:m=us.length->out=inL us:=fun h=>by rw[ho,h]
  have hnxt:out++[(gi us (m:Int)).In]=mpN (fun u:PU=>u.In) us (m+1):=by rw[ho];rfl
  clear ho
  repeat(refine wkB ?_;intros)
  refine Zk rfl (fun h=>?_) (fun h=>?_)
  ·have hlt:m<us.length:=by have:=Wa h;omega
   obtain⟨bw,ow,rfl,hrow'⟩:=hv.opn (k:=20) hlt
   repeat(refine wkB ?_;intros)
   refine sU (k:=20) (enc:=rI) (s:=s) rfl rfl ?_ ?_ ?_ ?_
   ·rfl
   ·rfl
   ·exact⟨by decide,by omega,by omega⟩
   intro s'
   repeat(first|(refine wkB ?_;intros)|(refine wnM ?_ ?_;(focus(exact⟨by omega,by omega⟩));intros))
   exact Zc ⟨m+1,_,s'⟩ ⟨hlt,hnxt⟩ sbB suB (by show us.length-(m+1)<us.length-m;omega)
  ·have hge:m=us.length:=by have:=Wb h;omega
   obtain⟨s',f1,f2⟩:=SlS.turn 37 (hend hge) s
   repeat(refine wkB ?_;intros)
   exact Ze s' trivial (by rw[f1];exact sbB) (by rw[f2];exact suB)
 repeat(refine wkB ?_;intros)
 exact Zr rfl rfl (fun w hw=>⟨s,rfl,hw.sub suB⟩)
instance ZsK (w0:World)(L:List Blk)(v:Value)(us:List PU)[h:LstC w0 L v PU rP us]:SpecR prog w0 L 20 [v] (SlS rI 20 (inL us)) (fun s=>vSl s) (fun s=>mS 37 s) (us.length<=1048576):=⟨fun hp w hw=>ZfP v us w (h.out w hw) hp⟩
set_option maxHeartbeats 8000000 in
theorem ZlQ (v:Value)(us:List PU)(x:Int)(w:World)(hv:ArgS w v rP us)(hl:us.length<=1024)(hk:∀i∈whL us x us.length,IvOk B28 i):
  Calls prog 43 [v, .int .i64 x].toArray w (RetM (SlS rI 20 (nrmS (whL us x us.length))) (fun s=>vSl s) (fun s=>mS 37 s) w):=by
 obtain⟨p,cp,rfl⟩:=hv.form
 have hwl:=ZbR us x us.length
 refine Zb Tryz.func43 rfl Tryz.ntmps43 rfl ?_
 repeat(refine wkB ?_;intros)
 refine ZW (S:=SlS rI 20 (whL us x us.length)) (fun _=>True) (fun s=>[(5,vSl s)]) (fun s=>mS 37 s) ?_ (fun s _=>?_)
 ·refine Zo (S:=(_:Nat)×(o:List Za)×SlS rI 20 o) (fun q=>q.1<=us.length/\q.2.1=whL us x q.1) (fun q=>[(0, .slice p us.length cp),(1, .int .i64 x),(5,vSl q.2.2),(6, .int .i64 (q.1:Nat))]) (fun q=>mS 37 q.2.2) (fun q=>us.length-q.1) ⟨0,[],SlS.no⟩ ⟨Wm _,rfl⟩ sbB suB (fun q hq=>?_)
  obtain⟨m,out,s⟩:=q
  obtain⟨hq,ho⟩:=hq
  dsimp only at hq ho⊢
  have hlen:out.length<=m:=by rw[ho];exact ZbR us x m
  have hend:m=us.length->out=whL us x us.length:=fun h=>by rw[ho,h]
  have hnxt:(if(gi us (m:Int)).Label=x then out++[(gi us (m:Int)).In] else out)=whL us x (m+1):=by rw[ho];rfl
  clear ho
  repeat(refine wkB ?_;intros)
  refine Zk rfl (fun h=>?_) (fun h=>?_)
  ·have hlt:m<us.length:=by have:=Wa h;omega
   obtain⟨bw,ow,rfl,hrow'⟩:=hv.opn (k:=20) hlt
   repeat(refine wkB ?_;intros)
   by_cases c:(gi us (m:Int)).Label=x
   ·simp only[Wc c]
    rw[if_pos c] at hnxt
    repeat(refine wkB ?_;intros)
    refine sU (k:=20) (enc:=rI) (s:=s) rfl rfl ?_ ?_ ?_ ?_
    ·rfl
    ·rfl
    ·exact⟨by decide,by omega,by omega⟩
    intro s'
    repeat(first|(refine wkB ?_;intros)|(refine wnM ?_ ?_;(focus(exact⟨by omega,by omega⟩));intros))
    exact Zc ⟨m+1,_,s'⟩ ⟨hlt,hnxt⟩ sbB suB (by show us.length-(m+1)<us.length-m;omega)
   ·simp only[We c]
    rw[if_neg c] at hnxt
    repeat(first|(refine wkB ?_;intros)|(refine wnM ?_ ?_;(focus(exact⟨by omega,by omega⟩));intros))
    exact Zc ⟨m+1,_,s⟩ ⟨hlt,hnxt⟩ sbB suB (by show us.length-(m+1)<us.length-m;omega)
  ·have hge:m=us.length:=by have:=Wb h;omega
   obtain⟨s',f1,f2⟩:=SlS.turn 37 (hend hge) s
   repeat(refine wkB ?_;intros)
   exact Ze s' trivial (by rw[f1];exact sbB) (by rw[f2];exact suB)
 repeat(first|(refine wkB ?_;intros)|(refine wnM ?_ ?_;(focus(exact⟨by omega,hk⟩));intros))
 rename_i r
 exact Zr rfl rfl (fun w hw=>⟨r,rfl,hw.sub suB⟩)
instance ZyR (w0:World)(L:List Blk)(v:Value)(us:List PU)(x:Int)[h:LstC w0 L v PU rP us]:SpecR prog w0 L 43 [v, .int .i64 x] (SlS rI 20 (nrmS (whL us x us.length))) (fun s=>vSl s) (fun s=>mS 37 s) (us.length<=1024/\∀i∈whL us x us.length,IvOk B28 i):=⟨fun hp w hw=>ZlQ v us x w (h.out w hw) hp.1 hp.2⟩
noncomputable def atL (us:List PU)(t:Rl):Option Int:=(us.find? (fun u=>inB u.In t)).map (·.Label)
set_option maxHeartbeats 8000000 in
theorem Zp1 (v:Value)(us:List PU)(t:Zj)(w:World)(hv:ArgS w v rP us)(hl:us.length<=1048576)(hk:∀u∈us,IvOk B28 u.In)(ht:RtB t):
  Calls prog 24 [v,vR t].toArray w (Ret (.tuple #[.int .i64 ((atL us t).getD 0), .bool (atL us t).isSome]) w):=by
 have hav:=ArgC.mk hv
 obtain⟨p,cp,rfl⟩:=hv.form
 refine Zb Tryz.func24 rfl Tryz.ntmps24 rfl ?_
 repeat(refine wkB ?_;intros)
 rename_i b3
 refine Zo (S:=Nat) (fun i=>i<=us.length/\(us.drop i).find? (fun u=>inB u.In t)=us.find? (fun u=>inB u.In t)) (fun i=>[(0, .slice p us.length cp),(3, .pointer (some ⟨b3,0,none⟩)),(6, .int .i64 (i:Nat))]) (fun _=>[⟨b3,Zf (Zg t),35⟩]) (fun i=>us.length-i) 0 ⟨Wm _,rfl⟩ sbB slB (fun i hi=>?_)
 obtain⟨hi,hd⟩:=hi
 repeat(refine wkB ?_;intros)
 refine Zk rfl (fun h=>?_) (fun h=>?_)
 ·have hlt:i<us.length:=by have:=Wa h;omega
  obtain⟨bw,ow,rfl,hrow'⟩:=hv.opn (k:=20) hlt
  have q1:IvOk B28 (gi us (i:Int)).In/\RtB t:=⟨hk _ (Zu (by omega)),ht⟩
  rw[List.drop_eq_getElem_cons hlt,List.find?_cons,<-Zt hlt] at hd
  repeat(refine wkB ?_;intros)
  (refine jD 7 7 (h:=?_);(repeat(first|refine wkH ?_|(refine tC rfl rfl ?_ ?_;focus(exact q1))));refine Zp ?_;(repeat(refine Z3 ?_;intro _));refine Zq ?_)
  repeat(refine wkB ?_;intros)
  cases c:inB (gi us (i:Int)).In t with
  |true=>
   rw[c] at hd
   have e:atL us t=some (gi us (i:Int)).Label:=by unfold atL;rw[<-hd];rfl
   rw[e]
   repeat(refine wkB ?_;intros)
   exact ZC rfl (Zs rfl) (Zs rfl) (fun w hw=>ZG hw)
  |false=>
   rw[c] at hd
   repeat(first|(refine wkB ?_;intros)|(refine wnM ?_ ?_;(focus(exact⟨by omega,by omega⟩));intros))
   exact Zc (i+1) ⟨hlt,hd⟩ sbB slB (by omega)
 ·have hge:i=us.length:=by have:=Wb h;omega
  rw[hge,List.drop_length] at hd
  have e:atL us t=none:=by unfold atL;rw[<-hd];rfl
  rw[e]
  repeat(refine wkB ?_;intros)
  exact ZC rfl (Zs rfl) (Zs rfl) (fun w hw=>ZG hw)
instance ZCZ (w0:World)(L:List Blk)(v:Value)(us:List PU)(t:Zj)[h:LstC w0 L v PU rP us]:SpecM prog w0 L 24 [v,vR t] (.tuple #[.int .i64 ((atL us t).getD 0), .bool (atL us t).isSome]) (us.length<=1048576/\(∀u∈us,IvOk B28 u.In)/\RtB t):=⟨fun hp w hw=>Zp1 v us t w (h.out w hw) hp.1 hp.2.1 hp.2.2⟩
end
section
def slO (n:Nat):Option (Nat×Nat×List Value)->Sl
 |none=>⟨none,0,0⟩
 |some t=>⟨some ⟨t.1,0,none⟩,n,t.2.1⟩
section
variable {α : Type} {enc : α -> Array Value} {k : Nat} {xs : List α}
def slOf (s:SlS enc k xs):Sl:=slO xs.length s.s
theorem Zhw (s:SlS enc k xs):vSl s= .slice (slOf s).a (slOf s).len (slOf s).cap:=by
 obtain⟨s,h1,h2⟩:=s
 cases s <;> rfl
instance (priority :=low) lstOf (w0:World)(L:List Blk)(s:SlS enc k xs)[h:LstC w0 L (vSl s) α enc xs]:LstC w0 L (.slice (slOf s).a (slOf s).len (slOf s).cap) α enc xs:=⟨fun w hw=>by rw[<-Zhw];exact h.out w hw⟩
end
end
end Go.Vt
namespace Go.Vt
open Go.RowKit Go.Proofs
open Go.Proofs.Tryz (prog)
abbrev rWS :=ZL
instance ZnL :EncC rWS 12:=⟨fun _=>CsC.size,fun _=>CsC.one⟩
noncomputable def iv6 (l:List WS):List Za:=mpN ivS l (min l.length 8)
set_option maxHeartbeats 8000000 in
theorem Zjy (v:Value)(l:List WS)(w:World)(hv:ArgS w v rWS l)(hl:l.length<=9223372036854775807)(hk:∀x∈l,WSOk x):
  Calls prog 93 [v].toArray w (RetM (SlS rI 20 (iv6 l)) (fun s=>vSl s) (fun s=>mS 37 s) w):=by
 refine Zb Tryz.func93 rfl Tryz.ntmps93 rfl ?_
 obtain⟨p,cp,rfl⟩:=hv.form
 repeat(refine wkB ?_;intros)
 refine ZW (S:=SlS rI 20 (iv6 l)) (fun _=>True) (fun s=>[(3,vSl s)]) (fun s=>mS 37 s) ?_ (fun s _=>?_)
 ·refine Zo (S:=(_:Nat)×(o:List Za)×SlS rI 20 o) (fun q=>q.1<=min l.length 8/\q.2.1=mpN ivS l q.1) (fun q=>[(0, .slice p l.length cp),(3,vSl q.2.2),(4, .int .i64 (q.1:Nat))]) (fun q=>mS 37 q.2.2) (fun q=>8-q.1) ⟨0,[],SlS.no⟩ ⟨Wm _,rfl⟩ sbB suB (fun q hq=>?_)
  obtain⟨i,out,o⟩:=q
  obtain⟨hq,ho⟩:=hq
  dsimp only at hq ho⊢
  have hln:out.length=i:=by rw[ho];exact ZJ ivS l i
  have hend:i=min l.length 8->out=iv6 l:=fun h=>by rw[ho,h];rfl
  have hnxt:out++[ivS (gi l (i:Int))]=mpN ivS l (i+1):=by rw[ho];rfl
  clear ho
  repeat(refine wkB ?_;intros)
  by_cases c1:i<l.length
  ·simp only[Wc (show(i:Int)<(l.length:Nat) by omega)]
   repeat(refine wkB ?_;intros)
   refine Zk rfl (fun h=>?_) (fun h=>?_)
   ·have c2:i<8:=by have:=Wa h;omega
    obtain⟨bw,ow,rfl,hrow'⟩:=hv.opn (k:=11) c1
    have hki:=hk (gi l (i:Int)) (Zu (by omega))
    repeat(first|(refine wkB ?_;intros)|(refine wnM ?_ ?_;(focus(exact hki));intros))
    refine sU (k:=20) (enc:=rI) (s:=o) rfl rfl ?_ ?_ ?_ ?_
    ·rfl
    ·rfl
    ·exact⟨by decide,by omega,by omega⟩
    intro s'
    repeat(first|(refine wkB ?_;intros)|(refine wnM ?_ ?_;(focus(exact⟨by omega,by omega⟩));intros))
    exact Zc ⟨i+1,_,s'⟩ ⟨by show i+1<=min l.length 8;omega,hnxt⟩ sbB suB (by show 8-(i+1)<8-i;omega)
   ·have hge:i=min l.length 8:=by have:=Wb h;omega
    obtain⟨s',f1,f2⟩:=SlS.turn 37 (hend hge) o
    repeat(refine wkB ?_;intros)
    exact Ze s' trivial (by rw[f1];exact sbB) (by rw[f2];exact suB)
  ·have hge:i=min l.length 8:=by omega
   obtain⟨s',f1,f2⟩:=SlS.turn 37 (hend hge) o
   simp only[We (show¬(i:Int)<(l.length:Nat) by omega)]
   repeat(refine wkB ?_;intros)
   exact Ze s' trivial (by rw[f1];exact sbB) (by rw[f2];exact suB)
 repeat(refine wkB ?_;intros)
 exact Zr rfl rfl (fun w hw=>⟨s,rfl,hw.sub suB⟩)
instance Zxp (w0:World)(L:List Blk)(v:Value)(l:List WS)[h:LstC w0 L v WS rWS l]:SpecR prog w0 L 93 [v] (SlS rI 20 (iv6 l)) (fun s=>vSl s) (fun s=>mS 37 s) (l.length<=9223372036854775807/\∀x∈l,WSOk x):=⟨fun hp w hw=>Zjy v l w (h.out w hw) hp.1 hp.2⟩
theorem Zf7 (l:List WS):(iv6 l).length<=8:=by unfold iv6;rw[ZJ];omega
theorem Zsd {l:List WS}:∀i∈iv6 l,∃x∈l,i=ivS x:=fun i hi=>by
 have key:∀m,m<=l.length->∀i∈mpN ivS l m,∃x∈l,i=ivS x:=fun m=>by
  induction m with
  |zero=>intro _ i hi;cases hi
  |succ m ih=>
   intro hm i hi
   rw[mpN,Wv,Wo] at hi
   rcases hi with hi|rfl
   ·exact ih (by omega) i hi
   ·exact⟨_,Zu (by omega),rfl⟩
 exact key _ (by omega) i hi
theorem Zhu {l:List WS}(hk:∀x∈l,WSOk x):∀i∈iv6 l,IvOk 3 i:=fun i hi=>by
 obtain⟨x,hx,rfl⟩:=Zsd i hi
 exact Zqx (hk x hx)
noncomputable def perL (l:List WS):List Za:=nrmS (iv6 l)
theorem Zsg {l:List WS}(hk:∀x∈l,WSOk x):∀i∈perL l,IvOk 3 i:=ZbT (Zhu hk)
theorem ZpL {l:List WS}(hk:∀x∈l,WSOk x):Sep (perL l)/\∀z,HoldP (perL l) z↔HoldP (iv6 l) z:=Zcf (by have:=Zf7 l;omega) (fun i hi=>(Zhu hk i hi).mono (by decide))
theorem Zh2 (v:Value)(l:List WS)(w:World)(hv:ArgS w v rWS l)(hl:l.length<=9223372036854775807)(hk:∀x∈l,WSOk x):
  Calls prog 38 [v].toArray w (RetM (SlS rI 20 (perL l)) (fun s=>vSl s) (fun s=>mS 37 s) w):=by
 have:=ArgC.mk hv
 have h1:=Zf7 l
 have p1:(iv6 l).length<=1024/\∀i∈iv6 l,IvOk B28 i:=⟨by omega,fun i hi=>(Zhu hk i hi).mono (by decide)⟩
 refine Zb Tryz.func38 rfl Tryz.ntmps38 rfl ?_
 repeat(first|(refine wkB ?_;intros)|(refine wnM ?_ ?_;(focus(first|exact⟨hl,hk⟩|exact p1));intros))
 rename_i s1 s2
 exact Zr rfl rfl (fun w hw=>⟨s2,rfl,hw.sub suB⟩)
instance ZvE (w0:World)(L:List Blk)(v:Value)(l:List WS)[h:LstC w0 L v WS rWS l]:SpecR prog w0 L 38 [v] (SlS rI 20 (perL l)) (fun s=>vSl s) (fun s=>mS 37 s) (l.length<=9223372036854775807/\∀x∈l,WSOk x):=⟨fun hp w hw=>Zh2 v l w (h.out w hw) hp.1 hp.2⟩
end Go.Vt
namespace Go.Proofs.YtcgkgdgpdpihmaaGreatDoor
open Go.ChangeShapes Go.WideShapes Go.ChangeAt Go.RowKit Go.Deep Go.Vt
theorem runder75 :Tryz.prog.underlying 75=some (.slice 42):=by kernel_rfl
section
variable {H : Type} {eH : TypeId × Value -> H} {W : World} {base : Nat} {sp : Nat -> Bool} {held : Bool}
theorem Zlv {fuel:Nat}{v:Value}{x:DataW H×List MemPlace}(hs:∃a l c,v= .slice a l c)(h:DataW.trod eH Tryz.prog W base sp held fuel 75 v.cells.toList=some x):
  ∃xs:List WS,ArgS W v rWS xs/\(∀x∈xs,WSOk x)/\xs.length<=9223372036854775807:=by
 obtain⟨a0,l0,c0,rfl⟩:=hs
 rcases open_slice runder75 h with⟨h0,_⟩|⟨a,len,cap,m,n,D,Pl,hcs,hb,hl,hm,hmm,hx,hcl⟩
 ·simp[Value.cells] at h0
  obtain⟨rfl,rfl,rfl⟩:=h0
  exact⟨[],⟨.inl ⟨rfl,rfl⟩⟩,(fun x hx=>by cases hx),by simp⟩
 ·simp[Value.cells] at hcs
  obtain⟨rfl,rfl,rfl⟩:=hcs
  have hlm:l0<=m:=by rw[hmm];split <;> omega
  have each:∀i,i<l0->∃z:WS,(∃cs',W.cells? base (a.add (i*12)) 12=some cs'/\cs'=(rWS z).toList)/\WSOk z:=fun i hi=>by
   obtain⟨cs',c1,c2⟩:=hcl i (by omega)
   rw[rc42] at c1
   obtain⟨z,z1,z2⟩:=ZgZ _ _ _ c2
   exact⟨z,⟨cs',c1,z1⟩,z2⟩
  obtain⟨q,hq⟩:=choose_lt each
  refine⟨(List.range l0).map q,⟨.inr ⟨a,c0,by simp,by simpa using hl,fun i f k' u hi hk hu=>?_⟩⟩,fun z hz=>?_, ?_⟩
  ·simp only[List.length_map,List.length_range] at hi
   obtain rfl:k'=12:=by rw[<-hk default,ZnL.size]
   simp only[List.getElem_map,List.getElem_range] at hu
   obtain⟨cs',c1,c2⟩:=(hq i hi).1
   obtain⟨_,hlen,hcell⟩:=World.cells?_some c1
   have hf:f<12:=by
    have:=(Array.getElem?_eq_some_iff.1 hu).1
    rw[ZnL.size] at this
    exact this
   have h1:=hcell f (by omega)
   rw[add_add] at h1
   rw[h1]
   subst c2
   simpa using hu
  ·obtain⟨i,hi,rfl⟩:=List.mem_map.1 hz
   exact(hq i (List.mem_range.1 hi)).2
  ·simp only[List.length_map,List.length_range]
   have:(maxLen:Nat)=9223372036854775807:=by decide
   omega
end
end Go.Proofs.YtcgkgdgpdpihmaaGreatDoor
namespace Go.Vt
open Go.RowKit Go.Proofs
open Go.Proofs.Tryz (prog)
open Fv (va red)
noncomputable def rsI (u:UL)(ds:List Za):Nat->List UL
 |0=>[]
 |k+1=>rsI u ds k++(if mtO u.In (gi ds (k:Int))=true then [⟨mt u.In (gi ds (k:Int)),u.F⟩] else [])
noncomputable def rsO (us:List UL)(ds:List Za):Nat->List UL
 |0=>[]
 |m+1=>rsO us ds m++rsI (gi us (m:Int)) ds ds.length
theorem ZgI (u:UL)(ds:List Za):∀k,(rsI u ds k).length<=k
 |0=>Wl _
 |k+1=>by
  have:=ZgI u ds k
  rw[rsI,Wp]
  split <;> simp <;> omega
theorem Zdv (us:List UL)(ds:List Za):∀m,(rsO us ds m).length<=m*ds.length
 |0=>by simp[rsO]
 |m+1=>by
  have:=Zdv us ds m
  have:=ZgI (gi us (m:Int)) ds ds.length
  rw[rsO,Wp,Nat.add_mul,Nat.one_mul]
  omega
theorem Zhd (v v2:Value)(us:List UL)(ds:List Za)(w:World)(hv:ArgS w v rU us)(hd:ArgS w v2 rI ds)(hl:us.length<=1024)(hl2:ds.length<=1024)(h19:NrP (rsO us ds us.length))(hok:∀u∈us,IvOk BQ u.In)(hok2:∀d∈ds,IvOk BQ d)(hin:∀u∈rsO us ds us.length,UIn u):
  Calls prog 99 [vLabels,v,v2].toArray w (RetM (SlS rU 21 (nrmR (rsO us ds us.length))) (fun s=>vSl s) (fun s=>mS 145 s) w):=by
 refine Zb Tryz.func99 rfl Tryz.ntmps99 rfl ?_
 obtain⟨p,cp,rfl⟩:=hv.form
 obtain⟨p2,cp2,rfl⟩:=hd.form
 repeat(refine wkB ?_;intros)
 refine Zo (S:=(m:Nat)×SlS rU 21 (rsO us ds m)) (fun s=>s.1<=us.length) (fun s=>[(0,vLabels),(2, .slice p2 ds.length cp2),(7,vSl s.2),(14, .slice p us.length cp),(15, .int .i64 us.length),(16, .int .i64 (s.1:Nat))]) (fun s=>mS 145 s.2) (fun s=>us.length-s.1) ⟨0,SlS.no⟩ (Wm _) sbB slB (fun s hm=>?_)
 obtain⟨m,s⟩:=s
 simp only at hm⊢
 repeat(refine wkB ?_;intros)
 refine Zk rfl (fun h=>?_) (fun h=>?_)
 ·have hlt:m<us.length:=by have:=Wa h;omega
  have hne:us≠[]:=fun h0=>by rw[h0] at hlt;simp at hlt
  obtain⟨bw,ow,cw,hvw,hcw,hrow⟩:=hv.blk (k:=20) hne []
  injection hvw with e1 e2 e3
  subst e1
  subst e3
  have hrow':∀L,RowC w L bw ow UL rU us:=fun L=>⟨fun w' hw'=>hrow.out w' (hw'.sub (Wk _))⟩
  have hro:=Zdv us ds m
  have hmul:m*ds.length<=1024*1024:=Nat.mul_le_mul (by omega) hl2
  repeat(refine wkB ?_;intros)
  rename_i b9
  refine Zf6 (mS 145 s++[⟨b9,rU (gi us (m:Int)),145⟩]) (List.perm_append_singleton _ _).symm ?_
  refine Zo (S:=(xs:List UL)×Nat×SlS rU 21 xs) (fun s=>s.2.1<=ds.length/\s.1=rsO us ds m++rsI (gi us (m:Int)) ds s.2.1) (fun s=>[(0,vLabels),(2, .slice p2 ds.length cp2),(7,vSl s.2.2),(9, .pointer (some ⟨b9,0,none⟩)),(14, .slice (some ⟨bw,ow,none⟩) us.length cp),(15, .int .i64 us.length),(16, .int .i64 (m:Nat)),(20, .slice p2 ds.length cp2),(21, .int .i64 ds.length),(22, .int .i64 (s.2.1:Nat))]) (fun s=>mS 145 s.2.2++[⟨b9,rU (gi us (m:Int)),145⟩]) (fun s=>ds.length-s.2.1) ⟨rsO us ds m,0,s⟩ ⟨Wm _,(Wh _).symm⟩ sbB suB (fun s hk=>?_)
  obtain⟨xs,k,s⟩:=s
  obtain⟨hk,hxs⟩:=hk
  simp only at hk hxs⊢
  have hxl:xs.length<=1049600:=by
   have:=ZgI (gi us (m:Int)) ds k
   rw[hxs,Wp]
   omega
  repeat(refine wkB ?_;intros)
  refine Zk rfl (fun h=>?_) (fun h=>?_)
  ·have hlt2:k<ds.length:=by have:=Wa h;omega
   obtain⟨bd,od,rfl,hrowd'⟩:=hd.opn (k:=19) hlt2
   have ho:=hok _ (Zu (i:=(m:Int)) (xs:=us) (by omega))
   have ho2:=hok2 _ (Zu (i:=(k:Int)) (xs:=ds) (by omega))
   repeat(first|(refine wkB ?_;intros)|(refine wnM ?_ ?_;(focus(exact⟨ho,ho2⟩));intros))
   rcases hmo:mtO (gi us (m:Int)).In (gi ds (k:Int)) with _|_
   ·have e:xs=rsO us ds m++rsI (gi us (m:Int)) ds (k+1):=by rw[rsI,hmo,if_neg (by decide),Wh];exact hxs
    repeat(first|(refine wkB ?_;intros)|(refine wnM ?_ ?_;(focus(exact⟨by omega,by omega⟩));intros))
    exact Zc ⟨xs,k+1,s⟩ ⟨hlt2,e⟩ sbB suB (by show ds.length-(k+1)<ds.length-k;omega)
   ·have e:xs++[⟨mt (gi us (m:Int)).In (gi ds (k:Int)),(gi us (m:Int)).F⟩]=rsO us ds m++rsI (gi us (m:Int)) ds (k+1):=by rw[rsI,hmo,if_pos rfl,<-List.append_assoc,<-hxs]
    repeat(refine wkB ?_;intros)
    refine sU rfl rfl ?_ ?_ ?_ ?_
    ·rfl
    ·rfl
    ·exact⟨by decide,by omega,by omega⟩
    intro s'
    repeat(first|(refine wkB ?_;intros)|(refine wnM ?_ ?_;(focus(exact⟨by omega,by omega⟩));intros))
    exact Zc ⟨_,k+1,s'⟩ ⟨hlt2,e⟩ sbB suB (by show ds.length-(k+1)<ds.length-k;omega)
  ·have hge:k=ds.length:=by have:=Wb h;omega
   subst hge
   repeat(first|(refine wkB ?_;intros)|(refine wnM ?_ ?_;(focus(exact⟨by omega,by omega⟩));intros))
   subst hxs
   exact Zc ⟨m+1,s⟩ hlt sbB suB (by show us.length-(m+1)<us.length-m;omega)
 ·have hge:m=us.length:=by have:=Wb h;omega
  subst hge
  repeat(first|(refine wkB ?_;intros)|(refine wnM ?_ ?_;(focus(exact⟨h19,hin⟩));intros))
  rename_i s2
  exact Zr rfl rfl (fun w hw=>⟨s2,rfl,hw.sub suB⟩)
end Go.Vt
/-
 DERIVED: THE SHELF's CONTRACTS AT THIS DUMP, IN PLAIN WORDS (tools/lay-plain.mjs out of 'YtcgkgdgpdpihmaaGreatDoorLayGr.lean', which tools/lay-shelf.mjs wrote): THE SAME DECLARATIONS UNDER THE SAME NAMES: 'import', 'namespace', 'open', 'def', 'theorem' AND NOTHING ELSE: no command of the shelf's: FOR A HAND-IN. Each laying: the table of numbers ('.._ren') and one theorem, a field a fact of the dump's own or the kernel's comparison; each contract: ONE APPLICATION.
-/
namespace Go.Proofs
open Go.Shelf
def Tryz.lGrP_ren :Go.Shelf.Ren:=⟨fun|4=>137|n=>n,fun|22=>22|25=>46|3=>3|4=>4|9=>9|20=>20|0=>0|n=>n,fun|n=>n⟩
def Tryz.lGrU_ren :Go.Shelf.Ren:=⟨fun|4=>182|n=>n,fun|22=>110|25=>145|3=>3|4=>4|9=>9|20=>20|0=>0|n=>n,fun|n=>n⟩
theorem Tryz.lGrU :Go.Proofs.Lays8.n4 Tryz.prog Tryz.lGrU_ren:={
 mixed:=by kernel_rfl
 f4:=⟨Tryz.f182.name,by decide,Tryz.func182.trans (congrArg some (by kernel_rfl))⟩
 t0:=Tryz.underlying0
 a0:=Tryz.isAgg0
 z0:=Tryz.sizeOf0
 v0:=Tryz.zeroValue0
 t3:=Tryz.underlying3
 a3:=Tryz.isAgg3
 z3:=Tryz.sizeOf3
 v3:=Tryz.zeroValue3
 t4:=Tryz.underlying4
 a4:=Tryz.isAgg4
 z4:=Tryz.sizeOf4
 v4:=Tryz.zeroValue4
 t9:=Tryz.underlying9
 a9:=Tryz.isAgg9
 z9:=Tryz.sizeOf9
 v9:=Tryz.zeroValue9
 t20:=Tryz.underlying20
 a20:=Tryz.isAgg20
 z20:=Tryz.sizeOf20
 v20:=Tryz.zeroValue20
 t22:=Tryz.underlying110
 a22:=Tryz.isAgg110
 z22:=Tryz.sizeOf110
 v22:=Tryz.zeroValue110}
end Go.Proofs
namespace Go.Vt
open Go.RowKit Go.Proofs
open Go.Proofs.Tryz (prog)
section
theorem ZpC {α:Type}{enc:α->Array Value}{k:Nat}(w:World)(c:Nat)(cs:Array Value)(T:TypeId)(hsz:cs.size=c*k):∃s:FlS enc k ([]:List α),vF s= .slice (some ⟨w.heap.size,0,none⟩) 0 c/\Own w (mF T s) (w.drew.alloc (.cells cs T)):=
 ⟨⟨some (w.heap.size,c,cs.toList),(fun h=>by cases h),fun t ht=>by injection ht with ht;subst ht;exact⟨Wm _,by simp[hsz]⟩⟩,rfl,by
  have h3:=((Own.start w).to (Ext.drew w)).alloc cs T
  have e:row enc [] cs.toList=cs:=by simp[row,rowL]
  show Own w [⟨w.heap.size,row enc [] cs.toList,T⟩] _
  rw[e]
  exact h3⟩
end
section
instance ZC8 (x:Sl):LdC prog 110 (eSlc x) 0 (.slice x.a x.len x.cap):=⟨ZF⟩
instance ZCB (a a':Option Addr)(l l' c c':Nat):BsC prog 220 2 [(0, .slice a l c),(1, .slice a' l' c')] (row eSlc [⟨a,l,c⟩,⟨a',l',c'⟩] []) 110:=⟨fun w=>by kernel_rfl⟩
theorem Zl0 (w:World):Calls prog 182 #[.slice none 0 0, .int .i64 ((0:Nat):Int)] w (fun e w'=>∃s:FlS rU 21 ([]:List UL),e= .returned (vF s)/\Own w (mF 145 s) w'/\vF s= .slice none 0 0/\mF 145 s=[]):=
 (Any8.slices_Grow_room Tryz.lGrU none 0 0 0 w (Wl _) (by decide) (by decide) (Wl _)).mono fun e w' ⟨h1,h2⟩=>by
  subst h1 h2
  exact⟨⟨none,fun _=>rfl,(fun t ht=>by cases ht)⟩,rfl,Own.start _,rfl,rfl⟩
theorem Zle (n:Nat)(h0:0<n)(hn:n<=65536)(w:World):Calls prog 182 #[.slice none 0 0, .int .i64 (n:Nat)] w (RetM (FlS rU 21 ([]:List UL)) (fun s=>vF s) (fun s=>mF 145 s) w):=by
 have hz:=(inferInstance:ZeroC prog 145 _ _)
 obtain⟨i,hi,hik⟩:=ZaJ (SizeC.out (P:=prog) (T:=145) (k:=21))
 obtain⟨i',hi',hiB⟩:=ZaJ (BytesC.out (P:=prog) (T:=145))
 obtain rfl:i'=i:=Option.some.inj (hi'.symm.trans hi)
 have hz':=hz.out
 rw[hi] at hz'
 have hb:=grownCap_ge w (0+n) 0 145
 refine(Any8.slices_Grow_grow Tryz.lGrU i' _ hi (by simpa using hz') (by rw[hik];decide) none 0 0 n [] w (Wl _) (by omega) (by rw[hiB];omega) (by omega) (by simp) (fun _=>rfl) (fun a ha=>by cases ha)).mono fun e w' h=>?_
 obtain⟨h1,h2⟩:=h
 subst h1 h2
 have hzc:=hz.cells
 generalize (.agg (ZaB ZaN):Value)=z at hz' hzc⊢
 have hsz:(([]:List Value).toArray++Builtin.zeroCells z.cells (0+n-0)++Builtin.zeroCells z.cells (grownCap w (0+n) 0 145-(0+n))).size=grownCap w (0+n) 0 145*21:=by
  rw[Array.size_append,Array.size_append,size_zeroCells,size_zeroCells,hzc]
  show 0+(0+n-0)*21+(grownCap w (0+n) 0 145-(0+n))*21=_
  omega
 obtain⟨s,e1,e2⟩:=ZpC (α:=UL) (enc:=rU) (k:=21) w (grownCap w (0+n) 0 145) _ 145 hsz
 exact⟨s,congrArg Ending.returned e1.symm,e2⟩
instance ZzT (w0:World)(L:List Blk)(n:Nat):SpecR prog w0 L 182 [.slice none 0 0, .int .i64 (n:Nat)] {s:FlS rU 21 ([]:List UL) // n=0->vF s= .slice none 0 0/\mF 145 s=[]} (fun s=>vF s.1) (fun s=>mF 145 s.1) (n<=65536):=⟨fun hp w _=>by
 rcases Nat.eq_zero_or_pos n with h0|h0
 ·subst h0
  exact(Zl0 w).mono fun e w' ⟨s,h1,h2,h3,h4⟩=>⟨⟨s,fun _=>⟨h3,h4⟩⟩,h1,h2⟩
 ·exact(Zle n h0 hp w).mono fun e w' ⟨s,h1,h2⟩=>⟨⟨s,fun h=>absurd h (by omega)⟩,h1,h2⟩⟩
def ccU (xs ys:List UL):Nat->List UL
 |0=>[]
 |1=>xs
 |_+2=>xs++ys
theorem Zrw (xs ys:List UL)(m:Nat):(ccU xs ys m).length<=xs.length+ys.length:=by
 match m with
 |0=>exact Wm _
 |1=>exact Nat.le_add_right _ _
 |m+2=>exact Nat.le_of_eq Wp
set_option maxHeartbeats 8000000 in
theorem ZlN (v:Value)(p1 p2:Option Addr)(c1 c2:Nat)(xs ys:List UL)(w:World)(hv:ArgS w v eSlc [⟨p1,xs.length,c1⟩,⟨p2,ys.length,c2⟩])(h1:ArgS w (.slice p1 xs.length c1) rU xs)(h2:ArgS w (.slice p2 ys.length c2) rU ys)(hl:xs.length+ys.length<=65536):
  Calls prog 143 [v].toArray w (RetM (SlS rU 21 (xs++ys)) (fun s=>vSl s) (fun s=>mS 145 s) w):=by
 have:=ArgC.mk h1
 have:=ArgC.mk h2
 obtain⟨ss,hss⟩:∃ss:List Sl,ss=[⟨p1,xs.length,c1⟩,⟨p2,ys.length,c2⟩]:=⟨_,rfl⟩
 rw[<-hss] at hv
 have hsl:ss.length=2:=by rw[hss];rfl
 have g0:gi ss ((0:Nat):Int)=⟨p1,xs.length,c1⟩:=by rw[hss];rfl
 have g1:gi ss ((1:Nat):Int)=⟨p2,ys.length,c2⟩:=by rw[hss];rfl
 obtain⟨bw,ow,cp,hvw,hcw,hrow⟩:=hv.blk (k:=0) (by rw[hss];simp) []
 rw[hsl] at hvw
 subst hvw
 have hrow':∀L,RowC w L bw ow Sl eSlc ss:=fun L=>⟨fun w' hw'=>hrow.out w' (hw'.sub (Wk _))⟩
 clear hss
 have hcl:=Zrw xs ys
 refine Zb Tryz.func143 rfl Tryz.ntmps143 rfl ?_
 repeat(refine wkB ?_;intros)
 refine ZW (S:=Unit) (fun _=>True) (fun _=>[(0, .slice (some ⟨bw,ow,none⟩) 2 cp),(3, .int .i64 ((xs.length+ys.length:Nat):Int))]) (fun _=>[]) ?_ (fun _ _=>?_)
 ·refine Zo (S:=Nat) (fun m=>m<=2) (fun m=>[(0, .slice (some ⟨bw,ow,none⟩) 2 cp),(3, .int .i64 (((ccU xs ys m).length:Nat):Int)),(9, .slice (some ⟨bw,ow,none⟩) 2 cp),(10, .int .i64 2),(11, .int .i64 (m:Nat))]) (fun _=>[]) (fun m=>2-m) 0 (Wm _) sbB suB (fun m hm=>?_)
  repeat(refine wkB ?_;intros)
  refine Zk rfl (fun h=>?_) (fun h=>?_)
  ·have hlt:m<2:=by have:=Wa h;omega
   have hs:((ccU xs ys m).length:Int)+((gi ss (m:Int)).len:Int)=((ccU xs ys (m+1)).length:Int):=by
    rcases(by omega:m=0\/m=1) with rfl|rfl
    ·rw[g0];simp[ccU]
    ·rw[g1];simp[ccU]
   have hm1:=hcl (m+1)
   repeat(refine wkB ?_;intros)
   rw[hs]
   exact Zc (m+1) (show m+1<=2 by omega) sbB suB (by show 2-(m+1)<2-m;omega)
  ·have hge:m=2:=by have:=Wb h;omega
   subst hge
   have hs:((ccU xs ys 2).length:Int)=((xs.length+ys.length:Nat):Int):=by simp[ccU]
   rw[hs]
   repeat(refine wkB ?_;intros)
   exact Ze () trivial sbB suB
 repeat(first|(refine wkB ?_;intros)|(refine wnM ?_ ?_;(focus(exact hl));intros))
 rename_i s
 refine ZW (S:=SlS rU 21 (xs++ys)) (fun _=>True) (fun s=>[(6,vSl s)]) (fun s=>mS 145 s) ?_ (fun s _=>?_)
 ·refine Zo (S:=(m:Nat)×{s:FlS rU 21 (ccU xs ys m) // xs.length+ys.length=0->vF s= .slice none 0 0/\mF 145 s=[]}) (fun q=>q.1<=2) (fun q=>[(6,vF q.2.1),(25, .slice (some ⟨bw,ow,none⟩) 2 cp),(26, .int .i64 2),(27, .int .i64 (q.1:Nat))]) (fun q=>mF 145 q.2.1) (fun q=>2-q.1) ⟨0,s⟩ (Wm _) sbB suB (fun q hm=>?_)
  obtain⟨m,s,hs⟩:=q
  dsimp only at hm hs⊢
  repeat(refine wkB ?_;intros)
  refine Zk rfl (fun h=>?_) (fun h=>?_)
  ·have hlt:m<2:=by have:=Wa h;omega
   by_cases hz0:xs.length+ys.length=0
   ·obtain rfl:xs=[]:=List.length_eq_zero_iff.1 (by omega)
    obtain rfl:ys=[]:=List.length_eq_zero_iff.1 (by omega)
    obtain⟨e1,e2⟩:=hs hz0
    simp only[e1,e2]
    rcases(by omega:m=0\/m=1) with rfl|rfl
    ·repeat(refine wkB ?_;intros)
     simp only[g0]
     refine sVA (k:=20) (enc:=rU) (s:=SlS.no) (hx:=⟨rfl⟩) (hd:=⟨List.Perm.refl _⟩) rfl rfl ?_ ?_ ?_
     ·rfl
     ·exact⟨by decide,by decide⟩
     intro s'
     rcases s'.cases 145 with⟨_,q1,q2⟩|⟨_,_,_,_,_,_,hne⟩
     ·simp only[q1,q2]
      repeat(refine wkB ?_;intros)
      exact Zc ⟨1,⟨(⟨none,fun _=>rfl,(fun t ht=>by cases ht)⟩:FlS rU 21 ([]:List UL)),fun _=>⟨rfl,rfl⟩⟩⟩ (show 1<=2 by decide) sbB suB (show 2-1<2-0 by decide)
     ·exact absurd rfl hne
    ·repeat(refine wkB ?_;intros)
     simp only[g1]
     refine sVA (k:=20) (enc:=rU) (s:=SlS.no) (hx:=⟨rfl⟩) (hd:=⟨List.Perm.refl _⟩) rfl rfl ?_ ?_ ?_
     ·rfl
     ·exact⟨by decide,by decide⟩
     intro s'
     rcases s'.cases 145 with⟨_,q1,q2⟩|⟨_,_,_,_,_,_,hne⟩
     ·simp only[q1,q2]
      repeat(refine wkB ?_;intros)
      exact Zc ⟨2,⟨(⟨none,fun _=>rfl,(fun t ht=>by cases ht)⟩:FlS rU 21 ([]:List UL)),fun _=>⟨rfl,rfl⟩⟩⟩ (show 2<=2 by decide) sbB suB (show 2-2<2-1 by decide)
     ·exact absurd rfl hne
   ·have k0:=hcl 0
    have k1:=hcl 1
    rcases(by omega:m=0\/m=1) with rfl|rfl
    ·repeat(refine wkB ?_;intros)
     simp only[g0]
     refine sVF (k:=20) (enc:=rU) (s:=s) rfl rfl ?_ ?_ ?_
     ·rfl
     ·have:(ccU xs ys 0).length=0:=rfl
      exact⟨by omega,by omega⟩
     intro s'
     obtain⟨s2,f1,f2⟩:=FlS.like s' (show ccU xs ys 1=ccU xs ys 0++xs from rfl)
     repeat(refine wkB ?_;intros)
     exact Zc ⟨1,⟨s2,fun h=>absurd h hz0⟩⟩ (show 1<=2 by decide) (by dsimp only;rw[f1];exact sbB) (by dsimp only;rw[f2];exact suB) (show 2-1<2-0 by decide)
    ·repeat(refine wkB ?_;intros)
     simp only[g1]
     refine sVF (k:=20) (enc:=rU) (s:=s) rfl rfl ?_ ?_ ?_
     ·rfl
     ·have:(ccU xs ys 1).length=xs.length:=rfl
      exact⟨by omega,by omega⟩
     intro s'
     obtain⟨s2,f1,f2⟩:=FlS.like s' (show ccU xs ys 2=ccU xs ys 1++ys from rfl)
     repeat(refine wkB ?_;intros)
     exact Zc ⟨2,⟨s2,fun h=>absurd h hz0⟩⟩ (show 2<=2 by decide) (by dsimp only;rw[f1];exact sbB) (by dsimp only;rw[f2];exact suB) (show 2-2<2-1 by decide)
  ·have hge:m=2:=by have:=Wb h;omega
   subst hge
   by_cases hz0:xs.length+ys.length=0
   ·obtain rfl:xs=[]:=List.length_eq_zero_iff.1 (by omega)
    obtain rfl:ys=[]:=List.length_eq_zero_iff.1 (by omega)
    obtain⟨e1,e2⟩:=hs hz0
    simp only[e1,e2]
    repeat(refine wkB ?_;intros)
    exact Ze (SlS.no:SlS rU 21 ([]:List UL)) trivial sbB suB
   ·obtain⟨s2,f1,f2⟩:=FlS.sl s (show ccU xs ys 2≠[] from fun h=>hz0 (by have:=congrArg List.length h;simpa [ccU] using this))
    simp only[<-f1,<-f2]
    repeat(refine wkB ?_;intros)
    exact Ze (S:=SlS rU 21 (xs++ys)) s2 trivial sbB suB
 repeat(refine wkB ?_;intros)
 exact Zr rfl rfl (fun w hw=>⟨s,rfl,hw.sub suB⟩)
instance ZyS (w0:World)(L:List Blk)(b:Nat)(T:TypeId)(x1 x2:Sl)(xs ys:List UL)[h:AtC w0 L b (row eSlc [x1,x2] []) T][h1:LstC w0 L (.slice x1.a x1.len x1.cap) UL rU xs][h2:LstC w0 L (.slice x2.a x2.len x2.cap) UL rU ys]:SpecR prog w0 L 143 [.slice (some ⟨b,0,none⟩) 2 2] (SlS rU 21 (xs++ys)) (fun s=>vSl s) (fun s=>mS 145 s) (xs.length+ys.length<=65536):=⟨fun hp w hw=>by
 have a1:=h1.out w hw
 have a2:=h2.out w hw
 obtain⟨p1,c1,e1⟩:=a1.form
 obtain⟨p2,c2,e2⟩:=a2.form
 obtain⟨q1,n1,k1⟩:=x1
 obtain⟨q2,n2,k2⟩:=x2
 dsimp only at a1 a2 e1 e2
 injection e1 with i1 i2 i3
 injection e2 with j1 j2 j3
 subst i1 i2 i3 j1 j2 j3
 obtain⟨fz,hb⟩:=h.out w hw
 exact ZlN _ _ _ _ _ xs ys w (Zbz (c:=2) hb (Wl _)) a1 a2 hp⟩
end
section
structure RsP (us:List UL)(ds:List Za):Prop where
 l:us.length<=1024
 l2:ds.length<=1024
 n:NrP (rsO us ds us.length)
 k:∀u∈us,IvOk BQ u.In
 k2:∀d∈ds,IvOk BQ d
 i:∀u∈rsO us ds us.length,UIn u
instance ZuF (w0:World)(L:List Blk)(v v2:Value)(us:List UL)(ds:List Za)[h1:LstC w0 L v UL rU us][h2:LstC w0 L v2 Za rI ds]:SpecR prog w0 L 99 [vLabels,v,v2] (SlS rU 21 (nrmR (rsO us ds us.length))) (fun s=>vSl s) (fun s=>mS 145 s) (RsP us ds):=⟨fun hp w hw=>Zhd v v2 us ds w (h1.out w hw) (h2.out w hw) hp.l hp.l2 hp.n hp.k hp.k2 hp.i⟩
noncomputable def ppY (A B:List UL):List UL:=nrmR (rsO A (swpR kpM (swpR kpU (mpN ivU A A.length) []) (swpR kpU (mpN ivU B B.length) [])) A.length)
structure PpP (A B:List UL):Prop where
 s1:SwOk (mpN ivU A A.length) []
 s2:SwOk (mpN ivU B B.length) []
 s3:SwOk (swpR kpU (mpN ivU A A.length) []) (swpR kpU (mpN ivU B B.length) [])
 rs:RsP A (swpR kpM (swpR kpU (mpN ivU A A.length) []) (swpR kpU (mpN ivU B B.length) []))
 ly:(ppY A B).length+B.length<=65536
 n:NrP (ppY A B++B)/\∀u∈ppY A B++B,UIn u
theorem ZjH (v v2:Value)(A B:List UL)(w:World)(hv:ArgS w v rU A)(h2:ArgS w v2 rU B)(hp:PpP A B):
  Calls prog 101 [vLabels,v,v2].toArray w (RetM (SlS rU 21 (nrmR (ppY A B++B))) (fun s=>vSl s) (fun s=>mS 145 s) w):=by
 have:=ArgC.mk hv
 have:=ArgC.mk h2
 obtain⟨s1,s2,s3,rs,ly,n⟩:=hp
 unfold ppY at*
 obtain⟨p2,c2,rfl⟩:=h2.form
 refine Zb Tryz.func101 rfl Tryz.ntmps101 rfl ?_
 repeat(first|(refine wkB ?_;intros)|(refine wnM ?_ ?_;(focus(first|exact s1|exact s2|exact s3|exact rs));intros))
 simp only[Zhw]
 repeat(first|(refine wkB ?_;intros)|(refine wnM ?_ ?_;(focus(first|exact ly|exact n));intros))
 rename_i s
 exact Zr rfl rfl (fun w hw=>⟨s,congrArg Ending.returned (Zhw s),hw.sub suB⟩)
instance ZxZ (w0:World)(L:List Blk)(v v2:Value)(A B:List UL)[h1:LstC w0 L v UL rU A][h2:LstC w0 L v2 UL rU B]:SpecR prog w0 L 101 [vLabels,v,v2] (SlS rU 21 (nrmR (ppY A B++B))) (fun s=>vSl s) (fun s=>mS 145 s) (PpP A B):=⟨fun hp w hw=>ZjH v v2 A B w (h1.out w hw) (h2.out w hw) hp⟩
theorem Zgr (v v2:Value)(a:List PU)(d:List Za)(w:World)(hv:ArgS w v rP a)(h2:ArgS w v2 rI d)(hla:a.length<=1048576)(hp:RsP (mpN toU a a.length) d)(hl:(nrmR (rsO (mpN toU a a.length) d (mpN toU a a.length).length)).length<=1048576):
  Calls prog 49 [v,v2].toArray w (RetM (SlS rP 21 (mpN ofU (nrmR (rsO (mpN toU a a.length) d (mpN toU a a.length).length)) (nrmR (rsO (mpN toU a a.length) d (mpN toU a a.length).length)).length)) (fun s=>vSl s) (fun s=>mS 46 s) w):=by
 have:=ArgC.mk hv
 have:=ArgC.mk h2
 refine Zb Tryz.func49 rfl Tryz.ntmps49 rfl ?_
 repeat(refine wkB ?_;intros)
 (refine ZE (.v [0,1,2,4] (.e1 3 (.e1 5 (.e1 6 (.e1 7 (.fin)))))) (([]:List Blk)) (h:=?_);refine wkX ?_)
 (repeat(refine wkH ?_))
 repeat(first|(refine wkT ?_;intros)|(refine tC rfl rfl ?_ ?_;focus(first|exact hla|exact hp|exact hl))|(refine uC rfl rfl ?_ ?_;focus(first|exact hla|exact hp|exact hl))|(refine eN rfl rfl ?_ ?_;(focus(first|exact hla|exact hp|exact hl));intro _;(try simp only[Wf,Wg,Wh])))
 rename_i s1 s2 s3
 repeat(refine wkB ?_;intros)
 exact Zr rfl rfl (fun w hw=>⟨s3,rfl,hw.sub suB⟩)
structure MrQ (a:List PU)(d:List Za):Prop where
 la:a.length<=1048576
 rs:RsP (mpN toU a a.length) d
 lr:(nrmR (rsO (mpN toU a a.length) d (mpN toU a a.length).length)).length<=1048576
noncomputable def mrR (a:List PU)(d:List Za):List PU:=mpN ofU (nrmR (rsO (mpN toU a a.length) d (mpN toU a a.length).length)) (nrmR (rsO (mpN toU a a.length) d (mpN toU a a.length).length)).length
instance Zs9 (w0:World)(L:List Blk)(v v2:Value)(a:List PU)(d:List Za)[h1:LstC w0 L v PU rP a][h2:LstC w0 L v2 Za rI d]:SpecR prog w0 L 49 [v,v2] (SlS rP 21 (mrR a d)) (fun s=>vSl s) (fun s=>mS 46 s) (MrQ a d):=⟨fun hp w hw=>Zgr v v2 a d w (h1.out w hw) (h2.out w hw) hp.la hp.rs hp.lr⟩
noncomputable def mpM (a b:List PU):List Za:=swpR kpM (pDom a) (pDom b)
noncomputable def mpY (a b:List PU):List UL:=nrmR (rsO (mpN toU a a.length) (mpM a b) (mpN toU a a.length).length)
noncomputable def mpR (a b:List PU):List PU:=mpN ofU (nrmR (mpY a b++mpN toU b b.length)) (nrmR (mpY a b++mpN toU b b.length)).length
structure MpQ (a b:List PU):Prop where
 la:a.length<=1048576
 lb:b.length<=1048576
 p:PpP (mpN toU a a.length) (mpN toU b b.length)
 lr:(nrmR (mpY a b++mpN toU b b.length)).length<=1048576
theorem Zjb (v v2:Value)(a b:List PU)(w:World)(hv:ArgS w v rP a)(h2:ArgS w v2 rP b)(hp:MpQ a b):
  Calls prog 51 [v,v2].toArray w (RetM (SlS rP 21 (mpR a b)) (fun s=>vSl s) (fun s=>mS 46 s) w):=by
 have:=ArgC.mk hv
 have:=ArgC.mk h2
 obtain⟨la,lb,p,lr⟩:=hp
 have e:mpY a b=ppY (mpN toU a a.length) (mpN toU b b.length):=rfl
 unfold mpR
 rw[e] at*
 refine Zb Tryz.func51 rfl Tryz.ntmps51 rfl ?_
 repeat(refine wkB ?_;intros)
 refine ZY (S:=SlS rP 21 (mpN ofU (nrmR (ppY (mpN toU a a.length) (mpN toU b b.length)++mpN toU b b.length)) (nrmR (ppY (mpN toU a a.length) (mpN toU b b.length)++mpN toU b b.length)).length)) (fun _=>True) (fun s=>[(4,vSl s)]) (fun s=>mS 46 s) ?_ (fun s _=>?_)
 ·(refine ZE (.v [0,1,2,4] (.e1 3 (.e1 5 (.e1 6 (.e1 7 (.e1 8 (.fin))))))) (([]:List Blk)) (h:=?_);refine wkX ?_)
  repeat' (first|(with_reducible refine And.intro ?_ ?_)|(with_reducible exact True.intro)|(refine wkT ?_;intros)|(refine tC rfl rfl ?_ ?_;focus(first|exact la|exact lb|exact p|exact lr))|(refine uC rfl rfl ?_ ?_;focus(first|exact la|exact lb|exact p|exact lr))|(refine eN rfl rfl ?_ ?_;(focus(first|exact la|exact lb|exact p|exact lr));intro _;(try simp only[Wf,Wg,Wh]))|fail)
  all_goals(rename_i s;exact Ze s trivial sbB suB)
 repeat(refine wkB ?_;intros)
 exact Zr rfl rfl (fun w hw=>⟨s,rfl,hw.sub suB⟩)
instance Zyh (w0:World)(L:List Blk)(v v2:Value)(a b:List PU)[h1:LstC w0 L v PU rP a][h2:LstC w0 L v2 PU rP b]:SpecR prog w0 L 51 [v,v2] (SlS rP 21 (mpR a b)) (fun s=>vSl s) (fun s=>mS 46 s) (MpQ a b):=⟨fun hp w hw=>Zjb v v2 a b w (h1.out w hw) (h2.out w hw) hp⟩
end
end Go.Vt
