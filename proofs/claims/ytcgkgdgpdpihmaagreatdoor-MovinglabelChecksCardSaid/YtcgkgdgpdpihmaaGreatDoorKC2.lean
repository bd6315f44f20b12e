/- For any up to 12 units whose ends have up to 20 bytes, and for any decoded moving label (up to 8 stretches), Check returns OK or the first error. Conditions: none. (part 2 of 28.) Conditions: those that each statement names. -/
import Derived.Laws.IdiomStrings
import Derived.Laws.Slices
import Derived.Laws.BytesArg
import Derived.Test.YtcgkgdgpdpihmaaGreatDoorKC1
set_option linter.unusedSimpArgs false
set_option linter.unusedVariables false
set_option maxHeartbeats 2000000
namespace Go.Vt
open Go.RowKit
section
variable {P : Program} {w0 : World} {n : Nat} {ops : Array Oper} {L : List Blk} {E : Env}
variable {Q : Exit -> Act -> World -> Prop} {rest : List Oper} {v : Value}
def YieldsC (P:Program)(w0:World)(L:List Blk)(ops:Array Oper)(o:Oper)(v:Value)(a:Act):Prop:=
 (Region.wanted o (yielded ops a.tmps)=true/\∀w,Own w0 L w->calm P o a w v)\/(Region.wanted o (yielded ops a.tmps)=false/\v=undef)
theorem YieldsC.same {o:Oper}{a a':Act}(hy:YieldsC P w0 L ops o v a)(he:execOp a'.eval o=execOp a.eval o)(hw:Region.wanted o (yielded ops a'.tmps)=Region.wanted o (yielded ops a.tmps)):YieldsC P w0 L ops o v a':=by
 unfold YieldsC calm at*
 rw[he,hw]
 exact hy
def isNew (o:Oper):Option TypeId:=
 match o.op,o.guard,o.dst with
 | .alloc T,none,some _=>some T
 |_,_,_=>none
theorem ZbQ {o:Oper}{T:TypeId}(h:isNew o=some T):o.op= .alloc T/\o.guard=none/\∃d,o.dst=some d:=by
 unfold isNew at h
 split at h
 ·rename_i h1 h2 h3
  simp only[Option.some.injEq] at h
  subst h
  exact⟨h1,h2,_,h3⟩
 ·cases h
def hOp (P:Program)(w0:World)(L:List Blk)(ops:Array Oper)(m:Nat)(i:Nat)(K:Act->Prop)(a:Act):Prop:=
 match ops[i]? with
 |none=>False
 |some o=>if i<m then∃v,YieldsC P w0 L ops o v a/\K (a.put o.dst v) else∀b,K (a.put o.dst (.pointer (some ⟨b,0,none⟩)))
def wpH (P:Program)(w0:World)(L:List Blk)(ops:Array Oper)(m k:Nat)(F:Array Bool->Act->Prop):Nat->Array Bool->Act->Prop
 |0,listed,a=>F listed a
 |f+1,listed,a=>Region.ready .any ops listed≠[]/\∀i∈Region.ready .any ops listed,i<k/\hOp P w0 L ops m i (wpH P w0 L ops m k F f (listed.setIfInBounds i true)) a
theorem Zpe {m i:Nat}{K K':Act->Prop}{a:Act}(h:∀a,K a->K' a)(hh:hOp P w0 L ops m i K a):hOp P w0 L ops m i K' a:=by
 unfold hOp at*
 split at hh
 ·exact hh.elim
 ·split at hh
  ·rename_i hlt
   rw[if_pos hlt]
   obtain⟨v,h1,h2⟩:=hh
   exact⟨v,h1,h _ h2⟩
  ·rename_i hlt
   rw[if_neg hlt]
   exact fun b=>h _ (hh b)
theorem Zq6 {m j:Nat}{oi oj:Oper}{v:Value}(hj:ops[j]? =some oj)(hap:oi.apart ops oj=true)(hsi:∀cs b,oi.op≠ .select cs b)(hsj:∀cs b,oj.op≠ .select cs b){K:Act->Prop}{a:Act}
  (hy:YieldsC P w0 L ops oi v a) (h:hOp P w0 L ops m j K (a.put oi.dst v)):hOp P w0 L ops m j (fun a'=>YieldsC P w0 L ops oi v a'/\K (a'.put oi.dst v)) a:=by
 obtain⟨h1,h2,h3⟩:=Oper.apart_spec hap
 have keep:∀u,YieldsC P w0 L ops oi v (a.put oj.dst u):=fun u=>hy.same (execOp_put oi hsi a oj.dst u h3) (wanted_put oi a oj.dst u h3)
 unfold hOp at*
 simp only[hj] at*
 split at h
 ·rename_i hlt
  rw[if_pos hlt]
  obtain⟨u,hu,hK⟩:=h
  refine⟨u,hu.same ?_ ?_,keep u,by rw[<-Act.put_comm a v u h2];exact hK⟩
  ·exact(execOp_put oj hsj a oi.dst v h1).symm
  ·exact(wanted_put oj a oi.dst v h1).symm
 ·rename_i hlt
  rw[if_neg hlt]
  exact fun b=>⟨keep _,by rw[<-Act.put_comm a v _ h2];exact h b⟩
theorem ZiR {m j:Nat}{oi oj:Oper}{u:Value}(hmj:m<=j)(hj:ops[j]? =some oj)(hap:oi.apart ops oj=true){K:Act->Prop}{a:Act}
  (h:hOp P w0 L ops m j K (a.put oi.dst u)):hOp P w0 L ops m j (fun a'=>K (a'.put oi.dst u)) a:=by
 obtain⟨h1,h2,h3⟩:=Oper.apart_spec hap
 unfold hOp at*
 simp only[hj] at*
 rw[if_neg (by omega)] at*
 exact fun b=>by rw[<-Act.put_comm a u _ h2];exact h b
section
variable {m k i : Nat} {oi : Oper} {F : Array Bool -> Act -> Prop}
theorem Znc (hi:ops[i]? =some oi)(hsel:∀(j:Nat)(o:Oper) cs b,ops[j]? =some o->o.op≠ .select cs b)
  (hjk:∀listed,HeadInv .any ops k listed->listed.getD i true=false->∀j∈Region.ready .any ops listed,j<k) (him:i<m) (hdone:∀listed a,F listed a->∀j∈Region.ready .any ops listed,k<=j):
  ∀(f:Nat)(listed:Array Bool)(a:Act),HeadInv .any ops k listed->
   (∀j oj,ops[j]? =some oj->j≠i->listed.getD j true=false->(∀e∈oj.after,Region.binds .any e=true->e.on≠i)->oi.apart ops oj=true)->
   i∈Region.ready .any ops listed->YieldsC P w0 L ops oi v a->
   wpH P w0 L ops m k F f (listed.setIfInBounds i true) (a.put oi.dst v)->wpH P w0 L ops m k F (f+1) listed a:=by
 intro f
 induction f with
 |zero=>
  intro listed a inv _ hr hy H
  have hun:=(mem_ready.1 hr).1
  refine⟨fun h=>(by rw[h] at hr;cases hr),fun j hj=>?_⟩
  have hjn:j<k:=hjk listed inv hun j hj
  refine⟨hjn, ?_⟩
  by_cases hji:j=i
  ·subst hji
   unfold hOp
   simp only[hi]
   rw[if_pos him]
   exact⟨v,hy,H⟩
  ·have:=hdone _ _ H j (ready_mono hj hji)
   omega
 |succ f ih=>
  intro listed a inv hfree hr hy H
  have hun:=(mem_ready.1 hr).1
  refine⟨fun h=>(by rw[h] at hr;cases hr),fun j hj=>?_⟩
  have hjn:j<k:=hjk listed inv hun j hj
  refine⟨hjn, ?_⟩
  by_cases hji:j=i
  ·subst hji
   unfold hOp
   simp only[hi]
   rw[if_pos him]
   exact⟨v,hy,H⟩
  ·have h1:=(H.2 j (ready_mono hj hji)).2
   obtain⟨hjun,oj,hoj,hall⟩:=mem_ready.1 hj
   have hnot:∀e∈oj.after,Region.binds .any e=true->e.on≠i:=fun e he hb heq=>by
    have h1:=hall e he hb
    rw[heq,getD_both hun] at h1
    cases h1
   have h2:=Zq6 hoj (hfree j oj hoj hji hjun hnot) (fun cs b=>hsel i oi cs b hi) (fun cs b=>hsel j oj cs b hoj) hy h1
   have hfree':∀q oq,ops[q]? =some oq->q≠i->(listed.setIfInBounds j true).getD q true=false->
     (∀e∈oq.after,Region.binds .any e=true->e.on≠i)->oi.apart ops oq=true:=fun q oq hq hqi hun' hno=>by
    refine hfree q oq hq hqi ?_ hno
    by_cases hjq:j=q
    ·subst hjq;exact hjun
    ·rw[getD_set_ne true hjq] at hun';exact hun'
   refine Zpe (fun a' h3=>ih (listed.setIfInBounds j true) a' (inv.set hj hjn) hfree' (ready_mono hr (Ne.symm hji)) h3.1 ?_) h2
   rw[Array.setIfInBounds_comm _ _ hji]
   exact h3.2
theorem Zqm (hi:ops[i]? =some oi)(hjk:∀listed,HeadInv .any ops k listed->listed.getD i true=false->∀j∈Region.ready .any ops listed,j<k)(him:m<=i)(hdone:∀listed a,F listed a->∀j∈Region.ready .any ops listed,k<=j):
  ∀(f:Nat)(listed:Array Bool)(a:Act),HeadInv .any ops k listed->(∀j,j<m->listed.getD j false=true)->
   (∀j oj,ops[j]? =some oj->j≠i->listed.getD j true=false->(∀e∈oj.after,Region.binds .any e=true->e.on≠i)->oi.apart ops oj=true)->
   i∈Region.ready .any ops listed->
   (∀b,wpH P w0 L ops m k F f (listed.setIfInBounds i true) (a.put oi.dst (.pointer (some ⟨b,0,none⟩))))->wpH P w0 L ops m k F (f+1) listed a:=by
 intro f
 induction f with
 |zero=>
  intro listed a inv _ _ hr H
  have hun:=(mem_ready.1 hr).1
  refine⟨fun h=>(by rw[h] at hr;cases hr),fun j hj=>?_⟩
  have hjn:j<k:=hjk listed inv hun j hj
  refine⟨hjn, ?_⟩
  by_cases hji:j=i
  ·subst hji
   unfold hOp
   simp only[hi]
   rw[if_neg (by omega)]
   exact H
  ·have:=hdone _ _ (H 0) j (ready_mono hj hji)
   omega
 |succ f ih=>
  intro listed a inv hall0 hfree hr H
  have hun:=(mem_ready.1 hr).1
  refine⟨fun h=>(by rw[h] at hr;cases hr),fun j hj=>?_⟩
  have hjn:j<k:=hjk listed inv hun j hj
  refine⟨hjn, ?_⟩
  by_cases hji:j=i
  ·subst hji
   unfold hOp
   simp only[hi]
   rw[if_neg (by omega)]
   exact H
  ·obtain⟨hjun,oj,hoj,hall⟩:=mem_ready.1 hj
   have hmj:m<=j:=by
    rcases Nat.lt_or_ge j m with h|h
    ·have:=hall0 j h
     rw[getD_both hjun] at this
     cases this
    ·exact h
   have hnot:∀e∈oj.after,Region.binds .any e=true->e.on≠i:=fun e he hb heq=>by
    have h1:=hall e he hb
    rw[heq,getD_both hun] at h1
    cases h1
   have hap:=hfree j oj hoj hji hjun hnot
   have h2:∀b,hOp P w0 L ops m j (fun a'=>wpH P w0 L ops m k F f ((listed.setIfInBounds i true).setIfInBounds j true) (a'.put oi.dst (.pointer (some ⟨b,0,none⟩)))) a:=fun b=>
    ZiR hmj hoj hap ((H b).2 j (ready_mono hj hji)).2
   have hfree':∀q oq,ops[q]? =some oq->q≠i->(listed.setIfInBounds j true).getD q true=false->
     (∀e∈oq.after,Region.binds .any e=true->e.on≠i)->oi.apart ops oq=true:=fun q oq hq hqi hun' hno=>by
    refine hfree q oq hq hqi ?_ hno
    by_cases hjq:j=q
    ·subst hjq;exact hjun
    ·rw[getD_set_ne true hjq] at hun';exact hun'
   unfold hOp
   simp only[hoj]
   rw[if_neg (by omega)]
   intro c
   refine ih (listed.setIfInBounds j true) _ (inv.set hj hjn) (fun q hq=>getD_set_true (hall0 q hq)) hfree' (ready_mono hr (Ne.symm hji)) (fun b=>?_)
   have h3:=h2 b
   unfold hOp at h3
   simp only[hoj] at h3
   rw[if_neg (by omega)] at h3
   rw[Array.setIfInBounds_comm _ _ hji]
   exact h3 c
end
structure News (ops:Array Oper)(w0w:World)(P:Program)(m k:Nat)(listed:Array Bool)(a:Act)(w:World):Prop where
 new:∀j o T,m<=j->j<k->ops[j]? =some o->isNew o=some T->listed.getD j false=true->
  ∃d b z,o.dst=some d/\a.tmps[d]? =some (.pointer (some ⟨b,0,none⟩))/\(P.info? T).bind (·.zero)=some z/\w0w.heap.size<=b/\w.heap[b]? =some (.cells z.cells T (0,0))
 ne:∀j j' o o' d d' b b',m<=j->j<k->m<=j'->j'<k->j≠j'->ops[j]? =some o->ops[j']? =some o'->listed.getD j false=true->listed.getD j' false=true->o.dst=some d->o'.dst=some d'->
  a.tmps[d]? =some (.pointer (some ⟨b,0,none⟩))->a.tmps[d']? =some (.pointer (some ⟨b',0,none⟩))->b≠b'
def dstsB (P:Program)(N:Nat)(ops:Array Oper)(m k:Nat):Bool:=
 ((List.range k).all fun i=>(List.range k).all fun j=>i==j||(match(ops[i]?).bind (·.dst),(ops[j]?).bind (·.dst) with|some d,some e=>d != e|_,_=>true))&&
 (List.range k).all fun i=>decide (i<m)||(match ops[i]? with
  |some o=>(match isNew o with|some T=>((P.info? T).bind (·.zero)).isSome|none=>false)&&dstOk N o.dst
  |none=>false)
theorem Zb6 {N m k i j:Nat}{oi oj:Oper}{d e:Tmp}(h:dstsB P N ops m k=true)(hi:i<k)(hj:j<k)(hij:i≠j)(hoi:ops[i]? =some oi)(hoj:ops[j]? =some oj)(hd:oi.dst=some d)(he:oj.dst=some e):d≠e:=by
 unfold dstsB at h
 simp only[Wq,List.all_eq_true,List.mem_range] at h
 have:=h.1 i hi j hj
 simp[hij,hoi,hoj,hd,he] at this
 exact this
theorem ZdV {N m k i:Nat}{o:Oper}(h:dstsB P N ops m k=true)(hi:i<k)(hm:m<=i)(ho:ops[i]? =some o):∃T z,isNew o=some T/\(P.info? T).bind (·.zero)=some z/\dstOk N o.dst=true:=by
 unfold dstsB at h
 simp only[Wq,List.all_eq_true,List.mem_range] at h
 have:=h.2 i hi
 simp only[show¬i<m by omega,decide_false,Bool.false_or,ho] at this
 cases hN:isNew o with
 |none=>simp[hN] at this
 |some T=>
  simp only[hN,Wq] at this
  obtain⟨z,hz⟩:=Option.isSome_iff_exists.1 this.1
  exact⟨T,z,rfl,hz,this.2⟩
theorem ZbP {N m k g:Nat}{F:Array Bool->Act->Prop}{Wd:World}(hdB:dstsB P N ops m k=true)
  (hF:∀listed a w,F listed a->a.tmps.size=N->Own w0 L w->Ext Wd w->HeadInv .any ops k listed->News ops Wd P m k listed a w->wpAny P .any ops Q g listed a w):
  ∀(f:Nat)(listed:Array Bool)(a:Act)(w:World),a.tmps.size=N->Own w0 L w->Ext Wd w->HeadInv .any ops k listed->News ops Wd P m k listed a w->wpH P w0 L ops m k F f listed a->wpAny P .any ops Q (f+g) listed a w
 |0,listed,a,w,hN,hw,hx,inv,hn,h=>by rw[Nat.zero_add];exact hF _ _ _ h hN hw hx inv hn
 |f+1,listed,a,w,hN,hw,hx,inv,hn,h=>by
  rw[show f+1+g=(f+g)+1 by omega]
  refine⟨fun h0=>absurd h0 h.1,fun i hi=>?_⟩
  obtain⟨hik,ho⟩:=h.2 i hi
  obtain⟨hiun,oi,hoi,_⟩:=mem_ready.1 hi
  have hlist:∀j,(listed.setIfInBounds i true).getD j false=true->j≠i->listed.getD j false=true:=fun j hj hji=>by
   rw[getD_set_ne false (Ne.symm hji)] at hj;exact hj
  unfold hOp at ho
  simp only[hoi] at ho
  unfold wpOp
  simp only[hoi]
  -- what the allocations of before look like behind the step
  have old:∀(u:Value)(w':World),Ext w w'->i<m->News ops Wd P m k (listed.setIfInBounds i true) (a.put oi.dst u) w':=fun u w' hxw him=>by
   have same:∀j o d,m<=j->j<k->ops[j]? =some o->o.dst=some d->(a.put oi.dst u).tmps[d]? =a.tmps[d]? :=fun j o d hmj hjk hoj hd=>by
    cases hid:oi.dst with
    |none=>rfl
    |some e=>
     have hne:e≠d:=Zb6 hdB hik hjk (by omega) hoi hoj hid hd
     simp[Act.put,Array.getElem?_setIfInBounds_ne hne]
   refine⟨fun j o T hmj hjk hoj hT hl=>?_,fun j j' o o' d d' b b' h1 h2 h3 h4 h5 h6 h7 h8 h9 h10 h11 h12 h13=>?_⟩
   ·obtain⟨d,b,z,hd,hv,hz,hb,hc⟩:=hn.new j o T hmj hjk hoj hT (hlist j hl (by omega))
    exact⟨d,b,z,hd,by rw[same j o d hmj hjk hoj hd];exact hv,hz,hb,by rw[hxw.block b (Zae hc)];exact hc⟩
   ·rw[same j o d h1 h2 h6 h10] at h12
    rw[same j' o' d' h3 h4 h7 h11] at h13
    exact hn.ne j j' o o' d d' b b' h1 h2 h3 h4 h5 h6 h7 (hlist j h8 (by omega)) (hlist j' h9 (by omega)) h10 h11 h12 h13
  split at ho
  ·rename_i him
   obtain⟨v,hy,hK⟩:=ho
   rcases hy with⟨hwt,hy⟩|⟨hwt,rfl⟩
   ·rw[if_pos hwt]
    exact .inl (Zcv (hy w hw) fun w' hxw=>ZbP hdB hF f _ _ _ (by cases oi.dst <;> simpa [Act.put] using hN) (hw.to hxw) (hx.tr hxw) (inv.set hi hik) (old v w' hxw him) hK)
   ·rw[if_neg (by rw[hwt];simp)]
    exact ZbP hdB hF f _ _ _ (by cases oi.dst <;> simpa [Act.put] using hN) hw hx (inv.set hi hik) (old undef w (Ext.refl _) him) hK
  ·rename_i him
   obtain⟨T,z,hT,hz,hdo⟩:=ZdV hdB hik (by omega) hoi
   obtain⟨hop,hgd,d,hd⟩:=ZbQ hT
   have hwt:Region.wanted oi (yielded ops a.tmps)=true:=by simp[Region.wanted,hgd]
   rw[if_pos hwt]
   have hdN:d<a.tmps.size:=by rw[hN];simpa [dstOk,hd,Nat.blt_eq] using hdo
   have hrun:(execOp a.eval oi).run P w= .ok (.value (.pointer (some ⟨w.heap.size,0,none⟩))) (w.alloc (.cells z.cells T)):=by
    cases hinf:P.info? T with
    |none=>simp[hinf] at hz
    |some ti=>
     have hz':ti.zero=some z:=by simpa [hinf] using hz
     obtain⟨dst,op,ty,pos,aft,gd⟩:=oi
     simp only at hop
     subst hop
     simp[execOp,Instr.alloc,zeroValue,typeInfo,hinf,hz',newVar,newRow]
   refine .inl ?_
   unfold Oper.wp
   rw[hrun]
   have hxw:Ext w (w.alloc (.cells z.cells T)):=Ext.alloc _ _
   have hput:∀q,q≠d->(a.put oi.dst (.pointer (some ⟨w.heap.size,0,none⟩))).tmps[q]? =a.tmps[q]? :=fun q hq=>by
    simp[Act.put,hd,Array.getElem?_setIfInBounds_ne (Ne.symm hq)]
   have hputd:(a.put oi.dst (.pointer (some ⟨w.heap.size,0,none⟩))).tmps[d]? =some (.pointer (some ⟨w.heap.size,0,none⟩)):=by simp[Act.put,hd,hdN]
   refine ZbP hdB hF f _ _ _ (by rw[hd];simpa [Act.put] using hN) (hw.to hxw) (hx.tr hxw) (inv.set hi hik) ⟨fun j o T' hmj hjk hoj hT' hl=>?_,fun j j' o o' e e' b b' h1 h2 h3 h4 h5 h6 h7 h8 h9 h10 h11 h12 h13=>?_⟩ (ho _)
   ·by_cases hji:j=i
    ·subst hji
     have:o=oi:=Option.some.inj (hoj.symm.trans hoi)
     subst this
     have:T'=T:=Option.some.inj (hT'.symm.trans hT)
     subst this
     exact⟨d,w.heap.size,z,hd,hputd,hz,hx.size,heap_alloc_new _ _⟩
    ·obtain⟨e,b,z',he,hv,hz',hb,hc⟩:=hn.new j o T' hmj hjk hoj hT' (hlist j hl hji)
     exact⟨e,b,z',he,by rw[hput e (Zb6 hdB hjk hik hji hoj hoi he hd)];exact hv,hz',hb,by rw[hxw.block b (Zae hc)];exact hc⟩
   ·have oldlt:∀q oq eq bq,m<=q->q<k->q≠i->ops[q]? =some oq->(listed.setIfInBounds i true).getD q false=true->oq.dst=some eq->(a.put oi.dst (.pointer (some ⟨w.heap.size,0,none⟩))).tmps[eq]? =some (.pointer (some ⟨bq,0,none⟩))->bq<w.heap.size:=fun q oq eq bq k1 k2 k3 k4 k5 k6 k7=>by
     obtain⟨Tq,zq,hTq,_,_⟩:=ZdV hdB k2 k1 k4
     obtain⟨e2,b2,z2,he2,hv2,_,_,hc2⟩:=hn.new q oq Tq k1 k2 k4 hTq (hlist q k5 k3)
     have:e2=eq:=Option.some.inj (he2.symm.trans k6)
     subst this
     rw[hput e2 (Zb6 hdB k2 hik k3 k4 hoi he2 hd),hv2] at k7
     simp only[Option.some.injEq,Value.pointer.injEq,Addr.mk.injEq] at k7
     rw[<-k7.1]
     exact Zae hc2
    by_cases hji:j=i
    ·subst hji
     have:o=oi:=Option.some.inj (h6.symm.trans hoi)
     subst this
     have:e=d:=Option.some.inj (h10.symm.trans hd)
     subst this
     rw[hputd] at h12
     simp only[Option.some.injEq,Value.pointer.injEq,Addr.mk.injEq] at h12
     have:=oldlt j' o' e' b' h3 h4 (Ne.symm h5) h7 h9 h11 h13
     omega
    ·by_cases hji':j'=i
     ·subst hji'
      have:o'=oi:=Option.some.inj (h7.symm.trans hoi)
      subst this
      have:e'=d:=Option.some.inj (h11.symm.trans hd)
      subst this
      rw[hputd] at h13
      simp only[Option.some.injEq,Value.pointer.injEq,Addr.mk.injEq] at h13
      have:=oldlt j o e b h1 h2 hji h6 h8 h10 h12
      omega
     ·rw[hput e (Zb6 hdB h2 hik hji h6 hoi h10 hd)] at h12
      rw[hput e' (Zb6 hdB h4 hik hji' h7 hoi h11 hd)] at h13
      exact hn.ne j j' o o' e e' b b' h1 h2 h3 h4 h5 h6 h7 (hlist j h8 hji) (hlist j' h9 hji') h10 h11 h12 h13
def JH (P:Program)(w0:World)(n:Nat)(L:List Blk)(ops:Array Oper)(K:Env->Prop):List Oper->Env->Prop
 |[],E=>K E
 |o::rest,E=>∃v,((guardB ops E o.guard=some true/\Yl P w0 n L E o v)\/(guardB ops E o.guard=some false/\v=undef))/\dstOk n o.dst=true/\JH P w0 n L ops K rest (Env.put E o.dst v)
theorem Zo {K:Env->Prop}(h:K E):JH P w0 n L ops K [] E:=h
theorem ZyM {K:Env->Prop}{o:Oper}(hy:Yl P w0 n L E o v)(hg:guardB ops E o.guard=some true)(hd:dstOk n o.dst=true)(h:JH P w0 n L ops K rest (Env.put E o.dst v)):JH P w0 n L ops K (o::rest) E:=⟨v, .inl ⟨hg,hy⟩,hd,h⟩
theorem Zqx {K:Env->Prop}{o:Oper}(hg:guardB ops E o.guard=some false)(hd:dstOk n o.dst=true)(h:JH P w0 n L ops K rest (Env.put E o.dst undef)):JH P w0 n L ops K (o::rest) E:=⟨undef, .inr ⟨hg,rfl⟩,hd,h⟩
def JN (P:Program)(n:Nat)(K:Env->List Blk->Prop):List Oper->Env->List Blk->Prop
 |[],E,L=>K E L
 |o::rest,E,L=>∃T z,isNew o=some T/\(P.info? T).bind (·.zero)=some z/\∀b,JN P n K rest (Env.put E o.dst (.pointer (some ⟨b,0,none⟩))) (⟨b,z.cells,T⟩::L)
theorem Zs {K:Env->List Blk->Prop}(h:K E L):JN P n K [] E L:=h
theorem Zr9 {K:Env->List Blk->Prop}{o:Oper}{T:TypeId}{z:Value}(hT:isNew o=some T)(hz:(P.info? T).bind (·.zero)=some z)(h:∀b,JN P n K rest (Env.put E o.dst (.pointer (some ⟨b,0,none⟩))) (⟨b,z.cells,T⟩::L)):JN P n K (o::rest) E L:=⟨T,z,hT,hz,h⟩
def allListed (listed:Array Bool)(k:Nat):Prop:=∀j,j<k->listed.getD j false=true
def AH (P:Program)(w0:World)(L:List Blk)(ops:Array Oper)(F:Act->Prop):List Oper->Act->Prop
 |[],a=>F a
 |o::rest,a=>∃v,YieldsC P w0 L ops o v a/\AH P w0 L ops F rest (a.put o.dst v)
def AN (F:Act->Prop):List Oper->Act->Prop
 |[],a=>F a
 |o::rest,a=>∀b,AN F rest (a.put o.dst (.pointer (some ⟨b,0,none⟩)))
theorem Zbo {K:Env->Prop}{F:Act->Prop}(hK:∀E a,Rep n E a->K E->F a):∀(l:List Oper)(E:Env)(a:Act),Rep n E a->JH P w0 n L ops K l E->AH P w0 L ops F l a
 |[],E,a,ha,h=>hK E a ha h
 |o::rest,E,a,ha,⟨v,hv,hd,h⟩=>by
  refine⟨v, ?_,Zbo hK rest _ _ (ha.put _ _ hd) h⟩
  rcases hv with⟨hg,hy⟩|⟨hg,rfl⟩
  ·exact .inl ⟨ZaO ha hg,fun w hw=>hy.out a w ha hw⟩
  ·exact .inr ⟨ZaO ha hg,rfl⟩
def lexK (ops:Array Oper)(g:Nat):Nat->Nat->Array Bool->Bool
 |0,k,listed=>Region.seqB .any ops g k listed
 |f+1,k,listed=>(Region.ready .any ops listed).contains k&&Region.free .any ops listed k&&lexK ops g f (k+1) (listed.setIfInBounds k true)
def headB (P:Program)(N:Nat)(ops:Array Oper)(m k:Nat):Bool:=
 Region.noSelect ops&&decide (m<=k)&&(decide (k=ops.size)||(decide (k<ops.size)&&Region.sinkB .any ops k&&Region.chainB .any ops k))&&dstsB P N ops m k&&lexK ops (ops.size-k) k 0 (Array.replicate ops.size false)
theorem ZfR {m k g:Nat}{F:Act->Prop}(hsel:Region.noSelect ops=true)(hmk:m<=k)(hks:k<=ops.size)
  (hjk:∀i,i<k->∀listed,HeadInv .any ops k listed->listed.getD i true=false->∀j∈Region.ready .any ops listed,j<k):
  ∀(d p:Nat)(listed:Array Bool)(a:Act),p+d=k->HeadInv .any ops k listed->allListed listed p->lexK ops g d p listed=true->
   (if p<=m then AH P w0 L ops (AN F ((ops.toList.take k).drop m)) ((ops.toList.take m).drop p) a else AN F ((ops.toList.take k).drop p) a)->
   wpH P w0 L ops m k (fun listed' a'=>Region.seqB .any ops g k listed'=true/\allListed listed' k/\F a') d listed a
 |0,p,listed,a,hp,_,hall,hB,h=>by
  have hp':p=k:=by omega
  subst hp'
  refine⟨by simpa [lexK] using hB,hall, ?_⟩
  split at h
  ·rename_i hpm
   have:m=p:=by omega
   subst this
   simpa [AH,AN] using h
  ·simpa [AN] using h
 |d+1,p,listed,a,hp,inv,hall,hB,h=>by
  have hpk:p<k:=by omega
  obtain⟨o,ho⟩:∃o,ops[p]? =some o:=⟨ops[p]'(by omega),by simp[show p<ops.size by omega]⟩
  simp only[lexK,Wq] at hB
  obtain⟨⟨hr,hf⟩,hB'⟩:=hB
  have hr':p∈Region.ready .any ops listed:=by simpa using hr
  have hall':allListed (listed.setIfInBounds p true) (p+1):=fun j hj=>by
   by_cases hjp:p=j
   ·subst hjp
    simp[show p<listed.size by rw[inv.size];omega]
   ·exact getD_set_true (hall j (by omega))
  have hdone:∀(listed':Array Bool)(a':Act),(Region.seqB .any ops g k listed'=true/\allListed listed' k/\F a')->∀j∈Region.ready .any ops listed',k<=j:=fun _ _ hh=>seqB_ready hh.1
  have hget:ops.toList[p]? =some o:=by simpa using ho
  by_cases hpm:p<m
  ·rw[if_pos (by omega)] at h
   have hcons:(ops.toList.take m).drop p=o::(ops.toList.take m).drop (p+1):=by
    rw[List.drop_eq_getElem_cons (by simp;omega)]
    congr 1
    rw[List.getElem_take]
    exact Option.some.inj (by rw[<-hget];simp[show p<ops.size by omega])
   rw[hcons] at h
   obtain⟨v,hy,h⟩:=h
   exact Znc ho (Region.noSelect_spec hsel) (hjk p hpk) hpm hdone d listed a inv (Region.free_spec ho hf) hr' hy
    (ZfR hsel hmk hks hjk d (p+1) _ _ (by omega) (inv.set hr' hpk) hall' hB' (by rw[if_pos (by omega)];exact h))
  ·have h':AN F ((ops.toList.take k).drop p) a:=by
    split at h
    ·have:p=m:=by omega
     subst this
     simpa [AH] using h
    ·exact h
   have hcons:(ops.toList.take k).drop p=o::(ops.toList.take k).drop (p+1):=by
    rw[List.drop_eq_getElem_cons (by simp;omega)]
    congr 1
    rw[List.getElem_take]
    exact Option.some.inj (by rw[<-hget];simp[show p<ops.size by omega])
   rw[hcons] at h'
   exact Zqm ho (hjk p hpk) (by omega) hdone d listed a inv (fun j hj=>hall j (by omega)) (Region.free_spec ho hf) hr'
    (fun b=>ZfR hsel hmk hks hjk d (p+1) _ _ (by omega) (inv.set hr' hpk) hall' hB' (by rw[if_neg (by omega)];exact h' b))
def Behind (P:Program)(w0:World)(L:List Blk)(ops:Array Oper)(m k:Nat)(Wd:World)(Q:Exit->Act->World->Prop)(a:Act):Prop:=
 ∀listed w,allListed listed k->Own w0 L w->Ext Wd w->News ops Wd P m k listed a w->wpList P ops Q (ops.toList.drop k) a w
theorem Zhy {m k:Nat}{Wd:World}(hdB:dstsB P n ops m k=true)(hks:k<=ops.size)(hWd:Own w0 L Wd):
  ∀(d p:Nat)(E:Env)(A:List Blk)(a:Act),p+d=k->m<=p->Rep n E a->
   (∀e∈A,∃j o dd,m<=j/\j<p/\ops[j]? =some o/\o.dst=some dd/\a.tmps[dd]? =some (.pointer (some ⟨e.b,0,none⟩)))->
   (∀listed w af,(∀j o dd,m<=j->j<p->ops[j]? =some o->o.dst=some dd->af.tmps[dd]? =a.tmps[dd]?)->allListed listed k->Own w0 L w->Ext Wd w->News ops Wd P m k listed af w->Own w0 (A++L) w)->
   JN P n (fun E2 L2=>JO P w0 n ops Q (ops.toList.drop k) E2 L2) ((ops.toList.take k).drop p) E (A++L)->AN (Behind P w0 L ops m k Wd Q) ((ops.toList.take k).drop p) a
 |0,p,E,A,a,hp,_,ha,_,hO,h=>by
  have hp':p=k:=by omega
  subst hp'
  have hnil:(ops.toList.take p).drop p=[]:=List.drop_eq_nil_of_le (by simp;omega)
  rw[hnil] at h⊢
  intro listed w hall hw hx hn
  exact h.out a w ha (hO listed w a (fun _ _ _ _ _ _ _=>rfl) hall hw hx hn)
 |d+1,p,E,A,a,hp,hmp,ha,hA,hO,h=>by
  have hpk:p<k:=by omega
  obtain⟨o,ho⟩:∃o,ops[p]? =some o:=⟨ops[p]'(by omega),by simp[show p<ops.size by omega]⟩
  have hget:ops.toList[p]? =some o:=by simpa using ho
  have hcons:(ops.toList.take k).drop p=o::(ops.toList.take k).drop (p+1):=by
   rw[List.drop_eq_getElem_cons (by simp;omega)]
   congr 1
   rw[List.getElem_take]
   exact Option.some.inj (by rw[<-hget];simp[show p<ops.size by omega])
  rw[hcons] at h⊢
  obtain⟨T,z,hT,hz,h⟩:=h
  obtain⟨T',z',hT',hz',hdo⟩:=ZdV hdB hpk hmp ho
  obtain⟨_,_,dd,hdd⟩:=ZbQ hT
  intro b
  have hlt:dd<a.tmps.size:=by rw[ha.size];simpa [dstOk,hdd,Nat.blt_eq] using hdo
  have hput:∀q,q≠dd->(a.put o.dst (.pointer (some ⟨b,0,none⟩))).tmps[q]? =a.tmps[q]? :=fun q hq=>by
   simp[Act.put,hdd,Array.getElem?_setIfInBounds_ne (Ne.symm hq)]
  have hputd:(a.put o.dst (.pointer (some ⟨b,0,none⟩))).tmps[dd]? =some (.pointer (some ⟨b,0,none⟩)):=by simp[Act.put,hdd,hlt]
  have hne:∀j oj dj,m<=j->j<p->ops[j]? =some oj->oj.dst=some dj->dj≠dd:=fun j oj dj h1 h2 h3 h4=>Zb6 hdB (by omega) hpk (by omega) h3 ho h4 hdd
  refine Zhy hdB hks hWd d (p+1) _ (⟨b,z.cells,T⟩::A) _ (by omega) (by omega) (ha.put _ _ hdo) (fun e he=>?_) (fun listed w af hsame hall hw hx hn=>?_) (h b)
  ·rcases List.mem_cons.1 he with rfl|he
   ·exact⟨p,o,dd,hmp,by omega,ho,hdd,hputd⟩
   ·obtain⟨j,oj,dj,h1,h2,h3,h4,h5⟩:=hA e he
    exact⟨j,oj,dj,h1,by omega,h3,h4,by rw[hput dj (hne j oj dj h1 h2 h3 h4)];exact h5⟩
  ·have hold:=hO listed w af (fun j oj dj h1 h2 h3 h4=>by rw[hsame j oj dj h1 (by omega) h3 h4,hput dj (hne j oj dj h1 h2 h3 h4)]) hall hw hx hn
   have hafd:af.tmps[dd]? =some (.pointer (some ⟨b,0,none⟩)):=by rw[hsame p o dd hmp (by omega) ho hdd];exact hputd
   obtain⟨d2,b2,z2,hd2,hv2,hz2,hb2,hc2⟩:=hn.new p o T hmp hpk ho hT (hall p hpk)
   have e1:d2=dd:=Option.some.inj (hd2.symm.trans hdd)
   subst e1
   rw[hafd] at hv2
   simp only[Option.some.injEq,Value.pointer.injEq,Addr.mk.injEq] at hv2
   obtain⟨e2,_⟩:=hv2
   subst e2
   have e3:z2=z:=Option.some.inj (hz2.symm.trans hz)
   subst e3
   refine⟨hold.ext,fun e he=>?_, ?_⟩
   ·rcases List.mem_cons.1 he with rfl|he
    ·exact⟨Wi hWd.ext.size hb2,hc2⟩
    ·exact hold.mem e he
   ·show(b::(A++L).map (·.b)).Nodup
    refine List.nodup_cons.2 ⟨fun hm=>?_,hold.nd⟩
    obtain⟨e,he,heb⟩:=List.mem_map.1 hm
    rcases List.mem_append.1 he with he|he
    ·obtain⟨j,oj,dj,h1,h2,h3,h4,h5⟩:=hA e he
     have h6:af.tmps[dj]? =some (.pointer (some ⟨e.b,0,none⟩)):=by rw[hsame j oj dj h1 (by omega) h3 h4,hput dj (hne j oj dj h1 h2 h3 h4)];exact h5
     exact hn.ne j p oj o dj d2 e.b b h1 (by omega) hmp hpk (by omega) h3 ho (hall j (by omega)) (hall p hpk) h4 hdd h6 hafd heb
    ·have:=hWd.lt he
     omega
theorem Zsi {id:Nat}{l:List Oper}(m k:Nat)(hm:P.follows .mixedOrders=true)(hB:headB P n l.toArray m k=true)
  (h:JH P w0 n L l.toArray (fun E'=>JN P n (fun E2 L2=>JO P w0 n l.toArray Q (l.drop k) E2 L2) ((l.take k).drop m) E' L) (l.take m) E):J P w0 n (.region id l.toArray true) Q E L:=by
 refine⟨fun a w ha hw=>?_⟩
 simp only[headB,Wq,Bool.or_eq_true,decide_eq_true_eq] at hB
 obtain⟨⟨⟨⟨hsel,hmk⟩,htl⟩,hdB⟩,hlex⟩:=hB
 have hks:k<=l.toArray.size:=by rcases htl with h|h <;> omega
 have hks':k<=l.length:=by simpa using hks
 have hjk:∀i,i<k->∀listed,HeadInv .any l.toArray k listed->listed.getD i true=false->∀j∈Region.ready .any l.toArray listed,j<k:=by
  intro i hik listed inv hun j hj
  rcases htl with h|⟨⟨hlt,hs⟩,hc⟩
  ·obtain⟨_,o,ho,_⟩:=mem_ready.1 hj
   rw[h]
   exact(Array.getElem?_eq_some_iff.1 ho).1
  ·rcases Nat.lt_or_ge j k with h|h
   ·exact h
   ·exact absurd hj (tail_waits hs hc hlt inv _ i rfl hik hun j h)
 have hw':Own w0 L w.drew:=hw.to (Ext.drew w)
 have inv0:HeadInv .any l.toArray k (Array.replicate l.toArray.size false):=
  ⟨by simp,fun j oj _ hl=>(by rw[getD_replicate_false] at hl;cases hl),fun t _ ht=>getD_in (by simpa using ht) (getD_replicate_false _ _)⟩
 have news0:News l.toArray w.drew P m k (Array.replicate l.toArray.size false) a w.drew:=
  ⟨fun j o T _ _ _ _ hl=>(by rw[getD_replicate_false] at hl;cases hl),fun j j' o o' d d' b b' _ _ _ _ _ _ _ hl=>(by rw[getD_replicate_false] at hl;cases hl)⟩
 have H:wpH P w0 L l.toArray m k (fun listed' a'=>Region.seqB .any l.toArray (l.toArray.size-k) k listed'=true/\allListed listed' k/\Behind P w0 L l.toArray m k w.drew Q a') k (Array.replicate l.toArray.size false) a:=by
  refine ZfR hsel hmk hks hjk k 0 _ a (by omega) inv0 (fun j hj=>by omega) hlex ?_
  rw[if_pos (by omega)]
  show AH P w0 L l.toArray (AN (Behind P w0 L l.toArray m k w.drew Q) ((l.take k).drop m)) ((l.take m).drop 0) a
  rw[List.drop_zero]
  refine Zbo (n:=n) (fun E' a' ha' hK=>?_) _ _ _ ha h
  exact Zhy (n:=n) hdB hks hw' (k-m) m E' [] a' (by omega) (Wl _) ha' (fun e he=>by simp at he) (fun listed w af _ _ hw _ _=>hw) hK
 refine wp_region_any hm ?_
 have:=ZbP (Q:=Q) (N:=n) (g:=l.toArray.size-k) (Wd:=w.drew) hdB (fun listed a' w' hF hN hw1 hx _ hn=>by
  obtain⟨hseq,hall,hb⟩:=hF
  have hdl:(l.drop k).length=l.toArray.size-k:=by simp
  have:=wpAny_of_seq (P:=P) (md:= .any) (ops:=l.toArray) (Q':=Q) (l.drop k) k listed a' w' (fun j=>by simp[List.getElem?_drop]) (by rw[hdl];exact hseq) (hb listed w' hall hw1 hx hn)
  rwa [hdl] at this) k _ a w.drew ha.size hw' (Ext.refl _) inv0 news0 H
 rw[show k+(l.toArray.size-k)=l.toArray.size by omega] at this
 exact this
end
end Go.Vt
namespace Go.Vt
open Go.RowKit
class MemC (b:Nat)(L:List Blk)(cs:outParam (Array Value))(T:outParam TypeId):Prop where
 out:(⟨b,cs,T⟩:Blk)∈L
instance (priority :=high) memHere (b:Nat)(L:List Blk)(cs:Array Value)(T:TypeId):MemC b (⟨b,cs,T⟩::L) cs T:=⟨.head _⟩
instance (priority :=low) memThere (b:Nat)(e:Blk)(L:List Blk)(cs:Array Value)(T:TypeId)[h:MemC b L cs T]:MemC b (e::L) cs T:=⟨.tail _ h.out⟩
class UpdC (b:Nat)(cs':Array Value)(L:List Blk)(cs:outParam (Array Value))(T:outParam TypeId)(L':outParam (List Blk)):Prop where
 out:Upd b cs T cs' L L'
instance (priority :=high) updHere (b:Nat)(cs':Array Value)(L:List Blk)(cs:Array Value)(T:TypeId):UpdC b cs' (⟨b,cs,T⟩::L) cs T (⟨b,cs',T⟩::L):=⟨.here⟩
instance (priority :=low) updThere (b:Nat)(cs':Array Value)(e:Blk)(L L':List Blk)(cs:Array Value)(T:TypeId)[h:UpdC b cs' L cs T L']:UpdC b cs' (e::L) cs T (e::L'):=⟨.there h.out⟩
class LdC (P:Program)(T:TypeId)(cs:Array Value)(off:Nat)(v:outParam Value):Prop where
 out:LdV P T cs off v
class FaC (P:Program)(T:TypeId)(f:Nat)(off:outParam Nat):Prop where
 out:∀b o w,(Instr.fieldAt T (.pointer (some ⟨b,o,none⟩)) f).run P w= .ok (.pointer (some ⟨b,o+off,none⟩)) w
class FaO (P:Program)(T:TypeId)(f o:Nat)(o':outParam Nat):Prop where
 out:∀b w,(Instr.fieldAt T (.pointer (some ⟨b,o,none⟩)) f).run P w= .ok (.pointer (some ⟨b,o',none⟩)) w
instance (priority :=low) faAny (P:Program)(T:TypeId)(f o off:Nat)[h:FaC P T f off]:FaO P T f o (o+off):=⟨fun b w=>h.out b o w⟩
class ZeroC (P:Program)(T:TypeId)(z:outParam Value)(cs:outParam (Array Value)):Prop where
 out:(P.info? T).bind (·.zero)=some z
 cells:z.cells=cs
class SizeC (P:Program)(T:TypeId)(k:outParam Nat):Prop where
 out:(P.info? T).map (·.size)=some k
class BdC (P:Program)(T:TypeId)(l:List (Nat×Value))(v:outParam Value):Prop where
 out:∀w,(Instr.build T l.toArray).run P w= .ok v w
class CallC (P:Program)(f:FuncId):Prop where
 out:callableB P f=true
class CsC (cs:Array Value)(k:outParam Nat):Prop where
 size:cs.size=k
 one:cs.all (·.oneCell')=true
class BinC (P:Program)(op:BinOp)(T:TypeId)(vx vy:Value)(v:outParam Value):Prop where
 guard:∀x y w,(eqGuard op T x y vx vy).run P w= .ok () w
 run:∀w,(binOp op T vx vy).run P w= .ok v w
class UnC (P:Program)(op:UnOp)(vx:Value)(v:outParam Value):Prop where
 out:∀w,(Op.unary op vx).run P w= .ok v w
class NthC (vs:Array Value)(i:Nat)(v:outParam Value):Prop where
 out:vs[i]? =some v
instance nth20 (a b:Value):NthC #[a,b] 0 a:=⟨rfl⟩
instance nth21 (a b:Value):NthC #[a,b] 1 b:=⟨rfl⟩
instance nth30 (a b c:Value):NthC #[a,b,c] 0 a:=⟨rfl⟩
instance nth31 (a b c:Value):NthC #[a,b,c] 1 b:=⟨rfl⟩
instance nth32 (a b c:Value):NthC #[a,b,c] 2 c:=⟨rfl⟩
class SpecC (P:Program)(f:FuncId)(args:List Value)(v:outParam Value)(pre:outParam Prop):Prop where
 out:pre->∀w,Calls P f args.toArray w (Ret v w)
section
variable {P : Program} {w0 : World} {n : Nat} {ops : Array Oper} {L L' : List Blk} {E : Env}
variable {Q : Exit -> Act -> World -> Prop} {rest : List Oper} {v : Value}
variable {d : Option Tmp} {ty : TypeId} {pos : String} {aft : Array Edge} {gd : Option (Nat × Bool)}
theorem Zux {e:Exit}(h:JX w0 n e Q E L):JX w0 n e Q E L:=h
theorem jq {t:Tmp}{op:Op}(hy:Yl P w0 n L E ⟨some t,op,ty,pos,aft,gd⟩ v)(hg:guardB ops E gd=some true)(hd:Nat.blt t n=true)(h:JO P w0 n ops Q rest ((t,v)::E) L):JO P w0 n ops Q (⟨some t,op,ty,pos,aft,gd⟩::rest) E L:=Zyp hy hg hd h
theorem Zqj {t:Tmp}{op:Op}(hg:guardB ops E gd=some false)(hd:Nat.blt t n=true)(h:JO P w0 n ops Q rest ((t,undef)::E) L):JO P w0 n ops Q (⟨some t,op,ty,pos,aft,gd⟩::rest) E L:=Zqq hg hd h
theorem hq {K:Env->Prop}{t:Tmp}{op:Op}(hy:Yl P w0 n L E ⟨some t,op,ty,pos,aft,gd⟩ v)(hg:guardB ops E gd=some true)(hd:Nat.blt t n=true)(h:JH P w0 n L ops K rest ((t,v)::E)):JH P w0 n L ops K (⟨some t,op,ty,pos,aft,gd⟩::rest) E:=ZyM hy hg hd h
theorem Zqh {K:Env->Prop}{t:Tmp}{op:Op}(hg:guardB ops E gd=some false)(hd:Nat.blt t n=true)(h:JH P w0 n L ops K rest ((t,undef)::E)):JH P w0 n L ops K (⟨some t,op,ty,pos,aft,gd⟩::rest) E:=Zqx hg hd h
theorem ZqY {T T0:TypeId}{x:Operand}{b off:Nat}{cs:Array Value}(hx:Env.ev E x=some (.pointer (some ⟨b,off,none⟩)))[hm:MemC b L cs T0][hv:LdC P T cs off v]:Yl P w0 n L E ⟨d, .load T x,ty,pos,aft,gd⟩ v:=ZjW hx hm.out hv.out
theorem Zk1 {x:Operand}{vs:Array Value}{i:Nat}(hx:Env.ev E x=some (.tuple vs))[h:NthC vs i v]:Yl P w0 n L E ⟨d, .extract x i,ty,pos,aft,gd⟩ v:=ZkN hx h.out
theorem ZcD {c x y:Operand}(hc:Env.ev E c=some (.bool true))(hx:Env.ev E x=some v):Yl P w0 n L E ⟨d, .pick c x y,ty,pos,aft,gd⟩ v:=⟨fun a w ha _=>by
 unfold calm
 simp[execOp,ha.ev hx,ha.ev hc,Sem.run_pure,asBool,calmUpon,Ext.refl]⟩
theorem ZcF {c x y:Operand}(hc:Env.ev E c=some (.bool false))(hy:Env.ev E y=some v):Yl P w0 n L E ⟨d, .pick c x y,ty,pos,aft,gd⟩ v:=⟨fun a w ha _=>by
 unfold calm
 simp[execOp,ha.ev hy,ha.ev hc,Sem.run_pure,asBool,calmUpon,Ext.refl]⟩
theorem pkT {t:Tmp}{c x y:Operand}(hc:Env.ev E c=some (.bool true))(hx:Env.ev E x=some v)(hg:guardB ops E gd=some true)(hd:Nat.blt t n=true)(h:JO P w0 n ops Q rest ((t,v)::E) L):JO P w0 n ops Q (⟨some t, .pick c x y,ty,pos,aft,gd⟩::rest) E L:=jq (ZcD hc hx) hg hd h
theorem pkF {t:Tmp}{c x y:Operand}(hc:Env.ev E c=some (.bool false))(hx:Env.ev E y=some v)(hg:guardB ops E gd=some true)(hd:Nat.blt t n=true)(h:JO P w0 n ops Q rest ((t,v)::E) L):JO P w0 n ops Q (⟨some t, .pick c x y,ty,pos,aft,gd⟩::rest) E L:=jq (ZcF hc hx) hg hd h
theorem Zn4 {T:TypeId}{x:Operand}{f b o o':Nat}(hx:Env.ev E x=some (.pointer (some ⟨b,o,none⟩)))[h:FaO P T f o o']:Yl P w0 n L E ⟨d, .fieldAddr T x f,ty,pos,aft,gd⟩ (.pointer (some ⟨b,o',none⟩)):=ZnX hx (h.out b)
theorem Zow {T:TypeId}{ps:List (Nat×Operand)}{l:List (Nat×Value)}(hp:Env.evp E ps=some l)[h:BdC P T l v]:Yl P w0 n L E ⟨d, .build T ps.toArray,ty,pos,aft,gd⟩ v:=Zn7 hp h.out
theorem ZsA {op:BinOp}{T T':TypeId}{x y:Operand}{vx vy:Value}(hx:Env.ev E x=some vx)(hy:Env.ev E y=some vy)[h:BinC P op T vx vy v]:Yl P w0 n L E ⟨d, .binOp op T x y T',ty,pos,aft,gd⟩ v:=Zdt hx hy (h.guard x y) h.run
theorem ZtH {op:UnOp}{T:TypeId}{x:Operand}{vx:Value}(hx:Env.ev E x=some vx)[h:UnC P op vx v]:Yl P w0 n L E ⟨d, .unOp op T x,ty,pos,aft,gd⟩ v:=Zuh hx h.out
theorem ZqZ {f:FuncId}{xs:List Operand}{l:List Value}{ats:Array TypeId}{pre:Prop}(hl:Env.evs E xs=some l)[hf:CallC P f][hs:SpecC P f l v pre](hp:pre):
  Yl P w0 n L E ⟨d, .call ⟨.value (.func f),xs.toArray,ats⟩,ty,pos,aft,gd⟩ v:=ZfP hf.out hl (fun w _=>hs.out hp w)
theorem Za8 {f:FuncId}{xs:List Operand}{l:List Value}{ats:Array TypeId}(hl:Env.evs E xs=some l)[hf:CallC P f](hc:∀w,Own w0 L w->Calls P f l.toArray w (Ret v w)):
  Yl P w0 n L E ⟨d, .call ⟨.value (.func f),xs.toArray,ats⟩,ty,pos,aft,gd⟩ v:=ZfP hf.out hl hc
theorem ZnC {T:TypeId}{z:Value}{cs:Array Value}[hz:ZeroC P T z cs]{t:Tmp}(hg:guardB ops E gd=some true)(hd:Nat.blt t n=true)
  (h:∀b,JO P w0 n ops Q rest ((t, .pointer (some ⟨b,0,none⟩))::E) (⟨b,cs,T⟩::L)):JO P w0 n ops Q (⟨some t, .alloc T,ty,pos,aft,gd⟩::rest) E L:=Zoo hz.out hg hd (by rw[hz.cells];exact h)
theorem Zss {T:TypeId}{x:Operand}{cs:Array Value}(hx:Env.ev E x=some (.agg cs)){t:Tmp}(hg:guardB ops E gd=some true)(hd:Nat.blt t n=true)
  (h:∀b,JO P w0 n ops Q rest ((t, .pointer (some ⟨b,0,none⟩))::E) (⟨b,cs,T⟩::L)):JO P w0 n ops Q (⟨some t, .box T x,ty,pos,aft,gd⟩::rest) E L:=ZlI hx hg hd h
theorem Zoa {T T0:TypeId}{x y:Operand}{b k:Nat}{cs cs':Array Value}(hx:Env.ev E x=some (.pointer (some ⟨b,0,none⟩)))(hy:Env.ev E y=some (.agg cs'))[hk:SizeC P T k][hc':CsC cs' k][hu:UpdC b cs' L cs T0 L'][hc:CsC cs k]
  (hg:guardB ops E gd=some true) (h:JO P w0 n ops Q rest E L'):JO P w0 n ops Q (⟨none, .store T x y,ty,pos,aft,gd⟩::rest) E L:=
 ZmD k hx hy hu.out hk.out hc'.size hc.size hc'.one hg rfl h
theorem Z0 {K:Env->List Blk->Prop}{T:TypeId}{z:Value}{cs:Array Value}{t:Tmp}[hz:ZeroC P T z cs](h:∀b,JN P n K rest ((t, .pointer (some ⟨b,0,none⟩))::E) (⟨b,cs,T⟩::L)):JN P n K (⟨some t, .alloc T,ty,pos,aft,none⟩::rest) E L:=
 Zr9 (o:=⟨some t, .alloc T,ty,pos,aft,none⟩) rfl hz.out (by rw[hz.cells];exact h)
theorem Zcx {fn:Func}{R:Ending->World->Prop}{t:Tmp}{T T0:TypeId}{b:Nat}{cs:Array Value}(hres:fn.results=#[.cell t T])(ht:Env.find E t=some (.pointer (some ⟨b,0,none⟩)))[hm:MemC b L cs T0][hv:LdC P T cs 0 v]
  (h:∀w,Own w0 L w->R (.returned v) w):JX w0 n .ret (bodyPost P fn R) E L:=ZiZ hres ht hm.out hv.out h
theorem rtC {fn:Func}{t:Tmp}{T T0:TypeId}{b:Nat}{cs:Array Value}(hres:fn.results=#[.cell t T])(ht:Env.find E t=some (.pointer (some ⟨b,0,none⟩)))[hm:MemC b L cs T0][hv:LdC P T cs 0 v]:JX w0 n .ret (bodyPost P fn (Ret v w0)) E L:=Zcx hres ht (fun w hw=>ZP hw)
theorem Z6 {t:Tmp}{T T0:TypeId}{b:Nat}{cs:Array Value}(h:Env.find E t=some (.pointer (some ⟨b,0,none⟩)))[hm:MemC b L cs T0][hv:LdC P T cs 0 v]:ResV P E L (.cell t T) v:=ZmK h hm.out hv.out
end
theorem Zge (a b:Int):(a==b)=decide (a=b):=by rw[Bool.eq_iff_iff];simp
theorem ZdJ (a b:Bool):(a==b)=decide (a=b):=by cases a <;> cases b <;> rfl
theorem ZeZ (a b:ByteArray):(a==b)=decide (a=b):=by
 obtain⟨⟨x⟩⟩:=a
 obtain⟨⟨y⟩⟩:=b
 show((⟨x⟩:Array UInt8)==⟨y⟩)=_
 rw[Bool.eq_iff_iff]
 simp
class UndC (P:Program)(T:TypeId)(d:outParam TypeDesc):Prop where
 out:P.underlying T=some d
section
variable {P : Program} {T : TypeId}
instance ZsU {k:IntKind}{a b:Int}:BinC P .eql T (.int k a) (.int k b) (.bool (decide (a=b))):=⟨fun x y w=>by rw[eqGuard_at_int];rfl,fun w=>by rw[binOp_eql,Zge];rfl⟩
instance Zs9 {k:IntKind}{a b:Int}:BinC P .neq T (.int k a) (.int k b) (.bool (!decide (a=b))):=⟨fun x y w=>by rw[eqGuard_at_int];rfl,fun w=>by rw[binOp_neq,bne,Zge];rfl⟩
instance Ztb {k:IntKind}{a b:Int}:BinC P .lss T (.int k a) (.int k b) (.bool (decide (a<b))):=⟨fun x y w=>by rw[eqGuard_at_int];rfl,fun w=>by rw[binOp_lss];simp⟩
instance Ztc {k:IntKind}{a b:Int}:BinC P .leq T (.int k a) (.int k b) (.bool (decide (a<=b))):=⟨fun x y w=>by rw[eqGuard_at_int];rfl,fun w=>by rw[binOp_leq];simp⟩
instance Ztu {k:IntKind}{a b:Int}:BinC P .gtr T (.int k a) (.int k b) (.bool (decide (b<a))):=⟨fun x y w=>by rw[eqGuard_at_int];rfl,fun w=>by rw[binOp_gtr];simp⟩
instance ZsY {k:IntKind}{a b:Int}:BinC P .geq T (.int k a) (.int k b) (.bool (decide (b<=a))):=⟨fun x y w=>by rw[eqGuard_at_int];rfl,fun w=>by rw[binOp_geq];simp⟩
instance Zso {a b:Bool}[h:UndC P T .bool]:BinC P .eql T (.bool a) (.bool b) (.bool (a==b)):=⟨fun x y w=>by rw[eqGuard_at_bool];rfl,fun w=>by
 simp only[binOp]
 simp[Op.equal,Op.maxDepth,run_equalIn_bool' w 9999 T a b h.out]⟩
instance ZsI {a b:Bool}[h:UndC P T .bool]:BinC P .neq T (.bool a) (.bool b) (.bool (a != b)):=⟨fun x y w=>by rw[eqGuard_at_bool];rfl,fun w=>by
 simp only[binOp]
 simp[Op.equal,Op.maxDepth,run_equalIn_bool' w 9999 T a b h.out,bne]⟩
instance Zp0 {a b:ByteArray}:BinC P .eql T (.string a) (.string b) (.bool (decide (a=b))):=⟨fun x y w=>by rw[eqGuard_at_string];rfl,fun w=>by simp[go_sem,<-beq_toListBytes,ZeZ]⟩
instance ZpS {a b:ByteArray}:BinC P .neq T (.string a) (.string b) (.bool (!decide (a=b))):=⟨fun x y w=>by rw[eqGuard_at_string];rfl,fun w=>by simp[go_sem,<-beq_toListBytes,ZeZ]⟩
instance ZBQ {a:Bool}:UnC P .not (.bool a) (.bool (!a)):=⟨fun w=>by simp[go_sem]⟩
end
end Go.Vt
namespace Go.Vt
open Go.RowKit
section
variable {P : Program} {w0 : World} {n : Nat} {ops : Array Oper} {L L' : List Blk} {E : Env}
variable {Q : Exit -> Act -> World -> Prop} {rest : List Oper} {v : Value}
variable {d : Option Tmp} {ty : TypeId} {pos : String} {aft : Array Edge} {gd : Option (Nat × Bool)}
variable {T T' : TypeId} {x y : Operand} {a b : Int}
theorem Zan {op:BinOp}{k:IntKind}{r:Int}(hx:Env.ev E x=some (.int k a))(hy:Env.ev E y=some (.int k b))(hr:∀w,(binOp op T (.int k a) (.int k b)).run P w= .ok (.int k r) w):Yl P w0 n L E ⟨d, .binOp op T x y T',ty,pos,aft,gd⟩ (.int k r):=
 Zdt hx hy (fun w=>by rw[eqGuard_at_int];rfl) hr
theorem ZfN (k:IntKind)(w:World):(binOp .add T (.int k a) (.int k b)).run P w= .ok (.int k (k.wrap (a+b))) w:=by simp[binOp_add,Op.intArith]
theorem Zjv (k:IntKind)(w:World):(binOp .sub T (.int k a) (.int k b)).run P w= .ok (.int k (k.wrap (a-b))) w:=by simp[binOp_sub,Op.intArith]
theorem ZjN (k:IntKind)(w:World):(binOp .mul T (.int k a) (.int k b)).run P w= .ok (.int k (k.wrap (a*b))) w:=by simp[binOp_mul,Op.intArith]
theorem ZfV (k:IntKind)(w:World)(h:b≠0):(binOp .quo T (.int k a) (.int k b)).run P w= .ok (.int k (k.wrap (a.tdiv b))) w:=by simp[binOp_quo,Op.intDiv,h]
theorem Zes (k:IntKind)(w:World)(h:b≠0):(binOp .rem T (.int k a) (.int k b)).run P w= .ok (.int k (a.tmod b)) w:=by simp[binOp_rem,Op.intDiv,h]
class BinW (P:Program)(op:BinOp)(T:TypeId)(vx vy:Value)(v:outParam Value):Prop where
 guard:∀x y w,(eqGuard op T x y vx vy).run P w= .ok () w
 run:∀w,(binOp op T vx vy).run P w= .ok v w
theorem ZqM {op:BinOp}{vx vy:Value}(hx:Env.ev E x=some vx)(hy:Env.ev E y=some vy)[h:BinW P op T vx vy v]:Yl P w0 n L E ⟨d, .binOp op T x y T',ty,pos,aft,gd⟩ v:=Zdt hx hy (h.guard x y) h.run
instance Zzn {k:IntKind}:BinW P .add T (.int k a) (.int k b) (.int k (k.wrap (a+b))):=⟨fun x y w=>by rw[eqGuard_at_int];rfl,ZfN k⟩
instance ZzE {k:IntKind}:BinW P .sub T (.int k a) (.int k b) (.int k (k.wrap (a-b))):=⟨fun x y w=>by rw[eqGuard_at_int];rfl,Zjv k⟩
section
variable (hx : Env.ev E x = some (.int .i64 a)) (hy : Env.ev E y = some (.int .i64 b))
include hx hy
theorem ZnJ (h: -9223372036854775808<=a+b/\a+b<=9223372036854775807):Yl P w0 n L E ⟨d, .binOp .add T x y T',ty,pos,aft,gd⟩ (.int .i64 (a+b)):=Zan hx hy fun w=>by rw[ZfN,IntWalk.i64_in _ h]
theorem Zg6 (h: -9223372036854775808<=a-b/\a-b<=9223372036854775807):Yl P w0 n L E ⟨d, .binOp .sub T x y T',ty,pos,aft,gd⟩ (.int .i64 (a-b)):=Zan hx hy fun w=>by rw[Zjv,IntWalk.i64_in _ h]
theorem ZnG (h: -9223372036854775808<=a*b/\a*b<=9223372036854775807):Yl P w0 n L E ⟨d, .binOp .mul T x y T',ty,pos,aft,gd⟩ (.int .i64 (a*b)):=Zan hx hy fun w=>by rw[ZjN,IntWalk.i64_in _ h]
theorem Zpf (h:0<=a/\a<=9223372036854775807/\1<=b):Yl P w0 n L E ⟨d, .binOp .quo T x y T',ty,pos,aft,gd⟩ (.int .i64 (a / b)):=Zan hx hy fun w=>by rw[ZfV _ _ (by omega),IntWalk.i64_quo _ _ h]
theorem Zoq (h:0<=a/\1<=b):Yl P w0 n L E ⟨d, .binOp .rem T x y T',ty,pos,aft,gd⟩ (.int .i64 (a % b)):=Zan hx hy fun w=>by rw[Zes _ _ (by omega),IntWalk.rem_in _ _ h.1]
end
section
variable (hx : Env.ev E x = some (.int .u64 a)) (hy : Env.ev E y = some (.int .u64 b))
include hx hy
theorem Zqd (h:0<=a+b/\a+b<=18446744073709551615):Yl P w0 n L E ⟨d, .binOp .add T x y T',ty,pos,aft,gd⟩ (.int .u64 (a+b)):=Zan hx hy fun w=>by rw[ZfN,IntWalk.u64_in _ h]
theorem Zgg (h:0<=a*b/\a*b<=18446744073709551615):Yl P w0 n L E ⟨d, .binOp .mul T x y T',ty,pos,aft,gd⟩ (.int .u64 (a*b)):=Zan hx hy fun w=>by rw[ZjN,IntWalk.u64_in _ h]
theorem ZfY (h:0<=a/\a<=18446744073709551615/\1<=b):Yl P w0 n L E ⟨d, .binOp .quo T x y T',ty,pos,aft,gd⟩ (.int .u64 (a / b)):=Zan hx hy fun w=>by rw[ZfV _ _ (by omega),IntWalk.u64_quo _ _ h]
theorem Zeg (h:0<=a/\1<=b):Yl P w0 n L E ⟨d, .binOp .rem T x y T',ty,pos,aft,gd⟩ (.int .u64 (a % b)):=Zan hx hy fun w=>by rw[Zes _ _ (by omega),IntWalk.rem_in _ _ h.1]
end
theorem ZaI {k k':IntKind}(hx:Env.ev E x=some (.int k a))(hy:Env.ev E y=some (.int k' b))(h:0<=b/\b<=k.bits):Yl P w0 n L E ⟨d, .binOp .shr T x y T',ty,pos,aft,gd⟩ (.int k (a / 2 ^ b.toNat)):=
 Zdt hx hy (fun w=>by rw[eqGuard_at_int];rfl) (fun w=>by rw[binOp_shr,shift_shr _ _ _ _ h.1 h.2];rfl)
theorem Zco {k k':IntKind}(hx:Env.ev E x=some (.int k a))(hy:Env.ev E y=some (.int k' b))(h:0<=b/\b<=k.bits):Yl P w0 n L E ⟨d, .binOp .shl T x y T',ty,pos,aft,gd⟩ (.int k (k.wrap (a*2 ^ b.toNat))):=
 Zdt hx hy (fun w=>by rw[eqGuard_at_int];rfl) (fun w=>by rw[binOp_shl,shift_shl _ _ _ _ h.1 h.2];rfl)
theorem ZdN {k:IntKind}(hx:Env.ev E x=some (.int k a))(hy:Env.ev E y=some (.int k b)):Yl P w0 n L E ⟨d, .binOp .or T x y T',ty,pos,aft,gd⟩ (.int k (bits .or k a b)):=Zan hx hy fun w=>by rw[binOp_or,intBits_or];rfl
theorem ZcS {S:TypeId}{k k':IntKind}[hs:UndC P S (.int k)][hd:UndC P T (.int k')](w:World):(convert S T (.int k a)).run P w= .ok (.int k' (k'.wrap a)) w:=by
 have h1:P.intKind T=k':=by simp[Program.intKind,hd.out]
 have:=run_convert_int (P:=P) w S T k a (by rw[hs.out];rfl) (by rw[h1];exact hd.out)
 rw[h1] at this
 exact this
theorem ZgQ {S:TypeId}{k k':IntKind}[hs:UndC P S (.int k)][hd:UndC P T (.int k')](hx:Env.ev E x=some (.int k a)):Yl P w0 n L E ⟨d, .convert S T x,ty,pos,aft,gd⟩ (.int k' (k'.wrap a)):=Zdf hx ZcS
theorem Zj6 {S:TypeId}{k:IntKind}[hs:UndC P S (.int k)][hd:UndC P T (.int .i64)](hx:Env.ev E x=some (.int k a))(h: -9223372036854775808<=a/\a<=9223372036854775807):Yl P w0 n L E ⟨d, .convert S T x,ty,pos,aft,gd⟩ (.int .i64 a):=Zdf hx fun w=>by rw[ZcS (k':= .i64),IntWalk.i64_in _ h]
theorem ZfI {S:TypeId}{k:IntKind}[hs:UndC P S (.int k)][hd:UndC P T (.int .u64)](hx:Env.ev E x=some (.int k a))(h:0<=a/\a<=18446744073709551615):Yl P w0 n L E ⟨d, .convert S T x,ty,pos,aft,gd⟩ (.int .u64 a):=Zdf hx fun w=>by rw[ZcS (k':= .u64),IntWalk.u64_in _ h]
theorem Zqb {S:TypeId}{k:IntKind}[hs:UndC P S (.int k)][hd:UndC P T (.int .u32)](hx:Env.ev E x=some (.int k a))(h:0<=a/\a<=4294967295):Yl P w0 n L E ⟨d, .convert S T x,ty,pos,aft,gd⟩ (.int .u32 a):=Zdf hx fun w=>by rw[ZcS (k':= .u32),IntWalk.u32_in _ h]
theorem ZrL {S:TypeId}{k:IntKind}[hs:UndC P S (.int k)][hd:UndC P T (.int .u8)](hx:Env.ev E x=some (.int k a))(h:0<=a/\a<=255):Yl P w0 n L E ⟨d, .convert S T x,ty,pos,aft,gd⟩ (.int .u8 a):=Zdf hx fun w=>by rw[ZcS (k':= .u8),IntWalk.u8_in _ h]
instance ZBy {k:IntKind}:UnC P .neg (.int k a) (.int k (k.wrap (-a))):=⟨fun w=>by simp[Op.unary,Op.intArith]⟩
theorem ZkQ {S:TypeId}{s:ByteArray}[h:UndC P S .string](hx:Env.ev E x=some (.string s)):Yl P w0 n L E ⟨d, .call ⟨.builtin .len,#[x],#[S]⟩,ty,pos,aft,gd⟩ (.int .i64 s.size):=⟨fun a w ha _=>by
 unfold calm
 simp[execOp,resolve,ha.ev hx,invoke,builtin,Builtin.len_,run_underlying h.out,goInt,calmUpon,Ext.refl]⟩
theorem Zml {S e:TypeId}{p:Option Addr}{l c:Nat}[h:UndC P S (.slice e)](hx:Env.ev E x=some (.slice p l c)):Yl P w0 n L E ⟨d, .call ⟨.builtin .len,#[x],#[S]⟩,ty,pos,aft,gd⟩ (.int .i64 l):=⟨fun a w ha _=>by
 unfold calm
 simp[execOp,resolve,ha.ev hx,invoke,builtin,Builtin.len_,run_underlying h.out,goInt,calmUpon,Ext.refl]⟩
theorem ZaX {s:ByteArray}{i:Int}{u:UInt8}[h:UndC P T .string](hx:Env.ev E x=some (.string s))(hy:Env.ev E y=some (.int .i64 i))(h0:0<=i)(hu:s[i.toNat]? =some u):Yl P w0 n L E ⟨d, .index T x y,ty,pos,aft,gd⟩ (.int .u8 u.toNat):=
 ZnM hx hy fun w=>by simp[Instr.index,asIntOf,run_underlying h.out,h0,hu]
def nums (k:IntKind)(xs:List Int):Array Value:=(xs.map (.int k)).toArray
theorem Zd0 (k:IntKind)(xs:List Int):(nums k xs).size=xs.length:=by simp[nums]
theorem ZeT (k:IntKind)(xs:List Int)(i:Nat):(nums k xs)[i]? =(xs[i]?).map (.int k):=by simp[nums]
theorem ZeS (k:IntKind)(xs:List Int)(i:Nat)(z:Int):(nums k xs).setIfInBounds i (.int k z)=nums k (xs.set i z):=by
 simp[nums,List.map_set]
theorem Znp (k:IntKind)(xs:List Int):(nums k xs).all (·.oneCell')=true:=by
 simp[nums,Value.oneCell']
theorem Zhp {N e s b off:Nat}{i:Int}[h:UndC P T (.array N e)][hs:SizeC P e s](hx:Env.ev E x=some (.pointer (some ⟨b,off,none⟩)))(hy:Env.ev E y=some (.int .i64 i))(hi:0<=i/\i<N):
  Yl P w0 n L E ⟨d, .indexAddr T x y,ty,pos,aft,gd⟩ (.pointer (some ⟨b,off+i.toNat*s,none⟩)):=
 ZhB hx hy fun w=>by simp[Instr.indexAt,asIntOf,run_underlying h.out,Instr.sureAddr,hi.1,hi.2,Z5 hs.out,Zai]
theorem ZiG {e s b off l c:Nat}{i:Int}[h:UndC P T (.slice e)][hs:SizeC P e s](hx:Env.ev E x=some (.slice (some ⟨b,off,none⟩) l c))(hy:Env.ev E y=some (.int .i64 i))(hi:0<=i/\i<l):
  Yl P w0 n L E ⟨d, .indexAddr T x y,ty,pos,aft,gd⟩ (.pointer (some ⟨b,off+i.toNat*s,none⟩)):=
 ZhB hx hy fun w=>by simp[Instr.indexAt,asIntOf,run_underlying h.out,hi.1,hi.2,Z5 hs.out,Zai]
theorem Zo1 {T0:TypeId}{b off:Nat}{cs:Array Value}(hx:Env.ev E x=some (.pointer (some ⟨b,off,none⟩)))[hm:MemC b L cs T0](ho:oneB P T=true)(hv:cs[off]? =some v):Yl P w0 n L E ⟨d, .load T x,ty,pos,aft,gd⟩ v:=ZjW hx hm.out (ZD ho hv)
theorem Zmo {T0:TypeId}{b off:Nat}{k:IntKind}{xs:List Int}{z:Int}(hx:Env.ev E x=some (.pointer (some ⟨b,off,none⟩)))(hy:Env.ev E y=some (.int k z))[hk:SizeC P T 1][MemC b L (nums k xs) T0](hs:off<xs.length)[hu:UpdC b (nums k (xs.set off z)) L (nums k xs) T0 L']
  (hg:guardB ops E gd=some true) (h:JO P w0 n ops Q rest E L'):JO P w0 n ops Q (⟨none, .store T x y,ty,pos,aft,gd⟩::rest) E L:=
 ZbY (u:= .int k z) 1 hx hy hu.out hk.out rfl (Nat.ble_eq_true_of_le (by rw[Zd0];omega)) (by simp[Value.cells,Value.oneCell']) (ZeS k xs off z) hg rfl h
theorem Zbn {S e b off l c:Nat}{T0:TypeId}{cs:Array Value}{bs:List UInt8}[hs:UndC P S (.slice e)][he:UndC P e (.int .u8)][hd:UndC P T .string](hx:Env.ev E x=some (.slice (some ⟨b,off,none⟩) l c))[hm:MemC b L cs T0](hl:bs.length=l)
  (hc:∀i u,bs[i]? =some u->cs[off+i]? =some (.int .u8 u.toNat)):Yl P w0 n L E ⟨d, .convert S T x,ty,pos,aft,gd⟩ (.string ⟨bs.toArray⟩):=
 Z4 (fun _=>convert S T (.slice (some ⟨b,off,none⟩) l c)) (fun a ha=>by simp only[execOp,ha.ev hx]) (fun a w _ hw=>by
  have hb:=(hw.mem _ hm.out).2
  have:=run_convert_bytes_arg (P:=P) w S e hs.out he.out b off l c (bs.map fun u=>(u.toNat:Int)) (by simpa using hl) (fun i hi=>by
   rw[Zaf hb]
   have hi':i<bs.length:=by omega
   rw[hc i bs[i] (by simp[hi'])]
   simp[hi']) T hd.out
  rw[this]
  have e1:strOfNums (bs.map fun u=>(u.toNat:Int))=⟨bs.toArray⟩:=by
   unfold strOfNums
   congr 2
   rw[List.map_map]
   have:∀u∈bs,((fun n:Int=>UInt8.ofNat n.toNat) ∘ fun u:UInt8=>(u.toNat:Int)) u=id u:=fun u _=>by simp
   rw[List.map_congr_left this,List.map_id]
  rw[e1])
theorem Zih {N e b off s:Nat}{i:Int}[h:UndC P T (.array N e)][hs:SizeC P e s](hx:Env.ev E x=some (.pointer (some ⟨b,off,none⟩)))(hy:Env.ev E y=some (.int .i64 i))(hi:0<=i/\i<=N):
  Yl P w0 n L E ⟨d, .slice T x none (some y) none,ty,pos,aft,gd⟩ (.slice (some ⟨b,off,none⟩) i.toNat N):=
 Z4 (fun _=>Instr.sliceAt T (.pointer (some ⟨b,off,none⟩)) none (some (.int .i64 i)) none) (fun a ha=>by simp only[execOp,ha.ev hx,Option.map_none,Option.map_some,ha.ev hy]) (fun a w _ _=>by
  simp[Instr.sliceAt,run_underlying h.out,Instr.sureAddr,Instr.sliceBounds,Instr.sliceBound,asIntOf,hi.1,hi.2,Z5 hs.out,Addr.add])
end
end Go.Vt
