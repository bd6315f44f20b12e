/- that the gaps between reports are those of the chain (part 11 of 32.) Conditions: those that each statement names. -/
import Derived.Test.YtjicdlilgjdefaaGreatDoorKG10
set_option linter.unusedSimpArgs false
set_option linter.unusedVariables false
set_option maxHeartbeats 2000000
set_option linter.unusedSectionVars false
set_option maxRecDepth 100000
namespace Go.Vt
open Go.RowKit
section
variable {P : Program} {w0 : World} {n : Nat} {ops : Array Oper} {L L' Lw : List Blk} {E : Env}
variable {Q : Exit -> Act -> World -> Prop} {v : Value}
def wpK (P:Program)(w0:World)(ops:Array Oper)(As:List Nat)(Lw:List Blk)(F:List Blk->Act->Prop):Nat->Array Bool->List Nat->List Blk->Act->Prop
  |0,listed,es,L,a=>es=[]/\Region.ready .any ops listed=[]/\F L a
  | f + 1, listed, es, L, a => Region.ready .any ops listed ≠ [] /\ ∀ i ∈ Region.ready .any ops listed, ∃ o, ops[i]? = some o /\
      ((∃v,YieldsC P w0 L ops o v a/\wpK P w0 ops As Lw F f (listed.setIfInBounds i true) es L (a.put o.dst v))\/
       ∃es',(es=i::es'\/(As.contains i=true/\es'=es))/\Eff P w0 Lw ops L o a fun L' u=>wpK P w0 ops As Lw F f (listed.setIfInBounds i true) es' L' (a.put o.dst u))
theorem Zpr {As:List Nat}{i:Nat}{oi:Oper}{F:List Blk->Act->Prop}(hi:ops[i]? =some oi)(hsel:∀(j:Nat)(o:Oper) cs b,ops[j]? =some o->o.op≠ .select cs b):
  ∀(f:Nat)(listed:Array Bool)(es:List Nat)(L:List Blk)(a:Act),
   (∀j oj,ops[j]? =some oj->j≠i->listed.getD j true=false->(∀e∈oj.after,Region.binds .any e=true->e.on≠i)->oi.apart ops oj=true)->
   i∈Region.ready .any ops listed->YieldsC P w0 Lw ops oi v a->Weak w0 Lw L->
   wpK P w0 ops As Lw F f (listed.setIfInBounds i true) es L (a.put oi.dst v)->wpK P w0 ops As Lw F (f+1) listed es L a:=by
 intro f
 induction f with
 |zero=>
  intro listed es L a _ hr hy hw H
  refine⟨fun h=>(by rw[h] at hr;cases hr),fun j hj=>?_⟩
  by_cases hji:j=i
  ·subst hji
   exact⟨oi,hi, .inl ⟨v,hy.weak hw,H⟩⟩
  ·have:=ready_mono hj hji
   rw[H.2.1] at this
   cases this
 |succ f ih=>
  intro listed es L a hfree hr hy hw H
  have hun:=(mem_ready.1 hr).1
  refine⟨fun h=>(by rw[h] at hr;cases hr),fun j hj=>?_⟩
  by_cases hji:j=i
  ·subst hji
   exact⟨oi,hi, .inl ⟨v,hy.weak hw,H⟩⟩
  ·obtain⟨hjun,oj,hoj,hall⟩:=mem_ready.1 hj
   have hnot:∀e∈oj.after,Region.binds .any e=true->e.on≠i:=fun e he hb heq=>by
    have h1:=hall e he hb
    rw[heq,getD_both hun] at h1
    cases h1
   obtain⟨h1,h2,h3⟩:=Oper.apart_spec (hfree j oj hoj hji hjun hnot)
   have hfree':∀q oq,ops[q]? =some oq->q≠i->(listed.setIfInBounds j true).getD q true=false->
     (∀e∈oq.after,Region.binds .any e=true->e.on≠i)->oi.apart ops oq=true:=fun q oq hq hqi hun' hno=>by
    refine hfree q oq hq hqi ?_ hno
    by_cases hjq:j=q
    ·subst hjq;exact hjun
    ·rw[getD_set_ne true hjq] at hun';exact hun'
   have keep:∀u,YieldsC P w0 Lw ops oi v (a.put oj.dst u):=fun u=>hy.same (execOp_put oi (fun cs b=>hsel i oi cs b hi) a oj.dst u h3) (wanted_put oi a oj.dst u h3)
   have hex:execOp (a.put oi.dst v).eval oj=execOp a.eval oj:=execOp_put oj (fun cs b=>hsel j oj cs b hoj) a oi.dst v h1
   have hwa:Region.wanted oj (yielded ops (a.put oi.dst v).tmps)=Region.wanted oj (yielded ops a.tmps):=wanted_put oj a oi.dst v h1
   have step:∀es' L' u,Weak w0 Lw L'->wpK P w0 ops As Lw F f ((listed.setIfInBounds i true).setIfInBounds j true) es' L' ((a.put oi.dst v).put oj.dst u)->wpK P w0 ops As Lw F (f+1) (listed.setIfInBounds j true) es' L' (a.put oj.dst u):=fun es' L' u hw' hh=>by
    refine ih _ _ _ _ hfree' (ready_mono hr (Ne.symm hji)) (keep u) hw' ?_
    rw[Array.setIfInBounds_comm _ _ hji,<-Act.put_comm a v u h2]
    exact hh
   obtain⟨o,ho,hH⟩:=H.2 j (ready_mono hj hji)
   have:o=oj:=Option.some.inj (ho.symm.trans hoj)
   subst this
   refine⟨o,ho, ?_⟩
   rcases hH with⟨u,hu,hK⟩|⟨es',he,hE⟩
   ·exact .inl ⟨u,hu.same hex.symm hwa.symm,step _ _ _ hw hK⟩
   ·refine .inr ⟨es',he,hwa▸hE.1,fun w hw1=>?_⟩
    have hH:=hE.2 w hw1
    rw[hex] at hH
    exact hH.mono fun u w' ⟨L',h5,h6,h7⟩=>⟨L',h5,h6,step _ _ _ h6 h7⟩
theorem ZbK {As:List Nat}{F:List Blk->Act->Prop}(hF:∀L a w,F L a->Own w0 L w->Q .normal a w):
  ∀(f:Nat)(listed:Array Bool)(es:List Nat)(L:List Blk)(a:Act)(w:World),Own w0 L w->wpK P w0 ops As Lw F f listed es L a->wpAny P .any ops Q f listed a w
 |0,listed,es,L,a,w,hw,h=>⟨h.2.1,hF _ _ _ h.2.2 hw⟩
 |f+1,listed,es,L,a,w,hw,h=>by
  refine⟨fun h0=>absurd h0 h.1,fun i hi=>?_⟩
  obtain⟨o,ho,hH⟩:=h.2 i hi
  unfold wpOp
  simp only[ho]
  rcases hH with⟨v,hy,hK⟩|⟨es',_,hwt,hE⟩
  ·rcases hy with⟨hwt,hy⟩|⟨hwt,rfl⟩
   ·rw[if_pos hwt]
    exact .inl (ZcV (hy w hw) fun w' hx=>ZbK hF f _ _ _ _ _ (hw.to hx) hK)
   ·rw[if_neg (by rw[hwt];simp)]
    exact ZbK hF f _ _ _ _ _ hw hK
  ·rw[if_pos hwt]
   exact .inl (ZiC ((hE w hw).mono fun u w' ⟨L',hw',_,hK⟩=>ZbK hF f _ _ _ _ _ hw' hK))
theorem Zf4 {As:List Nat}{F:List Blk->Act->Prop}:∀(es:List Nat)(listed:Array Bool)(L:List Blk)(a:Act),seqE ops es listed=true->EC P w0 ops [] Lw F es L a->wpK P w0 ops As Lw F es.length listed es L a
 |[],listed,L,a,hB,h=>⟨rfl,by simpa [seqE] using hB,h⟩
 |i::es,listed,L,a,hB,h=>by
  simp only[seqE,Wq,decide_eq_true_eq] at hB
  refine⟨by rw[hB.1];simp,fun j hj=>?_⟩
  rw[hB.1] at hj
  have:j=i:=by simpa using hj
  subst this
  obtain⟨o,ho,hE⟩:=h
  exact⟨o,ho, .inr ⟨es, .inl rfl,Eff.mono hE fun L' u _ hK=>Zf4 es _ _ _ hB.2 hK⟩⟩
def AK (P:Program)(ops:Array Oper)(F:List Blk->Act->Prop):List Nat->List Blk->Act->Prop
 |[],L,a=>F L a
 |i::is,L,a=>∃o T z,ops[i]? =some o/\isNew o=some T/\(P.info? T).bind (·.zero)=some z/\∀b,AK P ops F is (⟨b,z.cells,T⟩::L) (a.put o.dst (.pointer (some ⟨b,0,none⟩)))
theorem AK.perm {F:List Blk->Act->Prop}(hF:∀L M a,L.Perm M->F L a->F M a):∀(is:List Nat)(L M:List Blk)(a:Act),L.Perm M->AK P ops F is L a->AK P ops F is M a
 |[],L,M,a,p,h=>hF L M a p h
 |i::is,L,M,a,p,⟨o,T,z,h1,h2,h3,h⟩=>⟨o,T,z,h1,h2,h3,fun b=>AK.perm hF is _ _ _ (p.cons _) (h b)⟩
def dsB (ops:Array Oper):List Nat->Bool
 |[]=>true
 |i::is=>is.all (fun j=>match(ops[i]?).bind (·.dst),(ops[j]?).bind (·.dst) with|some d,some e=>d != e|_,_=>true)&&dsB ops is
theorem AK.pick {F:List Blk->Act->Prop}(hF:∀L M a,L.Perm M->F L a->F M a):∀(is:List Nat)(L:List Blk)(a:Act)(i:Nat),i∈is->dsB ops is=true->AK P ops F is L a->
  ∃o T z,ops[i]? =some o/\isNew o=some T/\(P.info? T).bind (·.zero)=some z/\∀b,AK P ops F (is.erase i) (⟨b,z.cells,T⟩::L) (a.put o.dst (.pointer (some ⟨b,0,none⟩)))
 |[],_,_,_,h,_,_=>by cases h
 |j::is,L,a,i,hi,hd,⟨oj,Tj,zj,h1,h2,h3,h⟩=>by
  by_cases hij:j=i
  ·subst hij
   rw[List.erase_cons_head]
   exact⟨oj,Tj,zj,h1,h2,h3,h⟩
  ·have hi':i∈is:=by
    rcases List.mem_cons.1 hi with h4|h4
    ·exact absurd h4.symm hij
    ·exact h4
   simp only[dsB,Wq,List.all_eq_true] at hd
   obtain⟨o,T,z,k1,k2,k3, -⟩:=AK.pick hF is _ _ i hi' hd.2 (h 0)
   refine⟨o,T,z,k1,k2,k3,fun b=>?_⟩
   rw[List.erase_cons_tail (by simpa using hij)]
   refine⟨oj,Tj,zj,h1,h2,h3,fun bj=>?_⟩
   obtain⟨o',T',z',m1,m2,m3,m⟩:=AK.pick hF is _ _ i hi' hd.2 (h bj)
   obtain rfl:o'=o:=Option.some.inj (m1.symm.trans k1)
   obtain rfl:T'=T:=Option.some.inj (m2.symm.trans k2)
   obtain rfl:z'=z:=Option.some.inj (m3.symm.trans k3)
   have hne:∀d e,oj.dst=some d->o'.dst=some e->d≠e:=fun d e hd1 he1=>by
    have:=hd.1 i hi'
    simp[h1,k1,hd1,he1] at this
    exact this
   have hput:(a.put oj.dst (.pointer (some ⟨bj,0,none⟩))).put o'.dst (.pointer (some ⟨b,0,none⟩))=(a.put o'.dst (.pointer (some ⟨b,0,none⟩))).put oj.dst (.pointer (some ⟨bj,0,none⟩)):=by
    obtain⟨-, -,d,hd1⟩:=ZcR h2
    obtain⟨-, -,e,he1⟩:=ZcR k2
    have hde:=hne d e hd1 he1
    rw[hd1,he1]
    simp only[Act.put]
    rw[Array.setIfInBounds_comm _ _ hde]
   have hm:=m b
   rw[hput] at hm
   exact AK.perm hF _ _ _ _ (.swap _ _ _) hm
def alB (ops:Array Oper)(es:List Nat):Nat->List Nat->Array Bool->Bool
 |_,[],listed=>seqE ops es listed
 |0,_::_,_=>false
 |f+1,i::is,listed=>decide (Region.ready .any ops listed=i::is)&&(i::is).all fun j=>alB ops es f ((i::is).erase j) (listed.setIfInBounds j true)
theorem Zo2 {As:List Nat}{F:List Blk->Act->Prop}{es:List Nat}(hF:∀L M a,L.Perm M->F L a->F M a)(hw:∀e:Blk,Weak w0 Lw L->Weak w0 Lw (e::L)):∀(f:Nat)(is:List Nat)(listed:Array Bool)(L:List Blk)(a:Act),alB ops es f is listed=true->dsB ops is=true->(∀i∈is,As.contains i=true)->is.Nodup->Weak w0 Lw L->
  AK P ops (fun L a=>EC P w0 ops [] Lw F es L a) is L a->wpK P w0 ops As Lw F (is.length+es.length) listed es L a:=by
 have hEC:∀(es:List Nat)(L M:List Blk)(a:Act),L.Perm M->EC P w0 ops [] Lw F es L a->EC P w0 ops [] Lw F es M a:=fun es L M a p h=>by
  cases es with
  |nil=>exact hF L M a p h
  |cons i es=>
   obtain⟨o,ho,h1,h2⟩:=h
   exact⟨o,ho,h1,fun w hw=>h2 w (hw.perm p.symm)⟩
 intro f
 induction f with
 |zero=>
  intro is listed L a hB hd hA hnd hw h
  cases is with
  |nil=>
   rw[Wx,Nat.zero_add]
   exact Zf4 es listed L a hB h
  |cons i is=>cases hB
 |succ f ih=>
  intro is listed L a hB hd hA hnd hw h
  cases is with
  |nil=>
   rw[Wx,Nat.zero_add]
   exact Zf4 es listed L a hB h
  |cons i is=>
   simp only[alB,Wq,decide_eq_true_eq,List.all_eq_true] at hB
   rw[show(i::is).length+es.length=(is.length+es.length)+1 by simp only[Wu];omega]
   refine⟨by rw[hB.1];simp,fun j hj=>?_⟩
   rw[hB.1] at hj
   obtain⟨o,T,z,h1,h2,h3,hk⟩:=AK.pick (hEC es) _ _ _ j hj hd h
   obtain⟨hop,hgd,d,hdd⟩:=ZcR h2
   refine⟨o,h1, .inr ⟨es, .inr ⟨hA j hj,rfl⟩,by simp[Region.wanted,hgd],fun w hw1=>?_⟩⟩
   have hrun:(execOp a.eval o).run P w= .ok (.value (.pointer (some ⟨w.heap.size,0,none⟩))) (w.alloc (.cells z.cells T)):=by
    cases hinf:P.info? T with
    |none=>simp[hinf] at h3
    |some ti=>
     have hz':ti.zero=some z:=by simpa [hinf] using h3
     obtain⟨dst,op,ty,pos,aft,gd⟩:=o
     simp only at hop
     subst hop
     simp[execOp,Instr.alloc,zeroValue,typeInfo,hinf,hz',newVar,newRow]
   rw[hrun]
   have hwk:Weak w0 Lw (⟨w.heap.size,z.cells,T⟩::L):=fun w1 h1=>hw w1 (h1.sub (List.sublist_cons_self _ _))
   refine⟨_,hw1.alloc z.cells T,hwk, ?_⟩
   have hlen:((i::is).erase j).length=is.length:=by rw[List.length_erase_of_mem hj];rfl
   have hds:dsB ops ((i::is).erase j)=true:=by
    have key:∀l:List Nat,dsB ops l=true->∀j,dsB ops (l.erase j)=true:=fun l=>by
     induction l with
     |nil=>intro _ j;rfl
     |cons x l ihl=>
      intro h j
      simp only[dsB,Wq] at h
      rw[List.erase_cons]
      split
      ·exact h.2
      ·simp only[dsB,Wq]
       exact⟨List.all_eq_true.2 fun y hy=>List.all_eq_true.1 h.1 y (List.mem_of_mem_erase hy),ihl h.2 j⟩
    exact key _ hd j
   have:=ih ((i::is).erase j) (listed.setIfInBounds j true) _ _ (hB.2 j hj) hds (fun q hq=>hA q (List.mem_of_mem_erase hq)) (hnd.erase j) hwk (hk w.heap.size)
   rw[hlen] at this
   exact this
def drlB (ops:Array Oper)(N:Nat)(P:Program)(hs As es:List Nat):Bool:=
 Region.noSelect ops&&decide (hs.length+(As.length+es.length)=ops.size)&&dsB ops As&&decide As.Nodup&&es.all (fun i=>decide (i<ops.size))&&
  As.all (fun i=>match ops[i]? with|some o=>dstOk N o.dst|none=>false)&&lexF ops (alB ops es As.length As) hs (Array.replicate ops.size false)
theorem ZdF {l:List Oper}{As:List Nat}{F:List Blk->Act->Prop}{es:List Nat}{G:Act->Prop}{N:Nat}{k:Array Bool->Bool}(hk:∀listed a,k listed=true->G a->wpK P w0 l.toArray As Lw F N listed es L a)(hsel:Region.noSelect l.toArray=true)(hw:Weak w0 Lw L):∀(hs:List Nat)(listed:Array Bool)(a:Act),lexF l.toArray k hs listed=true->
  AH P w0 Lw l.toArray G (picks l hs) a->wpK P w0 l.toArray As Lw F (hs.length+N) listed es L a
 |[],listed,a,hB,h=>by
  rw[Wx,Nat.zero_add]
  exact hk listed a hB h
 |i::hs,listed,a,hB,h=>by
  simp only[lexF,Wq] at hB
  obtain⟨⟨hr,hf⟩,hB'⟩:=hB
  have hr':i∈Region.ready .any l.toArray listed:=by simpa using hr
  obtain⟨_,o,ho,_⟩:=mem_ready.1 hr'
  have ho':l[i]? =some o:=by simpa using ho
  simp only[picks,ho',AH] at h
  obtain⟨v,hy,h⟩:=h
  rw[show(i::hs).length+N=(hs.length+N)+1 by simp only[Wu];omega]
  exact Zpr ho (Region.noSelect_spec hsel) _ _ _ _ _ (Region.free_spec ho hf) hr' hy hw (ZdF hk hsel hw hs _ _ hB' h)
theorem Zki {l:List Oper}{K:Env->List Blk->Prop}{F:List Blk->Act->Prop}(hK:∀E L a,Rep n E a->K E L->F L a):∀(is:List Nat)(E:Env)(L:List Blk)(a:Act),is.all (fun i=>match l.toArray[i]? with|some o=>dstOk n o.dst|none=>false)=true->Rep n E a->JN P n K (picks l is) E L->AK P l.toArray F is L a
 |[],E,L,a,_,ha,h=>hK E L a ha h
 |i::is,E,L,a,hi,ha,h=>by
  simp only[List.all_cons,Wq] at hi
  cases ho:l[i]? with
  |none=>simp[ho] at hi
  |some o=>
   simp only[picks,ho] at h
   obtain⟨T,z,h1,h2,h3⟩:=h
   have hd:dstOk n o.dst=true:=by simpa [ho] using hi.1
   exact⟨o,T,z,by simpa using ho,h1,h2,fun b=>Zki hK is _ _ _ hi.2 (ha.put _ _ hd) (h3 b)⟩
theorem Zdi {id:Nat}{l:List Oper}(hs As es:List Nat)(Lw:List Blk)(hm:P.follows .mixedOrders=true:=by exact mixed)(hB:drlB l.toArray n P hs As es=true:=by kernel_rfl)(hL:Lw.Sublist L:=by first|exact Wj _|exact Wk _|exact sbl|(repeat(first|exact Wj _|exact Wk _|refine List.Sublist.cons_cons _ ?_|refine List.Sublist.cons _ ?_|refine List.Sublist.trans ?_ (List.sublist_append_right _ _))))
  (h:JH P w0 n Lw l.toArray (fun E'=>JN P n (fun E1 L1=>JE P w0 n l.toArray Lw (fun E2 L2=>JX w0 n .normal Q E2 L2) (picks l es) E1 L1) (picks l As) E' L) (picks l hs) E):J P w0 n (.region id l.toArray true) Q E L:=by
 refine⟨fun a w ha hw=>?_⟩
 simp only[drlB,Wq,decide_eq_true_eq] at hB
 obtain⟨⟨⟨⟨⟨⟨hsel,hlen⟩,hds⟩,hnd⟩,hes⟩,hAs⟩,hlex⟩:=hB
 refine wp_region_any hm ?_
 have hF:∀L M (a:Act),L.Perm M->(∀w,Own w0 L w->Q .normal a w)->(∀w,Own w0 M w->Q .normal a w):=fun L M a p h w hw=>h w (hw.perm p.symm)
 have H:wpK P w0 l.toArray As Lw (fun L a=>∀w,Own w0 L w->Q .normal a w) (hs.length+(As.length+es.length)) (Array.replicate l.toArray.size false) es L a:=
  ZdF (k:=alB l.toArray es As.length As) (G:=fun a=>AK P l.toArray (fun L a=>EC P w0 l.toArray [] Lw (fun L a=>∀w,Own w0 L w->Q .normal a w) es L a) As L a)
   (fun listed a hb hG=>Zo2 hF (L:=L) (fun e h w1 h1=>h w1 (h1.sub (List.sublist_cons_self _ _))) As.length As listed L a hb hds (fun i hi=>by simpa using hi) hnd (Zaq hL) hG) hsel (Zaq hL) hs _ a hlex
   (Zcc (n:=n) (fun E' a' ha' hK=>Zki (n:=n) (fun E1 L1 a1 ha1 h1=>Zbz (n:=n) (Lj:=Lw) (fun E2 L2 a2 ha2 hx w hw=>hx.out a2 w ha2 hw) es E1 L1 a1 (by simpa using hes) (fun _ _=>rfl) ha1 h1) As E' L a' hAs ha' hK) _ _ _ ha h)
 have:=ZbK (P:=P) (Q:=Q) (fun L a w hF hw=>hF w hw) _ _ _ _ _ w.drew (hw.to (Ext.drew w)) H
 rw[hlen] at this
 exact this
inductive Tr where
 |fin
 |v (hs:List Nat) (t:Tr)
 |e1 (i:Nat) (t:Tr)
 |e2 (i:Nat) (t:Tr) (j:Nat) (u:Tr)
def trB (ops:Array Oper):Tr->Array Bool->Bool
 | .fin,listed=>(Region.ready .any ops listed).isEmpty
 | .v hs t,listed=>lexF ops (trB ops t) hs listed
 | .e1 i t,listed=>decide (Region.ready .any ops listed=[i])&&trB ops t (listed.setIfInBounds i true)
 | .e2 i t j u,listed=>decide (Region.ready .any ops listed=[i,j])&&(trB ops t (listed.setIfInBounds i true)&&trB ops u (listed.setIfInBounds j true))
def trN :Tr->Nat
 | .fin=>0
 | .v hs t=>hs.length+trN t
 | .e1 _ t=>trN t+1
 | .e2 _ t _ _=>trN t+1
def trC (k:Nat):Tr->Bool
 | .fin=>true
 | .v _ t=>trC k t
 | .e1 i t=>decide (i<k)&&trC k t
 | .e2 i t j u=>decide (i<k)&&(decide (j<k)&&(decide (trN t=trN u)&&(trC k t&&trC k u)))
def trA (ops:Array Oper)(t:Tr):Bool:=Region.noSelect ops&&(decide (trN t=ops.size)&&(trC ops.size t&&trB ops t (Array.replicate ops.size false)))
def AT (P:Program)(w0:World)(l:List Oper)(Lw:List Blk)(F:List Blk->Act->Prop):Tr->List Blk->Act->Prop
 | .fin,L,a=>F L a
 | .v hs t,L,a=>AH P w0 Lw l.toArray (fun a1=>AT P w0 l Lw F t L a1) (picks l hs) a
 | .e1 i t,L,a=>EC P w0 l.toArray [] Lw (fun L1 a1=>AT P w0 l Lw F t L1 a1) [i] L a
 | .e2 i t j u,L,a=>EC P w0 l.toArray [] Lw (fun L1 a1=>AT P w0 l Lw F t L1 a1) [i] L a/\EC P w0 l.toArray [] Lw (fun L1 a1=>AT P w0 l Lw F u L1 a1) [j] L a
def JT (P:Program)(w0:World)(n:Nat)(l:List Oper)(Lw:List Blk)(K:Env->List Blk->Prop):Tr->Env->List Blk->Prop
 | .fin,E,L=>K E L
 | .v hs t,E,L=>JH P w0 n Lw l.toArray (fun E1=>JT P w0 n l Lw K t E1 L) (picks l hs) E
 | .e1 i t,E,L=>JE P w0 n l.toArray Lw (fun E1 L1=>JT P w0 n l Lw K t E1 L1) (picks l [i]) E L
 | .e2 i t j u,E,L=>JE P w0 n l.toArray Lw (fun E1 L1=>JT P w0 n l Lw K t E1 L1) (picks l [i]) E L/\JE P w0 n l.toArray Lw (fun E1 L1=>JT P w0 n l Lw K u E1 L1) (picks l [j]) E L
theorem Zeh {l:List Oper}{K:Env->List Blk->Prop}{F:List Blk->Act->Prop}(hK:∀E L a,Rep n E a->K E L->F L a):∀(t:Tr)(E:Env)(L:List Blk)(a:Act),trC l.length t=true->Rep n E a->JT P w0 n l Lw K t E L->AT P w0 l Lw F t L a
 | .fin,E,L,a,_,ha,h=>hK E L a ha h
 | .v hs t,E,L,a,hc,ha,h=>Zcc (n:=n) (fun E1 a1 ha1 h1=>Zeh hK t E1 L a1 hc ha1 h1) _ _ _ ha h
 | .e1 i t,E,L,a,hc,ha,h=>by
  simp only[trC,Wq,decide_eq_true_eq] at hc
  exact Zbz (n:=n) (Lj:=Lw) (fun E1 L1 a1 ha1 h1=>Zeh hK t E1 L1 a1 hc.2 ha1 h1) [i] E L a (by simpa using hc.1) (fun _ _=>rfl) ha h
 | .e2 i t j u,E,L,a,hc,ha,h=>by
  simp only[trC,Wq,decide_eq_true_eq] at hc
  exact⟨Zbz (n:=n) (Lj:=Lw) (fun E1 L1 a1 ha1 h1=>Zeh hK t E1 L1 a1 hc.2.2.2.1 ha1 h1) [i] E L a (by simpa using hc.1) (fun _ _=>rfl) ha h.1,
   Zbz (n:=n) (Lj:=Lw) (fun E1 L1 a1 ha1 h1=>Zeh hK u E1 L1 a1 hc.2.2.2.2 ha1 h1) [j] E L a (by simpa using hc.2.1) (fun _ _=>rfl) ha h.2⟩
theorem Zdu {l:List Oper}{F:List Blk->Act->Prop}(hsel:Region.noSelect l.toArray=true):∀(t:Tr)(listed:Array Bool)(L:List Blk)(a:Act),trC l.length t=true->trB l.toArray t listed=true->Weak w0 Lw L->AT P w0 l Lw F t L a->wpK P w0 l.toArray (List.range l.length) Lw F (trN t) listed [] L a
 | .fin,listed,L,a,_,hB,_,h=>⟨rfl,by simpa [trB] using hB,h⟩
 | .v hs t,listed,L,a,hc,hB,hw,h=>ZdF (k:=trB l.toArray t) (G:=fun a1=>AT P w0 l Lw F t L a1) (fun listed a1 hb hG=>Zdu hsel t listed L a1 hc hb hw hG) hsel hw hs listed a hB h
 | .e1 i t,listed,L,a,hc,hB,hw,h=>by
  simp only[trC,Wq,decide_eq_true_eq] at hc
  simp only[trB,Wq,decide_eq_true_eq] at hB
  refine⟨by rw[hB.1];simp,fun q hq=>?_⟩
  rw[hB.1,Wo] at hq
  subst hq
  obtain⟨o,ho,hE⟩:=h
  exact⟨o,ho, .inr ⟨[], .inr ⟨by simpa using hc.1,rfl⟩,Eff.mono hE fun L' u hw' hK=>Zdu hsel t _ _ _ hc.2 hB.2 hw' hK⟩⟩
 | .e2 i t j u,listed,L,a,hc,hB,hw,h=>by
  simp only[trC,Wq,decide_eq_true_eq] at hc
  simp only[trB,Wq,decide_eq_true_eq] at hB
  refine⟨by rw[hB.1];simp,fun q hq=>?_⟩
  rw[hB.1] at hq
  rcases List.mem_cons.1 hq with h1|h1
  ·subst h1
   obtain⟨o,ho,hE⟩:=h.1
   exact⟨o,ho, .inr ⟨[], .inr ⟨by simpa using hc.1,rfl⟩,Eff.mono hE fun L' u hw' hK=>Zdu hsel t _ _ _ hc.2.2.2.1 hB.2.1 hw' hK⟩⟩
  ·rw[Wo] at h1
   subst h1
   obtain⟨o,ho,hE⟩:=h.2
   refine⟨o,ho, .inr ⟨[], .inr ⟨by simpa using hc.2.1,rfl⟩,Eff.mono hE fun L' u' hw' hK=>?_⟩⟩
   show wpK P w0 l.toArray (List.range l.length) Lw F (trN t) _ [] L' _
   rw[hc.2.2.1]
   exact Zdu hsel u _ _ _ hc.2.2.2.2 hB.2.2 hw' hK
theorem ZX {id:Nat}{l:List Oper}(t:Tr)(Lw:List Blk)(hm:P.follows .mixedOrders=true:=by exact mixed)(hB:trA l.toArray t=true:=by kernel_rfl)(hL:Lw.Sublist L:=by first|exact Wj _|exact Wk _|exact sbl|(repeat(first|exact Wj _|exact Wk _|refine List.Sublist.cons_cons _ ?_|refine List.Sublist.cons _ ?_|refine List.Sublist.trans ?_ (List.sublist_append_right _ _))))
  (h:JT P w0 n l Lw (fun E2 L2=>JX w0 n .normal Q E2 L2) t E L):J P w0 n (.region id l.toArray true) Q E L:=by
 refine⟨fun a w ha hw=>?_⟩
 simp only[trA,Wq,decide_eq_true_eq] at hB
 obtain⟨hsel,hlen,hc,hlex⟩:=hB
 refine wp_region_any hm ?_
 have hc':trC l.length t=true:=by simpa using hc
 have H:=Zdu (P:=P) (F:=fun L a=>∀w,Own w0 L w->Q .normal a w) hsel t _ L a hc' hlex (Zaq hL) (Zeh (n:=n) (fun E2 L2 a2 ha2 hx w hw=>hx.out a2 w ha2 hw) t E L a hc' ha h)
 have:=ZbK (P:=P) (Q:=Q) (fun L a w hF hw=>hF w hw) _ _ _ _ _ w.drew (hw.to (Ext.drew w)) H
 rw[hlen] at this
 exact this
end
theorem wkX {P Q:Prop}(k:Q)(h:Wr Q->P:=by intro hq;simp only[JT,picks,List.getElem?_cons_succ,List.getElem?_cons_zero];exact hq.out):P:=h ⟨k⟩
end Go.Vt
namespace Go.Vt
open Go.RowKit
section
variable {P : Program} {w0 : World} {n : Nat} {ops : Array Oper} {L : List Blk} {E : Env} {Q Q' : Exit -> Act -> World -> Prop}
theorem ZfP (hq:∀e a w,Q e a w->Q' e a w)(h:LetsOut Q):LetsOut Q':=by
 obtain⟨a,w,h⟩:=h
 exact⟨a,w,hq _ _ _ h⟩
theorem Zog {o:Oper}{a:Act}{w:World}{K K':Act->World->Prop}(hk:∀a w,K a w->K' a w)(hq:∀e a w,Q e a w->Q' e a w)(hh:o.wp P a w K Q):o.wp P a w K' Q':=by
 unfold Oper.wp at*
 generalize (execOp a.eval o).run P w=r at*
 cases r with
 |ok x w'=>
  cases x <;> simp only[Oper.upon] at hh⊢
  case value v=>exact hk _ _ hh
  case skip=>exact hk _ _ hh
  case defer d=>exact hk _ _ hh
  case enter f args=>
   refine Calls.mono hh fun e w'' he=>?_
   cases e with
   |returned v=>exact hk _ _ he
   |panicked c=>exact hq _ _ _ he
   |outgrown=>exact ZfP hq he
  case row r args=>exact Rows.mono hh fun _ _ he=>hk _ _ he
 |halt x w'=>
  cases x <;> simp only[Oper.upon] at hh⊢
  case panic v=>exact hq _ _ _ hh
theorem ZdV (hq:∀e a w,Q e a w->Q' e a w):∀(l:List Oper)(a:Act)(w:World),wpList P ops Q l a w->wpList P ops Q' l a w
 |[],a,w,h=>hq _ _ _ h
 |o::l,a,w,h=>by
  unfold wpList at*
  split
  ·rename_i hw
   rw[if_pos hw] at h
   rcases h with h|h
   ·exact .inl (Zog (ZdV hq l) hq h)
   ·exact .inr ⟨h.1,ZfP hq h.2⟩
  ·rename_i hw
   rw[if_neg hw] at h
   exact ZdV hq l _ _ h
theorem Zd3 {S:Type}(I:S->Prop)(Es:S->Env)(Ls:S->List Blk){l:List Oper}{y:Code}(h1:JO P w0 n ops (MidQ w0 n I Es Ls (fun _ _=>True) Q) l E L)(h2:∀s,I s->J P w0 n y Q (Es s) (Ls s)):JO P w0 n ops (Then P y Q) l E L:=⟨fun a w ha hw=>by
 refine ZdV (fun e a' w' hq=>?_) l a w (h1.out a w ha hw)
 cases e with
 |normal=>obtain⟨⟨s,hs,hr,ho⟩,_⟩:=hq;exact(h2 s hs).out a' w' hr ho
 |_=>exact hq⟩
theorem Zkz {id:Nat}(hq:∀e a w,Q e a w->Q' e a w):∀e a w,Exit.inBlock id Q e a w->Exit.inBlock id Q' e a w:=fun e a w h=>by
 cases e with
 |exit j=>
  simp only[Exit.inBlock] at h⊢
  split
  ·rename_i hj
   rw[if_pos hj] at h
   exact hq _ _ _ h
  ·rename_i hj
   rw[if_neg hj] at h
   exact hq _ _ _ h
 |_=>exact hq _ _ _ h
theorem Zr4 {S:Type}{I:S->Prop}{Es:S->Env}{Ls:S->List Blk}{y:Code}(h2:∀s,I s->J P w0 n y Q (Es s) (Ls s)):∀e a w,MidQ w0 n I Es Ls (fun _ _=>True) Q e a w->Then P y Q e a w:=fun e a w hq=>by
 cases e with
 |normal=>obtain⟨⟨s,hs,hr,ho⟩,_⟩:=hq;exact(h2 s hs).out a w hr ho
 |_=>exact hq
theorem ZeD {S:Type}{id:Nat}(I:S->Prop)(Es:S->Env)(Ls:S->List Blk){x y:Code}(h1:J P w0 n x (Exit.inBlock id (MidQ w0 n I Es Ls (fun _ _=>True) Q)) E L)(h2:∀s,I s->J P w0 n y Q (Es s) (Ls s)):J P w0 n x (Exit.inBlock id (Then P y Q)) E L:=⟨fun a w ha hw=>wp_mono (h1.out a w ha hw) (Zkz (Zr4 h2))⟩
end
end Go.Vt
namespace Go.Vt
open Go.RowKit Go.Proofs
open Go.Proofs.Tryz (prog)
theorem SlS.like {α:Type}{enc:α->Array Value}{k:Nat}{xs ys:List α}(s:SlS enc k xs)(h:ys=xs):∃s':SlS enc k ys,vSl s'=vSl s/\∀T,mS T s'=mS T s:=by
 subst h
 exact⟨s,rfl,fun _=>rfl⟩
theorem Zb1 {P:Program}{S T ty:TypeId}{i:TypeInfo}{p:Option Addr}{n c:Nat}{w:World}(ht:P.underlying S=some (.slice T))(hi:P.info? T=some i)(h:(p=none/\n=0/\c=0)\/(∃b,p=some ⟨b,0,none⟩/\n<=c)):
  (Builtin.append_ #[S,S] ty #[.slice p n c, .slice none 0 0]).run P w= .ok (.slice p n c) w:=by
 rcases h with⟨rfl,rfl,rfl⟩|⟨b,rfl,hnc⟩
 ·simp[Builtin.append_,run_underlying ht,sizeOf,typeInfo,hi,Builtin.lenOf,Builtin.firstCells]
 ·simp[Builtin.append_,run_underlying ht,sizeOf,typeInfo,hi,Builtin.lenOf,Builtin.firstCells,hnc,storeCells]
section
variable {P : Program} {w0 : World} {n : Nat} {ops : Array Oper} {L L1 L2 : List Blk} {E : Env}
variable {Q : Exit -> Act -> World -> Prop} {rest : List Oper}
variable {ty : TypeId} {pos : String} {aft : Array Edge} {gd : Option (Nat × Bool)} {t : Tmp} {x y : Operand}
variable {α : Type} {enc : α -> Array Value} {S T T2 : TypeId} {k B : Nat} {xs ys : List α} {z : Value} {zc : Array Value} {s : SlS enc k xs} {u : SlS enc k ys}
variable [hx : IsC (evl E x) (vSl s)] [hy : IsC (evl E y) (vSl u)] [hd : OwnS T s L L1] [h2 : OwnS T2 u L L2] [hT : UndC P S (.slice T)] [hz : ZeroC P T z zc] [he : EncC enc k] [hk : SizeC P T k] [hB : BytesC P T B]
include hx hy hd h2 hT hz he hk hB
theorem Zsd (hzk:zc.size=k)(hb:(xs.length+ys.length)*B<=140737488355328/\xs.length+ys.length<=9223372036854775807)(a:Act)(w:World)(ha:Rep n E a)(hw:Own w0 L w):
  ∃s':SlS enc k (xs++ys),∃w',(execOp a.eval ⟨some t, .call ⟨.builtin .append,#[x,y],#[S,S]⟩,ty,pos,aft,gd⟩).run P w= .ok (.value (vSl s')) w'/\Own w0 (mS T s'++L1) w':=by
 have hp:=hw.perm hd.out
 have hlen:(xs++ys).length=xs.length+ys.length:=Wp
 rcases u.cases T2 with⟨rfl,hv2, -⟩|⟨b2,c2,sp2,h12,hv2,hm2,hys⟩
 ·obtain⟨s',e1,e2⟩:=s.like (Wh xs)
  obtain⟨i,hi, -⟩:=Zbx hk.out
  refine⟨s',w, ?_,by rw[e2];exact hp⟩
  rw[e1]
  have hx':Env.ev E x=some (vSl s):=by rw[<-ZaL,hx.out]
  have hy':Env.ev E y=some (.slice none 0 0):=by rw[<-ZaL,hy.out,hv2]
  refine ZaM (d:=some t) (pos:=pos) (aft:=aft) (gd:=gd) ha hx' hy' ?_
  rcases s.cases T with⟨-,hv, -⟩|⟨b,c,sp,h1,hv, -, -⟩
  ·rw[hv]
   exact Zb1 hT.out hi (.inl ⟨rfl,rfl,rfl⟩)
  ·rw[hv]
   exact Zb1 hT.out hi (.inr ⟨b,rfl,h1.1⟩)
 ·have hp2:=hw.perm h2.out
  rw[hm2] at hp2
  obtain⟨fz,hf⟩:∃fz,w.heap[b2]? =some (.cells (row enc ys sp2) T2 fz):=⟨(0,0),(hp2.mem _ (.head _)).2⟩
  have hm:0<ys.length:=List.length_pos_iff.2 hys
  have hne:xs++ys≠[]:=fun h0=>by rw[h0,Wx] at hlen;omega
  have hy':Env.ev E y=some (.slice (some ⟨b2,0,none⟩) ys.length c2):=by rw[<-ZaL,hy.out,hv2]
  have hcs:∀j v,(rowL enc ys)[j]? =some v->(row enc ys sp2)[0+j]? =some v:=fun j v hv=>by
   have hj:j<(rowL enc ys).length:=by
    rcases Nat.lt_or_ge j (rowL enc ys).length with h|h
    ·exact h
    ·rw[List.getElem?_eq_none h] at hv;cases hv
   rw[Nat.zero_add,row,List.getElem?_toArray,List.getElem?_append_left hj]
   exact hv
  rcases s.cases T with⟨rfl,hv,hm0⟩|⟨b,c,sp,h1,hv,hm1, -⟩
  ·have hx':Env.ev E x=some (.slice none 0 0):=by rw[<-ZaL,hx.out,hv]
   rw[hm0,Wg] at hp
   obtain⟨s,w',hr,ho⟩:=Zdo (L:=L1) (ty:=ty) (b2:=b2) (off2:=0) (m:=ys.length) (c2:=c2) (news:=rowL enc ys) hT.out hz.out hz.cells hk.out hB.out hzk hp ⟨T2,fz,hf⟩ (by rw[Z9 (k:=k)]) hcs hm (by simpa using hb.1) (by simpa using hb.2)
   refine⟨SlS.at_ s.1.1 s.1.2.1 s.1.2.2 (by rw[Wg];exact s.2) hne,w', ?_,ho⟩
   have h3:=ZaM (d:=some t) (pos:=pos) (aft:=aft) (gd:=gd) ha hx' hy' hr
   rw[h3]
   rfl
  ·have hx':Env.ev E x=some (.slice (some ⟨b,0,none⟩) xs.length c):=by rw[<-ZaL,hx.out,hv]
   rw[hm1] at hp
   obtain⟨s,w',hr,ho⟩:=ZeQ (L1:=L1) (ty:=ty) (b:=b) (len:=xs.length) (c:=c) (b2:=b2) (off2:=0) (m:=ys.length) (c2:=c2) (xs:=rowL enc xs) (sp:=sp) (news:=rowL enc ys) hT.out hz.out hz.cells hk.out hB.out hzk hp (.refl _) (Z9 xs) h1.2 h1.1 ⟨T2,fz,hf⟩ (by rw[Z9 (k:=k)]) hcs (ZcI ys) hb.1 hb.2
   refine⟨SlS.at_ s.1.1 s.1.2.1 s.1.2.2 (by rw[hlen];exact s.2) hne,w', ?_, ?_⟩
   ·have h3:=ZaM (d:=some t) (pos:=pos) (aft:=aft) (gd:=gd) ha hx' hy' hr
    rw[h3]
    show _=Result.ok (Next.value (Value.slice _ (xs++ys).length _)) w'
    rw[hlen]
   ·show Own w0 (⟨s.1.1,row enc (xs++ys) s.1.2.2,T⟩::L1) w'
    rw[row,Zbf]
    exact ho
theorem sV (hg:guardB ops E gd=some true)(hd':Nat.blt t n=true)(hzk:zc.size=k)(hb:(xs.length+ys.length)*B<=140737488355328/\xs.length+ys.length<=9223372036854775807)
  (h:∀s':SlS enc k (xs++ys),JO P w0 n ops Q rest ((t,vSl s')::E) (mS T s'++L1)):JO P w0 n ops Q (⟨some t, .call ⟨.builtin .append,#[x,y],#[S,S]⟩,ty,pos,aft,gd⟩::rest) E L:=
 Zcs (L':=SlS enc k (xs++ys)) (o:=⟨some t, .call ⟨.builtin .append,#[x,y],#[S,S]⟩,ty,pos,aft,gd⟩) hg hd' (fun s=>vSl s) (fun s=>mS T s++L1)
  (fun a w ha hw=>by
   obtain⟨s,w',hr,ho⟩:=Zsd (hx:=hx) (hy:=hy) (hd:=hd) (h2:=h2) (hT:=hT) (hz:=hz) (he:=he) (hk:=hk) (hB:=hB) hzk hb a w ha hw
   exact⟨s,w', .inl hr,ho⟩) h
end
end Go.Vt
namespace Go.Vt
open Go.RowKit
section
variable {P : Program} {w0 : World} {n : Nat} {ops : Array Oper} {L L' Lw : List Blk} {E : Env}
variable {Q : Exit -> Act -> World -> Prop} {v : Value}
inductive Tq where
 |fin
 |v (hs:List Nat) (t:Tq)
 |no
 |br (i:Nat) (t:Tq) (u:Tq)
def Tq.alts :Tq->List Nat
 | .br i _ u=>i::u.alts
 |_=>[]
def Tq.ch :Tq->Bool
 | .no=>true
 | .br _ _ _=>true
 |_=>false
def tqB (ops:Array Oper):Tq->List Nat->Array Bool->Bool
 | .fin,pre,listed=>pre.isEmpty&&(Region.ready .any ops listed).isEmpty
 | .v hs t,pre,listed=>pre.isEmpty&&lexF ops (tqB ops t []) hs listed
 | .no,pre,listed=> !pre.isEmpty&&decide (Region.ready .any ops listed=pre)
 | .br i t u,pre,listed=>tqB ops t [] (listed.setIfInBounds i true)&&tqB ops u (pre++[i]) listed
def tqC (k:Nat):Tq->Nat->Bool
 | .fin,N=>decide (N=0)
 | .v hs t,N=>decide (hs.length<=N)&&tqC k t (N-hs.length)
 | .no,_=>true
 | .br i t u,N=>decide (i<k)&&(decide (0<N)&&(tqC k t (N-1)&&tqC k u N))
def tqA (ops:Array Oper)(t:Tq):Bool:=Region.noSelect ops&&(tqC ops.size t ops.size&&tqB ops t [] (Array.replicate ops.size false))
def AQ (P:Program)(w0:World)(l:List Oper)(Lw:List Blk)(F:List Blk->Act->Prop):Tq->List Blk->Act->Prop
 | .fin,L,a=>F L a
 | .v hs t,L,a=>AH P w0 Lw l.toArray (fun a1=>AQ P w0 l Lw F t L a1) (picks l hs) a
 | .no,_,_=>True
 | .br i t u,L,a=>EC P w0 l.toArray [] Lw (fun L1 a1=>AQ P w0 l Lw F t L1 a1) [i] L a/\AQ P w0 l Lw F u L a
def JQ (P:Program)(w0:World)(n:Nat)(l:List Oper)(Lw:List Blk)(K:Env->List Blk->Prop):Tq->Env->List Blk->Prop
 | .fin,E,L=>K E L
 | .v hs t,E,L=>JH P w0 n Lw l.toArray (fun E1=>JQ P w0 n l Lw K t E1 L) (picks l hs) E
 | .no,_,_=>True
 | .br i t u,E,L=>JE P w0 n l.toArray Lw (fun E1 L1=>JQ P w0 n l Lw K t E1 L1) (picks l [i]) E L/\JQ P w0 n l Lw K u E L
theorem Zfg {l:List Oper}{K:Env->List Blk->Prop}{F:List Blk->Act->Prop}(hK:∀E L a,Rep n E a->K E L->F L a):∀(t:Tq)(N:Nat)(E:Env)(L:List Blk)(a:Act),tqC l.length t N=true->Rep n E a->JQ P w0 n l Lw K t E L->AQ P w0 l Lw F t L a
 | .fin,_,E,L,a,_,ha,h=>hK E L a ha h
 | .no,_,E,L,a,_,ha,h=>trivial
 | .v hs t,N,E,L,a,hc,ha,h=>by
  simp only[tqC,Wq,decide_eq_true_eq] at hc
  exact Zcc (n:=n) (fun E1 a1 ha1 h1=>Zfg hK t _ E1 L a1 hc.2 ha1 h1) _ _ _ ha h
 | .br i t u,N,E,L,a,hc,ha,h=>by
  simp only[tqC,Wq,decide_eq_true_eq] at hc
  exact⟨Zbz (n:=n) (Lj:=Lw) (fun E1 L1 a1 ha1 h1=>Zfg hK t _ E1 L1 a1 hc.2.2.1 ha1 h1) [i] E L a (by simpa using hc.1) (fun _ _=>rfl) ha h.1,Zfg hK u _ E L a hc.2.2.2 ha h.2⟩
def StQ (P:Program)(w0:World)(l:List Oper)(Lw:List Blk)(F:List Blk->Act->Prop)(N:Nat)(listed:Array Bool)(L:List Blk)(a:Act)(q:Nat):Prop:=
 ∃o,l.toArray[q]? =some o/\q<l.length/\Eff P w0 Lw l.toArray L o a fun L' u=>wpK P w0 l.toArray (List.range l.length) Lw F N (listed.setIfInBounds q true) [] L' (a.put o.dst u)
theorem Zeu {l:List Oper}{F:List Blk->Act->Prop}(hsel:Region.noSelect l.toArray=true):∀(t:Tq),
  (∀(N:Nat)(listed:Array Bool)(L:List Blk)(a:Act),tqC l.length t N=true->tqB l.toArray t [] listed=true->Weak w0 Lw L->AQ P w0 l Lw F t L a->wpK P w0 l.toArray (List.range l.length) Lw F N listed [] L a)/\
  (∀(N:Nat)(pre:List Nat)(listed:Array Bool)(L:List Blk)(a:Act),t.ch=true->tqC l.length t (N+1)=true->tqB l.toArray t pre listed=true->Weak w0 Lw L->AQ P w0 l Lw F t L a->Region.ready .any l.toArray listed=pre++t.alts/\∀q∈t.alts,StQ P w0 l Lw F N listed L a q)
 | .fin=>⟨fun N listed L a hc hB hw h=>by
   simp only[tqC,decide_eq_true_eq] at hc
   subst hc
   exact⟨rfl,by simpa [tqB] using hB,h⟩,fun _ _ _ _ _ hch=>by cases hch⟩
 | .no=>⟨fun N listed L a hc hB hw h=>by simp[tqB] at hB,fun N pre listed L a _ _ hB _ _=>by
   simp only[tqB,Wq,decide_eq_true_eq] at hB
   exact⟨by rw[hB.2];simp[Tq.alts],fun q hq=>by cases hq⟩⟩
 | .v hs t=>⟨fun N listed L a hc hB hw h=>by
   simp only[tqC,Wq,decide_eq_true_eq] at hc
   simp only[tqB,Wq] at hB
   have:=ZdF (k:=tqB l.toArray t []) (G:=fun a1=>AQ P w0 l Lw F t L a1) (N:=N-hs.length) (es:=[]) (As:=List.range l.length) (F:=F) (fun listed a1 hb hG=>(Zeu hsel t).1 _ listed L a1 hc.2 hb hw hG) hsel hw hs listed a hB.2 h
   rw[show hs.length+(N-hs.length)=N by omega] at this
   exact this,fun _ _ _ _ _ hch=>by cases hch⟩
 | .br i t u=>by
  have chain:∀(N:Nat)(pre:List Nat)(listed:Array Bool)(L:List Blk)(a:Act),tqC l.length (.br i t u) (N+1)=true->tqB l.toArray (.br i t u) pre listed=true->Weak w0 Lw L->AQ P w0 l Lw F (.br i t u) L a->Region.ready .any l.toArray listed=pre++(Tq.br i t u).alts/\∀q∈(Tq.br i t u).alts,StQ P w0 l Lw F N listed L a q:=fun N pre listed L a hc hB hw h=>by
   simp only[tqC,Wq,decide_eq_true_eq,Nat.add_sub_cancel] at hc
   simp only[tqB,Wq] at hB
   have hch:u.ch=true:=by
    have:=hB.2
    cases u <;> simp[tqB,Tq.ch] at this⊢
   obtain⟨k1,k2⟩:=(Zeu hsel u).2 N (pre++[i]) listed L a hch hc.2.2.2 hB.2 hw h.2
   refine⟨by rw[k1];simp[Tq.alts],fun q hq=>?_⟩
   rcases List.mem_cons.1 hq with h1|h1
   ·subst h1
    obtain⟨o,ho,hE⟩:=h.1
    exact⟨o,ho,hc.1,Eff.mono hE fun L' u' hw' hK=>(Zeu hsel t).1 _ _ _ _ hc.2.2.1 hB.1 hw' hK⟩
   ·exact k2 q h1
  refine⟨fun N listed L a hc hB hw h=>?_,fun N pre listed L a _ hc hB hw h=>chain N pre listed L a hc hB hw h⟩
  cases N with
  |zero=>simp[tqC] at hc
  |succ N=>
   obtain⟨k1,k2⟩:=chain N [] listed L a hc hB hw h
   rw[Wg] at k1
   refine⟨by rw[k1];simp[Tq.alts],fun q hq=>?_⟩
   rw[k1] at hq
   obtain⟨o,ho,hl,hE⟩:=k2 q hq
   exact⟨o,ho, .inr ⟨[], .inr ⟨by simpa using hl,rfl⟩,hE⟩⟩
theorem ZuK {id:Nat}{l:List Oper}(t:Tq)(Lw:List Blk)(hm:P.follows .mixedOrders=true:=by exact mixed)(hB:tqA l.toArray t=true:=by kernel_rfl)(hL:Lw.Sublist L:=by first|exact Wj _|exact Wk _|exact sbl|(repeat(first|exact Wj _|exact Wk _|refine List.Sublist.cons_cons _ ?_|refine List.Sublist.cons _ ?_|refine List.Sublist.trans ?_ (List.sublist_append_right _ _))))
  (h:JQ P w0 n l Lw (fun E2 L2=>JX w0 n .normal Q E2 L2) t E L):J P w0 n (.region id l.toArray true) Q E L:=by
 refine⟨fun a w ha hw=>?_⟩
 simp only[tqA,Wq] at hB
 obtain⟨hsel,hc,hlex⟩:=hB
 refine wp_region_any hm ?_
 have hc':tqC l.length t l.toArray.size=true:=by simpa using hc
 have H:=(Zeu (P:=P) (F:=fun L a=>∀w,Own w0 L w->Q .normal a w) hsel t).1 _ _ L a hc' hlex (Zaq hL) (Zfg (n:=n) (fun E2 L2 a2 ha2 hx w hw=>hx.out a2 w ha2 hw) t _ E L a hc' ha h)
 exact ZbK (P:=P) (Q:=Q) (fun L a w hF hw=>hF w hw) _ _ _ _ _ w.drew (hw.to (Ext.drew w)) H
end
class SbpC (A L:List Blk):Prop where
 out:∃L',L.Perm (A++L')
instance sbpNil (L:List Blk):SbpC [] L:=⟨L, .refl _⟩
instance sbpCons (b:Nat)(cs:Array Value)(T:TypeId)(A L L1:List Blk)[h:DelC b L cs T L1][k:SbpC A L1]:SbpC (⟨b,cs,T⟩::A) L:=⟨by
 obtain⟨L',hp⟩:=k.out
 exact⟨L',h.out.trans (hp.cons _)⟩⟩
theorem Zdd {w0:World}{n:Nat}{Q:Exit->Act->World->Prop}{E:Env}{L:List Blk}{S:Type}{I:S->Prop}{Es:S->Env}{Ls:S->List Blk}(s:S)(hs:I s)(hE:Sub E (Es s))(hL:SbpC (Ls s) L):JX w0 n .normal (MidQ w0 n I Es Ls (fun _ _=>True) Q) E L:=⟨fun a w ha hw=>by
 obtain⟨L',hp⟩:=hL.out
 exact(Zt (L:=Ls s++L') s hs hE (List.sublist_append_left _ _)).out a w ha (hw.perm hp)⟩
theorem wkQ {P Q:Prop}(k:Q)(h:Wr Q->P:=by intro hq;simp only[JQ,picks,List.getElem?_cons_succ,List.getElem?_cons_zero];exact hq.out):P:=h ⟨k⟩
end Go.Vt
