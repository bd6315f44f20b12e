/- that the gaps between reports are those of the chain (part 30 of 32.) Conditions: those that each statement names. -/
import Derived.Test.YtjicdlilgjdefaaGreatDoorKG26
import Derived.Test.YtjicdlilgjdefaaGreatDoorKG27
import Derived.Test.YtjicdlilgjdefaaGreatDoorKG29
set_option linter.unusedSimpArgs false
set_option linter.unusedVariables false
set_option maxHeartbeats 2000000
set_option maxRecDepth 100000
namespace Go.Vt
open Go.RowKit Go.Proofs
open Go.Proofs.Tryz (prog)
section
theorem Zva (w:World):(Instr.buildSlice 151 0 [].toArray).run prog w= .ok (.slice (some ⟨w.heap.size,0,none⟩) 0 0) (w.alloc (.cells (row (Zaa) [] []) 97)):=by kernel_rfl
instance (priority :=high) ZKE:BsC prog 151 0 [] (row (Zaa) [] []) 97:=⟨Zva⟩
theorem ZvZ (w:World):(Instr.buildSlice 84 0 [].toArray).run prog w= .ok (.slice (some ⟨w.heap.size,0,none⟩) 0 0) (w.alloc (.cells (row (rI) [] []) 111)):=by kernel_rfl
instance (priority :=high) ZJS:BsC prog 84 0 [] (row (rI) [] []) 111:=⟨ZvZ⟩
theorem Zqo {a b c:Rat}(h:a<b)(k:b<c):a<c:=by grind
structure SrR (n:Nat)(xs:List Zp):Prop where
 s:xs.Pairwise fun a b=>a.P<b.P
 b:∀x∈xs,RtB x
 n:xs.length<=n
theorem SrR.mono {n m:Nat}{xs:List Zp}(h:SrR n xs)(k:n<=m):SrR m xs:=⟨h.s,h.b,Wi h.n k⟩
theorem SrR.at {n:Nat}{xs:List Zp}(h:SrR n xs){i j:Nat}(hij:i<j)(hj:j<xs.length):(gi xs (i:Int)).P<(gi xs (j:Int)).P:=by
 rw[Zj (by omega),Zj hj]
 exact(List.pairwise_iff_getElem.1 h.s) i j (by omega) hj hij
theorem SrR.put {n:Nat}{xs:List Zp}{t:Zp}{k:Nat}(h:SrR n xs)(ht:RtB t)(hk:k<=xs.length)(h1:∀j:Nat,j<k->(gi xs (j:Int)).P<t.P)(h2:k<xs.length->t.P<(gi xs (k:Int)).P):SrR (n+1) (([]++xs.take k)++[t]++xs.drop k):=by
 have hlow:∀x∈xs.take k,x.P<t.P:=fun x hx=>by
  obtain⟨j,hj,rfl⟩:=List.getElem_of_mem hx
  rw[Wt] at hj
  have:=h1 j (by omega)
  rw[Zj (by omega)] at this
  rw[List.getElem_take]
  exact this
 have hup:∀x∈xs.drop k,t.P<x.P:=fun x hx=>by
  obtain⟨j,hj,rfl⟩:=List.getElem_of_mem hx
  rw[List.length_drop] at hj
  have h3:=h2 (by omega)
  rw[List.getElem_drop]
  rcases Nat.eq_zero_or_pos j with rfl|hp
  ·rw[Zj (by omega)] at h3
   exact h3
  ·have h4:=h.at (i:=k) (j:=k+j) (by omega) (by omega)
   rw[Zj (i:=k+j) (by omega)] at h4
   exact Zqo h3 h4
 refine⟨?_,fun x hx=>?_, ?_⟩
 ·rw[Wg,List.append_assoc,List.pairwise_append]
  refine⟨h.s.sublist (List.take_sublist _ _), ?_,fun a ha b hb=>?_⟩
  ·rw[List.singleton_append,List.pairwise_cons]
   exact⟨hup,h.s.sublist (List.drop_sublist _ _)⟩
  ·rcases List.mem_cons.1 hb with rfl|hb
   ·exact hlow a ha
   ·exact Zqo (hlow a ha) (hup b hb)
 ·rw[Wg,List.append_assoc,Wv,List.singleton_append,Ww] at hx
  rcases hx with hx|rfl|hx
  ·exact h.b _ (List.mem_of_mem_take hx)
  ·exact ht
  ·exact h.b _ (List.mem_of_mem_drop hx)
 ·have:=h.n
  simp only[Wp,Wt,List.length_drop,Wx,List.length_singleton]
  omega
theorem SlS.form {α:Type}{enc:α->Array Value}{k:Nat}{xs:List α}(s:SlS enc k xs):∃p c,vSl s= .slice p xs.length c/\xs.length<=c:=by
 rcases s.cases 0 with⟨rfl,h, -⟩|⟨b,c,sp,h1,h, -, -⟩
 ·exact⟨none,0,h,Wl _⟩
 ·exact⟨_,c,h,h1.1⟩
abbrev SrS (n:Nat):Type:=(x:{xs:List Zp // SrR n xs})×SlS Zaa 9 x.1
set_option maxHeartbeats 8000000 in
theorem ZkZ (v:Value)(l:List Zp)(w:World)(hv:ArgS w v Zaa l)(hl:l.length<=1048576)(hb:∀x∈l,RtB x):
  Calls prog 120 [v].toArray w (RetM (SrS l.length) (fun q=>vSl q.2) (fun q=>mS 97 q.2) w):=by
 obtain⟨p,cp,rfl⟩:=hv.form
 refine Zg Tryz.func120 rfl Tryz.ntmps120 rfl ?_
 repeat(refine wkM ?_;intros)
 refine Zm (S:=(i:Nat)×SrS i) (fun q=>q.1<=l.length) (fun q=>[(0, .slice p l.length cp),(3,vSl q.2.2),(4, .int .i64 (q.1:Nat))]) (fun q=>mS 97 q.2.2) (fun q=>l.length-q.1) ⟨0,⟨[],⟨.nil,(fun x hx=>by cases hx),Wl _⟩⟩,SlS.no⟩ (Wm _) sbB suB (fun q hq=>?_)
 obtain⟨i,⟨xs,hx⟩,q⟩:=q
 simp only at hq hx q⊢
 have hxn:=hx.n
 repeat(refine wkM ?_;intros)
 refine Zl rfl (fun h=>?_) (fun h=>?_)
 ·have hlt:i<l.length:=by have:=Wa h;omega
  obtain⟨bw,ow,rfl,hrow'⟩:=hv.opn (k:=8) hlt
  have ht:=hb (gi l (i:Int)) (ZI (by omega))
  repeat(refine wkM ?_;intros)
  refine ZeD (S:=Nat) (fun k=>k<=xs.length/\(∀j:Nat,j<k->(gi xs (j:Int)).P<(gi l (i:Int)).P)/\(k<xs.length->¬(gi xs (k:Int)).P<(gi l (i:Int)).P)) (fun k=>[(0, .slice (some ⟨bw,ow,none⟩) l.length cp),(3,vSl q),(4, .int .i64 (i:Nat)),(5, .int .i64 (k:Nat))]) (fun _=>mS 97 q) ?_ (fun k hk=>?_)
  ·refine Zm (S:=Nat) (fun k=>k<=xs.length/\∀j:Nat,j<k->(gi xs (j:Int)).P<(gi l (i:Int)).P) (fun k=>[(0, .slice (some ⟨bw,ow,none⟩) l.length cp),(3,vSl q),(4, .int .i64 (i:Nat)),(5, .int .i64 (k:Nat))]) (fun _=>mS 97 q) (fun k=>xs.length-k) 0 ⟨Wm _,fun j hj=>by omega⟩ sbB suB (fun k hk=>?_)
   obtain⟨hk,hno⟩:=hk
   rcases q.cases 97 with⟨y0,y1,y2⟩|⟨bq,cb,sp,hc1,y1,y2,yne⟩
   ·have e0:k=0:=by rw[y0] at hk;simpa using hk
    subst e0
    simp only[y1,y2]
    repeat(refine wkM ?_;intros)
    refine jD 16 16 (h:=?_)
    (repeat(refine wkH ?_))
    try simp only[We (show¬((0:Nat):Int)<0 by omega)]
    (repeat(refine wkH ?_))
    refine Zn ?_
    refine Zr ?_
    repeat(refine wkM ?_;intros)
    exact Zt 0 ⟨Wm _,hno,fun h=>by rw[y0] at h;cases h⟩ sbB suB
   simp only[y1,y2,Wf,Wg]
   by_cases c1:k<xs.length
   ·have hx1:=(hx.b (gi xs (k:Int)) (ZI (by omega))).c ht
    repeat(refine wkM ?_;intros)
    refine jD 16 16 (h:=?_)
    (repeat(refine wkH ?_))
    simp only[Wc (show(k:Int)<(xs.length:Nat) by omega)]
    (repeat(first|refine wkH ?_|(refine tC rfl rfl ?_ ?_;focus(exact hx1))))
    refine Zn ?_
    refine Zr ?_
    by_cases c2:(gi xs (k:Int)).P<(gi l (i:Int)).P
    ·simp only[Wc (ZdC.2 c2)]
     repeat(refine wkO ?_;intros)
     refine Zh (k+1) ⟨c1,fun j hj=>?_⟩ sbB suB (by omega)
     rcases(by omega:j<k\/j=k) with h1|rfl
     ·exact hno j h1
     ·exact c2
    ·simp only[We (fun h=>c2 (ZdC.1 h))]
     repeat(refine wkM ?_;intros)
     exact Zt k ⟨hk,hno,fun _=>c2⟩ sbB suB
   ·repeat(refine wkM ?_;intros)
    refine jD 16 16 (h:=?_)
    (repeat(refine wkH ?_))
    simp only[We (show¬(k:Int)<(xs.length:Nat) by omega)]
    (repeat(refine wkH ?_))
    refine Zn ?_
    refine Zr ?_
    repeat(refine wkM ?_;intros)
    exact Zt k ⟨hk,hno,fun h=>absurd h c1⟩ sbB suB
  ·obtain⟨hk,hno,hkn⟩:=hk
   repeat(refine wkM ?_;intros)
   refine Zav (S:={z:Bool // z=true↔k<xs.length/\(gi xs (k:Int)).P=(gi l (i:Int)).P}) (fun _=>True) (fun z=>[(0, .slice (some ⟨bw,ow,none⟩) l.length cp),(3,vSl q),(4, .int .i64 (i:Nat)),(5, .int .i64 (k:Nat)),(45, .bool z.1)]) (fun _=>mS 97 q) ?_ (fun z _=>?_)
   ·rcases q.cases 97 with⟨y0,y1,y2⟩|⟨bq,cb,sp,hc1,y1,y2,yne⟩
    ·have e0:k=0:=by rw[y0] at hk;simpa using hk
     subst e0
     simp only[y1,y2]
     repeat(refine wkM ?_;intros)
     refine jD 16 16 (h:=?_)
     (repeat(refine wkH ?_))
     refine Zn ?_
     refine Zr ?_
     repeat(refine wkM ?_;intros)
     exact Zt ⟨false,⟨(fun h=>by cases h),(fun h=>by rw[y0] at h;exact absurd h.1 (by decide))⟩⟩ trivial sbB suB
    simp only[y1,y2,Wf,Wg]
    by_cases c1:k<xs.length
    ·have hx1:=(hx.b (gi xs (k:Int)) (ZI (by omega))).c ht
     repeat(refine wkM ?_;intros)
     refine jD 16 16 (h:=?_)
     (repeat(refine wkH ?_))
     simp only[Wc (show(k:Int)<(xs.length:Nat) by omega)]
     (repeat(first|refine wkH ?_|(refine tC rfl rfl ?_ ?_;focus(exact hx1))))
     refine Zn ?_
     refine Zr ?_
     repeat(refine wkM ?_;intros)
     exact Zt ⟨decide (cq (gi xs (k:Int)).P (gi l (i:Int)).P=0),⟨fun h=>⟨c1,Zb7.1 (Wa h)⟩,fun h=>Wc (Zb7.2 h.2)⟩⟩ trivial sbB suB
    ·repeat(refine wkM ?_;intros)
     refine jD 16 16 (h:=?_)
     (repeat(refine wkH ?_))
     simp only[We (show¬(k:Int)<(xs.length:Nat) by omega)]
     (repeat(refine wkH ?_))
     refine Zn ?_
     refine Zr ?_
     repeat(refine wkM ?_;intros)
     exact Zt ⟨false,⟨(fun h=>by cases h),(fun h=>absurd h.1 c1)⟩⟩ trivial sbB suB
   obtain⟨z,hz⟩:=z
   cases z with
   |true=>
    repeat(refine wkO ?_;intros)
    exact Zh ⟨i+1,⟨xs,hx.mono (Nat.le_succ i)⟩,q⟩ hlt sbB suB (by show l.length-(i+1)<l.length-i;omega)
   |false=>
    have hup:k<xs.length->(gi l (i:Int)).P<(gi xs (k:Int)).P:=fun h=>by
     have h1:=hkn h
     have h2:¬(gi xs (k:Int)).P=(gi l (i:Int)).P:=fun h2=>by
      have:=hz.2 ⟨h,h2⟩
      cases this
     grind
    have hnx:=hx.put ht hk hno hup
    obtain⟨pq,cq',eq,hcq⟩:=q.form
    have hT:∀L [h:LstC w L (vSl q) Zp Zaa xs],LstC w L (.slice pq k cq') Zp Zaa (xs.take k):=fun L h=>⟨fun w' hw'=>by
     have:=h.out w' hw'
     rw[eq] at this
     exact this.take k hk⟩
    have hD:∀L [h:LstC w L (vSl q) Zp Zaa xs],LstC w L (.slice (dropA pq cq' k 9) (xs.length-k) (cq'-k)) Zp Zaa (xs.drop k):=fun L h=>⟨fun w' hw'=>by
     have:=h.out w' hw'
     rw[eq] at this
     exact this.drop k hk⟩
    have hend:∀s3:FlS Zaa 9 (([]++xs.take k)++[gi l (i:Int)]++xs.drop k),∃s4:SlS Zaa 9 (([]++xs.take k)++[gi l (i:Int)]++xs.drop k),vSl s4=vF s3/\mS 97 s4=mF 97 s3:=fun s3=>by
     obtain⟨s4,f1,f2⟩:=s3.sl (by simp)
     exact⟨s4,f1,f2 _⟩
    simp only[eq]
    repeat(refine wkM ?_;intros)
    refine ZeD (S:=SlS Zaa 9 (([]++xs.take k)++[gi l (i:Int)]++xs.drop k)) (fun _=>True) (fun s=>[(0, .slice (some ⟨bw,ow,none⟩) l.length cp),(3,vSl s),(4, .int .i64 (i:Nat))]) (fun s=>mS 97 s) ?_ (fun s _=>?_)
    ·(refine ZX (.v [1,2,3,5,6,7,8,11,12,13] (.e2 0 (.e2 4 (.e1 9 (.e1 10 (.e1 14 (.e1 15 (.fin))))) 9 (.e1 4 (.e1 10 (.e1 14 (.e1 15 (.fin)))))) 9 (.e1 0 (.e1 4 (.e1 10 (.e1 14 (.e1 15 (.fin)))))))) (([]:List Blk)) (h:=?_);refine wkX ?_)
     (repeat(first|refine wkH ?_|(refine tC rfl rfl ?_ ?_;focus(exact⟨by omega,by omega⟩))))
     refine And.intro ?_ ?_
     ·repeat(refine wkT ?_;intros)
      rename_i b0
      refine And.intro ?_ ?_
      ·refine eVF (k:=8) (enc:=Zaa) (s:=FlS.em b0) (hx:=⟨rfl⟩) rfl rfl ?_ ?_ ?_
       ·rfl
       ·exact⟨by simp only[Wt,Wx];omega,by simp only[Wt,Wx];omega⟩
       intro s1
       repeat(refine wkT ?_;intros)
       refine eVF rfl rfl ?_ ?_ ?_
       ·rfl
       ·exact⟨by simp only[Wp,Wt,Wx,Wu];omega,by simp only[Wp,Wt,Wx,Wu];omega⟩
       intro s2
       refine eVF rfl rfl ?_ ?_ ?_
       ·rfl
       ·exact⟨by simp only[Wp,Wt,List.length_drop,Wx,Wu];omega,by simp only[Wp,Wt,List.length_drop,Wx,Wu];omega⟩
       intro s3
       repeat(refine wkT ?_;intros)
       repeat(refine wkM ?_;intros)
       obtain⟨s4,f1,f2⟩:=hend s3
       exact Zt s4 trivial (by simp only[f1];exact sbB) (by rw[f2];exact suB)
      ·repeat(refine wkT ?_;intros)
       refine eVF (k:=8) (enc:=Zaa) (s:=FlS.em b0) (hx:=⟨rfl⟩) rfl rfl ?_ ?_ ?_
       ·rfl
       ·exact⟨by simp only[Wt,Wx];omega,by simp only[Wt,Wx];omega⟩
       intro s1
       refine eVF rfl rfl ?_ ?_ ?_
       ·rfl
       ·exact⟨by simp only[Wp,Wt,Wx,Wu];omega,by simp only[Wp,Wt,Wx,Wu];omega⟩
       intro s2
       refine eVF rfl rfl ?_ ?_ ?_
       ·rfl
       ·exact⟨by simp only[Wp,Wt,List.length_drop,Wx,Wu];omega,by simp only[Wp,Wt,List.length_drop,Wx,Wu];omega⟩
       intro s3
       repeat(refine wkT ?_;intros)
       repeat(refine wkM ?_;intros)
       obtain⟨s4,f1,f2⟩:=hend s3
       exact Zt s4 trivial (by simp only[f1];exact sbB) (by rw[f2];exact suB)
     ·repeat(refine wkT ?_;intros)
      rename_i b0
      refine eVF (k:=8) (enc:=Zaa) (s:=FlS.em b0) (hx:=⟨rfl⟩) rfl rfl ?_ ?_ ?_
      ·rfl
      ·exact⟨by simp only[Wt,Wx];omega,by simp only[Wt,Wx];omega⟩
      intro s1
      refine eVF rfl rfl ?_ ?_ ?_
      ·rfl
      ·exact⟨by simp only[Wp,Wt,Wx,Wu];omega,by simp only[Wp,Wt,Wx,Wu];omega⟩
      intro s2
      refine eVF rfl rfl ?_ ?_ ?_
      ·rfl
      ·exact⟨by simp only[Wp,Wt,List.length_drop,Wx,Wu];omega,by simp only[Wp,Wt,List.length_drop,Wx,Wu];omega⟩
      intro s3
      repeat(refine wkT ?_;intros)
      repeat(refine wkM ?_;intros)
      obtain⟨s4,f1,f2⟩:=hend s3
      exact Zt s4 trivial (by simp only[f1];exact sbB) (by rw[f2];exact suB)
    ·repeat(refine wkO ?_;intros)
     exact Zh ⟨i+1,⟨_,hnx⟩,s⟩ hlt sbB suB (by show l.length-(i+1)<l.length-i;omega)
 ·have hge:i=l.length:=by have:=Wb h;omega
  subst hge
  repeat(refine wkM ?_;intros)
  exact Zy rfl rfl (fun w hw=>⟨⟨⟨xs,hx⟩,q⟩,rfl,hw.sub suB⟩)
end
section
instance Zzn (w0:World)(L:List Blk)(v:Value)(l:List Zp)[h:LstC w0 L v Zp Zaa l]:SpecR prog w0 L 120 [v] (SrS l.length) (fun q=>vSl q.2) (fun q=>mS 97 q.2) (l.length<=1048576/\∀x∈l,RtB x):=⟨fun hp w hw=>ZkZ v l w (h.out w hw) hp.1 hp.2⟩
def enL (l:List Ze):Nat->List Zp
 |0=>[]
 |m+1=>enL l m++[(gi l (m:Int)).From,(gi l (m:Int)).To]
theorem Zib (l:List Ze):∀m,(enL l m).length=2*m
 |0=>rfl
 |m+1=>by rw[enL,Wp,Zib l m];simp;omega
theorem ZoK {l:List Ze}(h:∀i∈l,IvOk B28 i):∀m,m<=l.length->∀x∈enL l m,RtB x
 |0,_,x,hx=>by cases hx
 |m+1,hm,x,hx=>by
  have h1:=h (gi l (m:Int)) (ZI (by omega))
  rw[enL,Wv] at hx
  rcases hx with hx|hx
  ·exact ZoK h m (by omega) x hx
  ·simp only[Ww,List.not_mem_nil,or_false] at hx
   rcases hx with rfl|rfl
   ·exact h1.f
   ·exact h1.t
set_option maxHeartbeats 8000000 in
theorem ZnY (v:Value)(l:List Ze)(w:World)(hv:ArgS w v rI l)(hl:l.length<=65536)(hb:∀i∈l,IvOk B28 i):
  Calls prog 67 [v].toArray w (RetM (SrS (2*l.length)) (fun q=>vSl q.2) (fun q=>mS 97 q.2) w):=by
 obtain⟨p,cp,rfl⟩:=hv.form
 refine Zg Tryz.func67 rfl Tryz.ntmps67 rfl ?_
 repeat(refine wkM ?_;intros)
 refine ZeD (S:=SlS Zaa 9 (enL l l.length)) (fun _=>True) (fun q=>[(3,vSl q)]) (fun q=>mS 97 q) ?_ (fun q _=>?_)
 ·refine Zm (S:=(i:Nat)×SlS Zaa 9 (enL l i)) (fun q=>q.1<=l.length) (fun q=>[(0, .slice p l.length cp),(3,vSl q.2),(4, .int .i64 (q.1:Nat))]) (fun q=>mS 97 q.2) (fun q=>l.length-q.1) ⟨0,SlS.no⟩ (Wm _) sbB suB (fun q hq=>?_)
  obtain⟨i,q⟩:=q
  simp only at hq q⊢
  have hel:=Zib l i
  repeat(refine wkM ?_;intros)
  refine Zl rfl (fun h=>?_) (fun h=>?_)
  ·have hlt:i<l.length:=by have:=Wa h;omega
   obtain⟨bw,ow,rfl,hrow'⟩:=hv.opn (k:=19) hlt
   repeat(refine wkM ?_;intros)
   (refine ZX (.v [0,1,2,3,4,5,6,7,8,9,10] (.e1 11 (.e1 12 (.e1 13 (.fin))))) (([]:List Blk)) (h:=?_);refine wkX ?_)
   (repeat(refine wkH ?_))
   repeat(refine wkT ?_;intros)
   refine eU (k:=9) (enc:=Zaa) (s:=q) rfl rfl ?_ ?_ ?_ ?_
   ·rfl
   ·rfl
   ·exact⟨by decide,by omega,by omega⟩
   intro s'
   repeat(refine wkT ?_;intros)
   repeat(refine wkO ?_;intros)
   exact Zh ⟨i+1,s'⟩ hlt sbB suB (by show l.length-(i+1)<l.length-i;omega)
  ·have hge:i=l.length:=by have:=Wb h;omega
   subst hge
   repeat(refine wkM ?_;intros)
   exact Zt q trivial sbB suB
 ·have hel:=Zib l l.length
  have hs:(enL l l.length).length<=1048576/\∀x∈enL l l.length,RtB x:=⟨by omega,ZoK hb _ (Wl _)⟩
  repeat(first|(refine wkM ?_;intros)|(refine wnM ?_ ?_;(focus(exact hs));intros))
  rename_i q2
  exact Zy rfl rfl (fun w hw=>⟨⟨⟨q2.1.1,q2.1.2.mono (Nat.le_of_eq hel)⟩,q2.2⟩,rfl,hw.sub suB⟩)
set_option maxHeartbeats 8000000 in
theorem ZlC (v1 v2:Value)(l:List Ze)(w:World)(h1:ArgS w v1 rI l)(h2:ArgS w v2 rI l)(hl:l.length<=1048576):
  Calls prog 31 [v1,v2].toArray w (Ret (.bool true) w):=by
 have hav1:=ArgC.mk h1
 have hav2:=ArgC.mk h2
 have A1:=h1
 have A2:=h2
 obtain⟨p,cp,rfl⟩:=h1.form
 obtain⟨q,cq',rfl⟩:=h2.form
 refine Zg Tryz.func31 rfl Tryz.ntmps31 rfl ?_
 repeat(refine wkM ?_;intros)
 simp only[Wc (rfl:((l.length:Nat):Int)=((l.length:Nat):Int)),Bool.not_true]
 repeat(refine wkM ?_;intros)
 refine Zm (S:=Nat) (fun m=>m<=l.length) (fun m=>[(0, .slice p l.length cp),(1, .slice q l.length cq'),(5, .int .i64 (m:Nat))]) (fun _=>[]) (fun m=>l.length-m) 0 (Wm _) sbB slB (fun m hm=>?_)
 repeat(refine wkM ?_;intros)
 refine Zl rfl (fun h=>?_) (fun h=>?_)
 ·have hlt:m<l.length:=by have:=Wa h;omega
  have hne:l≠[]:=fun h0=>by rw[h0] at hlt;simp at hlt
  obtain⟨bw,ow,cw,hvw,hcw,hrow⟩:=A1.blk (k:=19) hne []
  obtain⟨bw',ow',cw',hvw',hcw',hrow2⟩:=A2.blk (k:=19) hne []
  injection hvw with x1 x2 x3
  injection hvw' with y1 y2 y3
  subst x1 x3
  subst y1 y3
  have hr1:∀L,RowC w L bw ow Ze rI l:=fun L=>⟨fun w' hw'=>hrow.out w' (hw'.sub (Wk _))⟩
  have hr2:∀L,RowC w L bw' ow' Ze rI l:=fun L=>⟨fun w' hw'=>hrow2.out w' (hw'.sub (Wk _))⟩
  repeat(refine wkM ?_;intros)
  refine jD 9 9 (h:=?_)
  (repeat(refine wkH ?_))
  refine Zn ?_
  refine Zr ?_
  simp only[Wc (rfl:gi l (m:Int)=gi l (m:Int)),Bool.not_true]
  repeat(refine wkO ?_;intros)
  exact Zh (m+1) hlt sbB slB (by omega)
 ·repeat(refine wkM ?_;intros)
  exact rtT rfl rfl
instance ZBS (w0:World)(L:List Blk)(v1 v2:Value)(l:List Ze)[h1:LstC w0 L v1 Ze rI l][h2:LstC w0 L v2 Ze rI l]:SpecM prog w0 L 31 [v1,v2] (.bool true) (l.length<=1048576):=⟨fun hp w hw=>ZlC v1 v2 l w (h1.out w hw) (h2.out w hw) hp⟩
instance ZDQ (w0:World)(L:List Blk)(v:Value)(l:List Ze)[h:LstC w0 L v Ze rI l]:SpecR prog w0 L 67 [v] (SrS (2*l.length)) (fun q=>vSl q.2) (fun q=>mS 97 q.2) (l.length<=65536/\∀i∈l,IvOk B28 i):=⟨fun hp w hw=>ZnY v l w (h.out w hw) hp.1 hp.2⟩
end
section
instance (priority :=high) ZxJ (a b:Bool):SpecC prog 68 [.int .i64 2, .bool a, .bool b] (.bool (a&&b)) True:=Zoq 2 a b
instance (priority :=low) lstFV {xs:List Ze}(w0:World)(L L1:List Blk)(s:FlS rI 20 xs)[h:OwnF 111 s L L1]:LstC w0 L (vF s) Ze rI xs:=⟨fun w hw=>s.reads 111 ((hw.perm h.out).sub (List.sublist_append_left _ _))⟩
structure CbOk (a b:List Ze):Prop where
 la:a.length<=1024
 lb:b.length<=1024
 ia:∀i∈a,IvOk B28 i
 ib:∀i∈b,IvOk B28 i
 h:∀t,(hlB a t&&hlB b t)=false
 s:∀t u,t<u->(spB a t u&&spB b t u)=false
set_option maxHeartbeats 8000000 in
theorem Zls (v1 v2:Value)(a b:List Ze)(w:World)(hv1:ArgS w v1 rI a)(hv2:ArgS w v2 rI b)(hk:CbOk a b):
  Calls prog 33 [.int .i64 2,v1,v2].toArray w (Ret (.slice none 0 0) w):=by
 have hL1:=fun L=>hv1.lst L
 have hL2:=fun L=>hv2.lst L
 have hla:=hk.la
 have hlb:=hk.lb
 have hen:(([]++a)++b).length<=65536/\∀i∈([]++a)++b,IvOk B28 i:=by
  refine⟨by simp only[Wg,Wp];omega,fun i hi=>?_⟩
  rw[Wg,Wv] at hi
  exact hi.elim (hk.ia i) (hk.ib i)
 refine Zg Tryz.func33 rfl Tryz.ntmps33 rfl ?_
 repeat(refine wkM ?_;intros)
 rename_i b0
 refine sVF (k:=19) (enc:=rI) (s:=FlS.em b0) (hx:=⟨rfl⟩) rfl rfl ?_ ?_ ?_
 ·rfl
 ·exact⟨by simp only[Wx];omega,by simp only[Wx];omega⟩
 intro s1
 repeat(refine wkM ?_;intros)
 refine sVF rfl rfl ?_ ?_ ?_
 ·rfl
 ·exact⟨by simp only[Wp,Wx];omega,by simp only[Wp,Wx];omega⟩
 intro s2
 repeat(first|(refine wkM ?_;intros)|(refine wnM ?_ ?_;(focus(exact hen));intros))
 rename_i q
 obtain⟨⟨xs,hx⟩,q⟩:=q
 simp only at q hx⊢
 have hxn:=hx.n
 have hxl:xs.length<=65536:=by
  simp only[Wg,Wp] at hxn
  omega
 refine Zm (S:=Nat) (fun k=>k<=xs.length) (fun k=>[(0, .int .i64 2),(1,v1),(2,v2),(7,vSl q),(8, .slice none 0 0),(9, .bool false),(10, .int .i64 (k:Nat))]) (fun _=>mS 97 q) (fun k=>xs.length-k) 0 (Wm _) sbB suB (fun k hkl=>?_)
 repeat(refine wkM ?_;intros)
 refine Zl rfl (fun h=>?_) (fun h=>?_)
 ·have hlt:k<xs.length:=by have:=Wa h;omega
  have e1:(k:Int)+1=((k+1:Nat):Int):=by omega
  have hr1:=hx.b (gi xs (k:Int)) (ZI (by omega))
  have p1:a.length<=1048576/\(∀i∈a,IvOk B28 i)/\RtB (gi xs (k:Int)):=⟨by omega,hk.ia,hr1⟩
  have p2:b.length<=1048576/\(∀i∈b,IvOk B28 i)/\RtB (gi xs (k:Int)):=⟨by omega,hk.ib,hr1⟩
  have hh:=hk.h (gi xs (k:Int)).P
  rcases q.cases 97 with⟨y0,y1,y2⟩|⟨bq,cb,sp,hc1,y1,y2,yne⟩
  ·rw[y0] at hlt
   cases hlt
  simp only[y1,y2,Wf,Wg]
  repeat(refine wkM ?_;intros)
  rename_i b11
  (refine ZX (.v [0,1,2,3,4,5,6,7] (.e1 8 (.fin))) ([⟨b11,Zs (Zw (gi xs (k:Int))),97⟩]) (h:=?_);refine wkX ?_)
  (repeat(first|refine wkH ?_|(refine tC rfl rfl ?_ ?_;focus(first|exact p1|exact p2|exact trivial))))
  repeat(refine wkT ?_;intros)
  simp only[hh]
  repeat(refine wkM ?_;intros)
  by_cases c:k+1=xs.length
  ·simp only[Wc (show(k:Int)+1=(xs.length:Nat) by omega)]
   repeat(refine wkM ?_;intros)
   exact rtT rfl rfl
  ·simp only[We (show¬(k:Int)+1=(xs.length:Nat) by omega)]
   have hlt2:k+1<xs.length:=by omega
   have hr2:=hx.b (gi xs ((k+1:Nat):Int)) (ZI (by omega))
   have p3:a.length<=1048576/\(∀i∈a,IvOk B28 i)/\RtB (gi xs (k:Int))/\RtB (gi xs ((k+1:Nat):Int)):=⟨by omega,hk.ia,hr1,hr2⟩
   have p4:b.length<=1048576/\(∀i∈b,IvOk B28 i)/\RtB (gi xs (k:Int))/\RtB (gi xs ((k+1:Nat):Int)):=⟨by omega,hk.ib,hr1,hr2⟩
   have hs:=hk.s _ _ (hx.at (Nat.lt_succ_self k) hlt2)
   repeat(refine wkM ?_;intros)
   simp only[e1]
   repeat(refine wkM ?_;intros)
   rename_i b14
   (refine ZX (.v [0,1,2,3,4,5,6,7,8,9] (.e1 10 (.fin))) ([⟨b14,Zs (Zw (gi xs ((k+1:Nat):Int))),97⟩,⟨b11,Zs (Zw (gi xs (k:Int))),97⟩]) (h:=?_);refine wkX ?_)
   (repeat(first|refine wkH ?_|(refine tC rfl rfl ?_ ?_;focus(first|exact p3|exact p4|exact trivial))))
   repeat(refine wkT ?_;intros)
   simp only[hs]
   repeat(refine wkO ?_;intros)
   exact Zh (k+1) hlt sbB suB (by omega)
 ·repeat(refine wkM ?_;intros)
  exact rtT rfl rfl
instance ZAJ (w0:World)(L:List Blk)(v1 v2:Value)(a b:List Ze)[h1:LstC w0 L v1 Ze rI a][h2:LstC w0 L v2 Ze rI b]:SpecM prog w0 L 33 [.int .i64 2,v1,v2] (.slice none 0 0) (CbOk a b):=⟨fun hp w hw=>Zls v1 v2 a b w (h1.out w hw) (h2.out w hw) hp⟩
end
section
set_option maxHeartbeats 8000000 in
theorem ZnW (v:Value)(T:List Zc)(s:ZR)(w:World)(hv:ArgS w v Zi T)(hl:T.length<=1048576)(hok:∀z∈T,TkOk z)(hg: -2147483648<=s.MaxGap/\s.MaxGap<=2147483648):
  Calls prog 32 [v, .agg (Zv s)].toArray w (RetM (SlS ZaD 20 (gpT s.MaxGap T (T.length-1))) (fun s=>vSl s) (fun s=>mS 111 s) w):=by
 obtain⟨p,cp,rfl⟩:=hv.form
 refine Zg Tryz.func32 rfl Tryz.ntmps32 rfl ?_
 repeat(refine wkM ?_;intros)
 rename_i b3
 refine Zm (S:=(m:Nat)×SlS ZaD 20 (gpT s.MaxGap T m)) (fun q=>q.1=0\/q.1+1<=T.length) (fun q=>[(0, .slice p T.length cp),(3, .pointer (some ⟨b3,0,none⟩)),(5,vSl q.2),(6, .int .i64 (q.1:Nat))]) (fun q=>mS 111 q.2++[⟨b3,Zv s,32⟩]) (fun q=>T.length-q.1) ⟨0,SlS.no⟩ (.inl rfl) sbB suB (fun q hq=>?_)
 obtain⟨m,q⟩:=q
 simp only at hq⊢
 have hgl:=Zf9 s.MaxGap T m
 repeat(refine wkO ?_;intros)
 refine Zl rfl (fun h=>?_) (fun h=>?_)
 ·have hlt:m+1<T.length:=by have:=Wa h;omega
  have e1:(m:Int)+1=((m+1:Nat):Int):=by omega
  obtain⟨bw,ow,rfl,hrow'⟩:=hv.opn (k:=11) hlt
  have k1:=hok (gi T (m:Int)) (ZI (by omega))
  have k2:=hok (gi T ((m+1:Nat):Int)) (ZI (by omega))
  have h1:M (gi T ((m+1:Nat):Int)).T<=LQ/\M (gi T (m:Int)).T<=LQ:=⟨Wi k2.t (by decide),Wi k1.t (by decide)⟩
  have g1:=MB.mk k1.t
  have g2:=MB.mk k2.t
  have h2:M ((gi T ((m+1:Nat):Int)).T-(gi T (m:Int)).T)<=LQ/\M (s.MaxGap:Rat)<=LQ:=⟨MB.lt rfl,Wi (ZdR hg) (by decide)⟩
  have h3: -9223372036854775808<=s.MaxGap/\s.MaxGap<=9223372036854775807:=by omega
  have hcq:decide (0<cq ((gi T ((m+1:Nat):Int)).T-(gi T (m:Int)).T) (s.MaxGap:Rat))=farT s.MaxGap (gi T (m:Int)) (gi T ((m+1:Nat):Int)):=decide_eq_decide.2 Zjr
  have hnx:gpT s.MaxGap T (m+1)=if farT s.MaxGap (gi T (m:Int)) (gi T ((m+1:Nat):Int)) then gpT s.MaxGap T m++[gapI (gi T (m:Int)) (gi T ((m+1:Nat):Int))] else gpT s.MaxGap T m:=rfl
  repeat(refine wkM ?_;intros)
  refine jD 17 17 (h:=?_)
  (repeat(first|refine wkH ?_|(refine tC rfl rfl ?_ ?_;focus(exact⟨by omega,by omega⟩))))
  simp only[e1]
  (repeat(first|refine wkH ?_|(refine tC rfl rfl ?_ ?_;focus(first|exact h1|exact h2|exact h3))))
  refine Zn ?_
  refine Zr ?_
  simp only[hcq]
  cases hf:farT s.MaxGap (gi T (m:Int)) (gi T ((m+1:Nat):Int))
  ·rw[hf,if_neg (by decide)] at hnx
   repeat(refine wkO ?_;intros)
   obtain⟨s3,f1,f2⟩:=SlS.turn 111 hnx.symm q
   exact Zh ⟨m+1,s3⟩ (.inr (by show m+1+1<=T.length;omega)) (by simp only[f1];exact sbB) (by simp only[f2];exact suB) (by show T.length-(m+1)<T.length-m;omega)
  ·rw[hf,if_pos rfl] at hnx
   repeat(refine wkM ?_;intros)
   (refine ZX (.v [0,1,2,3,4,5,6,7,8,9,10,11,12,13,14] (.e1 15 (.e1 16 (.e1 17 (.fin))))) (([]:List Blk)) (h:=?_);refine wkX ?_)
   (repeat(first|refine wkH ?_|(refine tC rfl rfl ?_ ?_;focus(exact⟨by omega,by omega⟩))))
   simp only[e1]
   (repeat(refine wkH ?_))
   repeat(refine wkT ?_;intros)
   refine eU rfl rfl ?_ ?_ ?_ ?_
   ·rfl
   ·rfl
   ·exact⟨by decide,by omega,by omega⟩
   intro s'
   repeat(refine wkT ?_;intros)
   obtain⟨s3,f1,f2⟩:=SlS.turn 111 hnx.symm s'
   repeat(refine wkO ?_;intros)
   exact Zh ⟨m+1,s3⟩ (.inr (by show m+1+1<=T.length;omega)) (by simp only[f1];exact sbB) (by simp only[f2];exact suB) (by show T.length-(m+1)<T.length-m;omega)
 ·have hge:m=T.length-1:=by have:=Wb h;omega
  repeat(refine wkM ?_;intros)
  obtain⟨s3,f1,f2⟩:=SlS.turn 111 (show gpT s.MaxGap T m=gpT s.MaxGap T (T.length-1) by rw[hge]) q
  refine Zy rfl rfl (fun w hw=>⟨s3, ?_, ?_⟩)
  ·show Ending.returned (vSl q)=Ending.returned (vSl s3)
   rw[f1]
  ·show Own _ (mS 111 s3) w
   rw[f2]
   exact hw.sub suB
instance ZD3 (w0:World)(L:List Blk)(v:Value)(T:List Zc)(s:ZR)[h:LstC w0 L v Zc Zi T]:SpecR prog w0 L 32 [v, .agg (Zv s)] (SlS ZaD 20 (gpT s.MaxGap T (T.length-1))) (fun s=>vSl s) (fun s=>mS 111 s) (T.length<=1048576/\(∀z∈T,TkOk z)/\(-2147483648<=s.MaxGap/\s.MaxGap<=2147483648)):=⟨fun hp w hw=>ZnW v T s w (h.out w hw) hp.1 hp.2.1 hp.2.2⟩
end
section
open Fv (va red)
theorem Zvz {pts:List SS}(hB:Bnd pts):∀u∈frS pts,UK K1 (toU u):=fun u hu=>by
 by_cases h1:pts.length=1
 ·have e:frS pts=[one1 (gi pts 0)]:=by unfold frS;rw[if_pos h1]
  rw[e,Wo] at hu
  subst hu
  exact(Ztp hB).mono Zgw.1
 ·have e:frS pts=mNorm (sgs pts (pts.length-1)):=by unfold frS;rw[if_neg h1]
  have e3:(frS pts).map toU=nrmR (sgW pts (pts.length-1)):=by
   rw[e,<-ZdJ toU,Zge]
   rfl
  refine Zpy (K:=K0) (us:=sgW pts (pts.length-1)) (fun v hv=>?_) (toU u) (by rw[<-e3];exact List.mem_map.2 ⟨u,hu,rfl⟩)
  obtain⟨i, -,rfl⟩:=Zgl hv
  exact Zs8 hB i
structure ThrG (l:List SS)(g:Rat)(i:Nat)(s:List PU×List SS):Prop where
 u:∀u∈s.1,∃a b:Nat,a<=b/\b<l.length/\(gi l (a:Int)).T<=u.In.From.P/\u.In.To.P<=(gi l (b:Int)).T/\∀k:Nat,a<=k->k<b->thrC l g k=true
 r:∀k:Nat,i-s.2.length<=k->k<i->thrC l g k=true
 k:∀u∈s.1,UK K1 (toU u)
theorem Zmk {l:List SS}{g:Rat}(hB:Bnd l)(hi:Inc l):∀i,i<=l.length->ThrG l g i (thrN l g i)
 |0,_=>⟨(fun u hu=>by cases hu),(fun k h1 h2=>by omega),(fun u hu=>by cases hu)⟩
 |i+1,h=>by
  have ih:=Zmk (g:=g) hB hi i (by omega)
  have hk:=ZeB (g:=g) hB hi i (by omega)
  simp only[thrN]
  generalize thrN l g i=s at ih hk
  obtain⟨out,run⟩:=s
  obtain⟨g1,g2,g3⟩:=ih
  have hr:=hk.r
  have e1:=hk.run
  simp only at g1 g2 g3 hr e1⊢
  split
  ·rename_i hc
   refine⟨g1,fun k h1 h2=>?_,g3⟩
   simp only[Wp,List.length_singleton] at h1
   rcases(by omega:k<i\/k=i) with h3|rfl
   ·exact g2 k (by omega) h3
   ·exact hc
  ·have er:run++[gi l (i:Int)]=(l.drop (i-run.length)).take (run.length+1):=by
    rw[Wn (by rw[List.length_drop];omega),<-e1,List.getElem_drop,Zj (by omega)]
    congr 2
    simp only[show i-run.length+run.length=i by omega]
   obtain⟨p1,p2,p3⟩:=Zgk (a:=i-run.length) (r:=run.length+1) hB hi (by omega)
   have hl:((l.drop (i-run.length)).take (run.length+1)).length=run.length+1:=by rw[Wt,List.length_drop];omega
   rw[er]
   obtain⟨-, -,q3⟩:=ZkL p1 p2 (by omega)
   rw[hl] at q3
   rw[p3 0 (by omega),p3 (run.length+1-1) (by omega),show i-run.length+(run.length+1-1)=i by omega,Nat.add_zero] at q3
   refine⟨fun u hu=>?_,fun k h1 h2=>?_,fun u hu=>?_⟩
   ·rcases List.mem_append.1 hu with hu|hu
    ·exact g1 u hu
    ·obtain⟨q4,q5⟩:=q3 u hu
     exact⟨i-run.length,i,by omega,by omega,q4,q5,fun k h1 h2=>g2 k h1 h2⟩
   ·simp only[Wx] at h1
    omega
   ·rcases List.mem_append.1 hu with hu|hu
    ·exact g3 u hu
    ·exact Zvz p1 u hu
theorem Zgy {g:Int}{l:List Zc}{i:Ze}:∀m,i∈gpT g l m->∃k:Nat,k<m/\farT g (gi l (k:Int)) (gi l ((k+1:Nat):Int))=true/\i=gapI (gi l (k:Int)) (gi l ((k+1:Nat):Int))
 |0,h=>by cases h
 |m+1,h=>by
  simp only[gpT] at h
  split at h
  ·rename_i hf
   rcases List.mem_append.1 h with h|h
   ·obtain⟨k,h1,h2,h3⟩:=Zgy m h
    exact⟨k,by omega,h2,h3⟩
   ·exact⟨m,by omega,hf,List.mem_singleton.1 h⟩
  ·obtain⟨k,h1,h2,h3⟩:=Zgy m h
   exact⟨k,by omega,h2,h3⟩
theorem ZmV {l:List Ze}{t:Rat}:hlB l t=true↔∃i∈l,memI i t:=by
 unfold hlB
 rw[List.any_eq_true]
 exact⟨fun⟨i,h1,h2⟩=>⟨i,h1,Znp.1 h2⟩,fun⟨i,h1,h2⟩=>⟨i,h1,Znp.2 h2⟩⟩
theorem ZmZ {l:List Ze}{a b:Rat}:spB l a b=true↔∃i∈l,i.From.P<=a/\b<=i.To.P:=by
 unfold spB spI
 rw[List.any_eq_true]
 simp only[Wq,decide_eq_true_eq,Zjt]
theorem Zyy {a b:List Ze}(la:a.length<=1024)(lb:b.length<=1024)(ia:∀i∈a,IvOk B28 i)(ib:∀i∈b,IvOk B28 i)(h:∀t,(∃i∈a,memI i t)->(∃i∈b,memI i t)->False):CbOk a b:=by
 refine⟨la,lb,ia,ib,fun t=>?_,fun t u htu=>?_⟩
 ·cases h1:hlB a t
  ·rfl
  ·cases h2:hlB b t
   ·rfl
   ·exact(h t (ZmV.1 h1) (ZmV.1 h2)).elim
 ·cases h1:spB a t u
  ·rfl
  ·cases h2:spB b t u
   ·rfl
   ·obtain⟨i,hi,i1,i2⟩:=ZmZ.1 h1
    obtain⟨j,hj,j1,j2⟩:=ZmZ.1 h2
    have k1:t<(t+u) / 2:=by grind
    have k2:(t+u) / 2<u:=by grind
    refine(h ((t+u) / 2) ⟨i,hi, ?_⟩ ⟨j,hj, ?_⟩).elim
    ·exact⟨.inl (by grind), .inl (by grind)⟩
    ·exact⟨.inl (by grind), .inl (by grind)⟩
theorem Zwl {K:List Zc}{g:Int}(hok:∀z∈K,TkOk z)(hinc:Inc (spL K))(hn:K.length<=19):CbOk (gpT g K (K.length-1)) (pDom (thrT K g K.length).1)/\SwOk (pIv (thrT K g K.length).1) []:=by
 have hB:=Zik hok
 have hsl:=Zdj K
 have hG:=Zmk (g:=(g:Rat)) hB hinc K.length (by omega)
 have hF:=Zr2 (g:=(g:Rat)) hB hinc (by omega)
 have hO:=(ZeB (g:=(g:Rat)) hB hinc K.length (by omega)).n
 rw[hsl] at hF
 have hP:PGood K1 19 (thrN (spL K) (g:Rat) K.length).1:=⟨⟨hF.nf,fun u hu=>⟨⟨(hG.k u hu).i.r1,(hG.k u hu).i.n1⟩,⟨(hG.k u hu).i.r2,(hG.k u hu).i.n2⟩⟩⟩,hG.k,by omega⟩
 obtain⟨-,d2,d3, -⟩:=Zj1 hP
 have hdl:=ZsU (thrN (spL K) (g:Rat) K.length).1
 have hgl:=Zf9 g K (K.length-1)
 have hK1:K1<=B28:=by decide
 refine⟨Zyy (by omega) (by show(pDom (thrN _ _ _).1).length<=_;omega) (fun i hi=>?_) (fun i hi=>?_) (fun t=>?_),ZuG hP (by decide) (by decide)⟩
 ·obtain⟨k,hk, -,rfl⟩:=Zgy _ hi
  have k1:=hok (gi K (k:Int)) (ZI (by omega))
  have k2:=hok (gi K ((k+1:Nat):Int)) (ZI (by omega))
  exact⟨rfl,rfl,rfl,rfl,Wi k1.t (by decide),Wi k2.t (by decide)⟩
 ·exact((d3 i hi).1.iv (d3 i hi).2).mono hK1
 ·rintro⟨i,hi,hm⟩ hd
  obtain⟨u,hu,hum⟩:=(d2 t).1 hd
  obtain⟨k,hk,hf,rfl⟩:=Zgy _ hi
  obtain⟨a,b,hab,hb,u1,u2,u3⟩:=hG.u u hu
  have hgi:∀j:Nat,j<K.length->(gi (spL K) (j:Int)).T=(gi K (j:Int)).T:=fun j hj=>by
   rw[show gi (spL K) (j:Int)=smT (gi K (j:Int)) from ZeO (f:=smT) hj]
   rfl
  have m1:(gi K (k:Int)).T<t:=by
   rcases hm.1 with h|⟨-,h⟩
   ·exact h
   ·cases h
  have m2:t<(gi K ((k+1:Nat):Int)).T:=by
   rcases hm.2 with h|⟨-,h⟩
   ·exact h
   ·cases h
  have n1:u.In.From.P<=t:=by
   rcases hum.1 with h|⟨h, -⟩
   ·exact Rat.le_of_lt h
   ·rw[h];exact Rat.le_refl
  have n2:t<=u.In.To.P:=by
   rcases hum.2 with h|⟨h, -⟩
   ·exact Rat.le_of_lt h
   ·rw[h];exact Rat.le_refl
  rw[hsl] at hb
  rcases(by omega:k<a\/(a<=k/\k<b)\/b<=k) with h1|⟨h1,h2⟩|h1
  ·have ha:a<K.length:=by omega
   have h3:=ZeI hinc (i:=k+1) (j:=a) (by omega) (by omega)
   rw[hgi (k+1) (by omega),hgi a ha] at h3
   rw[hgi a ha] at u1
   grind
  ·have h3:=u3 k h1 h2
   rw[Zmx (by omega),hf] at h3
   simp at h3
  ·have h3:=ZeI hinc (i:=b) (j:=k) h1 (by omega)
   rw[hgi k (by omega),hgi b hb] at h3
   rw[hgi b hb] at u2
   grind
end
end Go.Vt
namespace Go.Vt
open Go.RowKit Go.Proofs
open Go.Proofs.Tryz (prog)
attribute [local irreducible] trT pDom
set_option maxHeartbeats 8000000 in
theorem lgap_spec (sl:Sl)(a b z:Int)(ls:List ZT)(ps:List (List Png))(cs:List (List Cll))(w:World)(h:WldIn w sl ls ps cs)(ha:Bt a)(hb:Bt b)(hz:Bt z):
  Calls prog 8 [.agg (ZK ⟨sl,a,b⟩), .int .u8 z].toArray w (Ret (.bool true) w):=by
 have hwc:=WldC.mk h
 have hn:ps.length=cs.length:=by rw[<-h.np,h.nc]
 refine Zg Tryz.func8 rfl Tryz.ntmps8 rfl ?_
 repeat(refine wkM ?_;intros)
 rename_i b2
 cases hsh:shB ps cs
 ·repeat(refine wkM ?_;intros)
  exact rtT rfl rfl
 have hB:=ZvP hsh hn
 have hsm:=Zws hsh
 have hab:Bt a/\Bt b:=⟨ha,hb⟩
 have hsv:=Zwz a b
 have hsg:=Zv8 a b
 obtain⟨hz0,hz1⟩:=hz
 simp only[Bool.not_true]
 repeat(refine wkM ?_;intros)
 refine Zav (S:=Nat×BatO (batL ps cs ps.length)) (fun _=>True) (fun q=>[(5,vSl q.2.o),(6, .pointer (some ⟨q.1,0,none⟩)),(7, .int .i64 (z % 5))]) (fun q=>q.2.mem++[⟨q.1,Zv (setT a b),32⟩]) ?_ (fun q _=>?_)
 ·(refine ZX (.v [0,2,4,5,6] (.e2 1 (.v [3] (.e1 7 (.e1 8 (.e1 9 (.e1 10 (.fin)))))) 7 (.e1 1 (.v [3] (.e1 8 (.e1 9 (.e1 10 (.fin)))))))) ([⟨b2,ZK ⟨sl,a,b⟩,24⟩]) (h:=?_);refine wkX ?_)
  repeat' (first|(with_reducible refine And.intro ?_ ?_)|(with_reducible exact True.intro)|(refine wkT ?_;intros)|(refine tC rfl rfl ?_ ?_;focus(first|exact trivial|exact hab|exact hsm|exact⟨by omega,by omega⟩))|(refine uC rfl rfl ?_ ?_;focus(first|exact trivial|exact hab|exact hsm|exact⟨by omega,by omega⟩))|(refine eN rfl rfl ?_ ?_;(focus(first|exact trivial|exact hab|exact hsm|exact⟨by omega,by omega⟩));intro _;(try simp only[Wf,Wg,Wh]))|fail)
  all_goals exact Zdd ⟨_,_⟩ trivial sbB inferInstance
 obtain⟨b6,s0⟩:=q
 simp only
 generalize batL ps cs ps.length=bs at*
 generalize hS:setT a b=s at*
 have hall:=hB.all
 have hink:=hB.ink
 have hrs:=hB.rs
 have hkx:∀i1:InkO (bR bs) (bE bs),KtX s.MaxSpeed i1.R i1.X/\(-2147483648<=s.MaxGap/\s.MaxGap<=2147483648):=fun i1=>⟨⟨i1.xok hrs,hsv⟩,hsg⟩
 have htx:∀i1:InkO (bR bs) (bE bs),TrX s i1.R i1.X:=fun i1=>⟨(hkx i1).1,hsg⟩
 repeat(first|(refine wkM ?_;intros)|(refine wnM ?_ ?_;(focus(first|exact hall|exact hink|exact⟨by omega,by omega⟩|exact hkx _|exact htx _));intros))
 rename_i i1 gT uT
 have htm:=i1.tm (z % 5)
 have hTl:=Zk1 (rs:=bR bs) (es:=bE bs) (o:=z % 5)
 have hTk:=hrs.rk w (o:=z % 5)
 generalize tmX i1.R i1.X (z % 5)=T at*
 subst htm
 have h12:=hB.r
 have h2:=Zc8 s.MaxSpeed (repL (bR bs) (bE bs) (z % 5))
 have h3:=Zco (cCp s.MaxSpeed (repL (bR bs) (bE bs) (z % 5))) (repL (bR bs) (bE bs) (z % 5)).length
 have hkk:RsOk (bR bs) (bE bs)/\(-1048576<=s.MaxSpeed/\s.MaxSpeed<=1048576):=⟨hrs,hsv⟩
 have hinc:=Zng s.MaxSpeed (repL (bR bs) (bE bs) (z % 5))
 have hKo:∀x∈kpT s.MaxSpeed (repL (bR bs) (bE bs) (z % 5)),TkOk x:=fun x hx=>hTk x (Zgs hx)
 have hKn:(kpT s.MaxSpeed (repL (bR bs) (bE bs) (z % 5))).length<=19:=by omega
 have hgp:(kpT s.MaxSpeed (repL (bR bs) (bE bs) (z % 5))).length<=1048576/\(∀x∈kpT s.MaxSpeed (repL (bR bs) (bE bs) (z % 5)),TkOk x)/\(-2147483648<=s.MaxGap/\s.MaxGap<=2147483648):=⟨by omega,hKo,hsg⟩
 obtain⟨hcb,hsw⟩:=Zwl (g:=s.MaxGap) hKo hinc hKn
 rw[<-Znn] at hcb hsw
 have hgl:=hcb.la
 generalize trT s (repL (bR bs) (bE bs) (z % 5))=us at*
 have hgl':(gpT s.MaxGap (kpT s.MaxSpeed (repL (bR bs) (bE bs) (z % 5))) ((kpT s.MaxSpeed (repL (bR bs) (bE bs) (z % 5))).length-1)).length<=1048576:=by omega
 (refine Zfb [([0,1,2,3,4,5,6,7,8,10,11,13],[9,12,14,15]),([16,17,18,19],[20,21]),([22,23,24],[25])] ([⟨b6,Zv s,32⟩]) (h:=?_);refine wkP ?_)
 (repeat(refine wkH ?_))
 repeat(first|(refine wkT ?_;intros)|(refine tC rfl rfl ?_ ?_;focus(first|exact hall|exact hkk|exact hgp|exact hgl'|exact hsw|exact hcb))|(refine uC rfl rfl ?_ ?_;focus(first|exact hall|exact hkk|exact hgp|exact hgl'|exact hsw|exact hcb))|(refine eN rfl rfl ?_ ?_;(focus(first|exact hall|exact hkk|exact hgp|exact hgl'|exact hsw|exact hcb));intro _;(try simp only[Wf,Wg,Wh])))
 rename_i sA
 obtain⟨rA,eA⟩:=sA
 dsimp only
 simp only[List.append_assoc]
 repeat(first|(refine wkT ?_;intros)|(refine tC rfl rfl ?_ ?_;focus(first|exact hall|exact hkk|exact hgp|exact hgl'|exact hsw|exact hcb))|(refine uC rfl rfl ?_ ?_;focus(first|exact hall|exact hkk|exact hgp|exact hgl'|exact hsw|exact hcb))|(refine eN rfl rfl ?_ ?_;(focus(first|exact hall|exact hkk|exact hgp|exact hgl'|exact hsw|exact hcb));intro _;(try simp only[Wf,Wg,Wh])))
 simp only[Wc (show((0:Nat):Int)=0 from rfl)]
 repeat(refine wkM ?_;intros)
 exact rtT rfl rfl
end Go.Vt
namespace Go.Proofs.YtjicdlilgjdefaaGreatDoor
open Go.ChangeShapes Go.WideShapes Go.ChangeAt Go.RowKit Go.Deep
def gapArgs :Array Value:=#[.agg #[.slice none 0 0, .int .u8 0, .int .u8 0], .int .u8 0]
theorem ZpJ (os:Os){H:Type}(enc:TypeId×Value->H):∃places,DataW.whole enc Tryz.prog ((laidWorld os).forCall (fun _ _=>0) ⟨#[],gapArgs,[]⟩).memory Tryz.f8.params.toList Rows.reconstructGapsSpec.vars false gapArgs.toList 8=some ([.agg [.nil, .lit (.int .u8 0), .lit (.int .u8 0)], .lit (.int .u8 0)],[],places):=
 ⟨[],by kernel_rfl⟩
theorem ZjU (H:Type)(enc:TypeId×Value->H)(W:World)(base:Nat)(args:Array Value)(ds gs:List (DataW H))(before:List MemPlace)
  (hval:∀(j:Nat) t v,Tryz.f8.params[j]? =some t->args[j]? =some v->Value.okWide Tryz.prog W .any base t v)
  (hW:DataW.Whole enc Tryz.prog Tryz.f8.params.toList Rows.reconstructGapsSpec.vars false W args.toList ds gs before)
  (hwt:(DataW.weightsEach Tryz.prog (Tryz.f8.params.toList++(OpenSpec.ofChange Rows.reconstructGapsSpec).bare.plain.varTypes Tryz.prog) (ds++gs)).all (· <=reachBytes)=true):
  Calls Tryz.prog 8 args W fun e W'=>∃v,e= .returned v/\Rows.reconstructGapsSpec.post enc Tryz.prog Tryz.f8 false true false false W args v W':=by
 have hW':=hW
 obtain⟨p,q,hA0,hV,rfl,hfz,hnd⟩:=hW
 have hA:DataW.TrodAll enc Tryz.prog W 0 (fun _=>true) true Tryz.f8.params.toList args.toList ds p:=hA0
 rw[Tryz.params8] at hA hval hwt
 obtain⟨v0,vs0,d0,ds0,p0,q0,hargs0,rfl,rfl,h0,r0⟩:=trodAll_cons hA
 obtain⟨v1,vs1,d1,ds1,p1,q1,hargs1,rfl,rfl,h1,r1⟩:=trodAll_cons r0
 subst hargs1
 obtain⟨rfl,rfl,rfl⟩:=trodAll_nil r1
 obtain rfl:args=#[v0,v1]:=by cases args;simp_all
 obtain⟨rfl,rfl⟩:=trodVars_none hV
 clear hA0
 simp only[List.append_nil] at hW'
 have hlt:∀x∈p0++(p1),x.block<W.heap.size:=fun x hx=>by simpa using hW'.lt x hx
 have h0k:=h0
 have hw0:=ZtX hwt (j:=0) (t:=24) (d:=d0) rfl rfl
 obtain⟨sl,a,b,ls,ps,cs,rfl,hwl,ha,hb'⟩:=Znw (hval 0 24 v0 rfl rfl) h0 hw0
 obtain⟨n1,rfl,rfl,rfl,hu1⟩:=open_int ru5 (hval 1 5 v1 rfl rfl) h1
 refine(Go.Vt.lgap_spec sl a b n1 ls ps cs W hwl ha hb' (ZbR hu1)).mono fun e' W' ⟨he',⟨hb,_⟩⟩=>?_
 subst he'
 try simp only[List.append_nil] at hlt hW'
 exact⟨_,rfl,⟨_,_,_,[],_,[],hW',trodAll_mk1 (shut_bool Tryz.underlying4 _),trodAll_mk2 (Below.trod rlaidOut (by kernel_rfl) (of_decide_eq_true (by kernel_rfl)) h0k hb (fun x hx=>hlt x (by simp[hx]))) (shut_int ru5 hu1),(by first|rfl|(simp;done)),hb.frame _,fun h=>by cases h⟩⟩
theorem gap_lifted (os:Os)(started:os.Started)(H:Type)(enc:TypeId×Value->H)(F:Stop.Interp):
  ReturnsInHanded {} Tryz.checked os 8 .any ((OpenSpec.ofChange Rows.reconstructGapsSpec).preRow enc Tryz.prog Tryz.f8 Rows.reconstructGapsRow.domain false Rows.reconstructGapsRow.laid) (((OpenSpec.ofChange Rows.reconstructGapsSpec).at F).post enc Tryz.prog Tryz.f8 false true false false):=by
 obtain⟨places,hx⟩:=ZpJ os enc
 refine returnsInHanded_of_row (C:=Tryz.checked) (s:=OpenSpec.ofChange Rows.reconstructGapsSpec) rown started (by kernel_rfl) Tryz.func8
  (witness_row_at (enc:=enc) (C:=Tryz.checked) false (laidWorld os) gapArgs rfl (by kernel_rfl) (by kernel_rfl) (by kernel_rfl)
   (OpenSpec.preRow_of_cond 8 hx (by kernel_rfl) (fun k hk=>by cases hk) (by kernel_rfl) (Zrt os _))) ?_
 intro W base args ds gs before hval hW _ _ hwt _ _ _
 exact ZjU H enc W base args ds gs before hval hW hwt
end Go.Proofs.YtjicdlilgjdefaaGreatDoor
