/- For any two moving labels, Map and Combine apply functions to their labels; Combine with equality agrees with Same. Conditions: none. (part 27 of 29.) Conditions: those that each statement names. -/
import Derived.Test.YtcgkgdgpdpihmaaGreatDoorProg
import Derived.Test.YtcgkgdgpdpihmaaGreatDoorKX20
import Derived.Test.YtcgkgdgpdpihmaaGreatDoorKX21
import Derived.Test.YtcgkgdgpdpihmaaGreatDoorKX22
import Derived.Test.YtcgkgdgpdpihmaaGreatDoorKX23
import Derived.Test.YtcgkgdgpdpihmaaGreatDoorKX24
import Derived.Test.YtcgkgdgpdpihmaaGreatDoorKX26
set_option linter.unusedSimpArgs false
set_option linter.unusedVariables false
set_option maxHeartbeats 2000000
set_option maxRecDepth 100000
namespace Go.Vt
open Go.RowKit Go.Proofs
open Go.Proofs.Tryz (prog)
section
theorem ZlX :(0:Rat).num.sign=0:=by decide
instance Zrl (x:Zj):SpecC prog 150 [vR x] (.int .i64 0) (RlB KR x/\x.R=0):=⟨fun hp w=>by
 obtain⟨p,r,n⟩:=x
 obtain⟨h1,h2⟩:=hp
 simp only at h2
 subst h2
 obtain rfl:n=false:=h1.o.z rfl
 have h3:M p<=LQ:=Wi h1.p (by decide)
 have h0:M 0<=LQ:=by decide
 refine Zb Tryz.func150 rfl Tryz.ntmps150 rfl ?_
 repeat(refine wkB ?_;intros)
 simp only[ZlX]
 repeat(refine wkB ?_;intros)
 exact rtT rfl rfl⟩
instance Zt6 (i:Za):SpecC prog 107 [vIv i] (.int .i64 0) ((IvOk KR i/\i.From.R=0/\i.To.R=0)/\okI i):=⟨fun hp w=>by
 obtain⟨⟨h1,hr1,hr2⟩,h2⟩:=hp
 have hlt:=Zc1.1 h2
 have hn:¬0<=cmpB (bdF i) (bdL i):=fun h=>(Zl5.1 hlt) (ZfU (by omega))
 refine Zb Tryz.func107 rfl Tryz.ntmps107 rfl ?_
 repeat(first|(refine wkB ?_;intros)|(refine wnM ?_ ?_;(focus(first|exact⟨h1.a,hr1⟩|exact⟨h1.b,hr2⟩));intros))
 (refine jD 6 6 (h:=?_);(repeat(first|refine wkH ?_|(refine tC rfl rfl ?_ ?_;focus(first|exact trivial|exact⟨⟨h1.a⟩,⟨h1.b⟩⟩))));refine Zp ?_;(repeat(refine Z6 ?_;intro _));refine Zr ?_)
 simp only[We hn]
 repeat(refine wkB ?_;intros)
 exact rtT rfl rfl⟩
instance ZwC (f:Int)(z:Array Value):SpecC prog 298 [.agg z, .int .i64 f] (.int .i64 0) True:=⟨fun _ w=>by
 refine Zb Tryz.func298 rfl Tryz.ntmps298 rfl ?_
 repeat(refine wkB ?_;intros)
 exact rtT rfl rfl⟩
instance Zt9 :MethC prog 109 (.agg #[]) "Check" 298 (.agg #[]):=⟨fun w=>by kernel_rfl⟩
instance ZxD :LdC prog 107 #[vLabels] 0 vLabels:=⟨ZE (by kernel_rfl) rfl⟩
instance ZAl {E:Env}{T:TypeId}{x:Operand}{d:TypeId}{v:Value}[h:IsC (evl E x) (.iface d v)]:AlC prog E (.box T x) #[.iface d v] T:=⟨fun hg hd h=>ZhV isE hg hd h⟩
theorem Zou (x y:UL)(b:Nat)(w:World)(hb:∃T fz,w.heap[b]? =some (.cells #[vLabels] T fz)):Calls prog 155 [vUL x,vUL y, .pointer (some ⟨b,0,none⟩)].toArray w (Ret (.bool (decide (x=y))) w):=by
 obtain⟨T,hb⟩:=hb
 have:=FoC.mk hb
 refine Zb Tryz.func155 rfl Tryz.ntmps155 rfl ?_
 repeat(refine wkB ?_;intros)
 by_cases h:x.In=y.In
 ·simp only[Wc h]
  repeat(refine wkB ?_;intros)
  have e:decide (x.F=y.F)=decide (x=y):=by
   rw[decide_eq_decide]
   obtain⟨I,F⟩:=x
   obtain⟨I',F'⟩:=y
   simp only at h
   subst h
   simp
  rw[e]
  exact rtT rfl rfl
 ·simp only[We h]
  repeat(refine wkB ?_;intros)
  rw[We (show¬x=y from fun e=>h (by rw[e]))]
  exact rtT rfl rfl
instance ZBL (w0:World)(L:List Blk)(x y:UL)(b:Nat)(T:TypeId)[h:AtC w0 L b #[vLabels] T]:SpecM prog w0 L 155 [vUL x,vUL y, .pointer (some ⟨b,0,none⟩)] (.bool (decide (x=y))) True:=⟨fun _ w hw=>Zou x y b w ⟨T,h.out w hw⟩⟩
theorem Zov (v1 v2:Value)(us:List UL)(b:Nat)(w:World)(h1:ArgS w v1 rU us)(h2:ArgS w v2 rU us)(hb:∃T fz,w.heap[b]? =some (.cells #[vLabels] T fz))(hl:us.length<=1048576):
  Calls prog 154 [v1,v2, .func (.func 155) #[] [.pointer (some ⟨b,0,none⟩)].toArray].toArray w (Ret (.bool true) w):=by
 obtain⟨T,hb⟩:=hb
 have:=FoC.mk hb
 refine Zb Tryz.func154 rfl Tryz.ntmps154 rfl ?_
 obtain⟨p1,c1,rfl⟩:=h1.form
 obtain⟨p2,c2,rfl⟩:=h2.form
 repeat(refine wkB ?_;intros)
 simp only[Wc (rfl:(us.length:Int)=(us.length:Int)),Bool.not_true]
 repeat(refine wkB ?_;intros)
 refine Zo (S:=Nat) (fun m=>m<=us.length) (fun m=>[(1, .slice p2 us.length c2),(2, .func (.func 155) #[] [.pointer (some ⟨b,0,none⟩)].toArray),(15, .slice p1 us.length c1),(16, .int .i64 us.length),(17, .int .i64 (m:Nat))]) (fun _=>[]) (fun m=>us.length-m) 0 (Wm _) sbB slB (fun m hm=>?_)
 repeat(refine wkB ?_;intros)
 refine Zk rfl (fun h=>?_) (fun h=>?_)
 ·have hlt:m<us.length:=by have:=Wa h;omega
  have hne:us≠[]:=fun h0=>by rw[h0] at hlt;simp at hlt
  obtain⟨b1,o1,c1',hv1,hc1,hr1⟩:=h1.blk (k:=20) hne []
  injection hv1 with e1 e2 e3
  subst e1
  subst e3
  obtain⟨b2,o2,c2',hv2,hc2,hr2⟩:=h2.blk (k:=20) hne []
  injection hv2 with e1 e2 e3
  subst e1
  subst e3
  have hr1':∀L,RowC w L b1 o1 UL rU us:=fun L=>⟨fun w' hw'=>hr1.out w' (hw'.sub (Wk _))⟩
  have hr2':∀L,RowC w L b2 o2 UL rU us:=fun L=>⟨fun w' hw'=>hr2.out w' (hw'.sub (Wk _))⟩
  repeat(refine wkB ?_;intros)
  simp only[Wc (rfl:gi us (m:Int)=gi us (m:Int)),Bool.not_true]
  repeat(refine wkB ?_;intros)
  exact Zc (m+1) hlt sbB slB (by omega)
 ·repeat(refine wkB ?_;intros)
  exact rtT rfl rfl
instance ZBE (w0:World)(L:List Blk)(v1 v2:Value)(us:List UL)(b:Nat)(T:TypeId)[h1:LstC w0 L v1 UL rU us][h2:LstC w0 L v2 UL rU us][h:AtC w0 L b #[vLabels] T]:SpecM prog w0 L 154 [v1,v2, .func (.func 155) #[] [.pointer (some ⟨b,0,none⟩)].toArray] (.bool true) (us.length<=1048576):=⟨fun hp w hw=>Zov v1 v2 us b w (h1.out w hw) (h2.out w hw) ⟨T,h.out w hw⟩ hp⟩
theorem ZoA (v1 v2:Value)(us:List UL)(w:World)(h1:ArgS w v1 rU us)(h2:ArgS w v2 rU us)(hl:us.length<=1048576):
  Calls prog 109 [vLabels,v1,v2].toArray w (Ret (.bool true) w):=by
 have:=ArgC.mk h1
 have:=ArgC.mk h2
 refine Zb Tryz.func109 rfl Tryz.ntmps109 rfl ?_
 repeat(first|(refine wkB ?_;intros)|(refine wnM ?_ ?_;(focus(exact hl));intros))
 exact rtT rfl rfl
instance ZBo (w0:World)(L:List Blk)(v1 v2:Value)(us:List UL)[h1:LstC w0 L v1 UL rU us][h2:LstC w0 L v2 UL rU us]:SpecM prog w0 L 109 [vLabels,v1,v2] (.bool true) (us.length<=1048576):=⟨fun hp w hw=>ZoA v1 v2 us w (h1.out w hw) (h2.out w hw) hp⟩
theorem ZtR {R:List UL}(h:NF (R.map absU)){i j:Nat}(hij:i<j)(hj:j<R.length):(absU (gi R (i:Int))).bfr (absU (gi R (j:Int))):=by
 have h1:=List.pairwise_iff_getElem.1 h.pw i j (by rw[Ws];omega) (by rw[Ws];omega) hij
 rw[List.getElem_map,List.getElem_map,<-Zs (by omega),<-Zs hj] at h1
 exact h1.bf
theorem Zo3 {us:List UL}(h:NF (us.map absU))(hk:∀u∈us,UIn u):nrmR us=us/\nrmE us=0/\∀i,i+1<us.length->aprt (gi us (i:Int)).In (gi us ((i+1:Nat):Int)).In=true:=by
 have hd:(us.map absU).Pairwise Dis:=h.pw.imp fun h=>h.bf.Dis
 have hv:UVal us:=⟨hk,fun u hu=>h.ok _ (List.mem_map.2 ⟨u,hu,rfl⟩)⟩
 obtain⟨h1,h2⟩:=Zh4 hv hd
 refine⟨ZeT (fun u hu=>(ZfM hk u hu).i) (fun u hu=>(hk u hu).i) (NF.uniq h1 h h2),(ZmZ hv).2 hd,fun i hi=>?_⟩
 exact ZeZ.2 (ZtR h (i:=i) (j:=i+1) (by omega) hi)
theorem Zi5 (v:Value)(us:List UL)(w:World)(hv:ArgS w v rU us)(hnil:us=[]->v= .slice none 0 0)(h:NF (us.map absU))(hk:∀u∈us,UIn u)(hr:∀u∈us,u.In.From.R=0/\u.In.To.R=0)(hl:us.length<=19):
  Calls prog 62 [vLabels,v].toArray w (Ret (.int .i64 0) w):=by
 obtain⟨n1,n2,n3⟩:=Zo3 h hk
 have:=ArgC.mk hv
 obtain⟨p,cp,rfl⟩:=hv.form
 have:∀L,LstN w L (.slice p us.length cp) UL rU us:=fun L=>⟨fun w' hw'=>hv.to hw'.ext,hnil⟩
 refine Zb Tryz.func62 rfl Tryz.ntmps62 rfl ?_
 repeat(refine wkB ?_;intros)
 simp only[We (show¬(256:Int)<us.length by omega)]
 repeat(refine wkB ?_;intros)
 refine Zo (S:=Nat) (fun m=>m<=us.length) (fun m=>[(0,vLabels),(1, .slice p us.length cp),(14, .slice p us.length cp),(15, .int .i64 us.length),(16, .int .i64 (m:Nat))]) (fun _=>[]) (fun m=>us.length-m) 0 (Wm _) sbB slB (fun m hm=>?_)
 repeat(refine wkB ?_;intros)
 refine Zk rfl (fun hc=>?_) (fun hc=>?_)
 ·have hlt:m<us.length:=by have:=Wa hc;omega
  have hne:us≠[]:=fun h0=>by rw[h0] at hlt;simp at hlt
  obtain⟨b1,o1,c1',hv1,hc1,hr1⟩:=hv.blk (k:=20) hne []
  injection hv1 with e1 e2 e3
  subst e1
  subst e3
  have hr1':∀L,RowC w L b1 o1 UL rU us:=fun L=>⟨fun w' hw'=>hr1.out w' (hw'.sub (Wk _))⟩
  have hu:=hk _ (Zu (i:=(m:Int)) (xs:=us) (by omega))
  have ho:=h.ok _ (List.mem_map.2 ⟨_,Zu (i:=(m:Int)) (xs:=us) (by omega),rfl⟩)
  have p1:(IvOk KR (gi us (m:Int)).In/\(gi us (m:Int)).In.From.R=0/\(gi us (m:Int)).In.To.R=0)/\okI (gi us (m:Int)).In:=⟨⟨hu.i,hr _ (Zu (i:=(m:Int)) (xs:=us) (by omega))⟩,ho⟩
  repeat(first|(refine wkB ?_;intros)|(refine wnM ?_ ?_;(focus(first|exact p1|exact trivial));intros))
  rename_i b6
  rcases Nat.eq_zero_or_pos m with h0|h0
  ·subst h0
   refine jD 14 14 (h:=?_)
   (repeat(refine wkH ?_))
   simp only[We (show¬(0:Int)<((0:Nat):Int) by decide)]
   (repeat(refine wkH ?_))
   refine Zp ?_
   refine Zr ?_
   repeat(refine wkB ?_;intros)
   exact Zc 1 hlt sbB slB (by omega)
  ·have hu0:=hk _ (Zu (i:=(m:Int)-1) (xs:=us) (by omega))
   have ha:aprt (gi us ((m:Int)-1)).In (gi us (m:Int)).In=true:=by
    have:=n3 (m-1) (by omega)
    rw[show((m-1:Nat):Int)=(m:Int)-1 by omega,show((m-1+1:Nat):Int)=(m:Int) by omega] at this
    exact this
   refine jD 14 14 (h:=?_)
   (repeat(refine wkH ?_))
   simp only[Wc (show(0:Int)<(m:Int) by omega)]
   (repeat(first|refine wkH ?_|(refine tC rfl rfl ?_ ?_;focus(exact⟨hu0.i.b,hu.i.a⟩))))
   simp only[ha,Bool.not_true]
   (repeat(refine wkH ?_))
   refine Zp ?_
   refine Zr ?_
   repeat(refine wkB ?_;intros)
   exact Zc (m+1) hlt sbB slB (by omega)
 ·repeat(first|(refine wkB ?_;intros)|(refine wnM ?_ ?_;(focus(first|exact⟨.inl hl,hk⟩));intros))
  rename_i s
  obtain⟨s',e1,e2⟩:=SlS.turn 145 n1 s
  simp only[<-e1,<-e2,n2,Wc (rfl:(0:Int)=0),Bool.not_true]
  repeat(first|(refine wkB ?_;intros)|(refine wnM ?_ ?_;(focus(exact(show us.length<=1048576 by omega)));intros))
  exact rtT rfl rfl
instance Zwf (w0:World)(L:List Blk)(v:Value)(us:List UL)[h:LstN w0 L v UL rU us]:SpecM prog w0 L 62 [vLabels,v] (.int .i64 0) (NF (us.map absU)/\(∀u∈us,UIn u)/\(∀u∈us,u.In.From.R=0/\u.In.To.R=0)/\us.length<=19):=⟨fun hp w hw=>Zi5 v us w (h.out w hw) h.nil hp.1 hp.2.1 hp.2.2.1 hp.2.2.2⟩
theorem Zp7 {α β:Type}[Inhabited α](f:α->β)(xs:List α):mpN f xs xs.length=xs.map f:=by
 apply List.ext_getElem
 ·rw[ZM,Ws]
 ·intro i h1 h2
  rw[List.getElem_map]
  have key:∀m,m<=xs.length->mpN f xs m=(xs.take m).map f:=fun m=>by
   induction m with
   |zero=>intro _;rfl
   |succ m ih=>intro hm;rw[mpN,ih (by omega),Wn (by omega),List.map_append,Zs (by omega)];rfl
  have:=key xs.length (Wl _)
  rw[List.take_length] at this
  simp[this]
noncomputable def absP (u:PU):GU Ri Int:=⟨ri u.In.From,ri u.In.To,u.In.OpenFrom,u.In.OpenTo,u.Label⟩
theorem ZnI (us:List PU):(us.map toU).map absU=us.map absP:=by rw[List.map_map];rfl
structure PFine (us:List PU):Prop where
 nf:NF (us.map absP)
 k:∀u∈us,UIn (toU u)
 r:∀u∈us,u.In.From.R=0/\u.In.To.R=0
 l:us.length<=19
theorem Zi4 (v:Value)(us:List PU)(w:World)(hv:ArgS w v rP us)(h:PFine us):Calls prog 15 [v].toArray w (Ret (.int .i64 0) w):=by
 have hl:=h.l
 have hml:=Zp7 toU us
 have p1:NF ((mpN toU us us.length).map absU)/\(∀u∈mpN toU us us.length,UIn u)/\(∀u∈mpN toU us us.length,u.In.From.R=0/\u.In.To.R=0)/\(mpN toU us us.length).length<=19:=by
  rw[hml,ZnI,Ws]
  refine⟨h.nf,fun u hu=>?_,fun u hu=>?_,hl⟩
  ·obtain⟨x,hx,rfl⟩:=List.mem_map.1 hu
   exact h.k x hx
  ·obtain⟨x,hx,rfl⟩:=List.mem_map.1 hu
   exact h.r x hx
 have:=ArgC.mk hv
 refine Zb Tryz.func15 rfl Tryz.ntmps15 rfl ?_
 have hl1:us.length<=1048576:=by omega
 repeat(refine wkB ?_;intros)
 (refine ZC (.v [0,1,2] (.e1 3 (.e1 4 (.e1 5 (.fin))))) (([]:List Blk)) (h:=?_);refine wkX ?_)
 (repeat(refine wkH ?_))
 repeat(first|(refine wkT ?_;intros)|(refine tC rfl rfl ?_ ?_;focus(first|exact hl1|exact p1))|(refine uC rfl rfl ?_ ?_;focus(first|exact hl1|exact p1))|(refine eN rfl rfl ?_ ?_;(focus(first|exact hl1|exact p1));intro _;(try simp only[Wf,Wg,Wh])))
 repeat(refine wkB ?_;intros)
 exact rtT rfl rfl
instance Zwx (w0:World)(L:List Blk)(v:Value)(us:List PU)[h:LstC w0 L v PU rP us]:SpecM prog w0 L 15 [v] (.int .i64 0) (PFine us):=⟨fun hp w hw=>Zi4 v us w (h.out w hw) hp⟩
end
section
set_option maxHeartbeats 8000000 in
theorem Zjb (v1 v2:Value)(l m:List PU)(w:World)(h1:ArgS w v1 rP l)(h2:ArgS w v2 rP m)(hl:l.length<=1048576/\m.length<=1048576):
  Calls prog 22 [v1,v2].toArray w (Ret (.bool (decide (l=m))) w):=by
 have hav1:=ArgC.mk h1
 have hav2:=ArgC.mk h2
 have A1:=h1
 have A2:=h2
 obtain⟨p,cp,rfl⟩:=h1.form
 obtain⟨q,cq',rfl⟩:=h2.form
 refine Zb Tryz.func22 rfl Tryz.ntmps22 rfl ?_
 repeat(refine wkB ?_;intros)
 by_cases hlen:l.length=m.length
 ·simp only[Wc (show((l.length:Nat):Int)=((m.length:Nat):Int) by omega),Bool.not_true]
  repeat(refine wkB ?_;intros)
  refine Zo (S:=Nat) (fun k=>k<=l.length/\∀j:Nat,j<k->gi l (j:Int)=gi m (j:Int)) (fun k=>[(0, .slice p l.length cp),(1, .slice q m.length cq'),(5, .int .i64 (k:Nat))]) (fun _=>[]) (fun k=>l.length-k) 0 ⟨Wm _,fun j hj=>by omega⟩ sbB slB (fun k hk=>?_)
  obtain⟨hk,hsame⟩:=hk
  repeat(refine wkB ?_;intros)
  refine Zk rfl (fun h=>?_) (fun h=>?_)
  ·have hlt:k<l.length:=by have:=Wa h;omega
   have hne:l≠[]:=fun h0=>by rw[h0] at hlt;simp at hlt
   have hne2:m≠[]:=fun h0=>by rw[h0] at hlen;rw[hlen] at hlt;simp at hlt
   obtain⟨bw,ow,cw,hvw,hcw,hrow⟩:=A1.blk (k:=20) hne []
   obtain⟨bw',ow',cw',hvw',hcw',hrow2⟩:=A2.blk (k:=20) hne2 []
   injection hvw with x1 x2 x3
   injection hvw' with y1 y2 y3
   subst x1 x3
   subst y1 y3
   have hr1:∀L,RowC w L bw ow PU rP l:=fun L=>⟨fun w' hw'=>hrow.out w' (hw'.sub (Wk _))⟩
   have hr2:∀L,RowC w L bw' ow' PU rP m:=fun L=>⟨fun w' hw'=>hrow2.out w' (hw'.sub (Wk _))⟩
   repeat(refine wkB ?_;intros)
   refine jD 9 9 (h:=?_)
   (repeat(refine wkH ?_))
   refine Zp ?_
   refine Zr ?_
   by_cases he:gi l (k:Int)=gi m (k:Int)
   ·simp only[Wc he,Bool.not_true]
    repeat(first|(refine wkB ?_;intros)|(refine wnM ?_ ?_;(focus(exact⟨by omega,by omega⟩));intros))
    refine Zc (k+1) ⟨hlt,fun j hj=>?_⟩ sbB slB (by omega)
    rcases(by omega:j<k\/j=k) with h1|rfl
    ·exact hsame j h1
    ·exact he
   ·simp only[We he,Bool.not_false]
    repeat(refine wkB ?_;intros)
    rw[We (show¬l=m from fun h0=>he (by rw[h0]))]
    exact rtT rfl rfl
  ·have hge:k=l.length:=by have:=Wb h;omega
   subst hge
   have he:l=m:=List.ext_getElem hlen fun j h1 h2=>by
    have:=hsame j h1
    rwa [Zs h1,Zs h2] at this
   repeat(refine wkB ?_;intros)
   rw[Wc he]
   exact rtT rfl rfl
 ·simp only[We (show¬((l.length:Nat):Int)=((m.length:Nat):Int) by omega),Bool.not_false]
  repeat(refine wkB ?_;intros)
  rw[We (show¬l=m from fun h0=>hlen (by rw[h0]))]
  exact rtT rfl rfl
instance Zwc (w0:World)(L:List Blk)(v1 v2:Value)(l m:List PU)[h1:LstC w0 L v1 PU rP l][h2:LstC w0 L v2 PU rP m]:SpecM prog w0 L 22 [v1,v2] (.bool (decide (l=m))) (l.length<=1048576/\m.length<=1048576):=⟨fun hp w hw=>Zjb v1 v2 l m w (h1.out w hw) (h2.out w hw) hp⟩
end
section
def flB (a b:PU)(x y:Int):Bool:= !decide (a.In.From=a.In.To)&&(!decide (b.In.From=b.In.To)&&(decide (a.In.To=b.In.From)&&(!(a.In.OpenTo&&b.In.OpenFrom)&&(decide (a.Label=x)&&decide (b.Label=y)))))
theorem Zbk {a b:PU}{x y:Int}:flB a b x y=true↔True/\¬a.In.From=a.In.To/\¬b.In.From=b.In.To/\a.In.To=b.In.From/\¬(a.In.OpenTo=true/\b.In.OpenFrom=true)/\a.Label=x/\b.Label=y:=by
 unfold flB
 simp only[Wq,Bool.not_eq_true',decide_eq_true_eq,decide_eq_false_iff_not,true_and,<-Bool.not_eq_true]
def flL (l:List PU)(x y:Int):Nat->List Rl
 |0=>[]
 |i+1=>if flB (gi l (i:Int)) (gi l ((i+1:Nat):Int)) x y=true then flL l x y i++[(gi l ((i+1:Nat):Int)).In.From] else flL l x y i
theorem Zkx (l:List PU)(x y:Int):∀i,(flL l x y i).length<=i
 |0=>Wl _
 |i+1=>by
  have h1:=Zkx l x y i
  rw[flL]
  split
  ·rw[Wp];simp;exact h1
  ·omega
instance ZAa (u:PU):SpecC prog 78 [vPU u] (.bool (!decide (u.In.From=u.In.To))) True:=⟨fun _ w=>by
 refine Zb Tryz.func78 rfl Tryz.ntmps78 rfl ?_
 repeat(refine wkB ?_;intros)
 exact rtT rfl rfl⟩
set_option maxHeartbeats 16000000 in
theorem Zic (v:Value)(l:List PU)(x y:Int)(w:World)(hv:ArgS w v rP l)(hl:l.length<=1048576):
  Calls prog 26 [v, .int .i64 x, .int .i64 y].toArray w (RetM (SlS Zw 9 (flL l x y (l.length-1))) (fun q=>vSl q) (fun q=>mS 35 q) w):=by
 obtain⟨p,cp,rfl⟩:=hv.form
 refine Zb Tryz.func26 rfl Tryz.ntmps26 rfl ?_
 repeat(refine wkB ?_;intros)
 refine Z4 (S:=SlS Zw 9 (flL l x y (l.length-1))) (fun _=>True) (fun q=>[(7,vSl q)]) (fun q=>mS 35 q) ?_ (fun q _=>?_)
 ·refine Zo (S:=(_:Nat)×(o:List Rl)×SlS Zw 9 o) (fun q=>q.1<=l.length-1/\q.2.1=flL l x y q.1) (fun q=>[(0, .slice p l.length cp),(1, .int .i64 x),(2, .int .i64 y),(7,vSl q.2.2),(8, .int .i64 ((q.1+1:Nat):Int))]) (fun q=>mS 35 q.2.2) (fun q=>l.length-q.1) ⟨0,[],SlS.no⟩ ⟨Wm _,rfl⟩ sbB suB (fun q hq=>?_)
  obtain⟨i,out,o⟩:=q
  obtain⟨hq,ho⟩:=hq
  dsimp only at hq ho⊢
  have hln:out.length<=i:=by rw[ho];exact Zkx l x y i
  have hend:i=l.length-1->out=flL l x y (l.length-1):=fun h=>by rw[ho,h]
  have hnxt:(if flB (gi l (i:Int)) (gi l ((i+1:Nat):Int)) x y=true then out++[(gi l ((i+1:Nat):Int)).In.From] else out)=flL l x y (i+1):=by rw[ho];rfl
  clear ho
  have e2:((i+1:Nat):Int)-1=(i:Int):=by omega
  have e3:((i+1:Nat):Int)+1=((i+1+1:Nat):Int):=by omega
  repeat(refine wkB ?_;intros)
  refine Zk rfl (fun h=>?_) (fun h=>?_)
  ·have hlt:i+1<l.length:=by have:=Wa h;omega
   obtain⟨bw,ow,rfl,hrow'⟩:=hv.opn (k:=20) hlt
   repeat(refine wkB ?_;intros)
   (refine Zci [0,1,2,3,4,5,6,7,8] [9,10] [11,12] (([]:List Blk)) (h:=?_);refine wkI ?_)
   (repeat(refine wkH ?_))
   repeat(refine wkT ?_;intros)
   repeat(refine wkB ?_;intros)
   simp only[e2]
   repeat(refine wkB ?_;intros)
   by_cases c1:(gi l (i:Int)).In.From=(gi l (i:Int)).In.To
   ·simp only[Wc c1,Bool.not_true]
    repeat(refine wkB ?_;intros)
    have hf:flB (gi l (i:Int)) (gi l ((i+1:Nat):Int)) x y=false:=Bool.eq_false_iff.2 fun g=>by
     obtain⟨g0,g1,g2,g3,g4,g5,g6⟩:=Zbk.1 g
     first|exact g0 c0|exact g1 c1|exact g2 c2|exact c3 g3|exact g4 ⟨c4,c4b⟩|exact c5 g5|exact c6 g6
    rw[hf] at hnxt
    simp only[Bool.false_eq_true,if_false] at hnxt
    repeat(first|(refine wkB ?_;intros)|(refine wnM ?_ ?_;(focus(exact⟨by omega,by omega⟩));intros))
    simp only[e3]
    exact Zc ⟨i+1,_,o⟩ ⟨by show i+1<=l.length-1;omega,hnxt⟩ sbB suB (by show l.length-(i+1)<l.length-i;omega)
   ·simp only[We c1,Bool.not_false]
    repeat(refine wkB ?_;intros)
    by_cases c2:(gi l ((i+1:Nat):Int)).In.From=(gi l ((i+1:Nat):Int)).In.To
    ·simp only[Wc c2,Bool.not_true]
     repeat(refine wkB ?_;intros)
     have hf:flB (gi l (i:Int)) (gi l ((i+1:Nat):Int)) x y=false:=Bool.eq_false_iff.2 fun g=>by
      obtain⟨g0,g1,g2,g3,g4,g5,g6⟩:=Zbk.1 g
      first|exact g0 c0|exact g1 c1|exact g2 c2|exact c3 g3|exact g4 ⟨c4,c4b⟩|exact c5 g5|exact c6 g6
     rw[hf] at hnxt
     simp only[Bool.false_eq_true,if_false] at hnxt
     repeat(first|(refine wkB ?_;intros)|(refine wnM ?_ ?_;(focus(exact⟨by omega,by omega⟩));intros))
     simp only[e3]
     exact Zc ⟨i+1,_,o⟩ ⟨by show i+1<=l.length-1;omega,hnxt⟩ sbB suB (by show l.length-(i+1)<l.length-i;omega)
    ·simp only[We c2,Bool.not_false]
     repeat(refine wkB ?_;intros)
     by_cases c3:(gi l (i:Int)).In.To=(gi l ((i+1:Nat):Int)).In.From
     ·simp only[Wc c3]
      repeat(refine wkB ?_;intros)
      cases c4:(gi l (i:Int)).In.OpenTo with
      |false=>
       repeat(refine wkB ?_;intros)
       by_cases c5:(gi l (i:Int)).Label=x
       ·simp only[Wc c5]
        repeat(refine wkB ?_;intros)
        by_cases c6:(gi l ((i+1:Nat):Int)).Label=y
        ·simp only[Wc c6]
         repeat(refine wkB ?_;intros)
         have hf:flB (gi l (i:Int)) (gi l ((i+1:Nat):Int)) x y=true:=Zbk.2 ⟨trivial,c1,c2,c3,(fun g=>by first|exact Bool.noConfusion (g.1.symm.trans c4)|exact Bool.noConfusion (g.2.symm.trans c4b)),c5,c6⟩
         rw[hf] at hnxt
         simp only[if_true] at hnxt
         repeat(refine wkB ?_;intros)
         refine sU (k:=9) (enc:=Zw) (s:=o) rfl rfl ?_ ?_ ?_ ?_
         ·rfl
         ·rfl
         ·exact⟨by decide,by omega,by omega⟩
         intro s'
         repeat(first|(refine wkB ?_;intros)|(refine wnM ?_ ?_;(focus(exact⟨by omega,by omega⟩));intros))
         simp only[e3]
         exact Zc ⟨i+1,_,s'⟩ ⟨by show i+1<=l.length-1;omega,hnxt⟩ sbB suB (by show l.length-(i+1)<l.length-i;omega)
        ·simp only[We c6]
         repeat(refine wkB ?_;intros)
         have hf:flB (gi l (i:Int)) (gi l ((i+1:Nat):Int)) x y=false:=Bool.eq_false_iff.2 fun g=>by
          obtain⟨g0,g1,g2,g3,g4,g5,g6⟩:=Zbk.1 g
          first|exact g0 c0|exact g1 c1|exact g2 c2|exact c3 g3|exact g4 ⟨c4,c4b⟩|exact c5 g5|exact c6 g6
         rw[hf] at hnxt
         simp only[Bool.false_eq_true,if_false] at hnxt
         repeat(first|(refine wkB ?_;intros)|(refine wnM ?_ ?_;(focus(exact⟨by omega,by omega⟩));intros))
         simp only[e3]
         exact Zc ⟨i+1,_,o⟩ ⟨by show i+1<=l.length-1;omega,hnxt⟩ sbB suB (by show l.length-(i+1)<l.length-i;omega)
       ·simp only[We c5]
        repeat(refine wkB ?_;intros)
        have hf:flB (gi l (i:Int)) (gi l ((i+1:Nat):Int)) x y=false:=Bool.eq_false_iff.2 fun g=>by
         obtain⟨g0,g1,g2,g3,g4,g5,g6⟩:=Zbk.1 g
         first|exact g0 c0|exact g1 c1|exact g2 c2|exact c3 g3|exact g4 ⟨c4,c4b⟩|exact c5 g5|exact c6 g6
        rw[hf] at hnxt
        simp only[Bool.false_eq_true,if_false] at hnxt
        repeat(first|(refine wkB ?_;intros)|(refine wnM ?_ ?_;(focus(exact⟨by omega,by omega⟩));intros))
        simp only[e3]
        exact Zc ⟨i+1,_,o⟩ ⟨by show i+1<=l.length-1;omega,hnxt⟩ sbB suB (by show l.length-(i+1)<l.length-i;omega)
      |true=>
       repeat(refine wkB ?_;intros)
       cases c4b:(gi l ((i+1:Nat):Int)).In.OpenFrom with
       |false=>
        repeat(refine wkB ?_;intros)
        by_cases c5:(gi l (i:Int)).Label=x
        ·simp only[Wc c5]
         repeat(refine wkB ?_;intros)
         by_cases c6:(gi l ((i+1:Nat):Int)).Label=y
         ·simp only[Wc c6]
          repeat(refine wkB ?_;intros)
          have hf:flB (gi l (i:Int)) (gi l ((i+1:Nat):Int)) x y=true:=Zbk.2 ⟨trivial,c1,c2,c3,(fun g=>by first|exact Bool.noConfusion (g.1.symm.trans c4)|exact Bool.noConfusion (g.2.symm.trans c4b)),c5,c6⟩
          rw[hf] at hnxt
          simp only[if_true] at hnxt
          repeat(refine wkB ?_;intros)
          refine sU (k:=9) (enc:=Zw) (s:=o) rfl rfl ?_ ?_ ?_ ?_
          ·rfl
          ·rfl
          ·exact⟨by decide,by omega,by omega⟩
          intro s'
          repeat(first|(refine wkB ?_;intros)|(refine wnM ?_ ?_;(focus(exact⟨by omega,by omega⟩));intros))
          simp only[e3]
          exact Zc ⟨i+1,_,s'⟩ ⟨by show i+1<=l.length-1;omega,hnxt⟩ sbB suB (by show l.length-(i+1)<l.length-i;omega)
         ·simp only[We c6]
          repeat(refine wkB ?_;intros)
          have hf:flB (gi l (i:Int)) (gi l ((i+1:Nat):Int)) x y=false:=Bool.eq_false_iff.2 fun g=>by
           obtain⟨g0,g1,g2,g3,g4,g5,g6⟩:=Zbk.1 g
           first|exact g0 c0|exact g1 c1|exact g2 c2|exact c3 g3|exact g4 ⟨c4,c4b⟩|exact c5 g5|exact c6 g6
          rw[hf] at hnxt
          simp only[Bool.false_eq_true,if_false] at hnxt
          repeat(first|(refine wkB ?_;intros)|(refine wnM ?_ ?_;(focus(exact⟨by omega,by omega⟩));intros))
          simp only[e3]
          exact Zc ⟨i+1,_,o⟩ ⟨by show i+1<=l.length-1;omega,hnxt⟩ sbB suB (by show l.length-(i+1)<l.length-i;omega)
        ·simp only[We c5]
         repeat(refine wkB ?_;intros)
         have hf:flB (gi l (i:Int)) (gi l ((i+1:Nat):Int)) x y=false:=Bool.eq_false_iff.2 fun g=>by
          obtain⟨g0,g1,g2,g3,g4,g5,g6⟩:=Zbk.1 g
          first|exact g0 c0|exact g1 c1|exact g2 c2|exact c3 g3|exact g4 ⟨c4,c4b⟩|exact c5 g5|exact c6 g6
         rw[hf] at hnxt
         simp only[Bool.false_eq_true,if_false] at hnxt
         repeat(first|(refine wkB ?_;intros)|(refine wnM ?_ ?_;(focus(exact⟨by omega,by omega⟩));intros))
         simp only[e3]
         exact Zc ⟨i+1,_,o⟩ ⟨by show i+1<=l.length-1;omega,hnxt⟩ sbB suB (by show l.length-(i+1)<l.length-i;omega)
       |true=>
        repeat(refine wkB ?_;intros)
        have hf:flB (gi l (i:Int)) (gi l ((i+1:Nat):Int)) x y=false:=Bool.eq_false_iff.2 fun g=>by
         obtain⟨g0,g1,g2,g3,g4,g5,g6⟩:=Zbk.1 g
         first|exact g0 c0|exact g1 c1|exact g2 c2|exact c3 g3|exact g4 ⟨c4,c4b⟩|exact c5 g5|exact c6 g6
        rw[hf] at hnxt
        simp only[Bool.false_eq_true,if_false] at hnxt
        repeat(first|(refine wkB ?_;intros)|(refine wnM ?_ ?_;(focus(exact⟨by omega,by omega⟩));intros))
        simp only[e3]
        exact Zc ⟨i+1,_,o⟩ ⟨by show i+1<=l.length-1;omega,hnxt⟩ sbB suB (by show l.length-(i+1)<l.length-i;omega)
     ·simp only[We c3]
      repeat(refine wkB ?_;intros)
      have hf:flB (gi l (i:Int)) (gi l ((i+1:Nat):Int)) x y=false:=Bool.eq_false_iff.2 fun g=>by
       obtain⟨g0,g1,g2,g3,g4,g5,g6⟩:=Zbk.1 g
       first|exact g0 c0|exact g1 c1|exact g2 c2|exact c3 g3|exact g4 ⟨c4,c4b⟩|exact c5 g5|exact c6 g6
      rw[hf] at hnxt
      simp only[Bool.false_eq_true,if_false] at hnxt
      repeat(first|(refine wkB ?_;intros)|(refine wnM ?_ ?_;(focus(exact⟨by omega,by omega⟩));intros))
      simp only[e3]
      exact Zc ⟨i+1,_,o⟩ ⟨by show i+1<=l.length-1;omega,hnxt⟩ sbB suB (by show l.length-(i+1)<l.length-i;omega)
  ·have hge:i=l.length-1:=by have:=Wb h;omega
   obtain⟨s',f1,f2⟩:=SlS.turn 35 (hend hge) o
   repeat(refine wkB ?_;intros)
   exact Zi s' trivial (by rw[f1];exact sbB) (by rw[f2];exact suB)
 ·repeat(refine wkB ?_;intros)
  exact Zq rfl rfl (fun w hw=>⟨q,rfl,hw.sub suB⟩)
instance ZuS (w0:World)(L:List Blk)(v:Value)(l:List PU)(x y:Int)[h:LstC w0 L v PU rP l]:SpecR prog w0 L 26 [v, .int .i64 x, .int .i64 y] (SlS Zw 9 (flL l x y (l.length-1))) (fun q=>vSl q) (fun q=>mS 35 q) (l.length<=1048576):=⟨fun hp w hw=>Zic v l x y w (h.out w hw) hp⟩
end
section
def wl (n:Int):Rl:=rl (n:Rat)
theorem Zva {a b:Int}:ri (wl a)<ri (wl b)↔a<b:=by
 unfold wl
 rw[ZuN]
 exact Rat.intCast_lt_intCast
theorem Zc4 {n:Int}(h:M (n:Rat)<=1):RlB KR (wl n):=(ZrA h (Wl _)).mono (by decide)
def kI0 :Za:=⟨wl 0,wl 4,false,true⟩
def kI1 :Za:=⟨wl 4,wl 6,false,false⟩
def kI2 :Za:=⟨wl 6,wl 9,true,false⟩
def exU :List PU:=[⟨kI0,1⟩,⟨kI1,2⟩,⟨kI2,1⟩]
def exT :List UL:=[⟨kI0,1⟩,⟨kI1,2⟩,⟨kI2,1⟩]
theorem Zsy :mpN toU exU exU.length=exT:=rfl
theorem Zc8 :IvOk KR kI0/\IvOk KR kI1/\IvOk KR kI2:=⟨⟨Zc4 (by decide),Zc4 (by decide)⟩,⟨Zc4 (by decide),Zc4 (by decide)⟩,⟨Zc4 (by decide),Zc4 (by decide)⟩⟩
theorem kx :ri (wl 0)<ri (wl 2)/\ri (wl 2)<ri (wl 3)/\ri (wl 3)<ri (wl 4)/\ri (wl 4)<ri (wl 6)/\ri (wl 6)<ri (wl 9):=by
 simp only[Zva]
 decide
theorem ZsH :Cut exT (wl 4) 0:=by
 obtain⟨h1,h2,h3,h4,h5⟩:=kx
 refine⟨Wm _,fun j hj=>by omega,fun j _ hj=>?_⟩
 have hj':j<3:=hj
 rcases(by omega:j=0\/j=1\/j=2) with rfl|rfl|rfl
 ·show ri (wl 4)<=ri (wl 4);grind
 ·show ri (wl 4)<=ri (wl 6);grind
 ·show ri (wl 4)<=ri (wl 9);grind
theorem Zuj :AtR exT (ri (wl 4)) (some 2):=by
 obtain⟨h1,h2,h3,h4,h5⟩:=kx
 refine⟨.inl ⟨1,by decide, ?_,fun j hj=>?_,fun j hj=>?_,rfl⟩⟩
 ·show(ri (wl 4)<ri (wl 4)\/(ri (wl 4)=ri (wl 4)/\false=false))/\(ri (wl 4)<ri (wl 6)\/_)
  exact⟨.inr ⟨rfl,rfl⟩, .inl h4⟩
 ·obtain rfl:j=0:=by omega
  rintro⟨-,h|h⟩
  ·exact absurd (show ri (wl 4)<ri (wl 4) from h) (by grind)
  ·cases (show true=false from h.2)
 ·rcases(by omega:j=0\/j=1) with rfl|rfl
  ·show ri (wl 0)<=ri (wl 4);grind
  ·show ri (wl 4)<=ri (wl 4);grind
theorem Zvh :flL exU 1 2 2=[wl 4]:=by decide
theorem Zt0 :cmI' (lbL exU)=[1,2,1]:=by decide
theorem Zpu :whL exU 1 exU.length=[kI0,kI2]:=by decide
theorem Zko {i:Za}(h:IvOk KR i):BdOk (bdF i)/\BdOk (bdL i):=⟨⟨h.a⟩,⟨h.b⟩⟩
theorem Zut :SwOk [kI0,kI2] []:=⟨by decide,fun i hi=>by
 simp only[Ww,List.not_mem_nil,or_false] at hi
 rcases hi with rfl|rfl
 ·exact Zko Zc8.1
 ·exact Zko Zc8.2.2,fun i hi=>by cases hi⟩
theorem Zmr :Sep [kI0,kI2]:=by
 obtain⟨h1,h2,h3,h4,h5⟩:=kx
 refine⟨List.pairwise_cons.2 ⟨fun j hj=>?_,List.pairwise_singleton _ _⟩,fun i hi=>?_⟩
 ·rw[Wo] at hj
  rw[hj]
  exact .inl h4
 ·simp only[Ww,List.not_mem_nil,or_false] at hi
  rcases hi with rfl|rfl
  ·exact .inl (show ri (wl 0)<ri (wl 4) by grind)
  ·exact .inl h5
theorem ivEq {i j:Za}(hi:IvOk KR i)(hj:IvOk KR j)(h:absI i=absI j):i=j:=by
 obtain⟨a,b,c,d⟩:=i
 obtain⟨a',b',c',d'⟩:=j
 injection h with e1 e2 e3 e4
 have e1':=(Zcr hi.a.o hj.a.o).1 e1
 have e2':=(Zcr hi.b.o hj.b.o).1 e2
 simp only at e1' e2' e3 e4
 rw[e1',e2',e3,e4]
theorem sepEq {l m:List Za}(hl:Sep l)(hm:Sep m)(kl:∀i∈l,IvOk KR i)(km:∀i∈m,IvOk KR i)(H:∀t,HoldP l t↔HoldP m t):l=m:=by
 have h:=hl.uniq hm H
 have hlen:l.length=m.length:=by
  have:=congrArg List.length h
  simpa using this
 refine List.ext_getElem hlen fun j h1 h2=>ivEq (kl _ (List.getElem_mem h1)) (km _ (List.getElem_mem h2)) ?_
 have:=congrArg (fun z:List (GU Ri Unit)=>z[j]?) h
 simpa [List.getElem?_eq_getElem h1,List.getElem?_eq_getElem h2] using this
theorem ZqU :swpR kpU [kI0,kI2] []=[kI0,kI2]:=by
 have hle:∀i∈[kI0,kI2],bLe (bdF i) (bdL i):=fun i hi=>(Zmr.v i hi).le
 obtain⟨h1,h2,h3⟩:=ZhF (kp:=kpU) rfl hle (fun i (hi:i∈[])=>by cases hi)
 have hk:∀i∈[kI0,kI2],IvOk KR i:=fun i hi=>by
  simp only[Ww,List.not_mem_nil,or_false] at hi
  rcases hi with rfl|rfl
  ·exact Zc8.1
  ·exact Zc8.2.2
 have hb:=Zj3 (Pb:=fun b=>RlB KR b.at_) kpU (is:=[kI0,kI2]) (js:=[]) (fun i hi=>⟨(hk i hi).a,(hk i hi).b⟩) (fun i hi=>by cases hi)
 refine sepEq ⟨h2,h3⟩ Zmr (fun i hi=>⟨(hb i hi).1,(hb i hi).2⟩) hk (fun t=>?_)
 unfold HoldP
 rw[h1 t]
 simp[kpU]
def nmU :List PU:=[⟨⟨wl 2,wl 3,true,true⟩,5⟩,⟨⟨wl 0,wl 2,false,false⟩,5⟩]
def nmT :List UL:=[⟨⟨wl 2,wl 3,true,true⟩,5⟩,⟨⟨wl 0,wl 2,false,false⟩,5⟩]
theorem ZpM :∀u∈nmT,UIn u:=fun u hu=>by
 simp only[nmT,Ww,List.not_mem_nil,or_false] at hu
 rcases hu with rfl|rfl
 ·exact⟨⟨Zc4 (by decide),Zc4 (by decide)⟩⟩
 ·exact⟨⟨Zc4 (by decide),Zc4 (by decide)⟩⟩
theorem Znr :UVal nmT:=⟨ZpM,fun u hu=>by
 obtain⟨h1,h2,h3,h4,h5⟩:=kx
 simp only[nmT,Ww,List.not_mem_nil,or_false] at hu
 rcases hu with rfl|rfl
 ·exact .inl h2
 ·exact .inl h1⟩
theorem Zmo :(nmT.map absU).Pairwise Dis:=by
 refine List.pairwise_cons.2 ⟨fun j hj=>?_,List.pairwise_singleton _ _⟩
 rw[List.map_cons,List.map_nil,Wo] at hj
 subst hj
 rintro t ⟨⟨h1, -⟩, -,h2⟩
 have h1':ri (wl 2)<t:=h1.elim id (fun h=>by cases (show true=false from h.2))
 have h2':t<ri (wl 2)\/t=ri (wl 2):=h2.imp id (·.1)
 grind
theorem Zs7 :(nrmR nmT).map absU=[⟨ri (wl 0),ri (wl 3),false,true,5⟩]:=by
 obtain⟨h1,h2,h3,h4,h5⟩:=kx
 obtain⟨k1,k2⟩:=Zh4 Znr Zmo
 refine k1.uniq (NF.one (.inl (show ri (wl 0)<ri (wl 3) by grind)) (fun h=>absurd (show ri (wl 0)=ri (wl 3) from h) (by grind))) (fun t v=>?_)
 rw[k2 t v]
 show Has [absU _,absU _] t v↔_
 rw[Zam,ZcI,ZcI]
 show((((ri (wl 2)<t\/(ri (wl 2)=t/\true=false))/\(t<ri (wl 3)\/(t=ri (wl 3)/\true=false)))/\(5:Int)=v)\/(((ri (wl 0)<t\/(ri (wl 0)=t/\false=false))/\(t<ri (wl 2)\/(t=ri (wl 2)/\false=false)))/\(5:Int)=v))↔((ri (wl 0)<t\/(ri (wl 0)=t/\false=false))/\(t<ri (wl 3)\/(t=ri (wl 3)/\true=false)))/\(5:Int)=v
 grind
theorem ZsR :nrmE nmT=0:=(ZmZ Znr).2 Zmo
theorem Zr1 :∃u:PU,mNorm nmU=[u]/\u.In.OpenTo=true:=by
 have h:=Zs7
 have hn:mNorm nmU=mpN ofU (nrmR nmT) (nrmR nmT).length:=rfl
 rw[hn]
 generalize nrmR nmT=l at h
 have hlen:l.length=1:=by
  have:=congrArg List.length h
  simpa using this
 obtain⟨u,rfl⟩:=List.length_eq_one_iff.1 hlen
 have h1:absU u=_:=(List.cons.inj h).1
 exact⟨ofU u,rfl,congrArg GU.ob h1⟩
theorem Zqq :PFine exU:=by
 obtain⟨h1,h2,h3,h4,h5⟩:=kx
 have a4:ri (wl 0)<ri (wl 4):=by grind
 refine⟨⟨fun u hu=>?_,fun u _ _=>rfl, ?_⟩,fun u hu=>?_,fun u hu=>?_,by decide⟩
 ·simp only[exU,List.map_cons,List.map_nil,Ww,List.not_mem_nil,or_false] at hu
  rcases hu with rfl|rfl|rfl
  ·exact .inl a4
  ·exact .inl h4
  ·exact .inl h5
 ·refine List.pairwise_cons.2 ⟨fun j hj=>?_,List.pairwise_cons.2 ⟨fun j hj=>?_,List.pairwise_singleton _ _⟩⟩
  ·simp only[List.map_cons,List.map_nil,Ww,List.not_mem_nil,or_false] at hj
   rcases hj with rfl|rfl
   ·exact⟨.inr ⟨rfl, .inl rfl⟩,fun _ _ _=>(by decide:(1:Int)≠2),fun _ _=>(by decide:(1:Int)≠2),fun _ _=>(by decide:(1:Int)≠2)⟩
   ·exact⟨.inl h4,fun h=>absurd (show ri (wl 4)=ri (wl 6) from h) (by grind),fun h=>absurd (show ri (wl 4)=ri (wl 6) from h) (by grind),fun h=>absurd (show ri (wl 4)=ri (wl 6) from h) (by grind)⟩
  ·simp only[List.map_cons,List.map_nil,Ww,List.not_mem_nil,or_false] at hj
   subst hj
   exact⟨.inr ⟨rfl, .inr rfl⟩,fun _ _ _=>(by decide:(2:Int)≠1),fun _ _=>(by decide:(2:Int)≠1),fun _ _=>(by decide:(2:Int)≠1)⟩
 ·simp only[exU,Ww,List.not_mem_nil,or_false] at hu
  rcases hu with rfl|rfl|rfl
  ·exact⟨Zc8.1⟩
  ·exact⟨Zc8.2.1⟩
  ·exact⟨Zc8.2.2⟩
 ·simp only[exU,Ww,List.not_mem_nil,or_false] at hu
  rcases hu with rfl|rfl|rfl <;> exact⟨rfl,rfl⟩
end
section
theorem divInt1 (n:Int):Rat.divInt n 1=(n:Rat):=by
 rw[Rat.divInt_eq_div]
 have h:((1:Int):Rat)=1:=rfl
 rw[h]
 grind
instance Zwt (n:Int):SpecC prog 61 [.int .i64 n] (vR (wl n)) (-9223372036854775808<=n/\n<=9223372036854775807):=⟨fun hp w=>by
 have p1:(1:Int)≠0/\(-9223372036854775808<=n/\n<=9223372036854775807)/\(-9223372036854775808<=(1:Int)/\(1:Int)<=9223372036854775807):=by omega
 refine Zb Tryz.func61 rfl Tryz.ntmps61 rfl ?_
 repeat(first|(refine wkB ?_;intros)|(refine wnM ?_ ?_;(focus(exact p1));intros))
 simp only[divInt1]
 exact rtC rfl rfl⟩
set_option maxHeartbeats 8000000 in
theorem ZhB (w:World):Calls prog 60 [].toArray w (RetM (SlS rP 21 exU) (fun s=>vSl s) (fun s=>mS 46 s) w):=by
 refine Zb Tryz.func60 rfl Tryz.ntmps60 rfl ?_
 repeat(first|(refine wkB ?_;intros)|(refine wnM ?_ ?_;(focus(decide));intros))
 rename_i b
 exact Zq rfl rfl (fun w hw=>⟨SlS.at_ b 3 [] ⟨Wl _,rfl⟩ (by decide),rfl,hw⟩)
instance Zuz (w0:World)(L:List Blk):SpecR prog w0 L 60 [] (SlS rP 21 exU) (fun s=>vSl s) (fun s=>mS 46 s) True:=⟨fun _ w _=>ZhB w⟩
instance lst2 {α:Type}{enc:α->Array Value}{k:Nat}{x y:α}{sp:List Value}[he:EncC enc k](w0:World)(L:List Blk)(b c:Nat)(T:TypeId)[h:AtC w0 L b (row enc [x,y] sp) T]:LstC w0 L (.slice (some ⟨b,0,none⟩) 2 (c+2)) α enc [x,y]:=⟨fun w hw=>by
 obtain⟨fz,hb⟩:=h.out w hw
 exact ZbO (c:=c+2) hb (Nat.le_add_left 2 c)⟩
set_option maxHeartbeats 16000000 in
theorem ZhA (w:World):Calls prog 13 [].toArray w (Ret (.bool true) w):=by
 have i1:CtC (mpN toU exU exU.length) (wl 4) 0:=⟨ZsH⟩
 have i2:AtC' (mpN toU exU exU.length) (ri (wl 4)) (some 2):=⟨Zuj⟩
 have hk:=Zc8
 have p1:exU.length<=1048576/\RlB KR (wl 4)/\∀u∈mpN toU exU exU.length,IvOk BQ u.In:=⟨by decide,Zc4 (by decide),fun u hu=>by
  rw[Zsy] at hu
  simp only[exT,Ww,List.not_mem_nil,or_false] at hu
  rcases hu with rfl|rfl|rfl
  ·exact hk.1
  ·exact hk.2.1
  ·exact hk.2.2⟩
 have p2:exU.length<=1048576/\SwOk (whL exU 1 exU.length) []:=⟨by decide,by rw[Zpu];exact Zut⟩
 have p3:exU.length<=1048576:=by decide
 have p4:NrP (mpN toU nmU nmU.length)/\∀u∈mpN toU nmU nmU.length,UIn u:=⟨.inl (by rw[ZM];decide),ZpM⟩
 have p5:=Zqq
 refine Zb Tryz.func13 rfl Tryz.ntmps13 rfl ?_
 repeat(first|(refine wkB ?_;intros)|(refine wnM ?_ ?_;(focus(first|exact p1|exact p2|exact p3|exact p4|exact p5|decide));intros))
 rename_i sx sw sf bn sn
 obtain⟨u,hu,ho⟩:=Zr1
 have hwh:swpR kpU (whL exU 1 exU.length) []=[kI0,kI2]:=by rw[Zpu,ZqU]
 obtain⟨sn',f1,f2⟩:=SlS.turn 46 hu sn
 obtain⟨sw',f3,f4⟩:=SlS.turn 37 hwh sw
 obtain⟨sf',f5,f6⟩:=SlS.turn 35 (show flL exU 1 2 (exU.length-1)=[wl 4] from Zvh) sf
 have he:nrmE (mpN toU nmU nmU.length)=0:=ZsR
 rw[show vSl sn=vSl sn' from f1.symm,show mS 46 sn=mS 46 sn' from f2.symm]
 simp only[show nrmE (mpN toU [⟨⟨wl 2,wl 3,true,true⟩,5⟩,⟨⟨Zai,wl 2,false,false⟩,5⟩] ([⟨⟨wl 2,wl 3,true,true⟩,5⟩,⟨⟨Zai,wl 2,false,false⟩,5⟩]:List PU).length)=0 from ZsR,<-f3,<-f4,<-f5,<-f6,Option.getD_some,Option.isSome_some]
 rcases sx.cases 46 with⟨y0,y1,y2⟩|⟨bx,cx,spx,hcx,y1,y2,yne⟩
 ·cases y0
 rcases sw'.cases 37 with⟨z0,z1,z2⟩|⟨bw,cw,spw,hcw,z1,z2,zne⟩
 ·cases z0
 rcases sf'.cases 35 with⟨x0,x1,x2⟩|⟨bf,cf,spf,hcf,x1,x2,xne⟩
 ·cases x0
 rcases sn'.cases 46 with⟨v0,v1,v2⟩|⟨bm,cm,spm,hcm,v1,v2,vne⟩
 ·cases v0
 simp only[y1,y2,z1,z2,x1,x2,v1,v2,Wf,Wg]
 have hLx:∀L [h:AtC w L bx (row rP exU spx) 46],LstC w L (.slice (some ⟨bx,0,none⟩) exU.length cx) PU rP exU:=fun L h=>⟨fun w' hw'=>by
  obtain⟨fz,hb⟩:=h.out w' hw'
  exact ZbO (c:=cx) hb hcx.1⟩
 have g1:(1:Int)<([kI0,kI2].length:Nat):=by decide
 have g2:(2:Int)<(exU.length:Nat):=by decide
 have g3:(0:Int)<([wl 4].length:Nat):=by decide
 have g4:(0:Int)<([u].length:Nat):=by simp
 have d1:((([kI0,kI2]:List Za).length:Nat):Int)=2:=rfl
 have d2:gi [kI0,kI2] 1=(gi exU 2).In:=rfl
 have d3:((([wl 4]:List Rl).length:Nat):Int)=1:=rfl
 have d4:gi [wl 4] 0=wl 4:=rfl
 have d5:((([u]:List PU).length:Nat):Int)=1:=rfl
 have d6:(gi [u] 0).In.OpenTo=true:=ho
 have d7:(((cmI' (lbL exU)).length:Nat):Int)=3:=by rw[Zt0];rfl
 (refine ZC (.v [0,1,2,3,4,5,6,7,8,9,10,11,12,13,14,15,16,17,18,19,20,21,22,23,24,25,26,27,28,29,30,31,32,33,34,35,36,37,38,39,40,41,42,43,44,45,46,47,48,49,50,51,52,53,54] (.e1 55 (.v [56,57,58] (.e1 59 (.fin))))) ([⟨bm,row rP [u] spm,46⟩,⟨bf,row Zw [wl 4] spf,35⟩,⟨bw,row rI [kI0,kI2] spw,37⟩,⟨bx,row rP exU spx,46⟩]) (h:=?_);refine wkX ?_)
 (repeat(first|refine wkH ?_|(refine tC rfl rfl ?_ ?_;focus(first|exact p5|decide))))
 try simp only[Wc (rfl:(0:Int)=0)]
 (repeat(first|refine wkH ?_|(refine tC rfl rfl ?_ ?_;focus(first|exact p5|decide))))
 try simp only[Wc (rfl:(2:Int)=2)]
 (repeat(first|refine wkH ?_|(refine tC rfl rfl ?_ ?_;focus(first|exact p5|decide))))
 try simp only[Wc d1]
 (repeat(first|refine wkH ?_|(refine tC rfl rfl ?_ ?_;focus(first|exact p5|decide))))
 try simp only[Wc d2]
 (repeat(first|refine wkH ?_|(refine tC rfl rfl ?_ ?_;focus(first|exact p5|decide))))
 try simp only[Wc d3]
 (repeat(first|refine wkH ?_|(refine tC rfl rfl ?_ ?_;focus(first|exact p5|decide))))
 try simp only[Wc d4]
 (repeat(first|refine wkH ?_|(refine tC rfl rfl ?_ ?_;focus(first|exact p5|decide))))
 try simp only[Wc d5]
 (repeat(first|refine wkH ?_|(refine tC rfl rfl ?_ ?_;focus(first|exact p5|decide))))
 try simp only[d6]
 (repeat(first|refine wkH ?_|(refine tC rfl rfl ?_ ?_;focus(first|exact p5|decide))))
 repeat(first|(refine wkT ?_;intros)|(refine tC rfl rfl ?_ ?_;focus(exact p3))|(refine uC rfl rfl ?_ ?_;focus(exact p3))|(refine eN rfl rfl ?_ ?_;(focus(exact p3));intro _;(try simp only[Wf,Wg,Wh])))
 try simp only[Wc d7]
 repeat(refine wkT ?_;intros)
 repeat(refine wkB ?_;intros)
 exact rtT rfl rfl
instance Zvx :SpecC prog 13 [] (.bool true) True:=⟨fun _ w=>ZhA w⟩
end
end Go.Vt
namespace Go.Vt
open Go.RowKit Go.Proofs
open Go.Proofs.Tryz (prog)
section
variable {α : Type} {enc : α -> Array Value} {k : Nat} {xs : List α}
def vO0 :Option (Nat×Nat×List Value)->Value
 |none=> .slice none 0 0
 |some t=> .slice (some ⟨t.1,0,none⟩) 0 t.2.1
def vE (s:SlS enc k xs):Value:=vO0 s.s
instance ZCt {P:Program}{w0:World}{n:Nat}{L:List Blk}{E:Env}{T e sz:Nat}{x z1:Operand}{s:SlS enc k xs}[hx:IsC (evl E x) (vSl s)][hy:IsC (evl E z1) (.int .i64 0)][h:UndC P T (.slice e)][hs:SizeC P e sz]:YlC P w0 n L E (.slice T x none (some z1) none) (vE s):=by
 obtain⟨s,h1,h2⟩:=s
 have hy':IsC (evl E z1) (.int .i64 ((0:Nat):Int)):=hy
 cases s with
 |none=>
  have hx':IsC (evl E x) (.slice none 0 0):=by
   have e:xs=[]:=h1.1 rfl
   subst e
   exact hx
  exact⟨(ZjC (k:=0) (c:=0) (l:=0) (p:=none)).out ⟨Wl _,Wl _⟩⟩
 |some t=>
  have hx':IsC (evl E x) (.slice (some ⟨t.1,0,none⟩) xs.length t.2.1):=hx
  exact⟨(ZjC (k:=0) (c:=t.2.1) (l:=xs.length) (p:=some ⟨t.1,0,none⟩)).out ⟨Wm _,(h2 t rfl).1⟩⟩
instance lstE (w0:World)(L:List Blk)(s:SlS enc k xs):LstC w0 L (vE s) α enc []:=⟨fun w hw=>by
 obtain⟨s,h1,h2⟩:=s
 cases s with
 |none=>exact⟨.inl ⟨rfl,rfl⟩⟩
 |some t=>exact⟨.inr ⟨_,_,rfl,Wm _,fun i f k u hi=>by cases hi⟩⟩⟩
end
structure LifP (op:Int)(a b:List PU):Prop where
 o:op=1\/op=2\/op=3\/op=4\/op=5
 a:MvP a
 b:MvP b
instance ZwG (w0:World)(L:List Blk)(op:Int)(v1 v2:Value)(a b:List PU)[h1:LstC w0 L v1 PU rP a][h2:LstC w0 L v2 PU rP b]:SpecR prog w0 L 46 [.int .i64 op,v1,v2] (SlS rP 21 (lfR op a b)) (fun q=>vSl q) (fun q=>mS 46 q) (LifP op a b):=⟨fun hp w hw=>ZiS op v1 v2 a b w hp.o (h1.out w hw) (h2.out w hw) hp.a.sh hp.b.sh (Zfn hp.a.sh hp.b.sh) hp.a.f hp.b.f⟩
theorem Zlx {op:Int}{a b:List PU}(ha:MvP a)(hb:MvP b):(lfR op a b).length<=1048576:=by
 have h1:=ZhQ ha.sh hb.sh (Zfn ha.sh hb.sh)
 have h2:=Zel op a b (celL a b) (celL a b).length
 have h3:=Zek (lfU op a b) (lfU op a b).length
 have h4:(lfU op a b).length=(lfS op a b (celL a b) (celL a b).length).length:=rfl
 unfold lfR
 omega
set_option maxHeartbeats 32000000 in
theorem lcombines_spec (v1 v2:Value)(l1 l2:List St)(w:World)(hv1:ArgS w v1 rSt l1)(hv2:ArgS w v2 rSt l2)(hl1:l1.length<=9223372036854775807)(hl2:l2.length<=9223372036854775807)(hk1:∀x∈l1,StOk x)(hk2:∀x∈l2,StOk x):
  Calls prog 11 [v1,v2].toArray w (Ret (.bool true) w):=by
 have:=ArgC.mk hv1
 have:=ArgC.mk hv2
 have ha:=Zki hk1
 have hb:=Zki hk2
 refine Zb Tryz.func11 rfl Tryz.ntmps11 rfl ?_
 repeat(first|(refine wkB ?_;intros)|(refine wnM ?_ ?_;(focus(first|exact⟨hl1,hk1⟩|exact⟨hl2,hk2⟩));intros))
 rename_i r1 r2
 generalize movV l1=a at*
 generalize movV l2=b at*
 have na:=ha.nf.len
 have nb:=hb.nf.len
 have cW:=Zfs gW ha hb
 have cS:=Zfs gS ha hb
 have cM:=(ZmE ha).1
 have p5:LifP 5 a []:=⟨by decide,ha,MvP.nil⟩
 have p1:LifP 1 a b:=⟨by decide,ha,hb⟩
 have p3:LifP 3 a b:=⟨by decide,ha,hb⟩
 have e5:=Zsr ha
 have e1:=ZsC ha hb
 have e3:=Zmx ha hb
 have n5:=Zlx (op:=5) ha MvP.nil
 have n1:=Zlx (op:=1) ha hb
 have n3:=Zlx (op:=3) ha hb
 have q5:(mmR a).length<=1048576/\(lfR 5 a []).length<=1048576:=⟨by rw[e5];exact n5,n5⟩
 have q1:(mcR gW a b).length<=1048576/\(lfR 1 a b).length<=1048576:=⟨by rw[e1];exact n1,n1⟩
 have q3:(mcR gS a b).length<=1048576/\(lfR 3 a b).length<=1048576:=⟨by rw[e3];exact n3,n3⟩
 have pW:=cW.1
 have pS:=cS.1
 obtain⟨pC,pB⟩:=ZqN ha hb
 rw[<-e3] at pB
 repeat(first|(refine wkB ?_;intros)|(refine wnM ?_ ?_;(focus(exact pS));intros))
 rename_i r3
 (refine ZC (.v [0,1,2,4,5,6] (.e1 3 (.e1 7 (.e1 8 (.v [9,10,11,12,14,15] (.e1 13 (.e1 16 (.e1 17 (.v [18,19,20,21,22] (.e1 23 (.e1 24 (.v [25,26,27,28,30] (.e1 29 (.e1 31 (.v [32] (.e1 33 (.fin))))))))))))))))) (([]:List Blk)) (h:=?_);refine wkX ?_)
 (repeat(refine wkH ?_))
 repeat(first|(refine wkT ?_;intros)|(refine tC rfl rfl ?_ ?_;focus(first|exact cM|exact p5|exact q5))|(refine uC rfl rfl ?_ ?_;focus(first|exact cM|exact p5|exact q5))|(refine eN rfl rfl ?_ ?_;(focus(first|exact cM|exact p5|exact q5));intro _;(try simp only[Wf,Wg,Wh])))
 simp only[Wc e5]
 repeat(first|(refine wkT ?_;intros)|(refine tC rfl rfl ?_ ?_;focus(first|exact pW|exact p1|exact q1))|(refine uC rfl rfl ?_ ?_;focus(first|exact pW|exact p1|exact q1))|(refine eN rfl rfl ?_ ?_;(focus(first|exact pW|exact p1|exact q1));intro _;(try simp only[Wf,Wg,Wh])))
 simp only[Wc e1]
 repeat(first|(refine wkT ?_;intros)|(refine tC rfl rfl ?_ ?_;focus(first|exact p3|exact q3))|(refine uC rfl rfl ?_ ?_;focus(first|exact p3|exact q3))|(refine eN rfl rfl ?_ ?_;(focus(first|exact p3|exact q3));intro _;(try simp only[Wf,Wg,Wh])))
 simp only[Wc e3]
 repeat(first|(refine wkT ?_;intros)|(refine tC rfl rfl ?_ ?_;focus(exact pC))|(refine uC rfl rfl ?_ ?_;focus(exact pC))|(refine eN rfl rfl ?_ ?_;(focus(exact pC));intro _;(try simp only[Wf,Wg,Wh])))
 rename_i s
 obtain⟨s1,s2⟩:=s
 dsimp only
 simp only[List.append_assoc]
 repeat(first|(refine wkT ?_;intros)|(refine tC rfl rfl ?_ ?_;focus(exact pB))|(refine uC rfl rfl ?_ ?_;focus(exact pB))|(refine eN rfl rfl ?_ ?_;(focus(exact pB));intro _;(try simp only[Wf,Wg,Wh])))
 repeat(refine wkB ?_;intros)
 exact rtT rfl rfl
end Go.Vt
namespace Go.Proofs.YtcgkgdgpdpihmaaGreatDoor
open Go.ChangeShapes Go.WideShapes Go.ChangeAt Go.RowKit Go.Deep
def comArgs :Array Value:=#[.slice none 0 0, .slice none 0 0]
theorem ZqG (os:Os)(args:Array Value):laidMet Tryz.prog Rows.movinglabelCombinesRow.laid ((laidWorld os).forCall (fun _ _=>0) ⟨#[],args,[]⟩).memory:=
 laidMet_of_run3 8 (by kernel_rfl) (by kernel_rfl) (by kernel_rfl)
theorem ZnB (os:Os){H:Type}(enc:TypeId×Value->H):∃places,DataW.whole enc Tryz.prog ((laidWorld os).forCall (fun _ _=>0) ⟨#[],comArgs,[]⟩).memory Tryz.f11.params.toList Rows.movinglabelCombinesSpec.vars false comArgs.toList 8=some ([.nil, .nil],[],places):=
 ⟨[],by kernel_rfl⟩
theorem ZhK (H:Type)(enc:TypeId×Value->H)(W:World)(base:Nat)(args:Array Value)(ds gs:List (DataW H))(before:List MemPlace)
  (hval:∀(j:Nat) t v,Tryz.f11.params[j]? =some t->args[j]? =some v->Value.okWide Tryz.prog W .any base t v)
  (hW:DataW.Whole enc Tryz.prog Tryz.f11.params.toList Rows.movinglabelCombinesSpec.vars false W args.toList ds gs before):
  Calls Tryz.prog 11 args W fun e W'=>∃v,e= .returned v/\Rows.movinglabelCombinesSpec.post enc Tryz.prog Tryz.f11 false true false false W args v W':=by
 have hW':=hW
 obtain⟨p,q,hA0,hV,rfl,hfz,hnd⟩:=hW
 have hA:DataW.TrodAll enc Tryz.prog W 0 (fun _=>true) true Tryz.f11.params.toList args.toList ds p:=hA0
 rw[Tryz.params11] at hA hval
 obtain⟨v0,vs0,d0,ds0,p0,q0,hargs0,rfl,rfl,h0,r0⟩:=trodAll_cons hA
 obtain⟨v1,vs1,d1,ds1,p1,q1,hargs1,rfl,rfl,h1,r1⟩:=trodAll_cons r0
 subst hargs1
 obtain⟨rfl,rfl,rfl⟩:=trodAll_nil r1
 obtain rfl:args=#[v0,v1]:=by cases args;simp_all
 obtain⟨rfl,rfl⟩:=trodVars_none hV
 clear hA0
 simp only[List.append_nil] at hW'
 have hlt:∀x∈p0++(p1),x.block<W.heap.size:=fun x hx=>by simpa using hW'.lt x hx
 have h0k:=h0
 have h1k:=h1
 obtain⟨fuel0,hf0⟩:=h0
 obtain⟨ws0,hws0,hok0,hlen0⟩:=ZhI (okWide_slice Tryz.underlying23 (hval 0 23 v0 rfl rfl)) hf0
 obtain⟨fuel1,hf1⟩:=h1
 obtain⟨ws1,hws1,hok1,hlen1⟩:=ZhI (okWide_slice Tryz.underlying23 (hval 1 23 v1 rfl rfl)) hf1
 refine(Go.Vt.lcombines_spec v0 v1 ws0 ws1 W hws0 hws1 hlen0 hlen1 hok0 hok1).mono fun e' W' ⟨he',⟨hb,_⟩⟩=>?_
 subst he'
 exact⟨_,rfl,⟨_,_,_,[],_,[],hW',trodAll_mk1 (shut_bool Tryz.underlying4 _),trodAll_mk2 (Below.trod rlaidOut (by kernel_rfl) (of_decide_eq_true (by kernel_rfl)) h0k hb (fun x hx=>hlt x (List.mem_append_left _ hx))) (Below.trod rlaidOut (by kernel_rfl) (of_decide_eq_true (by kernel_rfl)) h1k hb (fun x hx=>hlt x (List.mem_append_right _ (hx)))),(by first|rfl|(simp;done)),hb.frame _,fun h=>by cases h⟩⟩
theorem com_lifted (os:Os)(started:os.Started)(H:Type)(enc:TypeId×Value->H)(F:Stop.Interp):
  ReturnsInHanded {} Tryz.checked os 11 .any ((OpenSpec.ofChange Rows.movinglabelCombinesSpec).preRow enc Tryz.prog Tryz.f11 Rows.movinglabelCombinesRow.domain false Rows.movinglabelCombinesRow.laid) (((OpenSpec.ofChange Rows.movinglabelCombinesSpec).at F).post enc Tryz.prog Tryz.f11 false true false false):=by
 obtain⟨places,hx⟩:=ZnB os enc
 refine returnsInHanded_of_row (C:=Tryz.checked) (s:=OpenSpec.ofChange Rows.movinglabelCombinesSpec) rown started (by kernel_rfl) Tryz.func11
  (witness_row_at (enc:=enc) (C:=Tryz.checked) false (laidWorld os) comArgs rfl (by kernel_rfl) (by kernel_rfl) (by kernel_rfl)
   (OpenSpec.preRow_of_cond 8 hx (by kernel_rfl) (fun k hk=>by cases hk) (by kernel_rfl) (ZqG os _))) ?_
 intro W base args ds gs before hval hW _ _ _ _ _ _
 exact ZhK H enc W base args ds gs before hval hW
end Go.Proofs.YtcgkgdgpdpihmaaGreatDoor
