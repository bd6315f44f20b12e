/- For any moving label, any fraction and any instant, Shift moves the labels in time, and back by the opposite fraction. Conditions: none. (part 25 of 28.) Conditions: those that each statement names. -/
import Derived.Test.YtcgkgdgpdpihmaaGreatDoorProg
import Derived.Test.YtcgkgdgpdpihmaaGreatDoorKS19
import Derived.Test.YtcgkgdgpdpihmaaGreatDoorKS20
import Derived.Test.YtcgkgdgpdpihmaaGreatDoorKS21
import Derived.Test.YtcgkgdgpdpihmaaGreatDoorKS22
import Derived.Test.YtcgkgdgpdpihmaaGreatDoorKS23
import Derived.Test.YtcgkgdgpdpihmaaGreatDoorKS24
set_option linter.unusedSimpArgs false
set_option linter.unusedVariables false
set_option maxHeartbeats 2000000
set_option maxRecDepth 100000
namespace Go.Vt
open Go.RowKit Go.Proofs
open Go.Proofs.Tryz (prog)
section
theorem Zkn (v:Value)(us:List UL)(w:World)(hv:ArgS w v rU us)(hn:us=[]->v= .slice none 0 0)(hl:NrP us)(hok:∀u∈us,UIn u):
  Calls prog 136 [vLabels,v].toArray w (RetM (SlS rU 21 (nrmR us)) (fun s=>vSl s) (fun s=>mS 145 s) w):=by
 have hN:∀L,LstN w L v UL rU us:=fun L=>⟨fun w' hw'=>hv.to hw'.ext,hn⟩
 refine Zb Tryz.func136 rfl Tryz.ntmps136 rfl ?_
 repeat(first|(refine wkB ?_;intros)|(refine wnM ?_ ?_;(focus(exact⟨hl,hok⟩));intros))
 rename_i s
 exact ZA rfl rfl (fun w hw=>⟨s,rfl,hw.sub suB⟩)
instance Zww (w0:World)(L:List Blk)(v:Value)(us:List UL)[h:LstN w0 L v UL rU us]:SpecR prog w0 L 136 [vLabels,v] (SlS rU 21 (nrmR us)) (fun s=>vSl s) (fun s=>mS 145 s) (NrP us/\∀u∈us,UIn u):=⟨fun hp w hw=>Zkn v us w (h.out w hw) h.nil hp.1 hp.2⟩
end
section
abbrev Lb (x:Int):Prop:= -1000<=x/\x<=1000
end
section
def PwU (l:List UL):Prop:=l.Pairwise (fun u w=>bfI u.In w.In)
theorem Zni {us:List UL}(ho:∀u∈us,okI u.In)(hp:PwU us):NoTie us:=fun x hx y hy h1 h2=>by
 have key:∀u w:UL,okI u.In->okI w.In->bfI u.In w.In->leS u w->leS w u->False:=fun u w hu hw hb h1 h2=>by
  unfold leS opn at h1 h2
  unfold bfI at hb
  unfold okI at hu hw
  rcases hf:u.In.OpenFrom <;> rcases hg:w.In.OpenFrom <;> rw[hf] at h1 h2 hu <;> rw[hg] at h1 h2 hb hw <;> simp only[Bool.false_eq_true,if_false,if_true] at h1 h2 <;> grind
 rcases ZhM hp x hx y hy with e|e|e
 ·exact e
 ·exact(key x y (ho x hx) (ho y hy) e h1 h2).elim
 ·exact(key y x (ho y hy) (ho x hx) e h2 h1).elim
theorem Zl8 {us:List UL}(hp:PwU us):(us.map absU).Pairwise Dis:=by
 rw[List.pairwise_map]
 exact hp.imp fun h=>GU.bfr.Dis (show(absU _).bfr (absU _) from h)
end
section
theorem pwQ {l:List PU}(h:NF (l.map absQ)):l.Pairwise (fun u w=>bfI u.In w.In):=(List.pairwise_map.1 h.pw).imp fun e=>e.bf
theorem ZnN {l m:List PU}{K K':Nat}(hl:∀u∈l,IvOk K u.In)(hm:∀u∈m,IvOk K' u.In)(h:l.map absQ=m.map absQ):l=m:=by
 have h1:l.map toU=m.map toU:=ZeS (K:=K) (K':=K') (fun u hu=>by obtain⟨w,hw,rfl⟩:=List.mem_map.1 hu;exact hl w hw) (fun u hu=>by obtain⟨w,hw,rfl⟩:=List.mem_map.1 hu;exact hm w hw) (by rw[List.map_map,List.map_map];exact h)
 have h2:=congrArg (List.map ofU) h1
 rw[List.map_map,List.map_map] at h2
 have e:ofU ∘ toU=id:=funext fun u=>rfl
 rw[e,List.map_id,List.map_id] at h2
 exact h2
theorem pwT {l:List PU}(h:l.Pairwise (fun u w=>bfI u.In w.In)):PwU (l.map toU):=by
 unfold PwU
 rw[List.pairwise_map]
 exact h
theorem Zpv (X:List UL):(mpN ofU X X.length).map absQ=X.map absU:=by
 rw[ZbM,List.map_map]
 rfl
structure MvP (l:List PU):Prop where
 nf:NfP l
 d:DscL l
 f:∀u∈l,Lb u.Label
end
section
noncomputable def shP (q:Rat)(u:PU):PU:=⟨⟨shR u.In.From q,shR u.In.To q,u.In.OpenFrom,u.In.OpenTo⟩,u.Label⟩
theorem ZkN {x:Rl}(h:(rvR x).ok)(q:Rat):(rvR (shR x q)).ok:=RV.sh_ok h q
theorem Zbj {x y:Rl}(hx:(rvR x).ok)(hy:(rvR y).ok){q:Rat}:ri (shR x q)=ri (shR y q)↔ri x=ri y:=by
 rw[ZbQ (ZkN hx q) (ZkN hy q),ZbQ hx hy]
 constructor
 ·intro h
  obtain⟨a,b,c⟩:=x
  obtain⟨a',b',c'⟩:=y
  unfold shR at h
  injection h with h1 h2 h3
  dsimp only at h1 h2 h3
  have:a=a':=by grind
  rw[this,h2,h3]
 ·exact fun h=>by rw[h]
def CnI (u:PU):Prop:=(rvR u.In.From).ok/\(rvR u.In.To).ok
theorem IvOk.cn {K:Nat}{u:PU}(h:IvOk K u.In):CnI u:=⟨h.a.o,h.b.o⟩
theorem sh_ok {u:PU}(h:CnI u)(q:Rat):(absQ (shP q u)).ok↔(absQ u).ok:=by
 show okI (shP q u).In↔okI u.In
 unfold okI shP
 dsimp only
 rw[ZcC h.1 h.2,Zbj h.1 h.2]
theorem Ztw {u w:PU}(h:CnI u)(k:CnI w)(q:Rat):bfI (shP q u).In (shP q w).In↔bfI u.In w.In:=by
 unfold bfI shP
 dsimp only
 rw[ZcC h.2 k.1,Zbj h.2 k.1]
theorem Zrd {u:PU}(h:CnI u){t:Rl}(ht:(rvR t).ok)(q:Rat):memI (shP q u).In (ri (shR t q))↔memI u.In (ri t):=by
 unfold memI shP
 dsimp only
 rw[ZcC h.1 ht,Zbj h.1 ht,ZcC ht h.2,Zbj ht h.2]
theorem Zrn {u w:PU}(h:CnI u)(k:CnI w)(q:Rat)(ha:Adj (absQ u) (absQ w)):Adj (absQ (shP q u)) (absQ (shP q w)):=by
 obtain⟨h1,h2,h3,h4⟩:=ha
 refine⟨ZjE.2 ((Ztw h k q).2 (ZjE.1 h1)),fun e o l=>?_,fun e o=>?_,fun e o=>?_⟩
 ·exact h2 ((Zbj h.2 k.1).1 e) o ((ZcC h.1 h.2).1 l)
 ·exact h3 ((Zbj h.2 k.1).1 e) o
 ·exact h4 ((Zbj h.2 k.1).1 e) ((Zbj h.1 h.2).1 o)
theorem ZtZ {l:List PU}(hc:∀u∈l,CnI u)(h:NF (l.map absQ))(q:Rat):NF ((l.map (shP q)).map absQ):=by
 refine⟨fun u hu=>?_,fun u hu _=>rfl, ?_⟩
 ·obtain⟨w,hw,rfl⟩:=List.mem_map.1 hu
  obtain⟨x,hx,rfl⟩:=List.mem_map.1 hw
  exact(sh_ok (hc x hx) q).2 (h.ok _ (List.mem_map_of_mem hx))
 ·rw[List.pairwise_map,List.pairwise_map]
  exact(List.pairwise_map.1 h.pw).imp_of_mem fun {u w} hu hw a=>Zrn (hc u hu) (hc w hw) q a
theorem ZmN {us:List UL}(hk:∀u∈us,IvOk KN u.In)(ho:∀u∈us,okI u.In)(hp:PwU us)(hl:us.length<=65536):NrP us/\(∀u∈us,UIn u)/\NF ((nrmR us).map absU)/\∀t v,Has ((nrmR us).map absU) t v↔Has (us.map absU) t v:=by
 have hU:∀u∈us,UIn u:=fun u hu=>⟨hk u hu⟩
 have h:=ZhV (us:=us) ⟨hU,fun u hu=>ho u hu⟩ (Zl8 hp)
 exact⟨.inr ⟨hl,Zni ho hp⟩,hU,h.1,h.2⟩
theorem ZgG {a:List PU}(h:NF (a.map absQ))(hk:∀u∈a,IvOk KN u.In)(hl:a.length<=65536):NrP (mpN toU a a.length)/\(∀u∈mpN toU a a.length,UIn u)/\nrmE (mpN toU a a.length)=0/\mNorm a=a:=by
 have hA:=ZbM toU a
 have hka:∀u∈a.map toU,IvOk KN u.In:=fun u hu=>by obtain⟨w,hw,rfl⟩:=List.mem_map.1 hu;exact hk w hw
 have hoa:∀u∈a.map toU,okI u.In:=fun u hu=>by obtain⟨w,hw,rfl⟩:=List.mem_map.1 hu;exact h.ok _ (List.mem_map_of_mem hw)
 have hpw:=pwT (pwQ h)
 obtain⟨r1,r2,r3,r4⟩:=ZmN hka hoa hpw (by rw[Ws];exact hl)
 have hq:(mNorm a).map absQ=(nrmR (a.map toU)).map absU:=by unfold mNorm;rw[hA,Zpv]
 have he:(a.map toU).map absU=a.map absQ:=by rw[List.map_map];rfl
 rw[hA]
 refine⟨r1,r2,(ZgP ⟨r2,hoa⟩).2 (Zl8 hpw),ZnN (K:=KN) (K':=KN) (fun u hu=>?_) hk (by rw[hq];exact r3.uniq h fun z x=>by rw[r4,he])⟩
 have:mNorm a=mpN ofU (nrmR (a.map toU)) (nrmR (a.map toU)).length:=by unfold mNorm;rw[hA]
 rw[this,ZbM] at hu
 obtain⟨w,hw,rfl⟩:=List.mem_map.1 hu
 exact(Zi8 r2 w hw).i
theorem Zn3 (q:Rat)(u:PU):shP (-q) (shP q u)=u:=by
 have e:∀x:Rl,shR (shR x q) (-q)=x:=fun x=>by
  obtain⟨a,b,c⟩:=x
  unfold shR
  dsimp only
  rw[show a+q+ -q=a by grind]
 unfold shP
 dsimp only
 rw[e,e]
theorem ZmJ (q:Rat)(l:List PU):(l.map (shP q)).map (shP (-q))=l:=by
 rw[List.map_map,show shP (-q) ∘ shP q=id from funext (Zn3 q),List.map_id]
theorem Zr6 {l:List PU}(hc:∀u∈l,CnI u){t:Rl}(ht:(rvR t).ok)(q:Rat):atL (l.map (shP q)) (shR t q)=atL l t:=by
 unfold atL
 rw[List.find?_map,Option.map_map]
 have e:(l.find? ((fun u=>inB u.In (shR t q)) ∘ shP q))=l.find? (fun u=>inB u.In t):=by
  induction l with
  |nil=>rfl
  |cons u l ih=>
   have h1:((fun u:PU=>inB u.In (shR t q)) ∘ shP q) u=inB u.In t:=by
    rw[Bool.eq_iff_iff]
    exact Zi5.trans ((Zrd (hc u (.head _)) ht q).trans Zi5.symm)
   rw[List.find?_cons,List.find?_cons,h1,ih (fun w hw=>hc w (.tail _ hw))]
 rw[e]
 rfl
end
section
theorem Zl9 {x:Zh}(h:(rvR x).ok)(h0:x.R≠0):rtQ x.R=none/\0<x.R:=by
 rcases h.k with hk|⟨hk,hn⟩
 ·exact absurd hk h0
 ·refine⟨?_,hk⟩
  cases hr:rtQ x.R with
  |none=>rfl
  |some q=>exact absurd (ZnO hr).2 (hn q)
instance (priority :=high) Zqx (x:Zh):SpecC prog 150 [vR x] (.int .i64 0) (RlB 1048576 x):=⟨fun hp w=>by
 by_cases h0:x.R=0
 ·exact(Zgm x).out ⟨⟨hp.o,Wi hp.p (by decide),Wi hp.r (by decide)⟩,h0⟩ w
 obtain⟨hs,hpos⟩:=Zl9 hp.o h0
 have h3:M x.P<=LQ:=Wi hp.p (by decide)
 have h4:M x.R<=LQ:=Wi hp.r (by decide)
 have h5:M x.R<=1048576:=hp.r
 have hsg:x.R.num.sign=1:=by
  rcases nsg x.R with h|h|h
  ·exact h.2
  ·exact absurd h.1 h0
  ·exact absurd hpos (by grind)
 refine Zb Tryz.func150 rfl Tryz.ntmps150 rfl ?_
 repeat(first|(refine wkB ?_;intros)|(refine wnM ?_ ?_;(focus(first|exact h3|exact h4|exact h5));intros))
 simp only[hsg]
 repeat(first|(refine wkB ?_;intros)|(refine wnM ?_ ?_;(focus(first|exact h3|exact h4|exact h5));intros))
 rw[hs]
 repeat(refine wkB ?_;intros)
 exact rtT rfl rfl⟩
instance (priority :=high) Zso (i:Za):SpecC prog 107 [vIv i] (.int .i64 0) (IvOk 1048576 i/\okI i):=⟨fun hp w=>by
 obtain⟨h0,h2⟩:=hp
 have h1:IvOk KR i:=h0.mono (by decide)
 have hlt:=Zhj.1 h2
 have hn:¬0<=cmpB (bdF i) (bdL i):=fun h=>(ZlF.1 hlt) (Zfq (by omega))
 refine Zb Tryz.func107 rfl Tryz.ntmps107 rfl ?_
 repeat(first|(refine wkB ?_;intros)|(refine wnM ?_ ?_;(focus(first|exact h0.a|exact h0.b));intros))
 (refine jD 6 6 (h:=?_);(repeat(first|refine wkH ?_|(refine tC rfl rfl ?_ ?_;focus(first|exact trivial|exact⟨⟨h1.a⟩,⟨h1.b⟩⟩))));refine Zo ?_;(repeat(refine ZZ ?_;intro _));refine Zr ?_)
 simp only[We hn]
 repeat(refine wkB ?_;intros)
 exact rtT rfl rfl⟩
theorem ZhD (v:Value)(us:List UL)(w:World)(hv:ArgS w v rU us)(hnil:us=[]->v= .slice none 0 0)(h:NF (us.map absU))(hk:∀u∈us,UIn u)(hk2:∀u∈us,IvOk 1048576 u.In)(hn:NrP us)(hl:us.length<=256):
  Calls prog 62 [vLabels,v].toArray w (Ret (.int .i64 0) w):=by
 obtain⟨n1,n2,n3⟩:=Zm0 h hk
 have:=ArgC.mk hv
 obtain⟨p,cp,rfl⟩:=hv.form
 have:∀L,LstN w L (.slice p us.length cp) UL rU us:=fun L=>⟨fun w' hw'=>hv.to hw'.ext,hnil⟩
 refine Zb Tryz.func62 rfl Tryz.ntmps62 rfl ?_
 repeat(refine wkB ?_;intros)
 simp only[We (show¬(256:Int)<us.length by omega)]
 repeat(refine wkB ?_;intros)
 refine Zq (S:=Nat) (fun m=>m<=us.length) (fun m=>[(0,vLabels),(1, .slice p us.length cp),(14, .slice p us.length cp),(15, .int .i64 us.length),(16, .int .i64 (m:Nat))]) (fun _=>[]) (fun m=>us.length-m) 0 (Wm _) sbB slB (fun m hm=>?_)
 repeat(refine wkB ?_;intros)
 refine Zi rfl (fun hc=>?_) (fun hc=>?_)
 ·have hlt:m<us.length:=by have:=Wa hc;omega
  have hne:us≠[]:=fun h0=>by rw[h0] at hlt;simp at hlt
  obtain⟨b1,o1,c1',hv1,hc1,hr1⟩:=hv.blk (k:=20) hne []
  injection hv1 with e1 e2 e3
  subst e1
  subst e3
  have hr1':∀L,RowC w L b1 o1 UL rU us:=fun L=>⟨fun w' hw'=>hr1.out w' (hw'.sub (Wk _))⟩
  have hu:=hk _ (Zy (i:=(m:Int)) (xs:=us) (by omega))
  have ho:=h.ok _ (List.mem_map.2 ⟨_,Zy (i:=(m:Int)) (xs:=us) (by omega),rfl⟩)
  have p1:IvOk 1048576 (gi us (m:Int)).In/\okI (gi us (m:Int)).In:=⟨hk2 _ (Zy (i:=(m:Int)) (xs:=us) (by omega)),ho⟩
  repeat(first|(refine wkB ?_;intros)|(refine wnM ?_ ?_;(focus(first|exact p1|exact trivial));intros))
  rename_i b6
  rcases Nat.eq_zero_or_pos m with h0|h0
  ·subst h0
   refine jD 14 14 (h:=?_)
   (repeat(refine wkH ?_))
   simp only[We (show¬(0:Int)<((0:Nat):Int) by decide)]
   (repeat(refine wkH ?_))
   refine Zo ?_
   refine Zr ?_
   repeat(refine wkB ?_;intros)
   exact Zf 1 hlt sbB slB (by omega)
  ·have hu0:=hk _ (Zy (i:=(m:Int)-1) (xs:=us) (by omega))
   have ha:aprt (gi us ((m:Int)-1)).In (gi us (m:Int)).In=true:=by
    have:=n3 (m-1) (by omega)
    rw[show((m-1:Nat):Int)=(m:Int)-1 by omega,show((m-1+1:Nat):Int)=(m:Int) by omega] at this
    exact this
   refine jD 14 14 (h:=?_)
   (repeat(refine wkH ?_))
   simp only[Wc (show(0:Int)<(m:Int) by omega)]
   (repeat(first|refine wkH ?_|(refine tC rfl rfl ?_ ?_;focus(exact⟨hu0.i.b,hu.i.a⟩))))
   simp only[ha,Bool.not_true]
   (repeat(refine wkH ?_))
   refine Zo ?_
   refine Zr ?_
   repeat(refine wkB ?_;intros)
   exact Zf (m+1) hlt sbB slB (by omega)
 ·repeat(first|(refine wkB ?_;intros)|(refine wnM ?_ ?_;(focus(exact⟨hn,hk⟩));intros))
  rename_i s
  obtain⟨s',e1,e2⟩:=SlS.turn 145 n1 s
  simp only[<-e1,<-e2,n2,Wc (rfl:(0:Int)=0),Bool.not_true]
  repeat(first|(refine wkB ?_;intros)|(refine wnM ?_ ?_;(focus(exact(show us.length<=1048576 by omega)));intros))
  exact rtT rfl rfl
instance (priority :=high) ZtP (w0:World)(L:List Blk)(v:Value)(us:List UL)[h:LstN w0 L v UL rU us]:SpecM prog w0 L 62 [vLabels,v] (.int .i64 0) (NF (us.map absU)/\(∀u∈us,UIn u)/\(∀u∈us,IvOk 1048576 u.In)/\NrP us/\us.length<=256):=⟨fun hp w hw=>ZhD v us w (h.out w hw) h.nil hp.1 hp.2.1 hp.2.2.1 hp.2.2.2.1 hp.2.2.2.2⟩
structure PFineI (us:List PU):Prop where
 nf:NF (us.map absQ)
 k:∀u∈us,IvOk 1048576 u.In
 l:us.length<=256
theorem ZgV (v:Value)(us:List PU)(w:World)(hv:ArgS w v rP us)(h:PFineI us):Calls prog 15 [v].toArray w (Ret (.int .i64 0) w):=by
 have hl:=h.l
 have hml:=ZbM toU us
 obtain⟨s1,s2,s3,s4⟩:=ZgG h.nf (fun u hu=>(h.k u hu).mono (by decide)) (by omega)
 have p1:NF ((mpN toU us us.length).map absU)/\(∀u∈mpN toU us us.length,UIn u)/\(∀u∈mpN toU us us.length,IvOk 1048576 u.In)/\NrP (mpN toU us us.length)/\(mpN toU us us.length).length<=256:=by
  refine⟨?_,s2,fun u hu=>by rw[hml] at hu;obtain⟨w,hw,rfl⟩:=List.mem_map.1 hu;exact h.k w hw,s1,by rw[ZaF];exact hl⟩
  rw[hml,List.map_map]
  exact h.nf
 have:=ArgC.mk hv
 refine Zb Tryz.func15 rfl Tryz.ntmps15 rfl ?_
 have hl1:us.length<=1048576:=by omega
 repeat(refine wkB ?_;intros)
 (refine ZG (.v [0,1,2] (.e1 3 (.e1 4 (.e1 5 (.fin))))) (([]:List Blk)) (h:=?_);refine wkX ?_)
 (repeat(refine wkH ?_))
 repeat(first|(refine wkT ?_;intros)|(refine tC rfl rfl ?_ ?_;focus(first|exact hl1|exact p1))|(refine uC rfl rfl ?_ ?_;focus(first|exact hl1|exact p1))|(refine eN rfl rfl ?_ ?_;(focus(first|exact hl1|exact p1));intro _;(try simp only[Wf,Wg,Wh])))
 repeat(refine wkB ?_;intros)
 exact rtT rfl rfl
instance (priority :=high) Ztj (w0:World)(L:List Blk)(v:Value)(us:List PU)[h:LstC w0 L v PU rP us]:SpecM prog w0 L 15 [v] (.int .i64 0) (PFineI us):=⟨fun hp w hw=>ZgV v us w (h.out w hw) hp⟩
end
section
instance ZtR :CallC prog 91:=⟨by kernel_rfl⟩
instance Zwy (x:Int):SpecC prog 91 [.int .i64 x] (.int .i64 x) True:=⟨fun _ w=>by
 refine Zb Tryz.func91 rfl Tryz.ntmps91 rfl ?_
 repeat(refine wkB ?_;intros)
 exact rtT rfl rfl⟩
noncomputable def shUq (q:Rat)(u:UL):UL:=⟨⟨shR u.In.From q,shR u.In.To q,u.In.OpenFrom,u.In.OpenTo⟩,u.F⟩
structure ShfP (q:Rat)(a:List UL):Prop where
 la:a.length<=1024
 k:∀u∈a,M u.In.From.P<=268435456/\M u.In.To.P<=268435456
 mq:M q<=268435456
 n:NrP (mpN (shUq q) a a.length)
 u:∀u∈mpN (shUq q) a a.length,UIn u
set_option maxHeartbeats 4000000 in
theorem Zie (v:Value)(q:Rat)(a:List UL)(w:World)(hv:ArgS w v rU a)(hp:ShfP q a):
  Calls prog 90 [vLabels,v,vQ q,vFn 91].toArray w (RetM (SlS rU 21 (nrmR (mpN (shUq q) a a.length))) (fun s=>vSl s) (fun s=>mS 145 s) w):=by
 have hla:=hp.la
 have hml:=ZaF (shUq q) a
 have p3:NrP (mpN (shUq q) a a.length)/\∀u∈mpN (shUq q) a a.length,UIn u:=⟨hp.n,hp.u⟩
 refine Zb Tryz.func90 rfl Tryz.ntmps90 rfl ?_
 obtain⟨p,cp,rfl⟩:=hv.form
 repeat(refine wkB ?_;intros)
 rename_i b6
 refine Zq (S:=(m:Nat)×SlS rU 21 (mpN (shUq q) a m)) (fun s=>s.1<=a.length) (fun s=>[(0,vLabels),(3,vFn 91),(6, .pointer (some ⟨b6,0,none⟩)),(9,vSl s.2),(13, .slice p a.length cp),(14, .int .i64 a.length),(15, .int .i64 (s.1:Nat))]) (fun s=>mS 145 s.2++[⟨b6,Zj (Q q),33⟩]) (fun s=>a.length-s.1) ⟨0,SlS.no⟩ (Wm _) sbB suB (fun s hm=>?_)
 obtain⟨m,s⟩:=s
 dsimp only at hm⊢
 have hmm:=hml m
 repeat(refine wkB ?_;intros)
 refine Zi rfl (fun h=>?_) (fun h=>?_)
 ·have hlt:m<a.length:=by have:=Wa h;omega
  obtain⟨bw,ow,rfl,hrow'⟩:=hv.opn (k:=20) hlt
  have hk:=hp.k (gi a (m:Int)) (Zy (by omega))
  have p1:M (gi a (m:Int)).In.From.P<=LQ/\M q<=LQ:=⟨Wi hk.1 (by decide),Wi hp.mq (by decide)⟩
  have p2:M (gi a (m:Int)).In.To.P<=LQ/\M q<=LQ:=⟨Wi hk.2 (by decide),Wi hp.mq (by decide)⟩
  repeat(refine wkB ?_;intros)
  rename_i b11 b12
  refine ZS (S:=Unit) (fun _=>True) (fun _=>[(0,vLabels),(3,vFn 91),(6, .pointer (some ⟨b6,0,none⟩)),(9,vSl s),(11, .pointer (some ⟨b11,0,none⟩)),(12, .pointer (some ⟨b12,0,none⟩)),(13, .slice (some ⟨bw,ow,none⟩) a.length cp),(14, .int .i64 a.length),(15, .int .i64 (m:Nat))]) (fun _=>⟨b12,rI (shUq q (gi a (m:Int))).In,37⟩::⟨b11,rU (gi a (m:Int)),145⟩::(mS 145 s++[⟨b6,Zj (Q q),33⟩])) ?_ (fun _ _=>?_)
  ·(refine ZG (.v [0,2,4,6] (.e2 1 (.v [3] (.e1 5 (.v [7,8] (.e1 9 (.v [10] (.e1 11 (.fin))))))) 5 (.e1 1 (.v [3,7,8] (.e1 9 (.v [10] (.e1 11 (.fin)))))))) ([⟨b6,Zj (Q q),33⟩]) (h:=?_);refine wkX ?_)
   repeat' (first|(with_reducible refine And.intro ?_ ?_)|(with_reducible exact True.intro)|(refine wkT ?_;intros)|(refine tC rfl rfl ?_ ?_;focus(first|exact p1|exact p2))|(refine uC rfl rfl ?_ ?_;focus(first|exact p1|exact p2))|(refine eN rfl rfl ?_ ?_;(focus(first|exact p1|exact p2));intro _;(try simp only[Wf,Wg,Wh]))|fail)
   all_goals exact Zg () trivial sbB suB
  repeat(refine wkB ?_;intros)
  (refine ZG (.v [0,1,2,3,4,5,6] (.e1 7 (.e1 8 (.e1 9 (.fin))))) ([⟨b12,rI (shUq q (gi a (m:Int))).In,37⟩,⟨b11,rU (gi a (m:Int)),145⟩]) (h:=?_);refine wkX ?_)
  (repeat(refine wkH ?_))
  repeat(refine wkT ?_;intros)
  refine eU (k:=21) (enc:=rU) (s:=s) rfl rfl ?_ ?_ ?_ ?_
  ·rfl
  ·rfl
  ·exact⟨by decide,by omega,by omega⟩
  intro s0
  repeat(refine wkT ?_;intros)
  repeat(first|(refine wkB ?_;intros)|(refine wnM ?_ ?_;(focus(exact⟨by omega,by omega⟩));intros))
  exact Zf ⟨m+1,s0⟩ hlt sbB suB (by show a.length-(m+1)<a.length-m;omega)
 ·have hge:m=a.length:=by have:=Wb h;omega
  subst hge
  repeat(first|(refine wkB ?_;intros)|(refine wnM ?_ ?_;(focus(exact p3));intros))
  rename_i s2
  exact ZA rfl rfl (fun w hw=>⟨s2,rfl,hw.sub suB⟩)
instance ZvP (w0:World)(L:List Blk)(v:Value)(q:Rat)(a:List UL)[h1:LstC w0 L v UL rU a]:SpecR prog w0 L 90 [vLabels,v,vQ q,vFn 91] (SlS rU 21 (nrmR (mpN (shUq q) a a.length))) (fun s=>vSl s) (fun s=>mS 145 s) (ShfP q a):=⟨fun hp w hw=>Zie v q a w (h1.out w hw) hp⟩
noncomputable def mshR (q:Rat)(a:List PU):List PU:=mpN ofU (nrmR (mpN (shUq q) (mpN toU a a.length) (mpN toU a a.length).length)) (nrmR (mpN (shUq q) (mpN toU a a.length) (mpN toU a a.length).length)).length
theorem Zio (v:Value)(q:Rat)(a:List PU)(w:World)(hv:ArgS w v rP a)(hp:ShfP q (mpN toU a a.length)):
  Calls prog 35 [v,vQ q].toArray w (RetM (SlS rP 21 (mshR q a)) (fun s=>vSl s) (fun s=>mS 46 s) w):=by
 have:=ArgC.mk hv
 have hla:=hp.la
 have hm1:=ZaF toU a a.length
 have hl1:a.length<=1048576:=by omega
 have hl3:(nrmR (mpN (shUq q) (mpN toU a a.length) (mpN toU a a.length).length)).length<=1048576:=by
  have h1:=Zho (mpN (shUq q) (mpN toU a a.length) (mpN toU a a.length).length)
  have h2:=hp.n.n
  omega
 refine Zb Tryz.func35 rfl Tryz.ntmps35 rfl ?_
 repeat(refine wkB ?_;intros)
 rename_i b3
 (refine ZG (.v [0,1,2,4] (.e1 3 (.e1 5 (.e1 6 (.e1 7 (.fin)))))) ([⟨b3,Zj (Q q),33⟩]) (h:=?_);refine wkX ?_)
 (repeat(refine wkH ?_))
 repeat(first|(refine wkT ?_;intros)|(refine tC rfl rfl ?_ ?_;focus(first|exact hl1|exact hp|exact hl3))|(refine uC rfl rfl ?_ ?_;focus(first|exact hl1|exact hp|exact hl3))|(refine eN rfl rfl ?_ ?_;(focus(first|exact hl1|exact hp|exact hl3));intro _;(try simp only[Wf,Wg,Wh])))
 rename_i s1 s2 s3
 repeat(refine wkB ?_;intros)
 exact ZA rfl rfl (fun w hw=>⟨s3,rfl,hw.sub suB⟩)
instance Zu2 (w0:World)(L:List Blk)(v:Value)(q:Rat)(a:List PU)[h1:LstC w0 L v PU rP a]:SpecR prog w0 L 35 [v,vQ q] (SlS rP 21 (mshR q a)) (fun s=>vSl s) (fun s=>mS 46 s) (ShfP q (mpN toU a a.length)):=⟨fun hp w hw=>Zio v q a w (h1.out w hw) hp⟩
end
section
theorem Zp0 (q:Rat)(a:List PU):mpN (shUq q) (mpN toU a a.length) (mpN toU a a.length).length=mpN toU (a.map (shP q)) (a.map (shP q)).length:=by
 rw[ZbM (shUq q),ZbM toU a,ZbM toU (a.map (shP q)),List.map_map,List.map_map]
 rfl
theorem ZiY {K:Nat}{q:Rat}{a:List PU}(hK:2*K+1<=268435456)(h:NF (a.map absQ))(hk:∀u∈a,IvOk K u.In)(hq:M q<=K)(hl:a.length<=1024):ShfP q (mpN toU a a.length)/\mshR q a=a.map (shP q)/\NF ((a.map (shP q)).map absQ)/\∀u∈a.map (shP q),IvOk (2*K+1) u.In:=by
 have hn:=ZtZ (fun u hu=>(hk u hu).cn) h q
 have hm:∀u∈a.map (shP q),IvOk (2*K+1) u.In:=fun u hu=>by
  obtain⟨w,hw,rfl⟩:=List.mem_map.1 hu
  exact⟨ZkH (hk w hw).a hq,ZkH (hk w hw).b hq⟩
 obtain⟨s1,s2,s3,s4⟩:=ZgG hn (fun u hu=>(hm u hu).mono (Wi hK (by decide))) (by rw[Ws];omega)
 have e:=Zp0 q a
 refine⟨⟨by rw[ZaF];exact hl,fun u hu=>?_,by omega,by rw[e];exact s1,by rw[e];exact s2⟩, ?_,hn,hm⟩
 ·rw[ZbM] at hu
  obtain⟨w,hw,rfl⟩:=List.mem_map.1 hu
  have h1:=hk w hw
  exact⟨Wi h1.a.p (by omega),Wi h1.b.p (by omega)⟩
 ·unfold mshR
  rw[e]
  exact s4
end
section
theorem Zqc (s:WS):Dsc (ivS s).From/\Dsc (ivS s).To:=by
 unfold ivS
 split
 ·exact⟨⟨_,rfl⟩,⟨_,rfl⟩⟩
 ·split <;> exact⟨⟨_,rfl⟩,⟨_,rfl⟩⟩
theorem Zi0 (l:List St):∀m,∀i∈inS l m,Dsc i.From/\Dsc i.To
 |0,i,hi=>by cases hi
 |m+1,i,hi=>by
  rw[inS,Wv,Wo] at hi
  rcases hi with hi|rfl
  ·exact Zi0 l m i hi
  ·exact Zqc _
theorem ZmV (l:List St):DscL (movV l):=fun u hu=>by
 have h1:∀i∈insV l,Dsc i.From/\Dsc i.To:=Zi0 l _
 have h2:∀i∈celV l,Dsc i.From/\Dsc i.To:=Zlq (Zhp h1) (Zgt h1)
 exact Zkm (Pr:=Dsc) (fun u hu=>h2 _ (ZfH u hu)) _ (Wl _) u hu
theorem ZiW {l:List St}{ins cs:List Za}:∀i,∀u∈mvS l ins cs i,Lb u.Label
 |0,u,hu=>by cases hu
 |i+1,u,hu=>by
  have ih:=ZiW (l:=l) (ins:=ins) (cs:=cs) i
  rw[mvS] at hu
  unfold mv1 at hu
  split at hu
  ·rename_i k _
   rw[Wv,Wo] at hu
   rcases hu with hu|rfl
   ·exact ih u hu
   ·show-1000<=(gi l (k:Int)).Label % 5/\(gi l (k:Int)).Label % 5<=1000
    omega
  ·exact ih u hu
theorem Zjk {l:List PU}(h:∀u∈l,Lb u.Label):∀i,i<=l.length->∀u∈jnL l i,Lb u.Label
 |0,_,u,hu=>by cases hu
 |i+1,hi,u,hu=>by
  have ih:=Zjk h i (by omega)
  have h1:=h (gi l (i:Int)) (Zy (by omega))
  rw[jnL] at hu
  unfold jn1 at hu
  split at hu
  ·rename_i hc
   rcases List.mem_or_eq_of_mem_set hu with hu|rfl
   ·exact ih u hu
   ·exact ih (lstP (jnL l i)) (Zy (by omega))
  ·rw[Wv,Wo] at hu
   rcases hu with hu|rfl
   ·exact ih u hu
   ·exact h1
theorem Zqr {l:List St}(hk:∀x∈l,StOk x):MvP (movV l):=⟨ZpH hk,ZmV l,Zjk (ZiW _) _ (Wl _)⟩
end
section
set_option maxHeartbeats 8000000 in
theorem Zif (v1 v2:Value)(l m:List PU)(w:World)(h1:ArgS w v1 rP l)(h2:ArgS w v2 rP m)(hl:l.length<=1048576/\m.length<=1048576):
  Calls prog 22 [v1,v2].toArray w (Ret (.bool (decide (l=m))) w):=by
 have hav1:=ArgC.mk h1
 have hav2:=ArgC.mk h2
 have A1:=h1
 have A2:=h2
 obtain⟨p,cp,rfl⟩:=h1.form
 obtain⟨q,cq',rfl⟩:=h2.form
 refine Zb Tryz.func22 rfl Tryz.ntmps22 rfl ?_
 repeat(refine wkB ?_;intros)
 by_cases hlen:l.length=m.length
 ·simp only[Wc (show((l.length:Nat):Int)=((m.length:Nat):Int) by omega),Bool.not_true]
  repeat(refine wkB ?_;intros)
  refine Zq (S:=Nat) (fun k=>k<=l.length/\∀j:Nat,j<k->gi l (j:Int)=gi m (j:Int)) (fun k=>[(0, .slice p l.length cp),(1, .slice q m.length cq'),(5, .int .i64 (k:Nat))]) (fun _=>[]) (fun k=>l.length-k) 0 ⟨Wm _,fun j hj=>by omega⟩ sbB slB (fun k hk=>?_)
  obtain⟨hk,hsame⟩:=hk
  repeat(refine wkB ?_;intros)
  refine Zi rfl (fun h=>?_) (fun h=>?_)
  ·have hlt:k<l.length:=by have:=Wa h;omega
   have hne:l≠[]:=fun h0=>by rw[h0] at hlt;simp at hlt
   have hne2:m≠[]:=fun h0=>by rw[h0] at hlen;rw[hlen] at hlt;simp at hlt
   obtain⟨bw,ow,cw,hvw,hcw,hrow⟩:=A1.blk (k:=20) hne []
   obtain⟨bw',ow',cw',hvw',hcw',hrow2⟩:=A2.blk (k:=20) hne2 []
   injection hvw with x1 x2 x3
   injection hvw' with y1 y2 y3
   subst x1 x3
   subst y1 y3
   have hr1:∀L,RowC w L bw ow PU rP l:=fun L=>⟨fun w' hw'=>hrow.out w' (hw'.sub (Wk _))⟩
   have hr2:∀L,RowC w L bw' ow' PU rP m:=fun L=>⟨fun w' hw'=>hrow2.out w' (hw'.sub (Wk _))⟩
   repeat(refine wkB ?_;intros)
   refine jD 9 9 (h:=?_)
   (repeat(refine wkH ?_))
   refine Zo ?_
   refine Zr ?_
   by_cases he:gi l (k:Int)=gi m (k:Int)
   ·simp only[Wc he,Bool.not_true]
    repeat(first|(refine wkB ?_;intros)|(refine wnM ?_ ?_;(focus(exact⟨by omega,by omega⟩));intros))
    refine Zf (k+1) ⟨hlt,fun j hj=>?_⟩ sbB slB (by omega)
    rcases(by omega:j<k\/j=k) with h1|rfl
    ·exact hsame j h1
    ·exact he
   ·simp only[We he,Bool.not_false]
    repeat(refine wkB ?_;intros)
    rw[We (show¬l=m from fun h0=>he (by rw[h0]))]
    exact rtT rfl rfl
  ·have hge:k=l.length:=by have:=Wb h;omega
   subst hge
   have he:l=m:=List.ext_getElem hlen fun j h1 h2=>by
    have:=hsame j h1
    rwa [Zz h1,Zz h2] at this
   repeat(refine wkB ?_;intros)
   rw[Wc he]
   exact rtT rfl rfl
 ·simp only[We (show¬((l.length:Nat):Int)=((m.length:Nat):Int) by omega),Bool.not_false]
  repeat(refine wkB ?_;intros)
  rw[We (show¬l=m from fun h0=>hlen (by rw[h0]))]
  exact rtT rfl rfl
instance ZuD (w0:World)(L:List Blk)(v1 v2:Value)(l m:List PU)[h1:LstC w0 L v1 PU rP l][h2:LstC w0 L v2 PU rP m]:SpecM prog w0 L 22 [v1,v2] (.bool (decide (l=m))) (l.length<=1048576/\m.length<=1048576):=⟨fun hp w hw=>Zif v1 v2 l m w (h1.out w hw) (h2.out w hw) hp⟩
end
section
def flB (a b:PU)(x y:Int):Bool:= !decide (a.In.From=a.In.To)&&(!decide (b.In.From=b.In.To)&&(decide (a.In.To=b.In.From)&&(!(a.In.OpenTo&&b.In.OpenFrom)&&(decide (a.Label=x)&&decide (b.Label=y)))))
theorem Zbe {a b:PU}{x y:Int}:flB a b x y=true↔True/\¬a.In.From=a.In.To/\¬b.In.From=b.In.To/\a.In.To=b.In.From/\¬(a.In.OpenTo=true/\b.In.OpenFrom=true)/\a.Label=x/\b.Label=y:=by
 unfold flB
 simp only[Wq,Bool.not_eq_true',decide_eq_true_eq,decide_eq_false_iff_not,true_and,<-Bool.not_eq_true]
def flL (l:List PU)(x y:Int):Nat->List Rl
 |0=>[]
 |i+1=>if flB (gi l (i:Int)) (gi l ((i+1:Nat):Int)) x y=true then flL l x y i++[(gi l ((i+1:Nat):Int)).In.From] else flL l x y i
theorem ZiJ (l:List PU)(x y:Int):∀i,(flL l x y i).length<=i
 |0=>Wl _
 |i+1=>by
  have h1:=ZiJ l x y i
  rw[flL]
  split
  ·rw[Wp];simp;exact h1
  ·omega
instance Zyt (u:PU):SpecC prog 78 [vPU u] (.bool (!decide (u.In.From=u.In.To))) True:=⟨fun _ w=>by
 refine Zb Tryz.func78 rfl Tryz.ntmps78 rfl ?_
 repeat(refine wkB ?_;intros)
 exact rtT rfl rfl⟩
set_option maxHeartbeats 16000000 in
theorem ZhQ (v:Value)(l:List PU)(x y:Int)(w:World)(hv:ArgS w v rP l)(hl:l.length<=1048576):
  Calls prog 26 [v, .int .i64 x, .int .i64 y].toArray w (RetM (SlS Zu 9 (flL l x y (l.length-1))) (fun q=>vSl q) (fun q=>mS 35 q) w):=by
 obtain⟨p,cp,rfl⟩:=hv.form
 refine Zb Tryz.func26 rfl Tryz.ntmps26 rfl ?_
 repeat(refine wkB ?_;intros)
 refine Z7 (S:=SlS Zu 9 (flL l x y (l.length-1))) (fun _=>True) (fun q=>[(7,vSl q)]) (fun q=>mS 35 q) ?_ (fun q _=>?_)
 ·refine Zq (S:=(_:Nat)×(o:List Rl)×SlS Zu 9 o) (fun q=>q.1<=l.length-1/\q.2.1=flL l x y q.1) (fun q=>[(0, .slice p l.length cp),(1, .int .i64 x),(2, .int .i64 y),(7,vSl q.2.2),(8, .int .i64 ((q.1+1:Nat):Int))]) (fun q=>mS 35 q.2.2) (fun q=>l.length-q.1) ⟨0,[],SlS.no⟩ ⟨Wm _,rfl⟩ sbB suB (fun q hq=>?_)
  obtain⟨i,out,o⟩:=q
  obtain⟨hq,ho⟩:=hq
  dsimp only at hq ho⊢
  have hln:out.length<=i:=by rw[ho];exact ZiJ l x y i
  have hend:i=l.length-1->out=flL l x y (l.length-1):=fun h=>by rw[ho,h]
  have hnxt:(if flB (gi l (i:Int)) (gi l ((i+1:Nat):Int)) x y=true then out++[(gi l ((i+1:Nat):Int)).In.From] else out)=flL l x y (i+1):=by rw[ho];rfl
  clear ho
  have e2:((i+1:Nat):Int)-1=(i:Int):=by omega
  have e3:((i+1:Nat):Int)+1=((i+1+1:Nat):Int):=by omega
  repeat(refine wkB ?_;intros)
  refine Zi rfl (fun h=>?_) (fun h=>?_)
  ·have hlt:i+1<l.length:=by have:=Wa h;omega
   obtain⟨bw,ow,rfl,hrow'⟩:=hv.opn (k:=20) hlt
   repeat(refine wkB ?_;intros)
   (refine Zct [0,1,2,3,4,5,6,7,8] [9,10] [11,12] (([]:List Blk)) (h:=?_);refine wkI ?_)
   (repeat(refine wkH ?_))
   repeat(refine wkT ?_;intros)
   repeat(refine wkB ?_;intros)
   simp only[e2]
   repeat(refine wkB ?_;intros)
   by_cases c1:(gi l (i:Int)).In.From=(gi l (i:Int)).In.To
   ·simp only[Wc c1,Bool.not_true]
    repeat(refine wkB ?_;intros)
    have hf:flB (gi l (i:Int)) (gi l ((i+1:Nat):Int)) x y=false:=Bool.eq_false_iff.2 fun g=>by
     obtain⟨g0,g1,g2,g3,g4,g5,g6⟩:=Zbe.1 g
     first|exact g0 c0|exact g1 c1|exact g2 c2|exact c3 g3|exact g4 ⟨c4,c4b⟩|exact c5 g5|exact c6 g6
    rw[hf] at hnxt
    simp only[Bool.false_eq_true,if_false] at hnxt
    repeat(first|(refine wkB ?_;intros)|(refine wnM ?_ ?_;(focus(exact⟨by omega,by omega⟩));intros))
    simp only[e3]
    exact Zf ⟨i+1,_,o⟩ ⟨by show i+1<=l.length-1;omega,hnxt⟩ sbB suB (by show l.length-(i+1)<l.length-i;omega)
   ·simp only[We c1,Bool.not_false]
    repeat(refine wkB ?_;intros)
    by_cases c2:(gi l ((i+1:Nat):Int)).In.From=(gi l ((i+1:Nat):Int)).In.To
    ·simp only[Wc c2,Bool.not_true]
     repeat(refine wkB ?_;intros)
     have hf:flB (gi l (i:Int)) (gi l ((i+1:Nat):Int)) x y=false:=Bool.eq_false_iff.2 fun g=>by
      obtain⟨g0,g1,g2,g3,g4,g5,g6⟩:=Zbe.1 g
      first|exact g0 c0|exact g1 c1|exact g2 c2|exact c3 g3|exact g4 ⟨c4,c4b⟩|exact c5 g5|exact c6 g6
     rw[hf] at hnxt
     simp only[Bool.false_eq_true,if_false] at hnxt
     repeat(first|(refine wkB ?_;intros)|(refine wnM ?_ ?_;(focus(exact⟨by omega,by omega⟩));intros))
     simp only[e3]
     exact Zf ⟨i+1,_,o⟩ ⟨by show i+1<=l.length-1;omega,hnxt⟩ sbB suB (by show l.length-(i+1)<l.length-i;omega)
    ·simp only[We c2,Bool.not_false]
     repeat(refine wkB ?_;intros)
     by_cases c3:(gi l (i:Int)).In.To=(gi l ((i+1:Nat):Int)).In.From
     ·simp only[Wc c3]
      repeat(refine wkB ?_;intros)
      cases c4:(gi l (i:Int)).In.OpenTo with
      |false=>
       repeat(refine wkB ?_;intros)
       by_cases c5:(gi l (i:Int)).Label=x
       ·simp only[Wc c5]
        repeat(refine wkB ?_;intros)
        by_cases c6:(gi l ((i+1:Nat):Int)).Label=y
        ·simp only[Wc c6]
         repeat(refine wkB ?_;intros)
         have hf:flB (gi l (i:Int)) (gi l ((i+1:Nat):Int)) x y=true:=Zbe.2 ⟨trivial,c1,c2,c3,(fun g=>by first|exact Bool.noConfusion (g.1.symm.trans c4)|exact Bool.noConfusion (g.2.symm.trans c4b)),c5,c6⟩
         rw[hf] at hnxt
         simp only[if_true] at hnxt
         repeat(refine wkB ?_;intros)
         refine sU (k:=9) (enc:=Zu) (s:=o) rfl rfl ?_ ?_ ?_ ?_
         ·rfl
         ·rfl
         ·exact⟨by decide,by omega,by omega⟩
         intro s'
         repeat(first|(refine wkB ?_;intros)|(refine wnM ?_ ?_;(focus(exact⟨by omega,by omega⟩));intros))
         simp only[e3]
         exact Zf ⟨i+1,_,s'⟩ ⟨by show i+1<=l.length-1;omega,hnxt⟩ sbB suB (by show l.length-(i+1)<l.length-i;omega)
        ·simp only[We c6]
         repeat(refine wkB ?_;intros)
         have hf:flB (gi l (i:Int)) (gi l ((i+1:Nat):Int)) x y=false:=Bool.eq_false_iff.2 fun g=>by
          obtain⟨g0,g1,g2,g3,g4,g5,g6⟩:=Zbe.1 g
          first|exact g0 c0|exact g1 c1|exact g2 c2|exact c3 g3|exact g4 ⟨c4,c4b⟩|exact c5 g5|exact c6 g6
         rw[hf] at hnxt
         simp only[Bool.false_eq_true,if_false] at hnxt
         repeat(first|(refine wkB ?_;intros)|(refine wnM ?_ ?_;(focus(exact⟨by omega,by omega⟩));intros))
         simp only[e3]
         exact Zf ⟨i+1,_,o⟩ ⟨by show i+1<=l.length-1;omega,hnxt⟩ sbB suB (by show l.length-(i+1)<l.length-i;omega)
       ·simp only[We c5]
        repeat(refine wkB ?_;intros)
        have hf:flB (gi l (i:Int)) (gi l ((i+1:Nat):Int)) x y=false:=Bool.eq_false_iff.2 fun g=>by
         obtain⟨g0,g1,g2,g3,g4,g5,g6⟩:=Zbe.1 g
         first|exact g0 c0|exact g1 c1|exact g2 c2|exact c3 g3|exact g4 ⟨c4,c4b⟩|exact c5 g5|exact c6 g6
        rw[hf] at hnxt
        simp only[Bool.false_eq_true,if_false] at hnxt
        repeat(first|(refine wkB ?_;intros)|(refine wnM ?_ ?_;(focus(exact⟨by omega,by omega⟩));intros))
        simp only[e3]
        exact Zf ⟨i+1,_,o⟩ ⟨by show i+1<=l.length-1;omega,hnxt⟩ sbB suB (by show l.length-(i+1)<l.length-i;omega)
      |true=>
       repeat(refine wkB ?_;intros)
       cases c4b:(gi l ((i+1:Nat):Int)).In.OpenFrom with
       |false=>
        repeat(refine wkB ?_;intros)
        by_cases c5:(gi l (i:Int)).Label=x
        ·simp only[Wc c5]
         repeat(refine wkB ?_;intros)
         by_cases c6:(gi l ((i+1:Nat):Int)).Label=y
         ·simp only[Wc c6]
          repeat(refine wkB ?_;intros)
          have hf:flB (gi l (i:Int)) (gi l ((i+1:Nat):Int)) x y=true:=Zbe.2 ⟨trivial,c1,c2,c3,(fun g=>by first|exact Bool.noConfusion (g.1.symm.trans c4)|exact Bool.noConfusion (g.2.symm.trans c4b)),c5,c6⟩
          rw[hf] at hnxt
          simp only[if_true] at hnxt
          repeat(refine wkB ?_;intros)
          refine sU (k:=9) (enc:=Zu) (s:=o) rfl rfl ?_ ?_ ?_ ?_
          ·rfl
          ·rfl
          ·exact⟨by decide,by omega,by omega⟩
          intro s'
          repeat(first|(refine wkB ?_;intros)|(refine wnM ?_ ?_;(focus(exact⟨by omega,by omega⟩));intros))
          simp only[e3]
          exact Zf ⟨i+1,_,s'⟩ ⟨by show i+1<=l.length-1;omega,hnxt⟩ sbB suB (by show l.length-(i+1)<l.length-i;omega)
         ·simp only[We c6]
          repeat(refine wkB ?_;intros)
          have hf:flB (gi l (i:Int)) (gi l ((i+1:Nat):Int)) x y=false:=Bool.eq_false_iff.2 fun g=>by
           obtain⟨g0,g1,g2,g3,g4,g5,g6⟩:=Zbe.1 g
           first|exact g0 c0|exact g1 c1|exact g2 c2|exact c3 g3|exact g4 ⟨c4,c4b⟩|exact c5 g5|exact c6 g6
          rw[hf] at hnxt
          simp only[Bool.false_eq_true,if_false] at hnxt
          repeat(first|(refine wkB ?_;intros)|(refine wnM ?_ ?_;(focus(exact⟨by omega,by omega⟩));intros))
          simp only[e3]
          exact Zf ⟨i+1,_,o⟩ ⟨by show i+1<=l.length-1;omega,hnxt⟩ sbB suB (by show l.length-(i+1)<l.length-i;omega)
        ·simp only[We c5]
         repeat(refine wkB ?_;intros)
         have hf:flB (gi l (i:Int)) (gi l ((i+1:Nat):Int)) x y=false:=Bool.eq_false_iff.2 fun g=>by
          obtain⟨g0,g1,g2,g3,g4,g5,g6⟩:=Zbe.1 g
          first|exact g0 c0|exact g1 c1|exact g2 c2|exact c3 g3|exact g4 ⟨c4,c4b⟩|exact c5 g5|exact c6 g6
         rw[hf] at hnxt
         simp only[Bool.false_eq_true,if_false] at hnxt
         repeat(first|(refine wkB ?_;intros)|(refine wnM ?_ ?_;(focus(exact⟨by omega,by omega⟩));intros))
         simp only[e3]
         exact Zf ⟨i+1,_,o⟩ ⟨by show i+1<=l.length-1;omega,hnxt⟩ sbB suB (by show l.length-(i+1)<l.length-i;omega)
       |true=>
        repeat(refine wkB ?_;intros)
        have hf:flB (gi l (i:Int)) (gi l ((i+1:Nat):Int)) x y=false:=Bool.eq_false_iff.2 fun g=>by
         obtain⟨g0,g1,g2,g3,g4,g5,g6⟩:=Zbe.1 g
         first|exact g0 c0|exact g1 c1|exact g2 c2|exact c3 g3|exact g4 ⟨c4,c4b⟩|exact c5 g5|exact c6 g6
        rw[hf] at hnxt
        simp only[Bool.false_eq_true,if_false] at hnxt
        repeat(first|(refine wkB ?_;intros)|(refine wnM ?_ ?_;(focus(exact⟨by omega,by omega⟩));intros))
        simp only[e3]
        exact Zf ⟨i+1,_,o⟩ ⟨by show i+1<=l.length-1;omega,hnxt⟩ sbB suB (by show l.length-(i+1)<l.length-i;omega)
     ·simp only[We c3]
      repeat(refine wkB ?_;intros)
      have hf:flB (gi l (i:Int)) (gi l ((i+1:Nat):Int)) x y=false:=Bool.eq_false_iff.2 fun g=>by
       obtain⟨g0,g1,g2,g3,g4,g5,g6⟩:=Zbe.1 g
       first|exact g0 c0|exact g1 c1|exact g2 c2|exact c3 g3|exact g4 ⟨c4,c4b⟩|exact c5 g5|exact c6 g6
      rw[hf] at hnxt
      simp only[Bool.false_eq_true,if_false] at hnxt
      repeat(first|(refine wkB ?_;intros)|(refine wnM ?_ ?_;(focus(exact⟨by omega,by omega⟩));intros))
      simp only[e3]
      exact Zf ⟨i+1,_,o⟩ ⟨by show i+1<=l.length-1;omega,hnxt⟩ sbB suB (by show l.length-(i+1)<l.length-i;omega)
  ·have hge:i=l.length-1:=by have:=Wb h;omega
   obtain⟨s',f1,f2⟩:=SlS.turn 35 (hend hge) o
   repeat(refine wkB ?_;intros)
   exact Zg s' trivial (by rw[f1];exact sbB) (by rw[f2];exact suB)
 ·repeat(refine wkB ?_;intros)
  exact ZA rfl rfl (fun w hw=>⟨q,rfl,hw.sub suB⟩)
instance ZtJ (w0:World)(L:List Blk)(v:Value)(l:List PU)(x y:Int)[h:LstC w0 L v PU rP l]:SpecR prog w0 L 26 [v, .int .i64 x, .int .i64 y] (SlS Zu 9 (flL l x y (l.length-1))) (fun q=>vSl q) (fun q=>mS 35 q) (l.length<=1048576):=⟨fun hp w hw=>ZhQ v l x y w (h.out w hw) hp⟩
end
section
def wl (n:Int):Rl:=rl (n:Rat)
theorem ZtL {a b:Int}:ri (wl a)<ri (wl b)↔a<b:=by
 unfold wl
 rw[ZtH]
 exact Rat.intCast_lt_intCast
theorem ZcG {n:Int}(h:M (n:Rat)<=1):RlB KR (wl n):=(ZlO h (Wl _)).mono (by decide)
def kI0 :Za:=⟨wl 0,wl 4,false,true⟩
def kI1 :Za:=⟨wl 4,wl 6,false,false⟩
def kI2 :Za:=⟨wl 6,wl 9,true,false⟩
def exU :List PU:=[⟨kI0,1⟩,⟨kI1,2⟩,⟨kI2,1⟩]
def exT :List UL:=[⟨kI0,1⟩,⟨kI1,2⟩,⟨kI2,1⟩]
theorem ZrA :mpN toU exU exU.length=exT:=rfl
theorem ZcT :IvOk KR kI0/\IvOk KR kI1/\IvOk KR kI2:=⟨⟨ZcG (by decide),ZcG (by decide)⟩,⟨ZcG (by decide),ZcG (by decide)⟩,⟨ZcG (by decide),ZcG (by decide)⟩⟩
theorem kx :ri (wl 0)<ri (wl 2)/\ri (wl 2)<ri (wl 3)/\ri (wl 3)<ri (wl 4)/\ri (wl 4)<ri (wl 6)/\ri (wl 6)<ri (wl 9):=by
 simp only[ZtL]
 decide
theorem ZqU :Cut exT (wl 4) 0:=by
 obtain⟨h1,h2,h3,h4,h5⟩:=kx
 refine⟨Wm _,fun j hj=>by omega,fun j _ hj=>?_⟩
 have hj':j<3:=hj
 rcases(by omega:j=0\/j=1\/j=2) with rfl|rfl|rfl
 ·show ri (wl 4)<=ri (wl 4);grind
 ·show ri (wl 4)<=ri (wl 6);grind
 ·show ri (wl 4)<=ri (wl 9);grind
theorem ZsN :AtR exT (ri (wl 4)) (some 2):=by
 obtain⟨h1,h2,h3,h4,h5⟩:=kx
 refine⟨.inl ⟨1,by decide, ?_,fun j hj=>?_,fun j hj=>?_,rfl⟩⟩
 ·show(ri (wl 4)<ri (wl 4)\/(ri (wl 4)=ri (wl 4)/\false=false))/\(ri (wl 4)<ri (wl 6)\/_)
  exact⟨.inr ⟨rfl,rfl⟩, .inl h4⟩
 ·obtain rfl:j=0:=by omega
  rintro⟨-,h|h⟩
  ·exact absurd (show ri (wl 4)<ri (wl 4) from h) (by grind)
  ·cases (show true=false from h.2)
 ·rcases(by omega:j=0\/j=1) with rfl|rfl
  ·show ri (wl 0)<=ri (wl 4);grind
  ·show ri (wl 4)<=ri (wl 4);grind
theorem ZtK :flL exU 1 2 2=[wl 4]:=by decide
theorem Zub :cmI' (lbL exU)=[1,2,1]:=by decide
theorem ZoD :whL exU 1 exU.length=[kI0,kI2]:=by decide
theorem Zjr {i:Za}(h:IvOk KR i):BdOk (bdF i)/\BdOk (bdL i):=⟨⟨h.a⟩,⟨h.b⟩⟩
theorem ZsS :SwOk [kI0,kI2] []:=⟨by decide,fun i hi=>by
 simp only[Ww,List.not_mem_nil,or_false] at hi
 rcases hi with rfl|rfl
 ·exact Zjr ZcT.1
 ·exact Zjr ZcT.2.2,fun i hi=>by cases hi⟩
theorem Zle :Sep [kI0,kI2]:=by
 obtain⟨h1,h2,h3,h4,h5⟩:=kx
 refine⟨List.pairwise_cons.2 ⟨fun j hj=>?_,List.pairwise_singleton _ _⟩,fun i hi=>?_⟩
 ·rw[Wo] at hj
  rw[hj]
  exact .inl h4
 ·simp only[Ww,List.not_mem_nil,or_false] at hi
  rcases hi with rfl|rfl
  ·exact .inl (show ri (wl 0)<ri (wl 4) by grind)
  ·exact .inl h5
theorem ivEq {i j:Za}(hi:IvOk KR i)(hj:IvOk KR j)(h:absI i=absI j):i=j:=by
 obtain⟨a,b,c,d⟩:=i
 obtain⟨a',b',c',d'⟩:=j
 injection h with e1 e2 e3 e4
 have e1':=(ZbQ hi.a.o hj.a.o).1 e1
 have e2':=(ZbQ hi.b.o hj.b.o).1 e2
 simp only at e1' e2' e3 e4
 rw[e1',e2',e3,e4]
theorem sepEq {l m:List Za}(hl:Sep l)(hm:Sep m)(kl:∀i∈l,IvOk KR i)(km:∀i∈m,IvOk KR i)(H:∀t,HoldP l t↔HoldP m t):l=m:=by
 have h:=hl.uniq hm H
 have hlen:l.length=m.length:=by
  have:=congrArg List.length h
  simpa using this
 refine List.ext_getElem hlen fun j h1 h2=>ivEq (kl _ (List.getElem_mem h1)) (km _ (List.getElem_mem h2)) ?_
 have:=congrArg (fun z:List (GU Ri Unit)=>z[j]?) h
 simpa [List.getElem?_eq_getElem h1,List.getElem?_eq_getElem h2] using this
theorem Zqb :swpR kpU [kI0,kI2] []=[kI0,kI2]:=by
 have hle:∀i∈[kI0,kI2],bLe (bdF i) (bdL i):=fun i hi=>(Zle.v i hi).le
 obtain⟨h1,h2,h3⟩:=Znx (kp:=kpU) rfl hle (fun i (hi:i∈[])=>by cases hi)
 have hk:∀i∈[kI0,kI2],IvOk KR i:=fun i hi=>by
  simp only[Ww,List.not_mem_nil,or_false] at hi
  rcases hi with rfl|rfl
  ·exact ZcT.1
  ·exact ZcT.2.2
 have hb:=Zqt (Pb:=fun b=>RlB KR b.at_) kpU (is:=[kI0,kI2]) (js:=[]) (fun i hi=>⟨(hk i hi).a,(hk i hi).b⟩) (fun i hi=>by cases hi)
 refine sepEq ⟨h2,h3⟩ Zle (fun i hi=>⟨(hb i hi).1,(hb i hi).2⟩) hk (fun t=>?_)
 unfold HoldP
 rw[h1 t]
 simp[kpU]
def nmU :List PU:=[⟨⟨wl 2,wl 3,true,true⟩,5⟩,⟨⟨wl 0,wl 2,false,false⟩,5⟩]
def nmT :List UL:=[⟨⟨wl 2,wl 3,true,true⟩,5⟩,⟨⟨wl 0,wl 2,false,false⟩,5⟩]
theorem ZoY :∀u∈nmT,UIn u:=fun u hu=>by
 simp only[nmT,Ww,List.not_mem_nil,or_false] at hu
 rcases hu with rfl|rfl
 ·exact⟨⟨ZcG (by decide),ZcG (by decide)⟩⟩
 ·exact⟨⟨ZcG (by decide),ZcG (by decide)⟩⟩
theorem Zmc :UVal nmT:=⟨ZoY,fun u hu=>by
 obtain⟨h1,h2,h3,h4,h5⟩:=kx
 simp only[nmT,Ww,List.not_mem_nil,or_false] at hu
 rcases hu with rfl|rfl
 ·exact .inl h2
 ·exact .inl h1⟩
theorem ZkQ :(nmT.map absU).Pairwise Dis:=by
 refine List.pairwise_cons.2 ⟨fun j hj=>?_,List.pairwise_singleton _ _⟩
 rw[List.map_cons,List.map_nil,Wo] at hj
 subst hj
 rintro t ⟨⟨h1, -⟩, -,h2⟩
 have h1':ri (wl 2)<t:=h1.elim id (fun h=>by cases (show true=false from h.2))
 have h2':t<ri (wl 2)\/t=ri (wl 2):=h2.imp id (·.1)
 grind
theorem Zri :(nrmR nmT).map absU=[⟨ri (wl 0),ri (wl 3),false,true,5⟩]:=by
 obtain⟨h1,h2,h3,h4,h5⟩:=kx
 obtain⟨k1,k2⟩:=ZhV Zmc ZkQ
 refine k1.uniq (NF.one (.inl (show ri (wl 0)<ri (wl 3) by grind)) (fun h=>absurd (show ri (wl 0)=ri (wl 3) from h) (by grind))) (fun t v=>?_)
 rw[k2 t v]
 show Has [absU _,absU _] t v↔_
 rw[Zag,Zcz,Zcz]
 show((((ri (wl 2)<t\/(ri (wl 2)=t/\true=false))/\(t<ri (wl 3)\/(t=ri (wl 3)/\true=false)))/\(5:Int)=v)\/(((ri (wl 0)<t\/(ri (wl 0)=t/\false=false))/\(t<ri (wl 2)\/(t=ri (wl 2)/\false=false)))/\(5:Int)=v))↔((ri (wl 0)<t\/(ri (wl 0)=t/\false=false))/\(t<ri (wl 3)\/(t=ri (wl 3)/\true=false)))/\(5:Int)=v
 grind
theorem Zrq :nrmE nmT=0:=(ZgP Zmc).2 ZkQ
theorem Zr0 :∃u:PU,mNorm nmU=[u]/\u.In.OpenTo=true:=by
 have h:=Zri
 have hn:mNorm nmU=mpN ofU (nrmR nmT) (nrmR nmT).length:=rfl
 rw[hn]
 generalize nrmR nmT=l at h
 have hlen:l.length=1:=by
  have:=congrArg List.length h
  simpa using this
 obtain⟨u,rfl⟩:=List.length_eq_one_iff.1 hlen
 have h1:absU u=_:=(List.cons.inj h).1
 exact⟨ofU u,rfl,congrArg GU.ob h1⟩
theorem Zqd :PFine exU:=by
 obtain⟨h1,h2,h3,h4,h5⟩:=kx
 have a4:ri (wl 0)<ri (wl 4):=by grind
 refine⟨⟨fun u hu=>?_,fun u _ _=>rfl, ?_⟩,fun u hu=>?_,fun u hu=>?_,by decide⟩
 ·simp only[exU,List.map_cons,List.map_nil,Ww,List.not_mem_nil,or_false] at hu
  rcases hu with rfl|rfl|rfl
  ·exact .inl a4
  ·exact .inl h4
  ·exact .inl h5
 ·refine List.pairwise_cons.2 ⟨fun j hj=>?_,List.pairwise_cons.2 ⟨fun j hj=>?_,List.pairwise_singleton _ _⟩⟩
  ·simp only[List.map_cons,List.map_nil,Ww,List.not_mem_nil,or_false] at hj
   rcases hj with rfl|rfl
   ·exact⟨.inr ⟨rfl, .inl rfl⟩,fun _ _ _=>(by decide:(1:Int)≠2),fun _ _=>(by decide:(1:Int)≠2),fun _ _=>(by decide:(1:Int)≠2)⟩
   ·exact⟨.inl h4,fun h=>absurd (show ri (wl 4)=ri (wl 6) from h) (by grind),fun h=>absurd (show ri (wl 4)=ri (wl 6) from h) (by grind),fun h=>absurd (show ri (wl 4)=ri (wl 6) from h) (by grind)⟩
  ·simp only[List.map_cons,List.map_nil,Ww,List.not_mem_nil,or_false] at hj
   subst hj
   exact⟨.inr ⟨rfl, .inr rfl⟩,fun _ _ _=>(by decide:(2:Int)≠1),fun _ _=>(by decide:(2:Int)≠1),fun _ _=>(by decide:(2:Int)≠1)⟩
 ·simp only[exU,Ww,List.not_mem_nil,or_false] at hu
  rcases hu with rfl|rfl|rfl
  ·exact⟨ZcT.1⟩
  ·exact⟨ZcT.2.1⟩
  ·exact⟨ZcT.2.2⟩
 ·simp only[exU,Ww,List.not_mem_nil,or_false] at hu
  rcases hu with rfl|rfl|rfl <;> exact⟨rfl,rfl⟩
end
section
theorem divInt1 (n:Int):Rat.divInt n 1=(n:Rat):=by
 rw[Rat.divInt_eq_div]
 have h:((1:Int):Rat)=1:=rfl
 rw[h]
 grind
instance ZvH (n:Int):SpecC prog 61 [.int .i64 n] (vR (wl n)) (-9223372036854775808<=n/\n<=9223372036854775807):=⟨fun hp w=>by
 have p1:(1:Int)≠0/\(-9223372036854775808<=n/\n<=9223372036854775807)/\(-9223372036854775808<=(1:Int)/\(1:Int)<=9223372036854775807):=by omega
 refine Zb Tryz.func61 rfl Tryz.ntmps61 rfl ?_
 repeat(first|(refine wkB ?_;intros)|(refine wnM ?_ ?_;(focus(exact p1));intros))
 simp only[divInt1]
 exact rtC rfl rfl⟩
set_option maxHeartbeats 8000000 in
theorem Zhy (w:World):Calls prog 60 [].toArray w (RetM (SlS rP 21 exU) (fun s=>vSl s) (fun s=>mS 46 s) w):=by
 refine Zb Tryz.func60 rfl Tryz.ntmps60 rfl ?_
 repeat(first|(refine wkB ?_;intros)|(refine wnM ?_ ?_;(focus(decide));intros))
 rename_i b
 exact ZA rfl rfl (fun w hw=>⟨SlS.at_ b 3 [] ⟨Wl _,rfl⟩ (by decide),rfl,hw⟩)
instance Zty (w0:World)(L:List Blk):SpecR prog w0 L 60 [] (SlS rP 21 exU) (fun s=>vSl s) (fun s=>mS 46 s) True:=⟨fun _ w _=>Zhy w⟩
instance lst2 {α:Type}{enc:α->Array Value}{k:Nat}{x y:α}{sp:List Value}[he:EncC enc k](w0:World)(L:List Blk)(b c:Nat)(T:TypeId)[h:AtC w0 L b (row enc [x,y] sp) T]:LstC w0 L (.slice (some ⟨b,0,none⟩) 2 (c+2)) α enc [x,y]:=⟨fun w hw=>by
 obtain⟨fz,hb⟩:=h.out w hw
 exact ZbF (c:=c+2) hb (Nat.le_add_left 2 c)⟩
end
section
theorem Zo5 {n:Int}(h:M (n:Rat)<=1):RlB 1048576 (wl n):=(ZlO h (Wl _)).mono (by decide)
theorem Zn0 :∀u∈exU,IvOk 1048576 u.In:=fun u hu=>by
 simp only[exU,Ww,List.not_mem_nil,or_false] at hu
 rcases hu with rfl|rfl|rfl <;> exact⟨Zo5 (by decide),Zo5 (by decide)⟩
set_option maxHeartbeats 16000000 in
theorem Zix (w:World):Calls prog 13 [].toArray w (Ret (.bool true) w):=by
 have i1:CtC (mpN toU exU exU.length) (wl 4) 0:=⟨ZqU⟩
 have i2:AtC' (mpN toU exU exU.length) (ri (wl 4)) (some 2):=⟨ZsN⟩
 have hk:=ZcT
 have p1:exU.length<=1048576/\RlB KR (wl 4)/\∀u∈mpN toU exU exU.length,IvOk BQ u.In:=⟨by decide,ZcG (by decide),fun u hu=>by
  rw[ZrA] at hu
  simp only[exT,Ww,List.not_mem_nil,or_false] at hu
  rcases hu with rfl|rfl|rfl
  ·exact hk.1
  ·exact hk.2.1
  ·exact hk.2.2⟩
 have p2:exU.length<=1048576/\SwOk (whL exU 1 exU.length) []:=⟨by decide,by rw[ZoD];exact ZsS⟩
 have p3:exU.length<=1048576:=by decide
 have p4:NrP (mpN toU nmU nmU.length)/\∀u∈mpN toU nmU nmU.length,UIn u:=⟨.inl (by rw[ZaF];decide),ZoY⟩
 have p5:PFineI exU:=⟨Zqd.nf,fun u hu=>Zn0 u hu,by decide⟩
 refine Zb Tryz.func13 rfl Tryz.ntmps13 rfl ?_
 repeat(first|(refine wkB ?_;intros)|(refine wnM ?_ ?_;(focus(first|exact p1|exact p2|exact p3|exact p4|exact p5|decide));intros))
 rename_i sx sw sf bn sn
 obtain⟨u,hu,ho⟩:=Zr0
 have hwh:swpR kpU (whL exU 1 exU.length) []=[kI0,kI2]:=by rw[ZoD,Zqb]
 obtain⟨sn',f1,f2⟩:=SlS.turn 46 hu sn
 obtain⟨sw',f3,f4⟩:=SlS.turn 37 hwh sw
 obtain⟨sf',f5,f6⟩:=SlS.turn 35 (show flL exU 1 2 (exU.length-1)=[wl 4] from ZtK) sf
 have he:nrmE (mpN toU nmU nmU.length)=0:=Zrq
 rw[show vSl sn=vSl sn' from f1.symm,show mS 46 sn=mS 46 sn' from f2.symm]
 simp only[show nrmE (mpN toU [⟨⟨wl 2,wl 3,true,true⟩,5⟩,⟨⟨Zaf,wl 2,false,false⟩,5⟩] ([⟨⟨wl 2,wl 3,true,true⟩,5⟩,⟨⟨Zaf,wl 2,false,false⟩,5⟩]:List PU).length)=0 from Zrq,<-f3,<-f4,<-f5,<-f6,Option.getD_some,Option.isSome_some]
 rcases sx.cases 46 with⟨y0,y1,y2⟩|⟨bx,cx,spx,hcx,y1,y2,yne⟩
 ·cases y0
 rcases sw'.cases 37 with⟨z0,z1,z2⟩|⟨bw,cw,spw,hcw,z1,z2,zne⟩
 ·cases z0
 rcases sf'.cases 35 with⟨x0,x1,x2⟩|⟨bf,cf,spf,hcf,x1,x2,xne⟩
 ·cases x0
 rcases sn'.cases 46 with⟨v0,v1,v2⟩|⟨bm,cm,spm,hcm,v1,v2,vne⟩
 ·cases v0
 simp only[y1,y2,z1,z2,x1,x2,v1,v2,Wf,Wg]
 have hLx:∀L [h:AtC w L bx (row rP exU spx) 46],LstC w L (.slice (some ⟨bx,0,none⟩) exU.length cx) PU rP exU:=fun L h=>⟨fun w' hw'=>by
  obtain⟨fz,hb⟩:=h.out w' hw'
  exact ZbF (c:=cx) hb hcx.1⟩
 have g1:(1:Int)<([kI0,kI2].length:Nat):=by decide
 have g2:(2:Int)<(exU.length:Nat):=by decide
 have g3:(0:Int)<([wl 4].length:Nat):=by decide
 have g4:(0:Int)<([u].length:Nat):=by simp
 have d1:((([kI0,kI2]:List Za).length:Nat):Int)=2:=rfl
 have d2:gi [kI0,kI2] 1=(gi exU 2).In:=rfl
 have d3:((([wl 4]:List Rl).length:Nat):Int)=1:=rfl
 have d4:gi [wl 4] 0=wl 4:=rfl
 have d5:((([u]:List PU).length:Nat):Int)=1:=rfl
 have d6:(gi [u] 0).In.OpenTo=true:=ho
 have d7:(((cmI' (lbL exU)).length:Nat):Int)=3:=by rw[Zub];rfl
 (refine ZG (.v [0,1,2,3,4,5,6,7,8,9,10,11,12,13,14,15,16,17,18,19,20,21,22,23,24,25,26,27,28,29,30,31,32,33,34,35,36,37,38,39,40,41,42,43,44,45,46,47,48,49,50,51,52,53,54] (.e1 55 (.v [56,57,58] (.e1 59 (.fin))))) ([⟨bm,row rP [u] spm,46⟩,⟨bf,row Zu [wl 4] spf,35⟩,⟨bw,row rI [kI0,kI2] spw,37⟩,⟨bx,row rP exU spx,46⟩]) (h:=?_);refine wkX ?_)
 (repeat(first|refine wkH ?_|(refine tC rfl rfl ?_ ?_;focus(first|exact p5|decide))))
 try simp only[Wc (rfl:(0:Int)=0)]
 (repeat(first|refine wkH ?_|(refine tC rfl rfl ?_ ?_;focus(first|exact p5|decide))))
 try simp only[Wc (rfl:(2:Int)=2)]
 (repeat(first|refine wkH ?_|(refine tC rfl rfl ?_ ?_;focus(first|exact p5|decide))))
 try simp only[Wc d1]
 (repeat(first|refine wkH ?_|(refine tC rfl rfl ?_ ?_;focus(first|exact p5|decide))))
 try simp only[Wc d2]
 (repeat(first|refine wkH ?_|(refine tC rfl rfl ?_ ?_;focus(first|exact p5|decide))))
 try simp only[Wc d3]
 (repeat(first|refine wkH ?_|(refine tC rfl rfl ?_ ?_;focus(first|exact p5|decide))))
 try simp only[Wc d4]
 (repeat(first|refine wkH ?_|(refine tC rfl rfl ?_ ?_;focus(first|exact p5|decide))))
 try simp only[Wc d5]
 (repeat(first|refine wkH ?_|(refine tC rfl rfl ?_ ?_;focus(first|exact p5|decide))))
 try simp only[d6]
 (repeat(first|refine wkH ?_|(refine tC rfl rfl ?_ ?_;focus(first|exact p5|decide))))
 repeat(first|(refine wkT ?_;intros)|(refine tC rfl rfl ?_ ?_;focus(exact p3))|(refine uC rfl rfl ?_ ?_;focus(exact p3))|(refine eN rfl rfl ?_ ?_;(focus(exact p3));intro _;(try simp only[Wf,Wg,Wh])))
 try simp only[Wc d7]
 repeat(refine wkT ?_;intros)
 repeat(refine wkB ?_;intros)
 exact rtT rfl rfl
instance Zu9 :SpecC prog 13 [] (.bool true) True:=⟨fun _ w=>Zix w⟩
end
end Go.Vt
