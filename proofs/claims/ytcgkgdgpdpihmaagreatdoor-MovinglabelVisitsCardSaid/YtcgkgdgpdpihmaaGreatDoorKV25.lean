/- For any moving label and any length, Visits returns the labels of the units without repetitions, and Longer the units that last at least so long. Conditions: none. (part 25 of 27.) Conditions: those that each statement names. -/
import Derived.Test.YtcgkgdgpdpihmaaGreatDoorProg
import Derived.Test.YtcgkgdgpdpihmaaGreatDoorKV22
import Derived.Test.YtcgkgdgpdpihmaaGreatDoorKV24
set_option linter.unusedSimpArgs false
set_option linter.unusedVariables false
set_option maxHeartbeats 2000000
set_option maxRecDepth 100000
namespace Go.Vt
open Go.RowKit Go.Proofs
open Go.Proofs.Tryz (prog)
set_option maxHeartbeats 32000000 in
theorem lvisits_spec (v1:Value)(l1:List St)(f:Fc)(w:World)(hf:FcOk f)(hv1:ArgS w v1 rSt l1)(hl1:l1.length<=9223372036854775807)(hk1:∀x∈l1,StOk x):
  Calls prog 6 [v1,vFc f].toArray w (Ret (.bool true) w):=by
 have:=ArgC.mk hv1
 have hm1:=Zmq l1
 have hko:=Zot hk1
 have hkl:=ZoY hk1
 have hqM:=Zpi hf
 refine Zb Tryz.func6 rfl Tryz.ntmps6 rfl ?_
 repeat(refine wkB ?_;intros)
 rename_i b3
 refine ZO (S:=(b6:Nat)×SlS rP 21 (movV l1)) (fun _=>True) (fun q=>[(5,vSl q.2),(6, .pointer (some ⟨q.1,0,none⟩))]) (fun q=>⟨q.1,Zj (Q (ratF f)),33⟩::mS 46 q.2) ?_ (fun q _=>?_)
 ·(refine ZF (.v [0,2] (.e2 1 (.v [3] (.e1 4 (.e1 5 (.e1 6 (.fin))))) 4 (.e1 1 (.v [3] (.e1 5 (.e1 6 (.fin))))))) ([⟨b3,ZE f,63⟩]) (h:=?_);refine wkX ?_)
  repeat' (first|(with_reducible refine And.intro ?_ ?_)|(with_reducible exact True.intro)|(refine wkT ?_;intros)|(refine tC rfl rfl ?_ ?_;focus(first|exact⟨hl1,hk1⟩|exact hf))|(refine uC rfl rfl ?_ ?_;focus(first|exact⟨hl1,hk1⟩|exact hf))|(refine eN rfl rfl ?_ ?_;(focus(first|exact⟨hl1,hk1⟩|exact hf));intro _;(try simp only[Wf,Wg,Wh]))|fail)
  all_goals rename_i x y
  ·exact Zd ⟨y,x⟩ trivial (by dsimp only;exact sbB) (by dsimp only;exact suB)
  ·refine ZfA List.perm_middle ?_
   exact Zd ⟨x,y⟩ trivial (by dsimp only;exact sbB) (by dsimp only;exact suB)
 obtain⟨b6,r1⟩:=q
 dsimp only
 refine Zfi (mS 46 r1++[⟨b6,Zj (Q (ratF f)),33⟩]) (List.perm_append_singleton _ _).symm ?_
 generalize movV l1=l at*
 generalize ratF f=q at*
 have hl:l.length<=1048576:=by omega
 have hq16:M q<=16:=hqM
 repeat(refine wkB ?_;intros)
 refine Z0 (S:=SlS (eI .i64) 1 (vsL l l.length)×SlS rP 21 (lwL l q l.length)) (fun _=>True) (fun o=>[(5,vSl r1),(6, .pointer (some ⟨b6,0,none⟩)),(7,vSl o.1),(8,vSl o.2)]) (fun o=>mS 3 o.1++(mS 46 o.2++(mS 46 r1++[⟨b6,Zj (Q q),33⟩]))) ?_ (fun o _=>?_)
 ·refine Zq (S:=(_:Nat)×(o1:List Int)×(o2:List PU)×(SlS (eI .i64) 1 o1×SlS rP 21 o2)) (fun s=>s.1<=l.length/\s.2.1=vsL l s.1/\s.2.2.1=lwL l q s.1) (fun s=>[(5,vSl r1),(6, .pointer (some ⟨b6,0,none⟩)),(7,vSl s.2.2.2.1),(8,vSl s.2.2.2.2),(9, .int .i64 ((s.1:Nat):Int))]) (fun s=>mS 3 s.2.2.2.1++(mS 46 s.2.2.2.2++(mS 46 r1++[⟨b6,Zj (Q q),33⟩]))) (fun s=>l.length-s.1) ⟨0,[],[],SlS.no,SlS.no⟩ ⟨Wm _,rfl,rfl⟩ sbB suB (fun s hs=>?_)
  obtain⟨i,o1,o2,s1,s2⟩:=s
  obtain⟨hi,ho1,ho2⟩:=hs
  dsimp only at hi ho1 ho2⊢
  have hn1:o1.length<=i:=by rw[ho1];exact Zfg l i
  have hn2:o2.length<=i:=by rw[ho2];exact ZiX l q i
  have he1:i=l.length->o1=vsL l l.length:=fun h=>by rw[ho1,h]
  have he2:i=l.length->o2=lwL l q l.length:=fun h=>by rw[ho2,h]
  have hx1:(if vsB o1 (gi l (i:Int)).Label=true then o1++[(gi l (i:Int)).Label] else o1)=vsL l (i+1):=by rw[ho1];rfl
  have hx2:(if lwB (gi l (i:Int)) q=true then o2++[gi l (i:Int)] else o2)=lwL l q (i+1):=by rw[ho2];rfl
  clear ho1 ho2
  repeat(refine wkB ?_;intros)
  refine Zi rfl (fun h=>?_) (fun h=>?_)
  ·have hlt:i<l.length:=by have:=Wa h;omega
   have hui:=hko (gi l (i:Int)) (Zz (by omega))
   rcases r1.cases 46 with⟨y0,y1,y2⟩|⟨br,cr,sp,hcr,y1,y2,yne⟩
   ·rw[y0] at hlt;cases hlt
   simp only[y1,y2]
   have q1:M (gi l (i:Int)).In.From.P<=268435456/\M q<=268435456:=⟨Wi hui.a.p (by decide),Wi hq16 (by decide)⟩
   have q2:RlB B28 (shR (gi l (i:Int)).In.From q)/\RlB B28 (gi l (i:Int)).In.To:=⟨(ZnP (hui.a.mono (show 3<=16 by decide)) hq16).mono (by decide),hui.b.mono (by decide)⟩
   repeat(refine wkB ?_;intros)
   refine ZO (S:={z:Bool // z=vsB o1 (gi l (i:Int)).Label}) (fun _=>True) (fun z=>[(37, .bool z.1),(5, .slice (some ⟨br,0,none⟩) l.length cr),(6, .pointer (some ⟨b6,0,none⟩)),(7,vSl s1),(8,vSl s2),(9, .int .i64 (i:Nat))]) (fun _=>mS 3 s1++(mS 46 s2++[⟨br,row rP l sp,46⟩,⟨b6,Zj (Q q),33⟩])) ?_ (fun z _=>?_)
   ·rcases s1.cases 3 with⟨z0,z1,z2⟩|⟨bo,co,so,hco,z1,z2,zne⟩
    ·simp only[z1,z2,Wg]
     refine jD 15 15 (h:=?_)
     (repeat(refine wkH ?_))
     simp only[Wc (show((o1.length:Nat):Int)=0 by rw[z0];rfl)]
     (repeat(refine wkH ?_))
     refine Zo ?_
     refine Zr ?_
     repeat(refine wkB ?_;intros)
     exact Zd ⟨true,by unfold vsB;rw[Wc (show((o1.length:Nat):Int)=0 by rw[z0];rfl)];rfl⟩ trivial (by(try simp only[z1]);exact sbB) (by(try simp only[z2]);exact suB)
    ·have hpo:0<o1.length:=List.length_pos_iff.2 zne
     simp only[z1,z2,Wf,Wg]
     refine jD 15 15 (h:=?_)
     (repeat(refine wkH ?_))
     simp only[We (show¬((o1.length:Nat):Int)=0 by omega)]
     (repeat(refine wkH ?_))
     refine Zo ?_
     refine Zr ?_
     repeat(refine wkB ?_;intros)
     exact Zd ⟨_,by unfold vsB;rw[We (show¬((o1.length:Nat):Int)=0 by omega),Bool.false_or]⟩ trivial (by(try simp only[z1]);exact sbB) (by(try simp only[z2,Wf,Wg]);exact suB)
   obtain⟨z,hz⟩:=z
   dsimp only
   rw[<-hz] at hx1
   clear hz
   refine ZO (S:=SlS (eI .i64) 1 (vsL l (i+1))) (fun _=>True) (fun s=>[(5, .slice (some ⟨br,0,none⟩) l.length cr),(6, .pointer (some ⟨b6,0,none⟩)),(7,vSl s),(8,vSl s2),(9, .int .i64 (i:Nat))]) (fun s=>mS 3 s++(mS 46 s2++[⟨br,row rP l sp,46⟩,⟨b6,Zj (Q q),33⟩])) ?_ (fun s _=>?_)
   ·cases z with
    |true=>
     simp only[if_true] at hx1
     repeat(refine wkB ?_;intros)
     refine sU (k:=1) (enc:=eI .i64) (s:=s1) rfl rfl ?_ ?_ ?_ ?_
     ·rfl
     ·rfl
     ·exact⟨by decide,by omega,by omega⟩
     intro s0
     obtain⟨s',f1,f2⟩:=SlS.turn 3 hx1 s0
     repeat(refine wkB ?_;intros)
     exact Zd s' trivial (by rw[f1];exact sbB) (by rw[f2];exact suB)
    |false=>
     simp only[Bool.false_eq_true,if_false] at hx1
     obtain⟨s',f1,f2⟩:=SlS.turn 3 hx1 s1
     repeat(refine wkB ?_;intros)
     exact Zd s' trivial (by rw[f1];exact sbB) (by rw[f2];exact suB)
   repeat(refine wkB ?_;intros)
   refine ZO (S:={z:Bool // z=lwB (gi l (i:Int)) q}) (fun _=>True) (fun z=>[(61, .bool z.1),(5, .slice (some ⟨br,0,none⟩) l.length cr),(6, .pointer (some ⟨b6,0,none⟩)),(7,vSl s),(8,vSl s2),(9, .int .i64 (i:Nat))]) (fun _=>mS 3 s++(mS 46 s2++[⟨br,row rP l sp,46⟩,⟨b6,Zj (Q q),33⟩])) ?_ (fun z _=>?_)
   ·refine jD 16 16 (h:=?_)
    (repeat(first|refine wkH ?_|(refine tC rfl rfl ?_ ?_;focus(first|exact q1|exact q2))))
    refine Zo ?_
    refine Zr ?_
    repeat(refine wkB ?_;intros)
    exact Zd ⟨_,rfl⟩ trivial sbB suB
   obtain⟨z,hz⟩:=z
   dsimp only
   rw[<-hz] at hx2
   clear hz
   cases z with
   |true=>
    simp only[if_true] at hx2
    repeat(refine wkB ?_;intros)
    refine sU (k:=21) (enc:=rP) (s:=s2) rfl rfl ?_ ?_ ?_ ?_
    ·rfl
    ·rfl
    ·exact⟨by decide,by omega,by omega⟩
    intro s'
    repeat(first|(refine wkB ?_;intros)|(refine wnM ?_ ?_;(focus(exact⟨by omega,by omega⟩));intros))
    refine ZfA (List.perm_middle.trans ((List.perm_append_comm_assoc _ _ _).cons _)) ?_
    exact Ze ⟨i+1,_,_,s,s'⟩ ⟨hlt,rfl,hx2⟩ (by(try simp only[y1]);exact sbB) (by(try simp only[y2,Wf,Wg]);exact suB) (by show l.length-(i+1)<l.length-i;omega)
   |false=>
    simp only[Bool.false_eq_true,if_false] at hx2
    repeat(first|(refine wkB ?_;intros)|(refine wnM ?_ ?_;(focus(exact⟨by omega,by omega⟩));intros))
    exact Ze ⟨i+1,_,_,s,s2⟩ ⟨hlt,rfl,hx2⟩ (by(try simp only[y1]);exact sbB) (by(try simp only[y2,Wf,Wg]);exact suB) (by show l.length-(i+1)<l.length-i;omega)
  ·have hge:i=l.length:=by have:=Wb h;omega
   obtain⟨s1',f1,f2⟩:=SlS.turn 3 (he1 hge) s1
   obtain⟨s2',g1,g2⟩:=SlS.turn 46 (he2 hge) s2
   repeat(refine wkB ?_;intros)
   exact Zd (s1',s2') trivial (by dsimp only;rw[f1,g1];exact sbB) (by dsimp only;rw[f2,g2];exact suB)
 obtain⟨o1,o2⟩:=o
 dsimp only
 have hvs:vsL l l.length=cmI' (lbL l):=by
  rw[ZkO l _ (Wl _)]
  unfold cmI' lbL
  rw[ZaE]
 have hlw:lwL l q l.length=lgL l q l.length:=(ZkL (fun u hu=>⟨hkl u hu,(hko u hu).a.o⟩) _ (Wl _)).symm
 have hc1:(cmI' (lbL l)).length<=l.length:=by rw[<-hvs];exact Zfg l l.length
 have hc2:=Zfa l q l.length
 obtain⟨o1',f1,f2⟩:=SlS.turn 3 hvs o1
 obtain⟨o2',g1,g2⟩:=SlS.turn 46 hlw o2
 simp only[<-f1,<-f2,<-g1,<-g2]
 have q3:l.length<=1048576/\M q<=16/\∀u∈l,IvOk 3 u.In:=⟨hl,hq16,hko⟩
 have q4:(cmI' (lbL l)).length<=1048576/\(cmI' (lbL l)).length<=1048576:=⟨by omega,by omega⟩
 have q5:(lgL l q l.length).length<=1048576/\(lgL l q l.length).length<=1048576:=⟨by omega,by omega⟩
 repeat(first|(refine wkB ?_;intros)|(refine wnM ?_ ?_;(focus(first|exact hl|exact q3|exact q4|exact q5));intros))
 simp only[Wc (rfl:cmI' (lbL l)=cmI' (lbL l))]
 repeat(first|(refine wkB ?_;intros)|(refine wnM ?_ ?_;(focus(first|exact hl|exact q3|exact q4|exact q5));intros))
 simp only[Wc (rfl:lgL l q l.length=lgL l q l.length)]
 repeat(refine wkB ?_;intros)
 exact rtT rfl rfl
end Go.Vt
namespace Go.Proofs.YtcgkgdgpdpihmaaGreatDoor
open Go.ChangeShapes Go.WideShapes Go.ChangeAt Go.RowKit Go.Deep
def visArgs :Array Value:=#[.slice none 0 0, .agg #[.int .i64 0, .int .i64 0, .int .u8 0, .int .u8 0]]
theorem ZoW (os:Os)(args:Array Value):laidMet Tryz.prog Rows.movinglabelVisitsRow.laid ((laidWorld os).forCall (fun _ _=>0) ⟨#[],args,[]⟩).memory:=
 laidMet_of_run3 8 (by kernel_rfl) (by kernel_rfl) (by kernel_rfl)
theorem Zln (os:Os){H:Type}(enc:TypeId×Value->H):∃places,DataW.whole enc Tryz.prog ((laidWorld os).forCall (fun _ _=>0) ⟨#[],visArgs,[]⟩).memory Tryz.f6.params.toList Rows.movinglabelVisitsSpec.vars false visArgs.toList 8=some ([.nil, .agg [.lit (.int .i64 0), .lit (.int .i64 0), .lit (.int .u8 0), .lit (.int .u8 0)]],[],places):=
 ⟨[],by kernel_rfl⟩
theorem Zhq (H:Type)(enc:TypeId×Value->H)(W:World)(base:Nat)(args:Array Value)(ds gs:List (DataW H))(before:List MemPlace)
  (hval:∀(j:Nat) t v,Tryz.f6.params[j]? =some t->args[j]? =some v->Value.okWide Tryz.prog W .any base t v)
  (hW:DataW.Whole enc Tryz.prog Tryz.f6.params.toList Rows.movinglabelVisitsSpec.vars false W args.toList ds gs before):
  Calls Tryz.prog 6 args W fun e W'=>∃v,e= .returned v/\Rows.movinglabelVisitsSpec.post enc Tryz.prog Tryz.f6 false true false false W args v W':=by
 have hW':=hW
 obtain⟨p,q,hA0,hV,rfl,hfz,hnd⟩:=hW
 have hA:DataW.TrodAll enc Tryz.prog W 0 (fun _=>true) true Tryz.f6.params.toList args.toList ds p:=hA0
 rw[Tryz.params6] at hA hval
 obtain⟨v0,vs0,d0,ds0,p0,q0,hargs0,rfl,rfl,h0,r0⟩:=trodAll_cons hA
 obtain⟨v1,vs1,d1,ds1,p1,q1,hargs1,rfl,rfl,h1,r1⟩:=trodAll_cons r0
 subst hargs1
 obtain⟨rfl,rfl,rfl⟩:=trodAll_nil r1
 obtain rfl:args=#[v0,v1]:=by cases args;simp_all
 obtain⟨rfl,rfl⟩:=trodVars_none hV
 clear hA0
 simp only[List.append_nil] at hW'
 have hlt:∀x∈p0++(p1),x.block<W.heap.size:=fun x hx=>by simpa using hW'.lt x hx
 have h0k:=h0
 have h1k:=h1
 obtain⟨fuel0,hf0⟩:=h0
 obtain⟨ws0,hws0,hok0,hlen0⟩:=Zmu (okWide_slice Tryz.underlying23 (hval 0 23 v0 rfl rfl)) hf0
 obtain⟨x1,rfl,g1⟩:=Zjy (hval 1 63 v1 rfl rfl) h1
 refine(Go.Vt.lvisits_spec v0 ws0 x1 W g1 hws0 hlen0 hok0).mono fun e' W' ⟨he',⟨hb,_⟩⟩=>?_
 subst he'
 exact⟨_,rfl,⟨_,_,_,[],_,[],hW',trodAll_mk1 (shut_bool Tryz.underlying4 _),trodAll_mk2 (Below.trod rlaidOut (by kernel_rfl) (of_decide_eq_true (by kernel_rfl)) h0k hb (fun x hx=>hlt x (List.mem_append_left _ hx))) (Below.trod rlaidOut (by kernel_rfl) (of_decide_eq_true (by kernel_rfl)) h1k hb (fun x hx=>hlt x (List.mem_append_right _ (hx)))),(by first|rfl|(simp;done)),hb.frame _,fun h=>by cases h⟩⟩
theorem vis_lifted (os:Os)(started:os.Started)(H:Type)(enc:TypeId×Value->H)(F:Stop.Interp):
  ReturnsInHanded {} Tryz.checked os 6 .any ((OpenSpec.ofChange Rows.movinglabelVisitsSpec).preRow enc Tryz.prog Tryz.f6 Rows.movinglabelVisitsRow.domain false Rows.movinglabelVisitsRow.laid) (((OpenSpec.ofChange Rows.movinglabelVisitsSpec).at F).post enc Tryz.prog Tryz.f6 false true false false):=by
 obtain⟨places,hx⟩:=Zln os enc
 refine returnsInHanded_of_row (C:=Tryz.checked) (s:=OpenSpec.ofChange Rows.movinglabelVisitsSpec) rown started (by kernel_rfl) Tryz.func6
  (witness_row_at (enc:=enc) (C:=Tryz.checked) false (laidWorld os) visArgs rfl (by kernel_rfl) (by kernel_rfl) (by kernel_rfl)
   (OpenSpec.preRow_of_cond 8 hx (by kernel_rfl) (fun k hk=>by cases hk) (by kernel_rfl) (ZoW os _))) ?_
 intro W base args ds gs before hval hW _ _ _ _ _ _
 exact Zhq H enc W base args ds gs before hval hW
end Go.Proofs.YtcgkgdgpdpihmaaGreatDoor
