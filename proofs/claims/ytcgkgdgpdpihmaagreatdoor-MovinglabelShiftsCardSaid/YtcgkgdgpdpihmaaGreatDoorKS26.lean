/- For any moving label, any fraction and any instant, Shift moves the labels in time, and back by the opposite fraction. Conditions: none. (part 26 of 28.) Conditions: those that each statement names. -/
import Derived.Test.YtcgkgdgpdpihmaaGreatDoorProg
import Derived.Test.YtcgkgdgpdpihmaaGreatDoorKS22
import Derived.Test.YtcgkgdgpdpihmaaGreatDoorKS24
import Derived.Test.YtcgkgdgpdpihmaaGreatDoorKS25
set_option linter.unusedSimpArgs false
set_option linter.unusedVariables false
set_option maxHeartbeats 2000000
set_option maxRecDepth 100000
namespace Go.Vt
open Go.RowKit Go.Proofs
open Go.Proofs.Tryz (prog)
instance sbpOwnH {α:Type}{enc:α->Array Value}{k:Nat}{xs:List α}(T:TypeId)(s:SlS enc k xs)(A L L1:List Blk)[h:OwnS T s L L1][g:SbpC A L1]:SbpC (mS T s++A) L:=⟨by
 obtain⟨L',hp⟩:=g.out
 exact⟨L',h.out.trans (by rw[List.append_assoc];exact hp.append_left _)⟩⟩
attribute [local irreducible] movV
set_option maxHeartbeats 32000000 in
theorem lshifts_spec (v1:Value)(l1:List St)(f:Fc)(x:WI)(w:World)(hf:FcOk f)(hx:WIOk x)(hv1:ArgS w v1 rSt l1)(hl1:l1.length<=9223372036854775807)(hk1:∀x∈l1,StOk x):
  Calls prog 7 [v1,vFc f,vWI x].toArray w (Ret (.bool true) w):=by
 have:=ArgC.mk hv1
 have ha:=Zqr hk1
 have hqM:=Zr7 hf
 have hxB:=ZdP hx
 refine Zb Tryz.func7 rfl Tryz.ntmps7 rfl ?_
 repeat(refine wkB ?_;intros)
 rename_i b4 b5
 refine ZS (S:=(b8:Nat)×(b9:Nat)×SlS rP 21 (movV l1)) (fun _=>True) (fun q=>[(6, .bool false),(7,vSl q.2.2),(8, .pointer (some ⟨q.1,0,none⟩)),(9, .pointer (some ⟨q.2.1,0,none⟩))]) (fun q=>mS 46 q.2.2++[⟨q.1,Zj (Q (ratF f)),33⟩,⟨q.2.1,Zd (Ze (insT x)),35⟩]) ?_ (fun q _=>?_)
 ·(refine ZfP (.v [0,2,4] (.br 1 (.v [3,5] (.br 6 (.br 7 (.br 8 (.br 9 (.br 10 (.fin) (.no)) (.no)) (.no)) (.no)) (.br 7 (.br 6 (.br 8 (.br 9 (.br 10 (.fin) (.no)) (.no)) (.no)) (.no)) (.no)))) (.br 6 (.br 1 (.v [3,5] (.br 7 (.br 8 (.br 9 (.br 10 (.fin) (.no)) (.no)) (.no)) (.no))) (.br 7 (.br 1 (.v [3,5] (.br 8 (.br 9 (.br 10 (.fin) (.no)) (.no)) (.no))) (.no)) (.no))) (.br 7 (.br 1 (.v [3,5] (.br 6 (.br 8 (.br 9 (.br 10 (.fin) (.no)) (.no)) (.no)) (.no))) (.br 6 (.br 1 (.v [3,5] (.br 8 (.br 9 (.br 10 (.fin) (.no)) (.no)) (.no))) (.no)) (.no))) (.no))))) ([⟨b5,ZD x,40⟩,⟨b4,ZH f,63⟩]) (h:=?_);refine wkQ ?_)
  repeat' (first|(with_reducible refine And.intro ?_ ?_)|(with_reducible exact True.intro)|(refine wkT ?_;intros)|(refine tC rfl rfl ?_ ?_;focus(first|exact⟨hl1,hk1⟩|exact hf|exact hx))|(refine uC rfl rfl ?_ ?_;focus(first|exact⟨hl1,hk1⟩|exact hf|exact hx))|(refine eN rfl rfl ?_ ?_;(focus(first|exact⟨hl1,hk1⟩|exact hf|exact hx));intro _;(try simp only[Wf,Wg,Wh]))|fail)
  all_goals rename_i p q r
  all_goals first
   |exact Zai ⟨p,q,r⟩ trivial (by dsimp only;exact sbB) inferInstance
   |exact Zai ⟨q,p,r⟩ trivial (by dsimp only;exact sbB) inferInstance
   |exact Zai ⟨p,r,q⟩ trivial (by dsimp only;exact sbB) inferInstance
   |exact Zai ⟨q,r,p⟩ trivial (by dsimp only;exact sbB) inferInstance
   |exact Zai ⟨r,p,q⟩ trivial (by dsimp only;exact sbB) inferInstance
   |exact Zai ⟨r,q,p⟩ trivial (by dsimp only;exact sbB) inferInstance
 obtain⟨b8,b9,r1⟩:=q
 dsimp only
 generalize movV l1=a at*
 generalize ratF f=q at*
 generalize insT x=t at*
 have na:=ha.nf.len
 have ha16:∀u∈a,IvOk 16 u.In:=fun u hu=>(ha.nf.k u hu).mono (by decide)
 obtain⟨s1,s2,s3,s4⟩:=ZiY (K:=16) (by decide) ha.nf.nf ha16 hqM (by omega)
 have hmn:(a.map (shP q)).length=a.length:=Ws _
 have hback:=ZmJ q a
 have hq':M (-q)<=33:=by rw[Zj7];omega
 obtain⟨t1,t2,t3,t4⟩:=ZiY (K:=33) (q:= -q) (by decide) s3 s4 hq' (by omega)
 rw[hback] at t2
 have hat:=Zr6 (l:=a) (t:=t) (fun u hu=>(ha.nf.k u hu).cn) hxB.o q
 have p2:a.length<=1048576/\(∀u∈a,IvOk B28 u.In)/\RtB t:=⟨by omega,fun u hu=>(ha.nf.k u hu).mono (by decide),hxB.mono (by decide)⟩
 have p3:M t.P<=268435456/\M q<=268435456:=⟨Wi hxB.p (by decide),Wi hqM (by decide)⟩
 have hxS:RlB 33 (shR t q):=ZkH (hxB.mono (show 3<=16 by decide)) hqM
 have p5:PFineI (a.map (shP q)):=⟨s3,fun u hu=>(s4 u hu).mono (by decide),by omega⟩
 have p6:a.length<=1048576/\a.length<=1048576:=⟨by omega,by omega⟩
 rw[<-s2] at s4 t1 t2 hat p5 hmn
 have p4:(mshR q a).length<=1048576/\(∀u∈mshR q a,IvOk B28 u.In)/\RtB (shR t q):=⟨by omega,fun u hu=>(s4 u hu).mono (by decide),hxS.mono (by decide)⟩
 repeat(first|(refine wkB ?_;intros)|(refine wnM ?_ ?_;(focus(exact s1));intros))
 rename_i s
 clear s1 s2 s3
 generalize mshR q a=m at*
 repeat(first|(refine wkB ?_;intros)|(refine wnM ?_ ?_;(focus(first|exact p2|exact p3|exact p4));intros))
 rw[hat]
 generalize (atL a t).getD 0=av at*
 generalize (atL a t).isSome=bv at*
 repeat(first|(refine wkB ?_;intros)|(refine wnM ?_ ?_;(focus(exact p5));intros))
 try simp only[Wc (rfl:(0:Int)=0)]
 repeat(refine wkB ?_;intros)
 try simp only[Wc (rfl:av=av)]
 repeat(refine wkB ?_;intros)
 have hz:decide (bv=bv)=true:=by simp
 try simp only[hz,beq_self_eq_true]
 have p7:(mshR (-q) m).length<=1048576/\a.length<=1048576:=⟨by rw[t2];omega,by omega⟩
 repeat(first|(refine wkB ?_;intros)|(refine wnM ?_ ?_;(focus(first|exact t1|exact p7));intros))
 simp only[Wc t2]
 repeat(refine wkB ?_;intros)
 exact rtT rfl rfl
end Go.Vt
namespace Go.Proofs.YtcgkgdgpdpihmaaGreatDoor
open Go.ChangeShapes Go.WideShapes Go.ChangeAt Go.RowKit Go.Deep
def shiArgs :Array Value:=#[.slice none 0 0, .agg #[.int .i64 0, .int .i64 0, .int .u8 0, .int .u8 0], .agg #[.int .u8 0, .int .u8 0, .int .u8 0, .int .u8 0, .bool false]]
theorem Zpu (os:Os)(args:Array Value):laidMet Tryz.prog Rows.movinglabelShiftsRow.laid ((laidWorld os).forCall (fun _ _=>0) ⟨#[],args,[]⟩).memory:=
 laidMet_of_run3 8 (by kernel_rfl) (by kernel_rfl) (by kernel_rfl)
theorem ZkW (os:Os){H:Type}(enc:TypeId×Value->H):∃places,DataW.whole enc Tryz.prog ((laidWorld os).forCall (fun _ _=>0) ⟨#[],shiArgs,[]⟩).memory Tryz.f7.params.toList Rows.movinglabelShiftsSpec.vars false shiArgs.toList 8=some ([.nil, .agg [.lit (.int .i64 0), .lit (.int .i64 0), .lit (.int .u8 0), .lit (.int .u8 0)], .agg [.lit (.int .u8 0), .lit (.int .u8 0), .lit (.int .u8 0), .lit (.int .u8 0), .lit (.bool false)]],[],places):=
 ⟨[],by kernel_rfl⟩
theorem ZhH (H:Type)(enc:TypeId×Value->H)(W:World)(base:Nat)(args:Array Value)(ds gs:List (DataW H))(before:List MemPlace)
  (hval:∀(j:Nat) t v,Tryz.f7.params[j]? =some t->args[j]? =some v->Value.okWide Tryz.prog W .any base t v)
  (hW:DataW.Whole enc Tryz.prog Tryz.f7.params.toList Rows.movinglabelShiftsSpec.vars false W args.toList ds gs before):
  Calls Tryz.prog 7 args W fun e W'=>∃v,e= .returned v/\Rows.movinglabelShiftsSpec.post enc Tryz.prog Tryz.f7 false true false false W args v W':=by
 have hW':=hW
 obtain⟨p,q,hA0,hV,rfl,hfz,hnd⟩:=hW
 have hA:DataW.TrodAll enc Tryz.prog W 0 (fun _=>true) true Tryz.f7.params.toList args.toList ds p:=hA0
 rw[Tryz.params7] at hA hval
 obtain⟨v0,vs0,d0,ds0,p0,q0,hargs0,rfl,rfl,h0,r0⟩:=trodAll_cons hA
 obtain⟨v1,vs1,d1,ds1,p1,q1,hargs1,rfl,rfl,h1,r1⟩:=trodAll_cons r0
 obtain⟨v2,vs2,d2,ds2,p2,q2,hargs2,rfl,rfl,h2,r2⟩:=trodAll_cons r1
 subst hargs2
 subst hargs1
 obtain⟨rfl,rfl,rfl⟩:=trodAll_nil r2
 obtain rfl:args=#[v0,v1,v2]:=by cases args;simp_all
 obtain⟨rfl,rfl⟩:=trodVars_none hV
 clear hA0
 simp only[List.append_nil] at hW'
 have hlt:∀x∈p0++(p1++(p2)),x.block<W.heap.size:=fun x hx=>by simpa using hW'.lt x hx
 have h0k:=h0
 have h1k:=h1
 have h2k:=h2
 obtain⟨fuel0,hf0⟩:=h0
 obtain⟨ws0,hws0,hok0,hlen0⟩:=Zn8 (okWide_slice Tryz.underlying23 (hval 0 23 v0 rfl rfl)) hf0
 obtain⟨x1,rfl,g1⟩:=Zkq (hval 1 63 v1 rfl rfl) h1
 obtain⟨x2,rfl,g2⟩:=Zks (hval 2 40 v2 rfl rfl) h2
 refine(Go.Vt.lshifts_spec v0 ws0 x1 x2 W g1 g2 hws0 hlen0 hok0).mono fun e' W' ⟨he',⟨hb,_⟩⟩=>?_
 subst he'
 exact⟨_,rfl,⟨_,_,_,[],_,[],hW',trodAll_mk1 (shut_bool Tryz.underlying4 _),trodAll_mk3 (Below.trod rlaidOut (by kernel_rfl) (of_decide_eq_true (by kernel_rfl)) h0k hb (fun x hx=>hlt x (List.mem_append_left _ hx))) (Below.trod rlaidOut (by kernel_rfl) (of_decide_eq_true (by kernel_rfl)) h1k hb (fun x hx=>hlt x (List.mem_append_right _ (List.mem_append_left _ hx)))) (Below.trod rlaidOut (by kernel_rfl) (of_decide_eq_true (by kernel_rfl)) h2k hb (fun x hx=>hlt x (List.mem_append_right _ (List.mem_append_right _ (hx))))),(by first|rfl|(simp;done)),hb.frame _,fun h=>by cases h⟩⟩
theorem shi_lifted (os:Os)(started:os.Started)(H:Type)(enc:TypeId×Value->H)(F:Stop.Interp):
  ReturnsInHanded {} Tryz.checked os 7 .any ((OpenSpec.ofChange Rows.movinglabelShiftsSpec).preRow enc Tryz.prog Tryz.f7 Rows.movinglabelShiftsRow.domain false Rows.movinglabelShiftsRow.laid) (((OpenSpec.ofChange Rows.movinglabelShiftsSpec).at F).post enc Tryz.prog Tryz.f7 false true false false):=by
 obtain⟨places,hx⟩:=ZkW os enc
 refine returnsInHanded_of_row (C:=Tryz.checked) (s:=OpenSpec.ofChange Rows.movinglabelShiftsSpec) rown started (by kernel_rfl) Tryz.func7
  (witness_row_at (enc:=enc) (C:=Tryz.checked) false (laidWorld os) shiArgs rfl (by kernel_rfl) (by kernel_rfl) (by kernel_rfl)
   (OpenSpec.preRow_of_cond 8 hx (by kernel_rfl) (fun k hk=>by cases hk) (by kernel_rfl) (Zpu os _))) ?_
 intro W base args ds gs before hval hW _ _ _ _ _ _
 exact ZhH H enc W base args ds gs before hval hW
end Go.Proofs.YtcgkgdgpdpihmaaGreatDoor
