/- For any two moving labels and any label, Is, Same and Less are the lifted comparisons. Conditions: none. (part 26 of 29.) Conditions: those that each statement names. -/
import Derived.Test.YtcgkgdgpdpihmaaGreatDoorProg
import Derived.Test.YtcgkgdgpdpihmaaGreatDoorKY19
import Derived.Test.YtcgkgdgpdpihmaaGreatDoorKY23
import Derived.Test.YtcgkgdgpdpihmaaGreatDoorKY24
import Derived.Test.YtcgkgdgpdpihmaaGreatDoorKY25
set_option linter.unusedSimpArgs false
set_option linter.unusedVariables false
set_option maxHeartbeats 2000000
set_option maxRecDepth 100000
namespace Go.Vt
open Go.RowKit Go.Proofs
open Go.Proofs.Tryz (prog)
section
theorem ZkR (v:Value)(us:List UL)(w:World)(hv:ArgS w v rU us)(hn:us=[]->v= .slice none 0 0)(hl:NrP us)(hok:∀u∈us,UIn u):
  Calls prog 136 [vLabels,v].toArray w (RetM (SlS rU 21 (nrmR us)) (fun s=>vSl s) (fun s=>mS 145 s) w):=by
 have hN:∀L,LstN w L v UL rU us:=fun L=>⟨fun w' hw'=>hv.to hw'.ext,hn⟩
 refine Zb Tryz.func136 rfl Tryz.ntmps136 rfl ?_
 repeat(first|(refine wkB ?_;intros)|(refine wnM ?_ ?_;(focus(exact⟨hl,hok⟩));intros))
 rename_i s
 exact Zo rfl rfl (fun w hw=>⟨s,rfl,hw.sub suB⟩)
instance Zyd (w0:World)(L:List Blk)(v:Value)(us:List UL)[h:LstN w0 L v UL rU us]:SpecR prog w0 L 136 [vLabels,v] (SlS rU 21 (nrmR us)) (fun s=>vSl s) (fun s=>mS 145 s) (NrP us/\∀u∈us,UIn u):=⟨fun hp w hw=>ZkR v us w (h.out w hw) h.nil hp.1 hp.2⟩
end
section
def gW (x y:Int):Int:=10*x+y
def gS (x y:Int):Int:=if x=y then 1 else 0
def gL (x y:Int):Int:=if x<y then 1 else 0
abbrev Lb (x:Int):Prop:= -1000<=x/\x<=1000
instance Zsm :CallC prog 56:=⟨by kernel_rfl⟩
instance Zwq :CallC prog 53:=⟨by kernel_rfl⟩
instance Zwm :CallC prog 140:=⟨by kernel_rfl⟩
instance Zuj :CallC prog 97:=⟨by kernel_rfl⟩
instance Zuu :CallC prog 98:=⟨by kernel_rfl⟩
instance ZuI (x y:Int):SpecC prog 56 [.int .i64 x, .int .i64 y] (.int .i64 (gW x y)) (Lb x/\Lb y):=⟨fun hp w=>by
 refine Zb Tryz.func56 rfl Tryz.ntmps56 rfl ?_
 obtain⟨⟨h1,h2⟩,h3,h4⟩:=hp
 repeat(first|(refine wkB ?_;intros)|(refine wnM ?_ ?_;(focus(exact⟨by omega,by omega⟩));intros))
 exact rtT rfl rfl⟩
instance ZAo (x y:Int):SpecC prog 53 [.int .i64 x, .int .i64 y] (.int .i64 (gS x y)) (Lb x/\Lb y):=⟨fun _ w=>by
 refine Zb Tryz.func53 rfl Tryz.ntmps53 rfl ?_
 unfold gS
 by_cases h:x=y
 ·rw[if_pos h]
  have e:=Wc h
  repeat(refine wkB ?_;intros)
  simp only[e]
  repeat(refine wkB ?_;intros)
  exact rtT rfl rfl
 ·rw[if_neg h]
  have e:=We h
  repeat(refine wkB ?_;intros)
  simp only[e]
  repeat(refine wkB ?_;intros)
  exact rtT rfl rfl⟩
instance Zzz (x y:Int):SpecC prog 97 [.int .i64 x, .int .i64 y] (.bool (decide (x=y))) True:=⟨fun _ w=>by
 refine Zb Tryz.func97 rfl Tryz.ntmps97 rfl ?_
 repeat(refine wkB ?_;intros)
 exact rtT rfl rfl⟩
instance Zxt (x y:Int):SpecC prog 98 [.int .i64 x, .int .i64 y] (.bool (decide (x<y))) True:=⟨fun _ w=>by
 refine Zb Tryz.func98 rfl Tryz.ntmps98 rfl ?_
 repeat(refine wkB ?_;intros)
 exact rtT rfl rfl⟩
instance ZBJ (f:FuncId):LdC prog 136 #[vFn f] 0 (vFn f):=⟨ZE (by kernel_rfl) rfl⟩
theorem ZhD (x y:Int)(b:Nat)(w:World)(hb:∃T fz,w.heap[b]? =some (.cells #[vFn 97] T fz)):Calls prog 140 [.int .i64 x, .int .i64 y, .pointer (some ⟨b,0,none⟩)].toArray w (Ret (.int .i64 (gS x y)) w):=by
 obtain⟨T,hb⟩:=hb
 have:=FoC.mk hb
 refine Zb Tryz.func140 rfl Tryz.ntmps140 rfl ?_
 unfold gS
 by_cases h:x=y
 ·rw[if_pos h]
  have e:=Wc h
  repeat(refine wkB ?_;intros)
  simp only[e]
  repeat(refine wkB ?_;intros)
  exact rtT rfl rfl
 ·rw[if_neg h]
  have e:=We h
  repeat(refine wkB ?_;intros)
  simp only[e]
  repeat(refine wkB ?_;intros)
  exact rtT rfl rfl
instance Zuv (w0:World)(L:List Blk)(x y:Int)(b:Nat)(T:TypeId)[h:AtC w0 L b #[vFn 97] T]:SpecM prog w0 L 140 [.int .i64 x, .int .i64 y, .pointer (some ⟨b,0,none⟩)] (.int .i64 (gS x y)) True:=⟨fun _ w hw=>ZhD x y b w ⟨T,h.out w hw⟩⟩
theorem ZhN (x y:Int)(b:Nat)(w:World)(hb:∃T fz,w.heap[b]? =some (.cells #[vFn 98] T fz)):Calls prog 140 [.int .i64 x, .int .i64 y, .pointer (some ⟨b,0,none⟩)].toArray w (Ret (.int .i64 (gL x y)) w):=by
 obtain⟨T,hb⟩:=hb
 have:=FoC.mk hb
 refine Zb Tryz.func140 rfl Tryz.ntmps140 rfl ?_
 unfold gL
 by_cases h:x<y
 ·rw[if_pos h]
  have e:=Wc h
  repeat(refine wkB ?_;intros)
  simp only[e]
  repeat(refine wkB ?_;intros)
  exact rtT rfl rfl
 ·rw[if_neg h]
  have e:=We h
  repeat(refine wkB ?_;intros)
  simp only[e]
  repeat(refine wkB ?_;intros)
  exact rtT rfl rfl
instance Zub (w0:World)(L:List Blk)(x y:Int)(b:Nat)(T:TypeId)[h:AtC w0 L b #[vFn 98] T]:SpecM prog w0 L 140 [.int .i64 x, .int .i64 y, .pointer (some ⟨b,0,none⟩)] (.int .i64 (gL x y)) True:=⟨fun _ w hw=>ZhN x y b w ⟨T,h.out w hw⟩⟩
def bU (g:Int->Int->Int)(x:UB):UL:=⟨x.In,g x.F x.G⟩
noncomputable def cmU (g:Int->Int->Int)(a b:List UL):List UL:=mpN (bU g) (ref a b) (ref a b).length
theorem Zdz :∀(a b:List UL),(∀u∈a,Lb u.F)->(∀u∈b,Lb u.F)->∀x∈ref a b,Lb x.F/\Lb x.G
 |[],_,_,_=>by rw[ref];intro x hx;cases hx
 |_::_,[],_,_=>by rw[ref];intro x hx;cases hx
 |x::a,y::b,ha,hb=>by
  have h1:=Zdz a (y::b) (fun u hu=>ha u (.tail _ hu)) hb
  have h2:=Zdz (x::a) b ha (fun u hu=>hb u (.tail _ hu))
  rw[ref]
  intro z hz
  rcases List.mem_append.1 hz with h|h
  ·split at h
   ·rw[List.mem_singleton.1 h];exact⟨ha x (.head _),hb y (.head _)⟩
   ·cases h
  ·split at h
   ·exact h1 z h
   ·exact h2 z h
termination_by a b=>a.length+b.length
structure CmP (g:Int->Int->Int)(a b:List UL):Prop where
 la:a.length<=1024
 lb:b.length<=1024
 oa:∀u∈a,IvOk BQ u.In
 ob:∀u∈b,IvOk BQ u.In
 fa:∀u∈a,Lb u.F
 fb:∀u∈b,Lb u.F
 n:NrP (cmU g a b)
 u:∀u∈cmU g a b,UIn u
noncomputable def mcR (g:Int->Int->Int)(a b:List PU):List PU:=mpN ofU (nrmR (cmU g (mpN toU a a.length) (mpN toU b b.length))) (nrmR (cmU g (mpN toU a a.length) (mpN toU b b.length))).length
set_option maxHeartbeats 4000000 in
theorem ZgV (v v2:Value)(a b:List UL)(w:World)(hv:ArgS w v rU a)(hd:ArgS w v2 rU b)(hp:CmP gW a b):
  Calls prog 102 [vLabels,v,v2,vFn 56].toArray w (RetM (SlS rU 21 (nrmR (cmU gW a b))) (fun s=>vSl s) (fun s=>mS 145 s) w):=by
 have:=ArgC.mk hv
 have:=ArgC.mk hd
 have hrl:=Zch a b
 have hla:=hp.la
 have hlb:=hp.lb
 have hml:=ZK (bU gW) (ref a b)
 have p1:(a.length<=1024/\b.length<=1024)/\(∀u∈a,IvOk BQ u.In)/\∀u∈b,IvOk BQ u.In:=⟨⟨hp.la,hp.lb⟩,hp.oa,hp.ob⟩
 have hlab:=Zdz a b hp.fa hp.fb
 have p3:NrP (mpN (bU gW) (ref a b) (ref a b).length)/\∀u∈mpN (bU gW) (ref a b) (ref a b).length,UIn u:=⟨hp.n,hp.u⟩
 have hcm:cmU gW a b=mpN (bU gW) (ref a b) (ref a b).length:=rfl
 rw[hcm]
 refine Zb Tryz.func102 rfl Tryz.ntmps102 rfl ?_
 repeat(first|(refine wkB ?_;intros)|(refine wnM ?_ ?_;(focus(exact p1));intros))
 rename_i r
 generalize ref a b=xs at*
 refine Zm (S:=(m:Nat)×SlS rU 21 (mpN (bU gW) xs m)) (fun s=>s.1<=xs.length) (fun s=>[(0,vLabels),(3,vFn 56),(9,vSl s.2),(14,vSl r),(15, .int .i64 xs.length),(16, .int .i64 (s.1:Nat))]) (fun s=>mS 145 s.2++mS 184 r) (fun s=>xs.length-s.1) ⟨0,SlS.no⟩ (Wm _) sbB suB (fun s hm=>?_)
 obtain⟨m,s⟩:=s
 dsimp only at hm⊢
 have hmm:=hml m
 repeat(refine wkB ?_;intros)
 refine Zk rfl (fun h=>?_) (fun h=>?_)
 ·have hlt:m<xs.length:=by have:=Wa h;omega
  rcases r.cases 184 with⟨y0,y1,y2⟩|⟨bc,cc,sp,hcc,y1,y2,yne⟩
  ·rw[y0] at hlt;cases hlt
  simp only[y1,y2]
  have hlb2:=hlab (gi xs (m:Int)) (Zs (by omega))
  have e:mpN (bU gW) xs m++[⟨(gi xs (m:Int)).In,gW (gi xs (m:Int)).F (gi xs (m:Int)).G⟩]=mpN (bU gW) xs (m+1):=rfl
  repeat(refine wkB ?_;intros)
  rename_i b11
  (refine ZB (.v [0,1,2,3,4,5,6,7,8,9] (.e1 10 (.e1 11 (.e1 12 (.fin))))) ([⟨b11,rB (gi xs (m:Int)),184⟩]) (h:=?_);refine wkX ?_)
  (repeat(first|refine wkH ?_|(refine tC rfl rfl ?_ ?_;focus(exact hlb2))))
  repeat(first|(refine wkT ?_;intros)|(refine tC rfl rfl ?_ ?_;focus(exact hlb2))|(refine uC rfl rfl ?_ ?_;focus(exact hlb2))|(refine eN rfl rfl ?_ ?_;(focus(exact hlb2));intro _;(try simp only[Wf,Wg,Wh])))
  refine eU (k:=21) (enc:=rU) (s:=s) rfl rfl ?_ ?_ ?_ ?_
  ·rfl
  ·rfl
  ·exact⟨by decide,by omega,by omega⟩
  intro s0
  repeat(refine wkT ?_;intros)
  repeat(first|(refine wkB ?_;intros)|(refine wnM ?_ ?_;(focus(exact⟨by omega,by omega⟩));intros))
  exact Zc ⟨m+1,s0⟩ hlt (by(try simp only[y1]);exact sbB) (by(try simp only[y2,Wf,Wg]);exact suB) (by show xs.length-(m+1)<xs.length-m;omega)
 ·have hge:m=xs.length:=by have:=Wb h;omega
  subst hge
  repeat(first|(refine wkB ?_;intros)|(refine wnM ?_ ?_;(focus(exact p3));intros))
  rename_i s2
  exact Zo rfl rfl (fun w hw=>⟨s2,rfl,hw.sub suB⟩)
instance Ztl (w0:World)(L:List Blk)(v v2:Value)(a b:List UL)[h1:LstC w0 L v UL rU a][h2:LstC w0 L v2 UL rU b]:SpecR prog w0 L 102 [vLabels,v,v2,vFn 56] (SlS rU 21 (nrmR (cmU gW a b))) (fun s=>vSl s) (fun s=>mS 145 s) (CmP gW a b):=⟨fun hp w hw=>ZgV v v2 a b w (h1.out w hw) (h2.out w hw) hp⟩
theorem ZqV (v v2:Value)(a b:List PU)(w:World)(hv:ArgS w v rP a)(hd:ArgS w v2 rP b)(hp:CmP gW (mpN toU a a.length) (mpN toU b b.length)):
  Calls prog 52 [v,v2,vFn 56].toArray w (RetM (SlS rP 21 (mcR gW a b)) (fun s=>vSl s) (fun s=>mS 46 s) w):=by
 have:=ArgC.mk hv
 have:=ArgC.mk hd
 have hla:=hp.la
 have hlb:=hp.lb
 have hm1:=ZK toU a a.length
 have hm2:=ZK toU b b.length
 have hl1:a.length<=1048576:=by omega
 have hl2:b.length<=1048576:=by omega
 have hl3:(nrmR (cmU gW (mpN toU a a.length) (mpN toU b b.length))).length<=1048576:=by
  have h1:=Zcj (cmU gW (mpN toU a a.length) (mpN toU b b.length))
  have h2:=hp.n.n
  omega
 refine Zb Tryz.func52 rfl Tryz.ntmps52 rfl ?_
 repeat(refine wkB ?_;intros)
 (refine ZB (.v [0,1,2,4,6] (.e1 3 (.e1 5 (.e1 7 (.e1 8 (.e1 9 (.fin))))))) (([]:List Blk)) (h:=?_);refine wkX ?_)
 (repeat(refine wkH ?_))
 repeat(first|(refine wkT ?_;intros)|(refine tC rfl rfl ?_ ?_;focus(first|exact hl1|exact hl2|exact hp|exact hl3))|(refine uC rfl rfl ?_ ?_;focus(first|exact hl1|exact hl2|exact hp|exact hl3))|(refine eN rfl rfl ?_ ?_;(focus(first|exact hl1|exact hl2|exact hp|exact hl3));intro _;(try simp only[Wf,Wg,Wh])))
 rename_i s1 s2 s3 s4
 repeat(refine wkB ?_;intros)
 exact Zo rfl rfl (fun w hw=>⟨s4,rfl,hw.sub suB⟩)
set_option maxHeartbeats 4000000 in
theorem ZgO (v v2:Value)(a b:List UL)(w:World)(hv:ArgS w v rU a)(hd:ArgS w v2 rU b)(hp:CmP gS a b):
  Calls prog 102 [vLabels,v,v2,vFn 53].toArray w (RetM (SlS rU 21 (nrmR (cmU gS a b))) (fun s=>vSl s) (fun s=>mS 145 s) w):=by
 have:=ArgC.mk hv
 have:=ArgC.mk hd
 have hrl:=Zch a b
 have hla:=hp.la
 have hlb:=hp.lb
 have hml:=ZK (bU gS) (ref a b)
 have p1:(a.length<=1024/\b.length<=1024)/\(∀u∈a,IvOk BQ u.In)/\∀u∈b,IvOk BQ u.In:=⟨⟨hp.la,hp.lb⟩,hp.oa,hp.ob⟩
 have hlab:=Zdz a b hp.fa hp.fb
 have p3:NrP (mpN (bU gS) (ref a b) (ref a b).length)/\∀u∈mpN (bU gS) (ref a b) (ref a b).length,UIn u:=⟨hp.n,hp.u⟩
 have hcm:cmU gS a b=mpN (bU gS) (ref a b) (ref a b).length:=rfl
 rw[hcm]
 refine Zb Tryz.func102 rfl Tryz.ntmps102 rfl ?_
 repeat(first|(refine wkB ?_;intros)|(refine wnM ?_ ?_;(focus(exact p1));intros))
 rename_i r
 generalize ref a b=xs at*
 refine Zm (S:=(m:Nat)×SlS rU 21 (mpN (bU gS) xs m)) (fun s=>s.1<=xs.length) (fun s=>[(0,vLabels),(3,vFn 53),(9,vSl s.2),(14,vSl r),(15, .int .i64 xs.length),(16, .int .i64 (s.1:Nat))]) (fun s=>mS 145 s.2++mS 184 r) (fun s=>xs.length-s.1) ⟨0,SlS.no⟩ (Wm _) sbB suB (fun s hm=>?_)
 obtain⟨m,s⟩:=s
 dsimp only at hm⊢
 have hmm:=hml m
 repeat(refine wkB ?_;intros)
 refine Zk rfl (fun h=>?_) (fun h=>?_)
 ·have hlt:m<xs.length:=by have:=Wa h;omega
  rcases r.cases 184 with⟨y0,y1,y2⟩|⟨bc,cc,sp,hcc,y1,y2,yne⟩
  ·rw[y0] at hlt;cases hlt
  simp only[y1,y2]
  have hlb2:=hlab (gi xs (m:Int)) (Zs (by omega))
  have e:mpN (bU gS) xs m++[⟨(gi xs (m:Int)).In,gS (gi xs (m:Int)).F (gi xs (m:Int)).G⟩]=mpN (bU gS) xs (m+1):=rfl
  repeat(refine wkB ?_;intros)
  rename_i b11
  (refine ZB (.v [0,1,2,3,4,5,6,7,8,9] (.e1 10 (.e1 11 (.e1 12 (.fin))))) ([⟨b11,rB (gi xs (m:Int)),184⟩]) (h:=?_);refine wkX ?_)
  (repeat(first|refine wkH ?_|(refine tC rfl rfl ?_ ?_;focus(exact hlb2))))
  repeat(first|(refine wkT ?_;intros)|(refine tC rfl rfl ?_ ?_;focus(exact hlb2))|(refine uC rfl rfl ?_ ?_;focus(exact hlb2))|(refine eN rfl rfl ?_ ?_;(focus(exact hlb2));intro _;(try simp only[Wf,Wg,Wh])))
  refine eU (k:=21) (enc:=rU) (s:=s) rfl rfl ?_ ?_ ?_ ?_
  ·rfl
  ·rfl
  ·exact⟨by decide,by omega,by omega⟩
  intro s0
  repeat(refine wkT ?_;intros)
  repeat(first|(refine wkB ?_;intros)|(refine wnM ?_ ?_;(focus(exact⟨by omega,by omega⟩));intros))
  exact Zc ⟨m+1,s0⟩ hlt (by(try simp only[y1]);exact sbB) (by(try simp only[y2,Wf,Wg]);exact suB) (by show xs.length-(m+1)<xs.length-m;omega)
 ·have hge:m=xs.length:=by have:=Wb h;omega
  subst hge
  repeat(first|(refine wkB ?_;intros)|(refine wnM ?_ ?_;(focus(exact p3));intros))
  rename_i s2
  exact Zo rfl rfl (fun w hw=>⟨s2,rfl,hw.sub suB⟩)
instance ZtL (w0:World)(L:List Blk)(v v2:Value)(a b:List UL)[h1:LstC w0 L v UL rU a][h2:LstC w0 L v2 UL rU b]:SpecR prog w0 L 102 [vLabels,v,v2,vFn 53] (SlS rU 21 (nrmR (cmU gS a b))) (fun s=>vSl s) (fun s=>mS 145 s) (CmP gS a b):=⟨fun hp w hw=>ZgO v v2 a b w (h1.out w hw) (h2.out w hw) hp⟩
theorem ZqC (v v2:Value)(a b:List PU)(w:World)(hv:ArgS w v rP a)(hd:ArgS w v2 rP b)(hp:CmP gS (mpN toU a a.length) (mpN toU b b.length)):
  Calls prog 52 [v,v2,vFn 53].toArray w (RetM (SlS rP 21 (mcR gS a b)) (fun s=>vSl s) (fun s=>mS 46 s) w):=by
 have:=ArgC.mk hv
 have:=ArgC.mk hd
 have hla:=hp.la
 have hlb:=hp.lb
 have hm1:=ZK toU a a.length
 have hm2:=ZK toU b b.length
 have hl1:a.length<=1048576:=by omega
 have hl2:b.length<=1048576:=by omega
 have hl3:(nrmR (cmU gS (mpN toU a a.length) (mpN toU b b.length))).length<=1048576:=by
  have h1:=Zcj (cmU gS (mpN toU a a.length) (mpN toU b b.length))
  have h2:=hp.n.n
  omega
 refine Zb Tryz.func52 rfl Tryz.ntmps52 rfl ?_
 repeat(refine wkB ?_;intros)
 (refine ZB (.v [0,1,2,4,6] (.e1 3 (.e1 5 (.e1 7 (.e1 8 (.e1 9 (.fin))))))) (([]:List Blk)) (h:=?_);refine wkX ?_)
 (repeat(refine wkH ?_))
 repeat(first|(refine wkT ?_;intros)|(refine tC rfl rfl ?_ ?_;focus(first|exact hl1|exact hl2|exact hp|exact hl3))|(refine uC rfl rfl ?_ ?_;focus(first|exact hl1|exact hl2|exact hp|exact hl3))|(refine eN rfl rfl ?_ ?_;(focus(first|exact hl1|exact hl2|exact hp|exact hl3));intro _;(try simp only[Wf,Wg,Wh])))
 rename_i s1 s2 s3 s4
 repeat(refine wkB ?_;intros)
 exact Zo rfl rfl (fun w hw=>⟨s4,rfl,hw.sub suB⟩)
set_option maxHeartbeats 4000000 in
theorem ZgP (v v2:Value)(a b:List UL)(bf:Nat)(w:World)(hv:ArgS w v rU a)(hd:ArgS w v2 rU b)(hb:∃T fz,w.heap[bf]? =some (.cells #[vFn 97] T fz))(hp:CmP gS a b):
  Calls prog 102 [vLabels,v,v2, .func (.func 140) #[] [.pointer (some ⟨bf,0,none⟩)].toArray].toArray w (RetM (SlS rU 21 (nrmR (cmU gS a b))) (fun s=>vSl s) (fun s=>mS 145 s) w):=by
 have:=ArgC.mk hv
 have:=ArgC.mk hd
 obtain⟨Tf,hb⟩:=hb
 have hfo:=FoC.mk hb
 have hrl:=Zch a b
 have hla:=hp.la
 have hlb:=hp.lb
 have hml:=ZK (bU gS) (ref a b)
 have p1:(a.length<=1024/\b.length<=1024)/\(∀u∈a,IvOk BQ u.In)/\∀u∈b,IvOk BQ u.In:=⟨⟨hp.la,hp.lb⟩,hp.oa,hp.ob⟩
 have hlab:=Zdz a b hp.fa hp.fb
 have p3:NrP (mpN (bU gS) (ref a b) (ref a b).length)/\∀u∈mpN (bU gS) (ref a b) (ref a b).length,UIn u:=⟨hp.n,hp.u⟩
 have hcm:cmU gS a b=mpN (bU gS) (ref a b) (ref a b).length:=rfl
 rw[hcm]
 refine Zb Tryz.func102 rfl Tryz.ntmps102 rfl ?_
 repeat(first|(refine wkB ?_;intros)|(refine wnM ?_ ?_;(focus(exact p1));intros))
 rename_i r
 generalize ref a b=xs at*
 refine Zm (S:=(m:Nat)×SlS rU 21 (mpN (bU gS) xs m)) (fun s=>s.1<=xs.length) (fun s=>[(0,vLabels),(3, .func (.func 140) #[] [.pointer (some ⟨bf,0,none⟩)].toArray),(9,vSl s.2),(14,vSl r),(15, .int .i64 xs.length),(16, .int .i64 (s.1:Nat))]) (fun s=>mS 145 s.2++mS 184 r) (fun s=>xs.length-s.1) ⟨0,SlS.no⟩ (Wm _) sbB suB (fun s hm=>?_)
 obtain⟨m,s⟩:=s
 dsimp only at hm⊢
 have hmm:=hml m
 repeat(refine wkB ?_;intros)
 refine Zk rfl (fun h=>?_) (fun h=>?_)
 ·have hlt:m<xs.length:=by have:=Wa h;omega
  rcases r.cases 184 with⟨y0,y1,y2⟩|⟨bc,cc,sp,hcc,y1,y2,yne⟩
  ·rw[y0] at hlt;cases hlt
  simp only[y1,y2]
  have hlb2:=hlab (gi xs (m:Int)) (Zs (by omega))
  have e:mpN (bU gS) xs m++[⟨(gi xs (m:Int)).In,gS (gi xs (m:Int)).F (gi xs (m:Int)).G⟩]=mpN (bU gS) xs (m+1):=rfl
  repeat(refine wkB ?_;intros)
  rename_i b11
  (refine ZB (.v [0,1,2,3,4,5,6,7,8,9] (.e1 10 (.e1 11 (.e1 12 (.fin))))) ([⟨b11,rB (gi xs (m:Int)),184⟩]) (h:=?_);refine wkX ?_)
  (repeat(first|refine wkH ?_|(refine tC rfl rfl ?_ ?_;focus(exact hlb2))))
  repeat(first|(refine wkT ?_;intros)|(refine tC rfl rfl ?_ ?_;focus(exact hlb2))|(refine uC rfl rfl ?_ ?_;focus(exact hlb2))|(refine eN rfl rfl ?_ ?_;(focus(exact hlb2));intro _;(try simp only[Wf,Wg,Wh])))
  refine eU (k:=21) (enc:=rU) (s:=s) rfl rfl ?_ ?_ ?_ ?_
  ·rfl
  ·rfl
  ·exact⟨by decide,by omega,by omega⟩
  intro s0
  repeat(refine wkT ?_;intros)
  repeat(first|(refine wkB ?_;intros)|(refine wnM ?_ ?_;(focus(exact⟨by omega,by omega⟩));intros))
  exact Zc ⟨m+1,s0⟩ hlt (by(try simp only[y1]);exact sbB) (by(try simp only[y2,Wf,Wg]);exact suB) (by show xs.length-(m+1)<xs.length-m;omega)
 ·have hge:m=xs.length:=by have:=Wb h;omega
  subst hge
  repeat(first|(refine wkB ?_;intros)|(refine wnM ?_ ?_;(focus(exact p3));intros))
  rename_i s2
  exact Zo rfl rfl (fun w hw=>⟨s2,rfl,hw.sub suB⟩)
instance Zti (w0:World)(L:List Blk)(v v2:Value)(a b:List UL)(bf:Nat)(Tf:TypeId)[h1:LstC w0 L v UL rU a][h2:LstC w0 L v2 UL rU b][h3:AtC w0 L bf #[vFn 97] Tf]:SpecR prog w0 L 102 [vLabels,v,v2, .func (.func 140) #[] [.pointer (some ⟨bf,0,none⟩)].toArray] (SlS rU 21 (nrmR (cmU gS a b))) (fun s=>vSl s) (fun s=>mS 145 s) (CmP gS a b):=⟨fun hp w hw=>ZgP v v2 a b bf w (h1.out w hw) (h2.out w hw) ⟨Tf,h3.out w hw⟩ hp⟩
theorem ZfO (v v2:Value)(a b:List PU)(bf:Nat)(w:World)(hv:ArgS w v rP a)(hd:ArgS w v2 rP b)(hb:∃T fz,w.heap[bf]? =some (.cells #[vFn 97] T fz))(hp:CmP gS (mpN toU a a.length) (mpN toU b b.length)):
  Calls prog 52 [v,v2, .func (.func 140) #[] [.pointer (some ⟨bf,0,none⟩)].toArray].toArray w (RetM (SlS rP 21 (mcR gS a b)) (fun s=>vSl s) (fun s=>mS 46 s) w):=by
 have:=ArgC.mk hv
 have:=ArgC.mk hd
 obtain⟨Tf,hb⟩:=hb
 have hfo:=FoC.mk hb
 have hla:=hp.la
 have hlb:=hp.lb
 have hm1:=ZK toU a a.length
 have hm2:=ZK toU b b.length
 have hl1:a.length<=1048576:=by omega
 have hl2:b.length<=1048576:=by omega
 have hl3:(nrmR (cmU gS (mpN toU a a.length) (mpN toU b b.length))).length<=1048576:=by
  have h1:=Zcj (cmU gS (mpN toU a a.length) (mpN toU b b.length))
  have h2:=hp.n.n
  omega
 refine Zb Tryz.func52 rfl Tryz.ntmps52 rfl ?_
 repeat(refine wkB ?_;intros)
 (refine ZB (.v [0,1,2,4,6] (.e1 3 (.e1 5 (.e1 7 (.e1 8 (.e1 9 (.fin))))))) (([]:List Blk)) (h:=?_);refine wkX ?_)
 (repeat(refine wkH ?_))
 repeat(first|(refine wkT ?_;intros)|(refine tC rfl rfl ?_ ?_;focus(first|exact hl1|exact hl2|exact hp|exact hl3))|(refine uC rfl rfl ?_ ?_;focus(first|exact hl1|exact hl2|exact hp|exact hl3))|(refine eN rfl rfl ?_ ?_;(focus(first|exact hl1|exact hl2|exact hp|exact hl3));intro _;(try simp only[Wf,Wg,Wh])))
 rename_i s1 s2 s3 s4
 repeat(refine wkB ?_;intros)
 exact Zo rfl rfl (fun w hw=>⟨s4,rfl,hw.sub suB⟩)
instance Zs5 (w0:World)(L:List Blk)(v v2:Value)(a b:List PU)(bf:Nat)(Tf:TypeId)[h1:LstC w0 L v PU rP a][h2:LstC w0 L v2 PU rP b][h3:AtC w0 L bf #[vFn 97] Tf]:SpecR prog w0 L 52 [v,v2, .func (.func 140) #[] [.pointer (some ⟨bf,0,none⟩)].toArray] (SlS rP 21 (mcR gS a b)) (fun s=>vSl s) (fun s=>mS 46 s) (CmP gS (mpN toU a a.length) (mpN toU b b.length)):=⟨fun hp w hw=>ZfO v v2 a b bf w (h1.out w hw) (h2.out w hw) ⟨Tf,h3.out w hw⟩ hp⟩
set_option maxHeartbeats 4000000 in
theorem ZgR (v v2:Value)(a b:List UL)(bf:Nat)(w:World)(hv:ArgS w v rU a)(hd:ArgS w v2 rU b)(hb:∃T fz,w.heap[bf]? =some (.cells #[vFn 98] T fz))(hp:CmP gL a b):
  Calls prog 102 [vLabels,v,v2, .func (.func 140) #[] [.pointer (some ⟨bf,0,none⟩)].toArray].toArray w (RetM (SlS rU 21 (nrmR (cmU gL a b))) (fun s=>vSl s) (fun s=>mS 145 s) w):=by
 have:=ArgC.mk hv
 have:=ArgC.mk hd
 obtain⟨Tf,hb⟩:=hb
 have hfo:=FoC.mk hb
 have hrl:=Zch a b
 have hla:=hp.la
 have hlb:=hp.lb
 have hml:=ZK (bU gL) (ref a b)
 have p1:(a.length<=1024/\b.length<=1024)/\(∀u∈a,IvOk BQ u.In)/\∀u∈b,IvOk BQ u.In:=⟨⟨hp.la,hp.lb⟩,hp.oa,hp.ob⟩
 have hlab:=Zdz a b hp.fa hp.fb
 have p3:NrP (mpN (bU gL) (ref a b) (ref a b).length)/\∀u∈mpN (bU gL) (ref a b) (ref a b).length,UIn u:=⟨hp.n,hp.u⟩
 have hcm:cmU gL a b=mpN (bU gL) (ref a b) (ref a b).length:=rfl
 rw[hcm]
 refine Zb Tryz.func102 rfl Tryz.ntmps102 rfl ?_
 repeat(first|(refine wkB ?_;intros)|(refine wnM ?_ ?_;(focus(exact p1));intros))
 rename_i r
 generalize ref a b=xs at*
 refine Zm (S:=(m:Nat)×SlS rU 21 (mpN (bU gL) xs m)) (fun s=>s.1<=xs.length) (fun s=>[(0,vLabels),(3, .func (.func 140) #[] [.pointer (some ⟨bf,0,none⟩)].toArray),(9,vSl s.2),(14,vSl r),(15, .int .i64 xs.length),(16, .int .i64 (s.1:Nat))]) (fun s=>mS 145 s.2++mS 184 r) (fun s=>xs.length-s.1) ⟨0,SlS.no⟩ (Wm _) sbB suB (fun s hm=>?_)
 obtain⟨m,s⟩:=s
 dsimp only at hm⊢
 have hmm:=hml m
 repeat(refine wkB ?_;intros)
 refine Zk rfl (fun h=>?_) (fun h=>?_)
 ·have hlt:m<xs.length:=by have:=Wa h;omega
  rcases r.cases 184 with⟨y0,y1,y2⟩|⟨bc,cc,sp,hcc,y1,y2,yne⟩
  ·rw[y0] at hlt;cases hlt
  simp only[y1,y2]
  have hlb2:=hlab (gi xs (m:Int)) (Zs (by omega))
  have e:mpN (bU gL) xs m++[⟨(gi xs (m:Int)).In,gL (gi xs (m:Int)).F (gi xs (m:Int)).G⟩]=mpN (bU gL) xs (m+1):=rfl
  repeat(refine wkB ?_;intros)
  rename_i b11
  (refine ZB (.v [0,1,2,3,4,5,6,7,8,9] (.e1 10 (.e1 11 (.e1 12 (.fin))))) ([⟨b11,rB (gi xs (m:Int)),184⟩]) (h:=?_);refine wkX ?_)
  (repeat(first|refine wkH ?_|(refine tC rfl rfl ?_ ?_;focus(exact hlb2))))
  repeat(first|(refine wkT ?_;intros)|(refine tC rfl rfl ?_ ?_;focus(exact hlb2))|(refine uC rfl rfl ?_ ?_;focus(exact hlb2))|(refine eN rfl rfl ?_ ?_;(focus(exact hlb2));intro _;(try simp only[Wf,Wg,Wh])))
  refine eU (k:=21) (enc:=rU) (s:=s) rfl rfl ?_ ?_ ?_ ?_
  ·rfl
  ·rfl
  ·exact⟨by decide,by omega,by omega⟩
  intro s0
  repeat(refine wkT ?_;intros)
  repeat(first|(refine wkB ?_;intros)|(refine wnM ?_ ?_;(focus(exact⟨by omega,by omega⟩));intros))
  exact Zc ⟨m+1,s0⟩ hlt (by(try simp only[y1]);exact sbB) (by(try simp only[y2,Wf,Wg]);exact suB) (by show xs.length-(m+1)<xs.length-m;omega)
 ·have hge:m=xs.length:=by have:=Wb h;omega
  subst hge
  repeat(first|(refine wkB ?_;intros)|(refine wnM ?_ ?_;(focus(exact p3));intros))
  rename_i s2
  exact Zo rfl rfl (fun w hw=>⟨s2,rfl,hw.sub suB⟩)
instance Zty (w0:World)(L:List Blk)(v v2:Value)(a b:List UL)(bf:Nat)(Tf:TypeId)[h1:LstC w0 L v UL rU a][h2:LstC w0 L v2 UL rU b][h3:AtC w0 L bf #[vFn 98] Tf]:SpecR prog w0 L 102 [vLabels,v,v2, .func (.func 140) #[] [.pointer (some ⟨bf,0,none⟩)].toArray] (SlS rU 21 (nrmR (cmU gL a b))) (fun s=>vSl s) (fun s=>mS 145 s) (CmP gL a b):=⟨fun hp w hw=>ZgR v v2 a b bf w (h1.out w hw) (h2.out w hw) ⟨Tf,h3.out w hw⟩ hp⟩
theorem ZfP (v v2:Value)(a b:List PU)(bf:Nat)(w:World)(hv:ArgS w v rP a)(hd:ArgS w v2 rP b)(hb:∃T fz,w.heap[bf]? =some (.cells #[vFn 98] T fz))(hp:CmP gL (mpN toU a a.length) (mpN toU b b.length)):
  Calls prog 52 [v,v2, .func (.func 140) #[] [.pointer (some ⟨bf,0,none⟩)].toArray].toArray w (RetM (SlS rP 21 (mcR gL a b)) (fun s=>vSl s) (fun s=>mS 46 s) w):=by
 have:=ArgC.mk hv
 have:=ArgC.mk hd
 obtain⟨Tf,hb⟩:=hb
 have hfo:=FoC.mk hb
 have hla:=hp.la
 have hlb:=hp.lb
 have hm1:=ZK toU a a.length
 have hm2:=ZK toU b b.length
 have hl1:a.length<=1048576:=by omega
 have hl2:b.length<=1048576:=by omega
 have hl3:(nrmR (cmU gL (mpN toU a a.length) (mpN toU b b.length))).length<=1048576:=by
  have h1:=Zcj (cmU gL (mpN toU a a.length) (mpN toU b b.length))
  have h2:=hp.n.n
  omega
 refine Zb Tryz.func52 rfl Tryz.ntmps52 rfl ?_
 repeat(refine wkB ?_;intros)
 (refine ZB (.v [0,1,2,4,6] (.e1 3 (.e1 5 (.e1 7 (.e1 8 (.e1 9 (.fin))))))) (([]:List Blk)) (h:=?_);refine wkX ?_)
 (repeat(refine wkH ?_))
 repeat(first|(refine wkT ?_;intros)|(refine tC rfl rfl ?_ ?_;focus(first|exact hl1|exact hl2|exact hp|exact hl3))|(refine uC rfl rfl ?_ ?_;focus(first|exact hl1|exact hl2|exact hp|exact hl3))|(refine eN rfl rfl ?_ ?_;(focus(first|exact hl1|exact hl2|exact hp|exact hl3));intro _;(try simp only[Wf,Wg,Wh])))
 rename_i s1 s2 s3 s4
 repeat(refine wkB ?_;intros)
 exact Zo rfl rfl (fun w hw=>⟨s4,rfl,hw.sub suB⟩)
instance ZrP (w0:World)(L:List Blk)(v v2:Value)(a b:List PU)(bf:Nat)(Tf:TypeId)[h1:LstC w0 L v PU rP a][h2:LstC w0 L v2 PU rP b][h3:AtC w0 L bf #[vFn 98] Tf]:SpecR prog w0 L 52 [v,v2, .func (.func 140) #[] [.pointer (some ⟨bf,0,none⟩)].toArray] (SlS rP 21 (mcR gL a b)) (fun s=>vSl s) (fun s=>mS 46 s) (CmP gL (mpN toU a a.length) (mpN toU b b.length)):=⟨fun hp w hw=>ZfP v v2 a b bf w (h1.out w hw) (h2.out w hw) ⟨Tf,h3.out w hw⟩ hp⟩
end
section
theorem ZgJ (a b:Za):(ri a.From<ri b.From/\mtF a b=(b.From,b.OpenFrom))\/(ri a.From=ri b.From/\mtF a b=(a.From,a.OpenFrom||b.OpenFrom))\/(ri b.From<ri a.From/\mtF a b=(a.From,a.OpenFrom)):=by
 unfold mtF
 by_cases h1:cl a.From b.From<0
 ·exact .inl ⟨Zaa.1 h1,if_pos h1⟩
 ·rw[if_neg h1]
  by_cases h2:cl a.From b.From=0
  ·exact .inr (.inl ⟨Zak.1 h2,if_pos h2⟩)
  ·exact .inr (.inr ⟨Zfe.1 (by omega),if_neg h2⟩)
theorem ZgD (a b:Za):(ri b.To<ri a.To/\mtT a b=(b.To,b.OpenTo))\/(ri a.To=ri b.To/\mtT a b=(a.To,a.OpenTo||b.OpenTo))\/(ri a.To<ri b.To/\mtT a b=(a.To,a.OpenTo)):=by
 unfold mtT
 by_cases h1:0<cl a.To b.To
 ·exact .inl ⟨Zfe.1 h1,if_pos h1⟩
 ·rw[if_neg h1]
  by_cases h2:cl a.To b.To=0
  ·exact .inr (.inl ⟨Zak.1 h2,if_pos h2⟩)
  ·exact .inr (.inr ⟨Zaa.1 (by omega),if_neg h2⟩)
theorem Znk (a b:Za)(z:Ri):memI (mt a b) z↔memI a z/\memI b z:=by
 unfold memI mt
 dsimp only
 rcases ZgJ a b with⟨h1,e1⟩|⟨h1,e1⟩|⟨h1,e1⟩ <;> rcases ZgD a b with⟨h2,e2⟩|⟨h2,e2⟩|⟨h2,e2⟩ <;> rw[e1,e2] <;> dsimp only <;> (try simp only[Bool.or_eq_false_iff]) <;> grind
theorem ZjV (a b:Za):mtO a b=true↔okI (mt a b):=by
 unfold mtO okI
 rw[Bool.or_eq_true,Wq,Wq,decide_eq_true_eq,decide_eq_true_eq,Zaa,Zak,Bool.not_eq_true',Bool.not_eq_true']
theorem Zjt (a b:Za):enF a b=true↔ri a.To<ri b.To\/(ri a.To=ri b.To/\(a.OpenTo=true\/b.OpenTo=false)):=by
 unfold enF
 rw[Bool.or_eq_true,Wq,decide_eq_true_eq,decide_eq_true_eq,Zaa,Zak,Bool.or_eq_true,Bool.not_eq_true']
structure Wth (i a:Za):Prop where
 f:ri a.From<ri i.From\/(ri a.From=ri i.From/\(a.OpenFrom=true->i.OpenFrom=true))
 t:ri i.To<ri a.To\/(ri i.To=ri a.To/\(a.OpenTo=true->i.OpenTo=true))
theorem Zfa (a b:Za):Wth (mt a b) a/\Wth (mt a b) b:=by
 have e:mt a b=⟨(mtF a b).1,(mtT a b).1,(mtF a b).2,(mtT a b).2⟩:=rfl
 rw[e]
 rcases ZgJ a b with⟨h1,e1⟩|⟨h1,e1⟩|⟨h1,e1⟩ <;> rcases ZgD a b with⟨h2,e2⟩|⟨h2,e2⟩|⟨h2,e2⟩ <;> rw[e1,e2] <;> dsimp only <;> exact⟨⟨by dsimp only;grind,by dsimp only;grind⟩,⟨by dsimp only;grind,by dsimp only;grind⟩⟩
theorem Zni {i j a b:Za}(hi:Wth i a)(hj:Wth j b)(h:bfI a b):bfI i j:=by
 obtain⟨h1,h2⟩:=hi
 obtain⟨h3,h4⟩:=hj
 unfold bfI at*
 grind
theorem Zb4 :∀(a b:List UL) {x:UB},x∈ref a b->∃u∈a,∃w∈b,x=⟨mt u.In w.In,u.F,w.F⟩/\okI (mt u.In w.In)
 |[],_,x,h=>by rw[ref] at h;cases h
 |_::_,[],x,h=>by rw[ref] at h;cases h
 |u::a,w::b,x,h=>by
  rw[ref] at h
  rcases List.mem_append.1 h with h|h
  ·split at h
   ·rename_i hm
    exact⟨u, .head _,w, .head _,List.mem_singleton.1 h,(ZjV _ _).1 hm⟩
   ·cases h
  ·split at h
   ·obtain⟨u',h1,w',h2,h3⟩:=Zb4 a (w::b) h
    exact⟨u', .tail _ h1,w',h2,h3⟩
   ·obtain⟨u',h1,w',h2,h3⟩:=Zb4 (u::a) b h
    exact⟨u',h1,w', .tail _ h2,h3⟩
termination_by a b=>a.length+b.length
def PwU (l:List UL):Prop:=l.Pairwise (fun u w=>bfI u.In w.In)
theorem Zt2 {i j k:Za}{z:Ri}(h:enF i j=true)(hb:bfI j k)(hi:memI i z)(hk:memI k z):False:=by
 rw[Zjt] at h
 unfold bfI at hb
 unfold memI at hi hk
 grind
theorem Zsf {i j k:Za}{z:Ri}(h:¬enF i j=true)(hb:bfI i k)(hj:memI j z)(hk:memI k z):False:=by
 rw[Zjt] at h
 unfold bfI at hb
 unfold memI at hj hk
 grind
theorem Zgm :∀(a b:List UL),PwU a->PwU b->∀{u w:UL} {z:Ri},u∈a->w∈b->memI u.In z->memI w.In z->∃x∈ref a b,memI x.In z/\x.F=u.F/\x.G=w.F
 |[],_,_,_,_,_,_,h,_,_,_=>by cases h
 |_::_,[],_,_,_,_,_,_,h,_,_=>by cases h
 |p::a,q::b,ha,hb,u,w,z,hu,hw,h1,h2=>by
  obtain⟨a1,a2⟩:=List.pairwise_cons.1 ha
  obtain⟨b1,b2⟩:=List.pairwise_cons.1 hb
  rw[ref]
  have key:(u=p/\w=q)\/∃x∈(if enF p.In q.In=true then ref a (q::b) else ref (p::a) b),memI x.In z/\x.F=u.F/\x.G=w.F:=by
   split
   ·rename_i he
    rcases List.mem_cons.1 hu with rfl|hu'
    ·rcases List.mem_cons.1 hw with rfl|hw'
     ·exact .inl ⟨rfl,rfl⟩
     ·exact(Zt2 he (b1 w hw') h1 h2).elim
    ·exact .inr (Zgm a (q::b) a2 hb hu' hw h1 h2)
   ·rename_i he
    rcases List.mem_cons.1 hw with rfl|hw'
    ·rcases List.mem_cons.1 hu with rfl|hu'
     ·exact .inl ⟨rfl,rfl⟩
     ·exact(Zsf he (a1 u hu') h2 h1).elim
    ·exact .inr (Zgm (p::a) b ha b2 hu hw' h1 h2)
  rcases key with⟨rfl,rfl⟩|⟨x,hx,h3⟩
  ·have hm:=(Znk u.In w.In z).2 ⟨h1,h2⟩
   have ho:mtO u.In w.In=true:=(ZjV _ _).2 (by unfold memI at hm;unfold okI;grind)
   rw[if_pos ho]
   exact⟨_,List.mem_append_left _ (.head _),hm,rfl,rfl⟩
  ·exact⟨x,List.mem_append_right _ hx,h3⟩
termination_by a b=>a.length+b.length
theorem ZhF :∀(a b:List UL),PwU a->PwU b->(ref a b).Pairwise (fun x y=>bfI x.In y.In)
 |[],_,_,_=>by rw[ref];exact .nil
 |_::_,[],_,_=>by rw[ref];exact .nil
 |p::a,q::b,ha,hb=>by
  obtain⟨a1,a2⟩:=List.pairwise_cons.1 ha
  obtain⟨b1,b2⟩:=List.pairwise_cons.1 hb
  have i1:=ZhF a (q::b) a2 hb
  have i2:=ZhF (p::a) b ha b2
  rw[ref]
  have key:∀x∈(if enF p.In q.In=true then ref a (q::b) else ref (p::a) b),bfI (mt p.In q.In) x.In:=by
   split
   ·intro x hx
    obtain⟨u,h1,w,h2,rfl,_⟩:=Zb4 _ _ hx
    exact Zni (Zfa _ _).1 (Zfa _ _).1 (a1 u h1)
   ·intro x hx
    obtain⟨u,h1,w,h2,rfl,_⟩:=Zb4 _ _ hx
    exact Zni (Zfa _ _).2 (Zfa _ _).2 (b1 w h2)
  have hT:(if enF p.In q.In=true then ref a (q::b) else ref (p::a) b).Pairwise (fun x y=>bfI x.In y.In):=by
   split
   ·exact i1
   ·exact i2
  refine List.pairwise_append.2 ⟨?_,hT,fun x hx y hy=>?_⟩
  ·split
   ·exact List.pairwise_singleton _ _
   ·exact .nil
  ·split at hx
   ·rw[List.mem_singleton.1 hx]
    exact key y hy
   ·cases hx
termination_by a b=>a.length+b.length
theorem Zor {us:List UL}(ho:∀u∈us,okI u.In)(hp:PwU us):NoTie us:=fun x hx y hy h1 h2=>by
 have key:∀u w:UL,okI u.In->okI w.In->bfI u.In w.In->leS u w->leS w u->False:=fun u w hu hw hb h1 h2=>by
  unfold leS opn at h1 h2
  unfold bfI at hb
  unfold okI at hu hw
  rcases hf:u.In.OpenFrom <;> rcases hg:w.In.OpenFrom <;> rw[hf] at h1 h2 hu <;> rw[hg] at h1 h2 hb hw <;> simp only[Bool.false_eq_true,if_false,if_true] at h1 h2 <;> grind
 rcases Zfc hp x hx y hy with e|e|e
 ·exact e
 ·exact(key x y (ho x hx) (ho y hy) e h1 h2).elim
 ·exact(key y x (ho y hy) (ho x hx) e h2 h1).elim
theorem ZsN {us:List UL}(hp:PwU us):(us.map absU).Pairwise Dis:=by
 rw[List.pairwise_map]
 exact hp.imp fun h=>GU.bfr.Dis (show(absU _).bfr (absU _) from h)
theorem Zre {us:List UL}(hk:∀u∈us,IvOk 3 u.In)(ho:∀u∈us,okI u.In)(hp:PwU us)(hl:us.length<=65536):NrP us/\(∀u∈us,UIn u)/\NF ((nrmR us).map absU)/\∀t v,Has ((nrmR us).map absU) t v↔Has (us.map absU) t v:=by
 have hU:∀u∈us,UIn u:=fun u hu=>⟨(hk u hu).mono (by decide)⟩
 have h:=Zis (us:=us) ⟨hU,fun u hu=>ho u hu⟩ (ZsN hp)
 exact⟨.inr ⟨hl,Zor ho hp⟩,hU,h.1,h.2⟩
end
section
def slO (n:Nat):Option (Nat×Nat×List Value)->Sl
 |none=>⟨none,0,0⟩
 |some t=>⟨some ⟨t.1,0,none⟩,n,t.2.1⟩
section
variable {α : Type} {enc : α -> Array Value} {k : Nat} {xs : List α}
def slOf (s:SlS enc k xs):Sl:=slO xs.length s.s
theorem Znz (s:SlS enc k xs):vSl s= .slice (slOf s).a (slOf s).len (slOf s).cap:=by
 obtain⟨s,h1,h2⟩:=s
 cases s <;> rfl
instance (priority :=low) lstOf (w0:World)(L:List Blk)(s:SlS enc k xs)[h:LstC w0 L (vSl s) α enc xs]:LstC w0 L (.slice (slOf s).a (slOf s).len (slOf s).cap) α enc xs:=⟨fun w hw=>by rw[<-Znz];exact h.out w hw⟩
end
instance ZBc {P:Program}{E:Env}{T:TypeId}{x:Operand}{g:Fn}{a c:Array Value}[h:IsC (evl E x) (.func g a c)]:AlC P E (.box T x) #[.func g a c] T:=⟨fun hg hd h=>Zhq isE hg hd h⟩
noncomputable def whR (us:List PU)(x:Int):List Za:=swpR kpU (whL us x us.length) []
theorem ZqG (v:Value)(us:List PU)(x:Int)(w:World)(hv:ArgS w v rP us)(hl:us.length<=1048576)(h1:SwOk (pIv us) [])(h2:SwOk (whL us x us.length) []):
  Calls prog 41 [v, .int .i64 x].toArray w (RetM (SlS rI 20 (pDom us)×SlS rI 20 (whR us x)) (fun q=> .agg (ZM ⟨slOf q.1,slOf q.2⟩)) (fun q=>mS 37 q.2++mS 37 q.1) w):=by
 have:=ArgC.mk hv
 refine Zb Tryz.func41 rfl Tryz.ntmps41 rfl ?_
 repeat(first|(refine wkB ?_;intros)|(refine wnM ?_ ?_;(focus(first|exact h1|exact⟨hl,h2⟩));intros))
 rename_i b4 s1 s2
 simp only[Znz]
 repeat(refine wkB ?_;intros)
 exact Za7 rfl rfl (fun w hw=>⟨(s1,s2),rfl,hw.sub (by dsimp only;exact suB)⟩)
instance ZCF (w0:World)(L:List Blk)(v:Value)(us:List PU)(x:Int)[h:LstC w0 L v PU rP us]:SpecR prog w0 L 41 [v, .int .i64 x] (SlS rI 20 (pDom us)×SlS rI 20 (whR us x)) (fun q=> .agg (ZM ⟨slOf q.1,slOf q.2⟩)) (fun q=>mS 37 q.2++mS 37 q.1) (us.length<=1048576/\SwOk (pIv us) []/\SwOk (whL us x us.length) []):=⟨fun hp w hw=>ZqG v us x w (h.out w hw) hp.1 hp.2.1 hp.2.2⟩
structure CmSame (a b:List PU):Prop where
 c:CmP gS (mpN toU a a.length) (mpN toU b b.length)
 n:(mcR gS a b).length<=1048576
 d:SwOk (pIv (mcR gS a b)) []
 w:SwOk (whL (mcR gS a b) 1 (mcR gS a b).length) []
theorem ZiQ (v v2:Value)(a b:List PU)(w:World)(hv:ArgS w v rP a)(hd:ArgS w v2 rP b)(hp:CmSame a b):
  Calls prog 96 [v,v2,vFn 97].toArray w (RetM (SlS rI 20 (pDom (mcR gS a b))×SlS rI 20 (whR (mcR gS a b) 1)) (fun q=> .agg (ZM ⟨slOf q.1,slOf q.2⟩)) (fun q=>mS 37 q.2++mS 37 q.1) w):=by
 have:=ArgC.mk hv
 have:=ArgC.mk hd
 have p1:=hp.c
 have p2:(mcR gS a b).length<=1048576/\SwOk (pIv (mcR gS a b)) []/\SwOk (whL (mcR gS a b) 1 (mcR gS a b).length) []:=⟨hp.n,hp.d,hp.w⟩
 refine Zb Tryz.func96 rfl Tryz.ntmps96 rfl ?_
 repeat(first|(refine wkB ?_;intros)|(refine wnM ?_ ?_;(focus(first|exact p1|exact p2));intros))
 rename_i s1 s2
 exact Za7 rfl rfl (fun w hw=>⟨s2,rfl,hw.sub (List.sublist_append_left _ _)⟩)
instance ZvU (w0:World)(L:List Blk)(v v2:Value)(a b:List PU)[h1:LstC w0 L v PU rP a][h2:LstC w0 L v2 PU rP b]:SpecR prog w0 L 96 [v,v2,vFn 97] (SlS rI 20 (pDom (mcR gS a b))×SlS rI 20 (whR (mcR gS a b) 1)) (fun q=> .agg (ZM ⟨slOf q.1,slOf q.2⟩)) (fun q=>mS 37 q.2++mS 37 q.1) (CmSame a b):=⟨fun hp w hw=>ZiQ v v2 a b w (h1.out w hw) (h2.out w hw) hp⟩
theorem Zlf (v v2:Value)(a b:List PU)(w:World)(hv:ArgS w v rP a)(hd:ArgS w v2 rP b)(hp:CmSame a b):
  Calls prog 45 [v,v2].toArray w (RetM (SlS rI 20 (pDom (mcR gS a b))×SlS rI 20 (whR (mcR gS a b) 1)) (fun q=> .agg (ZM ⟨slOf q.1,slOf q.2⟩)) (fun q=>mS 37 q.2++mS 37 q.1) w):=by
 have:=ArgC.mk hv
 have:=ArgC.mk hd
 refine Zb Tryz.func45 rfl Tryz.ntmps45 rfl ?_
 repeat(first|(refine wkB ?_;intros)|(refine wnM ?_ ?_;(focus(exact hp));intros))
 rename_i s2
 exact Za7 rfl rfl (fun w hw=>⟨s2,rfl,hw.sub (List.sublist_append_left _ _)⟩)
instance ZyO (w0:World)(L:List Blk)(v v2:Value)(a b:List PU)[h1:LstC w0 L v PU rP a][h2:LstC w0 L v2 PU rP b]:SpecR prog w0 L 45 [v,v2] (SlS rI 20 (pDom (mcR gS a b))×SlS rI 20 (whR (mcR gS a b) 1)) (fun q=> .agg (ZM ⟨slOf q.1,slOf q.2⟩)) (fun q=>mS 37 q.2++mS 37 q.1) (CmSame a b):=⟨fun hp w hw=>Zlf v v2 a b w (h1.out w hw) (h2.out w hw) hp⟩
structure CmLess (a b:List PU):Prop where
 c:CmP gL (mpN toU a a.length) (mpN toU b b.length)
 n:(mcR gL a b).length<=1048576
 d:SwOk (pIv (mcR gL a b)) []
 w:SwOk (whL (mcR gL a b) 1 (mcR gL a b).length) []
theorem ZiO (v v2:Value)(a b:List PU)(w:World)(hv:ArgS w v rP a)(hd:ArgS w v2 rP b)(hp:CmLess a b):
  Calls prog 96 [v,v2,vFn 98].toArray w (RetM (SlS rI 20 (pDom (mcR gL a b))×SlS rI 20 (whR (mcR gL a b) 1)) (fun q=> .agg (ZM ⟨slOf q.1,slOf q.2⟩)) (fun q=>mS 37 q.2++mS 37 q.1) w):=by
 have:=ArgC.mk hv
 have:=ArgC.mk hd
 have p1:=hp.c
 have p2:(mcR gL a b).length<=1048576/\SwOk (pIv (mcR gL a b)) []/\SwOk (whL (mcR gL a b) 1 (mcR gL a b).length) []:=⟨hp.n,hp.d,hp.w⟩
 refine Zb Tryz.func96 rfl Tryz.ntmps96 rfl ?_
 repeat(first|(refine wkB ?_;intros)|(refine wnM ?_ ?_;(focus(first|exact p1|exact p2));intros))
 rename_i s1 s2
 exact Za7 rfl rfl (fun w hw=>⟨s2,rfl,hw.sub (List.sublist_append_left _ _)⟩)
instance Zwl (w0:World)(L:List Blk)(v v2:Value)(a b:List PU)[h1:LstC w0 L v PU rP a][h2:LstC w0 L v2 PU rP b]:SpecR prog w0 L 96 [v,v2,vFn 98] (SlS rI 20 (pDom (mcR gL a b))×SlS rI 20 (whR (mcR gL a b) 1)) (fun q=> .agg (ZM ⟨slOf q.1,slOf q.2⟩)) (fun q=>mS 37 q.2++mS 37 q.1) (CmLess a b):=⟨fun hp w hw=>ZiO v v2 a b w (h1.out w hw) (h2.out w hw) hp⟩
theorem ZkL (v v2:Value)(a b:List PU)(w:World)(hv:ArgS w v rP a)(hd:ArgS w v2 rP b)(hp:CmLess a b):
  Calls prog 47 [v,v2].toArray w (RetM (SlS rI 20 (pDom (mcR gL a b))×SlS rI 20 (whR (mcR gL a b) 1)) (fun q=> .agg (ZM ⟨slOf q.1,slOf q.2⟩)) (fun q=>mS 37 q.2++mS 37 q.1) w):=by
 have:=ArgC.mk hv
 have:=ArgC.mk hd
 refine Zb Tryz.func47 rfl Tryz.ntmps47 rfl ?_
 repeat(first|(refine wkB ?_;intros)|(refine wnM ?_ ?_;(focus(exact hp));intros))
 rename_i s2
 exact Za7 rfl rfl (fun w hw=>⟨s2,rfl,hw.sub (List.sublist_append_left _ _)⟩)
instance ZzD (w0:World)(L:List Blk)(v v2:Value)(a b:List PU)[h1:LstC w0 L v PU rP a][h2:LstC w0 L v2 PU rP b]:SpecR prog w0 L 47 [v,v2] (SlS rI 20 (pDom (mcR gL a b))×SlS rI 20 (whR (mcR gL a b) 1)) (fun q=> .agg (ZM ⟨slOf q.1,slOf q.2⟩)) (fun q=>mS 37 q.2++mS 37 q.1) (CmLess a b):=⟨fun hp w hw=>ZkL v v2 a b w (h1.out w hw) (h2.out w hw) hp⟩
structure IsB (d t:List Za)(l:List PU):Prop where
 ed:d=nrmS (inL l)
 et:t=nrmS (whL l 1 l.length)
 nl:l.length<=1024
 i:∀i∈inL l,IvOk B28 i
 w:∀i∈whL l 1 l.length,IvOk B28 i
theorem Zi2 (B:Zbr)(v:Value)(d t:List Za)(l:List PU)(w:World)(h1:ArgS w (.slice B.Domain.a B.Domain.len B.Domain.cap) rI d)(h2:ArgS w (.slice B.True.a B.True.len B.True.cap) rI t)(hv:ArgS w v rP l)(hp:IsB d t l):
  Calls prog 44 [.agg (ZM B),v].toArray w (Ret (.bool true) w):=by
 have:=ArgC.mk h1
 have:=ArgC.mk h2
 have:=ArgC.mk hv
 have n1:l.length<=1048576:=Wi hp.nl (by decide)
 have q1:(inL l).length<=1024/\∀i∈inL l,IvOk B28 i:=⟨by unfold inL;rw[ZK];exact hp.nl,hp.i⟩
 have q2:l.length<=1024/\∀i∈whL l 1 l.length,IvOk B28 i:=⟨hp.nl,hp.w⟩
 have q5:(nrmS (inL l)).length<=1048576:=by have:=ZbO (inL l);have:=q1.1;omega
 have q6:(nrmS (whL l 1 l.length)).length<=1048576:=by have:=ZbO (whL l 1 l.length);have:=ZbE l 1 l.length;have:=hp.nl;omega
 have q3:d.length<=1048576/\(nrmS (inL l)).length<=1048576:=⟨by rw[hp.ed];exact q5,q5⟩
 have q4:t.length<=1048576/\(nrmS (whL l 1 l.length)).length<=1048576:=⟨by rw[hp.et];exact q6,q6⟩
 refine Zb Tryz.func44 rfl Tryz.ntmps44 rfl ?_
 repeat(refine wkB ?_;intros)
 rename_i b2
 (refine ZB (.v [0,1,2] (.e1 3 (.e1 4 (.e1 5 (.v [6,7,8,9] (.e1 10 (.e1 11 (.v [12] (.e1 13 (.fin)))))))))) ([⟨b2,ZM B,80⟩]) (h:=?_);refine wkX ?_)
 (repeat(refine wkH ?_))
 repeat(first|(refine wkT ?_;intros)|(refine tC rfl rfl ?_ ?_;focus(first|exact n1|exact q1|exact q3))|(refine uC rfl rfl ?_ ?_;focus(first|exact n1|exact q1|exact q3))|(refine eN rfl rfl ?_ ?_;(focus(first|exact n1|exact q1|exact q3));intro _;(try simp only[Wf,Wg,Wh])))
 simp only[Wc hp.ed]
 repeat(first|(refine wkT ?_;intros)|(refine tC rfl rfl ?_ ?_;focus(first|exact q2|exact q4))|(refine uC rfl rfl ?_ ?_;focus(first|exact q2|exact q4))|(refine eN rfl rfl ?_ ?_;(focus(first|exact q2|exact q4));intro _;(try simp only[Wf,Wg,Wh])))
 simp only[Wc hp.et]
 repeat(refine wkB ?_;intros)
 exact rtT rfl rfl
instance Zv0 (w0:World)(L:List Blk)(B:Zbr)(v:Value)(d t:List Za)(l:List PU)[h1:LstC w0 L (.slice B.Domain.a B.Domain.len B.Domain.cap) Za rI d][h2:LstC w0 L (.slice B.True.a B.True.len B.True.cap) Za rI t][h3:LstC w0 L v PU rP l]:SpecM prog w0 L 44 [.agg (ZM B),v] (.bool true) (IsB d t l):=⟨fun hp w hw=>Zi2 B v d t l w (h1.out w hw) (h2.out w hw) (h3.out w hw) hp⟩
end
section
theorem pwQ {l:List PU}(h:NF (l.map absQ)):l.Pairwise (fun u w=>bfI u.In w.In):=(List.pairwise_map.1 h.pw).imp fun e=>e.bf
theorem ZnD {l m:List PU}{K K':Nat}(hl:∀u∈l,IvOk K u.In)(hm:∀u∈m,IvOk K' u.In)(h:l.map absQ=m.map absQ):l=m:=by
 have h1:l.map toU=m.map toU:=ZeS (K:=K) (K':=K') (fun u hu=>by obtain⟨w,hw,rfl⟩:=List.mem_map.1 hu;exact hl w hw) (fun u hu=>by obtain⟨w,hw,rfl⟩:=List.mem_map.1 hu;exact hm w hw) (by rw[List.map_map,List.map_map];exact h)
 have h2:=congrArg (List.map ofU) h1
 rw[List.map_map,List.map_map] at h2
 have e:ofU ∘ toU=id:=funext fun u=>rfl
 rw[e,List.map_id,List.map_id] at h2
 exact h2
theorem pwT {l:List PU}(h:l.Pairwise (fun u w=>bfI u.In w.In)):PwU (l.map toU):=by
 unfold PwU
 rw[List.pairwise_map]
 exact h
theorem Zqb (X:List UL):(mpN ofU X X.length).map absQ=X.map absU:=by
 rw[Zag,List.map_map]
 rfl
structure MvP (l:List PU):Prop where
 nf:NfP l
 d:DscL l
 f:∀u∈l,Lb u.Label
theorem MvP.sh {l:List PU}(h:MvP l):ShP l:=⟨h.nf.len,h.nf.k⟩
theorem MvP.pw {l:List PU}(h:MvP l):l.Pairwise (fun u w=>bfI u.In w.In):=pwQ h.nf.nf
theorem MvP.lf {a b:List PU}(ha:MvP a)(hb:MvP b):LfP a b:=⟨ha.sh,hb.sh,ha.d,hb.d⟩
theorem ZhK (g:Int->Int->Int){a b:List PU}(ha:MvP a)(hb:MvP b):CmP g (mpN toU a a.length) (mpN toU b b.length)/\NF ((mcR g a b).map absQ)/\(∀z x,Has ((mcR g a b).map absQ) z x↔∃p q,vlA a z=some p/\vlA b z=some q/\g p q=x)/\(∀u∈mcR g a b,IvOk KN u.In)/\(mcR g a b).length<=960:=by
 have hA:=Zag toU a
 have hB:=Zag toU b
 have hwa:=pwT ha.pw
 have hwb:=pwT hb.pw
 have la:=ha.nf.len
 have lb:=hb.nf.len
 have n1:(a.map toU).length<=160:=by rw[Ws];exact la
 have n2:(b.map toU).length<=160:=by rw[Ws];exact lb
 have hrl:=Zch (a.map toU) (b.map toU)
 have hcm:cmU g (a.map toU) (b.map toU)=(ref (a.map toU) (b.map toU)).map (bU g):=Zag _ _
 have hmem:∀{u:UL},u∈cmU g (a.map toU) (b.map toU)↔∃x∈ref (a.map toU) (b.map toU),bU g x=u:=by rw[hcm];exact List.mem_map
 have hka:∀u∈a.map toU,IvOk 3 u.In:=fun u hu=>by obtain⟨w,hw,rfl⟩:=List.mem_map.1 hu;exact ha.nf.k w hw
 have hkb:∀u∈b.map toU,IvOk 3 u.In:=fun u hu=>by obtain⟨w,hw,rfl⟩:=List.mem_map.1 hu;exact hb.nf.k w hw
 have hck:∀u∈cmU g (a.map toU) (b.map toU),IvOk 3 u.In:=fun u hu=>by
  obtain⟨x,hx,rfl⟩:=hmem.1 hu
  obtain⟨p,h1,q,h2,rfl,_⟩:=Zb4 _ _ hx
  exact Zpq (hka p h1) (hkb q h2)
 have hco:∀u∈cmU g (a.map toU) (b.map toU),okI u.In:=fun u hu=>by
  obtain⟨x,hx,rfl⟩:=hmem.1 hu
  obtain⟨p,h1,q,h2,rfl,h3⟩:=Zb4 _ _ hx
  exact h3
 have hcp:PwU (cmU g (a.map toU) (b.map toU)):=by
  rw[hcm]
  unfold PwU
  rw[List.pairwise_map]
  exact ZhF _ _ hwa hwb
 have hcl:(cmU g (a.map toU) (b.map toU)).length<=320:=by rw[hcm,Ws];omega
 obtain⟨r1,r2,r3,r4⟩:=Zre hck hco hcp (by omega)
 have hmc:mcR g a b=mpN ofU (nrmR (cmU g (a.map toU) (b.map toU))) (nrmR (cmU g (a.map toU) (b.map toU))).length:=by unfold mcR;rw[hA,hB]
 have hmq:(mcR g a b).map absQ=(nrmR (cmU g (a.map toU) (b.map toU))).map absU:=by rw[hmc,Zqb]
 rw[hA,hB]
 refine⟨⟨by omega,by omega,fun u hu=>(hka u hu).mono (by decide),fun u hu=>(hkb u hu).mono (by decide),fun u hu=>?_,fun u hu=>?_,r1,r2⟩,by rw[hmq];exact r3,fun z x=>?_,fun u hu=>?_, ?_⟩
 ·obtain⟨w,hw,rfl⟩:=List.mem_map.1 hu;exact ha.f w hw
 ·obtain⟨w,hw,rfl⟩:=List.mem_map.1 hu;exact hb.f w hw
 ·rw[hmq,r4]
  constructor
  ·rintro⟨y,hy,h1,h2⟩
   obtain⟨u,hu,rfl⟩:=List.mem_map.1 hy
   obtain⟨x',hx,rfl⟩:=hmem.1 hu
   obtain⟨p,h3,q,h4,rfl,_⟩:=Zb4 _ _ hx
   obtain⟨p0,h5,rfl⟩:=List.mem_map.1 h3
   obtain⟨q0,h6,rfl⟩:=List.mem_map.1 h4
   obtain⟨m1,m2⟩:=(Znk _ _ z).1 h1
   exact⟨p0.Label,q0.Label,(Zjh ha.pw).2 ⟨absQ p0,List.mem_map_of_mem h5,m1,rfl⟩,(Zjh hb.pw).2 ⟨absQ q0,List.mem_map_of_mem h6,m2,rfl⟩,h2⟩
  ·rintro⟨p,q,h1,h2,h3⟩
   obtain⟨u,hu,m1,rfl⟩:=Zb7 h1
   obtain⟨w,hw,m2,rfl⟩:=Zb7 h2
   obtain⟨y,hy,m3,e1,e2⟩:=Zgm _ _ hwa hwb (List.mem_map_of_mem (f:=toU) hu) (List.mem_map_of_mem (f:=toU) hw) m1 m2
   refine⟨absU (bU g y),List.mem_map_of_mem (hmem.2 ⟨y,hy,rfl⟩),m3, ?_⟩
   show g y.F y.G=x
   rw[e1,e2]
   exact h3
 ·rw[hmc,Zag] at hu
  obtain⟨w,hw,rfl⟩:=List.mem_map.1 hu
  exact(Zky r2 w hw).i
 ·have:=Zcj (cmU g (a.map toU) (b.map toU))
  rw[hmc,ZK]
  omega
theorem Zl8 {op:Int}{g:Int->Int->Int}(hg:∀v w:Option Int,(∀x,lfO op v w=some x↔∃p q,v=some p/\w=some q/\g p q=x)){a b:List PU}(ha:MvP a)(hb:MvP b):mcR g a b=lfR op a b:=by
 obtain⟨_,h1,h2,h3,_⟩:=ZhK g ha hb
 obtain⟨k1,k2,k3⟩:=Zkz (op:=op) (ha.lf hb)
 exact ZnD h3 k3 (h1.uniq k1 fun z x=>(h2 z x).trans ((hg _ _ x).symm.trans (k2 z x).symm))
theorem ZrM {a b:List PU}(ha:MvP a)(hb:MvP b):mcR gS a b=lfR 3 a b:=Zl8 (fun v w x=>by
 unfold lfO gS
 rw[if_neg (by decide),if_neg (by decide),if_pos rfl]
 cases v <;> cases w <;> simp) ha hb
theorem ZsP {a b:List PU}(ha:MvP a)(hb:MvP b):mcR gL a b=lfR 4 a b:=Zl8 (fun v w x=>by
 unfold lfO gL
 rw[if_neg (by decide),if_neg (by decide),if_neg (by decide),if_pos rfl]
 cases v <;> cases w <;> simp) ha hb
end
section
theorem Zq8 (s:WS):Dsc (ivS s).From/\Dsc (ivS s).To:=by
 unfold ivS
 split
 ·exact⟨⟨_,rfl⟩,⟨_,rfl⟩⟩
 ·split <;> exact⟨⟨_,rfl⟩,⟨_,rfl⟩⟩
theorem Zjn (l:List St):∀m,∀i∈inS l m,Dsc i.From/\Dsc i.To
 |0,i,hi=>by cases hi
 |m+1,i,hi=>by
  rw[inS,Wv,Wo] at hi
  rcases hi with hi|rfl
  ·exact Zjn l m i hi
  ·exact Zq8 _
theorem Zo1 (l:List St):DscL (movV l):=fun u hu=>by
 have h1:∀i∈insV l,Dsc i.From/\Dsc i.To:=Zjn l _
 have h2:∀i∈celV l,Dsc i.From/\Dsc i.To:=Zh7 (ZcV h1) (ZfB h1)
 exact Zlo (Pr:=Dsc) (fun u hu=>h2 _ (Zf3 u hu)) _ (Wl _) u hu
theorem ZkH {l:List St}{ins cs:List Za}:∀i,∀u∈mvS l ins cs i,Lb u.Label
 |0,u,hu=>by cases hu
 |i+1,u,hu=>by
  have ih:=ZkH (l:=l) (ins:=ins) (cs:=cs) i
  rw[mvS] at hu
  unfold mv1 at hu
  split at hu
  ·rename_i k _
   rw[Wv,Wo] at hu
   rcases hu with hu|rfl
   ·exact ih u hu
   ·show-1000<=(gi l (k:Int)).Label % 5/\(gi l (k:Int)).Label % 5<=1000
    omega
  ·exact ih u hu
theorem Zke {l:List PU}(h:∀u∈l,Lb u.Label):∀i,i<=l.length->∀u∈jnL l i,Lb u.Label
 |0,_,u,hu=>by cases hu
 |i+1,hi,u,hu=>by
  have ih:=Zke h i (by omega)
  have h1:=h (gi l (i:Int)) (Zs (by omega))
  rw[jnL] at hu
  unfold jn1 at hu
  split at hu
  ·rename_i hc
   rcases List.mem_or_eq_of_mem_set hu with hu|rfl
   ·exact ih u hu
   ·exact ih (lstP (jnL l i)) (Zs (by omega))
  ·rw[Wv,Wo] at hu
   rcases hu with hu|rfl
   ·exact ih u hu
   ·exact h1
theorem ZjC {l:List St}(hk:∀x∈l,StOk x):MvP (movV l):=⟨ZqY hk,Zo1 l,Zke (ZkH _) _ (Wl _)⟩
theorem ZlQ {op:Int}{a b:List PU}(ha:MvP a)(hb:MvP b)(hn:(lfR op a b).length<=1024)(x:Int):
  SwOk (pIv (lfR op a b)) []/\SwOk (whL (lfR op a b) x (lfR op a b).length) []/\pDom (lfR op a b)=nrmS (inL (lfR op a b))/\whR (lfR op a b) x=nrmS (whL (lfR op a b) x (lfR op a b).length)/\(∀i∈inL (lfR op a b),IvOk B28 i)/\∀i∈whL (lfR op a b) x (lfR op a b).length,IvOk B28 i:=by
 obtain⟨k1,k2,k3⟩:=Zkz (op:=op) (ha.lf hb)
 generalize lfR op a b=m at*
 have ho:∀u∈m,okI u.In:=fun u hu=>k1.ok (absQ u) (List.mem_map_of_mem hu)
 have hi3:∀i∈inL m,IvOk 3 i:=fun i hi=>by
  unfold inL at hi
  rw[Zag] at hi
  obtain⟨u,h1,rfl⟩:=List.mem_map.1 hi
  exact k3 u h1
 have hio:∀i∈inL m,okI i:=fun i hi=>by
  unfold inL at hi
  rw[Zag] at hi
  obtain⟨u,h1,rfl⟩:=List.mem_map.1 hi
  exact ho u h1
 have hil:(inL m).length=m.length:=by unfold inL;exact ZK _ _ _
 have hw3:∀i∈whL m x m.length,IvOk 3 i:=fun i hi=>by
  obtain⟨u,h1,_,rfl⟩:=Zew.1 hi
  exact k3 u h1
 have hwo:∀i∈whL m x m.length,okI i:=fun i hi=>by
  obtain⟨u,h1,_,rfl⟩:=Zew.1 hi
  exact ho u h1
 have hwl:=ZbE m x m.length
 refine⟨?_, ?_, ?_, ?_,fun i hi=>(hi3 i hi).mono (by decide),fun i hi=>(hw3 i hi).mono (by decide)⟩
 ·rw[ZfD]
  exact SwOk.of (K:=3) (by decide) (by simp only[Wx];omega) hi3 (fun i hi=>by cases hi)
 ·exact SwOk.of (K:=3) (by decide) (by simp only[Wx];omega) hw3 (fun i hi=>by cases hi)
 ·unfold pDom
  rw[ZfD]
  exact ZdR (by decide) (by omega) hi3 hio
 ·exact ZdR (by decide) (by omega) hw3 hwo
theorem ZqW {a b:List PU}(ha:MvP a)(hb:MvP b):CmSame a b/\IsB (pDom (mcR gS a b)) (whR (mcR gS a b) 1) (lfR 3 a b):=by
 obtain⟨c1,_,_,_,c5⟩:=ZhK gS ha hb
 have e:=ZrM ha hb
 have hn:(lfR 3 a b).length<=1024:=by rw[<-e];omega
 obtain⟨n1,n2,n3,n4,n5,n6⟩:=ZlQ (op:=3) ha hb hn 1
 refine⟨⟨c1,by omega,by rw[e];exact n1,by rw[e];exact n2⟩,⟨by rw[e];exact n3,by rw[e];exact n4,hn,n5,n6⟩⟩
theorem ZqH {a b:List PU}(ha:MvP a)(hb:MvP b):CmLess a b/\IsB (pDom (mcR gL a b)) (whR (mcR gL a b) 1) (lfR 4 a b):=by
 obtain⟨c1,_,_,_,c5⟩:=ZhK gL ha hb
 have e:=ZsP ha hb
 have hn:(lfR 4 a b).length<=1024:=by rw[<-e];omega
 obtain⟨n1,n2,n3,n4,n5,n6⟩:=ZlQ (op:=4) ha hb hn 1
 refine⟨⟨c1,by omega,by rw[e];exact n1,by rw[e];exact n2⟩,⟨by rw[e];exact n3,by rw[e];exact n4,hn,n5,n6⟩⟩
end
end Go.Vt
