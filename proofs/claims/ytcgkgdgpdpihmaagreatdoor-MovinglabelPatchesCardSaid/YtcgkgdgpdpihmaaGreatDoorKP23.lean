/- For any two moving labels and any period, Restrict returns the part during the period, and Patch the second one in place of the first one; patching by a part of itself changes nothing. Conditions: none. (part 23 of 30.) Conditions: those that each statement names. -/
import Derived.Test.YtcgkgdgpdpihmaaGreatDoorProg
import Derived.Test.YtcgkgdgpdpihmaaGreatDoorKP10
import Derived.Test.YtcgkgdgpdpihmaaGreatDoorKP11
import Derived.Test.YtcgkgdgpdpihmaaGreatDoorKP15
import Derived.Test.YtcgkgdgpdpihmaaGreatDoorKP16
import Derived.Test.YtcgkgdgpdpihmaaGreatDoorKP19
import Derived.Test.YtcgkgdgpdpihmaaGreatDoorKP20
import Derived.Test.YtcgkgdgpdpihmaaGreatDoorKP22
set_option linter.unusedSimpArgs false
set_option linter.unusedVariables false
set_option maxHeartbeats 2000000
set_option maxRecDepth 100000
set_option linter.unusedSectionVars false
namespace Go.Vt
open Go.RowKit Go.Proofs
open Go.Proofs.Tryz (prog)
section
def cmL (xs:List Int):Nat->List Int
 |0=>[]
 |j+1=>if 0<j/\gi xs (j:Int)=gi xs ((j-1:Nat):Int) then cmL xs j else cmL xs j++[gi xs (j:Int)]
def cmI' (xs:List Int):List Int:=cmL xs xs.length
theorem ZkQ (xs:List Int):∀j,0<j->cmL xs j≠[]
 |0,h=>absurd h (Nat.lt_irrefl _)
 |j+1,_=>by
  rw[cmL]
  split
  ·rename_i h;exact ZkQ xs j h.1
  ·simp
theorem ZrT {xs:List Int}{z:Int}:∀j,j<=xs.length->(z∈cmL xs j↔z∈xs.take j)
 |0,_=>by simp[cmL]
 |j+1,h=>by
  have ih:=ZrT (xs:=xs) (z:=z) j (by omega)
  have ht:xs.take (j+1)=xs.take j++[gi xs (j:Int)]:=by rw[Wn h,Zt h]
  rw[cmL,ht]
  split
  ·rename_i hc
   rw[ih,Wv]
   constructor
   ·exact .inl
   ·rintro(h1|h1)
    ·exact h1
    ·rw[Wo] at h1
     rw[h1,hc.2,Zt (by omega)]
     exact List.mem_take_iff_getElem.2 ⟨j-1,by omega,rfl⟩
  ·rw[Wv,Wv,ih]
structure CmQ (xs:List Int)(k i:Nat)(ys:List Int):Prop where
 ki:k<i
 k0:0<k
 im:i<=xs.length
 len:ys.length=xs.length
 tk:ys.take k=cmL xs i
 eq:∀j:Nat,i-1<=j->j<xs.length->gi ys (j:Int)=gi xs (j:Int)
theorem CmQ.skip {xs ys:List Int}{k i:Nat}(h:CmQ xs k i ys)(hi:i<xs.length)(he:gi xs (i:Int)=gi xs ((i-1:Nat):Int)):CmQ xs k (i+1) ys:=
 ⟨by have:=h.ki;omega,h.k0,hi,h.len,by rw[cmL,if_pos ⟨by have:=h.ki;omega,he⟩];exact h.tk,fun j h1 h2=>h.eq j (by omega) h2⟩
theorem CmQ.keep {xs ys:List Int}{k i:Nat}(h:CmQ xs k i ys)(hi:i<xs.length)(he:gi xs (i:Int)≠gi xs ((i-1:Nat):Int)):CmQ xs (k+1) (i+1) (ys.set k (gi xs (i:Int))):=by
 have hk:=h.ki
 have hl:=h.len
 refine⟨by omega,by omega,hi,by rw[List.length_set];exact hl, ?_,fun j h1 h2=>?_⟩
 ·rw[cmL,if_neg (fun hc=>he hc.2),<-h.tk,Wn (by rw[List.length_set];omega),List.take_set_of_le (Wl k)]
  simp
 ·rw[Zt (by rw[List.length_set];omega),List.getElem_set_ne (by omega),<-Zt (by omega)]
  exact h.eq j (by omega) h2
theorem ZeC {xs:List Int}:∀{m:Nat},m<=xs.length->(∀j:Nat,0<j->j<m->gi xs (j:Int)≠gi xs ((j-1:Nat):Int))->cmL xs m=xs.take m
 |0,_,_=>rfl
 |m+1,hm,h=>by
  rw[cmL,if_neg (fun hc=>h m hc.1 (Nat.lt_succ_self m) hc.2),ZeC (by omega) (fun j h1 h2=>h j h1 (by omega)),Wn hm,Zt hm]
theorem CmQ.start {xs:List Int}{k:Nat}(hk:0<k)(hm:k<xs.length)(he:gi xs (k:Int)=gi xs ((k-1:Nat):Int))(h:∀j:Nat,0<j->j<k->gi xs (j:Int)≠gi xs ((j-1:Nat):Int)):CmQ xs k (k+1) xs:=
 ⟨Nat.lt_succ_self _,hk,hm,rfl,by rw[cmL,if_pos ⟨hk,he⟩,ZeC (Nat.le_of_lt hm) h],fun _ _ _=>rfl⟩
set_option maxHeartbeats 8000000 in
theorem Zhe (w0 w:World)(L L1:List Blk)(xs:List Int)(s:SlS (eI .i64) 1 xs)[hd:OwnS 3 s L L1](hl:xs.length<=1048576)(hw:Own w0 L w):
  Calls prog 85 [vSl s].toArray w (RetX w0 (SlS (eI .i64) 1 (cmI' xs)) (fun s=>vSl s) (fun s=>mS 3 s++L1)):=by
 have hw1:=hw.perm hd.out
 refine Zan Tryz.func85 rfl Tryz.ntmps85 rfl hw1 ?_
 repeat(refine wkB ?_;intros)
 by_cases h2:xs.length<2
 ·simp only[Wc (show(xs.length:Int)<2 by omega)]
  have e:cmI' xs=xs:=by
   unfold cmI'
   rw[ZeC (Wl _) (fun j h1 h3=>by omega),List.take_length]
  obtain⟨s',e1,e2⟩:=SlS.turn 3 e.symm s
  repeat(refine wkB ?_;intros)
  exact Zr rfl rfl (fun w hw=>⟨s',by show Ending.returned (vSl s)=Ending.returned (vSl s');rw[e1],by show Own w0 (mS _ s'++L1) w;rw[e2];exact hw⟩)
 simp only[We (show¬(xs.length:Int)<2 by omega)]
 rcases s.cases 3 with⟨x0, -, -⟩|⟨bs,c,sp,h1,hv,hmS,hne⟩
 ·rw[x0] at h2
  simp at h2
 simp only[hv,hmS,Wf,Wg]
 repeat(refine wkB ?_;intros)
 refine Zo (S:=Nat) (fun m=>m+1<=xs.length/\∀j:Nat,0<j->j<m+1->gi xs (j:Int)≠gi xs ((j-1:Nat):Int)) (fun m=>[(0, .slice (some ⟨bs,0,none⟩) xs.length c),(3, .int .i64 ((m+1:Nat)))]) (fun _=>⟨bs,row (eI .i64) xs sp,3⟩::L1) (fun m=>xs.length-m) 0 ⟨by omega,fun j h1 h2=>by omega⟩ sbB slB (fun m hm=>?_)
 obtain⟨hm,hall⟩:=hm
 repeat(refine wkB ?_;intros)
 refine Zk rfl (fun h=>?_) (fun h=>?_)
 ·have hlt:m+1<xs.length:=by have:=Wa h;omega
  have e1:((m+1:Nat):Int)-1=(m:Int):=by omega
  repeat(refine wkB ?_;intros)
  refine jD 10 10 (h:=?_)
  (repeat(refine wkH ?_))
  simp only[e1]
  (repeat(refine wkH ?_))
  refine Zp ?_
  refine Zq ?_
  by_cases hq:gi xs ((m+1:Nat):Int)=gi xs (m:Int)
  ·simp only[Wc hq]
   have hst:=CmQ.start (k:=m+1) (Nat.succ_pos m) hlt hq hall
   repeat(first|(refine wkB ?_;intros)|(refine wnM ?_ ?_;(focus(exact⟨by omega,by omega⟩));intros))
   refine Zo (S:=Nat×Nat×List Int) (fun q=>CmQ xs q.1 q.2.1 q.2.2/\m+1<q.2.1) (fun q=>[(0, .slice (some ⟨bs,0,none⟩) xs.length c),(3, .int .i64 (q.1:Nat)),(4, .slice (some ⟨bs,(m+1)*1,none⟩) (xs.length-(m+1)) (c-(m+1))),(5, .int .i64 ((q.2.1-(m+1):Nat)))]) (fun q=>⟨bs,row (eI .i64) q.2.2 sp,3⟩::L1) (fun q=>xs.length-q.2.1) (m+1,m+2,xs) ⟨hst,Nat.lt_succ_self _⟩ (by rw[show m+2-(m+1)=1 by omega];exact sbB) slB (fun q hq2=>?_)
   obtain⟨k,i,ys⟩:=q
   obtain⟨hq2,hmi⟩:=hq2
   have hki:=hq2.ki
   have him:=hq2.im
   have hyl:=hq2.len
   have hk0:=hq2.k0
   simp only at hq2 hki him hyl hk0 hmi⊢
   obtain⟨d,rfl⟩:∃d,i=m+1+(d+1):=⟨i-(m+1)-1,by omega⟩
   rw[show m+1+(d+1)-(m+1)=d+1 by omega]
   repeat(refine wkB ?_;intros)
   refine Zk rfl (fun h3=>?_) (fun h3=>?_)
   ·have hlt3:m+1+(d+1)<xs.length:=by have:=Wa h3;omega
    have e4:((d+1:Nat):Int)-1=(d:Int):=by omega
    have g1:=hq2.eq (m+1+(d+1)) (by omega) hlt3
    have g2:=hq2.eq (m+1+d) (by omega) (by omega)
    have e5:(m+1)*1+((d+1:Nat):Int).toNat*1=0+((m+1+(d+1):Nat):Int).toNat*1:=by omega
    have e6:(m+1)*1+((d:Nat):Int).toNat*1=0+((m+1+d:Nat):Int).toNat*1:=by omega
    repeat(refine wkB ?_;intros)
    refine jD 10 10 (h:=?_)
    (repeat(refine wkH ?_))
    simp only[e5]
    (repeat(refine wkH ?_))
    simp only[e4]
    (repeat(refine wkH ?_))
    simp only[e6]
    (repeat(refine wkH ?_))
    refine Zp ?_
    refine Zq ?_
    rw[g1,g2]
    have e7:((m+1+(d+1)-1:Nat):Int)=((m+1+d:Nat):Int):=by omega
    by_cases hq3:gi xs ((m+1+(d+1):Nat):Int)=gi xs ((m+1+d:Nat):Int)
    ·simp only[Wc hq3,Bool.not_true]
     repeat(first|(refine wkB ?_;intros)|(refine wnM ?_ ?_;(focus(exact⟨by omega,by omega⟩));intros))
     exact Zc (k,m+1+(d+1)+1,ys) ⟨hq2.skip hlt3 (by rw[e7];exact hq3),by simp only;omega⟩ (by simp only;rw[show m+1+(d+1)+1-(m+1)=d+1+1 by omega];exact sbB) slB (by show xs.length-(m+1+(d+1)+1)<xs.length-(m+1+(d+1));omega)
    ·simp only[We hq3,Bool.not_false]
     repeat(refine wkB ?_;intros)
     simp only[e5]
     repeat(first|(refine wkB ?_;intros)|(refine wnM ?_ ?_;(focus(exact⟨by omega,by omega⟩));intros))
     rw[g1]
     have hkk:=hq2.keep hlt3 (by rw[e7];exact hq3)
     exact Zc (k+1,m+1+(d+1)+1,ys.set k (gi xs ((m+1+(d+1):Nat):Int))) ⟨hkk,by simp only;omega⟩ (by simp only;rw[show m+1+(d+1)+1-(m+1)=d+1+1 by omega];exact sbB) slB (by show xs.length-(m+1+(d+1)+1)<xs.length-(m+1+(d+1));omega)
   ·have hge:m+1+(d+1)=xs.length:=by have:=Wb h3;omega
    have htk:ys.take k=cmI' xs:=by rw[hq2.tk,hge];rfl
    have hfl:(cmI' xs).length=k:=by rw[<-htk,Wt];omega
    repeat(first|(refine wkB ?_;intros)|(refine wnM ?_ ?_;(focus(exact⟨by omega,by omega,by omega⟩));intros))
    refine sClr (enc:=eI .i64) (k:=1) (i:=k) (ys:=ys) (z:= .int .i64 0) (zc:=#[.int .i64 0]) (hz:=⟨by kernel_rfl,rfl⟩) rfl (by omega) (by omega) rfl (EncC.one (enc:=eI .i64) (0:Int)) (fun zs hzs=>?_)
    repeat(first|(refine wkB ?_;intros)|(refine wnM ?_ ?_;(focus(exact⟨by omega,by omega,by omega⟩));intros))
    refine Zr rfl rfl (fun w hw=>⟨SlS.at_ bs c (zs++sp) ?_ ?_, ?_, ?_⟩)
    ·rw[hfl]
     refine⟨by omega, ?_⟩
     rw[Wp,hzs,h1.2]
     omega
    ·exact ZkQ xs xs.length (by omega)
    ·show Ending.returned _=Ending.returned (.slice (some ⟨bs,0,none⟩) (cmI' xs).length c)
     rw[hfl]
    ·show Own w0 (⟨bs,row (eI .i64) (cmI' xs) (zs++sp),_⟩::L1) w
     rw[<-htk]
     exact hw
  ·simp only[We hq]
   repeat(first|(refine wkB ?_;intros)|(refine wnM ?_ ?_;(focus(exact⟨by omega,by omega⟩));intros))
   exact Zc (m+1) ⟨by omega,fun j h1 h2=>by
    by_cases e:j=m+1
    ·subst e;exact hq
    ·exact hall j h1 (by omega)⟩ sbB slB (by omega)
 ·have hge:m+1=xs.length:=by have:=Wb h;omega
  have e:cmI' xs=xs:=by
   unfold cmI'
   rw[ZeC (Wl _) (fun j h1 h3=>hall j h1 (by omega)),List.take_length]
  obtain⟨s',e1,e2⟩:=SlS.turn 3 e.symm s
  repeat(refine wkB ?_;intros)
  exact Zr rfl rfl (fun w hw=>⟨s',by show Ending.returned _=Ending.returned (vSl s');rw[e1,hv],by show Own w0 (mS _ s'++L1) w;rw[e2,hmS];exact hw⟩)
end
section
instance (priority :=high) ZDj {P:Program}{w0:World}{n:Nat}{L:List Blk}{E:Env}{T T0:TypeId}{x:Operand}{b:Nat}{i:Int}{a1 a2:Sl}[IsC (evl E x) (.pointer (some ⟨b,0+i.toNat*1,none⟩))][h:AtC w0 L b (row eSlc [a1,a2] []) T0][hv:LdC P T (eSlc (gi [a1,a2] i)) 0 (.slice (gi [a1,a2] i).a (gi [a1,a2] i).len (gi [a1,a2] i).cap)]:YsC P w0 n L E (.load T x) (.slice (gi [a1,a2] i).a (gi [a1,a2] i).len (gi [a1,a2] i).cap) (0<=i/\i<2):=⟨fun hi=>ZkW.out (by show i.toNat<2;omega)⟩
theorem ZsE (x y:Ev):∀w:World,(Instr.buildSlice 213 2 [(0,vEv x),(1,vEv y)].toArray).run prog w= .ok (.slice (some ⟨w.heap.size,0,none⟩) 2 2) (w.alloc (.cells (row eEv [x,y] []) 216)):=fun w=>by kernel_rfl
instance ZC7 (x y:Ev):BsC prog 213 2 [(0,vEv x),(1,vEv y)] (row eEv [x,y] []) 216:=⟨ZsE x y⟩
instance (priority :=high) ZDG {P:Program}{w0:World}{n:Nat}{L:List Blk}{E:Env}{T T0:TypeId}{x:Operand}{b:Nat}{i a1 a2:Int}[IsC (evl E x) (.pointer (some ⟨b,0+i.toNat*1,none⟩))][h:AtC w0 L b (row (eI .i64) [a1,a2] []) T0][hv:LdC P T (eI .i64 (gi [a1,a2] i)) 0 (.int .i64 (gi [a1,a2] i))]:YsC P w0 n L E (.load T x) (.int .i64 (gi [a1,a2] i)) (0<=i/\i<2):=⟨fun hi=>ZkW.out (by show i.toNat<2;omega)⟩
instance ZAY (x:Ev):LdC prog 3 (eEv x) (10+Int.toNat 0*1) (.int .i64 x.n0):=⟨ZF⟩
instance ZBN (x:Ev):LdC prog 3 (eEv x) (10+Int.toNat 1*1) (.int .i64 x.n1):=⟨ZF⟩
set_option maxHeartbeats 4000000 in
theorem Zlt (kf:FuncId)(kp:Bool->Bool->Bool)[CallC prog kf](hkp:∀a b,SpecC prog kf [.bool a, .bool b] (.bool (kp a b)) True)(v1 v2:Value)(is js:List Za)(w:World)(hv1:ArgS w v1 rI is)(hv2:ArgS w v2 rI js)(hl:2*is.length+2*js.length<=65536)(hk0:kp false false=false)(ho1:∀i∈is,BdOk (bdF i)/\BdOk (bdL i))(ho2:∀i∈js,BdOk (bdF i)/\BdOk (bdL i)):
  Calls prog 138 [v1,v2,vFn kf].toArray w (RetM (SlS rI 20 (swpR kp is js)) (fun s=>vSl s) (fun s=>mS 37 s) w):=by
 refine Zb Tryz.func138 rfl Tryz.ntmps138 rfl ?_
 obtain⟨p1,c1,rfl⟩:=hv1.form
 obtain⟨p2,c2,rfl⟩:=hv2.form
 repeat(refine wkB ?_;intros)
 rename_i b23
 refine Zo (S:=(ys:List Ev)×Nat×SlS eEv 12 ys) (fun s=>s.1=evK is js s.2.1/\s.2.1<=2) (fun s=>[(2,vFn kf),(7,vSl s.2.2),(23, .slice (some ⟨b23,0,none⟩) 2 2),(24, .int .i64 2),(25, .int .i64 (s.2.1:Nat))])
  (fun s=>mS 216 s.2.2++[⟨b23,row eSlc [⟨p1,is.length,c1⟩,⟨p2,js.length,c2⟩] [],47⟩]) (fun s=>2-s.2.1) ⟨[],0,SlS.no⟩ ⟨rfl,Wm _⟩ sbB slB (fun s hs=>?_)
 obtain⟨ys,k,s⟩:=s
 obtain⟨hys,hk⟩:=hs
 simp only at hys hk s⊢
 have hz:prog.info? 0=prog.info? 0:=rfl
 repeat(refine wkB ?_;intros)
 rcases(by omega:k=0\/k=1\/k=2) with h0|h0|h0
 ·subst h0
  simp only[Wc (show((0:Nat):Int)<2 by omega)]
  repeat(refine wkB ?_;intros)
  simp only[show gi [(⟨p1,is.length,c1⟩:Sl),⟨p2,js.length,c2⟩] ((0:Nat):Int)=⟨p1,is.length,c1⟩ from rfl]
  repeat(refine wkB ?_;intros)
  refine Zo (S:=(zs:List Ev)×Nat×SlS eEv 12 zs) (fun r=>r.1=evA is r.2.1/\r.2.1<=is.length) (fun r=>[(2,vFn kf),(7,vSl r.2.2),(8, .int .i64 0),(23, .slice (some ⟨b23,0,none⟩) 2 2),(24, .int .i64 2),(25, .int .i64 0),(30, .slice p1 is.length c1),(31, .int .i64 is.length),(32, .int .i64 (r.2.1:Nat))])
   (fun r=>mS 216 r.2.2++[⟨b23,row eSlc [⟨p1,is.length,c1⟩,⟨p2,js.length,c2⟩] [],47⟩]) (fun r=>is.length-r.2.1) ⟨ys,0,s⟩ ⟨hys,Wm _⟩ sbB slB (fun r hr=>?_)
  obtain⟨zs,m,r⟩:=r
  obtain⟨hzs,hm⟩:=hr
  simp only at hzs hm r⊢
  repeat(refine wkB ?_;intros)
  refine Zk rfl (fun h=>?_) (fun h=>?_)
  ·have hlt:m<is.length:=by have:=Wa h;omega
   have hne:is≠[]:=fun h0=>by rw[h0] at hlt;simp at hlt
   obtain⟨bw,ow,cw,hvw,hcw,hrow⟩:=hv1.blk (k:=19) hne []
   injection hvw with e1 e2 e3
   subst e1
   subst e3
   have hrow':∀L,RowC w L bw ow Za rI is:=fun L=>⟨fun w' hw'=>hrow.out w' (hw'.sub (Wk _))⟩
   have hel:=Zex is m
   repeat(refine wkB ?_;intros)
   rename_i b11
   obtain⟨iv,hiv⟩:∃iv,iv=gi is (m:Int):=⟨_,rfl⟩
   simp only[<-hiv]
   (refine ZcM [0,1,2,3,4,5] [6,7] [8,9] ([⟨b11,Zh (Zi iv),37⟩]) (h:=?_);refine wkI ?_)
   (repeat(refine wkH ?_))
   repeat(refine wkT ?_;intros)
   repeat(refine wkB ?_;intros)
   refine sU rfl rfl ?_ ?_ ?_ ?_
   ·rfl
   ·rfl
   ·exact⟨by decide,by rw[hzs];omega,by rw[hzs];omega⟩
   intro r'
   repeat(first|(refine wkB ?_;intros)|(refine wnM ?_ ?_;(focus(exact⟨by omega,by omega⟩));intros))
   exact Zc ⟨_,m+1,r'⟩ ⟨by show zs++_=evA is m++_;rw[hzs,hiv],hlt⟩ sbB suB (by show is.length-(m+1)<is.length-m;omega)
  ·have hge:m=is.length:=by have:=Wb h;omega
   subst hge
   repeat(refine wkB ?_;intros)
   exact Zc ⟨zs,1,r⟩ ⟨hzs,Nat.le_of_ble_eq_true rfl⟩ sbB suB (by show 2-1<2-0;decide)
 ·subst h0
  simp only[Wc (show((1:Nat):Int)<2 by omega)]
  repeat(refine wkB ?_;intros)
  simp only[show gi [(⟨p1,is.length,c1⟩:Sl),⟨p2,js.length,c2⟩] ((1:Nat):Int)=⟨p2,js.length,c2⟩ from rfl]
  repeat(refine wkB ?_;intros)
  refine Zo (S:=(zs:List Ev)×Nat×SlS eEv 12 zs) (fun r=>r.1=evA is is.length++evB js r.2.1/\r.2.1<=js.length) (fun r=>[(2,vFn kf),(7,vSl r.2.2),(8, .int .i64 1),(23, .slice (some ⟨b23,0,none⟩) 2 2),(24, .int .i64 2),(25, .int .i64 1),(30, .slice p2 js.length c2),(31, .int .i64 js.length),(32, .int .i64 (r.2.1:Nat))])
   (fun r=>mS 216 r.2.2++[⟨b23,row eSlc [⟨p1,is.length,c1⟩,⟨p2,js.length,c2⟩] [],47⟩]) (fun r=>js.length-r.2.1) ⟨ys,0,s⟩ ⟨by rw[evB,Wh];exact hys,Wm _⟩ sbB slB (fun r hr=>?_)
  obtain⟨zs,m,r⟩:=r
  obtain⟨hzs,hm⟩:=hr
  simp only at hzs hm r⊢
  repeat(refine wkB ?_;intros)
  refine Zk rfl (fun h=>?_) (fun h=>?_)
  ·have hlt:m<js.length:=by have:=Wa h;omega
   have hne:js≠[]:=fun h0=>by rw[h0] at hlt;simp at hlt
   obtain⟨bw,ow,cw,hvw,hcw,hrow⟩:=hv2.blk (k:=19) hne []
   injection hvw with e1 e2 e3
   subst e1
   subst e3
   have hrow':∀L,RowC w L bw ow Za rI js:=fun L=>⟨fun w' hw'=>hrow.out w' (hw'.sub (Wk _))⟩
   have hel:=Zge js m
   have hel2:=Zex is is.length
   repeat(refine wkB ?_;intros)
   rename_i b11
   obtain⟨iv,hiv⟩:∃iv,iv=gi js (m:Int):=⟨_,rfl⟩
   simp only[<-hiv]
   (refine ZcM [0,1,2,3,4,5] [6,7] [8,9] ([⟨b11,Zh (Zi iv),37⟩]) (h:=?_);refine wkI ?_)
   (repeat(refine wkH ?_))
   repeat(refine wkT ?_;intros)
   repeat(refine wkB ?_;intros)
   refine sU rfl rfl ?_ ?_ ?_ ?_
   ·rfl
   ·rfl
   ·exact⟨by decide,by rw[hzs,Wp];omega,by rw[hzs,Wp];omega⟩
   intro r'
   repeat(first|(refine wkB ?_;intros)|(refine wnM ?_ ?_;(focus(exact⟨by omega,by omega⟩));intros))
   exact Zc ⟨_,m+1,r'⟩ ⟨by show zs++_=evA is is.length++(evB js m++_);rw[hzs,hiv,List.append_assoc],hlt⟩ sbB suB (by show js.length-(m+1)<js.length-m;omega)
  ·have hge:m=js.length:=by have:=Wb h;omega
   subst hge
   repeat(refine wkB ?_;intros)
   exact Zc ⟨zs,2,r⟩ ⟨hzs,Nat.le_of_ble_eq_true rfl⟩ sbB suB (by show 2-2<2-1;decide)
 ·subst h0
  simp only[We (show¬((2:Nat):Int)<2 by omega)]
  have hlen2:ys.length<=65536:=by
   rw[hys]
   show(evA is is.length++evB js js.length).length<=65536
   rw[Wp,Zex,Zge]
   exact hl
  have hbd:∀u∈ys,BdOk u.b:=by
   rw[hys]
   intro u hu
   rcases List.mem_append.1 (show u∈evA is is.length++evB js js.length from hu) with h1|h1
   ·exact Zol ho1 _ (Wl _) u h1
   ·exact ZnM ho2 _ (Wl _) u h1
  repeat(refine wkB ?_;intros)
  refine sZ rfl rfl ?_ ?_
  ·exact⟨by omega,hbd⟩
  intro s'
  obtain⟨⟨es,hso⟩,s3,hv3⟩:=s'
  dsimp only
  dsimp only at s3 hv3
  repeat(refine wkB ?_;intros)
  rename_i b15 b16
  have hzl:ys.length=es.length:=hso.p.length_eq.symm
  have hzb:∀u∈es,BdOk u.b:=fun u hu=>hbd u (hso.p.mem_iff.1 hu)
  have hz1:∀u∈es,Ev1 u:=fun u hu=>by
   have h2:=hso.p.mem_iff.1 hu
   rw[hys] at h2
   rcases List.mem_append.1 (show u∈evA is is.length++evB js js.length from h2) with h3|h3
   ·exact Zq3 _ _ u h3
   ·exact Zq4 _ _ u h3
  simp only[<-hv3,hzl]
  refine Zo (S:=(q:SwS)×Nat×SlS rI 20 q.out) (fun r=>r.1=sws kp es r.2.1/\r.2.1<=es.length) (fun r=>[(2,vFn kf),(7,vSl s3),(14,vSl r.2.2),(15, .pointer (some ⟨b15,0,none⟩)),(16, .pointer (some ⟨b16,0,none⟩)),(17, .bool r.1.on),(57,vSl s3),(58, .int .i64 es.length),(59, .int .i64 (r.2.1:Nat))])
   (fun r=>mS 37 r.2.2++(⟨b16,ZO (ZR r.1.fr),193⟩::⟨b15,row (eI .i64) [r.1.n0,r.1.n1] [],78⟩::mS 216 s3)) (fun r=>es.length-r.2.1) ⟨sws kp es 0,0,SlS.no⟩ ⟨rfl,Wm _⟩ sbB suB (fun r hr=>?_)
  obtain⟨q,m,r⟩:=r
  obtain⟨hq,hm⟩:=hr
  simp only at hq hm r⊢
  repeat(refine wkB ?_;intros)
  refine Zk rfl (fun h=>?_) (fun h=>?_)
  ·have hlt:m<es.length:=by have:=Wa h;omega
   rcases s3.cases 216 with⟨h0, -, -⟩|⟨bE,cE,spE,hc1,hvE,hmE,hneE⟩
   ·rw[h0] at hlt;simp at hlt
   ·simp only[hvE,hmE]
    obtain⟨w1,w2⟩:=Zj5 (kp:=kp) hz1 m (by omega)
    rw[<-hq] at w1 w2
    obtain⟨w3,w4⟩:=hz1 _ (Zu (i:=(m:Int)) (xs:=es) (by omega))
    repeat(refine wkB ?_;intros)
    rename_i b19
    have q0:gi [q.n0,q.n1] 0=q.n0:=rfl
    have q1:gi [q.n0,q.n1] 1=q.n1:=rfl
    refine ZY (S:=Unit) (fun _=>True) (fun _=>[(2,vFn kf),(7, .slice (some ⟨bE,0,none⟩) es.length cE),(14,vSl r),(15, .pointer (some ⟨b15,0,none⟩)),(16, .pointer (some ⟨b16,0,none⟩)),(17, .bool q.on),(18, .int .i64 (m:Nat)),(19, .pointer (some ⟨b19,0,none⟩)),(57, .slice (some ⟨bE,0,none⟩) es.length cE),(58, .int .i64 es.length),(59, .int .i64 (m:Nat))])
     (fun _=>⟨b19,eEv (gi es (m:Int)),216⟩::(mS 37 r++[⟨b16,ZO (ZR q.fr),193⟩,⟨b15,row (eI .i64) [q.n0+(gi es (m:Int)).n0,q.n1+(gi es (m:Int)).n1] [],78⟩,⟨bE,row eEv es spE,216⟩])) ?_ (fun _ _=>?_)
    ·(refine ZE (.v [0,2,3,4,6,8,9,10] (.e2 1 (.v [5] (.e1 7 (.v [11,12] (.e1 13 (.v [14] (.e1 15 (.fin))))))) 7 (.v [11] (.e1 1 (.v [5,12] (.e1 13 (.v [14] (.e1 15 (.fin))))))))) ([⟨b19,eEv (gi es (m:Int)),216⟩]) (h:=?_);refine wkX ?_)
     repeat' (first|(with_reducible refine And.intro ?_ ?_)|(with_reducible exact True.intro)|(refine wkT ?_;intros)|fail)
     all_goals simp only[q0,q1]
     all_goals refine eR rfl ?_ ?_
     all_goals first|exact Nat.le_of_ble_eq_true rfl|skip
     repeat' (first|(with_reducible refine And.intro ?_ ?_)|(with_reducible exact True.intro)|(refine wkT ?_;intros)|fail)
     all_goals refine eR rfl ?_ ?_
     all_goals first|exact Nat.le_of_ble_eq_true rfl|skip
     repeat' (first|(with_reducible refine And.intro ?_ ?_)|(with_reducible exact True.intro)|(refine wkT ?_;intros)|fail)
     all_goals exact Ze () trivial sbB suB
    repeat(refine wkB ?_;intros)
    obtain⟨x,hx⟩:∃x,x=gi es (m:Int):=⟨_,rfl⟩
    obtain⟨nx,hnx⟩:∃nx,nx=gi es ((m+1:Nat):Int):=⟨_,rfl⟩
    obtain⟨N0,hN0⟩:∃N0,N0=q.n0+(gi es (m:Int)).n0:=⟨_,rfl⟩
    obtain⟨N1,hN1⟩:∃N1,N1=q.n1+(gi es (m:Int)).n1:=⟨_,rfl⟩
    simp only[<-hN0,<-hN1]
    have hxo:=hzb _ (Zu (i:=(m:Int)) (xs:=es) (by omega))
    have e1:(m:Int)+1=((m+1:Nat):Int):=by omega
    refine ZY (S:=Bool) (fun v=>v=decide (m+1<es.length/\cmpB x.b nx.b=0)) (fun v=>[(2,vFn kf),(7, .slice (some ⟨bE,0,none⟩) es.length cE),(14,vSl r),(15, .pointer (some ⟨b15,0,none⟩)),(16, .pointer (some ⟨b16,0,none⟩)),(17, .bool q.on),(18, .int .i64 (m:Nat)),(19, .pointer (some ⟨b19,0,none⟩)),(57, .slice (some ⟨bE,0,none⟩) es.length cE),(58, .int .i64 es.length),(59, .int .i64 (m:Nat)),(94, .bool v)])
     (fun _=>⟨b19,eEv (gi es (m:Int)),216⟩::(mS 37 r++[⟨b16,ZO (ZR q.fr),193⟩,⟨b15,row (eI .i64) [N0,N1] [],78⟩,⟨bE,row eEv es spE,216⟩])) ?_ (fun v hv=>?_)
    ·by_cases hml:m+1<es.length
     ·have hno:=hzb _ (Zu (i:=((m+1:Nat):Int)) (xs:=es) (by omega))
      refine jD 17 17 (h:=?_)
      (repeat(refine wkH ?_))
      simp only[Wc (show(m:Int)+1<(es.length:Int) by omega)]
      (repeat(refine wkH ?_))
      simp only[e1]
      (repeat(first|refine wkH ?_|(refine tC rfl rfl ?_ ?_;focus(exact⟨hxo,hno⟩))))
      refine Zp ?_
      refine Zq ?_
      repeat(refine wkB ?_;intros)
      exact Ze (decide (cmpB (gi es (m:Int)).b (gi es ((m+1:Nat):Int)).b=0)) (by rw[hx,hnx];simp[hml]) sbB suB
     ·refine jD 17 17 (h:=?_)
      (repeat(refine wkH ?_))
      simp only[We (show¬(m:Int)+1<(es.length:Int) by omega)]
      (repeat(refine wkH ?_))
      refine Zp ?_
      refine Zq ?_
      repeat(refine wkB ?_;intros)
      exact Ze false (by simp[hml]) sbB suB
    ·have hsw:sws kp es (m+1)=if m+1<es.length/\cmpB x.b nx.b=0 then⟨N0,N1,q.fr,q.on,q.out⟩ else
       ⟨N0,N1,if kp (decide (0<N0)) (decide (0<N1))&& !q.on then x.b else q.fr,kp (decide (0<N0)) (decide (0<N1)),if kp (decide (0<N0)) (decide (0<N1))&& !q.on then q.out else if !kp (decide (0<N0)) (decide (0<N1))&&q.on then q.out++[bdB q.fr x.b] else q.out⟩:=by
      rw[sws,<-hq,<-hx,<-hnx,hN0,hN1,hx]
     by_cases hc:m+1<es.length/\cmpB x.b nx.b=0
     ·rw[if_pos hc] at hsw
      rw[Wc hc] at hv
      subst hv
      repeat(first|(refine wkB ?_;intros)|(refine wnM ?_ ?_;(focus(exact⟨by omega,by omega⟩));intros))
      exact Zc ⟨⟨N0,N1,q.fr,q.on,q.out⟩,m+1,r⟩ ⟨hsw.symm,hlt⟩ sbB suB (by show es.length-(m+1)<es.length-m;omega)
     ·rw[if_neg hc] at hsw
      rw[We hc] at hv
      subst hv
      repeat(first|(refine wkB ?_;intros)|(refine wnM ?_ ?_;(focus(first|exact trivial|exact⟨by omega,by omega⟩));intros))
      obtain⟨nw,hnw⟩:∃nw,nw=kp (decide (0<N0)) (decide (0<N1)):=⟨_,rfl⟩
      simp only[show gi [N0,N1] 0=N0 from rfl,show gi [N0,N1] 1=N1 from rfl,<-hnw]
      rw[<-hnw] at hsw
      have hol:=ZjX kp es m
      rw[<-hq] at hol
      obtain⟨n0',n1',fr,on,out⟩:=q
      simp only at hol
      simp only at hsw r⊢
      rcases nw with _|_ <;> rcases on with _|_
      ·repeat(first|(refine wkB ?_;intros)|(refine wnM ?_ ?_;(focus(exact⟨by omega,by omega⟩));intros))
       exact Zc ⟨⟨N0,N1,fr,false,out⟩,m+1,r⟩ ⟨hsw.symm,hlt⟩ sbB suB (by show es.length-(m+1)<es.length-m;omega)
      ·repeat(first|(refine wkB ?_;intros)|(refine wnM ?_ ?_;(focus(first|exact trivial|exact⟨by omega,by omega⟩));intros))
       rw[<-hx]
       refine sU rfl rfl ?_ ?_ ?_ ?_
       ·rfl
       ·rfl
       ·exact⟨by decide,by omega,by omega⟩
       intro r'
       repeat(first|(refine wkB ?_;intros)|(refine wnM ?_ ?_;(focus(exact⟨by omega,by omega⟩));intros))
       exact Zc ⟨⟨N0,N1,fr,false,out++[bdB fr x.b]⟩,m+1,r'⟩ ⟨hsw.symm,hlt⟩ sbB suB (by show es.length-(m+1)<es.length-m;omega)
      ·repeat(first|(refine wkB ?_;intros)|(refine wnM ?_ ?_;(focus(exact⟨by omega,by omega⟩));intros))
       rw[<-hx]
       exact Zc ⟨⟨N0,N1,x.b,true,out⟩,m+1,r⟩ ⟨hsw.symm,hlt⟩ sbB suB (by show es.length-(m+1)<es.length-m;omega)
      ·repeat(first|(refine wkB ?_;intros)|(refine wnM ?_ ?_;(focus(exact⟨by omega,by omega⟩));intros))
       exact Zc ⟨⟨N0,N1,fr,true,out⟩,m+1,r⟩ ⟨hsw.symm,hlt⟩ sbB suB (by show es.length-(m+1)<es.length-m;omega)
  ·have hge:m=es.length:=by have:=Wb h;omega
   subst hge
   subst hq
   repeat(refine wkB ?_;intros)
   have hfin:swpR kp is js=(sws kp es es.length).out:=by
    have h1:=Zen is is.length
    have h2:=Zen js js.length
    have h3:evK is js 2=evA is is.length++evB js js.length:=rfl
    unfold swpR
    rw[<-hys]
    refine(Zre hk0 hso hbd ?_ ?_).symm
    ·rw[hys,h3,ZaQ,h1.1.1,h2.2.1];rfl
    ·rw[hys,h3,ZaQ,h1.1.2,h2.2.2];rfl
   obtain⟨r2,hr1,hr2⟩:=r.like hfin
   refine Zr (v:=vSl r2) rfl (by rw[hr1];rfl) (fun w hw=>⟨r2,rfl, ?_⟩)
   dsimp only
   rw[hr2]
   exact hw.sub suB
instance Zza (w0:World)(L:List Blk)(kf:FuncId)(kp:Bool->Bool->Bool)[CallC prog kf][hkp:∀a b,SpecC prog kf [.bool a, .bool b] (.bool (kp a b)) True](v1 v2:Value)(is js:List Za)[h1:LstC w0 L v1 Za rI is][h2:LstC w0 L v2 Za rI js]:SpecR prog w0 L 138 [v1,v2,vFn kf] (SlS rI 20 (swpR kp is js)) (fun s=>vSl s) (fun s=>mS 37 s) (2*is.length+2*js.length<=65536/\kp false false=false/\(∀i∈is,BdOk (bdF i)/\BdOk (bdL i))/\∀i∈js,BdOk (bdF i)/\BdOk (bdL i)):=⟨fun hp w hw=>Zlt kf kp hkp v1 v2 is js w (h1.out w hw) (h2.out w hw) hp.1 hp.2.1 hp.2.2.1 hp.2.2.2⟩
end
section
instance ZxI (a b:Bool):SpecC prog 195 [.bool a, .bool b] (.bool (kpU a b)) True:=⟨fun _ w=>by
 refine Zb Tryz.func195 rfl Tryz.ntmps195 rfl ?_
 rcases a with _|_
 ·repeat(refine wkB ?_;intros)
  exact rtT rfl rfl
 ·repeat(refine wkB ?_;intros)
  exact rtT rfl rfl⟩
instance Zxl (a b:Bool):SpecC prog 139 [.bool a, .bool b] (.bool (kpM a b)) True:=⟨fun _ w=>by
 refine Zb Tryz.func139 rfl Tryz.ntmps139 rfl ?_
 rcases a with _|_
 ·repeat(refine wkB ?_;intros)
  exact rtT rfl rfl
 ·repeat(refine wkB ?_;intros)
  exact rtT rfl rfl⟩
structure SwOk (is js:List Za):Prop where
 l:2*is.length+2*js.length<=65536
 a:∀i∈is,BdOk (bdF i)/\BdOk (bdL i)
 b:∀i∈js,BdOk (bdF i)/\BdOk (bdL i)
theorem SwOk.n {is js:List Za}(h:SwOk is js):2*is.length+2*js.length<=65536:=h.l
theorem Zl3 (v1 v2:Value)(is js:List Za)(w:World)(hv1:ArgS w v1 rI is)(hv2:ArgS w v2 rI js)(h:SwOk is js):
  Calls prog 149 [v1,v2].toArray w (RetM (SlS rI 20 (swpR kpU is js)) (fun s=>vSl s) (fun s=>mS 37 s) w):=by
 have:=ArgC.mk hv1
 have:=ArgC.mk hv2
 refine Zb Tryz.func149 rfl Tryz.ntmps149 rfl ?_
 repeat(first|(refine wkB ?_;intros)|(refine wnM ?_ ?_;(focus(exact⟨h.l,rfl,h.a,h.b⟩));intros))
 rename_i s
 exact Zr rfl rfl (fun w hw=>⟨s,rfl,hw.sub suB⟩)
instance Zzm (w0:World)(L:List Blk)(v1 v2:Value)(is js:List Za)[h1:LstC w0 L v1 Za rI is][h2:LstC w0 L v2 Za rI js]:SpecR prog w0 L 149 [v1,v2] (SlS rI 20 (swpR kpU is js)) (fun s=>vSl s) (fun s=>mS 37 s) (SwOk is js):=⟨fun hp w hw=>Zl3 v1 v2 is js w (h1.out w hw) (h2.out w hw) hp⟩
theorem Zlz (v1 v2:Value)(is js:List Za)(w:World)(hv1:ArgS w v1 rI is)(hv2:ArgS w v2 rI js)(h:SwOk is js):
  Calls prog 95 [v1,v2].toArray w (RetM (SlS rI 20 (swpR kpM is js)) (fun s=>vSl s) (fun s=>mS 37 s) w):=by
 have:=ArgC.mk hv1
 have:=ArgC.mk hv2
 refine Zb Tryz.func95 rfl Tryz.ntmps95 rfl ?_
 repeat(first|(refine wkB ?_;intros)|(refine wnM ?_ ?_;(focus(exact⟨h.l,rfl,h.a,h.b⟩));intros))
 rename_i s
 exact Zr rfl rfl (fun w hw=>⟨s,rfl,hw.sub suB⟩)
instance ZyY (w0:World)(L:List Blk)(v1 v2:Value)(is js:List Za)[h1:LstC w0 L v1 Za rI is][h2:LstC w0 L v2 Za rI js]:SpecR prog w0 L 95 [v1,v2] (SlS rI 20 (swpR kpM is js)) (fun s=>vSl s) (fun s=>mS 37 s) (SwOk is js):=⟨fun hp w hw=>Zlz v1 v2 is js w (h1.out w hw) (h2.out w hw) hp⟩
theorem Zmx (v1:Value)(is:List Za)(w:World)(hv1:ArgS w v1 rI is)(h:SwOk is []):
  Calls prog 106 [v1].toArray w (RetM (SlS rI 20 (swpR kpU is [])) (fun s=>vSl s) (fun s=>mS 37 s) w):=by
 have:=ArgC.mk hv1
 have hn:∀L,LstC w L (.slice none 0 0) Za rI []:=fun L=>⟨fun _ _=>⟨.inl ⟨rfl,rfl⟩⟩⟩
 refine Zb Tryz.func106 rfl Tryz.ntmps106 rfl ?_
 repeat(first|(refine wkB ?_;intros)|(refine wnM ?_ ?_;(focus(exact h));intros))
 rename_i s
 exact Zr rfl rfl (fun w hw=>⟨s,rfl,hw.sub suB⟩)
instance ZBz (w0:World)(L:List Blk)(v1:Value)(is:List Za)[h1:LstC w0 L v1 Za rI is]:SpecR prog w0 L 106 [v1] (SlS rI 20 (swpR kpU is [])) (fun s=>vSl s) (fun s=>mS 37 s) (SwOk is []):=⟨fun hp w hw=>Zmx v1 is w (h1.out w hw) hp⟩
theorem Zn5 (v:Value)(us:List UL)(w:World)(hv:ArgS w v rU us)(h:SwOk (mpN ivU us us.length) []):
  Calls prog 100 [v].toArray w (RetM (SlS rI 20 (swpR kpU (mpN ivU us us.length) [])) (fun s=>vSl s) (fun s=>mS 37 s) w):=by
 have:=ArgC.mk hv
 have hl:=h.n
 have hml:=ZJ ivU us us.length
 simp only[Wx] at hl
 refine Zb Tryz.func100 rfl Tryz.ntmps100 rfl ?_
 repeat(first|(refine wkB ?_;intros)|(refine wnM ?_ ?_;(focus(first|exact(show us.length<=1048576 by omega)|exact h));intros))
 rename_i s1 s2
 exact Zr rfl rfl (fun w hw=>⟨s2,rfl,hw.sub suB⟩)
instance ZBs (w0:World)(L:List Blk)(v:Value)(us:List UL)[h:LstC w0 L v UL rU us]:SpecR prog w0 L 100 [v] (SlS rI 20 (swpR kpU (mpN ivU us us.length) [])) (fun s=>vSl s) (fun s=>mS 37 s) (SwOk (mpN ivU us us.length) []):=⟨fun hp w hw=>Zn5 v us w (h.out w hw) hp⟩
def pIv (us:List PU):List Za:=mpN ivU (mpN toU us us.length) (mpN toU us us.length).length
noncomputable def pDom (us:List PU):List Za:=swpR kpU (pIv us) []
theorem Zom (v:Value)(us:List PU)(w:World)(hv:ArgS w v rP us)(h:SwOk (pIv us) []):
  Calls prog 50 [v].toArray w (RetM (SlS rI 20 (pDom us)) (fun s=>vSl s) (fun s=>mS 37 s) w):=by
 have:=ArgC.mk hv
 have hl:=h.n
 have hml:=ZJ toU us us.length
 have hml2:=ZJ ivU (mpN toU us us.length) (mpN toU us us.length).length
 unfold pIv at hl
 simp only[Wx] at hl
 refine Zb Tryz.func50 rfl Tryz.ntmps50 rfl ?_
 repeat(first|(refine wkB ?_;intros)|(refine wnM ?_ ?_;(focus(first|exact(show us.length<=1048576 by omega)|exact h));intros))
 rename_i s1 s2
 exact Zr rfl rfl (fun w hw=>⟨s2,rfl,hw.sub suB⟩)
instance ZBw (w0:World)(L:List Blk)(v:Value)(us:List PU)[h:LstC w0 L v PU rP us]:SpecR prog w0 L 50 [v] (SlS rI 20 (pDom us)) (fun s=>vSl s) (fun s=>mS 37 s) (SwOk (pIv us) []):=⟨fun hp w hw=>Zom v us w (h.out w hw) hp⟩
end
section
structure Cut (us:List UL)(t:Rl)(k:Nat):Prop where
 le:k<=us.length
 lo:∀j:Nat,j<k->ri (gi us (j:Int)).In.To<ri t
 hi:∀j:Nat,k<=j->j<us.length->ri t<=ri (gi us (j:Int)).In.To
instance Zxk (u:UL)(t:Zj):SpecC prog 146 [vUL u,vR t] (.int .i64 (cl u.In.To t)) (RlB KR u.In.To/\RlB KR t):=⟨fun hp w=>by
 refine Zb Tryz.func146 rfl Tryz.ntmps146 rfl ?_
 repeat(first|(refine wkB ?_;intros)|(refine wnM ?_ ?_;(focus(exact hp));intros))
 exact rtT rfl rfl⟩
theorem Ziv (v:Value)(us:List UL)(t:Zj)(k:Nat)(hk:Cut us t k)(w:World)(hv:ArgS w v rU us)(hl:us.length<=1048576)(ht:RlB KR t)(hok:∀u∈us,IvOk BQ u.In):
  Calls prog 145 [v,vR t,vFn 146].toArray w (Ret (.tuple #[.int .i64 (k:Nat), .bool (decide (k<us.length)&&decide (cl (gi us (k:Int)).In.To t=0))]) w):=by
 refine Zb Tryz.func145 rfl Tryz.ntmps145 rfl ?_
 obtain⟨p,cp,rfl⟩:=hv.form
 have hpre:∀j:Nat,j<us.length->RlB KR (gi us (j:Int)).In.To/\RlB KR t:=fun j hj=>by
  have h1:=hok _ (Zu (i:=(j:Int)) (by omega))
  exact⟨h1.b,ht⟩
 repeat(refine wkB ?_;intros)
 rename_i b4
 refine Zo (S:=Nat×Nat) (fun s=>s.1<=k/\k<=s.2/\s.2<=us.length) (fun s=>[(0, .slice p us.length cp),(2,vFn 146),(4, .pointer (some ⟨b4,0,none⟩)),(8, .int .i64 us.length),(9, .int .i64 (s.1:Nat)),(10, .int .i64 (s.2:Nat))]) (fun _=>[⟨b4,Zf (Zg t),35⟩]) (fun s=>s.2-s.1) (0,us.length)
  ⟨Wm _,hk.le,Wl _⟩ sbB slB (fun s hs=>?_)
 obtain⟨lo,hi⟩:=s
 obtain⟨h1,h2,h3⟩:=hs
 simp only at h1 h2 h3⊢
 repeat(refine wkB ?_;intros)
 refine Zk rfl (fun h=>?_) (fun h=>?_)
 ·have hlt:lo<hi:=by have:=Wa h;omega
  have hne:us≠[]:=fun h0=>by rw[h0] at h3;simp at h3;omega
  obtain⟨bw,ow,cw,hvw,hcw,hrow⟩:=hv.blk (k:=20) hne []
  injection hvw with e1 e2 e3
  subst e1
  subst e3
  have hrow':∀L,RowC w L bw ow UL rU us:=fun L=>⟨fun w' hw'=>hrow.out w' (hw'.sub (Wk _))⟩
  repeat(refine wkB ?_;intros)
  refine jq (ZaI rfl rfl (by decide)) rfl rfl ?_
  obtain⟨m,hm⟩:∃m,m=(lo+hi) / 2:=⟨_,rfl⟩
  have em:((lo:Int)+(hi:Int)) / 2 ^ (1:Int).toNat=(m:Int):=by
   rw[show(2:Int) ^ (1:Int).toNat=2 from rfl]
   omega
  simp only[em]
  have hml:lo<=m/\m<hi:=by omega
  have hpm:=hpre m (by omega)
  repeat(refine wkB ?_;intros)
  (refine jD 8 8 (h:=?_);(repeat(first|refine wkH ?_|(refine tC rfl rfl ?_ ?_;focus(exact hpm))));refine Zp ?_;(repeat(refine Z3 ?_;intro _));refine Zq ?_)
  repeat(refine wkB ?_;intros)
  by_cases hc:cl (gi us (m:Int)).In.To t<0
  ·simp only[Wc hc]
   have hmk:m<k:=by
    rcases Nat.lt_or_ge m k with h1|h1
    ·exact h1
    ·have:=hk.hi m h1 (by omega)
     have:=Zaa.1 hc
     grind
   repeat(first|(refine wkB ?_;intros)|(refine wnM ?_ ?_;(focus(exact⟨by omega,by omega⟩));intros))
   exact Zc (m+1,hi) ⟨hmk,h2,h3⟩ sbB slB (by show hi-(m+1)<hi-lo;omega)
  ·simp only[We hc]
   have hmk:k<=m:=by
    rcases Nat.lt_or_ge m k with h1|h1
    ·exact absurd (Zaa.2 (hk.lo m h1)) hc
    ·exact h1
   repeat(refine wkB ?_;intros)
   exact Zc (lo,m) ⟨h1,hmk,by show m<=us.length;omega⟩ sbB slB (by show m-lo<hi-lo;omega)
 ·have hge:lo=k/\hi=k:=by have:=Wb h;omega
  obtain⟨rfl,rfl⟩:=hge
  repeat(refine wkB ?_;intros)
  by_cases hlt:hi<us.length
  ·have hne:us≠[]:=fun h0=>by rw[h0] at hlt;simp at hlt
   obtain⟨bw,ow,cw,hvw,hcw,hrow⟩:=hv.blk (k:=20) hne []
   injection hvw with e1 e2 e3
   subst e1
   subst e3
   have hrow':∀L,RowC w L bw ow UL rU us:=fun L=>⟨fun w' hw'=>hrow.out w' (hw'.sub (Wk _))⟩
   have hpm:=hpre hi hlt
   (refine Zav [0,1,2,3,4,5,6,7,8,9,10,11,12,13] [14,15] (_) (h:=?_);refine wkI ?_)
   (repeat(refine wkH ?_))
   simp only[Wc (show(hi:Int)<(us.length:Int) by omega)]
   (repeat(first|refine wkH ?_|(refine tC rfl rfl ?_ ?_;focus(exact hpm))))
   repeat(refine wkT ?_;intros)
   repeat(refine wkB ?_;intros)
   rw[Wc hlt,Bool.true_and]
   exact ZC rfl (Zs rfl) (Zs rfl) (fun w hw=>ZG hw)
  ·(refine Zav [0,1,2,3,4,5,6,7,8,9,10,11,12,13] [14,15] (_) (h:=?_);refine wkI ?_)
   (repeat(refine wkH ?_))
   simp only[We (show¬(hi:Int)<(us.length:Int) by omega)]
   (repeat(refine wkH ?_))
   repeat(refine wkT ?_;intros)
   repeat(refine wkB ?_;intros)
   rw[We hlt,Bool.false_and]
   exact ZC rfl (Zs rfl) (Zs rfl) (fun w hw=>ZG hw)
end
section
class CtC (us:List UL)(t:Rl)(k:outParam Nat):Prop where
 out:Cut us t k
instance Zvv (w0:World)(L:List Blk)(v:Value)(us:List UL)(t:Zj)(k:Nat)[h:LstC w0 L v UL rU us][hk:CtC us t k]:SpecM prog w0 L 145 [v,vR t,vFn 146] (.tuple #[.int .i64 (k:Nat), .bool (decide (k<us.length)&&decide (cl (gi us (k:Int)).In.To t=0))]) (us.length<=1048576/\RlB KR t/\∀u∈us,IvOk BQ u.In):=⟨fun hp w hw=>Ziv v us t k hk.out w (h.out w hw) hp.1 hp.2.1 hp.2.2⟩
structure AtR (us:List UL)(t:Ri)(r:Option Int):Prop where
 out:(∃k:Nat,k<us.length/\(absU (gi us (k:Int))).mem t/\(∀j:Nat,j<k->¬(absU (gi us (j:Int))).mem t)/\(∀j:Nat,j<=k->ri (gi us (j:Int)).In.From<=t)/\r=some (gi us (k:Int)).F)\/((∀j:Nat,j<us.length->¬(absU (gi us (j:Int))).mem t)/\r=none)
theorem AtR.hit {us:List UL}{t:Ri}{r:Option Int}(h:AtR us t r){i:Nat}(hi:i<us.length)(hm:(absU (gi us (i:Int))).mem t)(hn:∀j:Nat,j<i->¬(absU (gi us (j:Int))).mem t):r=some (gi us (i:Int)).F:=by
 rcases h.out with⟨k,h1,h2,h3, -,h5⟩|⟨h1, -⟩
 ·rcases Nat.lt_trichotomy i k with h6|h6|h6
  ·exact absurd hm (h3 i h6)
  ·subst h6;exact h5
  ·exact absurd h2 (hn k h6)
 ·exact absurd hm (h1 i hi)
theorem AtR.miss {us:List UL}{t:Ri}{r:Option Int}(h:AtR us t r){i:Nat}(hi:us.length<=i\/t<ri (gi us (i:Int)).In.From)(hn:∀j:Nat,j<i->¬(absU (gi us (j:Int))).mem t):r=none:=by
 rcases h.out with⟨k,h1,h2,h3,h4,h5⟩|⟨-,h2⟩
 ·have hik:i<=k:=by
   rcases Nat.lt_or_ge k i with h6|h6
   ·exact absurd h2 (hn k h6)
   ·exact h6
  rcases hi with h6|h6
  ·omega
  ·have:=h4 i hik
   grind
 ·exact h2
class AtC' (us:List UL)(t:Ri)(r:outParam (Option Int)):Prop where
 out:AtR us t r
noncomputable def tst (u:UL)(t:Zj):Bool:=(decide (cl u.In.From t<0)|| !u.In.OpenFrom)&&(!decide (u.In.To=t)|| !u.In.OpenTo)
theorem Zri {u:UL}{t:Zj}{K:Nat}(hu:IvOk K u.In)(ht:(rvR t).ok)(h1:ri u.In.From<=ri t)(h2:ri t<=ri u.In.To):tst u t=true↔(absU u).mem (ri t):=by
 have e:=Zbi hu.b.o ht
 unfold tst GU.mem absU
 simp only[Wq,Bool.or_eq_true,decide_eq_true_eq,Bool.not_eq_true',decide_eq_false_iff_not,<-e,Zaa]
 grind
theorem Zqp (v:Value)(us:List UL)(t:Zj)(c:Nat)(r:Option Int)(hk:Cut us t c)(hr:AtR us (ri t) r)(w:World)(hv:ArgS w v rU us)(hl:us.length<=1048576)(ht:RlB KR t)(hok:∀u∈us,IvOk BQ u.In):
  Calls prog 104 [v,vR t].toArray w (Ret (.tuple #[.int .i64 (r.getD 0), .bool r.isSome]) w):=by
 have:=ArgC.mk hv
 have:=CtC.mk hk
 have hcl:=hk.le
 refine Zb Tryz.func104 rfl Tryz.ntmps104 rfl ?_
 obtain⟨p,cp,rfl⟩:=hv.form
 repeat(first|(refine wkB ?_;intros)|(refine wnM ?_ ?_;(focus(exact⟨hl,ht,hok⟩));intros))
 rename_i b3
 refine Zo (S:=Nat) (fun i=>(c<=i/\i<=us.length)/\∀j:Nat,j<i->¬(absU (gi us (j:Int))).mem (ri t)) (fun i=>[(0, .slice p us.length cp),(3, .pointer (some ⟨b3,0,none⟩)),(4, .int .i64 0),(5, .bool false),(6, .int .i64 (i:Nat))]) (fun _=>[⟨b3,Zf (Zg t),35⟩]) (fun i=>us.length-i) c
  ⟨⟨Wl _,hcl⟩,fun j hj hm=>?_⟩ sbB slB (fun i hi=>?_)
 ·have h1:=hk.lo j hj
  unfold GU.mem absU at hm
  grind
 obtain⟨⟨hci,hil⟩,hno⟩:=hi
 repeat(refine wkB ?_;intros)
 refine Zk rfl (fun h=>?_) (fun h=>?_)
 ·have hlt:i<us.length:=by have:=Wa h;omega
  obtain⟨bw,ow,rfl,hrow'⟩:=hv.opn (k:=20) hlt
  have ho:=hok _ (Zu (i:=(i:Int)) (xs:=us) (by omega))
  have hto:=hk.hi i hci hlt
  repeat(refine wkB ?_;intros)
  (refine Zav [0,1,2,3,4,5,6,7] [8] (_) (h:=?_);refine wkI ?_)
  (repeat(first|refine wkH ?_|(refine tC rfl rfl ?_ ?_;focus(exact⟨ho.a,ht⟩))))
  repeat(refine wkT ?_;intros)
  repeat(refine wkB ?_;intros)
  by_cases hgt:ri t<ri (gi us (i:Int)).In.From
  ·have hrn:=hr.miss (.inr hgt) hno
   subst hrn
   simp only[Wc (ZfI.2 hgt)]
   repeat(refine wkB ?_;intros)
   exact ZC rfl (Zs rfl) (Zs rfl) (fun w hw=>ZG hw)
  ·have hle:ri (gi us (i:Int)).In.From<=ri t:=by grind
   have hti:=Zri ho ht.o hle hto
   simp only[We (fun h=>hgt (ZfI.1 h))]
   repeat(refine wkB ?_;intros)
   refine ZY (S:=Bool) (fun v=>v=tst (gi us (i:Int)) t) (fun v=>[(61, .bool v),(0, .slice (some ⟨bw,ow,none⟩) us.length cp),(3, .pointer (some ⟨b3,0,none⟩)),(4, .int .i64 0),(5, .bool false),(6, .int .i64 (i:Nat))]) (fun _=>[⟨b3,Zf (Zg t),35⟩]) ?_ (fun v hv3=>?_)
   ·refine jD 30 30 (h:=?_)
    (repeat(refine wkH ?_))
    unfold tst
    rcases hd1:decide (cl (gi us (i:Int)).In.From t<0) with _|_
    ·(repeat(refine wkH ?_))
     rcases hd2:(gi us (i:Int)).In.OpenFrom with _|_
     ·(repeat(refine wkH ?_))
      rcases hd3:decide ((gi us (i:Int)).In.To=t) with _|_
      ·(repeat(refine wkH ?_))
       refine Zp ?_
       refine Zq ?_
       repeat(refine wkB ?_;intros)
       exact Ze true rfl sbB slB
      ·(repeat(refine wkH ?_))
       refine Zp ?_
       refine Zq ?_
       repeat(refine wkB ?_;intros)
       exact Ze (!(gi us (i:Int)).In.OpenTo) (by simp) sbB slB
     ·(repeat(refine wkH ?_))
      refine Zp ?_
      refine Zq ?_
      repeat(refine wkB ?_;intros)
      exact Ze false (by simp) sbB slB
    ·(repeat(refine wkH ?_))
     rcases hd3:decide ((gi us (i:Int)).In.To=t) with _|_
     ·(repeat(refine wkH ?_))
      refine Zp ?_
      refine Zq ?_
      repeat(refine wkB ?_;intros)
      exact Ze true rfl sbB slB
     ·(repeat(refine wkH ?_))
      refine Zp ?_
      refine Zq ?_
      repeat(refine wkB ?_;intros)
      exact Ze (!(gi us (i:Int)).In.OpenTo) (by simp) sbB slB
   subst hv3
   rcases htt:tst (gi us (i:Int)) t with _|_
   ·repeat(first|(refine wkB ?_;intros)|(refine wnM ?_ ?_;(focus(exact⟨by omega,by omega⟩));intros))
    refine Zc (i+1) ⟨⟨by omega,hlt⟩,fun j hj hm=>?_⟩ sbB slB (by omega)
    rcases(by omega:j<i\/j=i) with h1|h1
    ·exact hno j h1 hm
    ·subst h1
     rw[hti.2 hm] at htt
     cases htt
   ·have hrs:=hr.hit hlt (hti.1 htt) hno
    subst hrs
    repeat(refine wkB ?_;intros)
    exact ZC rfl (Zs rfl) (Zs rfl) (fun w hw=>ZG hw)
 ·have hge:us.length<=i:=by have:=Wb h;omega
  have hrn:=hr.miss (.inl hge) hno
  subst hrn
  repeat(refine wkB ?_;intros)
  exact ZC rfl (Zs rfl) (Zs rfl) (fun w hw=>ZG hw)
instance ZDp (w0:World)(L:List Blk)(v:Value)(us:List UL)(t:Zj)(c:Nat)(r:Option Int)[h:LstC w0 L v UL rU us][hk:CtC us t c][hr:AtC' us (ri t) r]:SpecM prog w0 L 104 [v,vR t] (.tuple #[.int .i64 (r.getD 0), .bool r.isSome]) (us.length<=1048576/\RlB KR t/\∀u∈us,IvOk BQ u.In):=⟨fun hp w hw=>Zqp v us t c r hk.out hr.out w (h.out w hw) hp.1 hp.2.1 hp.2.2⟩
end
section
instance Zuw (w0:World)(L L1:List Blk)(xs:List Int)(s:SlS (eI .i64) 1 xs)[hd:OwnS 3 s L L1]:SpecX prog w0 L 85 [vSl s] (SlS (eI .i64) 1 (cmI' xs)) (fun s=>vSl s) (fun s=>mS 3 s++L1) (xs.length<=1048576):=⟨fun hp w hw=>Zhe w0 w L L1 xs s hp hw⟩
def lbL (us:List PU):List Int:=mpN (fun u:PU=>u.Label) us us.length
set_option maxHeartbeats 8000000 in
theorem ZjC (v:Value)(us:List PU)(w:World)(hv:ArgS w v rP us)(hl:us.length<=1048576):
  Calls prog 32 [v].toArray w (RetM (SlS (eI .i64) 1 (cmI' (lbL us))) (fun s=>vSl s) (fun s=>mS 3 s) w):=by
 obtain⟨p,cp,rfl⟩:=hv.form
 refine Zb Tryz.func32 rfl Tryz.ntmps32 rfl ?_
 repeat(refine wkB ?_;intros)
 refine ZW (S:=SlS (eI .i64) 1 (lbL us)) (fun _=>True) (fun s=>[(3,vSl s)]) (fun s=>mS 3 s) ?_ (fun s _=>?_)
 ·refine Zo (S:=(_:Nat)×(o:List Int)×SlS (eI .i64) 1 o) (fun q=>q.1<=us.length/\q.2.1=mpN (fun u:PU=>u.Label) us q.1) (fun q=>[(3,vSl q.2.2),(6, .slice p us.length cp),(7, .int .i64 (us.length:Nat)),(8, .int .i64 (q.1:Nat))]) (fun q=>mS 3 q.2.2) (fun q=>us.length-q.1) ⟨0,[],SlS.no⟩ ⟨Wm _,rfl⟩ sbB suB (fun q hq=>?_)
  obtain⟨m,out,s⟩:=q
  obtain⟨hq,ho⟩:=hq
  dsimp only at hq ho⊢
  have hlen:out.length=m:=by rw[ho];exact ZJ _ us m
  have hend:m=us.length->out=lbL us:=fun h=>by rw[ho,h];rfl
  have hnxt:out++[(gi us (m:Int)).Label]=mpN (fun u:PU=>u.Label) us (m+1):=by rw[ho];rfl
  clear ho
  repeat(refine wkB ?_;intros)
  refine Zk rfl (fun h=>?_) (fun h=>?_)
  ·have hlt:m<us.length:=by have:=Wa h;omega
   obtain⟨bw,ow,rfl,hrow'⟩:=hv.opn (k:=20) hlt
   repeat(refine wkB ?_;intros)
   refine sU (k:=1) (enc:=eI .i64) (s:=s) rfl rfl ?_ ?_ ?_ ?_
   ·rfl
   ·rfl
   ·exact⟨by decide,by omega,by omega⟩
   intro s'
   repeat(first|(refine wkB ?_;intros)|(refine wnM ?_ ?_;(focus(exact⟨by omega,by omega⟩));intros))
   exact Zc ⟨m+1,_,s'⟩ ⟨hlt,hnxt⟩ sbB suB (by show us.length-(m+1)<us.length-m;omega)
  ·have hge:m=us.length:=by have:=Wb h;omega
   obtain⟨s',f1,f2⟩:=SlS.turn 3 (hend hge) s
   repeat(refine wkB ?_;intros)
   exact Ze s' trivial (by rw[f1];exact sbB) (by rw[f2];exact suB)
 have hl':(lbL us).length<=1048576:=by unfold lbL;rw[ZJ];exact hl
 repeat(first|(refine wkB ?_;intros)|(refine wnM ?_ ?_;(focus(exact hl'));intros))
 refine sZ rfl rfl hl' (fun r=>?_)
 repeat(refine wkB ?_;intros)
 exact Zr rfl rfl (fun w hw=>⟨r,rfl,hw.sub suB⟩)
instance Zxx (w0:World)(L:List Blk)(v:Value)(us:List PU)[h:LstC w0 L v PU rP us]:SpecR prog w0 L 32 [v] (SlS (eI .i64) 1 (cmI' (lbL us))) (fun s=>vSl s) (fun s=>mS 3 s) (us.length<=1048576):=⟨fun hp w hw=>ZjC v us w (h.out w hw) hp⟩
def whL (us:List PU)(x:Int):Nat->List Za
 |0=>[]
 |m+1=>if(gi us (m:Int)).Label=x then whL us x m++[(gi us (m:Int)).In] else whL us x m
theorem ZbR (us:List PU)(x:Int):∀m,(whL us x m).length<=m
 |0=>Wl _
 |m+1=>by
  have:=ZbR us x m
  rw[whL]
  split
  ·simp;exact this
  ·omega
set_option maxHeartbeats 8000000 in
theorem ZmA (v:Value)(us:List PU)(x:Int)(w:World)(hv:ArgS w v rP us)(hl:us.length<=1048576)(hsw:SwOk (whL us x us.length) []):
  Calls prog 59 [v, .int .i64 x].toArray w (RetM (SlS rI 20 (swpR kpU (whL us x us.length) [])) (fun s=>vSl s) (fun s=>mS 37 s) w):=by
 obtain⟨p,cp,rfl⟩:=hv.form
 refine Zb Tryz.func59 rfl Tryz.ntmps59 rfl ?_
 repeat(refine wkB ?_;intros)
 refine ZW (S:=SlS rI 20 (whL us x us.length)) (fun _=>True) (fun s=>[(5,vSl s)]) (fun s=>mS 37 s) ?_ (fun s _=>?_)
 ·refine Zo (S:=(_:Nat)×(o:List Za)×SlS rI 20 o) (fun q=>q.1<=us.length/\q.2.1=whL us x q.1) (fun q=>[(1, .int .i64 x),(5,vSl q.2.2),(8, .slice p us.length cp),(9, .int .i64 (us.length:Nat)),(10, .int .i64 (q.1:Nat))]) (fun q=>mS 37 q.2.2) (fun q=>us.length-q.1) ⟨0,[],SlS.no⟩ ⟨Wm _,rfl⟩ sbB suB (fun q hq=>?_)
  obtain⟨m,out,s⟩:=q
  obtain⟨hq,ho⟩:=hq
  dsimp only at hq ho⊢
  have hlen:out.length<=m:=by rw[ho];exact ZbR us x m
  have hend:m=us.length->out=whL us x us.length:=fun h=>by rw[ho,h]
  have hnxt:(if(gi us (m:Int)).Label=x then out++[(gi us (m:Int)).In] else out)=whL us x (m+1):=by rw[ho];rfl
  clear ho
  repeat(refine wkB ?_;intros)
  refine Zk rfl (fun h=>?_) (fun h=>?_)
  ·have hlt:m<us.length:=by have:=Wa h;omega
   obtain⟨bw,ow,rfl,hrow'⟩:=hv.opn (k:=20) hlt
   repeat(refine wkB ?_;intros)
   by_cases c:(gi us (m:Int)).Label=x
   ·simp only[Wc c]
    rw[if_pos c] at hnxt
    repeat(refine wkB ?_;intros)
    refine sU (k:=20) (enc:=rI) (s:=s) rfl rfl ?_ ?_ ?_ ?_
    ·rfl
    ·rfl
    ·exact⟨by decide,by omega,by omega⟩
    intro s'
    repeat(first|(refine wkB ?_;intros)|(refine wnM ?_ ?_;(focus(exact⟨by omega,by omega⟩));intros))
    exact Zc ⟨m+1,_,s'⟩ ⟨hlt,hnxt⟩ sbB suB (by show us.length-(m+1)<us.length-m;omega)
   ·simp only[We c]
    rw[if_neg c] at hnxt
    repeat(first|(refine wkB ?_;intros)|(refine wnM ?_ ?_;(focus(exact⟨by omega,by omega⟩));intros))
    exact Zc ⟨m+1,_,s⟩ ⟨hlt,hnxt⟩ sbB suB (by show us.length-(m+1)<us.length-m;omega)
  ·have hge:m=us.length:=by have:=Wb h;omega
   obtain⟨s',f1,f2⟩:=SlS.turn 37 (hend hge) s
   repeat(refine wkB ?_;intros)
   exact Ze s' trivial (by rw[f1];exact sbB) (by rw[f2];exact suB)
 repeat(first|(refine wkB ?_;intros)|(refine wnM ?_ ?_;(focus(exact hsw));intros))
 rename_i r
 exact Zr rfl rfl (fun w hw=>⟨r,rfl,hw.sub suB⟩)
instance ZBJ (w0:World)(L:List Blk)(v:Value)(us:List PU)(x:Int)[h:LstC w0 L v PU rP us]:SpecR prog w0 L 59 [v, .int .i64 x] (SlS rI 20 (swpR kpU (whL us x us.length) [])) (fun s=>vSl s) (fun s=>mS 37 s) (us.length<=1048576/\SwOk (whL us x us.length) []):=⟨fun hp w hw=>ZmA v us x w (h.out w hw) hp.1 hp.2⟩
theorem ZpH (v:Value)(us:List PU)(t:Zj)(c:Nat)(r:Option Int)(w:World)(hv:ArgS w v rP us)(hc:Cut (mpN toU us us.length) t c)(hr:AtR (mpN toU us us.length) (ri t) r)(hl:us.length<=1048576)(ht:RlB KR t)(hu:∀u∈mpN toU us us.length,IvOk BQ u.In):
  Calls prog 57 [v,vR t].toArray w (Ret (.tuple #[.int .i64 (r.getD 0), .bool r.isSome]) w):=by
 have:=ArgC.mk hv
 have hml:=ZJ toU us us.length
 have i1:CtC (mpN toU us us.length) t c:=⟨hc⟩
 have i2:AtC' (mpN toU us us.length) (ri t) r:=⟨hr⟩
 have p2:(mpN toU us us.length).length<=1048576/\RlB KR t/\∀u∈mpN toU us us.length,IvOk BQ u.In:=⟨by omega,ht,hu⟩
 refine Zb Tryz.func57 rfl Tryz.ntmps57 rfl ?_
 repeat(refine wkB ?_;intros)
 rename_i b3
 (refine ZE (.v [0,2] (.e1 1 (.e1 3 (.v [4,5] (.e1 6 (.e1 7 (.fin))))))) ([⟨b3,Zf (Zg t),35⟩]) (h:=?_);refine wkX ?_)
 (repeat(refine wkH ?_))
 repeat(first|(refine wkT ?_;intros)|(refine tC rfl rfl ?_ ?_;focus(first|exact hl|exact p2))|(refine uC rfl rfl ?_ ?_;focus(first|exact hl|exact p2))|(refine eN rfl rfl ?_ ?_;(focus(first|exact hl|exact p2));intro _;(try simp only[Wf,Wg,Wh])))
 repeat(refine wkB ?_;intros)
 exact ZC rfl (Zs rfl) (Zs rfl) (fun w hw=>ZG hw)
instance ZCA (w0:World)(L:List Blk)(v:Value)(us:List PU)(t:Zj)(c:Nat)(r:Option Int)[h:LstC w0 L v PU rP us][hk:CtC (mpN toU us us.length) t c][hr:AtC' (mpN toU us us.length) (ri t) r]:SpecM prog w0 L 57 [v,vR t] (.tuple #[.int .i64 (r.getD 0), .bool r.isSome]) (us.length<=1048576/\RlB KR t/\∀u∈mpN toU us us.length,IvOk BQ u.In):=⟨fun hp w hw=>ZpH v us t c r w (h.out w hw) hk.out hr.out hp.1 hp.2.1 hp.2.2⟩
end
end Go.Vt
namespace Go.Vt
open Fv (va red)
section
variable {T F V : Type} [LE T] [LT T] [Std.LawfulOrderLT T] [Std.IsLinearOrder T] [Dns T] [Fv F T V]
def jnBG (a u:GU T F):Prop:=a.f=u.f/\a.b=u.a/\¬(a.ob=true/\u.oa=true)
def jnPG (a u:GU T F):GU T F:=⟨a.a,u.b,a.oa,u.ob,a.f⟩
structure JnI (done out:List (GU T F)):Prop where
 nf:NF out
 has:∀t v,Has out t v↔Has done t v
 lst:∀ys a,out=ys++[a]->∃ds d,done=ds++[d]/\a.b=d.b/\a.ob=d.ob
theorem JnI.nil :JnI ([]:List (GU T F)) []:=⟨NF.nil,fun _ _=>Iff.rfl,fun ys a h=>by simp at h⟩
theorem Zo8 {a u:GU T F}(ha:a.ok)(hu:u.ok)(h:jnBG a u)(t:T):(jnPG a u).mem t↔a.mem t\/u.mem t:=by
 obtain⟨h1,h2,h3⟩:=h
 unfold GU.mem GU.ok jnPG at*
 dsimp only
 grind
variable (hva : ∀ (f g : F) (t : T), va f t = va g t ↔ f = g) (hrd : ∀ (f : F) (t : T), red f t = f)
include hva hrd
theorem Zl2 {a u:GU T F}(ha:a.ok)(hb:a.bfr u)(h:¬jnBG a u):Adj a u:=by
 refine⟨hb,fun e o _ f=>h ⟨f,e,by simp[o]⟩,fun e o f=>h ⟨(hva _ _ _).1 f,e,by simp[o]⟩,fun e i f=>h ⟨(hva _ _ _).1 f,e, ?_⟩⟩
 unfold GU.ok at ha
 grind
theorem JnI.bf {done out ys:List (GU T F)}{a u:GU T F}(h:JnI done out)(hb:∀w∈done,w.bfr u)(e:out=ys++[a]):a.bfr u:=by
 obtain⟨ds,d,e1,e2,e3⟩:=h.lst ys a e
 have:=hb d (by rw[e1];simp)
 unfold GU.bfr at*
 rw[e2,e3]
 exact this
theorem JnI.app {done out:List (GU T F)}{u:GU T F}(h:JnI done out)(hu:u.ok)(hb:∀w∈done,w.bfr u)(hn:∀ys a,out=ys++[a]->¬jnBG a u):JnI (done++[u]) (out++[u]):=by
 refine⟨h.nf.app hu (fun _=>(hrd _ _).symm) fun ys a e=>Zl2 hva hrd (h.nf.ok a (by rw[e];simp)) (h.bf hva hrd hb e) (hn ys a e),fun t v=>?_,fun ys a e=>?_⟩
 ·rw[ZcO,ZcO,h.has]
 ·obtain⟨e1,e2⟩:=Zbe e
  exact⟨done,u,rfl,by rw[e2],by rw[e2]⟩
theorem JnI.mrg {done out ys:List (GU T F)}{a u:GU T F}(h:JnI done out)(hu:u.ok)(hb:∀w∈done,w.bfr u)(e:out=ys++[a])(hj:jnBG a u):JnI (done++[u]) (ys++[jnPG a u]):=by
 have hao:=h.nf.ok a (by rw[e];simp)
 have hbf:=h.bf hva hrd hb e
 have hnf:=h.nf
 rw[e] at hnf
 refine⟨hnf.last (u:=a) rfl rfl rfl ?_,fun t v=>?_,fun ys' a' e'=>?_⟩
 ·obtain⟨h1,h2,h3⟩:=hj
  unfold GU.ok GU.bfr jnPG at*
  dsimp only
  grind
 ·rw[Zbd,Zo8 hao hu hj,ZcO,<-h.has,e,Zbd,ZcJ]
  have e1:va (jnPG a u).f t=va a.f t:=rfl
  have e2:va u.f t=va a.f t:=by rw[hj.1]
  rw[e1,e2]
  constructor
  ·rintro(h|⟨h|h,k⟩)
   ·exact .inl (.inl h)
   ·exact .inl (.inr ⟨h,k⟩)
   ·exact .inr ⟨h,k⟩
  ·rintro((h|⟨h,k⟩)|⟨h,k⟩)
   ·exact .inl h
   ·exact .inr ⟨.inl h,k⟩
   ·exact .inr ⟨.inr h,k⟩
 ·obtain⟨e1,e2⟩:=Zbe e'
  exact⟨done,u,rfl,by rw[<-e2];rfl,by rw[<-e2];rfl⟩
end
end Go.Vt
namespace Go.Vt
open Go.RowKit Go.Proofs
open Go.Proofs.Tryz (prog)
def RV.sh (x:RV)(s:Rat):RV:=⟨x.p+s,x.r,x.n⟩
theorem RV.sh_ok {x:RV}(h:x.ok)(s:Rat):(x.sh s).ok:=⟨h.1,h.2⟩
theorem RV.sh_lq {x:RV}{s q:Rat}:(x.sh s).lq q↔x.lq (q-s):=by
 unfold RV.lq RV.sh
 dsimp only
 rw[show q-(x.p+s)=q-s-x.p by grind]
theorem RV.sh_ql {x:RV}{s q:Rat}:RV.ql q (x.sh s)↔RV.ql (q-s) x:=by
 unfold RV.ql RV.sh
 dsimp only
 rw[show x.p+s-q=x.p-(q-s) by grind]
theorem RV.sh_lt {x y:RV}{s:Rat}:(x.sh s).lt (y.sh s)↔x.lt y:=by
 constructor
 ·rintro⟨q,h1,h2⟩
  exact⟨q-s,RV.sh_lq.1 h1,RV.sh_ql.1 h2⟩
 ·rintro⟨q,h1,h2⟩
  exact⟨q+s,RV.sh_lq.2 (by rw[show q+s-s=q by grind];exact h1),RV.sh_ql.2 (by rw[show q+s-s=q by grind];exact h2)⟩
theorem Zwg (x:Rl)(s:Rat):rvR (shR x s)=(rvR x).sh s:=rfl
theorem ZqV {k:Nat}{x:Rl}{s:Rat}(h:RlB k x)(hs:M s<=k):RlB (2*k+1) (shR x s):=by
 refine⟨by rw[Zwg];exact RV.sh_ok h.o s, ?_, ?_⟩
 ·have:=Zhq x.P s
  have:=h.p
  show M (x.P+s)<=_
  omega
 ·have:=h.r
  show M x.R<=_
  omega
theorem Zpw {x y:Rl}(hx:(rvR x).ok)(hy:(rvR y).ok){s:Rat}:ri (shR x s)<ri (shR y s)↔ri x<ri y:=by
 unfold ri
 rw[dif_pos hx,dif_pos hy,dif_pos (show(rvR (shR x s)).ok from RV.sh_ok hx s),dif_pos (show(rvR (shR y s)).ok from RV.sh_ok hy s)]
 show(rvR (shR x s)).lt (rvR (shR y s))↔(rvR x).lt (rvR y)
 exact RV.sh_lt (x:=rvR x) (y:=rvR y) (s:=s)
def LeU (u:PU):Prop:=ri u.In.From<=ri u.In.To
theorem Zeb {l:List St}{ins cs:List Za}:∀i,i<=cs.length->∀u∈mvS l ins cs i,u.In∈cs
 |0,_,u,hu=>by cases hu
 |i+1,hi,u,hu=>by
  rw[mvS] at hu
  unfold mv1 at hu
  split at hu
  ·rw[Wv,Wo] at hu
   rcases hu with hu|rfl
   ·exact Zeb i (by omega) u hu
   ·exact Zu (by omega)
  ·exact Zeb i (by omega) u hu
theorem ZsV {l:List PU}(h:∀u∈l,LeU u):∀i,i<=l.length->∀u∈jnL l i,LeU u
 |0,_,u,hu=>by cases hu
 |i+1,hi,u,hu=>by
  have ih:=ZsV h i (by omega)
  have h1:=h (gi l (i:Int)) (Zu (by omega))
  rw[jnL] at hu
  unfold jn1 at hu
  split at hu
  ·rename_i hc
   rcases List.mem_or_eq_of_mem_set hu with hu|rfl
   ·exact ih u hu
   ·have h2:=ih (lstP (jnL l i)) (Zu (by omega))
    have h3:=hc.2
    unfold jnB at h3
    rw[Wq,Wq] at h3
    have h4:(lstP (jnL l i)).In.To=(gi l (i:Int)).In.From:=Wa h3.2.1
    unfold LeU at h1 h2⊢
    rw[h4] at h2
    show ri (lstP (jnL l i)).In.From<=ri (gi l (i:Int)).In.To
    grind
  ·rw[Wv,Wo] at hu
   rcases hu with hu|rfl
   ·exact ih u hu
   ·exact h1
theorem Zhl {Pr:Rl->Prop}{l:List PU}(h:∀u∈l,Pr u.In.From/\Pr u.In.To):∀i,i<=l.length->∀u∈jnL l i,Pr u.In.From/\Pr u.In.To
 |0,_,u,hu=>by cases hu
 |i+1,hi,u,hu=>by
  have ih:=Zhl h i (by omega)
  have h1:=h (gi l (i:Int)) (Zu (by omega))
  rw[jnL] at hu
  unfold jn1 at hu
  split at hu
  ·rename_i hc
   rcases List.mem_or_eq_of_mem_set hu with hu|rfl
   ·exact ih u hu
   ·exact⟨(ih (lstP (jnL l i)) (Zu (by omega))).1,h1.2⟩
  ·rw[Wv,Wo] at hu
   rcases hu with hu|rfl
   ·exact ih u hu
   ·exact h1
theorem ZrZ {l:List St}(hk:∀x∈l,StOk x):∀u∈movV l,IvOk 3 u.In:=fun u hu=>by
 have:=Zhl (Pr:=RlB 3) (fun u hu=>⟨(ZeM hk _ (Zeb _ (Wl _) u hu)).a,(ZeM hk _ (Zeb _ (Wl _) u hu)).b⟩) _ (Wl _) u hu
 exact⟨this.1,this.2⟩
end Go.Vt
