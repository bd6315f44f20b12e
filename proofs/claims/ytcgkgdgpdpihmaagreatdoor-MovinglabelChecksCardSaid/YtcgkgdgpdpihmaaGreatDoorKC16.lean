/- For any up to 12 units whose ends have up to 20 bytes, and for any decoded moving label (up to 8 stretches), Check returns OK or the first error. Conditions: none. (part 16 of 28.) Conditions: those that each statement names. -/
import Derived.Test.YtcgkgdgpdpihmaaGreatDoorProg
import Derived.Test.YtcgkgdgpdpihmaaGreatDoorKC10
import Derived.Test.YtcgkgdgpdpihmaaGreatDoorKC15
set_option linter.unusedSimpArgs false
set_option linter.unusedVariables false
set_option maxHeartbeats 2000000
set_option maxRecDepth 100000
namespace Go.Vt
open Go.RowKit Go.Proofs
open Go.Proofs.Tryz (prog)
section
abbrev PU :=ZC
abbrev UL :=ZE
abbrev rP :=Zaa
abbrev rU :=ZaR
abbrev vPU (u:PU):Value:= .agg (Zm (Zl u))
abbrev vUL (u:UL):Value:= .agg (Zp (Zx u))
abbrev vFn (f:FuncId):Value:= .func (.func f) #[] [].toArray
def toU (u:PU):UL:=⟨u.In,u.Label⟩
def ofU (u:UL):PU:=⟨u.In,u.F⟩
theorem Zqr (v:Value)(us:List PU)(w:World)(hv:ArgS w v rP us)(hl:us.length<=1048576):
  Calls prog 63 [v].toArray w (RetM (SlS rU 21 (mpN toU us us.length)) (fun s=>vSl s) (fun s=>mS 145 s) w):=by
 refine Zb Tryz.func63 rfl Tryz.ntmps63 rfl ?_
 obtain⟨p,cp,rfl⟩:=hv.form
 repeat(refine wkB ?_;intros)
 refine Zq (S:=(m:Nat)×SlS rU 21 (mpN toU us m)) (fun s=>s.1<=us.length) (fun s=>[(3,vSl s.2),(6, .slice p us.length cp),(7, .int .i64 us.length),(8, .int .i64 (s.1:Nat))]) (fun s=>mS 145 s.2) (fun s=>us.length-s.1) ⟨0,SlS.no⟩
  (Wm _) sbB slB (fun s hm=>?_)
 obtain⟨m,s⟩:=s
 simp only at hm⊢
 repeat(refine wkB ?_;intros)
 refine Zk rfl (fun h=>?_) (fun h=>?_)
 ·have hlt:m<us.length:=by have:=Wa h;omega
  obtain⟨bw,ow,rfl,hrow'⟩:=hv.opn (k:=20) hlt
  repeat(refine wkB ?_;intros)
  have hml:=ZaV toU us m
  refine sU rfl rfl ?_ ?_ ?_ ?_
  ·rfl
  ·rfl
  ·exact⟨by decide,by omega,by omega⟩
  intro s'
  repeat(first|(refine wkB ?_;intros)|(refine wnM ?_ ?_;(focus(exact⟨by omega,by omega⟩));intros))
  exact Zg ⟨m+1,s'⟩ hlt sbB suB (by show us.length-(m+1)<us.length-m;omega)
 ·have hge:m=us.length:=by have:=Wb h;omega
  subst hge
  repeat(refine wkB ?_;intros)
  exact ZB rfl rfl (fun w hw=>⟨s,rfl,hw.sub sbl⟩)
theorem ZlQ (v:Value)(us:List UL)(w:World)(hv:ArgS w v rU us)(hl:us.length<=1048576):
  Calls prog 75 [v].toArray w (RetM (SlS rP 21 (mpN ofU us us.length)) (fun s=>vSl s) (fun s=>mS 46 s) w):=by
 refine Zb Tryz.func75 rfl Tryz.ntmps75 rfl ?_
 obtain⟨p,cp,rfl⟩:=hv.form
 repeat(refine wkB ?_;intros)
 refine Zq (S:=(m:Nat)×SlS rP 21 (mpN ofU us m)) (fun s=>s.1<=us.length) (fun s=>[(3,vSl s.2),(6, .slice p us.length cp),(7, .int .i64 us.length),(8, .int .i64 (s.1:Nat))]) (fun s=>mS 46 s.2) (fun s=>us.length-s.1) ⟨0,SlS.no⟩
  (Wm _) sbB slB (fun s hm=>?_)
 obtain⟨m,s⟩:=s
 simp only at hm⊢
 repeat(refine wkB ?_;intros)
 refine Zk rfl (fun h=>?_) (fun h=>?_)
 ·have hlt:m<us.length:=by have:=Wa h;omega
  obtain⟨bw,ow,rfl,hrow'⟩:=hv.opn (k:=20) hlt
  repeat(refine wkB ?_;intros)
  have hml:=ZaV ofU us m
  refine sU rfl rfl ?_ ?_ ?_ ?_
  ·rfl
  ·rfl
  ·exact⟨by decide,by omega,by omega⟩
  intro s'
  repeat(first|(refine wkB ?_;intros)|(refine wnM ?_ ?_;(focus(exact⟨by omega,by omega⟩));intros))
  exact Zg ⟨m+1,s'⟩ hlt sbB suB (by show us.length-(m+1)<us.length-m;omega)
 ·have hge:m=us.length:=by have:=Wb h;omega
  subst hge
  repeat(refine wkB ?_;intros)
  exact ZB rfl rfl (fun w hw=>⟨s,rfl,hw.sub sbl⟩)
instance ZCc (w0:World)(L:List Blk)(v:Value)(us:List PU)[h:LstC w0 L v PU rP us]:SpecR prog w0 L 63 [v] (SlS rU 21 (mpN toU us us.length)) (fun s=>vSl s) (fun s=>mS 145 s) (us.length<=1048576):=⟨fun hl w hw=>Zqr v us w (h.out w hw) hl⟩
instance ZzX (w0:World)(L:List Blk)(v:Value)(us:List UL)[h:LstC w0 L v UL rU us]:SpecR prog w0 L 75 [v] (SlS rP 21 (mpN ofU us us.length)) (fun s=>vSl s) (fun s=>mS 46 s) (us.length<=1048576):=⟨fun hl w hw=>ZlQ v us w (h.out w hw) hl⟩
end
section
def orL :List Int->Int
 |[]=>0
 |x::r=>if x=0 then orL r else x
theorem Zpg (xs:List Int)(m:Nat)(hm:m<xs.length):orL (xs.drop m)=if gi xs (m:Int)=0 then orL (xs.drop (m+1)) else gi xs (m:Int):=by
 rw[List.drop_eq_getElem_cons hm,orL,Zw hm]
theorem ZkC (b c n:Nat)(xs:List Int)(sp:List Value)(T:TypeId)(hn:n=xs.length)(hl:n<=1099511627776)(w:World)(hw:∃fz,w.heap[b]? =some (.cells (row (eI .i64) xs sp) T fz)):
  Calls prog 164 [.slice (some ⟨b,0,none⟩) n c].toArray w (Ret (.int .i64 (orL xs)) w):=by
 have:=FoC.mk hw
 refine Zb Tryz.func164 rfl Tryz.ntmps164 rfl ?_
 repeat(refine wkB ?_;intros)
 refine Zq (S:=Nat) (fun m=>m<=n/\orL xs=orL (xs.drop m)) (fun m=>[(3, .int .i64 0),(6, .slice (some ⟨b,0,none⟩) n c),(7, .int .i64 n),(8, .int .i64 (m:Nat))]) (fun _=>[]) (fun m=>n-m) 0 ⟨Wm _,by rw[List.drop_zero]⟩ sbB slB (fun m hm=>?_)
 obtain⟨hm,ho⟩:=hm
 repeat(refine wkB ?_;intros)
 refine Zk rfl (fun h=>?_) (fun h=>?_)
 ·have hlt:m<n:=by have:=Wa h;omega
  have hlp:(m:Int).toNat<xs.length:=by omega
  rw[Zpg xs m (by omega)] at ho
  repeat(refine wkB ?_;intros)
  by_cases h0:gi xs (m:Int)=0
  ·rw[if_pos h0] at ho
   simp only[Wc h0,Bool.not_true]
   repeat(first|(refine wkB ?_;intros)|(refine wnM ?_ ?_;(focus(exact⟨by omega,by omega⟩));intros))
   exact Zg (m+1) ⟨hlt,ho⟩ sbB slB (by omega)
  ·rw[if_neg h0] at ho
   simp only[We h0,Bool.not_false]
   repeat(refine wkB ?_;intros)
   rw[ho]
   exact rtT rfl rfl
 ·have hge:m=n:=by have:=Wb h;omega
  subst hge
  rw[hn,List.drop_length] at ho
  repeat(refine wkB ?_;intros)
  rw[ho]
  exact rtT rfl rfl
instance ZxS (w0:World)(L:List Blk)(b c n:Nat)(xs:List Int)(sp:List Value)(T:TypeId)[h:AtC w0 L b (row (eI .i64) xs sp) T]:SpecM prog w0 L 164 [.slice (some ⟨b,0,none⟩) n c] (.int .i64 (orL xs)) (n=xs.length/\n<=1099511627776):=⟨fun hp w hw=>ZkC b c n xs sp T hp.1 hp.2 w (h.out w hw)⟩
def opn (I:Za):Int:=if I.OpenFrom then 1 else 0
instance ZBO (I:Za):SpecC prog 163 [vIv I] (.int .i64 (opn I)) True:=⟨fun _ w=>by
 refine Zb Tryz.func163 rfl Tryz.ntmps163 rfl ?_
 obtain⟨f,t,o,c⟩:=I
 cases o
 ·repeat(refine wkB ?_;intros)
  exact rtT rfl rfl
 ·repeat(refine wkB ?_;intros)
  exact rtT rfl rfl⟩
theorem RlB.mono {K K':Nat}{x:Rl}(h:RlB K x)(hk:K<=K'):RlB K' x:=⟨h.o,Wi h.p hk,Wi h.r hk⟩
structure IvOk (K:Nat)(I:Za):Prop where
 a:RlB K I.From
 b:RlB K I.To
theorem IvOk.mono {K K':Nat}{I:Za}(h:IvOk K I)(hk:K<=K'):IvOk K' I:=⟨h.a.mono hk,h.b.mono hk⟩
abbrev rI :=Zbv
def memI (i:Za)(t:Ri):Prop:=(ri i.From<t\/(ri i.From=t/\i.OpenFrom=false))/\(t<ri i.To\/(t=ri i.To/\i.OpenTo=false))
def okI (i:Za):Prop:=ri i.From<ri i.To\/(ri i.From=ri i.To/\i.OpenFrom=false/\i.OpenTo=false)
abbrev BQ :Nat:=1073741824
noncomputable def cmpU (a b:UL):Int:=orL [cl a.In.From b.In.From,Lib.compareInt (opn a.In) (opn b.In),cl a.In.To b.In.To]
instance ZzJ (a b:UL):SpecC prog 162 [vUL a,vUL b] (.int .i64 (cmpU a b)) (IvOk BQ a.In/\IvOk BQ b.In):=⟨fun hp w=>by
 obtain⟨h1,h2⟩:=hp
 refine Zb Tryz.func162 rfl Tryz.ntmps162 rfl ?_
 repeat(refine wkB ?_;intros)
 rename_i b2 b3
 (refine Zn2 [([0,1,2,3,4,5,6,7,8,9,10,11,12,13,14,15,16,17,18,19,20,21,22],[23,24,25])] ([⟨b3,rU b,145⟩,⟨b2,rU a,145⟩]) (h:=?_);refine wkP ?_)
 (repeat(first|refine wkH ?_|(refine tC rfl rfl ?_ ?_;focus(first|exact trivial|exact⟨h1.a,h2.a⟩|exact⟨h1.b,h2.b⟩))))
 repeat(first|(refine wkT ?_;intros)|(refine tC rfl rfl ?_ ?_;focus(exact⟨rfl,by decide⟩))|(refine uC rfl rfl ?_ ?_;focus(exact⟨rfl,by decide⟩))|(refine eN rfl rfl ?_ ?_;(focus(exact⟨rfl,by decide⟩));intro _;(try simp only[Wf,Wg,Wh])))
 repeat(refine wkB ?_;intros)
 exact rtT rfl rfl⟩
def swp (xs:List UL)(j:Nat):List UL:=(xs.set (j+1) (gi xs (j:Int))).set j (gi xs ((j+1:Nat):Int))
noncomputable def dwn (xs:List UL):Nat->List UL
 |0=>xs
 |j+1=>if cmpU (gi xs ((j+1:Nat):Int)) (gi xs (j:Int))<0 then dwn (swp xs j) j else xs
noncomputable def srt (xs:List UL):Nat->List UL
 |0=>xs
 |i+1=>dwn (srt xs i) (i+1)
theorem Zf9 (xs:List UL)(j:Nat):(swp xs j).length=xs.length:=by simp[swp]
theorem Zkg {xs:List UL}{j:Nat}(h:j+1<xs.length){u:UL}(hu:u∈swp xs j):u∈xs:=by
 unfold swp at hu
 rcases List.mem_or_eq_of_mem_set hu with h1|h1
 ·rcases List.mem_or_eq_of_mem_set h1 with h2|h2
  ·exact h2
  ·rw[h2,Zw (by omega)]
   exact List.getElem_mem _
 ·rw[h1,Zw h]
  exact List.getElem_mem _
theorem Zjr :∀(j:Nat)(xs:List UL),(dwn xs j).length=xs.length
 |0,_=>rfl
 |j+1,xs=>by
  rw[dwn]
  split
  ·rw[Zjr j,Zf9]
  ·rfl
theorem Zj5 :∀(j:Nat)(xs:List UL),j<xs.length->∀u∈dwn xs j,u∈xs
 |0,_,_,_,h=>h
 |j+1,xs,hj,u,h=>by
  rw[dwn] at h
  split at h
  ·exact Zkg hj (Zj5 j _ (by rw[Zf9];omega) u h)
  ·exact h
theorem ZcA (xs:List UL):∀i,(srt xs i).length=xs.length
 |0=>rfl
 |i+1=>by rw[srt,Zjr,ZcA xs i]
theorem Zf0 (xs:List UL):∀i,i<xs.length->∀u∈srt xs i,u∈xs
 |0,_,_,h=>h
 |i+1,hi,u,h=>by
  rw[srt] at h
  exact Zf0 xs i (by omega) u (Zj5 _ _ (by rw[ZcA];exact hi) u h)
theorem Znz (w0 w:World)(L1:List Blk)(b c n:Nat)(xs:List UL)(sp:List Value)(T:TypeId)(hn:xs.length=n)(hl:n<=1048576)(hok:∀u∈xs,IvOk BQ u.In)(hw:Own w0 (⟨b,row rU xs sp,T⟩::L1) w):
  Calls prog 220 [.slice (some ⟨b,0,none⟩) n c, .int .i64 0, .int .i64 n,vFn 162].toArray w (RetX w0 Unit (fun _=> .tuple #[]) (fun _=>⟨b,row rU (srt xs (n-1)) sp,T⟩::L1)):=by
 refine Zaj Tryz.func220 rfl Tryz.ntmps220 rfl hw ?_
 repeat(refine wkB ?_;intros)
 refine Zq (S:=Nat) (fun m=>m<=n-1) (fun m=>[(0, .slice (some ⟨b,0,none⟩) n c),(1, .int .i64 0),(2, .int .i64 n),(3,vFn 162),(8, .int .i64 ((m+1:Nat)))]) (fun m=>⟨b,row rU (srt xs m) sp,T⟩::L1) (fun m=>n-1-m) 0 (Wm _) sbB slB (fun m hm=>?_)
 have hsl:=ZcA xs m
 repeat(refine wkB ?_;intros)
 refine Zk rfl (fun h=>?_) (fun h=>?_)
 ·have hlt:m+1<n:=by have:=Wa h;omega
  have hmem:=Zf0 xs m (by omega)
  repeat(refine wkB ?_;intros)
  refine Zq (S:=Nat×List UL) (fun s=>dwn s.2 s.1=srt xs (m+1)/\s.2.length=n/\s.1<=m+1/\∀u∈s.2,IvOk BQ u.In) (fun s=>[(0, .slice (some ⟨b,0,none⟩) n c),(1, .int .i64 0),(2, .int .i64 n),(3,vFn 162),(8, .int .i64 ((m+1:Nat))),(9, .int .i64 ((s.1:Nat)))]) (fun s=>⟨b,row rU s.2 sp,T⟩::L1) (fun s=>s.1) (m+1,srt xs m)
   ⟨rfl,by show(srt xs m).length=n;omega,Wl _,fun u hu=>hok u (hmem u hu)⟩ sbB slB (fun s hs=>?_)
  obtain⟨j,ys⟩:=s
  obtain⟨g1,g2,g3,g4⟩:=hs
  simp only at g1 g2 g3 g4⊢
  repeat(refine wkB ?_;intros)
  rcases j with _|j
  ·(refine jD 17 17 (h:=?_);(repeat(refine wkH ?_));refine Zo ?_;(repeat(refine Z0 ?_;intro _));refine Zs ?_)
   repeat(refine wkB ?_;intros)
   exact Zg (m+1) (by omega) sbB (by rw[<-g1];exact Wj _) (by omega)
  ·have hj1:((j:Int)).toNat<ys.length:=by omega
   have hj2:(((j+1:Nat):Int)).toNat<ys.length:=by omega
   have e1:((j+1:Nat):Int)-1=(j:Int):=by omega
   have o1:=g4 _ (by rw[Zw (show j<ys.length by omega)];exact List.getElem_mem _:gi ys (j:Int)∈ys)
   have o2:=g4 _ (by rw[Zw (show j+1<ys.length by omega)];exact List.getElem_mem _:gi ys ((j+1:Nat):Int)∈ys)
   rw[dwn] at g1
   refine jD 17 17 (h:=?_)
   (repeat(refine wkH ?_))
   simp only[Wc (show(0:Int)<((j+1:Nat):Int) by omega),e1]
   (repeat(refine wkH ?_))
   simp only[e1]
   (repeat(first|refine wkH ?_|(refine tC rfl rfl ?_ ?_;focus(exact⟨o2,o1⟩))))
   refine Zo ?_
   refine Zs ?_
   repeat(refine wkB ?_;intros)
   by_cases hc:cmpU (gi ys ((j+1:Nat):Int)) (gi ys (j:Int))<0
   ·rw[if_pos hc] at g1
    simp only[Wc hc]
    repeat(refine wkB ?_;intros)
    (refine Zfh [(true,[0,1,2,3,4,5,6,7,8]),(false,[9]),(true,[10,11,12]),(false,[13]),(true,[14])] [15,16,17] (h:=?_);refine wkS ?_)
    (repeat(refine wkH ?_))
    simp only[e1]
    refine Zo ?_
    refine eR rfl ?_ ?_
    ·omega
    refine uS rfl rfl ?_ ?_
    ·omega
    refine eR rfl ?_ ?_
    ·rw[List.length_set];omega
    refine Za0 ?_
    simp only[Int.toNat_natCast]
    repeat(first|(refine wkB ?_;intros)|(refine wnM ?_ ?_;(focus(exact⟨by omega,by omega⟩));intros))
    simp only[e1]
    exact Zg (j,swp ys j) ⟨g1,by rw[Zf9];exact g2,by omega,fun u hu=>g4 u (Zkg (by omega) hu)⟩ sbB slB (by show j<j+1;omega)
   ·rw[if_neg hc] at g1
    simp only[We hc]
    repeat(first|(refine wkB ?_;intros)|(refine wnM ?_ ?_;(focus(exact⟨by omega,by omega⟩));intros))
    exact Zg (m+1) (by omega) sbB (by rw[<-g1];exact Wj _) (by omega)
 ·have hge:m=n-1:=by have:=Wb h;omega
  subst hge
  repeat(refine wkB ?_;intros)
  exact Zay rfl (fun w hw=>⟨(),rfl,hw⟩)
abbrev SrtS (xs:List UL)(s:SlS rU 21 xs):Type:={s':SlS rU 21 (srt xs (xs.length-1)) // vSl s'=vSl s}
theorem Zmc (w0 w:World)(L L1:List Blk)(xs:List UL)(s:SlS rU 21 xs)(T:TypeId)[hd:OwnS T s L L1](hl:xs.length<=1048576)(hok:∀u∈xs,IvOk BQ u.In)(hw:Own w0 L w):
  Calls prog 220 [vSl s, .int .i64 0, .int .i64 xs.length,vFn 162].toArray w (RetX w0 (SrtS xs s) (fun _=> .tuple #[]) (fun s'=>mS T s'.1++L1)):=by
 have hw1:=hw.perm hd.out
 rcases s.cases T with⟨rfl,hv,hm⟩|⟨b,c,sp,h1,hv,hm,hne⟩
 ·suffices h:Calls prog 220 [.slice none 0 0, .int .i64 0, .int .i64 (([]:List UL).length:Nat),vFn 162].toArray w (RetX w0 (SrtS [] s) (fun _=> .tuple #[]) (fun s'=>mS T s'.1++L1)) by
   rw[<-hv] at h
   exact h
  refine Zaj Tryz.func220 rfl Tryz.ntmps220 rfl hw1 ?_
  repeat(refine wkB ?_;intros)
  refine Zq (S:=Unit) (fun _=>True) (fun _=>[(2, .int .i64 (([]:List UL).length:Nat)),(8, .int .i64 1)]) (fun _=>mS T s++L1) (fun _=>0) () trivial sbB slB (fun _ _=>?_)
  repeat(refine wkB ?_;intros)
  simp only[We (show¬(1:Int)<((([]:List UL).length:Nat):Int) by simp)]
  repeat(refine wkB ?_;intros)
  exact Zay rfl (fun w hw=>⟨⟨s,rfl⟩,rfl,hw⟩)
 ·suffices h:Calls prog 220 [.slice (some ⟨b,0,none⟩) xs.length c, .int .i64 0, .int .i64 xs.length,vFn 162].toArray w (RetX w0 (SrtS xs s) (fun _=> .tuple #[]) (fun s'=>mS T s'.1++L1)) by
   rw[<-hv] at h
   exact h
  rw[hm] at hw1
  have hsl:=ZcA xs (xs.length-1)
  refine(Znz w0 w L1 b c xs.length xs sp T rfl hl hok hw1).mono fun e w' ⟨_,he,hw'⟩=>?_
  exact⟨⟨SlS.at_ b c sp (by rw[hsl];exact h1) (fun h0=>hne (List.length_eq_zero_iff.1 (by rw[h0,Wx] at hsl;exact hsl.symm))),by rw[hv];show Value.slice _ (srt xs (xs.length-1)).length c=_;rw[hsl]⟩,he,hw'⟩
instance ZBa (w0:World)(L L1:List Blk)(xs:List UL)(s:SlS rU 21 xs)(T:TypeId)[hd:OwnS T s L L1]:SpecX prog w0 L 220 [vSl s, .int .i64 0, .int .i64 xs.length,vFn 162] (SrtS xs s) (fun _=> .tuple #[]) (fun s'=>mS T s'.1++L1) (xs.length<=1048576/\∀u∈xs,IvOk BQ u.In):=⟨fun hp w hw=>Zmc w0 w L L1 xs s T hp.1 hp.2 hw⟩
theorem ZiL (w0 w:World)(L L1:List Blk)(xs:List UL)(s:SlS rU 21 xs)(T:TypeId)[hd:OwnS T s L L1](hl:xs.length<=19)(hok:∀u∈xs,IvOk BQ u.In)(hw:Own w0 L w):
  Calls prog 198 [vSl s, .int .i64 xs.length,vFn 162].toArray w (RetX w0 (SrtS xs s) (fun _=> .tuple #[]) (fun s'=>mS T s'.1++L1)):=by
 refine Zaj Tryz.func198 rfl Tryz.ntmps198 rfl hw ?_
 repeat(refine wkB ?_;intros)
 refine Zq (S:=Unit) (fun _=>True) (fun _=>[(0,vSl s),(1, .int .i64 xs.length),(2,vFn 162),(6, .int .i64 20),(7, .int .i64 0),(8, .int .i64 20)]) (fun _=>L) (fun _=>0) () trivial sbB slB (fun _ _=>?_)
 repeat(refine wkB ?_;intros)
 simp only[We (show¬(20:Int)<=(xs.length:Int) by omega)]
 repeat(refine wkB ?_;intros)
 refine sZ rfl rfl ?_ ?_
 ·exact⟨by omega,hok⟩
 intro s'
 repeat(refine wkB ?_;intros)
 refine Zq (S:=Unit) (fun _=>True) (fun _=>[(1, .int .i64 xs.length),(6, .int .i64 20)]) (fun _=>mS T s'.1++L1) (fun _=>0) () trivial sbB slB (fun _ _=>?_)
 repeat(refine wkB ?_;intros)
 simp only[We (show¬(20:Int)<(xs.length:Int) by omega)]
 repeat(refine wkB ?_;intros)
 exact Zay rfl (fun w hw=>⟨s',rfl,hw⟩)
instance ZvB (w0:World)(L L1:List Blk)(xs:List UL)(s:SlS rU 21 xs)(T:TypeId)[hd:OwnS T s L L1]:SpecX prog w0 L 198 [vSl s, .int .i64 xs.length,vFn 162] (SrtS xs s) (fun _=> .tuple #[]) (fun s'=>mS T s'.1++L1) (xs.length<=19/\∀u∈xs,IvOk BQ u.In):=⟨fun hp w hw=>ZiL w0 w L L1 xs s T hp.1 hp.2 hw⟩
theorem Zff (w0 w:World)(L L1:List Blk)(xs:List UL)(s:SlS rU 21 xs)(T:TypeId)[hd:OwnS T s L L1](hl:xs.length<=19)(hok:∀u∈xs,IvOk BQ u.In)(hw:Own w0 L w):
  Calls prog 161 [vSl s,vFn 162].toArray w (RetX w0 (SrtS xs s) (fun _=> .tuple #[]) (fun s'=>mS T s'.1++L1)):=by
 refine Zaj Tryz.func161 rfl Tryz.ntmps161 rfl hw ?_
 repeat(refine wkB ?_;intros)
 refine sZ rfl rfl ?_ ?_
 ·exact⟨hl,hok⟩
 intro s'
 repeat(refine wkB ?_;intros)
 exact Zay rfl (fun w hw=>⟨s',rfl,hw⟩)
end
section
abbrev RtB (t:Rl):Prop:=RlB B28 t
theorem IvOk.f {i:Za}(h:IvOk B28 i):RtB i.From:=h.a
theorem IvOk.t {i:Za}(h:IvOk B28 i):RtB i.To:=h.b
theorem RlB.c {x y:Rl}(h:RtB x)(k:RtB y):RlB B28 x/\RlB B28 y:=⟨h,k⟩
theorem ZlK (a b:Rl):cl a b= -1\/cl a b=0\/cl a b=1:=by
 have:=Zlc a b
 omega
def inQ (a b:Int)(o c:Bool):Bool:=(decide (a<0)||(decide (a=0)&& !o))&&(decide (b<0)||(decide (b=0)&& !c))
noncomputable def inB (i:Za)(t:Rl):Bool:=inQ (cl i.From t) (cl t i.To) i.OpenFrom i.OpenTo
instance ZBD (i:Za)(t:Zi):SpecC prog 70 [vIv i,vR t] (.bool (inB i t)) (IvOk B28 i/\RtB t):=⟨fun hp w=>by
 obtain⟨hi,ht⟩:=hp
 have h1:=hi.f.c ht
 have h2:=ht.c hi.t
 refine Zb Tryz.func70 rfl Tryz.ntmps70 rfl ?_
 repeat(refine wkB ?_;intros)
 rename_i b2 b3
 (refine ZH (.v [0,1,2,3,4,5,6,7] (.e1 8 (.e1 9 (.fin)))) ([⟨b3,Zc (Ze t),35⟩,⟨b2,Zh (Zf i),37⟩]) (h:=?_);refine wkX ?_)
 (repeat(first|refine wkH ?_|(refine tC rfl rfl ?_ ?_;focus(first|exact h1|exact h2))))
 repeat(refine wkT ?_;intros)
 unfold inB
 have v1:=ZlK i.From t
 have v2:=ZlK t i.To
 generalize cl i.From t=a at*
 generalize cl t i.To=b at*
 obtain⟨f,g,o,c⟩:=i
 rcases v1 with rfl|rfl|rfl <;> rcases v2 with rfl|rfl|rfl <;> rcases o with _|_ <;> rcases c with _|_
 all_goals(repeat(refine wkB ?_;intros))
 all_goals exact rtT rfl rfl⟩
instance ZkV (op:Int)(a b:Bool):SpecC prog 72 [.int .i64 op, .bool a, .bool b] (.bool (if op=1 then a||b else if op=2 then a&&b else a&& !b)) True:=⟨fun _ w=>by
 refine Zb Tryz.func72 rfl Tryz.ntmps72 rfl ?_
 repeat(refine wkB ?_;intros)
 by_cases h1:op=1
 ·subst h1
  cases a <;> cases b
  all_goals(repeat(refine wkB ?_;intros))
  all_goals exact rtT rfl rfl
 ·rw[if_neg h1]
  simp only[We h1]
  repeat(refine wkB ?_;intros)
  by_cases h2:op=2
  ·subst h2
   cases a <;> cases b
   all_goals(repeat(refine wkB ?_;intros))
   all_goals exact rtT rfl rfl
  ·rw[if_neg h2]
   simp only[We h2]
   cases a <;> cases b
   all_goals(repeat(refine wkB ?_;intros))
   all_goals exact rtT rfl rfl⟩
noncomputable def hlB (l:List Za)(t:Rl):Bool:=l.any fun i=>inB i t
theorem ZmJ {α:Type}[Inhabited α]{p:α->Bool}{l:List α}{m:Nat}(h:m<l.length)(k:p (gi l (m:Int))=true):l.any p=true:=List.any_eq_true.2 ⟨_,ZA (by omega),k⟩
theorem Zmq {α:Type}[Inhabited α]{p:α->Bool}{l:List α}(h:∀j:Nat,j<l.length->p (gi l (j:Int))=false):l.any p=false:=by
 rw[List.any_eq_false]
 intro x hx
 obtain⟨j,hj,rfl⟩:=List.getElem_of_mem hx
 have:=h j hj
 rw[Zw hj] at this
 simp[this]
set_option maxHeartbeats 8000000 in
theorem ZiV (v:Value)(l:List Za)(t:Zi)(w:World)(hv:ArgS w v rI l)(hl:l.length<=1048576)(hi:∀i∈l,IvOk B28 i)(ht:RtB t):
  Calls prog 73 [v,vR t].toArray w (Ret (.bool (hlB l t)) w):=by
 obtain⟨p,cp,rfl⟩:=hv.form
 refine Zb Tryz.func73 rfl Tryz.ntmps73 rfl ?_
 repeat(refine wkB ?_;intros)
 rename_i b3
 refine Zq (S:=Nat) (fun k=>k<=l.length/\∀j:Nat,j<k->inB (gi l (j:Int)) t=false) (fun k=>[(0, .slice p l.length cp),(3, .pointer (some ⟨b3,0,none⟩)),(5, .int .i64 (k:Nat))]) (fun _=>[⟨b3,Zc (Ze t),35⟩]) (fun k=>l.length-k) 0 ⟨Wm _,fun j hj=>by omega⟩ sbB slB (fun k hk=>?_)
 obtain⟨hk,hno⟩:=hk
 repeat(refine wkB ?_;intros)
 refine Zk rfl (fun h=>?_) (fun h=>?_)
 ·have hlt:k<l.length:=by have:=Wa h;omega
  obtain⟨bw,ow,rfl,hrow'⟩:=hv.opn (k:=19) hlt
  have hj:IvOk B28 (gi l (k:Int))/\RtB t:=⟨hi _ (ZA (by omega)),ht⟩
  repeat(refine wkB ?_;intros)
  (refine ZH (.v [0,1,2,3,4,5] (.fin)) ([⟨b3,Zc (Ze t),35⟩]) (h:=?_);refine wkX ?_)
  (repeat(first|refine wkH ?_|(refine tC rfl rfl ?_ ?_;focus(exact hj))))
  repeat(refine wkT ?_;intros)
  by_cases c:inB (gi l (k:Int)) t=true
  ·have hh:hlB l t=true:=ZmJ hlt c
   simp only[c,hh]
   repeat(refine wkB ?_;intros)
   exact rtT rfl rfl
  ·have c0:=Bool.eq_false_iff.2 c
   simp only[c0]
   repeat(first|(refine wkB ?_;intros)|(refine wnM ?_ ?_;(focus(exact⟨by omega,by omega⟩));intros))
   refine Zg (k+1) ⟨hlt,fun j hj=>?_⟩ sbB slB (by omega)
   rcases(by omega:j<k\/j=k) with h1|rfl
   ·exact hno j h1
   ·exact c0
 ·have hge:k=l.length:=by have:=Wb h;omega
  subst hge
  have hh:hlB l t=false:=Zmq hno
  repeat(refine wkB ?_;intros)
  rw[hh]
  exact rtT rfl rfl
instance Zvy (w0:World)(L:List Blk)(v:Value)(l:List Za)(t:Zi)[h:LstC w0 L v Za rI l]:SpecM prog w0 L 73 [v,vR t] (.bool (hlB l t)) (l.length<=1048576/\(∀i∈l,IvOk B28 i)/\RtB t):=⟨fun hp w hw=>ZiV v l t w (h.out w hw) hp.1 hp.2.1 hp.2.2⟩
noncomputable def spI (i:Za)(a b:Rl):Bool:=decide (cl i.From a<=0)&&decide (cl b i.To<=0)
noncomputable def spB (l:List Za)(a b:Rl):Bool:=l.any fun i=>spI i a b
set_option maxHeartbeats 8000000 in
theorem ZiU (v:Value)(l:List Za)(t u:Zi)(w:World)(hv:ArgS w v rI l)(hl:l.length<=1048576)(hi:∀i∈l,IvOk B28 i)(ht:RtB t)(hu:RtB u):
  Calls prog 69 [v,vR t,vR u].toArray w (Ret (.bool (spB l t u)) w):=by
 obtain⟨p,cp,rfl⟩:=hv.form
 refine Zb Tryz.func69 rfl Tryz.ntmps69 rfl ?_
 repeat(refine wkB ?_;intros)
 rename_i b4 b5
 refine Zq (S:=Nat) (fun k=>k<=l.length/\∀j:Nat,j<k->spI (gi l (j:Int)) t u=false) (fun k=>[(0, .slice p l.length cp),(4, .pointer (some ⟨b4,0,none⟩)),(5, .pointer (some ⟨b5,0,none⟩)),(7, .int .i64 (k:Nat))]) (fun _=>[⟨b5,Zc (Ze u),35⟩,⟨b4,Zc (Ze t),35⟩]) (fun k=>l.length-k) 0 ⟨Wm _,fun j hj=>by omega⟩ sbB slB (fun k hk=>?_)
 obtain⟨hk,hno⟩:=hk
 repeat(refine wkB ?_;intros)
 refine Zk rfl (fun h=>?_) (fun h=>?_)
 ·have hlt:k<l.length:=by have:=Wa h;omega
  obtain⟨bw,ow,rfl,hrow'⟩:=hv.opn (k:=19) hlt
  have hj:=hi (gi l (k:Int)) (ZA (by omega))
  have h1:=hj.f.c ht
  have h2:=hu.c hj.t
  have hdf:spI (gi l (k:Int)) t u=(decide (cl (gi l (k:Int)).From t<=0)&&decide (cl u (gi l (k:Int)).To<=0)):=rfl
  repeat(refine wkB ?_;intros)
  refine jD 18 18 (h:=?_)
  (repeat(first|refine wkH ?_|(refine tC rfl rfl ?_ ?_;focus(first|exact h1|exact h2))))
  by_cases c1:cl (gi l (k:Int)).From t<=0
  ·simp only[Wc c1]
   (repeat(first|refine wkH ?_|(refine tC rfl rfl ?_ ?_;focus(first|exact h1|exact h2))))
   refine Zo ?_
   refine Zs ?_
   by_cases c2:cl u (gi l (k:Int)).To<=0
   ·have hh:spB l t u=true:=ZmJ hlt (by rw[hdf,Wc c1,Wc c2];rfl)
    simp only[Wc c2,hh]
    repeat(refine wkB ?_;intros)
    exact rtT rfl rfl
   ·simp only[We c2]
    repeat(first|(refine wkB ?_;intros)|(refine wnM ?_ ?_;(focus(exact⟨by omega,by omega⟩));intros))
    refine Zg (k+1) ⟨hlt,fun j hj=>?_⟩ sbB slB (by omega)
    rcases(by omega:j<k\/j=k) with h1|rfl
    ·exact hno j h1
    ·rw[hdf,We c2,Bool.and_false]
  ·simp only[We c1]
   (repeat(refine wkH ?_))
   refine Zo ?_
   refine Zs ?_
   repeat(first|(refine wkB ?_;intros)|(refine wnM ?_ ?_;(focus(exact⟨by omega,by omega⟩));intros))
   refine Zg (k+1) ⟨hlt,fun j hj=>?_⟩ sbB slB (by omega)
   rcases(by omega:j<k\/j=k) with h1|rfl
   ·exact hno j h1
   ·rw[hdf,We c1,Bool.false_and]
 ·have hge:k=l.length:=by have:=Wb h;omega
  subst hge
  have hh:spB l t u=false:=Zmq hno
  repeat(refine wkB ?_;intros)
  rw[hh]
  exact rtT rfl rfl
instance ZwE (w0:World)(L:List Blk)(v:Value)(l:List Za)(t u:Zi)[h:LstC w0 L v Za rI l]:SpecM prog w0 L 69 [v,vR t,vR u] (.bool (spB l t u)) (l.length<=1048576/\(∀i∈l,IvOk B28 i)/\RtB t/\RtB u):=⟨fun hp w hw=>ZiU v l t u w (h.out w hw) hp.1 hp.2.1 hp.2.2.1 hp.2.2.2⟩
end
section
theorem Zrq (w:World):(Instr.buildSlice 59 0 [].toArray).run prog w= .ok (.slice (some ⟨w.heap.size,0,none⟩) 0 0) (w.alloc (.cells (row (Zv) [] []) 35)):=by kernel_rfl
instance (priority :=high) ZBb:BsC prog 59 0 [] (row (Zv) [] []) 35:=⟨Zrq⟩
theorem ZrT (w:World):(Instr.buildSlice 47 0 [].toArray).run prog w= .ok (.slice (some ⟨w.heap.size,0,none⟩) 0 0) (w.alloc (.cells (row (rI) [] []) 37)):=by kernel_rfl
instance (priority :=high) ZB2:BsC prog 47 0 [] (row (rI) [] []) 37:=⟨ZrT⟩
instance lst1 {α:Type}{enc:α->Array Value}{k:Nat}{x:α}{sp:List Value}[he:EncC enc k](w0:World)(L:List Blk)(b c:Nat)(T:TypeId)[h:AtC w0 L b (row enc [x] sp) T]:LstC w0 L (.slice (some ⟨b,0,none⟩) 1 (c+1)) α enc [x]:=⟨fun w hw=>by
 obtain⟨fz,hb⟩:=h.out w hw
 exact ZbH (c:=c+1) hb (Nat.le_add_left 1 c)⟩
theorem ZmM {a b c:Ri}(h:a<b)(k:b<c):a<c:=by grind
structure SrR (n:Nat)(xs:List Zi):Prop where
 s:xs.Pairwise fun a b=>ri a<ri b
 b:∀x∈xs,RtB x
 n:xs.length<=n
theorem SrR.mono {n m:Nat}{xs:List Zi}(h:SrR n xs)(k:n<=m):SrR m xs:=⟨h.s,h.b,Wi h.n k⟩
theorem SrR.at {n:Nat}{xs:List Zi}(h:SrR n xs){i j:Nat}(hij:i<j)(hj:j<xs.length):ri (gi xs (i:Int))<ri (gi xs (j:Int)):=by
 rw[Zw (by omega),Zw hj]
 exact(List.pairwise_iff_getElem.1 h.s) i j (by omega) hj hij
theorem SrR.put {n:Nat}{xs:List Zi}{t:Zi}{k:Nat}(h:SrR n xs)(ht:RtB t)(hk:k<=xs.length)(h1:∀j:Nat,j<k->ri (gi xs (j:Int))<ri t)(h2:k<xs.length->ri t<ri (gi xs (k:Int))):SrR (n+1) (([]++xs.take k)++[t]++xs.drop k):=by
 have hlow:∀x∈xs.take k,ri x<ri t:=fun x hx=>by
  obtain⟨j,hj,rfl⟩:=List.getElem_of_mem hx
  rw[Wt] at hj
  have:=h1 j (by omega)
  rw[Zw (by omega)] at this
  rw[List.getElem_take]
  exact this
 have hup:∀x∈xs.drop k,ri t<ri x:=fun x hx=>by
  obtain⟨j,hj,rfl⟩:=List.getElem_of_mem hx
  rw[List.length_drop] at hj
  have h3:=h2 (by omega)
  rw[List.getElem_drop]
  rcases Nat.eq_zero_or_pos j with rfl|hp
  ·rw[Zw (by omega)] at h3
   exact h3
  ·have h4:=h.at (i:=k) (j:=k+j) (by omega) (by omega)
   rw[Zw (i:=k+j) (by omega)] at h4
   exact ZmM h3 h4
 refine⟨?_,fun x hx=>?_, ?_⟩
 ·rw[Wg,List.append_assoc,List.pairwise_append]
  refine⟨h.s.sublist (List.take_sublist _ _), ?_,fun a ha b hb=>?_⟩
  ·rw[List.singleton_append,List.pairwise_cons]
   exact⟨hup,h.s.sublist (List.drop_sublist _ _)⟩
  ·rcases List.mem_cons.1 hb with rfl|hb
   ·exact hlow a ha
   ·exact ZmM (hlow a ha) (hup b hb)
 ·rw[Wg,List.append_assoc,Wv,List.singleton_append,Ww] at hx
  rcases hx with hx|rfl|hx
  ·exact h.b _ (List.mem_of_mem_take hx)
  ·exact ht
  ·exact h.b _ (List.mem_of_mem_drop hx)
 ·have:=h.n
  simp only[Wp,Wt,List.length_drop,Wx,List.length_singleton]
  omega
theorem SlS.form {α:Type}{enc:α->Array Value}{k:Nat}{xs:List α}(s:SlS enc k xs):∃p c,vSl s= .slice p xs.length c/\xs.length<=c:=by
 rcases s.cases 0 with⟨rfl,h, -⟩|⟨b,c,sp,h1,h, -, -⟩
 ·exact⟨none,0,h,Wl _⟩
 ·exact⟨_,c,h,h1.1⟩
noncomputable def kI (t:Rl):List Rl->Nat
 |[]=>0
 |x::xs=>if cl x t<0 then kI t xs+1 else 0
theorem Zks (t:Rl):∀xs:List Rl,kI t xs<=xs.length
 |[]=>Wl _
 |x::xs=>by
  have:=Zks t xs
  rw[kI,Wu]
  split <;> omega
theorem Zlb {t:Rl}:∀{xs:List Rl} {k:Nat},k<=xs.length->(∀j:Nat,j<k->ri (gi xs (j:Int))<ri t)->(k<xs.length->¬ri (gi xs (k:Int))<ri t)->k=kI t xs
 |[],k,hk,_,_=>by simpa [kI] using hk
 |x::xs,0,_,_,h2=>by
  have h3:gi (x::xs) ((0:Nat):Int)=x:=rfl
  have:=h2 (by simp)
  rw[h3] at this
  rw[kI,if_neg (fun h=>this (Zal.1 h))]
 |x::xs,k+1,hk,h1,h2=>by
  have h0:gi (x::xs) ((0:Nat):Int)=x:=rfl
  have h3:=h1 0 (by omega)
  rw[h0] at h3
  have hs:∀j:Nat,gi (x::xs) ((j+1:Nat):Int)=gi xs (j:Int):=fun j=>by
   unfold gi
   simp
  rw[kI,if_pos (Zal.2 h3),Zlb (xs:=xs) (k:=k) (by simpa using hk) (fun j hj=>by rw[<-hs];exact h1 (j+1) (by omega)) (fun hj=>by rw[<-hs];exact h2 (by simpa using hj))]
theorem ZpE {t:Rl}:∀{xs:List Rl} {j:Nat},j<kI t xs->ri (gi xs (j:Int))<ri t
 |[],j,h=>by simp[kI] at h
 |x::xs,j,h=>by
  rw[kI] at h
  split at h
  ·rename_i h0
   rcases j with _|j
   ·exact Zal.1 h0
   ·have:=ZpE (t:=t) (xs:=xs) (j:=j) (by omega)
    have hs:gi (x::xs) ((j+1:Nat):Int)=gi xs (j:Int):=by unfold gi;simp
    rw[hs]
    exact this
  ·omega
theorem ZpL {t:Rl}:∀{xs:List Rl},kI t xs<xs.length->¬ri (gi xs (kI t xs:Int))<ri t
 |[],h=>by simp at h
 |x::xs,h=>by
  rw[kI] at h⊢
  split at h
  ·rename_i h0
   rw[if_pos h0]
   have hs:gi (x::xs) ((kI t xs+1:Nat):Int)=gi xs (kI t xs:Int):=by unfold gi;simp
   rw[hs]
   exact ZpL (by simpa using h)
  ·rename_i h0
   rw[if_neg h0]
   exact fun k=>h0 (Zal.2 k)
noncomputable def insR (xs:List Rl)(t:Rl):List Rl:=if kI t xs<xs.length/\cl (gi xs (kI t xs:Int)) t=0 then xs else([]++xs.take (kI t xs))++[t]++xs.drop (kI t xs)
noncomputable def srtR (l:List Rl):Nat->List Rl
 |0=>[]
 |i+1=>insR (srtR l i) (gi l (i:Int))
theorem ZqS {n:Nat}{xs:List Rl}{t:Rl}(h:SrR n xs)(ht:RtB t):SrR (n+1) (insR xs t):=by
 unfold insR
 split
 ·exact h.mono (Nat.le_succ n)
 ·rename_i hc
  refine h.put ht (Zks t xs) (fun j hj=>ZpE hj) (fun hk=>?_)
  have h1:=ZpL hk
  have h2:¬ri (gi xs (kI t xs:Int))=ri t:=fun h2=>hc ⟨hk,Zao.2 h2⟩
  grind
theorem ZeF {l:List Rl}(hb:∀x∈l,RtB x):∀i,i<=l.length->SrR i (srtR l i)
 |0,_=>⟨.nil,(fun x hx=>by cases hx),Wl _⟩
 |i+1,hi=>ZqS (ZeF hb i (by omega)) (hb _ (ZA (by omega)))
set_option maxHeartbeats 8000000 in
theorem Zhd (v:Value)(l:List Zi)(w:World)(hv:ArgS w v Zv l)(hl:l.length<=1048576)(hb:∀x∈l,RtB x):
  Calls prog 113 [v].toArray w (RetM (SlS Zv 9 (srtR l l.length)) (fun q=>vSl q) (fun q=>mS 35 q) w):=by
 obtain⟨p,cp,rfl⟩:=hv.form
 refine Zb Tryz.func113 rfl Tryz.ntmps113 rfl ?_
 repeat(refine wkB ?_;intros)
 refine Zq (S:=(_:Nat)×(xs:List Rl)×SlS Zv 9 xs) (fun q=>q.1<=l.length/\q.2.1=srtR l q.1) (fun q=>[(0, .slice p l.length cp),(3,vSl q.2.2),(4, .int .i64 (q.1:Nat))]) (fun q=>mS 35 q.2.2) (fun q=>l.length-q.1) ⟨0,[],SlS.no⟩ ⟨Wm _,rfl⟩ sbB suB (fun q hq=>?_)
 obtain⟨i,xs,q⟩:=q
 simp only at hq⊢
 obtain⟨hq,hxe⟩:=hq
 have hx:SrR i xs:=by rw[hxe];exact ZeF hb i hq
 have hxn:=hx.n
 have hnx0:srtR l (i+1)=insR xs (gi l (i:Int)):=by rw[hxe];rfl
 have hfin:i=l.length->xs=srtR l l.length:=fun h=>by rw[hxe,h]
 clear hxe
 repeat(refine wkB ?_;intros)
 refine Zk rfl (fun h=>?_) (fun h=>?_)
 ·have hlt:i<l.length:=by have:=Wa h;omega
  obtain⟨bw,ow,rfl,hrow'⟩:=hv.opn (k:=8) hlt
  have ht:=hb (gi l (i:Int)) (ZA (by omega))
  repeat(refine wkB ?_;intros)
  refine Zad (S:=Nat) (fun k=>k<=xs.length/\(∀j:Nat,j<k->ri (gi xs (j:Int))<ri (gi l (i:Int)))/\(k<xs.length->¬ri (gi xs (k:Int))<ri (gi l (i:Int)))) (fun k=>[(0, .slice (some ⟨bw,ow,none⟩) l.length cp),(3,vSl q),(4, .int .i64 (i:Nat)),(5, .int .i64 (k:Nat))]) (fun _=>mS 35 q) ?_ (fun k hk=>?_)
  ·refine Zq (S:=Nat) (fun k=>k<=xs.length/\∀j:Nat,j<k->ri (gi xs (j:Int))<ri (gi l (i:Int))) (fun k=>[(0, .slice (some ⟨bw,ow,none⟩) l.length cp),(3,vSl q),(4, .int .i64 (i:Nat)),(5, .int .i64 (k:Nat))]) (fun _=>mS 35 q) (fun k=>xs.length-k) 0 ⟨Wm _,fun j hj=>by omega⟩ sbB suB (fun k hk=>?_)
   obtain⟨hk,hno⟩:=hk
   rcases q.cases 35 with⟨y0,y1,y2⟩|⟨bq,cb,sp,hc1,y1,y2,yne⟩
   ·have e0:k=0:=by rw[y0] at hk;simpa using hk
    subst e0
    simp only[y1,y2]
    repeat(refine wkB ?_;intros)
    refine jD 16 16 (h:=?_)
    (repeat(refine wkH ?_))
    try simp only[We (show¬((0:Nat):Int)<0 by omega)]
    (repeat(refine wkH ?_))
    refine Zo ?_
    refine Zs ?_
    repeat(refine wkB ?_;intros)
    exact Zj 0 ⟨Wm _,hno,fun h=>by rw[y0] at h;cases h⟩ sbB suB
   simp only[y1,y2,Wf,Wg]
   by_cases c1:k<xs.length
   ·have hx1:=(hx.b (gi xs (k:Int)) (ZA (by omega))).c ht
    repeat(refine wkB ?_;intros)
    refine jD 16 16 (h:=?_)
    (repeat(refine wkH ?_))
    simp only[Wc (show(k:Int)<(xs.length:Nat) by omega)]
    (repeat(first|refine wkH ?_|(refine tC rfl rfl ?_ ?_;focus(exact hx1))))
    refine Zo ?_
    refine Zs ?_
    by_cases c2:ri (gi xs (k:Int))<ri (gi l (i:Int))
    ·simp only[Wc (Zal.2 c2)]
     repeat(first|(refine wkB ?_;intros)|(refine wnM ?_ ?_;(focus(exact⟨by omega,by omega⟩));intros))
     refine Zg (k+1) ⟨c1,fun j hj=>?_⟩ sbB suB (by omega)
     rcases(by omega:j<k\/j=k) with h1|rfl
     ·exact hno j h1
     ·exact c2
    ·simp only[We (fun h=>c2 (Zal.1 h))]
     repeat(refine wkB ?_;intros)
     exact Zj k ⟨hk,hno,fun _=>c2⟩ sbB suB
   ·repeat(refine wkB ?_;intros)
    refine jD 16 16 (h:=?_)
    (repeat(refine wkH ?_))
    simp only[We (show¬(k:Int)<(xs.length:Nat) by omega)]
    (repeat(refine wkH ?_))
    refine Zo ?_
    refine Zs ?_
    repeat(refine wkB ?_;intros)
    exact Zj k ⟨hk,hno,fun h=>absurd h c1⟩ sbB suB
  ·obtain⟨hk,hno,hkn⟩:=hk
   repeat(refine wkB ?_;intros)
   refine ZY (S:={z:Bool // z=true↔k<xs.length/\ri (gi xs (k:Int))=ri (gi l (i:Int))}) (fun _=>True) (fun z=>[(0, .slice (some ⟨bw,ow,none⟩) l.length cp),(3,vSl q),(4, .int .i64 (i:Nat)),(5, .int .i64 (k:Nat)),(45, .bool z.1)]) (fun _=>mS 35 q) ?_ (fun z _=>?_)
   ·rcases q.cases 35 with⟨y0,y1,y2⟩|⟨bq,cb,sp,hc1,y1,y2,yne⟩
    ·have e0:k=0:=by rw[y0] at hk;simpa using hk
     subst e0
     simp only[y1,y2]
     repeat(refine wkB ?_;intros)
     refine jD 16 16 (h:=?_)
     (repeat(refine wkH ?_))
     refine Zo ?_
     refine Zs ?_
     repeat(refine wkB ?_;intros)
     exact Zj ⟨false,⟨(fun h=>by cases h),(fun h=>by rw[y0] at h;exact absurd h.1 (by decide))⟩⟩ trivial sbB suB
    simp only[y1,y2,Wf,Wg]
    by_cases c1:k<xs.length
    ·have hx1:=(hx.b (gi xs (k:Int)) (ZA (by omega))).c ht
     repeat(refine wkB ?_;intros)
     refine jD 16 16 (h:=?_)
     (repeat(refine wkH ?_))
     simp only[Wc (show(k:Int)<(xs.length:Nat) by omega)]
     (repeat(first|refine wkH ?_|(refine tC rfl rfl ?_ ?_;focus(exact hx1))))
     refine Zo ?_
     refine Zs ?_
     repeat(refine wkB ?_;intros)
     exact Zj ⟨decide (cl (gi xs (k:Int)) (gi l (i:Int))=0),⟨fun h=>⟨c1,Zao.1 (Wa h)⟩,fun h=>Wc (Zao.2 h.2)⟩⟩ trivial sbB suB
    ·repeat(refine wkB ?_;intros)
     refine jD 16 16 (h:=?_)
     (repeat(refine wkH ?_))
     simp only[We (show¬(k:Int)<(xs.length:Nat) by omega)]
     (repeat(refine wkH ?_))
     refine Zo ?_
     refine Zs ?_
     repeat(refine wkB ?_;intros)
     exact Zj ⟨false,⟨(fun h=>by cases h),(fun h=>absurd h.1 c1)⟩⟩ trivial sbB suB
   obtain⟨z,hz⟩:=z
   cases z with
   |true=>
    repeat(first|(refine wkB ?_;intros)|(refine wnM ?_ ?_;(focus(exact⟨by omega,by omega⟩));intros))
    have hz1:=hz.1 rfl
    have hke:=Zlb hk hno hkn
    obtain⟨q',f1,f2⟩:=SlS.turn 35 (show xs=srtR l (i+1) by rw[hnx0,insR,if_pos (by rw[<-hke];exact⟨hz1.1,Zao.2 hz1.2⟩)]) q
    exact Zg ⟨i+1,_,q'⟩ ⟨hlt,rfl⟩ (by simp only[f1];exact sbB) (by simp only[f2];exact suB) (by show l.length-(i+1)<l.length-i;omega)
   |false=>
    have hup:k<xs.length->ri (gi l (i:Int))<ri (gi xs (k:Int)):=fun h=>by
     have h1:=hkn h
     have h2:¬ri (gi xs (k:Int))=ri (gi l (i:Int)):=fun h2=>by
      have:=hz.2 ⟨h,h2⟩
      cases this
     grind
    have hke:=Zlb hk hno hkn
    have hnx1:([]++xs.take k)++[gi l (i:Int)]++xs.drop k=srtR l (i+1):=by
     rw[hnx0,insR,if_neg (fun h=>?_),<-hke]
     rw[<-hke] at h
     have h2:=hup h.1
     have h3:=Zao.1 h.2
     grind
    obtain⟨pq,cq',eq,hcq⟩:=q.form
    have hT:∀L [h:LstC w L (vSl q) Zi Zv xs],LstC w L (.slice pq k cq') Zi Zv (xs.take k):=fun L h=>⟨fun w' hw'=>by
     have:=h.out w' hw'
     rw[eq] at this
     exact this.take k hk⟩
    have hD:∀L [h:LstC w L (vSl q) Zi Zv xs],LstC w L (.slice (dropA pq cq' k 9) (xs.length-k) (cq'-k)) Zi Zv (xs.drop k):=fun L h=>⟨fun w' hw'=>by
     have:=h.out w' hw'
     rw[eq] at this
     exact this.drop k hk⟩
    have hend:∀s3:FlS Zv 9 (([]++xs.take k)++[gi l (i:Int)]++xs.drop k),∃s4:SlS Zv 9 (([]++xs.take k)++[gi l (i:Int)]++xs.drop k),vSl s4=vF s3/\mS 35 s4=mF 35 s3:=fun s3=>by
     obtain⟨s4,f1,f2⟩:=s3.sl (by simp)
     exact⟨s4,f1,f2 _⟩
    simp only[eq]
    repeat(refine wkB ?_;intros)
    refine Zad (S:=SlS Zv 9 (([]++xs.take k)++[gi l (i:Int)]++xs.drop k)) (fun _=>True) (fun s=>[(0, .slice (some ⟨bw,ow,none⟩) l.length cp),(3,vSl s),(4, .int .i64 (i:Nat))]) (fun s=>mS 35 s) ?_ (fun s _=>?_)
    ·(refine ZH (.v [1,2,3,5,6,7,8,11,12,13] (.e2 0 (.e2 4 (.e1 9 (.e1 10 (.e1 14 (.e1 15 (.fin))))) 9 (.e1 4 (.e1 10 (.e1 14 (.e1 15 (.fin)))))) 9 (.e1 0 (.e1 4 (.e1 10 (.e1 14 (.e1 15 (.fin)))))))) (([]:List Blk)) (h:=?_);refine wkX ?_)
     (repeat(first|refine wkH ?_|(refine tC rfl rfl ?_ ?_;focus(exact⟨by omega,by omega⟩))))
     refine And.intro ?_ ?_
     ·repeat(refine wkT ?_;intros)
      rename_i b0
      refine And.intro ?_ ?_
      ·refine eVF (k:=8) (enc:=Zv) (s:=FlS.em b0) (hx:=⟨rfl⟩) rfl rfl ?_ ?_ ?_
       ·rfl
       ·exact⟨by simp only[Wt,Wx];omega,by simp only[Wt,Wx];omega⟩
       intro s1
       repeat(refine wkT ?_;intros)
       refine eVF rfl rfl ?_ ?_ ?_
       ·rfl
       ·exact⟨by simp only[Wp,Wt,Wx,Wu];omega,by simp only[Wp,Wt,Wx,Wu];omega⟩
       intro s2
       refine eVF rfl rfl ?_ ?_ ?_
       ·rfl
       ·exact⟨by simp only[Wp,Wt,List.length_drop,Wx,Wu];omega,by simp only[Wp,Wt,List.length_drop,Wx,Wu];omega⟩
       intro s3
       repeat(refine wkT ?_;intros)
       repeat(refine wkB ?_;intros)
       obtain⟨s4,f1,f2⟩:=hend s3
       exact Zj s4 trivial (by simp only[f1];exact sbB) (by rw[f2];exact suB)
      ·repeat(refine wkT ?_;intros)
       refine eVF (k:=8) (enc:=Zv) (s:=FlS.em b0) (hx:=⟨rfl⟩) rfl rfl ?_ ?_ ?_
       ·rfl
       ·exact⟨by simp only[Wt,Wx];omega,by simp only[Wt,Wx];omega⟩
       intro s1
       refine eVF rfl rfl ?_ ?_ ?_
       ·rfl
       ·exact⟨by simp only[Wp,Wt,Wx,Wu];omega,by simp only[Wp,Wt,Wx,Wu];omega⟩
       intro s2
       refine eVF rfl rfl ?_ ?_ ?_
       ·rfl
       ·exact⟨by simp only[Wp,Wt,List.length_drop,Wx,Wu];omega,by simp only[Wp,Wt,List.length_drop,Wx,Wu];omega⟩
       intro s3
       repeat(refine wkT ?_;intros)
       repeat(refine wkB ?_;intros)
       obtain⟨s4,f1,f2⟩:=hend s3
       exact Zj s4 trivial (by simp only[f1];exact sbB) (by rw[f2];exact suB)
     ·repeat(refine wkT ?_;intros)
      rename_i b0
      refine eVF (k:=8) (enc:=Zv) (s:=FlS.em b0) (hx:=⟨rfl⟩) rfl rfl ?_ ?_ ?_
      ·rfl
      ·exact⟨by simp only[Wt,Wx];omega,by simp only[Wt,Wx];omega⟩
      intro s1
      refine eVF rfl rfl ?_ ?_ ?_
      ·rfl
      ·exact⟨by simp only[Wp,Wt,Wx,Wu];omega,by simp only[Wp,Wt,Wx,Wu];omega⟩
      intro s2
      refine eVF rfl rfl ?_ ?_ ?_
      ·rfl
      ·exact⟨by simp only[Wp,Wt,List.length_drop,Wx,Wu];omega,by simp only[Wp,Wt,List.length_drop,Wx,Wu];omega⟩
      intro s3
      repeat(refine wkT ?_;intros)
      repeat(refine wkB ?_;intros)
      obtain⟨s4,f1,f2⟩:=hend s3
      exact Zj s4 trivial (by simp only[f1];exact sbB) (by rw[f2];exact suB)
    ·repeat(first|(refine wkB ?_;intros)|(refine wnM ?_ ?_;(focus(exact⟨by omega,by omega⟩));intros))
     obtain⟨q',f1,f2⟩:=SlS.turn 35 hnx1 s
     exact Zg ⟨i+1,_,q'⟩ ⟨hlt,rfl⟩ (by simp only[f1];exact sbB) (by simp only[f2];exact suB) (by show l.length-(i+1)<l.length-i;omega)
 ·have hge:i=l.length:=by have:=Wb h;omega
  obtain⟨q',f1,f2⟩:=SlS.turn 35 (hfin hge) q
  repeat(refine wkB ?_;intros)
  exact ZB rfl rfl (fun w hw=>⟨q',by show Ending.returned _=Ending.returned (vSl q');rw[f1],by show Own _ (mS _ q') _;rw[f2];exact hw.sub suB⟩)
instance Zuf (w0:World)(L:List Blk)(v:Value)(l:List Zi)[h:LstC w0 L v Zi Zv l]:SpecR prog w0 L 113 [v] (SlS Zv 9 (srtR l l.length)) (fun q=>vSl q) (fun q=>mS 35 q) (l.length<=1048576/\∀x∈l,RtB x):=⟨fun hp w hw=>Zhd v l w (h.out w hw) hp.1 hp.2⟩
end
section
def enL (l:List Za):Nat->List Zi
 |0=>[]
 |m+1=>enL l m++[(gi l (m:Int)).From,(gi l (m:Int)).To]
theorem Zdq (l:List Za):∀m,(enL l m).length=2*m
 |0=>rfl
 |m+1=>by rw[enL,Wp,Zdq l m];simp;omega
theorem Zif {l:List Za}(h:∀i∈l,IvOk B28 i):∀m,m<=l.length->∀x∈enL l m,RtB x
 |0,_,x,hx=>by cases hx
 |m+1,hm,x,hx=>by
  have h1:=h (gi l (m:Int)) (ZA (by omega))
  rw[enL,Wv] at hx
  rcases hx with hx|hx
  ·exact Zif h m (by omega) x hx
  ·simp only[Ww,List.not_mem_nil,or_false] at hx
   rcases hx with rfl|rfl
   ·exact h1.f
   ·exact h1.t
noncomputable def enR (l:List Za):List Rl:=srtR (enL l l.length) (enL l l.length).length
theorem Zec {l:List Za}(h:∀i∈l,IvOk B28 i):SrR (2*l.length) (enR l):=by
 have h1:=ZeF (Zif h l.length (Wl _)) _ (Wl _)
 exact h1.mono (Nat.le_of_eq (Zdq l l.length))
set_option maxHeartbeats 8000000 in
theorem Zlg (v:Value)(l:List Za)(w:World)(hv:ArgS w v rI l)(hl:l.length<=65536)(hb:∀i∈l,IvOk B28 i):
  Calls prog 68 [v].toArray w (RetM (SlS Zv 9 (enR l)) (fun q=>vSl q) (fun q=>mS 35 q) w):=by
 obtain⟨p,cp,rfl⟩:=hv.form
 refine Zb Tryz.func68 rfl Tryz.ntmps68 rfl ?_
 repeat(refine wkB ?_;intros)
 refine Zad (S:=SlS Zv 9 (enL l l.length)) (fun _=>True) (fun q=>[(3,vSl q)]) (fun q=>mS 35 q) ?_ (fun q _=>?_)
 ·refine Zq (S:=(i:Nat)×SlS Zv 9 (enL l i)) (fun q=>q.1<=l.length) (fun q=>[(0, .slice p l.length cp),(3,vSl q.2),(4, .int .i64 (q.1:Nat))]) (fun q=>mS 35 q.2) (fun q=>l.length-q.1) ⟨0,SlS.no⟩ (Wm _) sbB suB (fun q hq=>?_)
  obtain⟨i,q⟩:=q
  simp only at hq q⊢
  have hel:=Zdq l i
  repeat(refine wkB ?_;intros)
  refine Zk rfl (fun h=>?_) (fun h=>?_)
  ·have hlt:i<l.length:=by have:=Wa h;omega
   obtain⟨bw,ow,rfl,hrow'⟩:=hv.opn (k:=19) hlt
   repeat(refine wkB ?_;intros)
   (refine ZH (.v [0,1,2,3,4,5,6,7,8,9,10] (.e1 11 (.e1 12 (.e1 13 (.fin))))) (([]:List Blk)) (h:=?_);refine wkX ?_)
   (repeat(refine wkH ?_))
   repeat(refine wkT ?_;intros)
   refine eU (k:=9) (enc:=Zv) (s:=q) rfl rfl ?_ ?_ ?_ ?_
   ·rfl
   ·rfl
   ·exact⟨by decide,by omega,by omega⟩
   intro s'
   repeat(refine wkT ?_;intros)
   repeat(first|(refine wkB ?_;intros)|(refine wnM ?_ ?_;(focus(exact⟨by omega,by omega⟩));intros))
   exact Zg ⟨i+1,s'⟩ hlt sbB suB (by show l.length-(i+1)<l.length-i;omega)
  ·have hge:i=l.length:=by have:=Wb h;omega
   subst hge
   repeat(refine wkB ?_;intros)
   exact Zj q trivial sbB suB
 ·have hel:=Zdq l l.length
  have hs:(enL l l.length).length<=1048576/\∀x∈enL l l.length,RtB x:=⟨by omega,Zif hb _ (Wl _)⟩
  repeat(first|(refine wkB ?_;intros)|(refine wnM ?_ ?_;(focus(exact hs));intros))
  rename_i q2
  exact ZB rfl rfl (fun w hw=>⟨q2,rfl,hw.sub suB⟩)
instance Zyt (w0:World)(L:List Blk)(v:Value)(l:List Za)[h:LstC w0 L v Za rI l]:SpecR prog w0 L 68 [v] (SlS Zv 9 (enR l)) (fun q=>vSl q) (fun q=>mS 35 q) (l.length<=65536/\∀i∈l,IvOk B28 i):=⟨fun hp w hw=>Zlg v l w (h.out w hw) hp.1 hp.2⟩
end
end Go.Vt
