/- that the gaps between reports are those of the chain (part 13 of 32.) Conditions: those that each statement names. -/
import Derived.RangeFuncNested
import Derived.OrdersIn
import Derived.RangeFuncBox
import Derived.Test.YtjicdlilgjdefaaGreatDoorKG10
import Derived.Test.YtjicdlilgjdefaaGreatDoorKG12
set_option linter.unusedSimpArgs false
set_option linter.unusedVariables false
set_option maxHeartbeats 2000000
set_option maxRecDepth 100000
set_option linter.unusedSectionVars false
namespace Go.Vt
open Go.RowKit Go.Proofs
open Go.Proofs.Tryz (prog)
section
def swpRp (xs:List Zb)(j:Nat):List Zb:=(xs.set (j+1) (gi xs (j:Int))).set j (gi xs ((j+1:Nat):Int))
def dwnRp (xs:List Zb):Nat->List Zb
 |0=>xs
 |j+1=>if cmpRp (gi xs ((j+1:Nat):Int)) (gi xs (j:Int))<0 then dwnRp (swpRp xs j) j else xs
def srtRp (xs:List Zb):Nat->List Zb
 |0=>xs
 |i+1=>dwnRp (srtRp xs i) (i+1)
theorem ZfN (xs:List Zb)(j:Nat):(swpRp xs j).length=xs.length:=by simp[swpRp]
theorem Ziv {xs:List Zb}{j:Nat}(h:j+1<xs.length){u:Zb}(hu:u∈swpRp xs j):u∈xs:=by
 unfold swpRp at hu
 rcases List.mem_or_eq_of_mem_set hu with h1|h1
 ·rcases List.mem_or_eq_of_mem_set h1 with h2|h2
  ·exact h2
  ·rw[h2,Zj (by omega)]
   exact List.getElem_mem _
 ·rw[h1,Zj h]
  exact List.getElem_mem _
theorem Zjc :∀(j:Nat)(xs:List Zb),(dwnRp xs j).length=xs.length
 |0,_=>rfl
 |j+1,xs=>by
  rw[dwnRp]
  split
  ·rw[Zjc j,ZfN]
  ·rfl
theorem ZiU :∀(j:Nat)(xs:List Zb),j<xs.length->∀u∈dwnRp xs j,u∈xs
 |0,_,_,_,h=>h
 |j+1,xs,hj,u,h=>by
  rw[dwnRp] at h
  split at h
  ·exact Ziv hj (ZiU j _ (by rw[ZfN];omega) u h)
  ·exact h
theorem Zdv (xs:List Zb):∀i,(srtRp xs i).length=xs.length
 |0=>rfl
 |i+1=>by rw[srtRp,Zjc,Zdv xs i]
theorem ZiF (xs:List Zb):∀i,i<xs.length->∀u∈srtRp xs i,u∈xs
 |0,_,_,h=>h
 |i+1,hi,u,h=>by
  rw[srtRp] at h
  exact ZiF xs i (by omega) u (ZiU _ _ (by rw[Zdv];exact hi) u h)
theorem ZnB (w0 w:World)(L1:List Blk)(b c n:Nat)(xs:List Zb)(sp:List Value)(T:TypeId)(hn:xs.length=n)(hl:n<=1048576)(hok:∀u∈xs,RpOk u)(hw:Own w0 (⟨b,row Zd xs sp,T⟩::L1) w):
  Calls prog 248 [.slice (some ⟨b,0,none⟩) n c, .int .i64 0, .int .i64 n,vFn 98].toArray w (RetX w0 Unit (fun _=> .tuple #[]) (fun _=>⟨b,row Zd (srtRp xs (n-1)) sp,T⟩::L1)):=by
 refine ZY Tryz.func248 rfl Tryz.ntmps248 rfl hw ?_
 repeat(refine wkB ?_;intros)
 refine Zm (S:=Nat) (fun m=>m<=n-1) (fun m=>[(0, .slice (some ⟨b,0,none⟩) n c),(1, .int .i64 0),(2, .int .i64 n),(3,vFn 98),(8, .int .i64 ((m+1:Nat)))]) (fun m=>⟨b,row Zd (srtRp xs m) sp,T⟩::L1) (fun m=>n-1-m) 0 (Wm _) sbB slB (fun m hm=>?_)
 have hsl:=Zdv xs m
 repeat(refine wkB ?_;intros)
 refine Zl rfl (fun h=>?_) (fun h=>?_)
 ·have hlt:m+1<n:=by have:=Wa h;omega
  have hmem:=ZiF xs m (by omega)
  repeat(refine wkB ?_;intros)
  refine Zm (S:=Nat×List Zb) (fun s=>dwnRp s.2 s.1=srtRp xs (m+1)/\s.2.length=n/\s.1<=m+1/\∀u∈s.2,RpOk u) (fun s=>[(0, .slice (some ⟨b,0,none⟩) n c),(1, .int .i64 0),(2, .int .i64 n),(3,vFn 98),(8, .int .i64 ((m+1:Nat))),(9, .int .i64 ((s.1:Nat)))]) (fun s=>⟨b,row Zd s.2 sp,T⟩::L1) (fun s=>s.1) (m+1,srtRp xs m)
   ⟨rfl,by show(srtRp xs m).length=n;omega,Wl _,fun u hu=>hok u (hmem u hu)⟩ sbB slB (fun s hs=>?_)
  obtain⟨j,ys⟩:=s
  obtain⟨g1,g2,g3,g4⟩:=hs
  simp only at g1 g2 g3 g4⊢
  repeat(refine wkB ?_;intros)
  rcases j with _|j
  ·(refine jD 17 17 (h:=?_);(repeat(refine wkH ?_));refine Zn ?_;(repeat(refine Z4 ?_;intro _));refine Zr ?_)
   repeat(refine wkB ?_;intros)
   exact Zh (m+1) (by omega) sbB (by rw[<-g1];exact Wj _) (by omega)
  ·have hj1:((j:Int)).toNat<ys.length:=by omega
   have hj2:(((j+1:Nat):Int)).toNat<ys.length:=by omega
   have e1:((j+1:Nat):Int)-1=(j:Int):=by omega
   have o1:=g4 _ (by rw[Zj (show j<ys.length by omega)];exact List.getElem_mem _:gi ys (j:Int)∈ys)
   have o2:=g4 _ (by rw[Zj (show j+1<ys.length by omega)];exact List.getElem_mem _:gi ys ((j+1:Nat):Int)∈ys)
   rw[dwnRp] at g1
   refine jD 17 17 (h:=?_)
   (repeat(refine wkH ?_))
   simp only[Wc (show(0:Int)<((j+1:Nat):Int) by omega),e1]
   (repeat(refine wkH ?_))
   simp only[e1]
   (repeat(first|refine wkH ?_|(refine tC rfl rfl ?_ ?_;focus(exact⟨o2,o1⟩))))
   refine Zn ?_
   refine Zr ?_
   repeat(refine wkB ?_;intros)
   by_cases hc:cmpRp (gi ys ((j+1:Nat):Int)) (gi ys (j:Int))<0
   ·rw[if_pos hc] at g1
    simp only[Wc hc]
    repeat(refine wkB ?_;intros)
    (refine Zfc [(true,[0,1,2,3,4,5,6,7,8]),(false,[9]),(true,[10,11,12]),(false,[13]),(true,[14])] [15,16,17] (h:=?_);refine wkS ?_)
    (repeat(refine wkH ?_))
    simp only[e1]
    refine Zn ?_
    refine eR rfl ?_ ?_
    ·omega
    refine uS rfl rfl ?_ ?_
    ·omega
    refine eR rfl ?_ ?_
    ·rw[List.length_set];omega
    refine Zba ?_
    simp only[Int.toNat_natCast]
    repeat(first|(refine wkB ?_;intros)|(refine wnM ?_ ?_;(focus(exact⟨by omega,by omega⟩));intros))
    simp only[e1]
    exact Zh (j,swpRp ys j) ⟨g1,by rw[ZfN];exact g2,by omega,fun u hu=>g4 u (Ziv (by omega) hu)⟩ sbB slB (by show j<j+1;omega)
   ·rw[if_neg hc] at g1
    simp only[We hc]
    repeat(first|(refine wkB ?_;intros)|(refine wnM ?_ ?_;(focus(exact⟨by omega,by omega⟩));intros))
    exact Zh (m+1) (by omega) sbB (by rw[<-g1];exact Wj _) (by omega)
 ·have hge:m=n-1:=by have:=Wb h;omega
  subst hge
  repeat(refine wkB ?_;intros)
  exact Zaj rfl (fun w hw=>⟨(),rfl,hw⟩)
abbrev SrtSRp (xs:List Zb)(s:SlS Zd 8 xs):Type:={s':SlS Zd 8 (srtRp xs (xs.length-1)) // vSl s'=vSl s}
theorem ZlH (w0 w:World)(L L1:List Blk)(xs:List Zb)(s:SlS Zd 8 xs)(T:TypeId)[hd:OwnS T s L L1](hl:xs.length<=1048576)(hok:∀u∈xs,RpOk u)(hw:Own w0 L w):
  Calls prog 248 [vSl s, .int .i64 0, .int .i64 xs.length,vFn 98].toArray w (RetX w0 (SrtSRp xs s) (fun _=> .tuple #[]) (fun s'=>mS T s'.1++L1)):=by
 have hw1:=hw.perm hd.out
 rcases s.cases T with⟨rfl,hv,hm⟩|⟨b,c,sp,h1,hv,hm,hne⟩
 ·suffices h:Calls prog 248 [.slice none 0 0, .int .i64 0, .int .i64 (([]:List Zb).length:Nat),vFn 98].toArray w (RetX w0 (SrtSRp [] s) (fun _=> .tuple #[]) (fun s'=>mS T s'.1++L1)) by
   rw[<-hv] at h
   exact h
  refine ZY Tryz.func248 rfl Tryz.ntmps248 rfl hw1 ?_
  repeat(refine wkB ?_;intros)
  refine Zm (S:=Unit) (fun _=>True) (fun _=>[(2, .int .i64 (([]:List Zb).length:Nat)),(8, .int .i64 1)]) (fun _=>mS T s++L1) (fun _=>0) () trivial sbB slB (fun _ _=>?_)
  repeat(refine wkB ?_;intros)
  simp only[We (show¬(1:Int)<((([]:List Zb).length:Nat):Int) by simp)]
  repeat(refine wkB ?_;intros)
  exact Zaj rfl (fun w hw=>⟨⟨s,rfl⟩,rfl,hw⟩)
 ·suffices h:Calls prog 248 [.slice (some ⟨b,0,none⟩) xs.length c, .int .i64 0, .int .i64 xs.length,vFn 98].toArray w (RetX w0 (SrtSRp xs s) (fun _=> .tuple #[]) (fun s'=>mS T s'.1++L1)) by
   rw[<-hv] at h
   exact h
  rw[hm] at hw1
  have hsl:=Zdv xs (xs.length-1)
  refine(ZnB w0 w L1 b c xs.length xs sp T rfl hl hok hw1).mono fun e w' ⟨_,he,hw'⟩=>?_
  exact⟨⟨SlS.at_ b c sp (by rw[hsl];exact h1) (fun h0=>hne (List.length_eq_zero_iff.1 (by rw[h0,Wx] at hsl;exact hsl.symm))),by rw[hv];show Value.slice _ (srtRp xs (xs.length-1)).length c=_;rw[hsl]⟩,he,hw'⟩
instance ZGw (w0:World)(L L1:List Blk)(xs:List Zb)(s:SlS Zd 8 xs)(T:TypeId)[hd:OwnS T s L L1]:SpecX prog w0 L 248 [vSl s, .int .i64 0, .int .i64 xs.length,vFn 98] (SrtSRp xs s) (fun _=> .tuple #[]) (fun s'=>mS T s'.1++L1) (xs.length<=1048576/\∀u∈xs,RpOk u):=⟨fun hp w hw=>ZlH w0 w L L1 xs s T hp.1 hp.2 hw⟩
end
section
theorem Zoc (w0 w:World)(L L1:List Blk)(xs:List Zb)(s:SlS Zd 8 xs)(T:TypeId)(lim:Int)[hd:OwnS T s L L1](hl:xs.length<=12)(hok:∀u∈xs,RpOk u)(hw:Own w0 L w):
  Calls prog 203 [vSl s, .int .i64 0, .int .i64 xs.length, .int .i64 lim,vFn 98].toArray w (RetX w0 (SrtSRp xs s) (fun _=> .tuple #[]) (fun s'=>mS T s'.1++L1)):=by
 refine ZY Tryz.func203 rfl Tryz.ntmps203 rfl hw ?_
 repeat(refine wkB ?_;intros)
 refine Zm (S:=Unit) (fun _=>True) (fun _=>[(0,vSl s),(1, .int .i64 0),(2, .int .i64 xs.length),(3, .int .i64 lim),(4,vFn 98),(10, .bool true),(11, .bool true)]) (fun _=>L) (fun _=>0) () trivial sbB slB (fun _ _=>?_)
 repeat(refine wkB ?_;intros)
 simp only[Wc (show(xs.length:Int)-0<=12 by omega)]
 repeat(refine wkB ?_;intros)
 refine sZ rfl rfl ?_ ?_
 ·exact⟨by omega,hok⟩
 intro s'
 repeat(refine wkB ?_;intros)
 exact ZcG rfl (fun w hw=>⟨s',rfl,hw⟩)
instance ZFd (w0:World)(L L1:List Blk)(xs:List Zb)(s:SlS Zd 8 xs)(T:TypeId)(lim:Int)[hd:OwnS T s L L1]:SpecX prog w0 L 203 [vSl s, .int .i64 0, .int .i64 xs.length, .int .i64 lim,vFn 98] (SrtSRp xs s) (fun _=> .tuple #[]) (fun s'=>mS T s'.1++L1) (xs.length<=12/\∀u∈xs,RpOk u):=⟨fun hp w hw=>Zoc w0 w L L1 xs s T lim hp.1 hp.2 hw⟩
theorem ZlQ (w0 w:World)(L L1:List Blk)(xs:List Zb)(s:SlS Zd 8 xs)(T:TypeId)[hd:OwnS T s L L1](hl:xs.length<=12)(hok:∀u∈xs,RpOk u)(hw:Own w0 L w):
  Calls prog 151 [vSl s,vFn 98].toArray w (RetX w0 (SrtSRp xs s) (fun _=> .tuple #[]) (fun s'=>mS T s'.1++L1)):=by
 refine ZY Tryz.func151 rfl Tryz.ntmps151 rfl hw ?_
 repeat(first|(refine wkB ?_;intros)|(refine wnM ?_ ?_;(focus(omega));intros))
 refine sZ rfl rfl ?_ ?_
 ·exact⟨hl,hok⟩
 intro s'
 repeat(refine wkB ?_;intros)
 exact Zaj rfl (fun w hw=>⟨s',rfl,hw⟩)
instance ZCp (w0:World)(L L1:List Blk)(xs:List Zb)(s:SlS Zd 8 xs)(T:TypeId)[hd:OwnS T s L L1]:SpecX prog w0 L 151 [vSl s,vFn 98] (SrtSRp xs s) (fun _=> .tuple #[]) (fun s'=>mS T s'.1++L1) (xs.length<=12/\∀u∈xs,RpOk u):=⟨fun hp w hw=>ZlQ w0 w L L1 xs s T hp.1 hp.2 hw⟩
end
end Go.Vt
namespace Go.Vt
open Go.RowKit
def Fr (r:Option Nat):Fence:={Fence.wide with round:=r}
section
variable {P : Program} {w0 : World} {n : Nat} {ops : Array Oper} {L : List Blk} {E : Env} {Q : Exit -> Act -> World -> Prop} {r : Option Nat} {N : Nat}
def noDef (o:Oper):Bool:=match o.op with
 | .defer _=>false
 |_=>true
theorem ZdW {o:Oper}(h:noDef o=true)(c:Call):o.op≠ .defer c:=fun e=>by
 unfold noDef at h
 rw[e] at h
 cases h
theorem callsI {f:FuncId}{args:Array Value}{w:World}{R:Ending->World->Prop}(h:Calls P f args w R):CallsIn (Fr r) N P f args w R:=(callsIn_wide (n:=N)).2 h
theorem callsO {f:FuncId}{args:Array Value}{w:World}{R:Ending->World->Prop}(h:CallsIn (Fr r) N P f args w R):Calls P f args w R:=(callsIn_wide (n:=N)).1 h
def NoOut (Q:Exit->Act->World->Prop):Prop:=∀a w,¬Q .outgrown a w
theorem Zuf {o:Oper}{a:Act}{K:Act->World->Prop}{res:Result Next}(h:o.upon P a K Q res):o.uponIn (Fr r) N P a K Q res:=by
 cases res with
 |ok x w'=>
  cases x <;> simp only[Oper.upon] at h <;> simp only[Oper.uponIn]
  case value=>exact h
  case skip=>exact h
  case defer=>exact h
  case enter=>exact⟨(fun hd=>by cases hd),callsI h⟩
  case row=>exact⟨(fun hd=>by cases hd),fun c cs _=>let ⟨v,w',r,s⟩:=h c cs;⟨v,w',r,stepsIn_wide.2 s⟩⟩
 |halt x w'=>cases x <;> simp only[Oper.upon] at h <;> simp only[Oper.uponIn] <;> exact h
theorem Zpd {o:Oper}{a:Act}{w:World}{K:Act->World->Prop}(hd:noDef o=true)(h:o.wp P a w K Q):o.wpIn (Fr r) N P a w K Q:=by
 refine⟨fun f _=>trivial, ?_⟩
 rw[Oper.semAt_eq _ _ _ (ZdW hd)]
 exact Zuf h
theorem Zfr (hQ:NoOut Q):∀(l:List Oper)(a:Act)(w:World),l.all noDef=true->wpList P ops Q l a w->wpListIn (Fr r) N P ops Q l a w
 |[],_,_,_,h=>h
 |o::l,a,w,hd,h=>by
  simp only[List.all_cons,Wq] at hd
  simp only[wpList] at h
  simp only[wpListIn]
  split at h
  ·rename_i hw
   rw[if_pos hw]
   rcases h with h|⟨_,a0,w0,h⟩
   ·exact Oper.wpIn_mono (fun a w h=>Zfr hQ l a w hd.2 h) (Zpd hd.1 h)
   ·exact(hQ _ _ h).elim
  ·rename_i hw
   rw[if_neg hw]
   exact⟨fun f _=>trivial,Zfr hQ l _ _ hd.2 h⟩
structure JOI (r:Option Nat)(N:Nat)(P:Program)(w0:World)(n:Nat)(ops:Array Oper)(Q:Exit->Act->World->Prop)(l:List Oper)(E:Env)(L:List Blk):Prop where
 out:∀a w,Rep n E a->Own w0 L w->wpListIn (Fr r) N P ops Q l a w
structure JI (r:Option Nat)(N:Nat)(P:Program)(w0:World)(n:Nat)(c:Code)(Q:Exit->Act->World->Prop)(E:Env)(L:List Blk):Prop where
 out:∀a w,Rep n E a->Own w0 L w->c.wpIn (Fr r) N P Q a w
theorem Zbn {l:List Oper}(hQ:NoOut Q)(hd:l.all noDef=true)(h:JO P w0 n ops Q l E L):JOI r N P w0 n ops Q l E L:=⟨fun a w ha hw=>Zfr hQ l a w hd (h.out a w ha hw)⟩
def ThenI (r:Option Nat)(N:Nat)(P:Program)(c:Code)(Q:Exit->Act->World->Prop):Exit->Act->World->Prop:=Exit.then (c.wpIn (Fr r) N P Q) Q
theorem ZaX {l:List Oper}{id:Nat}(h:JOI r N P w0 n l.toArray Q l E L):JI r N P w0 n (.region id l.toArray false) Q E L:=⟨fun a w ha hw=>wpIn_region_lit (h.out a w ha hw)⟩
theorem Zay {x y:Code}(h:JI r N P w0 n x (ThenI r N P y Q) E L):JI r N P w0 n (.seq x y) Q E L:=⟨fun a w ha hw=>wpIn_seq (h.out a w ha hw)⟩
theorem ZdL (h:JX w0 n .normal Q E L):JI r N P w0 n .skip Q E L:=⟨fun a w ha hw=>wpIn_skip (h.out a w ha hw)⟩
theorem ZjN (h:JX w0 n .ret Q E L):JI r N P w0 n .ret Q E L:=⟨fun a w ha hw=>wpIn_ret (h.out a w ha hw)⟩
theorem Zip {id:Nat}(h:JX w0 n (.exit id) Q E L):JI r N P w0 n (.exit id) Q E L:=⟨fun a w ha hw=>wpIn_exit (h.out a w ha hw)⟩
theorem Za6 {id:Nat}{c:Code}(h:JI r N P w0 n c (Exit.inBlock id Q) E L):JI r N P w0 n (.block id c) Q E L:=⟨fun a w ha hw=>wpIn_block (h.out a w ha hw)⟩
theorem Zbs {c:Operand}{x y:Code}{t:Bool}(hc:Env.ev E c=some (.bool t))(ht:t=true->JI r N P w0 n x Q E L)(hf:t=false->JI r N P w0 n y Q E L):JI r N P w0 n (.cond c x y) Q E L:=⟨fun a w ha hw=>by
 cases t with
 |true=>exact wpIn_cond_true (ha.ev hc) ((ht rfl).out a w ha hw)
 |false=>exact wpIn_cond_false (ha.ev hc) ((hf rfl).out a w ha hw)⟩
theorem Zad {y:Code}(h:JI r N P w0 n y Q E L):JX w0 n .normal (ThenI r N P y Q) E L:=⟨h.out⟩
theorem Zdy {y:Code}{id:Nat}(h:JX w0 n (.exit id) Q E L):JX w0 n (.exit id) (ThenI r N P y Q) E L:=⟨h.out⟩
theorem ZcB {c:Code}(h:J P w0 n c Q E L):JI none N P w0 n c Q E L:=⟨fun a w ha hw=>wpIn_wide.2 (h.out a w ha hw)⟩
def LoopI {S:Type}(n:Nat)(I:S->World->Prop)(Es:S->Env)(mu:S->Nat)(s:S)(Q:Exit->Act->World->Prop):Exit->Act->World->Prop
 | .normal,a,w=>∃t,I t w/\Rep n (Es t) a/\mu t<mu s
 |e,a,w=>Q e a w
theorem ZhN {S:Type}(I:S->World->Prop)(Es:S->Env)(mu:S->Nat)(s0:S){c:Code}(h0:∀w,Own w0 L w->I s0 w)(hE:Sub E (Es s0))
  (round:∀s w1,I s w1->JI r N P w1 n c (LoopI n I Es mu s Q) (Es s) []):JI r N P w0 n (.loop c) Q E L:=by
 refine⟨fun a w ha hw=>?_⟩
 have hmin:∀(a:Act)(w:World),(∃s,I s w/\Rep n (Es s) a)->∃s,(I s w/\Rep n (Es s) a)/\∀t,(I t w/\Rep n (Es t) a)->mu s<=mu t:=by
  intro a w ⟨s,hs⟩
  obtain⟨k,⟨t,ht,hk⟩,hm⟩:=least (fun k=>∃t,(I t w/\Rep n (Es t) a)/\mu t=k) (mu s) ⟨s,hs,rfl⟩
  exact⟨t,ht,fun t' ht'=>by rw[hk];exact hm _ ⟨t',ht',rfl⟩⟩
 classical
 let pick:Act->World->Nat:=fun a w=>if h:∃s,I s w/\Rep n (Es s) a then mu (Classical.choose (hmin a w h)) else 0
 refine wpIn_loop (fun a w=>∃s,I s w/\Rep n (Es s) a) pick ⟨s0,h0 w hw,ha.sub hE⟩ fun a' w' hI=>?_
 have hsp:=Classical.choose_spec (hmin a' w' hI)
 have hr:=(round _ _ hsp.1.1).out a' w' hsp.1.2 (Own.start w')
 refine wpIn_mono hr fun e a2 w2 hq=>?_
 cases e with
 |normal=>
  obtain⟨t,ht,hr2,hlt⟩:=hq
  refine⟨⟨t,ht,hr2⟩, ?_⟩
  have hex:∃s,I s w2/\Rep n (Es s) a2:=⟨t,ht,hr2⟩
  have h2:=(Classical.choose_spec (hmin a2 w2 hex)).2 t ⟨ht,hr2⟩
  simp only[pick,dif_pos hex,dif_pos hI]
  omega
 |_=>exact hq
theorem Zg3 {S:Type}{I:S->World->Prop}{Es:S->Env}{mu:S->Nat}{s:S}(t:S)(ht:∀w,Own w0 L w->I t w)(hE:Sub E (Es t))(hmu:mu t<mu s):JX w0 n .normal (LoopI n I Es mu s Q) E L:=
 ⟨fun _ w ha hw=>⟨t,ht w hw,ha.sub hE,hmu⟩⟩
theorem ZdZ {S:Type}{I:S->World->Prop}{Es:S->Env}{mu:S->Nat}{s:S}(h:JX w0 n .ret Q E L):JX w0 n .ret (LoopI n I Es mu s Q) E L:=⟨h.out⟩
theorem Zdw {S:Type}{I:S->World->Prop}{Es:S->Env}{mu:S->Nat}{s:S}{id:Nat}(h:JX w0 n (.exit id) Q E L):JX w0 n (.exit id) (LoopI n I Es mu s Q) E L:=⟨h.out⟩
theorem ZfB {l:Nat}{args:Array Value}{o:Oper}{rest:List Oper}{R:Ending->World->Prop}(hg:guardB ops E o.guard=some true)(hd:dstOk n o.dst=true)(hdef:noDef o=true)
  (hr:∀a w,Rep n E a->(execOp a.eval o).run P w=(Instr.yield l args).run P w)
  (hY:∀w,Own w0 L w->YieldAt (Fr r) (N-1) P l args w R)
  (h:∀e w',R e w'->∃v,e= .returned v/\JOI r N P w' n ops Q rest (Env.put E o.dst v) []):JOI r N P w0 n ops Q (o::rest) E L:=by
 refine⟨fun a w ha hw=>?_⟩
 obtain⟨fn,tmps,assign,body,hy,hR⟩:=hY w hw
 refine wpListIn_step fun K hK=>?_
 rw[if_pos (ZaP ha hg)]
 refine⟨fun f _=>trivial, ?_⟩
 rw[Oper.semAt_eq _ _ _ (ZdW hdef),hr a w ha,hy]
 refine⟨(fun hd=>by cases hd),hR.mono fun e w' he=>?_⟩
 obtain⟨v,rfl,hj⟩:=h e w' he
 exact hK _ _ (hj.out _ _ (ha.put _ _ hd) (Own.start w'))
theorem ZfA {l:Nat}{g:Operand}{xs:List Operand}{vs:List Value}{ats:Array TypeId}{a:Act}{w:World}{d:Option Tmp}{ty:TypeId}{pos:String}{aft:Array Edge}{gd:Option (Nat×Bool)}(ha:Rep n E a)(hg:Env.ev E g=some (.func (.yield l) #[] #[]))(hl:Env.evs E xs=some vs):
  (execOp a.eval ⟨d, .call ⟨.value g,xs.toArray,ats⟩,ty,pos,aft,gd⟩).run P w=(Instr.yield l vs.toArray).run P w:=by
 have h1:xs.toArray.map a.eval=vs.toArray:=by rw[<-ha.evs xs vs hl];simp
 simp only[execOp,resolve,h1,ha.ev hg,Deferred.ofValue,Sem.run_bind,Sem.run_pure,Result.andThen,invoke]
 rw[show(#[]++vs.toArray:Array Value)=vs.toArray from Array.empty_append]
theorem Zfx {f:FuncId}{fn:Func}{c:Code}{l:List Value}{w:World}{R:Ending->World->Prop}(hf:P.funcs[f]? =some fn)(hb:fn.body=some c)(hn:fn.ntmps=n)(hl:Nat.ble l.length n=true)[hE:EnvC l E]
  (h:JI none N P w n c (bodyPost P fn R) E []):CallsIn (Fr none) N P f l.toArray w R:=by
 rw[<-hE.out] at h
 have hl':l.length<=n:=Nat.le_of_ble_eq_true hl
 refine callsIn_of_wp hf hb trivial (h.out _ _ ⟨by simp[hn];omega,rfl,fun k v hk=>?_⟩ (Own.start w))
 obtain⟨_,h2⟩:=ZcT l 0 k v hk
 have hlt:k<l.length:=by
  rcases Nat.lt_or_ge k l.length with h'|h'
  ·exact h'
  ·simp[List.getElem?_eq_none h'] at h2
 simp only[Nat.sub_zero] at h2
 rw[Array.getElem?_append_left (by simpa using hlt)]
 simpa using h2
theorem ZfG {f:FuncId}{fn:Func}{c:Code}{l:List Value}{w:World}{R:Ending->World->Prop}(hf:P.funcs[f]? =some fn)(hb:fn.body=some c)(hn:fn.ntmps=n)(hl:Nat.ble l.length n=true)[hE:EnvC l E]
  (h:JI none N P w n c (bodyPostM (Fr none) N P fn R) E []):Calls P f l.toArray w R:=by
 rw[<-hE.out] at h
 have hl':l.length<=n:=Nat.le_of_ble_eq_true hl
 refine callsO (r:=none) (N:=N) (callsIn_of_wp_marks hf hb trivial (h.out _ _ ⟨by simp[hn];omega,rfl,fun k v hk=>?_⟩ (Own.start w)))
 obtain⟨_,h2⟩:=ZcT l 0 k v hk
 have hlt:k<l.length:=by
  rcases Nat.lt_or_ge k l.length with h'|h'
  ·exact h'
  ·simp[List.getElem?_eq_none h'] at h2
 simp only[Nat.sub_zero] at h2
 rw[Array.getElem?_append_left (by simpa using hlt)]
 simpa using h2
end
end Go.Vt
namespace Go.Vt
open Go.RowKit
open Go.ChangeMaps (setBlock)
section
variable {P : Program} {w0 : World} {n N : Nat} {ops : Array Oper} {L : List Blk} {E : Env} {rd : Option Nat}
variable {Q : Exit -> Act -> World -> Prop} {rest : List Oper}
variable {ty : TypeId} {pos : String} {aft : Array Edge} {gd : Option (Nat × Bool)} {t : Tmp} {x : Operand} {b r : Nat}
variable {κ α : Type} [DecidableEq κ] {ek : κ -> Value} {ev : α -> Value} {l : List (κ × α)} {seen : List Nat}
theorem ZgZ (hg:guardB ops E gd=some true)(hd:Nat.blt t n=true)[hx:IsC (evl E x) (.pointer (some ⟨r,0,none⟩))](hr:∀w,Own w0 L w->w.heap[r]? =some (itO b l.length seen))(hb:∀w,Own w0 L w->w.heap[b]? =some (mapO ek ev l))
  (h0:(∀i,i<l.length->i∈seen)->JOI rd N P w0 n ops Q rest ((t, .tuple #[.bool false])::E) L)
  (h1:∀w w1:World,Own w0 L w->(w1=w\/w1=w.drew)->∀i,(hi:i<l.length)->i∉seen->JOI rd N P (setBlock w1 r (itO b l.length (seen++[i]))) n ops Q rest ((t, .tuple #[.bool true,ek l[i].1,ev l[i].2])::E) []):
  JOI rd N P w0 n ops Q (⟨some t, .next x false,ty,pos,aft,gd⟩::rest) E L:=by
 refine⟨fun a w ha hw=>?_⟩
 refine wpListIn_step fun K hK=>?_
 rw[if_pos (ZaP ha hg)]
 refine⟨fun f _=>trivial, ?_⟩
 rw[Oper.semAt_eq _ _ _ (fun c e=>by cases e)]
 have e1:=ha.ev (isE (h:=hx))
 rcases Zja (P:=P) (hr w hw) (hb w hw) ty with⟨h2,h3⟩|⟨i,hi,hs,w1,hw1,h3⟩
 ·have e:(execOp a.eval ⟨some t, .next x false,ty,pos,aft,gd⟩).run P w= .ok (.value (.tuple #[.bool false])) w:=by simp only[execOp,e1,Sem.run_bind,h3,Result.andThen,Sem.run_pure]
  rw[e]
  exact hK _ _ ((h0 h2).out _ _ (ha.put (some t) _ hd) hw)
 ·have e:(execOp a.eval ⟨some t, .next x false,ty,pos,aft,gd⟩).run P w= .ok (.value (.tuple #[.bool true,ek l[i].1,ev l[i].2])) (setBlock w1 r (itO b l.length (seen++[i]))):=by simp only[execOp,e1,Sem.run_bind,h3,Result.andThen,Sem.run_pure]
  rw[e]
  exact hK _ _ ((h1 w w1 hw hw1 i hi hs).out _ _ (ha.put (some t) _ hd) (Own.start _))
theorem Zc5 (b n:Nat)(seen:List Nat):(itO b n seen).isWalk=true:=rfl
theorem Zfi {w w1:World}{o:Obj}(hw:w1=w\/w1=w.drew):w.grownBy (setBlock w1 r o) (some r):=by
 rcases hw with rfl|rfl
 ·exact⟨rfl,rfl,rfl,by simp[setBlock],fun k _ hk=>Array.getElem?_setIfInBounds_ne (fun e=>hk (by rw[e]))⟩
 ·have e:w.drew.heap=w.heap:=rfl
  exact⟨rfl,rfl,rfl,by simp only[setBlock,Array.size_setIfInBounds,e];exact Wl _,fun k _ hk=>by simp only[setBlock,e];exact Array.getElem?_setIfInBounds_ne (fun e=>hk (by rw[e]))⟩
theorem ZfE {w w1:World}{o o0:Obj}(hw:w1=w\/w1=w.drew)(h:w.heap[r]? =some o0):(setBlock w1 r o).heap[r]? =some o:=by
 have hl:=Zq h
 rcases hw with rfl|rfl
 ·simp[setBlock,hl]
 ·have e:w.drew.heap=w.heap:=rfl
  simp[setBlock,e,hl]
end
section
theorem Zsl {n:Nat}{seen:List Nat}(hn:seen.Nodup)(hl:∀i∈seen,i<n)(ha:∀i,i<n->i∈seen):seen.Perm (List.range n):=
 (List.perm_ext_iff_of_nodup hn List.nodup_range).2 fun i=>by rw[List.mem_range];exact⟨hl i,ha i⟩
def seenL {α:Type}(l:List α)(seen:List Nat):List α:=seen.filterMap fun i=>l[i]?
theorem ZbS {α:Type}(l:List α)(seen:List Nat)(i:Nat)(h:i<l.length):seenL l (seen++[i])=seenL l seen++[l[i]]:=by
 simp[seenL,List.filterMap_append,h]
theorem Zek {α:Type}(l:List α){seen:List Nat}(h:∀i∈seen,i<l.length):(seenL l seen).length=seen.length:=by
 induction seen with
 |nil=>rfl
 |cons i s ih=>
  have hi:=h i (.head _)
  have:=ih fun j hj=>h j (.tail _ hj)
  simp only[seenL,List.filterMap_cons,List.getElem?_eq_getElem hi,Wu]
  exact congrArg Nat.succ this
theorem Zlk {α:Type}(l:List α):seenL l (List.range l.length)=l:=by
 have key:∀(m:Nat),m<=l.length->seenL l (List.range m)=l.take m:=by
  intro m
  induction m with
  |zero=>intro _;simp[seenL]
  |succ m ih=>
   intro hm
   rw[List.range_succ,ZbS l _ m hm,ih (by omega),Wn hm]
 rw[key _ (Wl _),List.take_length]
theorem Zci {α:Type}{l:List α}{seen:List Nat}(hn:seen.Nodup)(hl:∀i∈seen,i<l.length)(ha:∀i,i<l.length->i∈seen):(seenL l seen).Perm l:=by
 have:=(Zsl hn hl ha).filterMap fun i=>l[i]?
 have e:=Zlk l
 unfold seenL at e⊢
 rw[e] at this
 exact this
theorem ZaR :∀{n:Nat} {seen:List Nat},seen.Nodup->(∀i∈seen,i<n)->seen.length<=n
 |0,[],_,_=>Wl _
 |0,i::_,_,hl=>absurd (hl i (.head _)) (by omega)
 |n+1,seen,hn,hl=>by
  by_cases h:n∈seen
  ·have h1:=ZaR (n:=n) (hn.erase n) fun i hi=>by
    have h2:=hl i (List.mem_of_mem_erase hi)
    have h3:i≠n:=fun e=>by
     subst e
     exact(hn.not_mem_erase) hi
    omega
   rw[List.length_erase_of_mem h] at h1
   omega
  ·exact Nat.le_succ_of_le (ZaR hn fun i hi=>by
    have h2:=hl i hi
    have h3:i≠n:=fun e=>h (e▸hi)
    omega)
end
end Go.Vt
namespace Go.Vt
open Go.RowKit Go.Proofs
open Go.Proofs.Tryz (prog)
section
instance (priority :=50) atCons (w0:World)(e:Blk)(L:List Blk)(b:Nat)(cs:Array Value)(T:TypeId)[h:AtC w0 L b cs T]:AtC w0 (e::L) b cs T:=⟨fun w hw=>h.out w (hw.sub (.cons _ (.refl _)))⟩
instance (priority :=50) atOCons (w0:World)(e:Blk)(L:List Blk)(b:Nat)(o:Obj)[h:AtO w0 L b o]:AtO w0 (e::L) b o:=⟨fun w hw=>h.out w (hw.sub (.cons _ (.refl _)))⟩
instance (priority :=40) ZBT {P:Program}{w0:World}{n:Nat}{L:List Blk}{E:Env}{x:Operand}{T T0:TypeId}{v:Value}{b off:Nat}{cs:Array Value}[IsC (evl E x) (.pointer (some ⟨b,off,none⟩))][h:AtC w0 L b cs T0][hv:LdC P T cs off v]:YlC P w0 n L E (.load T x) v:=⟨fun _ _ _ _ _=>Zd6 isE h.out hv.out⟩
class DelO (b:Nat)(L:List Blk)(o:outParam Obj)(T:outParam TypeId)(L1:outParam (List Blk)):Prop where
 out:L.Perm (⟨b, .obj o,T⟩::L1)
instance (priority :=high) delOHere (b:Nat)(o:Obj)(T:TypeId)(L:List Blk):DelO b (⟨b, .obj o,T⟩::L) o T L:=⟨.refl _⟩
instance (priority :=low) delOThere (b:Nat)(e:Blk)(o:Obj)(T:TypeId)(L L1:List Blk)[h:DelO b L o T L1]:DelO b (e::L) o T (e::L1):=⟨(h.out.cons e).trans (.swap _ _ _)⟩
instance nth10 (a:Value):NthC #[a] 0 a:=⟨rfl⟩
instance keyRp :KeyC prog 35 (kA Zd) where
 chk e x w:=by kernel_rfl
 same:=Zf3 (fun x=>rfl)
 find ev l x w:=by
  obtain⟨fs,hf⟩:∃fs,prog.underlying 35=some (.struct fs):=⟨_,Tryz.underlying35⟩
  exact Zey hf (Zfd fun x y w=>(inferInstance:BinC prog .eql 35 (.agg (Zd x)) (.agg (Zd y)) (.bool (decide (x=y)))).run w) ev l x w
instance keyEx :KeyC prog 122 (kA Zf) where
 chk e x w:=by kernel_rfl
 same:=Zf3 (fun x=>rfl)
 find ev l x w:=by
  obtain⟨fs,hf⟩:∃fs,prog.underlying 122=some (.struct fs):=⟨_,Tryz.underlying122⟩
  exact Zey hf (Zfd fun x y w=>(inferInstance:BinC prog .eql 122 (.agg (Zf x)) (.agg (Zf y)) (.bool (decide (x=y)))).run w) ev l x w
abbrev mRp (l:List (Zb×Bool)):Obj:=mapO (kA Zd) Value.bool l
abbrev mEx (l:List (Za×Bool)):Obj:=mapO (kA Zf) Value.bool l
instance ZIY :MapT prog 177 (kA Zd) Value.bool:=⟨trivial⟩
instance ZIo :MapT prog 178 (kA Zf) Value.bool:=⟨trivial⟩
instance ZG2 :UndC prog 177 (.map 35 4):=⟨by kernel_rfl⟩
instance ZGN :UndC prog 178 (.map 122 4):=⟨by kernel_rfl⟩
instance ZIl :UndC prog 45 (.pointer 180):=⟨by kernel_rfl⟩
def vIn (m1 m2:Nat):Array Value:=#[.map (some m1), .map (some m2)]
instance ZKZ (m1 m2:Nat):BdC prog 180 [(0, .map (some m1)),(1, .map (some m2))] (.agg (vIn m1 m2)):=⟨fun w=>by kernel_rfl⟩
instance ZKs (m1 m2:Nat):LdC prog 177 (vIn m1 m2) 0 (.map (some m1)):=⟨ZC⟩
instance ZI4 (m1 m2:Nat):LdC prog 178 (vIn m1 m2) 1 (.map (some m2)):=⟨ZC⟩
instance ZJ5 :FaO prog 180 0 0 0:=⟨fun b w=>by kernel_rfl⟩
instance ZJE :FaO prog 180 1 0 1:=⟨fun b w=>by kernel_rfl⟩
theorem Zrg (w:World):Calls prog 43 ([]:List Value).toArray w (RetM (Nat×Nat×Nat) (fun s=> .pointer (some ⟨s.1,0,none⟩)) (fun s=>[⟨s.1,vIn s.2.1 s.2.2,180⟩,⟨s.2.2, .obj (mEx []),178⟩,⟨s.2.1, .obj (mRp []),177⟩]) w):=by
 refine Zg Tryz.func43 rfl Tryz.ntmps43 rfl ?_
 repeat(refine wkM ?_;intros)
 rename_i b1 b2 b3
 exact Zy rfl rfl (fun w hw=>⟨(b3,b1,b2),rfl,hw⟩)
instance ZJa (w0:World)(L:List Blk):SpecR prog w0 L 43 [] (Nat×Nat×Nat) (fun s=> .pointer (some ⟨s.1,0,none⟩)) (fun s=>[⟨s.1,vIn s.2.1 s.2.2,180⟩,⟨s.2.2, .obj (mEx []),178⟩,⟨s.2.1, .obj (mRp []),177⟩]) True:=⟨fun _ w _=>Zrg w⟩
def cpy {κ α:Type}[DecidableEq κ](l:List (κ×α))(q:List (κ×α)):List (κ×α):=q.foldl (fun m p=>mput m p.1 p.2) l
theorem ZjH {κ α:Type}[DecidableEq κ](l q:List (κ×α))(p:κ×α):cpy l (q++[p])=mput (cpy l q) p.1 p.2:=by simp[cpy,List.foldl_append]
structure SeenOk (n:Nat)(seen:List Nat):Prop where
 nd:seen.Nodup
 lt:∀i∈seen,i<n
theorem SeenOk.snoc {n i:Nat}{seen:List Nat}(h:SeenOk n seen)(hi:i<n)(hs:i∉seen):SeenOk n (seen++[i]):=
 ⟨List.nodup_append.2 ⟨h.nd,by simp,fun a ha b hb=>by rw[Wo] at hb;rintro rfl;exact hs (hb▸ha)⟩,fun j hj=>by
  rcases List.mem_append.1 hj with h1|h1
  ·exact h.lt j h1
  ·rw[Wo] at h1;omega⟩
theorem Zlm (w0 w:World)(L1:List Blk)(b1 b2:Nat)(l1 l2:List (Zb×Bool))[h2:AtO w0 L1 b2 (mRp l2)](hw:Own w0 (⟨b1, .obj (mRp l1),177⟩::L1) w):
  Calls prog 148 [.map (some b1), .map (some b2)].toArray w (RetX w0 {q:List (Zb×Bool) // q.Perm l2} (fun _=> .tuple #[]) (fun q=>⟨b1, .obj (mRp (cpy l1 q.1)),177⟩::L1)):=by
 refine ZY Tryz.func148 rfl Tryz.ntmps148 rfl hw ?_
 repeat(refine wkM ?_;intros)
 rename_i r
 refine Zm (S:=List Nat) (fun s=>SeenOk l2.length s) (fun _=>[(0, .map (some b1)),(7, .pointer (some ⟨r,0,none⟩))]) (fun s=>⟨r, .obj (itO b2 l2.length s),177⟩::⟨b1, .obj (mRp (cpy l1 (seenL l2 s))),177⟩::L1) (fun s=>l2.length-s.length) [] ⟨List.nodup_nil,fun i hi=>by cases hi⟩ sbB slB (fun s hs=>?_)
 have hlen:=ZaR hs.nd hs.lt
 refine cX ?_
 refine cX ?_
 refine sNx rfl rfl rfl (fun hall=>?h0) (fun i hi hni=>?h1)
 case h0=>
  repeat(refine wkM ?_;intros)
  exact Zaj rfl (fun w hw=>⟨⟨seenL l2 s,Zci hs.nd hs.lt hall⟩,rfl,hw.sub (.cons _ (.refl _))⟩)
 case h1=>
  have hs':=hs.snoc hi hni
  have hlen':=ZaR hs'.nd hs'.lt
  rw[Wp,List.length_singleton] at hlen'
  repeat(refine wkM ?_;intros)
  refine Zh (s++[i]) hs' sbB ?_ (by simp only[Wp,List.length_singleton];omega)
  rw[ZbS _ _ _ hi,ZjH,Zj hi]
  exact List.sublist_cons_self _ _
theorem ZlL (w0 w:World)(L1:List Blk)(b1 b2:Nat)(l1 l2:List (Za×Bool))[h2:AtO w0 L1 b2 (mEx l2)](hw:Own w0 (⟨b1, .obj (mEx l1),178⟩::L1) w):
  Calls prog 149 [.map (some b1), .map (some b2)].toArray w (RetX w0 {q:List (Za×Bool) // q.Perm l2} (fun _=> .tuple #[]) (fun q=>⟨b1, .obj (mEx (cpy l1 q.1)),178⟩::L1)):=by
 refine ZY Tryz.func149 rfl Tryz.ntmps149 rfl hw ?_
 repeat(refine wkM ?_;intros)
 rename_i r
 refine Zm (S:=List Nat) (fun s=>SeenOk l2.length s) (fun _=>[(0, .map (some b1)),(7, .pointer (some ⟨r,0,none⟩))]) (fun s=>⟨r, .obj (itO b2 l2.length s),178⟩::⟨b1, .obj (mEx (cpy l1 (seenL l2 s))),178⟩::L1) (fun s=>l2.length-s.length) [] ⟨List.nodup_nil,fun i hi=>by cases hi⟩ sbB slB (fun s hs=>?_)
 have hlen:=ZaR hs.nd hs.lt
 refine cX ?_
 refine cX ?_
 refine sNx rfl rfl rfl (fun hall=>?h0) (fun i hi hni=>?h1)
 case h0=>
  repeat(refine wkM ?_;intros)
  exact Zaj rfl (fun w hw=>⟨⟨seenL l2 s,Zci hs.nd hs.lt hall⟩,rfl,hw.sub (.cons _ (.refl _))⟩)
 case h1=>
  have hs':=hs.snoc hi hni
  have hlen':=ZaR hs'.nd hs'.lt
  rw[Wp,List.length_singleton] at hlen'
  repeat(refine wkM ?_;intros)
  refine Zh (s++[i]) hs' sbB ?_ (by simp only[Wp,List.length_singleton];omega)
  rw[ZbS _ _ _ hi,ZjH,Zj hi]
  exact List.sublist_cons_self _ _
instance ZBc (w0:World)(L L1:List Blk)(b1 b2:Nat)(l1 l2:List (Zb×Bool))[hd:DelO b1 L (mRp l1) 177 L1][h2:AtO w0 L1 b2 (mRp l2)]:SpecX prog w0 L 148 [.map (some b1), .map (some b2)] {q:List (Zb×Bool) // q.Perm l2} (fun _=> .tuple #[]) (fun q=>⟨b1, .obj (mRp (cpy l1 q.1)),177⟩::L1) True:=⟨fun _ w hw=>Zlm w0 w L1 b1 b2 l1 l2 (hw.perm hd.out)⟩
instance ZBe (w0:World)(L L1:List Blk)(b1 b2:Nat)(l1 l2:List (Za×Bool))[hd:DelO b1 L (mEx l1) 178 L1][h2:AtO w0 L1 b2 (mEx l2)]:SpecX prog w0 L 149 [.map (some b1), .map (some b2)] {q:List (Za×Bool) // q.Perm l2} (fun _=> .tuple #[]) (fun q=>⟨b1, .obj (mEx (cpy l1 q.1)),178⟩::L1) True:=⟨fun _ w hw=>ZlL w0 w L1 b1 b2 l1 l2 (hw.perm hd.out)⟩
end
section
theorem ZeZ {κ α:Type}[DecidableEq κ]:∀(l:List (κ×α))(x:κ)(v:α),(mput l x v).length<=l.length+1
 |[],_,_=>by simp[mput]
 |p::l,x,v=>by
  have:=ZeZ l x v
  simp only[mput]
  split <;> simp <;> omega
end
end Go.Vt
namespace Go.Vt
open Go.RowKit
section
variable {P : Program} {w0 : World} {n : Nat} {ops : Array Oper} {L : List Blk} {E : Env} {Q : Exit -> Act -> World -> Prop} {rest : List Oper} {r : Option Nat} {N : Nat}
variable {ty : TypeId} {pos : String} {aft : Array Edge} {gd : Option (Nat × Bool)} {t : Tmp} {x y : Operand}
theorem ZdI {o:Oper}{v:Value}{a:Act}{ds:List Deferred}{w:World}(hy:Yl P w0 n L E o v)(ha:Rep n E a)(hw:Own w0 L w)(hg:guardB ops E o.guard=some true)(hn:noDef o=true)
  (h:∀w',Ext w w'->wpListIn (Fr r) N P ops Q rest {a.put o.dst v with defers:=ds} w'):wpListIn (Fr r) N P ops Q (o::rest) {a with defers:=ds} w:=by
 refine wpListIn_step fun K hK=>?_
 rw[if_pos (ZaP (a:=a) ha hg)]
 refine Zpd hn (ZcV (a:={a with defers:=ds}) (hy.out a w ha hw) fun w' hx=>hK _ _ ?_)
 have e:({a with defers:=ds}:Act).put o.dst v={a.put o.dst v with defers:=ds}:=by
  cases o.dst <;> rfl
 rw[e]
 exact h w' hx
theorem Zsf {Q':Exit->Act->World->Prop}{o:Oper}{a:Act}{K:Act->World->Prop}{res:Result Next}(hQQ:∀e a w,e≠ .normal->Q' e a w->Q e a w)(h:o.upon P a K Q' res):o.uponIn (Fr r) N P a K Q res:=by
 cases res with
 |ok x w'=>
  cases x <;> simp only[Oper.upon] at h <;> simp only[Oper.uponIn]
  case value=>exact h
  case skip=>exact h
  case defer=>exact h
  case enter=>
   refine⟨(fun hd=>by cases hd),callsI (h.mono fun e w'' he=>?_)⟩
   cases e with
   |returned v=>exact he
   |panicked ch=>exact hQQ _ _ _ (fun h=>by cases h) he
   |outgrown=>obtain⟨a0,w0,h0⟩:=he;exact⟨a0,w0,hQQ _ _ _ (fun h=>by cases h) h0⟩
  case row=>exact⟨(fun hd=>by cases hd),fun c cs _=>let ⟨v,w',r,s⟩:=h c cs;⟨v,w',r,stepsIn_wide.2 s⟩⟩
 |halt x w'=>
  cases x <;> simp only[Oper.upon] at h <;> simp only[Oper.uponIn]
  all_goals first|exact h|exact hQQ _ _ _ (fun h=>by cases h) h
def MidL (r:Option Nat)(N:Nat)(P:Program)(ops:Array Oper)(Q:Exit->Act->World->Prop)(l2:List Oper):Exit->Act->World->Prop:=fun e a w=>e= .normal/\wpListIn (Fr r) N P ops Q l2 a w
theorem Zbg {l2:List Oper}:∀(l1:List Oper)(a:Act)(w:World),l1.all noDef=true->wpList P ops (MidL r N P ops Q l2) l1 a w->wpListIn (Fr r) N P ops Q (l1++l2) a w
 |[],_,_,_,h=>h.2
 |o::l,a,w,hd,h=>by
  simp only[List.all_cons,Wq] at hd
  simp only[wpList] at h
  simp only[Wf,wpListIn]
  split at h
  ·rename_i hw
   rw[if_pos hw]
   rcases h with h|⟨_,a0,w0,h,_⟩
   ·refine⟨fun f _=>trivial, ?_⟩
    rw[Oper.semAt_eq _ _ _ (ZdW hd.1)]
    have h2:o.wpIn (Fr r) N P a w (wpListIn (Fr r) N P ops Q (l++l2)) Q:=Oper.wpIn_mono (fun a w h=>Zbg l a w hd.2 h) ⟨fun f _=>trivial,by
     rw[Oper.semAt_eq _ _ _ (ZdW hd.1)]
     exact Zsf (fun e a w he hq=>absurd hq.1 he) h⟩
    have h3:=h2.2
    rw[Oper.semAt_eq _ _ _ (ZdW hd.1)] at h3
    exact h3
   ·cases h
  ·rename_i hw
   rw[if_neg hw]
   exact⟨fun f _=>trivial,Zbg l _ _ hd.2 h⟩
theorem ZdG {l2:List Oper}(h:∀a w,Rep n E a->Own w0 L w->wpListIn (Fr r) N P ops Q l2 a w):JX w0 n .normal (MidL r N P ops Q l2) E L:=⟨fun a w ha hw=>⟨rfl,h a w ha hw⟩⟩
theorem Zf6 {S T:TypeId}{a:Act}{w:World}{v:Value}{b2 m c2 k size bytes base:Nat}{xs news:List Value}{z:Value}{zc:Array Value}[hT:UndC P S (.slice T)][hz:ZeroC P T z zc][hk:SizeC P T size][hB:BytesC P T bytes](ha:Rep n E a)(hx:Env.ev E x=some v)(hy:Env.ev E y=some (.slice (some ⟨b2,0,none⟩) m c2))
  (h6:zc.size=size) (h7:0<size) (hown:w.ownsRow base T size v k xs) (hn:news.length=m*size) (hc:∀j u,news[j]? =some u->w.cell? ((⟨b2,0,none⟩:Addr).add j)=some u) (h1:∀u∈news,u.oneCell'=true) (hm:k+m<=maxLen) (hb:(k+m)*bytes<=140737488355328) (hbs:base<=w.heap.size)
  (h:∀v' w',w'.ownsRow base T size v' (k+m) (xs++news)->w.grownBy w' v.ownBlock->wpListIn (Fr r) N P ops Q rest (a.put (some t) v') w'):wpListIn (Fr r) N P ops Q (⟨some t, .call ⟨.builtin .append,#[x,y],#[S,S]⟩,ty,pos,aft,none⟩::rest) a w:=by
 obtain⟨i,hi,h4⟩:=Zbx hk.out
 obtain⟨i',hi',h5⟩:=Zbx hB.out
 obtain rfl:i'=i:=Option.some.inj (hi'.symm.trans hi)
 have hz':i'.zero=some z:=by simpa [hi] using hz.out
 obtain⟨v',w',hr,h8,h9,_⟩:=run_append_own (P:=P) w base S ty T i' z size bytes hT.out hi hz' h4 h5 (by rw[hz.cells];exact h6) h7 v k xs hown ⟨b2,0,none⟩ m c2 news hn hc h1 hm hb hbs
 refine wpListIn_step fun K hK=>?_
 rw[if_pos (show Region.wanted _ _=true from rfl)]
 refine⟨fun f _=>trivial, ?_⟩
 rw[Oper.semAt_eq _ _ _ (fun c e=>by cases e),ZaM ha hx hy hr]
 exact hK _ _ (h v' w' h8 h9)
theorem Zex {T T0:TypeId}{a:Act}{w:World}{b:Nat}{u u0:Value}(ha:Rep n E a)(hx:Env.ev E x=some (.pointer (some ⟨b,0,none⟩)))(hy:Env.ev E y=some u)(hb:w.heap[b]? =some (.cells #[u0] T0 (0,0)))(hk:(P.info? T).map (·.size)=some 1)(hu:u.cells=#[u])(h1:u.oneCell'=true)
  (h:wpListIn (Fr r) N P ops Q rest (a.put none undef) (w.setCell ⟨b,0,none⟩ u)):wpListIn (Fr r) N P ops Q (⟨none, .store T x y,ty,pos,aft,none⟩::rest) a w:=by
 refine wpListIn_step fun K hK=>?_
 rw[if_pos (show Region.wanted _ _=true from rfl)]
 refine⟨fun f _=>trivial, ?_⟩
 have hc:w.cell? ⟨b,0,none⟩=some u0:=by rw[Zaw hb];rfl
 have hf:w.frozen? ⟨b,0,none⟩=false:=frozen_of_row _ _ _ _ _ hb
 have hr:(execOp a.eval ⟨none, .store T x y,ty,pos,aft,none⟩).run P w= .ok .skip (w.setCell ⟨b,0,none⟩ u):=by
  simp[execOp,ha.ev hx,ha.ev hy,Instr.storeAt,Instr.sureAddr,storeVar,ZaF hk,hu,storeCells,Sem.run_bind,ZaG,run_store P w _ u _ h1,hc,hf,Result.andThen]
 rw[Oper.semAt_eq _ _ _ (fun c e=>by cases e),hr]
 exact hK _ _ h
end
theorem ZkW {α:Type}{enc:α->Array Value}{k base:Nat}{T:TypeId}{W:World}{v:Value}{xs:List α}(hnil:xs=[]->v= .slice none 0 0)(h:W.ownsRow base T k v xs.length (rowL enc xs)):
  ∃s:SlS enc k xs,v=vSl s/\((mS T s).map (·.b)).Nodup/\∀e∈mS T s,base<=e.b/\W.heap[e.b]? =some e.obj:=by
 obtain⟨hl,h⟩:=h
 rcases h with⟨rfl,h0⟩|⟨g,cap,cur,rfl,hb,hg,hn,hm,hs,ht⟩
 ·have:xs=[]:=List.length_eq_zero_iff.1 h0
  subst this
  exact⟨SlS.no,rfl,List.nodup_nil,fun e he=>(by cases he)⟩
 ·by_cases h0:xs=[]
  ·subst h0
   cases hnil rfl
  ·refine⟨SlS.at_ g cap (cur.toList.drop (xs.length*k)) ⟨hn,by rw[List.length_drop,Array.length_toList,hs,Nat.sub_mul]⟩ h0,rfl,by simp[mS,mO,SlS.at_],fun e he=>?_⟩
   have e1:e=⟨g,row enc xs (cur.toList.drop (xs.length*k)),T⟩:=by
    simpa [mS,mO,SlS.at_] using he
   subst e1
   refine⟨hb, ?_⟩
   rw[hg]
   have:cur=row enc xs (cur.toList.drop (xs.length*k)):=by
    unfold row
    apply Array.ext'
    rw[List.toList_toArray,<-ht,List.take_append_drop]
   rw[<-this]
theorem Zc6 {W W':World}{B:Nat}{t:TypeId}{v:Value}(h:Boxed W B t v)(hx:Ext W W'):Boxed W' B t v:=(hx.block B (Zq h)).trans h
end Go.Vt
namespace Go.Vt
open Go.RowKit Go.Proofs
open Go.Proofs.Tryz (prog)
section
open Go.ChangeMaps (setBlock)
theorem Z6 {w w':World}(h:Ext w w'):w.grownBy w' none:=⟨h.bel.os,h.bel.tape,h.bel.output,h.bel.size,fun k hk _=>h.bel.block k hk⟩
def KpK (wc A A':World):Prop:=Below wc.heap.size A A'/\∀(k:Nat)(o:Obj),A.heap[k]? =some o->o.isWalk=true->A'.heap[k]? =some o
instance ZG8 {P:Program}{E:Env}{T:TypeId}{x:Operand}{m:Option Nat}[h:IsC (evl E x) (.map m)]:AlC P E (.box T x) #[.map m] T:=⟨fun hg hd h=>ZhA isE hg hd h⟩
instance ZC1 (m:Option Nat):LdC prog 177 #[.map m] 0 (.map m):=⟨ZC⟩
abbrev pKR (l:List (Zb×Bool)):List Zb:=l.map (·.1)
theorem Zsu {l:List (Zb×Bool)}{s:List Nat}{i:Nat}(h:i<l.length):seenL (pKR l) (s++[i])=seenL (pKR l) s++[(gi l (i:Int)).1]:=by
 rw[ZbS _ _ _ (by rw[Ws];exact h),List.getElem_map,Zj h]
set_option maxHeartbeats 4000000 in
theorem Zkl (wc w0:World)(Bm b N:Nat)(TB:TypeId)(l:List (Zb×Bool))(hwc:Below wc.heap.size wc w0)(hB:∃fz,wc.heap[Bm]? =some (.cells #[.map (some b)] TB fz))(hb:wc.heap[b]? =some (mRp l)):
  SeqStopsK (Fr none) N prog 152 #[.pointer (some ⟨Bm,0,none⟩)] (fun x:Zb=>#[.agg (Zd x)]) (KpK wc) (fun ys=>ys.Perm (pKR l)) (fun _=>True) (l.length+1) w0:=by
 intro lp Jp Jx W hW hJ hJx hY h0
 have hBW:Below wc.heap.size wc W:=hwc.trans (hW.mono hwc.size)
 have hB1:∃fz,W.heap[Bm]? =some (.cells #[.map (some b)] TB fz):=by
  obtain⟨fz,h⟩:=hB
  exact⟨fz,(hBW.block Bm (Zq h)).trans h⟩
 have hb1:W.heap[b]? =some (mRp l):=(hBW.block b (Zq hb)).trans hb
 have fB:=FoC.mk (w0:=W) hB1
 have fb:=FoO.mk hb1
 have hgo:=Zfx (N:=N) (P:=prog) (l:=[Value.func (.yield lp) #[] #[],Value.pointer (some ⟨Bm,0,none⟩)]) (w:=W) (R:=fun e W'=>(∃v,e=Ending.returned v)/\((∃xs,xs.Perm (pKR l)/\Jp xs W')\/∃pre,True/\Jx pre W')) Tryz.func152 rfl Tryz.ntmps152 rfl
 refine hgo ?_
 clear hgo
 refine Zay ?_
 refine ZcB ?_
 repeat(refine wkM ?_;intros)
 refine Zad ?_
 rename_i r
 refine Za6 ?_
 refine ZhN (S:=List Nat) (fun s W1=>SeenOk l.length s/\Jp (seenL (pKR l) s) W1/\Below wc.heap.size wc W1/\W1.heap[r]? =some (itO b l.length s)/\W.heap.size<=r) (fun _=>[(0, .func (.yield lp) #[] #[]),(5, .pointer (some ⟨r,0,none⟩))]) (fun s=>l.length-s.length) [] (fun w hw=>⟨⟨List.nodup_nil,fun i hi=>by cases hi⟩,hJ _ W w none h0 (Z6 hw.ext) (fun _ e=>by cases e),hBW.trans (hw.ext.bel.mono hBW.size),(hw.mem _ (.head _)).2,(hw.mem _ (.head _)).1⟩) sbB (fun s W1 hI=>?_)
 obtain⟨hs,hJp,hB0,hr1,hrW⟩:=hI
 have hbb:W1.heap[b]? =some (mRp l):=(hB0.block b (Zq hb)).trans hb
 have hlen:=ZaR hs.nd hs.lt
 refine Zay ?_
 refine ZaX ?_
 refine ZgZ rfl rfl (fun w hw=>(hw.ext.block _ (Zq hr1)).trans hr1) (fun w hw=>(hw.ext.block _ (Zq hbb)).trans hbb) (fun hall=>?h0) (fun w w1 hw hw1 i hi hni=>?h1)
 case h0=>
  refine Zbn (fun _ _ h=>by obtain⟨⟨v,h⟩,_⟩:=h;cases h) rfl ?_
  repeat(refine wkM ?_;intros)
  refine Zad ?_
  refine Zay ?_
  refine Zbs rfl (fun h=>by cases h) (fun _=>?_)
  refine Zip ?_
  refine Zdy ?_
  refine Zdw ?_
  refine ZcA ?_
  exact Zaj rfl (fun w hw=>⟨⟨_,rfl⟩, .inl ⟨_,Zci hs.nd (by rw[Ws];exact hs.lt) (by rw[Ws];exact hall),hJ _ W1 w none hJp (Z6 hw.ext) (fun _ e=>by cases e)⟩⟩)
 case h1=>
  have hs':=hs.snoc hi hni
  have hlen':=ZaR hs'.nd hs'.lt
  rw[Wp,List.length_singleton] at hlen'
  have hrw:w.heap[r]? =some (itO b l.length s):=(hw.ext.block _ (Zq hr1)).trans hr1
  have hg:=Zfi (r:=r) (o:=itO b l.length (s++[i])) hw1
  have hJ2:=hJ _ w _ (some r) (hJ _ W1 w none hJp (Z6 hw.ext) (fun _ e=>by cases e)) hg (fun r' e=>by cases e;exact⟨hrW,_,hrw,Zc5 _ _ _⟩)
  have hB2:=(hB0.trans (hw.ext.bel.mono hB0.size)).grown hg (Wi hB0.size hw.ext.size) (fun j e=>by cases e;exact Wi hBW.size hrW)
  have hr2:=ZfE (o:=itO b l.length (s++[i])) hw1 hrw
  generalize setBlock w1 r (itO b l.length (s++[i]))=W2 at*
  have hb2:W2.heap[b]? =some (mRp l):=(hB2.block b (Zq hb)).trans hb
  have f2:=FoO.mk hr2
  have f3:=FoO.mk hb2
  refine Zbn (fun _ _ h=>by obtain⟨⟨v,h⟩,_⟩:=h;cases h) rfl ?_
  repeat(refine wkM ?_;intros)
  refine Zad ?_
  refine Zay ?_
  refine Zbs rfl (fun _=>?_) (fun h=>by cases h)
  refine ZdL ?_
  refine Zad ?_
  refine Za6 ?_
  refine Zay ?_
  refine ZcB ?_
  repeat(refine wkM ?_;intros)
  refine Zad ?_
  refine Zay ?_
  refine ZaX ?_
  refine⟨fun a2 w2 ha2 hw2=>Zbg [_,_] a2 w2 rfl (JO.out ?_ a2 w2 ha2 hw2)⟩
  repeat(refine wkM ?_;intros)
  refine ZdG (fun a3 w3 ha3 hw3=>(ZfB (l:=lp) (args:=#[.agg (Zd (gi l (i:Int)).1)]) (R:=fun e W'=>(e= .returned (.bool true)/\Jp (seenL (pKR l) (s++[i])) W'/\KpK wc W2 W')\/(e= .returned (.bool false)/\Jx (seenL (pKR l) (s++[i])) W')) rfl rfl rfl (fun a w ha=>ZfA ha rfl rfl) (fun w hw=>?_) ?_).out a3 w3 ha3 hw3)
  ·obtain⟨fn,tmps,asg,bd,y1,y2⟩:=hY (seenL (pKR l) s) (gi l (i:Int)).1 w (hJ _ W2 w none hJ2 (Z6 hw.ext) (fun _ e=>by cases e)) (by rw[Zek _ (by rw[Ws];exact hs.lt)];omega)
   refine⟨fn,tmps,asg,bd,y1,y2.mono fun e W' h=>?_⟩
   rw[Zsu hi]
   rcases h with⟨e1,e2,e3⟩|⟨e1,e2⟩
   ·exact .inl ⟨e1,e2,(hw.ext.bel.mono hB2.size).trans e3.1,fun k o hk hwk=>e3.2 k o ((hw.ext.block k (Zq hk)).trans hk) hwk⟩
   ·exact .inr ⟨e1,e2⟩
  ·rintro e W' (⟨rfl,hJ',hk⟩|⟨rfl,hx'⟩)
   ·refine⟨_,rfl, ?_⟩
    refine Zbn (E:=(12, .bool true)::_) (fun _ _ h=>by obtain⟨⟨v,h⟩,_⟩:=h;cases h) rfl ?_
    repeat(refine wkM ?_;intros)
    refine Zad ?_
    refine Zbs rfl (fun h=>by cases h) (fun _=>?_)
    refine ZdL ?_
    refine Zfp ?_
    refine Zg3 (s++[i]) (fun w hw=>⟨hs',hJ _ W' w none hJ' (Z6 hw.ext) (fun _ e=>by cases e),hB2.trans ((hk.1.mono (Wl _)).trans (hw.ext.bel.mono (Wi hB2.size hk.1.size))), ?_,hrW⟩) sbB (by simp only[Wp,List.length_singleton];omega)
    have h3:=hk.2 r _ hr2 (Zc5 _ _ _)
    exact(hw.ext.block _ (Zq h3)).trans h3
   ·refine⟨_,rfl, ?_⟩
    refine Zbn (E:=(12, .bool false)::_) (fun _ _ h=>by obtain⟨⟨v,h⟩,_⟩:=h;cases h) rfl ?_
    repeat(refine wkM ?_;intros)
    refine Zad ?_
    refine Zbs rfl (fun _=>?_) (fun h=>by cases h)
    refine ZjN ?_
    refine Zbq ?_
    refine ZdZ ?_
    refine Zbq ?_
    exact ZcG rfl (fun w hw=>⟨⟨_,rfl⟩, .inr ⟨_,trivial,hJx _ W' w none hx' (Z6 hw.ext) (fun _ e=>by cases e)⟩⟩)
end
section
open Go.ChangeMaps (setBlock)
instance ZEM (m:Option Nat):LdC prog 178 #[.map m] 0 (.map m):=⟨ZC⟩
abbrev pKE (l:List (Za×Bool)):List Za:=l.map (·.1)
theorem ZqT {l:List (Za×Bool)}{s:List Nat}{i:Nat}(h:i<l.length):seenL (pKE l) (s++[i])=seenL (pKE l) s++[(gi l (i:Int)).1]:=by
 rw[ZbS _ _ _ (by rw[Ws];exact h),List.getElem_map,Zj h]
set_option maxHeartbeats 4000000 in
theorem Zlf (wc w0:World)(Bm b N:Nat)(TB:TypeId)(l:List (Za×Bool))(hwc:Below wc.heap.size wc w0)(hB:∃fz,wc.heap[Bm]? =some (.cells #[.map (some b)] TB fz))(hb:wc.heap[b]? =some (mEx l)):
  SeqStopsK (Fr none) N prog 259 #[.pointer (some ⟨Bm,0,none⟩)] (fun x:Za=>#[.agg (Zf x)]) (KpK wc) (fun ys=>ys.Perm (pKE l)) (fun _=>True) (l.length+1) w0:=by
 intro lp Jp Jx W hW hJ hJx hY h0
 have hBW:Below wc.heap.size wc W:=hwc.trans (hW.mono hwc.size)
 have hB1:∃fz,W.heap[Bm]? =some (.cells #[.map (some b)] TB fz):=by
  obtain⟨fz,h⟩:=hB
  exact⟨fz,(hBW.block Bm (Zq h)).trans h⟩
 have hb1:W.heap[b]? =some (mEx l):=(hBW.block b (Zq hb)).trans hb
 have fB:=FoC.mk (w0:=W) hB1
 have fb:=FoO.mk hb1
 have hgo:=Zfx (N:=N) (P:=prog) (l:=[Value.func (.yield lp) #[] #[],Value.pointer (some ⟨Bm,0,none⟩)]) (w:=W) (R:=fun e W'=>(∃v,e=Ending.returned v)/\((∃xs,xs.Perm (pKE l)/\Jp xs W')\/∃pre,True/\Jx pre W')) Tryz.func259 rfl Tryz.ntmps259 rfl
 refine hgo ?_
 clear hgo
 refine Zay ?_
 refine ZcB ?_
 repeat(refine wkM ?_;intros)
 refine Zad ?_
 rename_i r
 refine Za6 ?_
 refine ZhN (S:=List Nat) (fun s W1=>SeenOk l.length s/\Jp (seenL (pKE l) s) W1/\Below wc.heap.size wc W1/\W1.heap[r]? =some (itO b l.length s)/\W.heap.size<=r) (fun _=>[(0, .func (.yield lp) #[] #[]),(5, .pointer (some ⟨r,0,none⟩))]) (fun s=>l.length-s.length) [] (fun w hw=>⟨⟨List.nodup_nil,fun i hi=>by cases hi⟩,hJ _ W w none h0 (Z6 hw.ext) (fun _ e=>by cases e),hBW.trans (hw.ext.bel.mono hBW.size),(hw.mem _ (.head _)).2,(hw.mem _ (.head _)).1⟩) sbB (fun s W1 hI=>?_)
 obtain⟨hs,hJp,hB0,hr1,hrW⟩:=hI
 have hbb:W1.heap[b]? =some (mEx l):=(hB0.block b (Zq hb)).trans hb
 have hlen:=ZaR hs.nd hs.lt
 refine Zay ?_
 refine ZaX ?_
 refine ZgZ rfl rfl (fun w hw=>(hw.ext.block _ (Zq hr1)).trans hr1) (fun w hw=>(hw.ext.block _ (Zq hbb)).trans hbb) (fun hall=>?h0) (fun w w1 hw hw1 i hi hni=>?h1)
 case h0=>
  refine Zbn (fun _ _ h=>by obtain⟨⟨v,h⟩,_⟩:=h;cases h) rfl ?_
  repeat(refine wkM ?_;intros)
  refine Zad ?_
  refine Zay ?_
  refine Zbs rfl (fun h=>by cases h) (fun _=>?_)
  refine Zip ?_
  refine Zdy ?_
  refine Zdw ?_
  refine ZcA ?_
  exact Zaj rfl (fun w hw=>⟨⟨_,rfl⟩, .inl ⟨_,Zci hs.nd (by rw[Ws];exact hs.lt) (by rw[Ws];exact hall),hJ _ W1 w none hJp (Z6 hw.ext) (fun _ e=>by cases e)⟩⟩)
 case h1=>
  have hs':=hs.snoc hi hni
  have hlen':=ZaR hs'.nd hs'.lt
  rw[Wp,List.length_singleton] at hlen'
  have hrw:w.heap[r]? =some (itO b l.length s):=(hw.ext.block _ (Zq hr1)).trans hr1
  have hg:=Zfi (r:=r) (o:=itO b l.length (s++[i])) hw1
  have hJ2:=hJ _ w _ (some r) (hJ _ W1 w none hJp (Z6 hw.ext) (fun _ e=>by cases e)) hg (fun r' e=>by cases e;exact⟨hrW,_,hrw,Zc5 _ _ _⟩)
  have hB2:=(hB0.trans (hw.ext.bel.mono hB0.size)).grown hg (Wi hB0.size hw.ext.size) (fun j e=>by cases e;exact Wi hBW.size hrW)
  have hr2:=ZfE (o:=itO b l.length (s++[i])) hw1 hrw
  generalize setBlock w1 r (itO b l.length (s++[i]))=W2 at*
  have hb2:W2.heap[b]? =some (mEx l):=(hB2.block b (Zq hb)).trans hb
  have f2:=FoO.mk hr2
  have f3:=FoO.mk hb2
  refine Zbn (fun _ _ h=>by obtain⟨⟨v,h⟩,_⟩:=h;cases h) rfl ?_
  repeat(refine wkM ?_;intros)
  refine Zad ?_
  refine Zay ?_
  refine Zbs rfl (fun _=>?_) (fun h=>by cases h)
  refine ZdL ?_
  refine Zad ?_
  refine Za6 ?_
  refine Zay ?_
  refine ZcB ?_
  repeat(refine wkM ?_;intros)
  refine Zad ?_
  refine Zay ?_
  refine ZaX ?_
  refine⟨fun a2 w2 ha2 hw2=>Zbg [_,_] a2 w2 rfl (JO.out ?_ a2 w2 ha2 hw2)⟩
  repeat(refine wkM ?_;intros)
  refine ZdG (fun a3 w3 ha3 hw3=>(ZfB (l:=lp) (args:=#[.agg (Zf (gi l (i:Int)).1)]) (R:=fun e W'=>(e= .returned (.bool true)/\Jp (seenL (pKE l) (s++[i])) W'/\KpK wc W2 W')\/(e= .returned (.bool false)/\Jx (seenL (pKE l) (s++[i])) W')) rfl rfl rfl (fun a w ha=>ZfA ha rfl rfl) (fun w hw=>?_) ?_).out a3 w3 ha3 hw3)
  ·obtain⟨fn,tmps,asg,bd,y1,y2⟩:=hY (seenL (pKE l) s) (gi l (i:Int)).1 w (hJ _ W2 w none hJ2 (Z6 hw.ext) (fun _ e=>by cases e)) (by rw[Zek _ (by rw[Ws];exact hs.lt)];omega)
   refine⟨fn,tmps,asg,bd,y1,y2.mono fun e W' h=>?_⟩
   rw[ZqT hi]
   rcases h with⟨e1,e2,e3⟩|⟨e1,e2⟩
   ·exact .inl ⟨e1,e2,(hw.ext.bel.mono hB2.size).trans e3.1,fun k o hk hwk=>e3.2 k o ((hw.ext.block k (Zq hk)).trans hk) hwk⟩
   ·exact .inr ⟨e1,e2⟩
  ·rintro e W' (⟨rfl,hJ',hk⟩|⟨rfl,hx'⟩)
   ·refine⟨_,rfl, ?_⟩
    refine Zbn (E:=(12, .bool true)::_) (fun _ _ h=>by obtain⟨⟨v,h⟩,_⟩:=h;cases h) rfl ?_
    repeat(refine wkM ?_;intros)
    refine Zad ?_
    refine Zbs rfl (fun h=>by cases h) (fun _=>?_)
    refine ZdL ?_
    refine Zfp ?_
    refine Zg3 (s++[i]) (fun w hw=>⟨hs',hJ _ W' w none hJ' (Z6 hw.ext) (fun _ e=>by cases e),hB2.trans ((hk.1.mono (Wl _)).trans (hw.ext.bel.mono (Wi hB2.size hk.1.size))), ?_,hrW⟩) sbB (by simp only[Wp,List.length_singleton];omega)
    have h3:=hk.2 r _ hr2 (Zc5 _ _ _)
    exact(hw.ext.block _ (Zq h3)).trans h3
   ·refine⟨_,rfl, ?_⟩
    refine Zbn (E:=(12, .bool false)::_) (fun _ _ h=>by obtain⟨⟨v,h⟩,_⟩:=h;cases h) rfl ?_
    repeat(refine wkM ?_;intros)
    refine Zad ?_
    refine Zbs rfl (fun _=>?_) (fun h=>by cases h)
    refine ZjN ?_
    refine Zbq ?_
    refine ZdZ ?_
    refine Zbq ?_
    exact ZcG rfl (fun w hw=>⟨⟨_,rfl⟩, .inr ⟨_,trivial,hJx _ W' w none hx' (Z6 hw.ext) (fun _ e=>by cases e)⟩⟩)
end
end Go.Vt
