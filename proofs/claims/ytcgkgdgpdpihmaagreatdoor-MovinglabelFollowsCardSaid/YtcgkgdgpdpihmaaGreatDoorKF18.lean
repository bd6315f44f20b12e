/- that a label follows another one where the units say so (part 18 of 25.) Conditions: those that each statement names. -/
import Derived.Test.YtcgkgdgpdpihmaaGreatDoorProg
import Derived.Test.YtcgkgdgpdpihmaaGreatDoorKF17
set_option linter.unusedSimpArgs false
set_option linter.unusedVariables false
set_option maxHeartbeats 2000000
set_option maxRecDepth 100000
namespace Go.Vt
open Go.RowKit Go.Proofs
open Go.Proofs.Tryz (prog)
section
instance Zqp (w0:World)(L:List Blk)(v:Value)(us:List UL)[h:LstN w0 L v UL rU us]:SpecR prog w0 L 74 [vLabels,v] (SlS rU 21 (nrmR us)) (fun s=> .tuple #[vSl s, .int .i64 (nrmE us)]) (fun s=>mS 145 s) (us.length<=19/\∀u∈us,UIn u):=⟨fun hp w hw=>Zgf v us w (h.out w hw) h.nil hp.1 hp.2⟩
theorem ZlM (us:List UL):(nrmR us).length<=3*us.length:=by
 unfold nrmR
 split
 ·have h1:=ZeW (allU us) (allU us).length
  have h2:=ZdJ (sor us) (sor us).length
  have h3:=ZdQ us
  unfold allU at h1⊢
  omega
 ·simp
class Agg0 (P:Program)(T:TypeId):Prop where
 out:aggB P T 0=true
instance ZvB {P:Program}{w0:World}{n:Nat}{L:List Blk}{E:Env}{g:Nat}{T:TypeId}[h:Agg0 P T]:YlC P w0 n L E (.load T (.global g)) (.agg #[]):=⟨fun d ty pos aft gd=>
 Z1 (fun _=>loadVar T ⟨g,0,none⟩) (fun a ha=>by
  simp only[execOp,ha.ev (show Env.ev E (.global g)=some (.pointer (some ⟨g,0,none⟩)) from rfl),Instr.loadAt,Instr.sureAddr]
  rfl) (fun a w _ _=>by simp[loadVar,Sem.run_bind,ZcV h.out,Z0 (Zfw h.out),loadCells,loadCellsFrom])⟩
instance ZpR :Agg0 prog 109:=⟨by kernel_rfl⟩
noncomputable def mNorm (us:List PU):List PU:=mpN ofU (nrmR (mpN toU us us.length)) (nrmR (mpN toU us us.length)).length
theorem ZgJ (v:Value)(us:List PU)(w:World)(hv:ArgS w v rP us)(hl:us.length<=19)(hok:∀u∈mpN toU us us.length,UIn u):
  Calls prog 21 [v].toArray w (RetM (SlS rP 21 (mNorm us)) (fun s=> .tuple #[vSl s, .int .i64 (nrmE (mpN toU us us.length))]) (fun s=>mS 46 s) w):=by
 have:=ArgC.mk hv
 have hml:=ZbA toU us us.length
 have hnl:=ZlM (mpN toU us us.length)
 have hl1:us.length<=1048576:=by omega
 refine Zb Tryz.func21 rfl Tryz.ntmps21 rfl ?_
 repeat(refine wkB ?_;intros)
 (refine ZE (.v [0,1,2] (.e1 3 (.e1 4 (.v [5,6,7] (.e1 8 (.e1 9 (.fin))))))) (([]:List Blk)) (h:=?_);refine wkX ?_)
 (repeat(refine wkH ?_))
 repeat(first|(refine wkT ?_;intros)|(refine tC rfl rfl ?_ ?_;focus(first|exact hl1|exact⟨by omega,hok⟩))|(refine uC rfl rfl ?_ ?_;focus(first|exact hl1|exact⟨by omega,hok⟩))|(refine eN rfl rfl ?_ ?_;(focus(first|exact hl1|exact⟨by omega,hok⟩));intro _;(try simp only[Wf,Wg,Wh])))
 rename_i s1 s2
 repeat(first|(refine wkB ?_;intros)|(refine wnM ?_ ?_;(focus(omega));intros))
 rename_i s3
 exact ZF rfl (Zv rfl) (Zv rfl) (fun w hw=>⟨s3,rfl,hw.sub suB⟩)
instance ZqV (w0:World)(L:List Blk)(v:Value)(us:List PU)[h:LstC w0 L v PU rP us]:SpecR prog w0 L 21 [v] (SlS rP 21 (mNorm us)) (fun s=> .tuple #[vSl s, .int .i64 (nrmE (mpN toU us us.length))]) (fun s=>mS 46 s) (us.length<=19/\∀u∈mpN toU us us.length,UIn u):=⟨fun hp w hw=>ZgJ v us w (h.out w hw) hp.1 hp.2⟩
end
section
abbrev Bd :=Zan
abbrev vBd (b:Bd):Value:= .agg (ZI (ZM b))
def bdF (i:Za):Bd:=⟨i.From,i.OpenFrom⟩
def bdL (i:Za):Bd:=⟨i.To,!i.OpenTo⟩
def bdB (a b:Bd):Za:=⟨a.at_,b.at_,a.behind,!b.behind⟩
noncomputable def cmpB (a b:Bd):Int:=if cl a.at_ b.at_≠0 then cl a.at_ b.at_ else if a.behind=b.behind then 0 else if b.behind=true then-1 else 1
structure BdOk (b:Bd):Prop where
 o:RlB KR b.at_
instance Ztl (i:Za):SpecC prog 152 [vIv i] (vBd (bdF i)) True:=⟨fun hp w=>by
 refine Zb Tryz.func152 rfl Tryz.ntmps152 rfl ?_
 repeat(refine wkB ?_;intros)
 exact rtC rfl rfl⟩
instance Zv4 (i:Za):SpecC prog 153 [vIv i] (vBd (bdL i)) True:=⟨fun hp w=>by
 refine Zb Tryz.func153 rfl Tryz.ntmps153 rfl ?_
 repeat(refine wkB ?_;intros)
 exact rtC rfl rfl⟩
instance ZpV (a b:Bd):SpecC prog 181 [vBd a,vBd b] (vIv (bdB a b)) True:=⟨fun hp w=>by
 refine Zb Tryz.func181 rfl Tryz.ntmps181 rfl ?_
 repeat(refine wkB ?_;intros)
 exact rtC rfl rfl⟩
instance ZvZ (a b:Bd):SpecC prog 151 [vBd a,vBd b] (.int .i64 (cmpB a b)) (BdOk a/\BdOk b):=⟨fun hp w=>by
 obtain⟨⟨h1⟩,⟨h2⟩⟩:=hp
 refine Zb Tryz.func151 rfl Tryz.ntmps151 rfl ?_
 repeat(first|(refine wkB ?_;intros)|(refine wnM ?_ ?_;(focus(exact⟨h1,h2⟩));intros))
 unfold cmpB
 by_cases h1:cl a.at_ b.at_=0
 ·simp only[h1,decide_true,Bool.not_true]
  repeat(refine wkB ?_;intros)
  rw[if_neg (by simp)]
  rcases ha:a.behind with _|_ <;> rcases hb:b.behind with _|_
  ·repeat(refine wkB ?_;intros)
   exact rtT rfl rfl
  ·repeat(refine wkB ?_;intros)
   simp only[hb]
   repeat(refine wkB ?_;intros)
   exact rtT rfl rfl
  ·repeat(refine wkB ?_;intros)
   simp only[hb]
   repeat(refine wkB ?_;intros)
   exact rtT rfl rfl
  ·repeat(refine wkB ?_;intros)
   exact rtT rfl rfl
 ·simp only[We h1,Bool.not_false]
  rw[if_pos h1]
  repeat(refine wkB ?_;intros)
  exact rtT rfl rfl⟩
end
section
structure Ev where
 b:Bd
 n0:Int
 n1:Int
instance : Inhabited Ev:=⟨⟨Zah,0,0⟩⟩
def eEv (x:Ev):Array Value:=ZI (ZM x.b)++#[.int .i64 x.n0, .int .i64 x.n1]
abbrev vEv (x:Ev):Value:= .agg (eEv x)
instance Zyp (x:Ev):CsC (eEv x) 12:=⟨by kernel_rfl,by kernel_rfl⟩
instance ZxO :EncC eEv 12:=⟨fun _=>CsC.size,fun _=>CsC.one⟩
instance ZwQ :ZeroC prog 216 (vEv ⟨Zah,0,0⟩) (eEv ⟨Zah,0,0⟩):=⟨by kernel_rfl,by kernel_rfl⟩
instance Zwc :SizeC prog 216 12:=⟨by kernel_rfl⟩
instance Zw4 :FaC prog 216 0 0:=⟨fun b o w=>by kernel_rfl⟩
instance Zxk :FaO prog 216 0 0 0:=⟨fun b w=>by kernel_rfl⟩
instance Zxc :FaO prog 216 1 0 10:=⟨fun b w=>by kernel_rfl⟩
instance Zyd (x:Ev):LdC prog 216 (eEv x) 0 (vEv x):=⟨ZJ 12⟩
instance Zxy (x:Ev):LdC prog 193 (eEv x) 0 (vBd x.b):=⟨ZJ 10⟩
instance Zyn (b:Bd):BdC prog 216 [(0,vBd b)] (vEv ⟨b,0,0⟩):=⟨fun w=>by kernel_rfl⟩
instance Zw0 (x:Ev)(v:Int):StC prog 3 (eEv x) (10+Int.toNat 0*1) (.int .i64 v) (eEv ⟨x.b,v,x.n1⟩):=⟨by kernel_rfl,by kernel_rfl,by kernel_rfl,by kernel_rfl⟩
instance Zxd (x:Ev)(v:Int):StC prog 3 (eEv x) (10+Int.toNat 1*1) (.int .i64 v) (eEv ⟨x.b,x.n0,v⟩):=⟨by kernel_rfl,by kernel_rfl,by kernel_rfl,by kernel_rfl⟩
instance ZuU (x y:Ev):SpecC prog 180 [vEv x,vEv y] (.int .i64 (cmpB x.b y.b)) (BdOk x.b/\BdOk y.b):=⟨fun hp w=>by
 refine Zb Tryz.func180 rfl Tryz.ntmps180 rfl ?_
 repeat(first|(refine wkB ?_;intros)|(refine wnM ?_ ?_;(focus(exact hp));intros))
 exact rtT rfl rfl⟩
end
section
noncomputable abbrev cmpE (x y:Ev):Int:=cmpB x.b y.b
def swpE (xs:List Ev)(j:Nat):List Ev:=(xs.set (j+1) (gi xs (j:Int))).set j (gi xs ((j+1:Nat):Int))
noncomputable def dwnE (xs:List Ev):Nat->List Ev
 |0=>xs
 |j+1=>if cmpE (gi xs ((j+1:Nat):Int)) (gi xs (j:Int))<0 then dwnE (swpE xs j) j else xs
noncomputable def srtE (xs:List Ev):Nat->List Ev
 |0=>xs
 |i+1=>dwnE (srtE xs i) (i+1)
theorem Zd6 (xs:List Ev)(j:Nat):(swpE xs j).length=xs.length:=by simp[swpE]
theorem Zg1 {xs:List Ev}{j:Nat}(h:j+1<xs.length){u:Ev}(hu:u∈swpE xs j):u∈xs:=by
 unfold swpE at hu
 rcases List.mem_or_eq_of_mem_set hu with h1|h1
 ·rcases List.mem_or_eq_of_mem_set h1 with h2|h2
  ·exact h2
  ·rw[h2,Zw (by omega)]
   exact List.getElem_mem _
 ·rw[h1,Zw h]
  exact List.getElem_mem _
theorem Zgp :∀(j:Nat)(xs:List Ev),(dwnE xs j).length=xs.length
 |0,_=>rfl
 |j+1,xs=>by
  rw[dwnE]
  split
  ·rw[Zgp j,Zd6]
  ·rfl
theorem Zgb :∀(j:Nat)(xs:List Ev),j<xs.length->∀u∈dwnE xs j,u∈xs
 |0,_,_,_,h=>h
 |j+1,xs,hj,u,h=>by
  rw[dwnE] at h
  split at h
  ·exact Zg1 hj (Zgb j _ (by rw[Zd6];omega) u h)
  ·exact h
theorem Zcc (xs:List Ev):∀i,(srtE xs i).length=xs.length
 |0=>rfl
 |i+1=>by rw[srtE,Zgp,Zcc xs i]
theorem Zde (xs:List Ev):∀i,i<xs.length->∀u∈srtE xs i,u∈xs
 |0,_,_,h=>h
 |i+1,hi,u,h=>by
  rw[srtE] at h
  exact Zde xs i (by omega) u (Zgb _ _ (by rw[Zcc];exact hi) u h)
theorem ZkB (w0 w:World)(L1:List Blk)(b c n:Nat)(xs:List Ev)(sp:List Value)(T:TypeId)(hn:xs.length=n)(hl:n<=1048576)(hok:∀u∈xs,BdOk u.b)(hw:Own w0 (⟨b,row eEv xs sp,T⟩::L1) w):
  Calls prog 230 [.slice (some ⟨b,0,none⟩) n c, .int .i64 0, .int .i64 n,vFn 180].toArray w (RetX w0 Unit (fun _=> .tuple #[]) (fun _=>⟨b,row eEv (srtE xs (n-1)) sp,T⟩::L1)):=by
 refine Zas Tryz.func230 rfl Tryz.ntmps230 rfl hw ?_
 repeat(refine wkB ?_;intros)
 refine Zp (S:=Nat) (fun m=>m<=n-1) (fun m=>[(0, .slice (some ⟨b,0,none⟩) n c),(1, .int .i64 0),(2, .int .i64 n),(3,vFn 180),(8, .int .i64 ((m+1:Nat)))]) (fun m=>⟨b,row eEv (srtE xs m) sp,T⟩::L1) (fun m=>n-1-m) 0 (Wm _) sbB slB (fun m hm=>?_)
 have hsl:=Zcc xs m
 repeat(refine wkB ?_;intros)
 refine Zi rfl (fun h=>?_) (fun h=>?_)
 ·have hlt:m+1<n:=by have:=Wa h;omega
  have hmem:=Zde xs m (by omega)
  repeat(refine wkB ?_;intros)
  refine Zp (S:=Nat×List Ev) (fun s=>dwnE s.2 s.1=srtE xs (m+1)/\s.2.length=n/\s.1<=m+1/\∀u∈s.2,BdOk u.b) (fun s=>[(0, .slice (some ⟨b,0,none⟩) n c),(1, .int .i64 0),(2, .int .i64 n),(3,vFn 180),(8, .int .i64 ((m+1:Nat))),(9, .int .i64 ((s.1:Nat)))]) (fun s=>⟨b,row eEv s.2 sp,T⟩::L1) (fun s=>s.1) (m+1,srtE xs m)
   ⟨rfl,by show(srtE xs m).length=n;omega,Wl _,fun u hu=>hok u (hmem u hu)⟩ sbB slB (fun s hs=>?_)
  obtain⟨j,ys⟩:=s
  obtain⟨g1,g2,g3,g4⟩:=hs
  simp only at g1 g2 g3 g4⊢
  repeat(refine wkB ?_;intros)
  rcases j with _|j
  ·(refine jD 17 17 (h:=?_);(repeat(refine wkH ?_));refine Zo ?_;(repeat(refine Z3 ?_;intro _));refine Zr ?_)
   repeat(refine wkB ?_;intros)
   exact Zf (m+1) (by omega) sbB (by rw[<-g1];exact Wj _) (by omega)
  ·have hj1:((j:Int)).toNat<ys.length:=by omega
   have hj2:(((j+1:Nat):Int)).toNat<ys.length:=by omega
   have e1:((j+1:Nat):Int)-1=(j:Int):=by omega
   have o1:=g4 _ (by rw[Zw (show j<ys.length by omega)];exact List.getElem_mem _:gi ys (j:Int)∈ys)
   have o2:=g4 _ (by rw[Zw (show j+1<ys.length by omega)];exact List.getElem_mem _:gi ys ((j+1:Nat):Int)∈ys)
   rw[dwnE] at g1
   refine jD 17 17 (h:=?_)
   (repeat(refine wkH ?_))
   simp only[Wc (show(0:Int)<((j+1:Nat):Int) by omega),e1]
   (repeat(refine wkH ?_))
   simp only[e1]
   (repeat(first|refine wkH ?_|(refine tC rfl rfl ?_ ?_;focus(exact⟨o2,o1⟩))))
   refine Zo ?_
   refine Zr ?_
   repeat(refine wkB ?_;intros)
   by_cases hc:cmpE (gi ys ((j+1:Nat):Int)) (gi ys (j:Int))<0
   ·rw[if_pos hc] at g1
    simp only[Wc hc]
    repeat(refine wkB ?_;intros)
    (refine ZmP [(true,[0,1,2,3,4,5,6,7,8]),(false,[9]),(true,[10,11,12]),(false,[13]),(true,[14])] [15,16,17] (h:=?_);refine wkS ?_)
    (repeat(refine wkH ?_))
    simp only[e1]
    refine Zo ?_
    refine eR rfl ?_ ?_
    ·omega
    refine uS rfl rfl ?_ ?_
    ·omega
    refine eR rfl ?_ ?_
    ·rw[List.length_set];omega
    refine Zbm ?_
    simp only[Int.toNat_natCast]
    repeat(first|(refine wkB ?_;intros)|(refine wnM ?_ ?_;(focus(exact⟨by omega,by omega⟩));intros))
    simp only[e1]
    exact Zf (j,swpE ys j) ⟨g1,by rw[Zd6];exact g2,by omega,fun u hu=>g4 u (Zg1 (by omega) hu)⟩ sbB slB (by show j<j+1;omega)
   ·rw[if_neg hc] at g1
    simp only[We hc]
    repeat(first|(refine wkB ?_;intros)|(refine wnM ?_ ?_;(focus(exact⟨by omega,by omega⟩));intros))
    exact Zf (m+1) (by omega) sbB (by rw[<-g1];exact Wj _) (by omega)
 ·have hge:m=n-1:=by have:=Wb h;omega
  subst hge
  repeat(refine wkB ?_;intros)
  exact Zby rfl (fun w hw=>⟨(),rfl,hw⟩)
abbrev SrtSE (xs:List Ev)(s:SlS eEv 12 xs):Type:={s':SlS eEv 12 (srtE xs (xs.length-1)) // vSl s'=vSl s}
theorem Zjj (w0 w:World)(L L1:List Blk)(xs:List Ev)(s:SlS eEv 12 xs)(T:TypeId)[hd:OwnS T s L L1](hl:xs.length<=1048576)(hok:∀u∈xs,BdOk u.b)(hw:Own w0 L w):
  Calls prog 230 [vSl s, .int .i64 0, .int .i64 xs.length,vFn 180].toArray w (RetX w0 (SrtSE xs s) (fun _=> .tuple #[]) (fun s'=>mS T s'.1++L1)):=by
 have hw1:=hw.perm hd.out
 rcases s.cases T with⟨rfl,hv,hm⟩|⟨b,c,sp,h1,hv,hm,hne⟩
 ·suffices h:Calls prog 230 [.slice none 0 0, .int .i64 0, .int .i64 (([]:List Ev).length:Nat),vFn 180].toArray w (RetX w0 (SrtSE [] s) (fun _=> .tuple #[]) (fun s'=>mS T s'.1++L1)) by
   rw[<-hv] at h
   exact h
  refine Zas Tryz.func230 rfl Tryz.ntmps230 rfl hw1 ?_
  repeat(refine wkB ?_;intros)
  refine Zp (S:=Unit) (fun _=>True) (fun _=>[(2, .int .i64 (([]:List Ev).length:Nat)),(8, .int .i64 1)]) (fun _=>mS T s++L1) (fun _=>0) () trivial sbB slB (fun _ _=>?_)
  repeat(refine wkB ?_;intros)
  simp only[We (show¬(1:Int)<((([]:List Ev).length:Nat):Int) by simp)]
  repeat(refine wkB ?_;intros)
  exact Zby rfl (fun w hw=>⟨⟨s,rfl⟩,rfl,hw⟩)
 ·suffices h:Calls prog 230 [.slice (some ⟨b,0,none⟩) xs.length c, .int .i64 0, .int .i64 xs.length,vFn 180].toArray w (RetX w0 (SrtSE xs s) (fun _=> .tuple #[]) (fun s'=>mS T s'.1++L1)) by
   rw[<-hv] at h
   exact h
  rw[hm] at hw1
  have hsl:=Zcc xs (xs.length-1)
  refine(ZkB w0 w L1 b c xs.length xs sp T rfl hl hok hw1).mono fun e w' ⟨_,he,hw'⟩=>?_
  exact⟨⟨SlS.at_ b c sp (by rw[hsl];exact h1) (fun h0=>hne (List.length_eq_zero_iff.1 (by rw[h0,Wx] at hsl;exact hsl.symm))),by rw[hv];show Value.slice _ (srtE xs (xs.length-1)).length c=_;rw[hsl]⟩,he,hw'⟩
instance Zvw (w0:World)(L L1:List Blk)(xs:List Ev)(s:SlS eEv 12 xs)(T:TypeId)[hd:OwnS T s L L1]:SpecX prog w0 L 230 [vSl s, .int .i64 0, .int .i64 xs.length,vFn 180] (SrtSE xs s) (fun _=> .tuple #[]) (fun s'=>mS T s'.1++L1) (xs.length<=1048576/\∀u∈xs,BdOk u.b):=⟨fun hp w hw=>Zjj w0 w L L1 xs s T hp.1 hp.2 hw⟩
end
section
def OrdE (xs:List Ev):Prop:=∀p q:Nat,p<q->q<xs.length->¬cmpE (gi xs (q:Int)) (gi xs (p:Int))<0
theorem Zf6 {xs:List Ev}(h:OrdE xs):∀i,i<=xs.length-1->srtE xs i=xs
 |0,_=>rfl
 |i+1,hi=>by
  rw[srtE,Zf6 h i (by omega),dwnE,if_neg (h i (i+1) (by omega) (by omega))]
structure OkE (xs:List Ev)(n:Nat):Prop where
 l:xs.length=n
 n:n<=1048576
 k:∀u∈xs,BdOk u.b
 o:OrdE xs
theorem OkE.two {xs:List Ev}{n:Nat}(h:OkE xs n){i j:Int}(hi:0<=i/\i<n)(hj:0<=j/\j<n):BdOk (gi xs i).b/\BdOk (gi xs j).b:=by
 have:=h.l
 exact⟨h.k _ (ZB (by omega)),h.k _ (ZB (by omega))⟩
theorem OkE.ge {xs:List Ev}{n:Nat}(h:OkE xs n){i j:Int}(hi:0<=i/\i<j)(hj:j<n):¬cmpE (gi xs j) (gi xs i)<0:=by
 have:=h.l
 have h1:=h.o i.toNat j.toNat (by omega) (by omega)
 rw[show((j.toNat:Nat):Int)=j by omega,show((i.toNat:Nat):Int)=i by omega] at h1
 exact h1
section
variable (w0 : World) (L : List Blk) (b c n : Nat) (xs : List Ev) (sp : List Value) (T : TypeId)
instance Zr3 (i j:Int)(bs:Nat)[h:AtC w0 L b (row eEv xs sp) T]:SpecM prog w0 L 259 [.slice (some ⟨b,0,none⟩) n c, .int .i64 i, .int .i64 j, .pointer (some ⟨bs,0,none⟩),vFn 180] (.tuple #[.int .i64 i, .int .i64 j]) (OkE xs n/\(0<=i/\i<j)/\j<n):=⟨fun hp w hw=>by
 obtain⟨hk,hi,hj⟩:=hp
 have hl:=hk.l
 have:=FoC.mk (h.out w hw)
 have h2:=hk.two (i:=j) (j:=i) ⟨by omega,hj⟩ ⟨hi.1,by omega⟩
 have h3:=hk.ge hi hj
 refine Zb Tryz.func259 rfl Tryz.ntmps259 rfl ?_
 repeat(refine wkB ?_;intros)
 (refine ZE (.v [0,1,2,3,4,5,6,7,8,9,10] (.fin)) ([]) (h:=?_);refine wkX ?_)
 (repeat(first|refine wkH ?_|(refine tC rfl rfl ?_ ?_;focus(exact h2))))
 repeat(refine wkT ?_;intros)
 simp only[We h3]
 repeat(refine wkB ?_;intros)
 exact ZF rfl (Zv rfl) (Zv rfl) (fun w hw=>ZO hw)⟩
instance Zsm (i j k:Int)(bs:Nat)[h:AtC w0 L b (row eEv xs sp) T]:SpecM prog w0 L 250 [.slice (some ⟨b,0,none⟩) n c, .int .i64 i, .int .i64 j, .int .i64 k, .pointer (some ⟨bs,0,none⟩),vFn 180] (.int .i64 j) (OkE xs n/\(0<=i/\i<j)/\j<k/\k<n):=⟨fun hp w hw=>by
 obtain⟨hk,hi,hj,hn⟩:=hp
 have:=FoC.mk (h.out w hw)
 have q1:OkE xs n/\(0<=i/\i<j)/\j<n:=⟨hk,hi,by omega⟩
 have q2:OkE xs n/\(0<=j/\j<k)/\k<n:=⟨hk,⟨by omega,hj⟩,hn⟩
 refine Zb Tryz.func250 rfl Tryz.ntmps250 rfl ?_
 repeat(first|(refine wkB ?_;intros)|(refine wnM ?_ ?_;(focus(first|exact q1|exact q2));intros))
 exact rtT rfl rfl⟩
instance Zt9 [h:AtC w0 L b (row eEv xs sp) T]:SpecM prog w0 L 233 [.slice (some ⟨b,0,none⟩) n c, .int .i64 0, .int .i64 n,vFn 180] (.tuple #[.int .i64 (0+((n:Int)-0) / 4*2), .int .i64 1]) (OkE xs n/\12<n/\n<50):=⟨fun hp w hw=>by
 obtain⟨hk,h1,h2⟩:=hp
 have:=FoC.mk (h.out w hw)
 have q:OkE xs n/\(0<=0+((n:Int)-0) / 4*1/\0+((n:Int)-0) / 4*1<0+((n:Int)-0) / 4*2)/\0+((n:Int)-0) / 4*2<0+((n:Int)-0) / 4*3/\0+((n:Int)-0) / 4*3<n:=⟨hk,by omega,by omega,by omega⟩
 refine Zb Tryz.func233 rfl Tryz.ntmps233 rfl ?_
 repeat(refine wkB ?_;intros)
 simp only[Wc (show(8:Int)<=(n:Int)-0 by omega)]
 repeat(refine wkB ?_;intros)
 simp only[We (show¬(50:Int)<=(n:Int)-0 by omega)]
 repeat(first|(refine wkB ?_;intros)|(refine wnM ?_ ?_;(focus(exact q));intros))
 simp only[Wc (show(0:Int)=0 from rfl)]
 repeat(refine wkB ?_;intros)
 exact ZF rfl (Zv rfl) (Zv rfl) (fun w hw=>ZO hw)⟩
instance Zq7 [h:AtC w0 L b (row eEv xs sp) T]:SpecM prog w0 L 235 [.slice (some ⟨b,0,none⟩) n c, .int .i64 0, .int .i64 n,vFn 180] (.bool true) (OkE xs n/\12<n/\n<50):=⟨fun hp w hw=>by
 obtain⟨hk,h1,h2⟩:=hp
 have hl:=hk.l
 have:=FoC.mk (h.out w hw)
 refine Zb Tryz.func235 rfl Tryz.ntmps235 rfl ?_
 repeat(refine wkB ?_;intros)
 refine Zp (S:=Unit) (fun _=>True) (fun _=>[(0, .slice (some ⟨b,0,none⟩) n c),(1, .int .i64 0),(2, .int .i64 n),(3,vFn 180),(9, .int .i64 1),(10, .int .i64 0)]) (fun _=>[]) (fun _=>0) () trivial sbB slB (fun _ _=>?_)
 repeat(refine wkB ?_;intros)
 simp only[Wc (show(0:Int)<5 by decide)]
 repeat(refine wkB ?_;intros)
 refine Zp (S:=Nat) (fun m=>m+1<=n) (fun m=>[(0, .slice (some ⟨b,0,none⟩) n c),(1, .int .i64 0),(2, .int .i64 n),(3,vFn 180),(9, .int .i64 ((m+1:Nat):Int))]) (fun _=>[]) (fun m=>n-m) 0 (by omega) sbB slB (fun m hm=>?_)
 by_cases hc:m+1<n
 ·have e1:((m+1:Nat):Int)-1=(m:Int):=by omega
  have q2:=hk.two (i:=((m+1:Nat):Int)) (j:=(m:Int)) ⟨by omega,by omega⟩ ⟨by omega,by omega⟩
  have q3:=hk.ge (i:=(m:Int)) (j:=((m+1:Nat):Int)) ⟨by omega,by omega⟩ (by omega)
  repeat(refine wkB ?_;intros)
  (refine ZE (.v [0,1,2,3,4,5,6,7,8,9,10,11,12,13,14,15,16,17] (.fin)) ([]) (h:=?_);refine wkX ?_)
  (repeat(refine wkH ?_))
  simp only[Wc (show((m+1:Nat):Int)<(n:Int) by omega)]
  (repeat(refine wkH ?_))
  simp only[e1]
  (repeat(first|refine wkH ?_|(refine tC rfl rfl ?_ ?_;focus(exact q2))))
  simp only[We q3,Bool.not_false]
  (repeat(refine wkH ?_))
  repeat(refine wkT ?_;intros)
  repeat(first|(refine wkB ?_;intros)|(refine wnM ?_ ?_;(focus(exact⟨by omega,by omega⟩));intros))
  exact Zf (m+1) hc sbB slB (by omega)
 ·have hn:m+1=n:=by omega
  subst hn
  repeat(refine wkB ?_;intros)
  (refine ZE (.v [0,1,2,3,4,5,6,7,8,9,10,11,12,13,14,15,16,17] (.fin)) ([]) (h:=?_);refine wkX ?_)
  (repeat(refine wkH ?_))
  simp only[We (show¬((m+1:Nat):Int)<((m+1:Nat):Int) by omega)]
  (repeat(refine wkH ?_))
  repeat(refine wkT ?_;intros)
  repeat(refine wkB ?_;intros)
  simp only[Wc (show((m+1:Nat):Int)=((m+1:Nat):Int) from rfl)]
  repeat(refine wkB ?_;intros)
  exact rtT rfl rfl⟩
end
end
section
theorem ZjG (w0 w:World)(L L1:List Blk)(xs:List Ev)(s:SlS eEv 12 xs)(T:TypeId)(lim:Int)[hd:OwnS T s L L1](hl:xs.length<=12)(hok:∀u∈xs,BdOk u.b)(hw:Own w0 L w):
  Calls prog 212 [vSl s, .int .i64 0, .int .i64 xs.length, .int .i64 lim,vFn 180].toArray w (RetX w0 (SrtSE xs s) (fun _=> .tuple #[]) (fun s'=>mS T s'.1++L1)):=by
 refine Zas Tryz.func212 rfl Tryz.ntmps212 rfl hw ?_
 repeat(refine wkB ?_;intros)
 refine Zp (S:=Unit) (fun _=>True) (fun _=>[(0,vSl s),(1, .int .i64 0),(2, .int .i64 xs.length),(3, .int .i64 lim),(4,vFn 180),(10, .bool true),(11, .bool true)]) (fun _=>L) (fun _=>0) () trivial sbB slB (fun _ _=>?_)
 repeat(refine wkB ?_;intros)
 simp only[Wc (show(xs.length:Int)-0<=12 by omega)]
 repeat(refine wkB ?_;intros)
 refine sZ rfl rfl ?_ ?_
 ·exact⟨by omega,hok⟩
 intro s'
 repeat(refine wkB ?_;intros)
 exact Zix rfl (fun w hw=>⟨s',rfl,hw⟩)
theorem Zkd (w0:World)(L:List Blk)(b c n:Nat)(xs:List Ev)(sp:List Value)(T:TypeId)(lim:Int)[h:AtC w0 L b (row eEv xs sp) T](hk:OkE xs n)(h1:12<n)(h2:n<50)(h3:1<=lim)(w:World)(hw:Own w0 L w):
  Calls prog 212 [.slice (some ⟨b,0,none⟩) n c, .int .i64 0, .int .i64 n, .int .i64 lim,vFn 180].toArray w (Ret (.tuple #[]) w):=by
 have:=FoC.mk (h.out w hw)
 have hn:=hk.n
 refine Zb Tryz.func212 rfl Tryz.ntmps212 rfl ?_
 repeat(refine wkB ?_;intros)
 refine Zp (S:=Unit) (fun _=>True) (fun _=>[(0, .slice (some ⟨b,0,none⟩) n c),(1, .int .i64 0),(2, .int .i64 n),(3, .int .i64 lim),(4,vFn 180),(10, .bool true),(11, .bool true)]) (fun _=>[]) (fun _=>0) () trivial sbB slB (fun _ _=>?_)
 repeat(refine wkB ?_;intros)
 simp only[We (show¬(n:Int)-0<=12 by omega)]
 repeat(refine wkB ?_;intros)
 simp only[We (show¬lim=0 by omega)]
 repeat(first|(refine wkB ?_;intros)|(refine wnM ?_ ?_;(focus(exact⟨hk,h1,h2⟩));intros))
 simp only[We (show¬(1:Int)=2 by decide)]
 repeat(first|(refine wkB ?_;intros)|(refine wnM ?_ ?_;(focus(exact⟨hk,h1,h2⟩));intros))
 try simp only[Wc (show(1:Int)=1 from rfl)]
 repeat(first|(refine wkB ?_;intros)|(refine wnM ?_ ?_;(focus(exact⟨hk,h1,h2⟩));intros))
 exact Zix rfl (fun w hw=>ZO hw)
instance Zwh (w0:World)(L L1:List Blk)(xs:List Ev)(s:SlS eEv 12 xs)(T:TypeId)(lim:Int)[hd:OwnS T s L L1]:SpecX prog w0 L 212 [vSl s, .int .i64 0, .int .i64 xs.length, .int .i64 lim,vFn 180] (SrtSE xs s) (fun _=> .tuple #[]) (fun s'=>mS T s'.1++L1) ((xs.length<=12\/(OrdE xs/\xs.length<50/\1<=lim))/\∀u∈xs,BdOk u.b):=⟨fun hp w hw=>by
 obtain⟨hp1,hp2⟩:=hp
 by_cases h12:xs.length<=12
 ·exact ZjG w0 w L L1 xs s T lim h12 hp2 hw
 ·obtain⟨ho,h50,hlim⟩:=hp1.resolve_left h12
  have hw1:=hw.perm hd.out
  rcases s.cases T with⟨h0, -, -⟩|⟨b,c,sp,hc,hv,hm,hne⟩
  ·rw[h0] at h12;simp at h12
  ·have hk:OkE xs xs.length:=⟨rfl,by omega,hp2,ho⟩
   obtain⟨s',e1,e2⟩:=SlS.turn T (Zf6 ho (xs.length-1) (Wl _)).symm s
   have hA:AtC w0 (⟨b,row eEv xs sp,T⟩::L1) b (row eEv xs sp) T:=inferInstance
   rw[hm] at hw1
   have key:=Zkd w0 (⟨b,row eEv xs sp,T⟩::L1) b c xs.length xs sp T lim hk (by omega) h50 hlim w hw1
   rw[<-hv] at key
   refine key.mono fun e w' ⟨he,hx⟩=>⟨⟨s',e1⟩,he, ?_⟩
   show Own w0 (mS T s'++L1) w'
   rw[e2,hm]
   exact hw1.to hx⟩
instance ZpG (x:Nat):SpecC prog 148 [.int .u64 (x:Int)] (.int .i64 (Lib.bitLen x)) ((x:Int)<=18446744073709551615):=⟨fun hp w=>(Tryz.bits_Len x w (by omega) hp).mono fun e w' ⟨h1,h2⟩=>by
 subst h2
 exact⟨h1,Ext.refl _⟩⟩
theorem Zi7 (w0 w:World)(L L1:List Blk)(xs:List Ev)(s:SlS eEv 12 xs)(T:TypeId)[hd:OwnS T s L L1](hl:xs.length<=12\/(OrdE xs/\xs.length<50))(hok:∀u∈xs,BdOk u.b)(hw:Own w0 L w):
  Calls prog 179 [vSl s,vFn 180].toArray w (RetX w0 (SrtSE xs s) (fun _=> .tuple #[]) (fun s'=>mS T s'.1++L1)):=by
 refine Zas Tryz.func179 rfl Tryz.ntmps179 rfl hw ?_
 repeat(first|(refine wkB ?_;intros)|(refine wnM ?_ ?_;(focus(omega));intros))
 refine sZ rfl rfl ?_ ?_
 ·by_cases h0:xs.length<=12
  ·exact⟨.inl h0,hok⟩
  ·obtain⟨k1,k2⟩:=hl.resolve_left h0
   refine⟨.inr ⟨k1,k2, ?_⟩,hok⟩
   have:=Lib.bitLen_half xs.length (by omega) (by omega)
   omega
 intro s'
 repeat(refine wkB ?_;intros)
 exact Zby rfl (fun w hw=>⟨s',rfl,hw⟩)
instance Zvb (w0:World)(L L1:List Blk)(xs:List Ev)(s:SlS eEv 12 xs)(T:TypeId)[hd:OwnS T s L L1]:SpecX prog w0 L 179 [vSl s,vFn 180] (SrtSE xs s) (fun _=> .tuple #[]) (fun s'=>mS T s'.1++L1) ((xs.length<=12\/(OrdE xs/\xs.length<50))/\∀u∈xs,BdOk u.b):=⟨fun hp w hw=>Zi7 w0 w L L1 xs s T hp.1 hp.2 hw⟩
end
section
def eSlc (x:Sl):Array Value:=#[.slice x.a x.len x.cap]
instance : Inhabited Sl:=⟨⟨none,0,0⟩⟩
instance ZwL :EncC eSlc 1:=⟨fun _=>rfl,fun x=>by simp[eSlc,Value.oneCell']⟩
instance Zxa (x:Sl):LdC prog 47 (eSlc x) 0 (.slice x.a x.len x.cap):=⟨ZD⟩
instance Zxp (a a':Option Addr)(l l' c c':Nat):BsC prog 214 2 [(0, .slice a l c),(1, .slice a' l' c')] (row eSlc [⟨a,l,c⟩,⟨a',l',c'⟩] []) 47:=⟨fun w=>by kernel_rfl⟩
def evA (is:List Za):Nat->List Ev
 |0=>[]
 |m+1=>evA is m++[⟨bdF (gi is (m:Int)),1,0⟩,⟨bdL (gi is (m:Int)), -1,0⟩]
def evB (is:List Za):Nat->List Ev
 |0=>[]
 |m+1=>evB is m++[⟨bdF (gi is (m:Int)),0,1⟩,⟨bdL (gi is (m:Int)),0, -1⟩]
def kpU (a b:Bool):Bool:=a||b
structure SwS where
 n0:Int
 n1:Int
 fr:Bd
 on:Bool
 out:List Za
noncomputable def sws (kp:Bool->Bool->Bool)(l:List Ev):Nat->SwS
 |0=>⟨0,0,Zah,false,[]⟩
 |m+1=>
  let p:=sws kp l m
  let x:=gi l (m:Int)
  let n0:=p.n0+x.n0
  let n1:=p.n1+x.n1
  if m+1<l.length/\cmpB x.b (gi l ((m+1:Nat):Int)).b=0 then⟨n0,n1,p.fr,p.on,p.out⟩
  else
   let now:=kp (decide (0<n0)) (decide (0<n1))
   ⟨n0,n1,if now&& !p.on then x.b else p.fr,now,if now&& !p.on then p.out else if !now&&p.on then p.out++[bdB p.fr x.b] else p.out⟩
theorem ZdL (is:List Za):∀m,(evA is m).length=2*m
 |0=>rfl
 |m+1=>by rw[evA,Wp,ZdL is m];simp;omega
theorem Ze0 (is:List Za):∀m,(evB is m).length=2*m
 |0=>rfl
 |m+1=>by rw[evB,Wp,Ze0 is m];simp;omega
end
section
instance (priority :=high) Zx3 {P:Program}{w0:World}{n:Nat}{L:List Blk}{E:Env}{T T0:TypeId}{x:Operand}{b:Nat}{i:Int}{a1 a2:Sl}[IsC (evl E x) (.pointer (some ⟨b,0+i.toNat*1,none⟩))][h:AtC w0 L b (row eSlc [a1,a2] []) T0][hv:LdC P T (eSlc (gi [a1,a2] i)) 0 (.slice (gi [a1,a2] i).a (gi [a1,a2] i).len (gi [a1,a2] i).cap)]:YsC P w0 n L E (.load T x) (.slice (gi [a1,a2] i).a (gi [a1,a2] i).len (gi [a1,a2] i).cap) (0<=i/\i<2):=⟨fun hi=>ZeV.out (by show i.toNat<2;omega)⟩
theorem ZnT (x y:Ev):∀w:World,(Instr.buildSlice 213 2 [(0,vEv x),(1,vEv y)].toArray).run prog w= .ok (.slice (some ⟨w.heap.size,0,none⟩) 2 2) (w.alloc (.cells (row eEv [x,y] []) 216)):=fun w=>by kernel_rfl
instance Zw5 (x y:Ev):BsC prog 213 2 [(0,vEv x),(1,vEv y)] (row eEv [x,y] []) 216:=⟨ZnT x y⟩
instance (priority :=high) ZxB {P:Program}{w0:World}{n:Nat}{L:List Blk}{E:Env}{T T0:TypeId}{x:Operand}{b:Nat}{i a1 a2:Int}[IsC (evl E x) (.pointer (some ⟨b,0+i.toNat*1,none⟩))][h:AtC w0 L b (row (eI .i64) [a1,a2] []) T0][hv:LdC P T (eI .i64 (gi [a1,a2] i)) 0 (.int .i64 (gi [a1,a2] i))]:YsC P w0 n L E (.load T x) (.int .i64 (gi [a1,a2] i)) (0<=i/\i<2):=⟨fun hi=>ZeV.out (by show i.toNat<2;omega)⟩
instance ZwS (x:Ev):LdC prog 3 (eEv x) (10+Int.toNat 0*1) (.int .i64 x.n0):=⟨ZD⟩
instance ZwK (x:Ev):LdC prog 3 (eEv x) (10+Int.toNat 1*1) (.int .i64 x.n1):=⟨ZD⟩
def evK (is js:List Za)(k:Nat):List Ev:=if k=0 then [] else if k=1 then evA is is.length else evA is is.length++evB js js.length
theorem Zkq {is:List Za}(h:∀i∈is,BdOk (bdF i)/\BdOk (bdL i)):∀m,m<=is.length->∀u∈evA is m,BdOk u.b
 |0,_,u,hu=>by cases hu
 |m+1,hm,u,hu=>by
  rw[evA] at hu
  have hi:=h _ (ZB (i:=(m:Int)) (xs:=is) (by omega))
  rcases List.mem_append.1 hu with k|k
  ·exact Zkq h m (by omega) u k
  ·rcases List.mem_cons.1 k with k1|k1
   ·rw[k1];exact hi.1
   ·rw[List.mem_singleton.1 k1];exact hi.2
theorem Zkb {is:List Za}(h:∀i∈is,BdOk (bdF i)/\BdOk (bdL i)):∀m,m<=is.length->∀u∈evB is m,BdOk u.b
 |0,_,u,hu=>by cases hu
 |m+1,hm,u,hu=>by
  rw[evB] at hu
  have hi:=h _ (ZB (i:=(m:Int)) (xs:=is) (by omega))
  rcases List.mem_append.1 hu with k|k
  ·exact Zkb h m (by omega) u k
  ·rcases List.mem_cons.1 k with k1|k1
   ·rw[k1];exact hi.1
   ·rw[List.mem_singleton.1 k1];exact hi.2
def Ev1 (x:Ev):Prop:=(-1<=x.n0/\x.n0<=1)/\(-1<=x.n1/\x.n1<=1)
theorem ZmD (is:List Za):∀m,∀u∈evA is m,Ev1 u
 |0,u,hu=>by cases hu
 |m+1,u,hu=>by
  rw[evA] at hu
  rcases List.mem_append.1 hu with k|k
  ·exact ZmD is m u k
  ·rcases List.mem_cons.1 k with k1|k1
   ·rw[k1];unfold Ev1;simp
   ·rw[List.mem_singleton.1 k1];unfold Ev1;simp
theorem ZmF (is:List Za):∀m,∀u∈evB is m,Ev1 u
 |0,u,hu=>by cases hu
 |m+1,u,hu=>by
  rw[evB] at hu
  rcases List.mem_append.1 hu with k|k
  ·exact ZmF is m u k
  ·rcases List.mem_cons.1 k with k1|k1
   ·rw[k1];unfold Ev1;simp
   ·rw[List.mem_singleton.1 k1];unfold Ev1;simp
theorem Zig {kp:Bool->Bool->Bool}{l:List Ev}(h:∀x∈l,Ev1 x):∀m:Nat,m<=l.length->(-(m:Int)<=(sws kp l m).n0/\(sws kp l m).n0<=m)/\(-(m:Int)<=(sws kp l m).n1/\(sws kp l m).n1<=m)
 |0,_=>by simp[sws]
 |m+1,hm=>by
  obtain⟨h1,h2⟩:=Zig (kp:=kp) h m (by omega)
  obtain⟨h3,h4⟩:=h _ (ZB (i:=(m:Int)) (xs:=l) (by omega))
  rw[sws]
  simp only
  split
  ·exact⟨⟨by show _<=(sws kp l m).n0+(gi l (m:Int)).n0;omega,by show(sws kp l m).n0+(gi l (m:Int)).n0<=_;omega⟩,by show _<=(sws kp l m).n1+(gi l (m:Int)).n1;omega,by show(sws kp l m).n1+(gi l (m:Int)).n1<=_;omega⟩
  ·exact⟨⟨by show _<=(sws kp l m).n0+(gi l (m:Int)).n0;omega,by show(sws kp l m).n0+(gi l (m:Int)).n0<=_;omega⟩,by show _<=(sws kp l m).n1+(gi l (m:Int)).n1;omega,by show(sws kp l m).n1+(gi l (m:Int)).n1<=_;omega⟩
noncomputable def swpR (kp:Bool->Bool->Bool)(is js:List Za):List Za:=(sws kp (srtE (evK is js 2) ((evK is js 2).length-1)) (srtE (evK is js 2) ((evK is js 2).length-1)).length).out
theorem Zil (kp:Bool->Bool->Bool)(l:List Ev):∀m,(sws kp l m).out.length<=m
 |0=>Wl _
 |m+1=>by
  have:=Zil kp l m
  rw[sws]
  simp only
  split
  ·show(sws kp l m).out.length<=m+1
   omega
  ·simp only
   split
   ·omega
   ·split
    ·rw[Wp];simp;omega
    ·omega
set_option maxHeartbeats 4000000 in
theorem Zi2 (kf:FuncId)(kp:Bool->Bool->Bool)[CallC prog kf](hkp:∀a b,SpecC prog kf [.bool a, .bool b] (.bool (kp a b)) True)(v1 v2:Value)(is js:List Za)(w:World)(hv1:ArgS w v1 rI is)(hv2:ArgS w v2 rI js)(hlo:2*is.length+2*js.length<=12\/(OrdE (evA is is.length++evB js js.length)/\2*is.length+2*js.length<50))(ho1:∀i∈is,BdOk (bdF i)/\BdOk (bdL i))(ho2:∀i∈js,BdOk (bdF i)/\BdOk (bdL i)):
  Calls prog 138 [v1,v2,vFn kf].toArray w (RetM (SlS rI 20 (swpR kp is js)) (fun s=>vSl s) (fun s=>mS 37 s) w):=by
 have hl:2*is.length+2*js.length<50:=hlo.elim (fun h=>by omega) (fun h=>h.2)
 refine Zb Tryz.func138 rfl Tryz.ntmps138 rfl ?_
 obtain⟨p1,c1,rfl⟩:=hv1.form
 obtain⟨p2,c2,rfl⟩:=hv2.form
 repeat(refine wkB ?_;intros)
 rename_i b23
 refine Zp (S:=(ys:List Ev)×Nat×SlS eEv 12 ys) (fun s=>s.1=evK is js s.2.1/\s.2.1<=2) (fun s=>[(2,vFn kf),(7,vSl s.2.2),(23, .slice (some ⟨b23,0,none⟩) 2 2),(24, .int .i64 2),(25, .int .i64 (s.2.1:Nat))])
  (fun s=>mS 216 s.2.2++[⟨b23,row eSlc [⟨p1,is.length,c1⟩,⟨p2,js.length,c2⟩] [],47⟩]) (fun s=>2-s.2.1) ⟨[],0,SlS.no⟩ ⟨rfl,Wm _⟩ sbB slB (fun s hs=>?_)
 obtain⟨ys,k,s⟩:=s
 obtain⟨hys,hk⟩:=hs
 simp only at hys hk s⊢
 have hz:prog.info? 0=prog.info? 0:=rfl
 repeat(refine wkB ?_;intros)
 rcases(by omega:k=0\/k=1\/k=2) with h0|h0|h0
 ·subst h0
  simp only[Wc (show((0:Nat):Int)<2 by omega)]
  repeat(refine wkB ?_;intros)
  simp only[show gi [(⟨p1,is.length,c1⟩:Sl),⟨p2,js.length,c2⟩] ((0:Nat):Int)=⟨p1,is.length,c1⟩ from rfl]
  repeat(refine wkB ?_;intros)
  refine Zp (S:=(zs:List Ev)×Nat×SlS eEv 12 zs) (fun r=>r.1=evA is r.2.1/\r.2.1<=is.length) (fun r=>[(2,vFn kf),(7,vSl r.2.2),(8, .int .i64 0),(23, .slice (some ⟨b23,0,none⟩) 2 2),(24, .int .i64 2),(25, .int .i64 0),(30, .slice p1 is.length c1),(31, .int .i64 is.length),(32, .int .i64 (r.2.1:Nat))])
   (fun r=>mS 216 r.2.2++[⟨b23,row eSlc [⟨p1,is.length,c1⟩,⟨p2,js.length,c2⟩] [],47⟩]) (fun r=>is.length-r.2.1) ⟨ys,0,s⟩ ⟨hys,Wm _⟩ sbB slB (fun r hr=>?_)
  obtain⟨zs,m,r⟩:=r
  obtain⟨hzs,hm⟩:=hr
  simp only at hzs hm r⊢
  repeat(refine wkB ?_;intros)
  refine Zi rfl (fun h=>?_) (fun h=>?_)
  ·have hlt:m<is.length:=by have:=Wa h;omega
   have hne:is≠[]:=fun h0=>by rw[h0] at hlt;simp at hlt
   obtain⟨bw,ow,cw,hvw,hcw,hrow⟩:=hv1.blk (k:=19) hne []
   injection hvw with e1 e2 e3
   subst e1
   subst e3
   have hrow':∀L,RowC w L bw ow Za rI is:=fun L=>⟨fun w' hw'=>hrow.out w' (hw'.sub (Wk _))⟩
   have hel:=ZdL is m
   repeat(refine wkB ?_;intros)
   rename_i b11
   obtain⟨iv,hiv⟩:∃iv,iv=gi is (m:Int):=⟨_,rfl⟩
   simp only[<-hiv]
   (refine ZbJ [0,1,2,3,4,5] [6,7] [8,9] ([⟨b11,Zj (Zl iv),37⟩]) (h:=?_);refine wkI ?_)
   (repeat(refine wkH ?_))
   repeat(refine wkT ?_;intros)
   repeat(refine wkB ?_;intros)
   refine sU rfl rfl ?_ ?_ ?_ ?_
   ·rfl
   ·rfl
   ·exact⟨by decide,by rw[hzs];omega,by rw[hzs];omega⟩
   intro r'
   repeat(first|(refine wkB ?_;intros)|(refine wnM ?_ ?_;(focus(exact⟨by omega,by omega⟩));intros))
   exact Zf ⟨_,m+1,r'⟩ ⟨by show zs++_=evA is m++_;rw[hzs,hiv],hlt⟩ sbB suB (by show is.length-(m+1)<is.length-m;omega)
  ·have hge:m=is.length:=by have:=Wb h;omega
   subst hge
   repeat(refine wkB ?_;intros)
   exact Zf ⟨zs,1,r⟩ ⟨hzs,Nat.le_of_ble_eq_true rfl⟩ sbB suB (by show 2-1<2-0;decide)
 ·subst h0
  simp only[Wc (show((1:Nat):Int)<2 by omega)]
  repeat(refine wkB ?_;intros)
  simp only[show gi [(⟨p1,is.length,c1⟩:Sl),⟨p2,js.length,c2⟩] ((1:Nat):Int)=⟨p2,js.length,c2⟩ from rfl]
  repeat(refine wkB ?_;intros)
  refine Zp (S:=(zs:List Ev)×Nat×SlS eEv 12 zs) (fun r=>r.1=evA is is.length++evB js r.2.1/\r.2.1<=js.length) (fun r=>[(2,vFn kf),(7,vSl r.2.2),(8, .int .i64 1),(23, .slice (some ⟨b23,0,none⟩) 2 2),(24, .int .i64 2),(25, .int .i64 1),(30, .slice p2 js.length c2),(31, .int .i64 js.length),(32, .int .i64 (r.2.1:Nat))])
   (fun r=>mS 216 r.2.2++[⟨b23,row eSlc [⟨p1,is.length,c1⟩,⟨p2,js.length,c2⟩] [],47⟩]) (fun r=>js.length-r.2.1) ⟨ys,0,s⟩ ⟨by rw[evB,Wh];exact hys,Wm _⟩ sbB slB (fun r hr=>?_)
  obtain⟨zs,m,r⟩:=r
  obtain⟨hzs,hm⟩:=hr
  simp only at hzs hm r⊢
  repeat(refine wkB ?_;intros)
  refine Zi rfl (fun h=>?_) (fun h=>?_)
  ·have hlt:m<js.length:=by have:=Wa h;omega
   have hne:js≠[]:=fun h0=>by rw[h0] at hlt;simp at hlt
   obtain⟨bw,ow,cw,hvw,hcw,hrow⟩:=hv2.blk (k:=19) hne []
   injection hvw with e1 e2 e3
   subst e1
   subst e3
   have hrow':∀L,RowC w L bw ow Za rI js:=fun L=>⟨fun w' hw'=>hrow.out w' (hw'.sub (Wk _))⟩
   have hel:=Ze0 js m
   have hel2:=ZdL is is.length
   repeat(refine wkB ?_;intros)
   rename_i b11
   obtain⟨iv,hiv⟩:∃iv,iv=gi js (m:Int):=⟨_,rfl⟩
   simp only[<-hiv]
   (refine ZbJ [0,1,2,3,4,5] [6,7] [8,9] ([⟨b11,Zj (Zl iv),37⟩]) (h:=?_);refine wkI ?_)
   (repeat(refine wkH ?_))
   repeat(refine wkT ?_;intros)
   repeat(refine wkB ?_;intros)
   refine sU rfl rfl ?_ ?_ ?_ ?_
   ·rfl
   ·rfl
   ·exact⟨by decide,by rw[hzs,Wp];omega,by rw[hzs,Wp];omega⟩
   intro r'
   repeat(first|(refine wkB ?_;intros)|(refine wnM ?_ ?_;(focus(exact⟨by omega,by omega⟩));intros))
   exact Zf ⟨_,m+1,r'⟩ ⟨by show zs++_=evA is is.length++(evB js m++_);rw[hzs,hiv,List.append_assoc],hlt⟩ sbB suB (by show js.length-(m+1)<js.length-m;omega)
  ·have hge:m=js.length:=by have:=Wb h;omega
   subst hge
   repeat(refine wkB ?_;intros)
   exact Zf ⟨zs,2,r⟩ ⟨hzs,Nat.le_of_ble_eq_true rfl⟩ sbB suB (by show 2-2<2-1;decide)
 ·subst h0
  simp only[We (show¬((2:Nat):Int)<2 by omega)]
  have hlen:ys.length<=12\/(OrdE ys/\ys.length<50):=by
   rw[hys]
   show(evA is is.length++evB js js.length).length<=12\/(OrdE (evA is is.length++evB js js.length)/\(evA is is.length++evB js js.length).length<50)
   rw[Wp,ZdL,Ze0]
   exact hlo
  have hlen2:ys.length<50:=hlen.elim (fun h=>by omega) (fun h=>h.2)
  have hbd:∀u∈ys,BdOk u.b:=by
   rw[hys]
   intro u hu
   rcases List.mem_append.1 (show u∈evA is is.length++evB js js.length from hu) with h1|h1
   ·exact Zkq ho1 _ (Wl _) u h1
   ·exact Zkb ho2 _ (Wl _) u h1
  repeat(refine wkB ?_;intros)
  refine sZ rfl rfl ?_ ?_
  ·exact⟨hlen,hbd⟩
  intro s'
  obtain⟨s2,hs2⟩:=s'
  repeat(refine wkB ?_;intros)
  rename_i b15 b16
  have hzb:∀u∈srtE ys (ys.length-1),BdOk u.b:=fun u hu=>by
   rcases(by omega:ys.length=0\/ys.length-1<ys.length) with h1|h1
   ·rw[List.length_eq_zero_iff.1 h1] at hu
    cases hu
   ·exact hbd u (Zde ys _ h1 u hu)
  have hz1:∀u∈srtE ys (ys.length-1),Ev1 u:=fun u hu=>by
   rcases(by omega:ys.length=0\/ys.length-1<ys.length) with h1|h1
   ·rw[List.length_eq_zero_iff.1 h1] at hu
    cases hu
   ·have h2:=Zde ys _ h1 u hu
    rw[hys] at h2
    rcases List.mem_append.1 (show u∈evA is is.length++evB js js.length from h2) with h3|h3
    ·exact ZmD _ _ u h3
    ·exact ZmF _ _ u h3
  obtain⟨es,s3,hes,hv3,hm3⟩:∃(es:List Ev)(s3:SlS eEv 12 es),es=srtE ys (ys.length-1)/\vSl s3=vSl s/\mS 216 s3=mS 216 s2:=⟨_,s2,rfl,hs2,rfl⟩
  have hzl:ys.length=es.length:=by rw[hes,Zcc]
  rw[<-hes] at hzb hz1
  simp only[<-hv3,<-hm3,hzl]
  refine Zp (S:=(q:SwS)×Nat×SlS rI 20 q.out) (fun r=>r.1=sws kp es r.2.1/\r.2.1<=es.length) (fun r=>[(2,vFn kf),(7,vSl s3),(14,vSl r.2.2),(15, .pointer (some ⟨b15,0,none⟩)),(16, .pointer (some ⟨b16,0,none⟩)),(17, .bool r.1.on),(57,vSl s3),(58, .int .i64 es.length),(59, .int .i64 (r.2.1:Nat))])
   (fun r=>mS 37 r.2.2++(⟨b16,ZI (ZM r.1.fr),193⟩::⟨b15,row (eI .i64) [r.1.n0,r.1.n1] [],78⟩::mS 216 s3)) (fun r=>es.length-r.2.1) ⟨sws kp es 0,0,SlS.no⟩ ⟨rfl,Wm _⟩ sbB suB (fun r hr=>?_)
  obtain⟨q,m,r⟩:=r
  obtain⟨hq,hm⟩:=hr
  simp only at hq hm r⊢
  repeat(refine wkB ?_;intros)
  refine Zi rfl (fun h=>?_) (fun h=>?_)
  ·have hlt:m<es.length:=by have:=Wa h;omega
   rcases s3.cases 216 with⟨h0, -, -⟩|⟨bE,cE,spE,hc1,hvE,hmE,hneE⟩
   ·rw[h0] at hlt;simp at hlt
   ·simp only[hvE,hmE]
    obtain⟨w1,w2⟩:=Zig (kp:=kp) hz1 m (by omega)
    rw[<-hq] at w1 w2
    obtain⟨w3,w4⟩:=hz1 _ (ZB (i:=(m:Int)) (xs:=es) (by omega))
    repeat(refine wkB ?_;intros)
    rename_i b19
    have q0:gi [q.n0,q.n1] 0=q.n0:=rfl
    have q1:gi [q.n0,q.n1] 1=q.n1:=rfl
    refine ZT (S:=Unit) (fun _=>True) (fun _=>[(2,vFn kf),(7, .slice (some ⟨bE,0,none⟩) es.length cE),(14,vSl r),(15, .pointer (some ⟨b15,0,none⟩)),(16, .pointer (some ⟨b16,0,none⟩)),(17, .bool q.on),(18, .int .i64 (m:Nat)),(19, .pointer (some ⟨b19,0,none⟩)),(57, .slice (some ⟨bE,0,none⟩) es.length cE),(58, .int .i64 es.length),(59, .int .i64 (m:Nat))])
     (fun _=>⟨b19,eEv (gi es (m:Int)),216⟩::(mS 37 r++[⟨b16,ZI (ZM q.fr),193⟩,⟨b15,row (eI .i64) [q.n0+(gi es (m:Int)).n0,q.n1+(gi es (m:Int)).n1] [],78⟩,⟨bE,row eEv es spE,216⟩])) ?_ (fun _ _=>?_)
    ·(refine ZE (.v [0,2,3,4,6,8,9,10] (.e2 1 (.v [5] (.e1 7 (.v [11,12] (.e1 13 (.v [14] (.e1 15 (.fin))))))) 7 (.v [11] (.e1 1 (.v [5,12] (.e1 13 (.v [14] (.e1 15 (.fin))))))))) ([⟨b19,eEv (gi es (m:Int)),216⟩]) (h:=?_);refine wkX ?_)
     repeat' (first|(with_reducible refine And.intro ?_ ?_)|(with_reducible exact True.intro)|(refine wkT ?_;intros)|fail)
     all_goals simp only[q0,q1]
     all_goals refine eR rfl ?_ ?_
     all_goals first|exact Nat.le_of_ble_eq_true rfl|skip
     repeat' (first|(with_reducible refine And.intro ?_ ?_)|(with_reducible exact True.intro)|(refine wkT ?_;intros)|fail)
     all_goals refine eR rfl ?_ ?_
     all_goals first|exact Nat.le_of_ble_eq_true rfl|skip
     repeat' (first|(with_reducible refine And.intro ?_ ?_)|(with_reducible exact True.intro)|(refine wkT ?_;intros)|fail)
     all_goals exact Zh () trivial sbB suB
    repeat(refine wkB ?_;intros)
    obtain⟨x,hx⟩:∃x,x=gi es (m:Int):=⟨_,rfl⟩
    obtain⟨nx,hnx⟩:∃nx,nx=gi es ((m+1:Nat):Int):=⟨_,rfl⟩
    obtain⟨N0,hN0⟩:∃N0,N0=q.n0+(gi es (m:Int)).n0:=⟨_,rfl⟩
    obtain⟨N1,hN1⟩:∃N1,N1=q.n1+(gi es (m:Int)).n1:=⟨_,rfl⟩
    simp only[<-hN0,<-hN1]
    have hxo:=hzb _ (ZB (i:=(m:Int)) (xs:=es) (by omega))
    have e1:(m:Int)+1=((m+1:Nat):Int):=by omega
    refine ZT (S:=Bool) (fun v=>v=decide (m+1<es.length/\cmpB x.b nx.b=0)) (fun v=>[(2,vFn kf),(7, .slice (some ⟨bE,0,none⟩) es.length cE),(14,vSl r),(15, .pointer (some ⟨b15,0,none⟩)),(16, .pointer (some ⟨b16,0,none⟩)),(17, .bool q.on),(18, .int .i64 (m:Nat)),(19, .pointer (some ⟨b19,0,none⟩)),(57, .slice (some ⟨bE,0,none⟩) es.length cE),(58, .int .i64 es.length),(59, .int .i64 (m:Nat)),(94, .bool v)])
     (fun _=>⟨b19,eEv (gi es (m:Int)),216⟩::(mS 37 r++[⟨b16,ZI (ZM q.fr),193⟩,⟨b15,row (eI .i64) [N0,N1] [],78⟩,⟨bE,row eEv es spE,216⟩])) ?_ (fun v hv=>?_)
    ·by_cases hml:m+1<es.length
     ·have hno:=hzb _ (ZB (i:=((m+1:Nat):Int)) (xs:=es) (by omega))
      refine jD 17 17 (h:=?_)
      (repeat(refine wkH ?_))
      simp only[Wc (show(m:Int)+1<(es.length:Int) by omega)]
      (repeat(refine wkH ?_))
      simp only[e1]
      (repeat(first|refine wkH ?_|(refine tC rfl rfl ?_ ?_;focus(exact⟨hxo,hno⟩))))
      refine Zo ?_
      refine Zr ?_
      repeat(refine wkB ?_;intros)
      exact Zh (decide (cmpB (gi es (m:Int)).b (gi es ((m+1:Nat):Int)).b=0)) (by rw[hx,hnx];simp[hml]) sbB suB
     ·refine jD 17 17 (h:=?_)
      (repeat(refine wkH ?_))
      simp only[We (show¬(m:Int)+1<(es.length:Int) by omega)]
      (repeat(refine wkH ?_))
      refine Zo ?_
      refine Zr ?_
      repeat(refine wkB ?_;intros)
      exact Zh false (by simp[hml]) sbB suB
    ·have hsw:sws kp es (m+1)=if m+1<es.length/\cmpB x.b nx.b=0 then⟨N0,N1,q.fr,q.on,q.out⟩ else
       ⟨N0,N1,if kp (decide (0<N0)) (decide (0<N1))&& !q.on then x.b else q.fr,kp (decide (0<N0)) (decide (0<N1)),if kp (decide (0<N0)) (decide (0<N1))&& !q.on then q.out else if !kp (decide (0<N0)) (decide (0<N1))&&q.on then q.out++[bdB q.fr x.b] else q.out⟩:=by
      rw[sws,<-hq,<-hx,<-hnx,hN0,hN1,hx]
     by_cases hc:m+1<es.length/\cmpB x.b nx.b=0
     ·rw[if_pos hc] at hsw
      rw[Wc hc] at hv
      subst hv
      repeat(first|(refine wkB ?_;intros)|(refine wnM ?_ ?_;(focus(exact⟨by omega,by omega⟩));intros))
      exact Zf ⟨⟨N0,N1,q.fr,q.on,q.out⟩,m+1,r⟩ ⟨hsw.symm,hlt⟩ sbB suB (by show es.length-(m+1)<es.length-m;omega)
     ·rw[if_neg hc] at hsw
      rw[We hc] at hv
      subst hv
      repeat(first|(refine wkB ?_;intros)|(refine wnM ?_ ?_;(focus(first|exact trivial|exact⟨by omega,by omega⟩));intros))
      obtain⟨nw,hnw⟩:∃nw,nw=kp (decide (0<N0)) (decide (0<N1)):=⟨_,rfl⟩
      simp only[show gi [N0,N1] 0=N0 from rfl,show gi [N0,N1] 1=N1 from rfl,<-hnw]
      rw[<-hnw] at hsw
      have hol:=Zil kp es m
      rw[<-hq] at hol
      obtain⟨n0',n1',fr,on,out⟩:=q
      simp only at hol
      simp only at hsw r⊢
      rcases nw with _|_ <;> rcases on with _|_
      ·repeat(first|(refine wkB ?_;intros)|(refine wnM ?_ ?_;(focus(exact⟨by omega,by omega⟩));intros))
       exact Zf ⟨⟨N0,N1,fr,false,out⟩,m+1,r⟩ ⟨hsw.symm,hlt⟩ sbB suB (by show es.length-(m+1)<es.length-m;omega)
      ·repeat(first|(refine wkB ?_;intros)|(refine wnM ?_ ?_;(focus(first|exact trivial|exact⟨by omega,by omega⟩));intros))
       rw[<-hx]
       refine sU rfl rfl ?_ ?_ ?_ ?_
       ·rfl
       ·rfl
       ·exact⟨by decide,by omega,by omega⟩
       intro r'
       repeat(first|(refine wkB ?_;intros)|(refine wnM ?_ ?_;(focus(exact⟨by omega,by omega⟩));intros))
       exact Zf ⟨⟨N0,N1,fr,false,out++[bdB fr x.b]⟩,m+1,r'⟩ ⟨hsw.symm,hlt⟩ sbB suB (by show es.length-(m+1)<es.length-m;omega)
      ·repeat(first|(refine wkB ?_;intros)|(refine wnM ?_ ?_;(focus(exact⟨by omega,by omega⟩));intros))
       rw[<-hx]
       exact Zf ⟨⟨N0,N1,x.b,true,out⟩,m+1,r⟩ ⟨hsw.symm,hlt⟩ sbB suB (by show es.length-(m+1)<es.length-m;omega)
      ·repeat(first|(refine wkB ?_;intros)|(refine wnM ?_ ?_;(focus(exact⟨by omega,by omega⟩));intros))
       exact Zf ⟨⟨N0,N1,fr,true,out⟩,m+1,r⟩ ⟨hsw.symm,hlt⟩ sbB suB (by show es.length-(m+1)<es.length-m;omega)
  ·have hge:m=es.length:=by have:=Wb h;omega
   subst hge
   subst hq
   repeat(refine wkB ?_;intros)
   have hfin:swpR kp is js=(sws kp es es.length).out:=by
    unfold swpR
    rw[<-hys,<-hes]
   obtain⟨r2,hr1,hr2⟩:=r.like hfin
   refine Zz (v:=vSl r2) rfl (by rw[hr1];rfl) (fun w hw=>⟨r2,rfl, ?_⟩)
   dsimp only
   rw[hr2]
   exact hw.sub suB
instance ZuD (w0:World)(L:List Blk)(kf:FuncId)(kp:Bool->Bool->Bool)[CallC prog kf][hkp:∀a b,SpecC prog kf [.bool a, .bool b] (.bool (kp a b)) True](v1 v2:Value)(is js:List Za)[h1:LstC w0 L v1 Za rI is][h2:LstC w0 L v2 Za rI js]:SpecR prog w0 L 138 [v1,v2,vFn kf] (SlS rI 20 (swpR kp is js)) (fun s=>vSl s) (fun s=>mS 37 s) ((2*is.length+2*js.length<=12\/(OrdE (evA is is.length++evB js js.length)/\2*is.length+2*js.length<50))/\(∀i∈is,BdOk (bdF i)/\BdOk (bdL i))/\∀i∈js,BdOk (bdF i)/\BdOk (bdL i)):=⟨fun hp w hw=>Zi2 kf kp hkp v1 v2 is js w (h1.out w hw) (h2.out w hw) hp.1 hp.2.1 hp.2.2⟩
end
end Go.Vt
