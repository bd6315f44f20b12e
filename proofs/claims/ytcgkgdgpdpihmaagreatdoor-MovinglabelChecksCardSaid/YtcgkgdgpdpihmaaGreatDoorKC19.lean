/- For any up to 12 units whose ends have up to 20 bytes, and for any decoded moving label (up to 8 stretches), Check returns OK or the first error. Conditions: none. (part 19 of 28.) Conditions: those that each statement names. -/
import Derived.Shelf.SlSortCmp.WholeK
import Derived.Ground.SlsfProg
import Derived.Test.YtcgkgdgpdpihmaaGreatDoorProg
import Derived.Shelf.SlSortCmp.NoneTotal
import Derived.Test.YtcgkgdgpdpihmaaGreatDoorKC11
import Derived.Test.YtcgkgdgpdpihmaaGreatDoorKC18
set_option linter.unusedSimpArgs false
set_option linter.unusedVariables false
set_option maxHeartbeats 2000000
set_option maxRecDepth 100000
set_option linter.unusedSectionVars false
namespace Go.Vt
open Go.RowKit Go.Proofs
open Go.Proofs.Tryz (prog)
section
abbrev KN :Nat:=1073741824
structure UOk (u:UL):Prop where
 i:IvOk KN u.In
structure UIn (u:UL):Prop where
 i:IvOk KN u.In
def bef (xs:List UL)(t:Zi):Bool:=decide (0<xs.length)&&(decide ((lstU xs).In.To=t)&& !decide ((lstU xs).In.From=(lstU xs).In.To))
def turn (xs:List UL)(u:UL):List UL:=xs.set (xs.length-1) u
def isI (u:UL):Bool:=decide (u.In.From=u.In.To)
def cA (xs:List UL)(x:UL):Bool:=bef xs x.In.From&&(!(lstU xs).In.OpenTo&&decide ((lstU xs).F=x.F))
def cB (l:List UL)(i:Nat)(xs:List UL)(x:UL):Bool:=decide (0<i)&&(isI (gi l ((i:Int)-1))&&(decide ((gi l ((i:Int)-1)).In.From=x.In.From)&& !hld xs x.In.From))
def cC (xs:List UL)(x:UL):Bool:=bef xs x.In.From&&decide ((lstU xs).F=x.F)
def cD (l:List UL)(i:Nat)(x:UL):Bool:=decide (i+1<l.length)&&(decide ((gi l ((i:Int)+1)).In.From=x.In.From)&&decide ((gi l ((i:Int)+1)).F=x.F))
def ext (u x:UL):UL:=⟨⟨u.In.From,x.In.To,u.In.OpenFrom,true⟩,u.F⟩
def clo (u:UL):UL:=⟨⟨u.In.From,u.In.To,u.In.OpenFrom,false⟩,u.F⟩
def opF (x:UL):UL:=⟨⟨x.In.From,x.In.To,false,x.In.OpenTo⟩,x.F⟩
def redU (x:UL):UL:=x
noncomputable def nstp (l:List UL)(i:Nat)(xs:List UL)(x:UL):List UL:=
 if isI x=false then
  if cA xs x=true then turn xs (ext (lstU xs) x) else xs++[if cB l i xs x=true then opF x else x]
 else if cC xs x=true then turn xs (clo (lstU xs))
 else if cD l i x=true then xs else xs++[redU x]
noncomputable def nrm (l:List UL):Nat->List UL
 |0=>[]
 |i+1=>nstp l i (nrm l i) (gi l (i:Int))
noncomputable def aprN (l:List UL):Nat->Bool
 |0=>true
 |m+1=>aprN l m&& !(decide (0<m)&& !aprt (gi l ((m:Int)-1)).In (gi l (m:Int)).In)
noncomputable def allU (us:List UL):List UL:=atm (sor us) (sor us).length
noncomputable def nrmR (us:List UL):List UL:=if aprN (sor us) (sor us).length=true then nrm (allU us) (allU us).length else []
noncomputable def nrmE (us:List UL):Int:=if aprN (sor us) (sor us).length=true then 0 else 11
theorem IvOk.at {K:Nat}{I:Za}(h:IvOk K I)(o c:Bool):IvOk K ⟨I.From,I.To,o,c⟩:=⟨h.a,h.b⟩
theorem UIn.ok {u:UL}(h:UIn u):UOk u:=⟨h.i⟩
theorem ZjD {xs:List UL}{u:UL}(h:∀v∈xs,UOk v)(hu:UOk u):∀v∈turn xs u,UOk v:=fun v hv=>by
 rcases List.mem_or_eq_of_mem_set hv with h1|h1
 ·exact h v h1
 ·rw[h1];exact hu
theorem Zb2 {xs:List UL}{t:Zi}(h:bef xs t=true):0<xs.length:=by
 unfold bef at h
 simp only[Wq,decide_eq_true_eq] at h
 exact h.1
theorem ZmB {xs:List UL}(h:∀v∈xs,UOk v)(h0:0<xs.length):UOk (lstU xs):=h _ (ZA (by omega))
theorem ZqF {l:List UL}{i:Nat}{xs:List UL}{x:UL}(h:∀v∈xs,UOk v)(hx:UIn x):∀v∈nstp l i xs x,UOk v:=by
 unfold nstp
 split
 ·split
  ·rename_i hc
   have h0:0<xs.length:=by
    unfold cA at hc
    simp only[Wq] at hc
    exact Zb2 hc.1
   have hl:=ZmB h h0
   exact ZjD h ⟨⟨hl.i.a,hx.i.b⟩⟩
  ·intro v hv
   rcases List.mem_append.1 hv with h1|h1
   ·exact h v h1
   ·rw[Wo] at h1
    subst h1
    split
    ·exact⟨hx.i.at _ _⟩
    ·exact hx.ok
 ·split
  ·rename_i hc
   have h0:0<xs.length:=by
    unfold cC at hc
    simp only[Wq] at hc
    exact Zb2 hc.1
   have hl:=ZmB h h0
   exact ZjD h ⟨hl.i.at _ _⟩
  ·split
   ·exact h
   ·intro v hv
    rcases List.mem_append.1 hv with h1|h1
    ·exact h v h1
    ·rw[Wo] at h1
     subst h1
     exact hx.ok
theorem Zfr {l:List UL}(h:∀u∈l,UIn u):∀m,m<=l.length->∀v∈nrm l m,UOk v
 |0,_=>fun v hv=>by cases hv
 |m+1,hm=>ZqF (Zfr h m (by omega)) (h _ (ZA (by omega)))
theorem ZnB (l:List UL)(i:Nat)(xs:List UL)(x:UL):(nstp l i xs x).length<=xs.length+1:=by
 unfold nstp turn
 split
 ·split <;> simp
 ·split
  ·simp
  ·split <;> simp
theorem Zf7 (l:List UL):∀m,(nrm l m).length<=m
 |0=>Wl _
 |m+1=>by
  have:=Zf7 l m
  have:=ZnB l m (nrm l m) (gi l (m:Int))
  rw[nrm]
  omega
theorem Zej (us:List UL):(sor us).length=us.length:=ZcA us _
theorem ZeB {us:List UL}{u:UL}(h:u∈sor us):u∈us:=by
 rcases Nat.eq_zero_or_pos us.length with h0|h0
 ·have h1:=Zej us
  rw[h0] at h1
  rw[List.length_eq_zero_iff.1 h1] at h
  cases h
 ·exact Zf0 us _ (by omega) u h
theorem Zr2 {u v:UL}(h:UIn u)(hv:v∈atU u):UIn v:=by
 unfold atU at hv
 have e1:IvOk KN ⟨u.In.From,u.In.From,false,false⟩:=⟨h.i.a,h.i.a⟩
 have e2:IvOk KN ⟨u.In.To,u.In.To,false,false⟩:=⟨h.i.b,h.i.b⟩
 rcases List.mem_append.1 hv with h1|h1
 ·split at h1
  ·cases h1
  ·rw[Wo] at h1
   subst h1
   exact⟨e1⟩
 ·split at h1
  ·cases h1
  ·rcases List.mem_cons.1 h1 with h2|h2
   ·subst h2
    exact⟨h.i.at _ _⟩
   ·split at h2
    ·cases h2
    ·rw[Wo] at h2
     subst h2
     exact⟨e2⟩
theorem Zfe {us:List UL}(h:∀u∈us,UIn u):∀m,m<=us.length->∀v∈atm us m,UIn v
 |0,_,v,hv=>by cases hv
 |m+1,hm,v,hv=>by
  rw[atm] at hv
  rcases List.mem_append.1 hv with h1|h1
  ·exact Zfe h m (by omega) v h1
  ·exact Zr2 (h _ (ZA (by omega))) h1
theorem ZlX {l:List UL}{m:Nat}(h:aprN l m=false):∀n,m<=n->aprN l n=false:=fun n hn=>by
 induction n with
 |zero=>rw[show m=0 by omega] at h;exact h
 |succ n ih=>
  rcases(by omega:m=n+1\/m<=n) with h1|h1
  ·rw[<-h1];exact h
  ·rw[aprN,ih h1];rfl
theorem Zhf (xs:List UL)(u:UL):(turn xs u).length=xs.length:=by simp[turn]
set_option maxHeartbeats 2000000 in
theorem ZhW (v:Value)(us:List UL)(w:World)(hv:ArgS w v rU us)(hn:us=[]->v= .slice none 0 0)(hl:NrP us)(hok:∀u∈us,UIn u):
  Calls prog 74 [vLabels,v].toArray w (RetM (SlS rU 21 (nrmR us)) (fun s=> .tuple #[vSl s, .int .i64 (nrmE us)]) (fun s=>mS 145 s) w):=by
 have hN:∀L,LstN w L v UL rU us:=fun L=>⟨fun w' hw'=>hv.to hw'.ext,hn⟩
 have hsl:=Zej us
 have hl6:=hl.n
 have hso:∀u∈sor us,UIn u:=fun u hu=>hok u (ZeB hu)
 refine Zb Tryz.func74 rfl Tryz.ntmps74 rfl ?_
 repeat(first|(refine wkB ?_;intros)|(refine wnM ?_ ?_;(focus(exact⟨hl,fun u hu=>(hok u hu).i.mono (by decide)⟩));intros))
 rename_i s1
 refine Zq (S:=Nat) (fun m=>m<=(sor us).length/\aprN (sor us) m=true) (fun m=>[(0,vLabels),(1,vSl s1),(17, .int .i64 (sor us).length),(18, .int .i64 (m:Nat))]) (fun _=>mS 145 s1) (fun m=>(sor us).length-m) 0
  ⟨Wm _,rfl⟩ sbB suB (fun m hm=>?_)
 obtain⟨hm,ham⟩:=hm
 repeat(refine wkB ?_;intros)
 refine Zk rfl (fun h=>?_) (fun h=>?_)
 ·have hlt:m<(sor us).length:=by have:=Wa h;omega
  rcases s1.cases 145 with⟨h0, -, -⟩|⟨b1,c1,sp1,h1,hv1,hm1,hne⟩
  ·rw[h0] at hlt;simp at hlt
  rw[hv1,hm1]
  have hap:aprN (sor us) (m+1)= !(decide (0<m)&& !aprt (gi (sor us) ((m:Int)-1)).In (gi (sor us) (m:Int)).In):=by rw[aprN,ham,Bool.true_and]
  have o1:=hso _ (ZA (i:=(m:Int)) (by omega))
  repeat(refine wkB ?_;intros)
  rcases m with _|m
  ·(refine jD 17 17 (h:=?_);(repeat(refine wkH ?_));refine Zo ?_;(repeat(refine Z0 ?_;intro _));refine Zs ?_)
   repeat(first|(refine wkB ?_;intros)|(refine wnM ?_ ?_;(focus(exact⟨by omega,by omega⟩));intros))
   exact Zg 1 ⟨hlt,by rw[hap];rfl⟩ sbB suB (by omega)
  ·have e1:((m+1:Nat):Int)-1=(m:Int):=by omega
   have o2:=hso _ (ZA (i:=(m:Int)) (by omega))
   rw[e1,Wc (show 0<m+1 by omega),Bool.true_and,Bool.not_not] at hap
   refine jD 17 17 (h:=?_)
   (repeat(refine wkH ?_))
   simp only[Wc (show(0:Int)<((m+1:Nat):Int) by omega),e1]
   (repeat(refine wkH ?_))
   simp only[e1]
   (repeat(first|refine wkH ?_|(refine tC rfl rfl ?_ ?_;focus(exact⟨o2.i.b,o1.i.a⟩))))
   refine Zo ?_
   refine Zs ?_
   repeat(refine wkB ?_;intros)
   rcases ha:aprt (gi (sor us) (m:Int)).In (gi (sor us) ((m+1:Nat):Int)).In with _|_
   ·rw[ha] at hap
    repeat(refine wkB ?_;intros)
    have hf:=ZlX hap (sor us).length hlt
    obtain⟨s0,hs1,hs2⟩:=SlS.turn (enc:=rU) (k:=21) 145 (show([]:List UL)=nrmR us by unfold nrmR;rw[hf,if_neg (by decide)]) SlS.no
    have he:nrmE us=11:=by unfold nrmE;rw[hf,if_neg (by decide)]
    exact ZF rfl (Zy rfl) (Zy rfl) (fun w hw=>⟨s0,by dsimp only;rw[hs1,he];rfl,by dsimp only;rw[hs2];exact hw.sub (Wk _)⟩)
   ·rw[ha] at hap
    repeat(first|(refine wkB ?_;intros)|(refine wnM ?_ ?_;(focus(exact⟨by omega,by omega⟩));intros))
    exact Zg (m+2) ⟨hlt,hap⟩ sbB suB (by omega)
 ·have hge:m=(sor us).length:=by have:=Wb h;omega
  subst hge
  repeat(first|(refine wkB ?_;intros)|(refine wnM ?_ ?_;(focus(omega));intros))
  rename_i s8
  have hao:∀u∈atm (sor us) (sor us).length,UIn u:=Zfe hso _ (Wl _)
  have hall:=Zep (sor us) (sor us).length
  have hR:nrmR us=nrm (atm (sor us) (sor us).length) (atm (sor us) (sor us).length).length:=by unfold nrmR allU;rw[ham,if_pos rfl]
  have hE:nrmE us=0:=by unfold nrmE;rw[ham,if_pos rfl]
  generalize atm (sor us) (sor us).length=al at*
  refine Zq (S:=(xs:List UL)×Nat×SlS rU 21 xs) (fun s=>s.2.1<=al.length/\s.1=nrm al s.2.1) (fun s=>[(0,vLabels),(7,vSl s.2.2),(8,vSl s8),(41,vSl s8),(42, .int .i64 al.length),(43, .int .i64 (s.2.1:Nat))]) (fun s=>mS 145 s.2.2++mS 145 s8) (fun s=>al.length-s.2.1) ⟨[],0,SlS.no⟩
   ⟨Wm _,rfl⟩ sbB suB (fun s hs=>?_)
  obtain⟨xs,i,s⟩:=s
  obtain⟨hi,hxs⟩:=hs
  simp only at hi hxs⊢
  repeat(refine wkB ?_;intros)
  refine Zk rfl (fun h=>?_) (fun h=>?_)
  ·have hlt:i<al.length:=by have:=Wa h;omega
   rcases s8.cases 145 with⟨h0, -, -⟩|⟨b8,c8,sp8,h1,hv8,hm8,hne⟩
   ·rw[h0] at hlt;simp at hlt
   rw[hv8,hm8]
   have hx0:=hao _ (ZA (i:=(i:Int)) (by omega))
   have hnx:nrm al (i+1)=nstp al i xs (gi al (i:Int)):=by rw[nrm,hxs]
   have hxo:=Zfr hao i (by omega)
   have hxl:=Zf7 al i
   rw[<-hxs] at hxo hxl
   repeat(refine wkB ?_;intros)
   rename_i b10 b11
   obtain⟨x,hx⟩:∃x,x=gi al (i:Int):=⟨_,rfl⟩
   simp only[<-hx] at hx0 hnx⊢
   refine Zkl (mS 145 s++[⟨b11,Zc (Ze x.In.From),35⟩,⟨b10,rU x,145⟩,⟨b8,row rU al sp8,145⟩]) ((List.perm_middle.trans (List.perm_middle.cons _)).symm) ?_
   refine ZY (S:=Bool) (fun v=>v=bef xs x.In.From) (fun v=>[(75, .bool v),(0,vLabels),(7,vSl s),(8, .slice (some ⟨b8,0,none⟩) al.length c8),(9, .int .i64 (i:Nat)),(10, .pointer (some ⟨b10,0,none⟩)),(11, .pointer (some ⟨b11,0,none⟩)),(12, .pointer none),(13, .int .i64 xs.length),(41, .slice (some ⟨b8,0,none⟩) al.length c8),(42, .int .i64 al.length),(43, .int .i64 (i:Nat))]) (fun _=>mS 145 s++[⟨b11,Zc (Ze x.In.From),35⟩,⟨b10,rU x,145⟩,⟨b8,row rU al sp8,145⟩]) ?_ (fun v hv3=>?_)
   ·rcases s.cases 145 with⟨h0, -, -⟩|⟨bo,co,so,ho,hvo,hmo,hneo⟩
    ·refine jD 23 23 (h:=?_)
     (repeat(refine wkH ?_))
     simp only[We (show¬(0:Int)<(xs.length:Int) by rw[h0];simp)]
     (repeat(refine wkH ?_))
     refine Zo ?_
     refine Zs ?_
     repeat(refine wkB ?_;intros)
     exact Zj false (by rw[h0];rfl) sbB suB
    ·have hpo:0<xs.length:=by rcases xs with _|⟨a,xs⟩;exact absurd rfl hneo;simp
     rw[hvo,hmo]
     simp only[Wf,Wg]
     refine jD 23 23 (h:=?_)
     (repeat(refine wkH ?_))
     simp only[Wc (show(0:Int)<(xs.length:Int) by omega)]
     (repeat(refine wkH ?_))
     rcases hto:decide ((lstU xs).In.To=x.In.From) with _|_
     ·(repeat(refine wkH ?_))
      refine Zo ?_
      refine Zs ?_
      repeat(refine wkB ?_;intros)
      exact Zj false (by unfold bef;rw[hto,Bool.false_and,Bool.and_false]) sbB suB
     ·(repeat(refine wkH ?_))
      refine Zo ?_
      refine Zs ?_
      repeat(refine wkB ?_;intros)
      exact Zj (!decide ((lstU xs).In.From=(lstU xs).In.To)) (by unfold bef;rw[hto,Wc hpo,Bool.true_and,Bool.true_and]) sbB suB
   refine ZY (S:=Option Addr) (fun p=>(bef xs x.In.From=false/\p=none)\/(bef xs x.In.From=true/\∃bo co so,(xs.length<=co/\so.length=(co-xs.length)*21)/\vSl s= .slice (some ⟨bo,0,none⟩) xs.length co/\mS 145 s=[⟨bo,row rU xs so,145⟩]/\p=some ⟨bo,0+((xs.length:Int)-1).toNat*21,none⟩)) (fun p=>[(0,vLabels),(7,vSl s),(8, .slice (some ⟨b8,0,none⟩) al.length c8),(9, .int .i64 (i:Nat)),(10, .pointer (some ⟨b10,0,none⟩)),(11, .pointer (some ⟨b11,0,none⟩)),(12, .pointer p),(13, .int .i64 xs.length),(41, .slice (some ⟨b8,0,none⟩) al.length c8),(42, .int .i64 al.length),(43, .int .i64 (i:Nat))]) (fun _=>mS 145 s++[⟨b11,Zc (Ze x.In.From),35⟩,⟨b10,rU x,145⟩,⟨b8,row rU al sp8,145⟩]) ?_ (fun p hp=>?_)
   ·subst hv3
    rcases hb:bef xs x.In.From with _|_
    ·repeat(refine wkB ?_;intros)
     exact Zj none (.inl ⟨rfl,rfl⟩) sbB suB
    ·have hpo:=Zb2 hb
     rcases s.cases 145 with⟨h0, -, -⟩|⟨bo,co,so,ho,hvo,hmo,hneo⟩
     ·rw[h0] at hpo;simp at hpo
     rw[hvo,hmo]
     simp only[Wf,Wg]
     repeat(refine wkB ?_;intros)
     exact Zj (some ⟨bo,0+((xs.length:Int)-1).toNat*21,none⟩) (.inr ⟨trivial,bo,co,so,ho,rfl,rfl,rfl⟩) sbB suB
   repeat(refine wkB ?_;intros)
   rcases hI:isI x with _|_
   ·have hI':decide (x.In.From=x.In.To)=false:=hI
    simp only[hI']
    repeat(refine wkB ?_;intros)
    refine ZY (S:=Bool) (fun v=>v=cA xs x) (fun v=>[(117, .bool v),(0,vLabels),(7,vSl s),(8, .slice (some ⟨b8,0,none⟩) al.length c8),(9, .int .i64 (i:Nat)),(10, .pointer (some ⟨b10,0,none⟩)),(11, .pointer (some ⟨b11,0,none⟩)),(12, .pointer p),(13, .int .i64 xs.length),(41, .slice (some ⟨b8,0,none⟩) al.length c8),(42, .int .i64 al.length),(43, .int .i64 (i:Nat))]) (fun _=>mS 145 s++[⟨b11,Zc (Ze x.In.From),35⟩,⟨b10,rU x,145⟩,⟨b8,row rU al sp8,145⟩]) ?_ (fun v hv4=>?_)
    ·rcases hp with⟨hb,rfl⟩|⟨hb,bo,co,so,ho,hvo,hmo,rfl⟩
     ·(refine jD 23 23 (h:=?_);(repeat(refine wkH ?_));refine Zo ?_;(repeat(refine Z0 ?_;intro _));refine Zs ?_)
      repeat(refine wkB ?_;intros)
      exact Zj false (by unfold cA;rw[hb,Bool.false_and]) sbB suB
     ·have hpo:=Zb2 hb
      rw[hvo,hmo]
      simp only[Wf,Wg]
      refine jD 23 23 (h:=?_)
      (repeat(refine wkH ?_))
      rcases hot:(lstU xs).In.OpenTo with _|_
      ·(repeat(refine wkH ?_))
       refine Zo ?_
       refine Zs ?_
       repeat(refine wkB ?_;intros)
       exact Zj (decide ((lstU xs).F=x.F)) (by unfold cA;rw[hb,hot,Bool.true_and,Bool.not_false,Bool.true_and]) sbB suB
      ·(repeat(refine wkH ?_))
       refine Zo ?_
       refine Zs ?_
       repeat(refine wkB ?_;intros)
       exact Zj false (by unfold cA;rw[hb,hot,Bool.true_and,Bool.not_true,Bool.false_and]) sbB suB
    subst hv4
    refine ZY (S:=Unit) (fun _=>cA xs x=false) (fun _=>[(0,vLabels),(7,vSl s),(8, .slice (some ⟨b8,0,none⟩) al.length c8),(9, .int .i64 (i:Nat)),(10, .pointer (some ⟨b10,0,none⟩)),(11, .pointer (some ⟨b11,0,none⟩)),(13, .int .i64 xs.length),(41, .slice (some ⟨b8,0,none⟩) al.length c8),(42, .int .i64 al.length),(43, .int .i64 (i:Nat))]) (fun _=>mS 145 s++[⟨b11,Zc (Ze x.In.From),35⟩,⟨b10,rU x,145⟩,⟨b8,row rU al sp8,145⟩]) ?_ (fun _ hcA=>?_)
    ·rcases hcA:cA xs x with _|_
     ·repeat(refine wkB ?_;intros)
      exact Zj () rfl sbB suB
     ·have hb:bef xs x.In.From=true:=by
       unfold cA at hcA
       simp only[Wq] at hcA
       exact hcA.1
      have hpo:=Zb2 hb
      rcases hp with⟨hb', -⟩|⟨-,bo,co,so,ho,hvo,hmo,rfl⟩
      ·rw[hb] at hb';cases hb'
      rw[hvo,hmo]
      simp only[Wf,Wg]
      have ek:((xs.length:Int)-1).toNat=xs.length-1:=by omega
      repeat(refine wkB ?_;intros)
      refine sRF (i:=(xs.length:Int)-1) (f:=9) (⟨⟨(lstU xs).In.From,x.In.To,(lstU xs).In.OpenFrom,(lstU xs).In.OpenTo⟩,(lstU xs).F⟩:UL) rfl rfl ?_ ?_
      ·omega
      obtain⟨zs,hzs⟩:∃zs,zs=xs.set ((xs.length:Int)-1).toNat (⟨⟨(lstU xs).In.From,x.In.To,(lstU xs).In.OpenFrom,(lstU xs).In.OpenTo⟩,(lstU xs).F⟩:UL):=⟨_,rfl⟩
      simp only[<-hzs]
      have hzl:zs.length=xs.length:=by rw[hzs];simp
      have hg:gi zs ((xs.length:Int)-1)=⟨⟨(lstU xs).In.From,x.In.To,(lstU xs).In.OpenFrom,(lstU xs).In.OpenTo⟩,(lstU xs).F⟩:=by
       rw[Zbk (by omega)]
       simp only[hzs,List.getElem_set_self]
      repeat(refine wkB ?_;intros)
      refine sRF (i:=(xs.length:Int)-1) (f:=19) (⟨⟨(gi zs ((xs.length:Int)-1)).In.From,(gi zs ((xs.length:Int)-1)).In.To,(gi zs ((xs.length:Int)-1)).In.OpenFrom,true⟩,(gi zs ((xs.length:Int)-1)).F⟩:UL) rfl rfl ?_ ?_
      ·omega
      have hfin:zs.set ((xs.length:Int)-1).toNat (⟨⟨(gi zs ((xs.length:Int)-1)).In.From,(gi zs ((xs.length:Int)-1)).In.To,(gi zs ((xs.length:Int)-1)).In.OpenFrom,true⟩,(gi zs ((xs.length:Int)-1)).F⟩:UL)=turn xs (ext (lstU xs) x):=by
       rw[hg,hzs,List.set_set,ek]
       rfl
      rw[hfin]
      obtain⟨s',hv',hm'⟩:=SlS.put (enc:=rU) (k:=21) (b:=bo) 145 (Zhf xs (ext (lstU xs) x)) ho hpo
      rw[<-hv']
      repeat(first|(refine wkB ?_;intros)|(refine wnM ?_ ?_;(focus(exact⟨by omega,by omega⟩));intros))
      exact Zg ⟨turn xs (ext (lstU xs) x),i+1,s'⟩ ⟨hlt,by rw[hnx,nstp,if_pos hI,if_pos hcA]⟩ sbB (by dsimp only;rw[hm'];exact suB) (by show al.length-(i+1)<al.length-i;omega)
    refine Zc2 ?_
    refine ZY (S:=UL) (fun y=>y=if cB al i xs x=true then opF x else x) (fun _=>[(0,vLabels),(7,vSl s),(8, .slice (some ⟨b8,0,none⟩) al.length c8),(9, .int .i64 (i:Nat)),(10, .pointer (some ⟨b10,0,none⟩)),(11, .pointer (some ⟨b11,0,none⟩)),(13, .int .i64 xs.length),(41, .slice (some ⟨b8,0,none⟩) al.length c8),(42, .int .i64 al.length),(43, .int .i64 (i:Nat))]) (fun y=>mS 145 s++[⟨b11,Zc (Ze x.In.From),35⟩,⟨b10,rU y,145⟩,⟨b8,row rU al sp8,145⟩]) ?_ (fun y hy=>?_)
    ·refine Zc2 ?_
     refine ZY (S:=Bool) (fun v=>v=cB al i xs x) (fun v=>[(156, .bool v),(0,vLabels),(7,vSl s),(8, .slice (some ⟨b8,0,none⟩) al.length c8),(9, .int .i64 (i:Nat)),(10, .pointer (some ⟨b10,0,none⟩)),(11, .pointer (some ⟨b11,0,none⟩)),(13, .int .i64 xs.length),(41, .slice (some ⟨b8,0,none⟩) al.length c8),(42, .int .i64 al.length),(43, .int .i64 (i:Nat))]) (fun _=>mS 145 s++[⟨b11,Zc (Ze x.In.From),35⟩,⟨b10,rU x,145⟩,⟨b8,row rU al sp8,145⟩]) ?_ (fun v hv5=>?_)
     ·by_cases hi0:0<i
      ·have ep:((i:Int)-1).toNat<al.length:=by omega
       refine jD 28 28 (h:=?_)
       (repeat(refine wkH ?_))
       simp only[Wc (show(0:Int)<(i:Int) by omega)]
       (repeat(refine wkH ?_))
       rcases hi1:isI (gi al ((i:Int)-1)) with _|_
       ·have hi1':decide ((gi al ((i:Int)-1)).In.From=(gi al ((i:Int)-1)).In.To)=false:=hi1
        simp only[hi1']
        (repeat(refine wkH ?_))
        refine Zo ?_
        refine Zs ?_
        repeat(refine wkB ?_;intros)
        exact Zj false (by unfold cB;rw[hi1,Bool.false_and,Bool.and_false]) sbB suB
       ·have hi1':decide ((gi al ((i:Int)-1)).In.From=(gi al ((i:Int)-1)).In.To)=true:=hi1
        simp only[hi1']
        (repeat(refine wkH ?_))
        rcases hft:decide ((gi al ((i:Int)-1)).In.From=x.In.From) with _|_
        ·(repeat(refine wkH ?_))
         refine Zo ?_
         refine Zs ?_
         repeat(refine wkB ?_;intros)
         exact Zj false (by unfold cB;rw[hft,Bool.false_and,Bool.and_false,Bool.and_false]) sbB suB
        ·(repeat(first|refine wkH ?_|(refine tC rfl rfl ?_ ?_;focus(omega))))
         refine Zo ?_
         refine Zs ?_
         repeat(refine wkB ?_;intros)
         exact Zj (!hld xs x.In.From) (by unfold cB;rw[hi1,hft,Wc hi0,Bool.true_and,Bool.true_and,Bool.true_and]) sbB suB
      ·refine jD 28 28 (h:=?_)
       (repeat(refine wkH ?_))
       simp only[We (show¬(0:Int)<(i:Int) by omega)]
       (repeat(refine wkH ?_))
       refine Zo ?_
       refine Zs ?_
       repeat(refine wkB ?_;intros)
       exact Zj false (by unfold cB;rw[We hi0,Bool.false_and]) sbB suB
     ·subst hv5
      rcases hcB:cB al i xs x with _|_
      ·repeat(refine wkB ?_;intros)
       exact Zj x (by rw[if_neg (by decide)]) sbB suB
      ·repeat(refine wkB ?_;intros)
       exact Zj (opF x) (by rw[if_pos rfl]) sbB suB
    repeat(refine wkB ?_;intros)
    refine sU rfl rfl ?_ ?_ ?_ ?_
    ·rfl
    ·rfl
    ·exact⟨by decide,by omega,by omega⟩
    intro s'
    repeat(first|(refine wkB ?_;intros)|(refine wnM ?_ ?_;(focus(exact⟨by omega,by omega⟩));intros))
    exact Zg ⟨xs++[y],i+1,s'⟩ ⟨hlt,by show xs++[y]=nrm al (i+1);rw[hnx,nstp,if_pos hI,hcA,if_neg (by decide),hy]⟩ sbB suB (by show al.length-(i+1)<al.length-i;omega)
   ·have hI':decide (x.In.From=x.In.To)=true:=hI
    simp only[hI']
    repeat(refine wkB ?_;intros)
    refine ZY (S:=Bool) (fun v=>v=cC xs x) (fun v=>[(163, .bool v),(0,vLabels),(7,vSl s),(8, .slice (some ⟨b8,0,none⟩) al.length c8),(9, .int .i64 (i:Nat)),(10, .pointer (some ⟨b10,0,none⟩)),(11, .pointer (some ⟨b11,0,none⟩)),(12, .pointer p),(13, .int .i64 xs.length),(41, .slice (some ⟨b8,0,none⟩) al.length c8),(42, .int .i64 al.length),(43, .int .i64 (i:Nat))]) (fun _=>mS 145 s++[⟨b11,Zc (Ze x.In.From),35⟩,⟨b10,rU x,145⟩,⟨b8,row rU al sp8,145⟩]) ?_ (fun v hv4=>?_)
    ·rcases hp with⟨hb,rfl⟩|⟨hb,bo,co,so,ho,hvo,hmo,rfl⟩
     ·(refine Zaq [0,1,2,3,4,5,6,7,8,9,10,11,12,13,14,15] [16] (_) (h:=?_);refine wkI ?_)
      (repeat(refine wkH ?_))
      repeat(refine wkT ?_;intros)
      repeat(refine wkB ?_;intros)
      exact Zj false (by unfold cC;rw[hb,Bool.false_and]) sbB suB
     ·have hpo:=Zb2 hb
      rw[hvo,hmo]
      simp only[Wf,Wg]
      (refine Zaq [0,1,2,3,4,5,6,7,8,9,10,11,12,13,14,15] [16] (_) (h:=?_);refine wkI ?_)
      (repeat(first|refine wkH ?_|(refine tC rfl rfl ?_ ?_;focus(exact trivial))))
      repeat(refine wkT ?_;intros)
      repeat(refine wkB ?_;intros)
      exact Zj (decide ((lstU xs).F=x.F)) (by unfold cC;rw[hb,Bool.true_and]) sbB suB
    subst hv4
    rcases hcC:cC xs x with _|_
    ·refine Zdr (by rfl) ?_
     (first|refine sX rfl rfl ?_|(refine sS rfl rfl ?_ ?_;focus omega)|(refine sC rfl rfl ?_ ?_;focus(first|exact trivial|assumption|constructor <;> assumption|exact mb2 rfl rfl|exact mb4 rfl rfl rfl rfl))|refine cX ?_|refine cY ?_|(refine sA rfl rfl ?_;intro _)|refine sT rfl ?_|refine sF rfl ?_|(refine sR rfl ?_ ?_;focus omega)|(refine sB rfl rfl ?_;intro _)|(refine sN rfl rfl ?_ ?_;(focus(first|exact trivial|assumption|constructor <;> assumption|exact mb2 rfl rfl|exact mb4 rfl rfl rfl rfl));intro _;(try simp only[Wf,Wg,Wh]))|refine sW rfl rfl ?_|refine sK rfl rfl ?_|refine Zit rfl ?_|refine Zdr rfl ?_|refine pkT rfl rfl rfl rfl ?_|refine pkF rfl rfl rfl rfl ?_)
     refine ZY (S:=Bool) (fun v=>v=cD al i x) (fun v=>[(184, .bool v),(0,vLabels),(7,vSl s),(8, .slice (some ⟨b8,0,none⟩) al.length c8),(9, .int .i64 (i:Nat)),(10, .pointer (some ⟨b10,0,none⟩)),(11, .pointer (some ⟨b11,0,none⟩)),(13, .int .i64 xs.length),(41, .slice (some ⟨b8,0,none⟩) al.length c8),(42, .int .i64 al.length),(43, .int .i64 (i:Nat))]) (fun _=>mS 145 s++[⟨b11,Zc (Ze x.In.From),35⟩,⟨b10,rU x,145⟩,⟨b8,row rU al sp8,145⟩]) ?_ (fun v hv5=>?_)
     ·by_cases hi1:i+1<al.length
      ·have hya:=hao _ (ZA (i:=(i:Int)+1) (by omega))
       (refine Zaq [0,1,2,3,4,5,6,7,8,9,10,11,12,13,14,15,16,17,18,19,20,21,22,23,24,25,26,27,28,29,30,31] [32] (_) (h:=?_);refine wkI ?_)
       (repeat(refine wkH ?_))
       simp only[Wc (show(i:Int)+1<(al.length:Int) by omega)]
       (repeat(refine wkH ?_))
       rcases hft:decide ((gi al ((i:Int)+1)).In.From=x.In.From) with _|_
       ·(repeat(refine wkH ?_))
        repeat(refine wkT ?_;intros)
        repeat(refine wkB ?_;intros)
        exact Zj false (by unfold cD;rw[hft,Bool.false_and,Bool.and_false]) sbB suB
       ·(repeat(first|refine wkH ?_|(refine tC rfl rfl ?_ ?_;focus(exact trivial))))
        repeat(refine wkT ?_;intros)
        repeat(refine wkB ?_;intros)
        exact Zj (decide ((gi al ((i:Int)+1)).F=x.F)) (by unfold cD;rw[hft,Wc hi1,Bool.true_and,Bool.true_and]) sbB suB
      ·(refine Zaq [0,1,2,3,4,5,6,7,8,9,10,11,12,13,14,15,16,17,18,19,20,21,22,23,24,25,26,27,28,29,30,31] [32] (_) (h:=?_);refine wkI ?_)
       (repeat(refine wkH ?_))
       simp only[We (show¬(i:Int)+1<(al.length:Int) by omega)]
       (repeat(refine wkH ?_))
       repeat(refine wkT ?_;intros)
       repeat(refine wkB ?_;intros)
       exact Zj false (by unfold cD;rw[We hi1,Bool.false_and]) sbB suB
     subst hv5
     rcases hcD:cD al i x with _|_
     ·repeat(first|(refine wkB ?_;intros)|(refine wnM ?_ ?_;(focus(exact trivial));intros))
      refine sU rfl rfl ?_ ?_ ?_ ?_
      ·rfl
      ·rfl
      ·exact⟨by decide,by omega,by omega⟩
      intro s'
      repeat(first|(refine wkB ?_;intros)|(refine wnM ?_ ?_;(focus(exact⟨by omega,by omega⟩));intros))
      exact Zg ⟨_,i+1,s'⟩ ⟨hlt,by show xs++[redU x]=nrm al (i+1);rw[hnx,nstp,hI,if_neg (by decide),hcC,if_neg (by decide),hcD,if_neg (by decide)]⟩ sbB suB (by show al.length-(i+1)<al.length-i;omega)
     ·repeat(first|(refine wkB ?_;intros)|(refine wnM ?_ ?_;(focus(exact⟨by omega,by omega⟩));intros))
      exact Zg ⟨xs,i+1,s⟩ ⟨hlt,by show xs=nrm al (i+1);rw[hnx,nstp,hI,if_neg (by decide),hcC,if_neg (by decide),hcD,if_pos rfl]⟩ sbB suB (by show al.length-(i+1)<al.length-i;omega)
    ·have hb:bef xs x.In.From=true:=by
      unfold cC at hcC
      simp only[Wq] at hcC
      exact hcC.1
     have hpo:=Zb2 hb
     rcases hp with⟨hb', -⟩|⟨-,bo,co,so,ho,hvo,hmo,rfl⟩
     ·rw[hb] at hb';cases hb'
     rw[hvo,hmo]
     simp only[Wf,Wg]
     have ek:((xs.length:Int)-1).toNat=xs.length-1:=by omega
     repeat(refine wkB ?_;intros)
     refine sRF (i:=(xs.length:Int)-1) (f:=19) (clo (lstU xs)) rfl rfl ?_ ?_
     ·omega
     rw[ek]
     obtain⟨s',hv',hm'⟩:=SlS.put (enc:=rU) (k:=21) (b:=bo) 145 (Zhf xs (clo (lstU xs))) ho hpo
     rw[<-hv']
     repeat(first|(refine wkB ?_;intros)|(refine wnM ?_ ?_;(focus(exact⟨by omega,by omega⟩));intros))
     exact Zg ⟨turn xs (clo (lstU xs)),i+1,s'⟩ ⟨hlt,by show turn xs (clo (lstU xs))=nrm al (i+1);rw[hnx,nstp,hI,if_neg (by decide),if_pos hcC]⟩ sbB (by dsimp only;rw[hm'];exact suB) (by show al.length-(i+1)<al.length-i;omega)
  ·have hge:i=al.length:=by have:=Wb h;omega
   subst hge
   subst hxs
   repeat(refine wkB ?_;intros)
   obtain⟨s0,hs1,hs2⟩:=SlS.turn 145 hR.symm s
   exact ZF rfl (Zy rfl) (Zy rfl) (fun w hw=>⟨s0,by dsimp only;rw[hs1,hE],by dsimp only;rw[hs2];exact hw.sub suB⟩)
end
section
instance ZtB (w0:World)(L:List Blk)(v:Value)(us:List UL)[h:LstN w0 L v UL rU us]:SpecR prog w0 L 74 [vLabels,v] (SlS rU 21 (nrmR us)) (fun s=> .tuple #[vSl s, .int .i64 (nrmE us)]) (fun s=>mS 145 s) (NrP us/\∀u∈us,UIn u):=⟨fun hp w hw=>ZhW v us w (h.out w hw) h.nil hp.1 hp.2⟩
theorem Zio (us:List UL):(nrmR us).length<=3*us.length:=by
 unfold nrmR
 split
 ·have h1:=Zf7 (allU us) (allU us).length
  have h2:=Zep (sor us) (sor us).length
  have h3:=Zej us
  unfold allU at h1⊢
  omega
 ·simp
class Agg0 (P:Program)(T:TypeId):Prop where
 out:aggB P T 0=true
instance ZzU {P:Program}{w0:World}{n:Nat}{L:List Blk}{E:Env}{g:Nat}{T:TypeId}[h:Agg0 P T]:YlC P w0 n L E (.load T (.global g)) (.agg #[]):=⟨fun d ty pos aft gd=>
 Z4 (fun _=>loadVar T ⟨g,0,none⟩) (fun a ha=>by
  simp only[execOp,ha.ev (show Env.ev E (.global g)=some (.pointer (some ⟨g,0,none⟩)) from rfl),Instr.loadAt,Instr.sureAddr]
  rfl) (fun a w _ _=>by simp[loadVar,Sem.run_bind,Zdm h.out,Z5 (Zgn h.out),loadCells,loadCellsFrom])⟩
instance ZsT :Agg0 prog 109:=⟨by kernel_rfl⟩
noncomputable def mNorm (us:List PU):List PU:=mpN ofU (nrmR (mpN toU us us.length)) (nrmR (mpN toU us us.length)).length
theorem Zh7 (v:Value)(us:List PU)(w:World)(hv:ArgS w v rP us)(hl:NrP (mpN toU us us.length))(hok:∀u∈mpN toU us us.length,UIn u):
  Calls prog 21 [v].toArray w (RetM (SlS rP 21 (mNorm us)) (fun s=> .tuple #[vSl s, .int .i64 (nrmE (mpN toU us us.length))]) (fun s=>mS 46 s) w):=by
 have:=ArgC.mk hv
 have hml:=ZaV toU us us.length
 have hnl:=Zio (mpN toU us us.length)
 have hl6:=hl.n
 have hl1:us.length<=1048576:=by omega
 refine Zb Tryz.func21 rfl Tryz.ntmps21 rfl ?_
 repeat(refine wkB ?_;intros)
 (refine ZH (.v [0,1,2] (.e1 3 (.e1 4 (.v [5,6,7] (.e1 8 (.e1 9 (.fin))))))) (([]:List Blk)) (h:=?_);refine wkX ?_)
 (repeat(refine wkH ?_))
 repeat(first|(refine wkT ?_;intros)|(refine tC rfl rfl ?_ ?_;focus(first|exact hl1|exact⟨hl,hok⟩))|(refine uC rfl rfl ?_ ?_;focus(first|exact hl1|exact⟨hl,hok⟩))|(refine eN rfl rfl ?_ ?_;(focus(first|exact hl1|exact⟨hl,hok⟩));intro _;(try simp only[Wf,Wg,Wh])))
 rename_i s1 s2
 repeat(first|(refine wkB ?_;intros)|(refine wnM ?_ ?_;(focus(omega));intros))
 rename_i s3
 exact ZF rfl (Zy rfl) (Zy rfl) (fun w hw=>⟨s3,rfl,hw.sub suB⟩)
instance Zvb (w0:World)(L:List Blk)(v:Value)(us:List PU)[h:LstC w0 L v PU rP us]:SpecR prog w0 L 21 [v] (SlS rP 21 (mNorm us)) (fun s=> .tuple #[vSl s, .int .i64 (nrmE (mpN toU us us.length))]) (fun s=>mS 46 s) (NrP (mpN toU us us.length)/\∀u∈mpN toU us us.length,UIn u):=⟨fun hp w hw=>Zh7 v us w (h.out w hw) hp.1 hp.2⟩
end
section
abbrev Bd :=Zas
abbrev vBd (b:Bd):Value:= .agg (ZQ (ZS b))
def bdF (i:Za):Bd:=⟨i.From,i.OpenFrom⟩
def bdL (i:Za):Bd:=⟨i.To,!i.OpenTo⟩
def bdB (a b:Bd):Za:=⟨a.at_,b.at_,a.behind,!b.behind⟩
noncomputable def cmpB (a b:Bd):Int:=if cl a.at_ b.at_≠0 then cl a.at_ b.at_ else if a.behind=b.behind then 0 else if b.behind=true then-1 else 1
structure BdOk (b:Bd):Prop where
 o:RlB KR b.at_
instance Zxz (i:Za):SpecC prog 152 [vIv i] (vBd (bdF i)) True:=⟨fun hp w=>by
 refine Zb Tryz.func152 rfl Tryz.ntmps152 rfl ?_
 repeat(refine wkB ?_;intros)
 exact rtC rfl rfl⟩
instance ZAd (i:Za):SpecC prog 153 [vIv i] (vBd (bdL i)) True:=⟨fun hp w=>by
 refine Zb Tryz.func153 rfl Tryz.ntmps153 rfl ?_
 repeat(refine wkB ?_;intros)
 exact rtC rfl rfl⟩
instance Zti (a b:Bd):SpecC prog 181 [vBd a,vBd b] (vIv (bdB a b)) True:=⟨fun hp w=>by
 refine Zb Tryz.func181 rfl Tryz.ntmps181 rfl ?_
 repeat(refine wkB ?_;intros)
 exact rtC rfl rfl⟩
instance Zzs (a b:Bd):SpecC prog 151 [vBd a,vBd b] (.int .i64 (cmpB a b)) (BdOk a/\BdOk b):=⟨fun hp w=>by
 obtain⟨⟨h1⟩,⟨h2⟩⟩:=hp
 refine Zb Tryz.func151 rfl Tryz.ntmps151 rfl ?_
 repeat(first|(refine wkB ?_;intros)|(refine wnM ?_ ?_;(focus(exact⟨h1,h2⟩));intros))
 unfold cmpB
 by_cases h1:cl a.at_ b.at_=0
 ·simp only[h1,decide_true,Bool.not_true]
  repeat(refine wkB ?_;intros)
  rw[if_neg (by simp)]
  rcases ha:a.behind with _|_ <;> rcases hb:b.behind with _|_
  ·repeat(refine wkB ?_;intros)
   exact rtT rfl rfl
  ·repeat(refine wkB ?_;intros)
   simp only[hb]
   repeat(refine wkB ?_;intros)
   exact rtT rfl rfl
  ·repeat(refine wkB ?_;intros)
   simp only[hb]
   repeat(refine wkB ?_;intros)
   exact rtT rfl rfl
  ·repeat(refine wkB ?_;intros)
   exact rtT rfl rfl
 ·simp only[We h1,Bool.not_false]
  rw[if_pos h1]
  repeat(refine wkB ?_;intros)
  exact rtT rfl rfl⟩
end
section
structure Ev where
 b:Bd
 n0:Int
 n1:Int
instance : Inhabited Ev:=⟨⟨Zam,0,0⟩⟩
def eEv (x:Ev):Array Value:=ZQ (ZS x.b)++#[.int .i64 x.n0, .int .i64 x.n1]
abbrev vEv (x:Ev):Value:= .agg (eEv x)
instance ZCa (x:Ev):CsC (eEv x) 12:=⟨by kernel_rfl,by kernel_rfl⟩
instance ZAX :EncC eEv 12:=⟨fun _=>CsC.size,fun _=>CsC.one⟩
instance ZAg :ZeroC prog 216 (vEv ⟨Zam,0,0⟩) (eEv ⟨Zam,0,0⟩):=⟨by kernel_rfl,by kernel_rfl⟩
instance ZzL :SizeC prog 216 12:=⟨by kernel_rfl⟩
instance ZA2 :FaC prog 216 0 0:=⟨fun b o w=>by kernel_rfl⟩
instance ZAY :FaO prog 216 0 0 0:=⟨fun b w=>by kernel_rfl⟩
instance ZBl :FaO prog 216 1 0 10:=⟨fun b w=>by kernel_rfl⟩
instance ZCj (x:Ev):LdC prog 216 (eEv x) 0 (vEv x):=⟨ZG 12⟩
instance ZBz (x:Ev):LdC prog 193 (eEv x) 0 (vBd x.b):=⟨ZG 10⟩
instance ZCl (b:Bd):BdC prog 216 [(0,vBd b)] (vEv ⟨b,0,0⟩):=⟨fun w=>by kernel_rfl⟩
instance ZBP (x:Ev)(v:Int):StC prog 3 (eEv x) (10+Int.toNat 0*1) (.int .i64 v) (eEv ⟨x.b,v,x.n1⟩):=⟨by kernel_rfl,by kernel_rfl,by kernel_rfl,by kernel_rfl⟩
instance ZBT (x:Ev)(v:Int):StC prog 3 (eEv x) (10+Int.toNat 1*1) (.int .i64 v) (eEv ⟨x.b,x.n0,v⟩):=⟨by kernel_rfl,by kernel_rfl,by kernel_rfl,by kernel_rfl⟩
instance Znq (x y:Ev):SpecC prog 180 [vEv x,vEv y] (.int .i64 (cmpB x.b y.b)) (BdOk x.b/\BdOk y.b):=⟨fun hp w=>by
 refine Zb Tryz.func180 rfl Tryz.ntmps180 rfl ?_
 repeat(first|(refine wkB ?_;intros)|(refine wnM ?_ ?_;(focus(exact hp));intros))
 exact rtT rfl rfl⟩
end
end Go.Vt
namespace Go.Vt
open Go.RowKit Go.Proofs Go.Shelf
theorem Zo2 {w w':World}(h:Ext w w'):∃q os,w'=Sort.grow (w.drewN q) os:=by
 have hd:=h.dr
 have hs:=h.size
 have hb:=h.block
 have h1:=h.bel.os
 have h2:=h.bel.tape
 have h3:=h.bel.output
 refine⟨w'.drawn-w.drawn,w'.heap.extract w.heap.size w'.heap.size, ?_⟩
 obtain⟨hp,tp,dr,os,out⟩:=w
 obtain⟨hp',tp',dr',os',out'⟩:=w'
 simp only at hd hs hb h1 h2 h3
 subst h1 h2 h3
 unfold Sort.grow World.drewN
 simp only[World.mk.injEq,and_true,true_and]
 refine⟨?_,by omega⟩
 apply Array.ext_getElem?
 intro k
 rw[Array.getElem?_append]
 by_cases hk:k<hp.size
 ·rw[if_pos hk,hb k hk]
 ·rw[if_neg hk,Array.getElem?_extract]
  by_cases hk2:k<hp'.size
  ·rw[if_pos (by omega),show hp.size+(k-hp.size)=k by omega]
  ·rw[if_neg (by omega),Array.getElem?_eq_none (by omega)]
theorem Zni (w:World)(q:Nat):Ext w (w.drewN q):=⟨⟨rfl,rfl,rfl,Wl _,fun _ _=>rfl⟩,Nat.le_add_right _ _⟩
theorem ZmO (w:World)(os:Array Obj):Ext w (Sort.grow w os):=⟨⟨rfl,rfl,rfl,by rw[Sort.size_grow];omega,fun k hk=>by
 show(w.heap++os)[k]? =_
 rw[Array.getElem?_append,if_pos hk]⟩,Wl _⟩
section
variable {P : Program} {ρ : Ren} {α : Type} [Inhabited α] {enc : α -> Array Value} {k : Nat} [he : EncC enc k]
abbrev SoB (ok:α->Prop):Type:={x:α // ok x}
def soE (enc:α->Array Value)(ok:α->Prop)(x:SoB ok):List Value:=(enc x.1).toList
def soD {ok:α->Prop}(xs:List α)(h:∀x∈xs,ok x):Array (SoB ok):=(xs.attach.map fun x=>(⟨x.1,h x.1 x.2⟩:SoB ok)).toArray
def soL {ok:α->Prop}(d:Array (SoB ok)):List α:=d.toList.map (·.1)
theorem ZnP {ok:α->Prop}(xs:List α)(h:∀x∈xs,ok x):(soD xs h).size=xs.length:=by simp[soD]
theorem Zt0 {ok:α->Prop}(xs:List α)(h:∀x∈xs,ok x):soL (soD xs h)=xs:=by simp[soD,soL]
theorem ZcB {ok:α->Prop}(d:Array (SoB ok)):(soL d).length=d.size:=by simp[soL]
theorem ZhR {ok:α->Prop}[Inhabited (SoB ok)](d:Array (SoB ok))(i:Nat)(h:i<d.size):gi (soL d) (i:Int)=d[i]!.1:=by
 rw[Zw (by rw[ZcB];exact h),getElem!_pos d i h]
 simp[soL]
theorem ZhI {ok:α->Prop}[Inhabited (SoB ok)](d:Array (SoB ok))(sp:List Value)(hk:0<k)(t:Nat)(h:t<d.size*k):(row enc (soL d) sp)[t]? =some ((Go.Sort.flatK (soE enc ok) k d)[t]!):=by
 have hi:t / k<d.size:=Nat.div_lt_of_lt_mul (by rw[Nat.mul_comm];exact h)
 have hj:t % k<k:=Nat.mod_lt _ hk
 have h1:=Za3 (enc:=enc) (soL d) sp (t / k) (t % k) (by rw[ZcB];exact hi) hj
 rw[Nat.div_add_mod' t k] at h1
 have h2:=ZhR d (t / k) hi
 rw[Zw (by rw[ZcB];exact hi)] at h2
 rw[h1,h2,Go.Sort.get_flatK _ _ _ _ h]
 unfold soE
 generalize d[t / k]!.1=x
 have h3:t % k<(enc x).size:=by rw[he.size];exact hj
 have h4:t % k<(enc x).toList.length:=by simpa using h3
 rw[Array.getElem?_eq_getElem h3,getElem!_pos (enc x).toList _ h4]
 simp
theorem Znk {w:World}{b:Nat}{cs:Array Value}{T:TypeId}(h:w.heap[b]? =some (.cells cs T (0,0)))(j:Nat):w.cell? ⟨b,j,none⟩=cs[j]? /\w.frozen? ⟨b,j,none⟩=false:=by
 constructor
 ·simp[World.cell?,h]
 ·simp[World.frozen?,h]
theorem ZqR {ok:α->Prop}[Inhabited (SoB ok)](xs:List α)(d:Array (SoB ok))(hs:d.size=xs.length)(sp:List Value)(hk:0<k):Go.Sort.putCells id 0 (Go.Sort.flatK (soE enc ok) k d) (row enc xs sp)=row enc (soL d) sp:=by
 have e1:=ZaA (enc:=enc) xs sp
 have e2:=ZaA (enc:=enc) (soL d) sp
 rw[ZcB,hs] at e2
 apply Array.ext_getElem?
 intro t
 by_cases ht:t<(row enc xs sp).size
 ·unfold Go.Sort.putCells
  rw[Array.getElem?_mapIdx,Array.getElem?_eq_getElem ht,Option.map_some,Go.Sort.size_flatK]
  by_cases h:t<d.size*k
  ·rw[if_pos (by omega),ZhI (enc:=enc) d sp hk t h]
   rfl
  ·rw[if_neg (by omega)]
   have l1:=ZX (enc:=enc) xs
   have l2:=ZX (enc:=enc) (soL d)
   rw[ZcB,hs] at l2
   rw[hs] at h
   have g1:(row enc xs sp)[t]? =sp[t-xs.length*k]? :=by
    simp only[row,List.getElem?_toArray]
    rw[List.getElem?_append_right (by omega),l1]
   have g2:(row enc (soL d) sp)[t]? =sp[t-xs.length*k]? :=by
    simp only[row,List.getElem?_toArray]
    rw[List.getElem?_append_right (by omega),l2]
   rw[g2,<-g1,Array.getElem?_eq_getElem ht]
 ·have h3:(Go.Sort.putCells id 0 (Go.Sort.flatK (soE enc ok) k d) (row enc xs sp)).size=(row enc xs sp).size:=by simp[Go.Sort.putCells]
  rw[Array.getElem?_eq_none (by omega),Array.getElem?_eq_none (by omega)]
structure SoR (cf:α->α->Int)(xs ys:List α):Prop where
 p:ys.Perm xs
 o:∀i j:Nat,i<j->j<ys.length->¬cf (gi ys (j:Int)) (gi ys (i:Int))<0
theorem ZmZ (L0:SlLaysF0.n6 P ρ)(aE:∀w,(isAgg (ρ.t 24)).run P w= .ok true w)(zE:∀w,(Go.sizeOf (ρ.t 24)).run P w= .ok k w)(hk:0<k){ok:α->Prop}(cf:α->α->Int)(g:FuncId)
  (eg:∀args w,(callFunc g args).run P w= .ok (.enter g args) w) (hc:∀x y,ok x->ok y->∀w,Calls P g #[.agg (enc x), .agg (enc y)] w (Ret (.int .i64 (cf x y)) w))
  (hO:Go.Sort.SWO (ltOf fun x y:SoB ok=>cf x.1 y.1)) (w0 w:World) (L1:List Blk) (b c:Nat) (xs:List α) (sp:List Value) (T:TypeId) (hok:∀x∈xs,ok x) (hne:xs≠[]) (hl:xs.length<4611686018427387904) (hw:Own w0 (⟨b,row enc xs sp,T⟩::L1) w):
  Calls P (ρ.f 6) #[.slice (some ⟨b,0,none⟩) xs.length c, .func (.func g) #[] #[]] w (RetX w0 {ys:List α // SoR cf xs ys} (fun _=> .tuple #[]) (fun ys=>⟨b,row enc ys.1 sp,T⟩::L1)):=by
 obtain⟨x0,hx0⟩:∃x0,x0∈xs:=List.exists_mem_of_ne_nil _ hne
 letI:Inhabited (SoB ok):=⟨⟨x0,hok x0 hx0⟩⟩
 have hb:=(hw.mem _ (.head _)).2
 have hb':w.heap[b]? =some (.cells (row enc xs sp) T (0,0)):=hb
 have hblk:b<w.heap.size:=Zae hb
 have hsz:=ZnP xs hok
 have hLd:=Zt0 xs hok
 have hcmp:CmpLays P g #[] (soE enc ok) k (fun x y=>cf x.1 y.1) b 0 (soD xs hok).size w:=fun m os dk hs x y=>
  (hc x.1 y.1 x.2 y.2 _).mono fun e w' ⟨h1,h2⟩=>by
   obtain⟨q,os',h3⟩:=Zo2 h2
   exact⟨h1,q,os',h3⟩
 have hH:Go.Sort.HoldsK (soE enc ok) k w b 0 (soD xs hok):=fun j hj=>by
  rw[Go.Sort.size_flatK] at hj
  have h1:=ZhI (enc:=enc) (soD xs hok) sp hk j hj
  rw[hLd] at h1
  rw[Nat.zero_add]
  obtain⟨h2,h3⟩:=Znk hb' j
  exact⟨by rw[h2,h1];rfl,h3⟩
 have key:=AnyQ.slices_SortFunc L0 k aE zE (soE enc ok) (fun x=>by simp[soE,he.size]) (fun x v hv=>by
  unfold soE at hv
  exact Array.all_eq_true_iff_forall_mem.1 (he.one x.1) v (Array.mem_toList_iff.1 hv)) (fun x y=>cf x.1 y.1) hO g #[] b 0 c (soD xs hok) w eg hcmp hH hblk (by rw[hsz];exact hl)
 rw[hsz] at key
 refine key.mono fun e w' ⟨he',d',n,os,hp,hs,hw'⟩=>?_
 have hd':d'.size=xs.length:=hp.1.trans hsz
 have hperm:(soL d').Perm xs:=by
  have h1:=hp.2.2
  have e1:d'.extract 0 xs.length=d':=by rw[<-hd'];simp
  have e2:(soD xs hok).extract 0 xs.length=soD xs hok:=by rw[<-hsz];simp
  rw[e1,e2] at h1
  have h2:=h1.map (·.1)
  have h3:(soD xs hok).toList.map (·.1)=xs:=hLd
  rw[h3] at h2
  exact h2
 have hord:∀i j:Nat,i<j->j<(soL d').length->¬cf (gi (soL d') (j:Int)) (gi (soL d') (i:Int))<0:=fun i j hij hj=>by
  rw[ZcB] at hj
  have h1:=hs i j (Wm _) hij (by omega)
  rw[ZhR d' i (by omega),ZhR d' j hj]
  unfold ltOf at h1
  exact Wb h1
 refine⟨⟨soL d',hperm,hord⟩,he', ?_⟩
 subst hw'
 have hw1:Own w0 (⟨b,row enc xs sp,T⟩::L1) (Sort.ahead w n):=hw.to (Zni w n)
 have ht:Turned b (row enc (soL d') sp) T (Sort.ahead w n) (Go.Sort.mapBlock (Sort.ahead w n) b (Go.Sort.putCells id 0 (Go.Sort.flatK (soE enc ok) k d'))):=by
  refine⟨rfl,rfl,rfl,by simp[Go.Sort.mapBlock],rfl,fun j hj=>?_, ?_⟩
  ·show((Sort.ahead w n).heap.modify b _)[j]? =_
   rw[Array.getElem?_modify,if_neg (fun h=>hj h.symm)]
  ·show((Sort.ahead w n).heap.modify b _)[b]? =_
   rw[Array.getElem?_modify,if_pos rfl]
   show Option.map _ w.heap[b]? =_
   rw[hb',Option.map_some]
   unfold Go.Sort.onCells
   simp only
   rw[ZqR xs d' hd' sp hk]
 have hw2:=hw1.turn (.here) ht
 exact hw2.to (ZmO _ os)
end
end Go.Vt
/-
 DERIVED: THE SHELF's CONTRACTS AT THIS DUMP, IN PLAIN WORDS (tools/lay-plain.mjs out of 'YtcgkgdgpdpihmaaGreatDoorLaySo.lean', which tools/lay-shelf.mjs wrote): THE SAME DECLARATIONS UNDER THE SAME NAMES: 'import', 'namespace', 'open', 'def', 'theorem' AND NOTHING ELSE: no command of the shelf's: FOR A HAND-IN. Each laying: the table of numbers ('.._ren') and one theorem, a field a fact of the dump's own or the kernel's comparison; each contract: ONE APPLICATION.
-/
namespace Go.Proofs
open Go.Shelf
def Tryz.lSo_ren :Go.Shelf.Ren:=⟨fun|6=>179|15=>148|14=>212|28=>193|29=>194|20=>230|21=>231|22=>232|23=>233|24=>234|25=>235|26=>236|27=>237|46=>248|47=>214|48=>215|49=>249|50=>250|57=>259|n=>n,fun|22=>213|24=>216|25=>218|3=>3|39=>189|0=>0|53=>230|55=>232|4=>4|46=>224|45=>223|50=>54|5=>5|9=>9|66=>246|70=>250|76=>276|77=>277|n=>n,fun|n=>n⟩
theorem Tryz.lSo :Go.Proofs.SlLaysF0.n6 Tryz.prog Tryz.lSo_ren:={
 mixed:=by kernel_rfl
 f6:=⟨Tryz.f179.name,by decide,Tryz.func179.trans (congrArg some (by kernel_rfl))⟩
 f14:=⟨Tryz.f212.name,by decide,Tryz.func212.trans (congrArg some (by kernel_rfl))⟩
 f15:=Tryz.func148.trans (congrArg some (by kernel_rfl))
 f20:=⟨Tryz.f230.name,by decide,Tryz.func230.trans (congrArg some (by kernel_rfl))⟩
 f21:=⟨Tryz.f231.name,by decide,Tryz.func231.trans (congrArg some (by kernel_rfl))⟩
 f22:=⟨Tryz.f232.name,by decide,Tryz.func232.trans (congrArg some (by kernel_rfl))⟩
 f23:=⟨Tryz.f233.name,by decide,Tryz.func233.trans (congrArg some (by kernel_rfl))⟩
 f24:=⟨Tryz.f234.name,by decide,Tryz.func234.trans (congrArg some (by kernel_rfl))⟩
 f25:=⟨Tryz.f235.name,by decide,Tryz.func235.trans (congrArg some (by kernel_rfl))⟩
 f26:=⟨Tryz.f236.name,by decide,Tryz.func236.trans (congrArg some (by kernel_rfl))⟩
 f27:=⟨Tryz.f237.name,by decide,Tryz.func237.trans (congrArg some (by kernel_rfl))⟩
 f28:=Tryz.func193.trans (congrArg some (by kernel_rfl))
 f29:=Tryz.func194.trans (congrArg some (by kernel_rfl))
 f46:=⟨Tryz.f248.name,by decide,Tryz.func248.trans (congrArg some (by kernel_rfl))⟩
 f47:=Tryz.func214.trans (congrArg some (by kernel_rfl))
 f48:=Tryz.func215.trans (congrArg some (by kernel_rfl))
 f49:=⟨Tryz.f249.name,by decide,Tryz.func249.trans (congrArg some (by kernel_rfl))⟩
 f50:=⟨Tryz.f250.name,by decide,Tryz.func250.trans (congrArg some (by kernel_rfl))⟩
 f57:=⟨Tryz.f259.name,by decide,Tryz.func259.trans (congrArg some (by kernel_rfl))⟩
 t0:=Tryz.underlying0
 a0:=Tryz.isAgg0
 z0:=Tryz.sizeOf0
 v0:=Tryz.zeroValue0
 t3:=Tryz.underlying3
 a3:=Tryz.isAgg3
 z3:=Tryz.sizeOf3
 v3:=Tryz.zeroValue3
 t4:=Tryz.underlying4
 a4:=Tryz.isAgg4
 z4:=Tryz.sizeOf4
 v4:=Tryz.zeroValue4
 t5:=Tryz.underlying5
 a5:=Tryz.isAgg5
 z5:=Tryz.sizeOf5
 v5:=Tryz.zeroValue5
 t9:=Tryz.underlying9
 a9:=Tryz.isAgg9
 z9:=Tryz.sizeOf9
 v9:=Tryz.zeroValue9
 t22:=Tryz.underlying213
 a22:=Tryz.isAgg213
 z22:=Tryz.sizeOf213
 v22:=Tryz.zeroValue213
 t25:=Tryz.underlying218
 a25:=Tryz.isAgg218
 z25:=Tryz.sizeOf218
 v25:=Tryz.zeroValue218
 t39:=Tryz.underlying189
 a39:=Tryz.isAgg189
 z39:=Tryz.sizeOf189
 v39:=Tryz.zeroValue189
 t45:=Tryz.underlying223
 a45:=Tryz.isAgg223
 z45:=Tryz.sizeOf223
 v45:=Tryz.zeroValue223
 t46:=Tryz.underlying224
 a46:=Tryz.isAgg224
 z46:=Tryz.sizeOf224
 v46:=Tryz.zeroValue224
 t50:=Tryz.underlying54
 a50:=Tryz.isAgg54
 z50:=Tryz.sizeOf54
 v50:=Tryz.zeroValue54
 t53:=Tryz.underlying230
 a53:=Tryz.isAgg230
 z53:=Tryz.sizeOf230
 v53:=Tryz.zeroValue230
 t55:=Tryz.underlying232
 a55:=Tryz.isAgg232
 z55:=Tryz.sizeOf232
 v55:=Tryz.zeroValue232
 t66:=Tryz.underlying246
 a66:=Tryz.isAgg246
 z66:=Tryz.sizeOf246
 v66:=Tryz.zeroValue246
 t70:=Tryz.underlying250
 a70:=Tryz.isAgg250
 z70:=Tryz.sizeOf250
 v70:=Tryz.zeroValue250
 t76:=Tryz.underlying276
 a76:=Tryz.isAgg276
 z76:=Tryz.sizeOf276
 v76:=Tryz.zeroValue276
 t77:=Tryz.underlying277
 a77:=Tryz.isAgg277
 z77:=Tryz.sizeOf277
 v77:=Tryz.zeroValue277}
end Go.Proofs
namespace Go.Vt
open Go.RowKit Go.Proofs
open Go.Proofs.Tryz (prog)
section
noncomputable abbrev cmpE (x y:Ev):Int:=cmpB x.b y.b
def swpE (xs:List Ev)(j:Nat):List Ev:=(xs.set (j+1) (gi xs (j:Int))).set j (gi xs ((j+1:Nat):Int))
noncomputable def dwnE (xs:List Ev):Nat->List Ev
 |0=>xs
 |j+1=>if cmpE (gi xs ((j+1:Nat):Int)) (gi xs (j:Int))<0 then dwnE (swpE xs j) j else xs
noncomputable def srtE (xs:List Ev):Nat->List Ev
 |0=>xs
 |i+1=>dwnE (srtE xs i) (i+1)
abbrev EvV (e:Ev):Prop:=BdOk e.b
def bdLt (a b:Bd):Prop:=ri a.at_<ri b.at_\/(ri a.at_=ri b.at_/\a.behind=false/\b.behind=true)
theorem ZbG {a b:Bd}:cmpB a b<0↔bdLt a b:=by
 unfold cmpB bdLt
 have k1:= @Zal a.at_ b.at_
 have k2:= @Zao a.at_ b.at_
 by_cases h:cl a.at_ b.at_=0
 ·rw[if_neg (by simpa using h)]
  have h':=k2.1 h
  rcases ha:a.behind <;> rcases hb:b.behind <;> simp[h'] <;> grind
 ·rw[if_pos h,k1]
  have h':¬ri a.at_=ri b.at_:=fun e=>h (k2.2 e)
  grind
theorem Znw :Go.Sort.SWO (Go.Proofs.ltOf fun x y:SoB EvV=>cmpE x.1 y.1) where
 irrefl x:=We fun h=>by
  have:=ZbG.1 h
  unfold bdLt at this
  grind
 trans x y z h1 h2:=Wc (by
  have h1:=ZbG.1 (Wa h1)
  have h2:=ZbG.1 (Wa h2)
  refine ZbG.2 ?_
  unfold bdLt at*
  grind)
 ntrans x y z h1 h2:=We fun h=>by
  have h1:=fun k=>Wb h1 (ZbG.2 k)
  have h2:=fun k=>Wb h2 (ZbG.2 k)
  have h:=ZbG.1 h
  unfold bdLt at*
  grind
abbrev SoE (xs:List Ev):Type:={ys:List Ev // SoR cmpE xs ys}
abbrev SrtSE (xs:List Ev)(s:SlS eEv 12 xs):Type:=(ys:SoE xs)×{s':SlS eEv 12 ys.1 // vSl s'=vSl s}
theorem ZkB (w0 w:World)(L L1:List Blk)(xs:List Ev)(s:SlS eEv 12 xs)(T:TypeId)[hd:OwnS T s L L1](hl:xs.length<=1048576)(hok:∀u∈xs,BdOk u.b)(hw:Own w0 L w):
  Calls prog 179 [vSl s,vFn 180].toArray w (RetX w0 (SrtSE xs s) (fun _=> .tuple #[]) (fun q=>mS T q.2.1++L1)):=by
 have hw1:=hw.perm hd.out
 rcases s.cases T with⟨rfl,hv,hm⟩|⟨b,c,sp,h1,hv,hm,hne⟩
 ·suffices h:Calls prog 179 #[.slice none 0 0,vFn 180] w (RetX w0 (SrtSE [] s) (fun _=> .tuple #[]) (fun q=>mS T q.2.1++L1)) by
   rw[<-hv] at h
   exact h
  refine(AnyF.slices_SortFunc_none Tryz.lSo none 0 _ w).mono fun e w' ⟨he,hx⟩=>?_
  subst hx
  exact⟨⟨⟨[], .refl _,fun i j h1 h2=>by simp at h2⟩,s,rfl⟩,he,hw1⟩
 ·suffices h:Calls prog 179 #[.slice (some ⟨b,0,none⟩) xs.length c,vFn 180] w (RetX w0 (SrtSE xs s) (fun _=> .tuple #[]) (fun q=>mS T q.2.1++L1)) by
   rw[<-hv] at h
   exact h
  rw[hm] at hw1
  refine(ZmZ Tryz.lSo (fun w=>by kernel_rfl) (fun w=>by kernel_rfl) (by decide) (ok:=EvV) cmpE 180 (enters_of Tryz.func180 (by kernel_rfl) rfl) (fun x y hx hy w=>(Znq x y).out ⟨hx,hy⟩ w) Znw w0 w L1 b c xs sp T hok hne (by omega) hw1).mono fun e w' ⟨ys,he,hw'⟩=>?_
  have hyl:ys.1.length=xs.length:=ys.2.p.length_eq
  exact⟨⟨ys,SlS.at_ b c sp (by rw[hyl];exact h1) (fun h0=>hne (List.length_eq_zero_iff.1 (by rw[<-hyl,h0];rfl))),by rw[hv];show Value.slice _ ys.1.length c=_;rw[hyl]⟩,he,hw'⟩
instance Zw1 (w0:World)(L L1:List Blk)(xs:List Ev)(s:SlS eEv 12 xs)(T:TypeId)[hd:OwnS T s L L1]:SpecX prog w0 L 179 [vSl s,vFn 180] (SrtSE xs s) (fun _=> .tuple #[]) (fun q=>mS T q.2.1++L1) (xs.length<=1048576/\∀u∈xs,BdOk u.b):=⟨fun hp w hw=>ZkB w0 w L L1 xs s T hp.1 hp.2 hw⟩
end
section
def eSlc (x:Sl):Array Value:=#[.slice x.a x.len x.cap]
instance : Inhabited Sl:=⟨⟨none,0,0⟩⟩
instance ZzR :EncC eSlc 1:=⟨fun _=>rfl,fun x=>by simp[eSlc,Value.oneCell']⟩
instance ZBs (x:Sl):LdC prog 47 (eSlc x) 0 (.slice x.a x.len x.cap):=⟨ZD⟩
instance ZBE (a a':Option Addr)(l l' c c':Nat):BsC prog 214 2 [(0, .slice a l c),(1, .slice a' l' c')] (row eSlc [⟨a,l,c⟩,⟨a',l',c'⟩] []) 47:=⟨fun w=>by kernel_rfl⟩
def evA (is:List Za):Nat->List Ev
 |0=>[]
 |m+1=>evA is m++[⟨bdF (gi is (m:Int)),1,0⟩,⟨bdL (gi is (m:Int)), -1,0⟩]
def evB (is:List Za):Nat->List Ev
 |0=>[]
 |m+1=>evB is m++[⟨bdF (gi is (m:Int)),0,1⟩,⟨bdL (gi is (m:Int)),0, -1⟩]
def kpU (a b:Bool):Bool:=a||b
structure SwS where
 n0:Int
 n1:Int
 fr:Bd
 on:Bool
 out:List Za
noncomputable def sws (kp:Bool->Bool->Bool)(l:List Ev):Nat->SwS
 |0=>⟨0,0,Zam,false,[]⟩
 |m+1=>
  let p:=sws kp l m
  let x:=gi l (m:Int)
  let n0:=p.n0+x.n0
  let n1:=p.n1+x.n1
  if m+1<l.length/\cmpB x.b (gi l ((m+1:Nat):Int)).b=0 then⟨n0,n1,p.fr,p.on,p.out⟩
  else
   let now:=kp (decide (0<n0)) (decide (0<n1))
   ⟨n0,n1,if now&& !p.on then x.b else p.fr,now,if now&& !p.on then p.out else if !now&&p.on then p.out++[bdB p.fr x.b] else p.out⟩
theorem ZeD (is:List Za):∀m,(evA is m).length=2*m
 |0=>rfl
 |m+1=>by rw[evA,Wp,ZeD is m];simp;omega
theorem Zf6 (is:List Za):∀m,(evB is m).length=2*m
 |0=>rfl
 |m+1=>by rw[evB,Wp,Zf6 is m];simp;omega
def evK (is js:List Za)(k:Nat):List Ev:=if k=0 then [] else if k=1 then evA is is.length else evA is is.length++evB js js.length
theorem Zm8 {is:List Za}(h:∀i∈is,BdOk (bdF i)/\BdOk (bdL i)):∀m,m<=is.length->∀u∈evA is m,BdOk u.b
 |0,_,u,hu=>by cases hu
 |m+1,hm,u,hu=>by
  rw[evA] at hu
  have hi:=h _ (ZA (i:=(m:Int)) (xs:=is) (by omega))
  rcases List.mem_append.1 hu with k|k
  ·exact Zm8 h m (by omega) u k
  ·rcases List.mem_cons.1 k with k1|k1
   ·rw[k1];exact hi.1
   ·rw[List.mem_singleton.1 k1];exact hi.2
theorem Znj {is:List Za}(h:∀i∈is,BdOk (bdF i)/\BdOk (bdL i)):∀m,m<=is.length->∀u∈evB is m,BdOk u.b
 |0,_,u,hu=>by cases hu
 |m+1,hm,u,hu=>by
  rw[evB] at hu
  have hi:=h _ (ZA (i:=(m:Int)) (xs:=is) (by omega))
  rcases List.mem_append.1 hu with k|k
  ·exact Znj h m (by omega) u k
  ·rcases List.mem_cons.1 k with k1|k1
   ·rw[k1];exact hi.1
   ·rw[List.mem_singleton.1 k1];exact hi.2
def Ev1 (x:Ev):Prop:=(-1<=x.n0/\x.n0<=1)/\(-1<=x.n1/\x.n1<=1)
theorem ZpK (is:List Za):∀m,∀u∈evA is m,Ev1 u
 |0,u,hu=>by cases hu
 |m+1,u,hu=>by
  rw[evA] at hu
  rcases List.mem_append.1 hu with k|k
  ·exact ZpK is m u k
  ·rcases List.mem_cons.1 k with k1|k1
   ·rw[k1];unfold Ev1;simp
   ·rw[List.mem_singleton.1 k1];unfold Ev1;simp
theorem ZpI (is:List Za):∀m,∀u∈evB is m,Ev1 u
 |0,u,hu=>by cases hu
 |m+1,u,hu=>by
  rw[evB] at hu
  rcases List.mem_append.1 hu with k|k
  ·exact ZpI is m u k
  ·rcases List.mem_cons.1 k with k1|k1
   ·rw[k1];unfold Ev1;simp
   ·rw[List.mem_singleton.1 k1];unfold Ev1;simp
theorem Zj1 {kp:Bool->Bool->Bool}{l:List Ev}(h:∀x∈l,Ev1 x):∀m:Nat,m<=l.length->(-(m:Int)<=(sws kp l m).n0/\(sws kp l m).n0<=m)/\(-(m:Int)<=(sws kp l m).n1/\(sws kp l m).n1<=m)
 |0,_=>by simp[sws]
 |m+1,hm=>by
  obtain⟨h1,h2⟩:=Zj1 (kp:=kp) h m (by omega)
  obtain⟨h3,h4⟩:=h _ (ZA (i:=(m:Int)) (xs:=l) (by omega))
  rw[sws]
  simp only
  split
  ·exact⟨⟨by show _<=(sws kp l m).n0+(gi l (m:Int)).n0;omega,by show(sws kp l m).n0+(gi l (m:Int)).n0<=_;omega⟩,by show _<=(sws kp l m).n1+(gi l (m:Int)).n1;omega,by show(sws kp l m).n1+(gi l (m:Int)).n1<=_;omega⟩
  ·exact⟨⟨by show _<=(sws kp l m).n0+(gi l (m:Int)).n0;omega,by show(sws kp l m).n0+(gi l (m:Int)).n0<=_;omega⟩,by show _<=(sws kp l m).n1+(gi l (m:Int)).n1;omega,by show(sws kp l m).n1+(gi l (m:Int)).n1<=_;omega⟩
noncomputable def swpR (kp:Bool->Bool->Bool)(is js:List Za):List Za:=(sws kp (srtE (evK is js 2) ((evK is js 2).length-1)) (srtE (evK is js 2) ((evK is js 2).length-1)).length).out
theorem Zjb (kp:Bool->Bool->Bool)(l:List Ev):∀m,(sws kp l m).out.length<=m
 |0=>Wl _
 |m+1=>by
  have:=Zjb kp l m
  rw[sws]
  simp only
  split
  ·show(sws kp l m).out.length<=m+1
   omega
  ·simp only
   split
   ·omega
   ·split
    ·rw[Wp];simp;omega
    ·omega
end
end Go.Vt
