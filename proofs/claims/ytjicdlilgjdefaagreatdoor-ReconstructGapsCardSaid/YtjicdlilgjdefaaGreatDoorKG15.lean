/- that the gaps between reports are those of the chain (part 15 of 32.) Conditions: those that each statement names. -/
import Derived.Test.YtjicdlilgjdefaaGreatDoorKG14
set_option linter.unusedSimpArgs false
set_option linter.unusedVariables false
set_option maxHeartbeats 2000000
set_option maxRecDepth 100000
set_option linter.unusedSectionVars false
namespace Go.Vt
open Go.RowKit Go.Proofs
open Go.Proofs.Tryz (prog)
section
abbrev KN :Nat:=1073741824
structure LnOk (K:Nat)(f:ZG):Prop where
 x0:M f.X0<=K
 x1:M f.X1<=K
 y0:M f.Y0<=K
 y1:M f.Y1<=K
structure UOk (u:UL):Prop where
 i:IvOk KN u.In
 f:LnOk BQ u.F
structure UIn (u:UL):Prop where
 i:IvOk KN u.In
 f:LnOk KN u.F
def bef (xs:List UL)(t:Zp):Bool:=decide (0<xs.length)&&(decide ((lstU xs).In.To=t)&& !decide ((lstU xs).In.From=(lstU xs).In.To))
def smL (f g:ZG)(t:Rat):Bool:=qsame (lnX f) (lnX g) t&&qsame (lnY f) (lnY g) t
def turn (xs:List UL)(u:UL):List UL:=xs.set (xs.length-1) u
def isI (u:UL):Bool:=decide (u.In.From=u.In.To)
def cA (xs:List UL)(x:UL):Bool:=bef xs x.In.From&&(!(lstU xs).In.OpenTo&&decide ((lstU xs).F=x.F))
def cB (l:List UL)(i:Nat)(xs:List UL)(x:UL):Bool:=decide (0<i)&&(isI (gi l ((i:Int)-1))&&(decide ((gi l ((i:Int)-1)).In.From=x.In.From)&& !hld xs x.In.From))
def cC (xs:List UL)(x:UL):Bool:=bef xs x.In.From&&smL (lstU xs).F x.F x.In.From.P
def cD (l:List UL)(i:Nat)(x:UL):Bool:=decide (i+1<l.length)&&(decide ((gi l ((i:Int)+1)).In.From=x.In.From)&&smL (gi l ((i:Int)+1)).F x.F x.In.From.P)
def ext (u x:UL):UL:=⟨⟨u.In.From,x.In.To,u.In.OpenFrom,true⟩,u.F⟩
def clo (u:UL):UL:=⟨⟨u.In.From,u.In.To,u.In.OpenFrom,false⟩,u.F⟩
def opF (x:UL):UL:=⟨⟨x.In.From,x.In.To,false,x.In.OpenTo⟩,x.F⟩
def redU (x:UL):UL:=⟨x.In,lred x.F x.In.From.P⟩
def nstp (l:List UL)(i:Nat)(xs:List UL)(x:UL):List UL:=
 if isI x=false then
  if cA xs x=true then turn xs (ext (lstU xs) x) else xs++[if cB l i xs x=true then opF x else x]
 else if cC xs x=true then turn xs (clo (lstU xs))
 else if cD l i x=true then xs else xs++[redU x]
def nrm (l:List UL):Nat->List UL
 |0=>[]
 |i+1=>nstp l i (nrm l i) (gi l (i:Int))
def aprN (l:List UL):Nat->Bool
 |0=>true
 |m+1=>aprN l m&& !(decide (0<m)&& !aprt (gi l ((m:Int)-1)).In (gi l (m:Int)).In)
def allU (us:List UL):List UL:=atm (sor us) (sor us).length
def nrmR (us:List UL):List UL:=if aprN (sor us) (sor us).length=true then nrm (allU us) (allU us).length else []
def nrmE (us:List UL):Int:=if aprN (sor us) (sor us).length=true then 0 else 11
theorem IvOk.at {K:Nat}{I:Ze}(h:IvOk K I)(o c:Bool):IvOk K ⟨I.From,I.To,o,c⟩:=⟨h.r1,h.r2,h.n1,h.n2,h.m1,h.m2⟩
theorem Zuv {f:ZG}{t:Rat}(h:LnOk KN f)(ht:M t<=KN):LnOk BQ (lred f t):=by
 have:=MB.mk h.x0
 have:=MB.mk h.x1
 have:=MB.mk h.y0
 have:=MB.mk h.y1
 have:=MB.mk ht
 unfold lred
 exact⟨MB.lt rfl,MB.lt rfl,MB.lt rfl,MB.lt rfl⟩
theorem LnOk.mono {K K':Nat}{f:ZG}(h:LnOk K f)(hk:K<=K'):LnOk K' f:=⟨Wi h.x0 hk,Wi h.x1 hk,Wi h.y0 hk,Wi h.y1 hk⟩
theorem UIn.ok {u:UL}(h:UIn u):UOk u:=⟨h.i,h.f.mono (by decide)⟩
theorem ZI {α:Type}[Inhabited α]{xs:List α}{i:Int}(h:i.toNat<xs.length):gi xs i∈xs:=by
 rw[Zc1 h]
 exact List.getElem_mem _
theorem ZmW {xs:List UL}{u:UL}(h:∀v∈xs,UOk v)(hu:UOk u):∀v∈turn xs u,UOk v:=fun v hv=>by
 rcases List.mem_or_eq_of_mem_set hv with h1|h1
 ·exact h v h1
 ·rw[h1];exact hu
theorem Zcp {xs:List UL}{t:Zp}(h:bef xs t=true):0<xs.length:=by
 unfold bef at h
 simp only[Wq,decide_eq_true_eq] at h
 exact h.1
theorem Zkj {xs:List UL}(h:∀v∈xs,UOk v)(h0:0<xs.length):UOk (lstU xs):=h _ (ZI (by omega))
theorem Zub {l:List UL}{i:Nat}{xs:List UL}{x:UL}(h:∀v∈xs,UOk v)(hx:UIn x):∀v∈nstp l i xs x,UOk v:=by
 unfold nstp
 split
 ·split
  ·rename_i hc
   have h0:0<xs.length:=by
    unfold cA at hc
    simp only[Wq] at hc
    exact Zcp hc.1
   have hl:=Zkj h h0
   exact ZmW h ⟨⟨hl.i.r1,hx.i.r2,hl.i.n1,hx.i.n2,hl.i.m1,hx.i.m2⟩,hl.f⟩
  ·intro v hv
   rcases List.mem_append.1 hv with h1|h1
   ·exact h v h1
   ·rw[Wo] at h1
    subst h1
    split
    ·exact⟨hx.i.at _ _,hx.ok.f⟩
    ·exact hx.ok
 ·split
  ·rename_i hc
   have h0:0<xs.length:=by
    unfold cC at hc
    simp only[Wq] at hc
    exact Zcp hc.1
   have hl:=Zkj h h0
   exact ZmW h ⟨hl.i.at _ _,hl.f⟩
  ·split
   ·exact h
   ·intro v hv
    rcases List.mem_append.1 hv with h1|h1
    ·exact h v h1
    ·rw[Wo] at h1
     subst h1
     exact⟨hx.i,Zuv hx.f hx.i.m1⟩
theorem Zhc {l:List UL}(h:∀u∈l,UIn u):∀m,m<=l.length->∀v∈nrm l m,UOk v
 |0,_=>fun v hv=>by cases hv
 |m+1,hm=>Zub (Zhc h m (by omega)) (h _ (ZI (by omega)))
theorem ZrJ (l:List UL)(i:Nat)(xs:List UL)(x:UL):(nstp l i xs x).length<=xs.length+1:=by
 unfold nstp turn
 split
 ·split <;> simp
 ·split
  ·simp
  ·split <;> simp
theorem Zh2 (l:List UL):∀m,(nrm l m).length<=m
 |0=>Wl _
 |m+1=>by
  have:=Zh2 l m
  have:=ZrJ l m (nrm l m) (gi l (m:Int))
  rw[nrm]
  omega
theorem Zgv (us:List UL):(sor us).length=us.length:=ZeM us _
theorem ZeK {us:List UL}{u:UL}(h:u∈sor us):u∈us:=by
 rcases Nat.eq_zero_or_pos us.length with h0|h0
 ·have h1:=Zgv us
  rw[h0] at h1
  rw[List.length_eq_zero_iff.1 h1] at h
  cases h
 ·exact ZhL us _ (by omega) u h
theorem ZvM {u v:UL}(h:UIn u)(hv:v∈atU u):UIn v:=by
 unfold atU at hv
 have e1:IvOk KN ⟨u.In.From,u.In.From,false,false⟩:=⟨h.i.r1,h.i.r1,h.i.n1,h.i.n1,h.i.m1,h.i.m1⟩
 have e2:IvOk KN ⟨u.In.To,u.In.To,false,false⟩:=⟨h.i.r2,h.i.r2,h.i.n2,h.i.n2,h.i.m2,h.i.m2⟩
 rcases List.mem_append.1 hv with h1|h1
 ·split at h1
  ·cases h1
  ·rw[Wo] at h1
   subst h1
   exact⟨e1,h.f⟩
 ·split at h1
  ·cases h1
  ·rcases List.mem_cons.1 h1 with h2|h2
   ·subst h2
    exact⟨h.i.at _ _,h.f⟩
   ·split at h2
    ·cases h2
    ·rw[Wo] at h2
     subst h2
     exact⟨e2,h.f⟩
theorem ZfI {us:List UL}(h:∀u∈us,UIn u):∀m,m<=us.length->∀v∈atm us m,UIn v
 |0,_,v,hv=>by cases hv
 |m+1,hm,v,hv=>by
  rw[atm] at hv
  rcases List.mem_append.1 hv with h1|h1
  ·exact ZfI h m (by omega) v h1
  ·exact ZvM (h _ (ZI (by omega))) h1
theorem Zpj {l:List UL}{m:Nat}(h:aprN l m=false):∀n,m<=n->aprN l n=false:=fun n hn=>by
 induction n with
 |zero=>rw[show m=0 by omega] at h;exact h
 |succ n ih=>
  rcases(by omega:m=n+1\/m<=n) with h1|h1
  ·rw[<-h1];exact h
  ·rw[aprN,ih h1];rfl
theorem SlS.turn {α:Type}{enc:α->Array Value}{k:Nat}{xs ys:List α}(T:TypeId)(h:xs=ys)(s:SlS enc k xs):∃s':SlS enc k ys,vSl s'=vSl s/\mS T s'=mS T s:=by
 subst h
 exact⟨s,rfl,rfl⟩
theorem SlS.put {α:Type}{enc:α->Array Value}{k n b c:Nat}{ys:List α}{sp:List Value}(T:TypeId)(hn:ys.length=n)(h:n<=c/\sp.length=(c-n)*k)(h0:0<n):∃s':SlS enc k ys,vSl s'= .slice (some ⟨b,0,none⟩) n c/\mS T s'=[⟨b,row enc ys sp,T⟩]:=by
 subst hn
 exact⟨SlS.at_ b c sp h (fun h1=>by rw[h1] at h0;simp at h0),rfl,rfl⟩
theorem Zkb (xs:List UL)(u:UL):(turn xs u).length=xs.length:=by simp[turn]
set_option maxHeartbeats 2000000 in
theorem Zld (v:Value)(us:List UL)(w:World)(hv:ArgS w v rU us)(hn:us=[]->v= .slice none 0 0)(hl:us.length<=19)(hok:∀u∈us,UIn u):
  Calls prog 114 [vLines,v].toArray w (RetM (SlS rU 36 (nrmR us)) (fun s=> .tuple #[vSl s, .int .i64 (nrmE us)]) (fun s=>mS 224 s) w):=by
 have hN:∀L,LstN w L v UL rU us:=fun L=>⟨fun w' hw'=>hv.to hw'.ext,hn⟩
 have hsl:=Zgv us
 have hso:∀u∈sor us,UIn u:=fun u hu=>hok u (ZeK hu)
 refine Zg Tryz.func114 rfl Tryz.ntmps114 rfl ?_
 repeat(first|(refine wkB ?_;intros)|(refine wnM ?_ ?_;(focus(exact⟨hl,fun u hu=>(hok u hu).i.mono (by decide)⟩));intros))
 rename_i s1
 refine Zm (S:=Nat) (fun m=>m<=(sor us).length/\aprN (sor us) m=true) (fun m=>[(0,vLines),(1,vSl s1),(17, .int .i64 (sor us).length),(18, .int .i64 (m:Nat))]) (fun _=>mS 224 s1) (fun m=>(sor us).length-m) 0
  ⟨Wm _,rfl⟩ sbB suB (fun m hm=>?_)
 obtain⟨hm,ham⟩:=hm
 repeat(refine wkB ?_;intros)
 refine Zl rfl (fun h=>?_) (fun h=>?_)
 ·have hlt:m<(sor us).length:=by have:=Wa h;omega
  rcases s1.cases 224 with⟨h0, -, -⟩|⟨b1,c1,sp1,h1,hv1,hm1,hne⟩
  ·rw[h0] at hlt;simp at hlt
  rw[hv1,hm1]
  have hap:aprN (sor us) (m+1)= !(decide (0<m)&& !aprt (gi (sor us) ((m:Int)-1)).In (gi (sor us) (m:Int)).In):=by rw[aprN,ham,Bool.true_and]
  have o1:=hso _ (ZI (i:=(m:Int)) (by omega))
  repeat(refine wkB ?_;intros)
  rcases m with _|m
  ·(refine jD 17 17 (h:=?_);(repeat(refine wkH ?_));refine Zn ?_;(repeat(refine Z4 ?_;intro _));refine Zr ?_)
   repeat(first|(refine wkB ?_;intros)|(refine wnM ?_ ?_;(focus(exact⟨by omega,by omega⟩));intros))
   exact Zh 1 ⟨hlt,by rw[hap];rfl⟩ sbB suB (by omega)
  ·have e1:((m+1:Nat):Int)-1=(m:Int):=by omega
   have o2:=hso _ (ZI (i:=(m:Int)) (by omega))
   rw[e1,Wc (show 0<m+1 by omega),Bool.true_and,Bool.not_not] at hap
   refine jD 17 17 (h:=?_)
   (repeat(refine wkH ?_))
   simp only[Wc (show(0:Int)<((m+1:Nat):Int) by omega),e1]
   (repeat(refine wkH ?_))
   simp only[e1]
   (repeat(first|refine wkH ?_|(refine tC rfl rfl ?_ ?_;focus(exact⟨⟨o2.i.r2,o1.i.r1⟩,Wi o2.i.m2 (by decide),Wi o1.i.m1 (by decide)⟩))))
   refine Zn ?_
   refine Zr ?_
   repeat(refine wkB ?_;intros)
   rcases ha:aprt (gi (sor us) (m:Int)).In (gi (sor us) ((m+1:Nat):Int)).In with _|_
   ·rw[ha] at hap
    repeat(refine wkB ?_;intros)
    have hf:=Zpj hap (sor us).length hlt
    obtain⟨s0,hs1,hs2⟩:=SlS.turn (enc:=rU) (k:=36) 224 (show([]:List UL)=nrmR us by unfold nrmR;rw[hf,if_neg (by decide)]) SlS.no
    have he:nrmE us=11:=by unfold nrmE;rw[hf,if_neg (by decide)]
    exact ZA rfl (Zk rfl) (Zk rfl) (fun w hw=>⟨s0,by dsimp only;rw[hs1,he];rfl,by dsimp only;rw[hs2];exact hw.sub (Wk _)⟩)
   ·rw[ha] at hap
    repeat(first|(refine wkB ?_;intros)|(refine wnM ?_ ?_;(focus(exact⟨by omega,by omega⟩));intros))
    exact Zh (m+2) ⟨hlt,hap⟩ sbB suB (by omega)
 ·have hge:m=(sor us).length:=by have:=Wb h;omega
  subst hge
  repeat(first|(refine wkB ?_;intros)|(refine wnM ?_ ?_;(focus(omega));intros))
  rename_i s8
  have hao:∀u∈atm (sor us) (sor us).length,UIn u:=ZfI hso _ (Wl _)
  have hall:=Zgx (sor us) (sor us).length
  have hR:nrmR us=nrm (atm (sor us) (sor us).length) (atm (sor us) (sor us).length).length:=by unfold nrmR allU;rw[ham,if_pos rfl]
  have hE:nrmE us=0:=by unfold nrmE;rw[ham,if_pos rfl]
  generalize atm (sor us) (sor us).length=al at*
  refine Zm (S:=(xs:List UL)×Nat×SlS rU 36 xs) (fun s=>s.2.1<=al.length/\s.1=nrm al s.2.1) (fun s=>[(0,vLines),(7,vSl s.2.2),(8,vSl s8),(41,vSl s8),(42, .int .i64 al.length),(43, .int .i64 (s.2.1:Nat))]) (fun s=>mS 224 s.2.2++mS 224 s8) (fun s=>al.length-s.2.1) ⟨[],0,SlS.no⟩
   ⟨Wm _,rfl⟩ sbB suB (fun s hs=>?_)
  obtain⟨xs,i,s⟩:=s
  obtain⟨hi,hxs⟩:=hs
  simp only at hi hxs⊢
  repeat(refine wkB ?_;intros)
  refine Zl rfl (fun h=>?_) (fun h=>?_)
  ·have hlt:i<al.length:=by have:=Wa h;omega
   rcases s8.cases 224 with⟨h0, -, -⟩|⟨b8,c8,sp8,h1,hv8,hm8,hne⟩
   ·rw[h0] at hlt;simp at hlt
   rw[hv8,hm8]
   have hx0:=hao _ (ZI (i:=(i:Int)) (by omega))
   have hnx:nrm al (i+1)=nstp al i xs (gi al (i:Int)):=by rw[nrm,hxs]
   have hxo:=Zhc hao i (by omega)
   have hxl:=Zh2 al i
   rw[<-hxs] at hxo hxl
   repeat(refine wkB ?_;intros)
   rename_i b10 b11
   obtain⟨x,hx⟩:∃x,x=gi al (i:Int):=⟨_,rfl⟩
   simp only[<-hx] at hx0 hnx⊢
   refine ZhR (mS 224 s++[⟨b11,Zs (Zw x.In.From),97⟩,⟨b10,rU x,224⟩,⟨b8,row rU al sp8,224⟩]) ((List.perm_middle.trans (List.perm_middle.cons _)).symm) ?_
   refine Zav (S:=Bool) (fun v=>v=bef xs x.In.From) (fun v=>[(75, .bool v),(0,vLines),(7,vSl s),(8, .slice (some ⟨b8,0,none⟩) al.length c8),(9, .int .i64 (i:Nat)),(10, .pointer (some ⟨b10,0,none⟩)),(11, .pointer (some ⟨b11,0,none⟩)),(12, .pointer none),(13, .int .i64 xs.length),(41, .slice (some ⟨b8,0,none⟩) al.length c8),(42, .int .i64 al.length),(43, .int .i64 (i:Nat))]) (fun _=>mS 224 s++[⟨b11,Zs (Zw x.In.From),97⟩,⟨b10,rU x,224⟩,⟨b8,row rU al sp8,224⟩]) ?_ (fun v hv3=>?_)
   ·rcases s.cases 224 with⟨h0, -, -⟩|⟨bo,co,so,ho,hvo,hmo,hneo⟩
    ·refine jD 23 23 (h:=?_)
     (repeat(refine wkH ?_))
     simp only[We (show¬(0:Int)<(xs.length:Int) by rw[h0];simp)]
     (repeat(refine wkH ?_))
     refine Zn ?_
     refine Zr ?_
     repeat(refine wkB ?_;intros)
     exact Zt false (by rw[h0];rfl) sbB suB
    ·have hpo:0<xs.length:=by rcases xs with _|⟨a,xs⟩;exact absurd rfl hneo;simp
     rw[hvo,hmo]
     simp only[Wf,Wg]
     refine jD 23 23 (h:=?_)
     (repeat(refine wkH ?_))
     simp only[Wc (show(0:Int)<(xs.length:Int) by omega)]
     (repeat(refine wkH ?_))
     rcases hto:decide ((lstU xs).In.To=x.In.From) with _|_
     ·(repeat(refine wkH ?_))
      refine Zn ?_
      refine Zr ?_
      repeat(refine wkB ?_;intros)
      exact Zt false (by unfold bef;rw[hto,Bool.false_and,Bool.and_false]) sbB suB
     ·(repeat(refine wkH ?_))
      refine Zn ?_
      refine Zr ?_
      repeat(refine wkB ?_;intros)
      exact Zt (!decide ((lstU xs).In.From=(lstU xs).In.To)) (by unfold bef;rw[hto,Wc hpo,Bool.true_and,Bool.true_and]) sbB suB
   refine Zav (S:=Option Addr) (fun p=>(bef xs x.In.From=false/\p=none)\/(bef xs x.In.From=true/\∃bo co so,(xs.length<=co/\so.length=(co-xs.length)*36)/\vSl s= .slice (some ⟨bo,0,none⟩) xs.length co/\mS 224 s=[⟨bo,row rU xs so,224⟩]/\p=some ⟨bo,0+((xs.length:Int)-1).toNat*36,none⟩)) (fun p=>[(0,vLines),(7,vSl s),(8, .slice (some ⟨b8,0,none⟩) al.length c8),(9, .int .i64 (i:Nat)),(10, .pointer (some ⟨b10,0,none⟩)),(11, .pointer (some ⟨b11,0,none⟩)),(12, .pointer p),(13, .int .i64 xs.length),(41, .slice (some ⟨b8,0,none⟩) al.length c8),(42, .int .i64 al.length),(43, .int .i64 (i:Nat))]) (fun _=>mS 224 s++[⟨b11,Zs (Zw x.In.From),97⟩,⟨b10,rU x,224⟩,⟨b8,row rU al sp8,224⟩]) ?_ (fun p hp=>?_)
   ·subst hv3
    rcases hb:bef xs x.In.From with _|_
    ·repeat(refine wkB ?_;intros)
     exact Zt none (.inl ⟨rfl,rfl⟩) sbB suB
    ·have hpo:=Zcp hb
     rcases s.cases 224 with⟨h0, -, -⟩|⟨bo,co,so,ho,hvo,hmo,hneo⟩
     ·rw[h0] at hpo;simp at hpo
     rw[hvo,hmo]
     simp only[Wf,Wg]
     repeat(refine wkB ?_;intros)
     exact Zt (some ⟨bo,0+((xs.length:Int)-1).toNat*36,none⟩) (.inr ⟨trivial,bo,co,so,ho,rfl,rfl,rfl⟩) sbB suB
   repeat(refine wkB ?_;intros)
   rcases hI:isI x with _|_
   ·have hI':decide (x.In.From=x.In.To)=false:=hI
    simp only[hI']
    repeat(refine wkB ?_;intros)
    refine Zav (S:=Bool) (fun v=>v=cA xs x) (fun v=>[(117, .bool v),(0,vLines),(7,vSl s),(8, .slice (some ⟨b8,0,none⟩) al.length c8),(9, .int .i64 (i:Nat)),(10, .pointer (some ⟨b10,0,none⟩)),(11, .pointer (some ⟨b11,0,none⟩)),(12, .pointer p),(13, .int .i64 xs.length),(41, .slice (some ⟨b8,0,none⟩) al.length c8),(42, .int .i64 al.length),(43, .int .i64 (i:Nat))]) (fun _=>mS 224 s++[⟨b11,Zs (Zw x.In.From),97⟩,⟨b10,rU x,224⟩,⟨b8,row rU al sp8,224⟩]) ?_ (fun v hv4=>?_)
    ·rcases hp with⟨hb,rfl⟩|⟨hb,bo,co,so,ho,hvo,hmo,rfl⟩
     ·(refine jD 23 23 (h:=?_);(repeat(refine wkH ?_));refine Zn ?_;(repeat(refine Z4 ?_;intro _));refine Zr ?_)
      repeat(refine wkB ?_;intros)
      exact Zt false (by unfold cA;rw[hb,Bool.false_and]) sbB suB
     ·have hpo:=Zcp hb
      rw[hvo,hmo]
      simp only[Wf,Wg]
      refine jD 23 23 (h:=?_)
      (repeat(refine wkH ?_))
      rcases hot:(lstU xs).In.OpenTo with _|_
      ·(repeat(refine wkH ?_))
       refine Zn ?_
       refine Zr ?_
       repeat(refine wkB ?_;intros)
       exact Zt (decide ((lstU xs).F=x.F)) (by unfold cA;rw[hb,hot,Bool.true_and,Bool.not_false,Bool.true_and]) sbB suB
      ·(repeat(refine wkH ?_))
       refine Zn ?_
       refine Zr ?_
       repeat(refine wkB ?_;intros)
       exact Zt false (by unfold cA;rw[hb,hot,Bool.true_and,Bool.not_true,Bool.false_and]) sbB suB
    subst hv4
    refine Zav (S:=Unit) (fun _=>cA xs x=false) (fun _=>[(0,vLines),(7,vSl s),(8, .slice (some ⟨b8,0,none⟩) al.length c8),(9, .int .i64 (i:Nat)),(10, .pointer (some ⟨b10,0,none⟩)),(11, .pointer (some ⟨b11,0,none⟩)),(13, .int .i64 xs.length),(41, .slice (some ⟨b8,0,none⟩) al.length c8),(42, .int .i64 al.length),(43, .int .i64 (i:Nat))]) (fun _=>mS 224 s++[⟨b11,Zs (Zw x.In.From),97⟩,⟨b10,rU x,224⟩,⟨b8,row rU al sp8,224⟩]) ?_ (fun _ hcA=>?_)
    ·rcases hcA:cA xs x with _|_
     ·repeat(refine wkB ?_;intros)
      exact Zt () rfl sbB suB
     ·have hb:bef xs x.In.From=true:=by
       unfold cA at hcA
       simp only[Wq] at hcA
       exact hcA.1
      have hpo:=Zcp hb
      rcases hp with⟨hb', -⟩|⟨-,bo,co,so,ho,hvo,hmo,rfl⟩
      ·rw[hb] at hb';cases hb'
      rw[hvo,hmo]
      simp only[Wf,Wg]
      have ek:((xs.length:Int)-1).toNat=xs.length-1:=by omega
      repeat(refine wkB ?_;intros)
      refine sRF (i:=(xs.length:Int)-1) (f:=9) (⟨⟨(lstU xs).In.From,x.In.To,(lstU xs).In.OpenFrom,(lstU xs).In.OpenTo⟩,(lstU xs).F⟩:UL) rfl rfl ?_ ?_
      ·omega
      obtain⟨zs,hzs⟩:∃zs,zs=xs.set ((xs.length:Int)-1).toNat (⟨⟨(lstU xs).In.From,x.In.To,(lstU xs).In.OpenFrom,(lstU xs).In.OpenTo⟩,(lstU xs).F⟩:UL):=⟨_,rfl⟩
      simp only[<-hzs]
      have hzl:zs.length=xs.length:=by rw[hzs];simp
      have hg:gi zs ((xs.length:Int)-1)=⟨⟨(lstU xs).In.From,x.In.To,(lstU xs).In.OpenFrom,(lstU xs).In.OpenTo⟩,(lstU xs).F⟩:=by
       rw[Zc1 (by omega)]
       simp only[hzs,List.getElem_set_self]
      repeat(refine wkB ?_;intros)
      refine sRF (i:=(xs.length:Int)-1) (f:=19) (⟨⟨(gi zs ((xs.length:Int)-1)).In.From,(gi zs ((xs.length:Int)-1)).In.To,(gi zs ((xs.length:Int)-1)).In.OpenFrom,true⟩,(gi zs ((xs.length:Int)-1)).F⟩:UL) rfl rfl ?_ ?_
      ·omega
      have hfin:zs.set ((xs.length:Int)-1).toNat (⟨⟨(gi zs ((xs.length:Int)-1)).In.From,(gi zs ((xs.length:Int)-1)).In.To,(gi zs ((xs.length:Int)-1)).In.OpenFrom,true⟩,(gi zs ((xs.length:Int)-1)).F⟩:UL)=turn xs (ext (lstU xs) x):=by
       rw[hg,hzs,List.set_set,ek]
       rfl
      rw[hfin]
      obtain⟨s',hv',hm'⟩:=SlS.put (enc:=rU) (k:=36) (b:=bo) 224 (Zkb xs (ext (lstU xs) x)) ho hpo
      rw[<-hv']
      repeat(first|(refine wkB ?_;intros)|(refine wnM ?_ ?_;(focus(exact⟨by omega,by omega⟩));intros))
      exact Zh ⟨turn xs (ext (lstU xs) x),i+1,s'⟩ ⟨hlt,by rw[hnx,nstp,if_pos hI,if_pos hcA]⟩ sbB (by dsimp only;rw[hm'];exact suB) (by show al.length-(i+1)<al.length-i;omega)
    refine Zeq ?_
    refine Zav (S:=UL) (fun y=>y=if cB al i xs x=true then opF x else x) (fun _=>[(0,vLines),(7,vSl s),(8, .slice (some ⟨b8,0,none⟩) al.length c8),(9, .int .i64 (i:Nat)),(10, .pointer (some ⟨b10,0,none⟩)),(11, .pointer (some ⟨b11,0,none⟩)),(13, .int .i64 xs.length),(41, .slice (some ⟨b8,0,none⟩) al.length c8),(42, .int .i64 al.length),(43, .int .i64 (i:Nat))]) (fun y=>mS 224 s++[⟨b11,Zs (Zw x.In.From),97⟩,⟨b10,rU y,224⟩,⟨b8,row rU al sp8,224⟩]) ?_ (fun y hy=>?_)
    ·refine Zeq ?_
     refine Zav (S:=Bool) (fun v=>v=cB al i xs x) (fun v=>[(156, .bool v),(0,vLines),(7,vSl s),(8, .slice (some ⟨b8,0,none⟩) al.length c8),(9, .int .i64 (i:Nat)),(10, .pointer (some ⟨b10,0,none⟩)),(11, .pointer (some ⟨b11,0,none⟩)),(13, .int .i64 xs.length),(41, .slice (some ⟨b8,0,none⟩) al.length c8),(42, .int .i64 al.length),(43, .int .i64 (i:Nat))]) (fun _=>mS 224 s++[⟨b11,Zs (Zw x.In.From),97⟩,⟨b10,rU x,224⟩,⟨b8,row rU al sp8,224⟩]) ?_ (fun v hv5=>?_)
     ·by_cases hi0:0<i
      ·have ep:((i:Int)-1).toNat<al.length:=by omega
       refine jD 28 28 (h:=?_)
       (repeat(refine wkH ?_))
       simp only[Wc (show(0:Int)<(i:Int) by omega)]
       (repeat(refine wkH ?_))
       rcases hi1:isI (gi al ((i:Int)-1)) with _|_
       ·have hi1':decide ((gi al ((i:Int)-1)).In.From=(gi al ((i:Int)-1)).In.To)=false:=hi1
        simp only[hi1']
        (repeat(refine wkH ?_))
        refine Zn ?_
        refine Zr ?_
        repeat(refine wkB ?_;intros)
        exact Zt false (by unfold cB;rw[hi1,Bool.false_and,Bool.and_false]) sbB suB
       ·have hi1':decide ((gi al ((i:Int)-1)).In.From=(gi al ((i:Int)-1)).In.To)=true:=hi1
        simp only[hi1']
        (repeat(refine wkH ?_))
        rcases hft:decide ((gi al ((i:Int)-1)).In.From=x.In.From) with _|_
        ·(repeat(refine wkH ?_))
         refine Zn ?_
         refine Zr ?_
         repeat(refine wkB ?_;intros)
         exact Zt false (by unfold cB;rw[hft,Bool.false_and,Bool.and_false,Bool.and_false]) sbB suB
        ·(repeat(first|refine wkH ?_|(refine tC rfl rfl ?_ ?_;focus(omega))))
         refine Zn ?_
         refine Zr ?_
         repeat(refine wkB ?_;intros)
         exact Zt (!hld xs x.In.From) (by unfold cB;rw[hi1,hft,Wc hi0,Bool.true_and,Bool.true_and,Bool.true_and]) sbB suB
      ·refine jD 28 28 (h:=?_)
       (repeat(refine wkH ?_))
       simp only[We (show¬(0:Int)<(i:Int) by omega)]
       (repeat(refine wkH ?_))
       refine Zn ?_
       refine Zr ?_
       repeat(refine wkB ?_;intros)
       exact Zt false (by unfold cB;rw[We hi0,Bool.false_and]) sbB suB
     ·subst hv5
      rcases hcB:cB al i xs x with _|_
      ·repeat(refine wkB ?_;intros)
       exact Zt x (by rw[if_neg (by decide)]) sbB suB
      ·repeat(refine wkB ?_;intros)
       exact Zt (opF x) (by rw[if_pos rfl]) sbB suB
    repeat(refine wkB ?_;intros)
    refine sU rfl rfl ?_ ?_ ?_ ?_
    ·rfl
    ·rfl
    ·exact⟨by decide,by omega,by omega⟩
    intro s'
    repeat(first|(refine wkB ?_;intros)|(refine wnM ?_ ?_;(focus(exact⟨by omega,by omega⟩));intros))
    exact Zh ⟨xs++[y],i+1,s'⟩ ⟨hlt,by show xs++[y]=nrm al (i+1);rw[hnx,nstp,if_pos hI,hcA,if_neg (by decide),hy]⟩ sbB suB (by show al.length-(i+1)<al.length-i;omega)
   ·have hI':decide (x.In.From=x.In.To)=true:=hI
    simp only[hI']
    repeat(refine wkB ?_;intros)
    have htM:M x.In.From.P<=8589934592:=Wi hx0.i.m1 (by decide)
    have hxf:(M x.F.X0<=8589934592/\M x.F.X1<=8589934592)/\M x.F.Y0<=8589934592/\M x.F.Y1<=8589934592:=⟨⟨Wi hx0.f.x0 (by decide),Wi hx0.f.x1 (by decide)⟩,Wi hx0.f.y0 (by decide),Wi hx0.f.y1 (by decide)⟩
    refine Zav (S:=Bool) (fun v=>v=cC xs x) (fun v=>[(163, .bool v),(0,vLines),(7,vSl s),(8, .slice (some ⟨b8,0,none⟩) al.length c8),(9, .int .i64 (i:Nat)),(10, .pointer (some ⟨b10,0,none⟩)),(11, .pointer (some ⟨b11,0,none⟩)),(12, .pointer p),(13, .int .i64 xs.length),(41, .slice (some ⟨b8,0,none⟩) al.length c8),(42, .int .i64 al.length),(43, .int .i64 (i:Nat))]) (fun _=>mS 224 s++[⟨b11,Zs (Zw x.In.From),97⟩,⟨b10,rU x,224⟩,⟨b8,row rU al sp8,224⟩]) ?_ (fun v hv4=>?_)
    ·rcases hp with⟨hb,rfl⟩|⟨hb,bo,co,so,ho,hvo,hmo,rfl⟩
     ·(refine Za9 [0,1,2,3,4,5,6,7,8,9,10,11,12,13,14,15] [16] (_) (h:=?_);refine wkI ?_)
      (repeat(refine wkH ?_))
      repeat(refine wkT ?_;intros)
      repeat(refine wkB ?_;intros)
      exact Zt false (by unfold cC;rw[hb,Bool.false_and]) sbB suB
     ·have hpo:=Zcp hb
      have hlo:=(Zkj hxo hpo).f
      rw[hvo,hmo]
      simp only[Wf,Wg]
      (refine Za9 [0,1,2,3,4,5,6,7,8,9,10,11,12,13,14,15] [16] (_) (h:=?_);refine wkI ?_)
      (repeat(first|refine wkH ?_|(refine tC rfl rfl ?_ ?_;focus(exact⟨hx0.i.r1,⟨⟨hlo.x0,hlo.x1⟩,hlo.y0,hlo.y1⟩,hxf,htM⟩))))
      repeat(refine wkT ?_;intros)
      repeat(refine wkB ?_;intros)
      exact Zt (smL (lstU xs).F x.F x.In.From.P) (by unfold cC;rw[hb,Bool.true_and]) sbB suB
    subst hv4
    rcases hcC:cC xs x with _|_
    ·refine ZeC (by rfl) ?_
     (first|refine sX rfl rfl ?_|(refine sS rfl rfl ?_ ?_;focus omega)|(refine sC rfl rfl ?_ ?_;focus(first|exact trivial|assumption|constructor <;> assumption|exact mb2 rfl rfl|exact mb4 rfl rfl rfl rfl))|refine cX ?_|refine cY ?_|(refine sA rfl rfl ?_;intro _)|refine sT rfl ?_|refine sF rfl ?_|(refine sR rfl ?_ ?_;focus omega)|(refine sB rfl rfl ?_;intro _)|(refine sN rfl rfl ?_ ?_;(focus(first|exact trivial|assumption|constructor <;> assumption|exact mb2 rfl rfl|exact mb4 rfl rfl rfl rfl));intro _;(try simp only[Wf,Wg,Wh]))|refine sW rfl rfl ?_|refine sK rfl rfl ?_|refine ZkP rfl ?_|refine ZeC rfl ?_|refine pkT rfl rfl rfl rfl ?_|refine pkF rfl rfl rfl rfl ?_)
     refine Zav (S:=Bool) (fun v=>v=cD al i x) (fun v=>[(184, .bool v),(0,vLines),(7,vSl s),(8, .slice (some ⟨b8,0,none⟩) al.length c8),(9, .int .i64 (i:Nat)),(10, .pointer (some ⟨b10,0,none⟩)),(11, .pointer (some ⟨b11,0,none⟩)),(13, .int .i64 xs.length),(41, .slice (some ⟨b8,0,none⟩) al.length c8),(42, .int .i64 al.length),(43, .int .i64 (i:Nat))]) (fun _=>mS 224 s++[⟨b11,Zs (Zw x.In.From),97⟩,⟨b10,rU x,224⟩,⟨b8,row rU al sp8,224⟩]) ?_ (fun v hv5=>?_)
     ·by_cases hi1:i+1<al.length
      ·have hya:=hao _ (ZI (i:=(i:Int)+1) (by omega))
       have hyf:(M (gi al ((i:Int)+1)).F.X0<=8589934592/\M (gi al ((i:Int)+1)).F.X1<=8589934592)/\M (gi al ((i:Int)+1)).F.Y0<=8589934592/\M (gi al ((i:Int)+1)).F.Y1<=8589934592:=⟨⟨Wi hya.f.x0 (by decide),Wi hya.f.x1 (by decide)⟩,Wi hya.f.y0 (by decide),Wi hya.f.y1 (by decide)⟩
       (refine Za9 [0,1,2,3,4,5,6,7,8,9,10,11,12,13,14,15,16,17,18,19,20,21,22,23,24,25,26,27,28,29,30,31] [32] (_) (h:=?_);refine wkI ?_)
       (repeat(refine wkH ?_))
       simp only[Wc (show(i:Int)+1<(al.length:Int) by omega)]
       (repeat(refine wkH ?_))
       rcases hft:decide ((gi al ((i:Int)+1)).In.From=x.In.From) with _|_
       ·(repeat(refine wkH ?_))
        repeat(refine wkT ?_;intros)
        repeat(refine wkB ?_;intros)
        exact Zt false (by unfold cD;rw[hft,Bool.false_and,Bool.and_false]) sbB suB
       ·(repeat(first|refine wkH ?_|(refine tC rfl rfl ?_ ?_;focus(exact⟨hx0.i.r1,hyf,hxf,htM⟩))))
        repeat(refine wkT ?_;intros)
        repeat(refine wkB ?_;intros)
        exact Zt (smL (gi al ((i:Int)+1)).F x.F x.In.From.P) (by unfold cD;rw[hft,Wc hi1,Bool.true_and,Bool.true_and]) sbB suB
      ·(refine Za9 [0,1,2,3,4,5,6,7,8,9,10,11,12,13,14,15,16,17,18,19,20,21,22,23,24,25,26,27,28,29,30,31] [32] (_) (h:=?_);refine wkI ?_)
       (repeat(refine wkH ?_))
       simp only[We (show¬(i:Int)+1<(al.length:Int) by omega)]
       (repeat(refine wkH ?_))
       repeat(refine wkT ?_;intros)
       repeat(refine wkB ?_;intros)
       exact Zt false (by unfold cD;rw[We hi1,Bool.false_and]) sbB suB
     subst hv5
     rcases hcD:cD al i x with _|_
     ·repeat(first|(refine wkB ?_;intros)|(refine wnM ?_ ?_;(focus(exact⟨hx0.i.r1,hxf,htM⟩));intros))
      refine sU rfl rfl ?_ ?_ ?_ ?_
      ·rfl
      ·rfl
      ·exact⟨by decide,by omega,by omega⟩
      intro s'
      repeat(first|(refine wkB ?_;intros)|(refine wnM ?_ ?_;(focus(exact⟨by omega,by omega⟩));intros))
      exact Zh ⟨_,i+1,s'⟩ ⟨hlt,by show xs++[redU x]=nrm al (i+1);rw[hnx,nstp,hI,if_neg (by decide),hcC,if_neg (by decide),hcD,if_neg (by decide)]⟩ sbB suB (by show al.length-(i+1)<al.length-i;omega)
     ·repeat(first|(refine wkB ?_;intros)|(refine wnM ?_ ?_;(focus(exact⟨by omega,by omega⟩));intros))
      exact Zh ⟨xs,i+1,s⟩ ⟨hlt,by show xs=nrm al (i+1);rw[hnx,nstp,hI,if_neg (by decide),hcC,if_neg (by decide),hcD,if_pos rfl]⟩ sbB suB (by show al.length-(i+1)<al.length-i;omega)
    ·have hb:bef xs x.In.From=true:=by
      unfold cC at hcC
      simp only[Wq] at hcC
      exact hcC.1
     have hpo:=Zcp hb
     rcases hp with⟨hb', -⟩|⟨-,bo,co,so,ho,hvo,hmo,rfl⟩
     ·rw[hb] at hb';cases hb'
     rw[hvo,hmo]
     simp only[Wf,Wg]
     have ek:((xs.length:Int)-1).toNat=xs.length-1:=by omega
     repeat(refine wkB ?_;intros)
     refine sRF (i:=(xs.length:Int)-1) (f:=19) (clo (lstU xs)) rfl rfl ?_ ?_
     ·omega
     rw[ek]
     obtain⟨s',hv',hm'⟩:=SlS.put (enc:=rU) (k:=36) (b:=bo) 224 (Zkb xs (clo (lstU xs))) ho hpo
     rw[<-hv']
     repeat(first|(refine wkB ?_;intros)|(refine wnM ?_ ?_;(focus(exact⟨by omega,by omega⟩));intros))
     exact Zh ⟨turn xs (clo (lstU xs)),i+1,s'⟩ ⟨hlt,by show turn xs (clo (lstU xs))=nrm al (i+1);rw[hnx,nstp,hI,if_neg (by decide),if_pos hcC]⟩ sbB (by dsimp only;rw[hm'];exact suB) (by show al.length-(i+1)<al.length-i;omega)
  ·have hge:i=al.length:=by have:=Wb h;omega
   subst hge
   subst hxs
   repeat(refine wkB ?_;intros)
   obtain⟨s0,hs1,hs2⟩:=SlS.turn 224 hR.symm s
   exact ZA rfl (Zk rfl) (Zk rfl) (fun w hw=>⟨s0,by dsimp only;rw[hs1,hE],by dsimp only;rw[hs2];exact hw.sub suB⟩)
end
section
instance Zzu (w0:World)(L:List Blk)(v:Value)(us:List UL)[h:LstN w0 L v UL rU us]:SpecR prog w0 L 114 [vLines,v] (SlS rU 36 (nrmR us)) (fun s=> .tuple #[vSl s, .int .i64 (nrmE us)]) (fun s=>mS 224 s) (us.length<=19/\∀u∈us,UIn u):=⟨fun hp w hw=>Zld v us w (h.out w hw) h.nil hp.1 hp.2⟩
theorem Zse (us:List UL):(nrmR us).length<=3*us.length:=by
 unfold nrmR
 split
 ·have h1:=Zh2 (allU us) (allU us).length
  have h2:=Zgx (sor us) (sor us).length
  have h3:=Zgv us
  unfold allU at h1⊢
  omega
 ·simp
instance ZEv :BdC prog 211 [] (.agg #[]):=⟨fun w=>by kernel_rfl⟩
def mNorm (us:List PU):List PU:=mpN ofU (nrmR (mpN toU us us.length)) (nrmR (mpN toU us us.length)).length
theorem ZjQ (v:Value)(us:List PU)(w:World)(hv:ArgS w v rP us)(hl:us.length<=19)(hok:∀u∈mpN toU us us.length,UIn u):
  Calls prog 63 [v].toArray w (RetM (SlS rP 36 (mNorm us)) (fun s=> .tuple #[vSl s, .int .i64 (nrmE (mpN toU us us.length))]) (fun s=>mS 115 s) w):=by
 have:=ArgC.mk hv
 have hml:=Zcl toU us us.length
 have hnl:=Zse (mpN toU us us.length)
 refine Zg Tryz.func63 rfl Tryz.ntmps63 rfl ?_
 repeat(first|(refine wkB ?_;intros)|(refine wnM ?_ ?_;(focus(first|exact trivial|omega|exact⟨by omega,hok⟩));intros))
 rename_i s1 s2 s3
 exact ZA rfl (Zk rfl) (Zk rfl) (fun w hw=>⟨s3,rfl,hw.sub suB⟩)
instance ZxW (w0:World)(L:List Blk)(v:Value)(us:List PU)[h:LstC w0 L v PU rP us]:SpecR prog w0 L 63 [v] (SlS rP 36 (mNorm us)) (fun s=> .tuple #[vSl s, .int .i64 (nrmE (mpN toU us us.length))]) (fun s=>mS 115 s) (us.length<=19/\∀u∈mpN toU us us.length,UIn u):=⟨fun hp w hw=>ZjQ v us w (h.out w hw) hp.1 hp.2⟩
end
end Go.Vt
namespace Go.Vt
structure GU (T F:Type) where
 a:T
 b:T
 oa:Bool
 ob:Bool
 f:F
class Fv (F T:Type)(V:outParam Type)[LT T] where
 va:F->T->V
 red:F->T->F
 va_red:∀f t,va (red f t) t=va f t
 red_eq:∀f g t,va f t=va g t->red f t=red g t
 agree:∀(f g:F)(a b:T),a<b->(∀t,a<t->t<b->va f t=va g t)->f=g
class Dns (T:Type)[LT T]:Prop where
 out:∀a b:T,a<b->∃c,a<c/\c<b
open Fv (va red)
section
variable {T F V : Type} [LE T] [LT T] [Std.LawfulOrderLT T] [Std.IsLinearOrder T] [Dns T] [Fv F T V]
def GU.mem (u:GU T F)(t:T):Prop:=(u.a<t\/(u.a=t/\u.oa=false))/\(t<u.b\/(t=u.b/\u.ob=false))
def GU.ok (u:GU T F):Prop:=u.a<u.b\/(u.a=u.b/\u.oa=false/\u.ob=false)
def GU.bfr (u w:GU T F):Prop:=u.b<w.a\/(u.b=w.a/\(u.ob=true\/w.oa=true))
theorem dens2 {a b c:T}(h:a<b)(k:a<c):∃t,a<t/\t<b/\t<c:=by
 obtain⟨x,h1,h2⟩:=Dns.out a b h
 obtain⟨y,h3,h4⟩:=Dns.out a c k
 rcases Std.le_total (a:=x) (b:=y) with h5|h5
 ·exact⟨x,h1,h2,by grind⟩
 ·exact⟨y,h3,by grind,h4⟩
theorem GU.bfr.dis {u w:GU T F}(h:u.bfr w){t:T}(h1:u.mem t)(h2:w.mem t):False:=by
 unfold GU.mem GU.bfr at*
 grind
theorem GU.bfr.tr {u v w:GU T F}(hv:v.ok)(h:u.bfr v)(k:v.bfr w):u.bfr w:=by
 unfold GU.ok GU.bfr at*
 grind
def Has (l:List (GU T F))(t:T)(v:V):Prop:=∃u∈l,u.mem t/\va u.f t=v
theorem Zig {t:T}{v:V}:¬Has ([]:List (GU T F)) t v:=fun⟨u,hu,_⟩=>by cases hu
theorem ZbQ {u:GU T F}{l:List (GU T F)}{t:T}{v:V}:Has (u::l) t v↔(u.mem t/\va u.f t=v)\/Has l t v:=by
 unfold Has
 simp
theorem ZhO {l m:List (GU T F)}{t:T}{v:V}:Has (l++m) t v↔Has l t v\/Has m t v:=by
 unfold Has
 constructor
 ·rintro⟨u,hu,h⟩
  rcases List.mem_append.1 hu with h1|h1
  ·exact .inl ⟨u,h1,h⟩
  ·exact .inr ⟨u,h1,h⟩
 ·rintro(⟨u,hu,h⟩|⟨u,hu,h⟩)
  ·exact⟨u,List.mem_append_left _ hu,h⟩
  ·exact⟨u,List.mem_append_right _ hu,h⟩
theorem Zh8 {u:GU T F}{t:T}{v:V}:Has [u] t v↔(u.mem t/\va u.f t=v):=by
 rw[ZbQ]
 exact⟨fun h=>h.resolve_right Zig, .inl⟩
structure Adj (u w:GU T F):Prop where
 bf:u.bfr w
 n1:u.b=w.a->u.ob=false->u.a<u.b->u.f≠w.f
 n2:u.b=w.a->w.oa=false->va u.f w.a≠va w.f w.a
 n3:u.b=w.a->u.a=u.b->va u.f w.a≠va w.f w.a
structure NF (l:List (GU T F)):Prop where
 ok:∀u∈l,u.ok
 rd:∀u∈l,u.a=u.b->u.f=red u.f u.a
 pw:l.Pairwise Adj
theorem NF.nil :NF ([]:List (GU T F)):=⟨(fun _ h=>by cases h),(fun _ h=>by cases h),List.Pairwise.nil⟩
def Held (xs:List (GU T F))(t:T):Prop:=∃ys u,xs=ys++[u]/\u.b=t/\u.ob=false
def NoExt (xs:List (GU T F))(x:GU T F):Prop:=∀ys u,xs=ys++[u]->u.b=x.a->u.a≠u.b->u.ob=false->u.f≠x.f
def NoClo (xs:List (GU T F))(x:GU T F):Prop:=∀ys u,xs=ys++[u]->u.b=x.a->u.a≠u.b->va u.f x.a≠va x.f x.a
def PvI (pv:Option (GU T F))(x:GU T F):Prop:=∃q,pv=some q/\q.a=q.b/\q.a=x.a
def NxI (nx:Option (GU T F))(x:GU T F):Prop:=∃n,nx=some n/\n.a=x.a/\va n.f x.a=va x.f x.a
inductive Stp (pv nx:Option (GU T F)):List (GU T F)->GU T F->List (GU T F)->Prop where
 |ext {ys u x}:x.a≠x.b->u.b=x.a->u.a≠u.b->u.ob=false->u.f=x.f->Stp pv nx (ys++[u]) x (ys++[⟨u.a,x.b,u.oa,true,u.f⟩])
 |appO {xs x}:x.a≠x.b->NoExt xs x->PvI pv x->¬Held xs x.a->Stp pv nx xs x (xs++[⟨x.a,x.b,false,x.ob,x.f⟩])
 |appN {xs x}:x.a≠x.b->NoExt xs x->¬(PvI pv x/\¬Held xs x.a)->Stp pv nx xs x (xs++[x])
 |clo {ys u x}:x.a=x.b->u.b=x.a->u.a≠u.b->va u.f x.a=va x.f x.a->Stp pv nx (ys++[u]) x (ys++[⟨u.a,u.b,u.oa,false,u.f⟩])
 |lft {xs x}:x.a=x.b->NoClo xs x->NxI nx x->Stp pv nx xs x xs
 |rdc {xs x}:x.a=x.b->NoClo xs x->¬NxI nx x->Stp pv nx xs x (xs++[⟨x.a,x.b,x.oa,x.ob,red x.f x.a⟩])
inductive Mk :Option (GU T F)->List (GU T F)->List (GU T F)->List (GU T F)->Prop where
 |nil {pv xs}:Mk pv xs [] xs
 |cons {pv xs x xs' rest out}:Stp pv rest.head? xs x xs'->Mk (some x) xs' rest out->Mk pv xs (x::rest) out
def GU.atom (x:GU T F):Prop:=(x.a=x.b/\x.oa=false/\x.ob=false)\/(x.a<x.b/\x.oa=true/\x.ob=true)
structure Inv (pv:Option (GU T F))(xs rem:List (GU T F))(S:T->V->Prop):Prop where
 nf:NF xs
 at_:∀x∈rem,x.atom
 ch:rem.Pairwise GU.bfr
 sep:∀u∈xs,∀x∈rem,u.bfr x
 st:(∃q x rest,pv=some q/\q.a=q.b/\q.oa=false/\q.ob=false/\rem=x::rest/\x.a=q.a/\x.oa=true/\va x.f q.a=va q.f q.a/\(∀u∈xs,u.bfr q)/\NoClo xs q/\∀t v,S t v↔Has xs t v\/(t=q.a/\va q.f t=v)\/Has rem t v)
  \/((∀q,pv=some q->q.a=q.b->Held xs q.a)/\(∀ys u x rest,xs=ys++[u]->u.a=u.b->rem=x::rest->x.a=u.b->va u.f x.a≠va x.f x.a)/\∀t v,S t v↔Has xs t v\/Has rem t v)
theorem NF.snoc {ys:List (GU T F)}{u x:GU T F}(h:NF (ys++[u]))(hx:x.ok)(hr:x.a=x.b->x.f=red x.f x.a)(ha:Adj u x):NF (ys++[u]++[x]):=by
 refine⟨fun w hw=>?_,fun w hw=>?_, ?_⟩
 ·rcases List.mem_append.1 hw with h1|h1
  ·exact h.ok w h1
  ·rw[List.mem_singleton] at h1;subst h1;exact hx
 ·rcases List.mem_append.1 hw with h1|h1
  ·exact h.rd w h1
  ·rw[List.mem_singleton] at h1;subst h1;exact hr
 ·refine List.pairwise_append.2 ⟨h.pw,List.pairwise_singleton _ _,fun y hy w hw=>?_⟩
  rw[List.mem_singleton] at hw
  subst hw
  rcases List.mem_append.1 hy with h1|h1
  ·have hyu:=(List.pairwise_append.1 h.pw).2.2 y h1 u (List.mem_singleton.2 rfl)
   have hu:=h.ok u (by simp)
   have hyo:=h.ok y (by simp[h1])
   have b1:=hyu.bf
   have b2:=ha.bf
   unfold GU.ok GU.bfr at*
   refine⟨?_,fun h2 h3=>?_,fun h2 h3=>?_,fun h2 h3=>?_⟩
   ·unfold GU.bfr;grind
   ·exfalso;grind
   ·exfalso;grind
   ·exfalso;grind
  ·rw[List.mem_singleton] at h1;subst h1;exact ha
theorem NF.one {x:GU T F}(hx:x.ok)(hr:x.a=x.b->x.f=red x.f x.a):NF [x]:=
 ⟨fun w hw=>by rw[List.mem_singleton] at hw;subst hw;exact hx,fun w hw=>by rw[List.mem_singleton] at hw;subst hw;exact hr,List.pairwise_singleton _ _⟩
theorem NF.last {ys:List (GU T F)}{u u':GU T F}(h:NF (ys++[u]))(ha:u'.a=u.a)(ho:u'.oa=u.oa)(hf:u'.f=u.f)(hl:u'.a<u'.b):NF (ys++[u']):=by
 have hp:=List.pairwise_append.1 h.pw
 refine⟨fun w hw=>?_,fun w hw=>?_, ?_⟩
 ·rcases List.mem_append.1 hw with h1|h1
  ·exact h.ok w (List.mem_append_left _ h1)
  ·rw[List.mem_singleton] at h1;subst h1;exact .inl hl
 ·rcases List.mem_append.1 hw with h1|h1
  ·exact h.rd w (List.mem_append_left _ h1)
  ·rw[List.mem_singleton] at h1;subst h1;intro h2;grind
 ·refine List.pairwise_append.2 ⟨hp.1,List.pairwise_singleton _ _,fun y hy w hw=>?_⟩
  rw[List.mem_singleton] at hw
  subst hw
  have h1:=hp.2.2 y hy u (List.mem_singleton.2 rfl)
  have h2:=h1.bf
  refine⟨?_, ?_, ?_, ?_⟩
  ·unfold GU.bfr at*;rw[ha,ho];exact h2
  ·rw[ha,hf];exact h1.n1
  ·rw[ha,ho,hf];exact h1.n2
  ·rw[ha,hf];exact h1.n3
theorem Zda {α:Type}{ys zs:List α}{u w:α}(h:ys++[u]=zs++[w]):ys=zs/\u=w:=by
 have:=List.append_inj' h rfl
 exact⟨this.1,by simpa using this.2⟩
theorem Zb3 {α:Type}(xs:List α):xs=[]\/∃ys u,xs=ys++[u]:=by
 rcases List.eq_nil_or_concat xs with h|⟨ys,u,h⟩
 ·exact .inl h
 ·exact .inr ⟨ys,u,by simpa using h⟩
theorem NF.app {xs:List (GU T F)}{x:GU T F}(h:NF xs)(hx:x.ok)(hr:x.a=x.b->x.f=red x.f x.a)(ha:∀ys u,xs=ys++[u]->Adj u x):NF (xs++[x]):=by
 rcases Zb3 xs with rfl|⟨ys,u,rfl⟩
 ·exact NF.one hx hr
 ·exact h.snoc hx hr (ha ys u rfl)
theorem ZcD {ys:List (GU T F)}{u:GU T F}{t:T}{v:V}:Has (ys++[u]) t v↔Has ys t v\/(u.mem t/\va u.f t=v):=by rw[ZhO,Zh8]
theorem Inv.step {pv:Option (GU T F)}{xs xs' rest:List (GU T F)}{x:GU T F}{S:T->V->Prop}(h:Inv pv xs (x::rest) S)(hs:Stp pv rest.head? xs x xs'):Inv (some x) xs' rest S:=by
 have hx:=h.at_ x (.head _)
 have hat:∀y∈rest,y.atom:=fun y hy=>h.at_ y (.tail _ hy)
 obtain⟨hxr,hch⟩:=List.pairwise_cons.1 h.ch
 have sx:∀u∈xs,u.bfr x:=fun u hu=>h.sep u hu x (.head _)
 have sr:∀u∈xs,∀y∈rest,u.bfr y:=fun u hu y hy=>h.sep u hu y (.tail _ hy)
 have hst:=h.st
 have hnf:=h.nf
 have inst:x.a=x.b->x.oa=false/\x.ob=false:=fun e=>by unfold GU.atom at hx;grind
 have long:x.a≠x.b->x.a<x.b/\x.oa=true/\x.ob=true:=fun e=>by unfold GU.atom at hx;grind
 -- a part that is a single instant is not awaited
 have noP:x.a=x.b->(∀ys u y r,xs=ys++[u]->u.a=u.b->x::rest=y::r->y.a=u.b->va u.f y.a≠va y.f y.a)/\∀t v,S t v↔Has xs t v\/Has (x::rest) t v:=fun e=>by
  rcases hst with⟨q,y,r, -, -, -, -,h1, -,h2, -⟩|⟨-,h2,h3⟩
  ·injection h1 with h1 _
   subst h1
   have:=(inst e).1
   rw[h2] at this
   cases this
  ·exact⟨h2,h3⟩
 cases hs with
 | @ext ys u _ hl hb hu ho hf=>
  obtain⟨hl1,hl2,hl3⟩:=long hl
  have hub:=sx u (by simp)
  have huo:=hnf.ok u (by simp)
  have hua:u.a<u.b:=by unfold GU.ok at huo;grind
  have hS:∀t v,S t v↔Has (ys++[u]) t v\/Has (x::rest) t v:=by
   rcases hst with⟨q,y,r, -, -,q1, -,h1,h2, -, -,h3, -⟩|⟨-, -,h3⟩
   ·injection h1 with h1 _
    subst h1
    have h4:=h3 u (by simp)
    unfold GU.bfr at h4
    grind
   ·exact h3
  refine⟨hnf.last (u:=u) rfl rfl rfl (by show u.a<x.b;grind),hat,hch,fun w hw y hy=>?_, .inr ⟨fun q hq e=>?_,fun zs w y r hz e _ _=>?_,fun t v=>?_⟩⟩
  ·rcases List.mem_append.1 hw with h1|h1
   ·exact sr w (List.mem_append_left _ h1) y hy
   ·rw[List.mem_singleton] at h1
    subst h1
    have:=hxr y hy
    unfold GU.bfr at*
    grind
  ·injection hq with hq
   subst hq
   exact absurd e hl
  ·obtain⟨-,rfl⟩:=Zda hz
   simp only at e
   grind
  ·rw[hS,ZcD,ZcD,ZbQ]
   have hm:(⟨u.a,x.b,u.oa,true,u.f⟩:GU T F).mem t↔u.mem t\/x.mem t:=by
    unfold GU.mem
    simp only[Bool.true_eq_false,and_false,or_false]
    grind
   rw[hm]
   simp only[hf]
   grind
 | @appO _ _ hl hne hp hh=>
  obtain⟨hl1,hl2,hl3⟩:=long hl
  rcases hst with⟨q,y,r,hpv,q0,q1,q2,h1,h2, -,h4,h5,h6,hS⟩|⟨hq, -, -⟩
  ·injection h1 with h1 h1'
   subst h1
   subst h1'
   refine⟨hnf.app (.inl hl1) (fun e=>absurd e hl) (fun ys u hxs=>?_),hat,hch,fun w hw y hy=>?_, .inr ⟨fun q hq e=>?_,fun zs w y r hz e _ _=>?_,fun t v=>?_⟩⟩
   ·subst hxs
    have hub:=h5 u (by simp)
    have huo:=hnf.ok u (by simp)
    have h7:=h6 ys u rfl
    unfold GU.bfr GU.ok at*
    refine⟨?_,fun e1 e2=>?_,fun e1 e2=>?_,fun e1 e2=>?_⟩
    ·unfold GU.bfr;grind
    ·exfalso;simp only at*;grind
    ·simp only at*;rw[h2,h4];refine h7 ?_ ?_ <;> grind
    ·exfalso;simp only at*;grind
   ·rcases List.mem_append.1 hw with h1|h1
    ·exact sr w h1 y hy
    ·rw[List.mem_singleton] at h1
     subst h1
     have:=hxr y hy
     unfold GU.bfr at*
     exact this
   ·injection hq with hq
    subst hq
    exact absurd e hl
   ·obtain⟨-,rfl⟩:=Zda hz
    exact absurd e hl
   ·rw[hS,ZcD,ZbQ]
    have hm:(⟨x.a,x.b,false,x.ob,x.f⟩:GU T F).mem t↔t=q.a\/x.mem t:=by
     unfold GU.mem
     simp only[and_true]
     grind
    rw[hm]
    have hv:t=q.a->va q.f t=va x.f t:=fun e=>by rw[e,h4]
    simp only
    grind
  ·obtain⟨q,e1,e2,e3⟩:=hp
   exact absurd (e3▸hq q e1 e2) hh
 | @appN _ _ hl hne hp=>
  obtain⟨hl1,hl2,hl3⟩:=long hl
  rcases hst with⟨q,y,r,hpv,q0,q1,q2,h1,h2, -,h4,h5,h6,hS⟩|⟨-,hI,hS⟩
  ·injection h1 with h1 h1'
   subst h1
   refine absurd ⟨⟨q,hpv,q0,h2.symm⟩, ?_⟩ hp
   rintro⟨ys,u,rfl,e1,e2⟩
   have:=h5 u (by simp)
   unfold GU.bfr at this
   grind
  ·refine⟨hnf.app (.inl hl1) (fun e=>absurd e hl) (fun ys u hxs=>?_),hat,hch,fun w hw y hy=>?_, .inr ⟨fun q hq e=>?_,fun zs w y r hz e _ _=>?_,fun t v=>?_⟩⟩
   ·subst hxs
    have hub:=sx u (by simp)
    refine⟨hub,fun e1 e2 e3=>hne ys u rfl e1 (by grind) e2,fun e1 e2=>by grind,fun e1 e2=>hI ys u x rest rfl e2 rfl e1.symm⟩
   ·rcases List.mem_append.1 hw with h1|h1
    ·exact sr w h1 y hy
    ·rw[List.mem_singleton] at h1
     subst h1
     exact hxr y hy
   ·injection hq with hq
    subst hq
    exact absurd e hl
   ·obtain⟨-,rfl⟩:=Zda hz
    exact absurd e hl
   ·rw[hS,ZcD,ZbQ]
    grind
 | @clo ys u _ hi hb hu hv=>
  obtain⟨i1,i2⟩:=inst hi
  obtain⟨-,hS⟩:=noP hi
  have hub:=sx u (by simp)
  have huo:=hnf.ok u (by simp)
  have hua:u.a<u.b:=by unfold GU.ok at huo;grind
  refine⟨hnf.last (u:=u) rfl rfl rfl hua,hat,hch,fun w hw y hy=>?_, .inr ⟨fun q hq e=>?_,fun zs w y r hz e _ _=>?_,fun t v=>?_⟩⟩
  ·rcases List.mem_append.1 hw with h1|h1
   ·exact sr w (List.mem_append_left _ h1) y hy
   ·rw[List.mem_singleton] at h1
    subst h1
    have:=hxr y hy
    unfold GU.bfr at*
    grind
  ·injection hq with hq
   subst hq
   exact⟨ys,_,rfl,hb,rfl⟩
  ·obtain⟨-,rfl⟩:=Zda hz
   exact absurd e hu
  ·rw[hS,ZcD,ZcD,ZbQ]
   have hm:(⟨u.a,u.b,u.oa,false,u.f⟩:GU T F).mem t↔u.mem t\/t=x.a:=by
    unfold GU.mem GU.bfr at*
    simp only[and_true]
    grind
   have hmx:x.mem t↔t=x.a:=by
    unfold GU.mem
    grind
   have hvt:t=x.a->va u.f t=va x.f t:=fun e=>by rw[e,hv]
   rw[hm,hmx]
   simp only
   grind
 | @lft _ _ hi hc hn=>
  obtain⟨i1,i2⟩:=inst hi
  obtain⟨-,hS⟩:=noP hi
  obtain⟨n,e1,e2,e3⟩:=hn
  cases rest with
  |nil=>cases e1
  |cons m r=>
   simp only[List.head?_cons,Option.some.injEq] at e1
   subst e1
   have hxm:=hxr m (.head _)
   refine⟨hnf,hat,hch,sr, .inl ⟨x,m,r,rfl,hi,i1,i2,rfl,e2, ?_,e3,sx,hc,fun t v=>?_⟩⟩
   ·unfold GU.bfr at hxm;grind
   ·rw[hS,ZbQ (u:=x)]
    have hmx:x.mem t↔t=x.a:=by
     unfold GU.mem
     grind
    rw[hmx]
 | @rdc _ _ hi hc hn=>
  obtain⟨i1,i2⟩:=inst hi
  obtain⟨-,hS⟩:=noP hi
  refine⟨hnf.app (.inr ⟨hi,i1,i2⟩) (fun _=>(Fv.red_eq _ _ _ (Fv.va_red _ _)).symm) (fun ys u hxs=>?_),hat,hch,fun w hw y hy=>?_, .inr ⟨fun q hq e=>?_,fun zs w y r hz e hr hy=>?_,fun t v=>?_⟩⟩
  ·subst hxs
   have hub:=sx u (by simp)
   have huo:=hnf.ok u (by simp)
   have h7:=hc ys u rfl
   refine⟨hub,fun e1 e2=>?_,fun e1 e2=>?_,fun e1 e2=>?_⟩
   ·unfold GU.bfr at hub;simp only at*;grind
   ·simp only[Fv.va_red] at*
    refine h7 e1 ?_
    unfold GU.bfr GU.ok at*
    grind
   ·unfold GU.bfr GU.ok at*;simp only at*;grind
  ·rcases List.mem_append.1 hw with h1|h1
   ·exact sr w h1 y hy
   ·rw[List.mem_singleton] at h1
    subst h1
    have:=hxr y hy
    unfold GU.bfr at*
    exact this
  ·injection hq with hq
   subst hq
   exact⟨xs,_,rfl,hi.symm,i2⟩
  ·obtain⟨-,rfl⟩:=Zda hz
   subst hr
   simp only at e hy⊢
   rw[hy,<-hi,Fv.va_red]
   intro e4
   exact hn ⟨y,rfl,by rw[hy,hi],e4.symm⟩
  ·rw[hS,ZcD,ZbQ]
   have hmx:x.mem t↔t=x.a:=by
    unfold GU.mem
    grind
   have hmy:(⟨x.a,x.b,x.oa,x.ob,red x.f x.a⟩:GU T F).mem t↔t=x.a:=by
    unfold GU.mem
    simp only
    grind
   have hvt:t=x.a->va (red x.f x.a) t=va x.f t:=fun e=>by rw[e,Fv.va_red]
   rw[hmx,hmy]
   simp only
   grind
theorem Mk.nf {pv:Option (GU T F)}{xs rem out:List (GU T F)}{S:T->V->Prop}(h:Mk pv xs rem out):Inv pv xs rem S->NF out/\∀t v,Has out t v↔S t v:=by
 induction h with
 |nil=>
  intro hi
  refine⟨hi.nf,fun t v=>?_⟩
  rcases hi.st with⟨q,x,r, -, -, -, -,h1, -⟩|⟨-, -,h3⟩
  ·cases h1
  ·rw[h3]
   exact⟨.inl,fun h=>h.resolve_right Zig⟩
 |cons hs _ ih=>exact fun hi=>ih (hi.step hs)
theorem Inv.start {al:List (GU T F)}(ha:∀x∈al,x.atom)(hc:al.Pairwise GU.bfr):Inv none [] al (Has al):=
 ⟨NF.nil,ha,hc,(fun u hu=>by cases hu), .inr ⟨(fun q h=>by cases h),(fun ys u x r h=>by simp at h),fun t v=>⟨.inr,fun h=>h.resolve_left Zig⟩⟩⟩
variable [DecidableEq T]
def GU.parts (u:GU T F):List (GU T F):=(if u.oa=true then [] else [⟨u.a,u.a,false,false,u.f⟩])++(if u.a=u.b then [] else⟨u.a,u.b,true,true,u.f⟩::if u.ob=true then [] else [⟨u.b,u.b,false,false,u.f⟩])
theorem Zen {u x:GU T F}(h:x∈u.parts):(x=⟨u.a,u.a,false,false,u.f⟩/\u.oa=false)\/(x=⟨u.a,u.b,true,true,u.f⟩/\u.a≠u.b)\/(x=⟨u.b,u.b,false,false,u.f⟩/\u.a≠u.b/\u.ob=false):=by
 unfold GU.parts at h
 rcases List.mem_append.1 h with h1|h1
 ·split at h1
  ·cases h1
  ·rename_i ho
   rw[List.mem_singleton] at h1
   exact .inl ⟨h1,by simpa using ho⟩
 ·split at h1
  ·cases h1
  ·rename_i hi
   rcases List.mem_cons.1 h1 with h2|h2
   ·exact .inr (.inl ⟨h2,hi⟩)
   ·split at h2
    ·cases h2
    ·rename_i ho
     rw[List.mem_singleton] at h2
     exact .inr (.inr ⟨h2,hi,by simpa using ho⟩)
theorem Zn7 {u x:GU T F}(hu:u.ok)(h:x∈u.parts):x.atom:=by
 unfold GU.atom GU.ok at*
 rcases Zen h with⟨rfl,h1⟩|⟨rfl,h1⟩|⟨rfl,h1,h2⟩
 ·exact .inl ⟨rfl,rfl,rfl⟩
 ·exact .inr ⟨by simp only;grind,rfl,rfl⟩
 ·exact .inl ⟨rfl,rfl,rfl⟩
theorem Zqg {u w x y:GU T F}(hu:u.ok)(hw:w.ok)(h:u.bfr w)(hx:x∈u.parts)(hy:y∈w.parts):x.bfr y:=by
 unfold GU.bfr GU.ok at*
 rcases Zen hx with⟨rfl,h1⟩|⟨rfl,h1⟩|⟨rfl,h1,h2⟩ <;> rcases Zen hy with⟨rfl,h3⟩|⟨rfl,h3⟩|⟨rfl,h3,h4⟩ <;> simp only <;> grind
theorem ZsX {u:GU T F}(hu:u.ok):u.parts.Pairwise GU.bfr:=by
 unfold GU.parts
 refine List.pairwise_append.2 ⟨?_, ?_,fun x hx y hy=>?_⟩
 ·split <;> simp
 ·split
  ·simp
  ·refine List.pairwise_cons.2 ⟨fun y hy=>?_, ?_⟩
   ·split at hy
    ·cases hy
    ·rw[List.mem_singleton] at hy
     subst hy
     exact .inr ⟨rfl, .inl rfl⟩
   ·split <;> simp
 ·split at hx
  ·cases hx
  ·rename_i ho
   rw[List.mem_singleton] at hx
   subst hx
   split at hy
   ·cases hy
   ·rename_i hi
    unfold GU.ok at hu
    rcases List.mem_cons.1 hy with h2|h2
    ·subst h2
     exact .inr ⟨rfl, .inr rfl⟩
    ·split at h2
     ·cases h2
     ·rw[List.mem_singleton] at h2
      subst h2
      exact .inl (by simp only;grind)
theorem Zpl {u:GU T F}(hu:u.ok){t:T}{v:V}:Has u.parts t v↔u.mem t/\va u.f t=v:=by
 constructor
 ·rintro⟨x,hx,h1,h2⟩
  unfold GU.mem GU.ok at*
  rcases Zen hx with⟨rfl,h3⟩|⟨rfl,h3⟩|⟨rfl,h3,h4⟩ <;> simp only at h1 h2 <;> refine⟨?_,h2⟩ <;> grind
 ·rintro⟨h1,h2⟩
  unfold GU.parts
  rw[ZhO]
  by_cases ha:u.a=t
  ·have hoa:u.oa=false:=by unfold GU.mem at h1;grind
   refine .inl ?_
   rw[hoa,if_neg (by decide),Zh8]
   exact⟨⟨.inr ⟨ha,rfl⟩, .inr ⟨ha.symm,rfl⟩⟩,h2⟩
  ·refine .inr ?_
   have hne:u.a≠u.b:=by unfold GU.mem GU.ok at*;grind
   rw[if_neg hne,ZbQ]
   by_cases hb:t=u.b
   ·have hob:u.ob=false:=by unfold GU.mem at h1;grind
    refine .inr ?_
    rw[hob,if_neg (by decide),Zh8]
    exact⟨⟨.inr ⟨hb.symm,rfl⟩, .inr ⟨hb,rfl⟩⟩,h2⟩
   ·refine .inl ⟨?_,h2⟩
    unfold GU.mem at*
    simp only
    grind
def partsL (us:List (GU T F)):List (GU T F):=us.flatMap GU.parts
theorem Zez (u:GU T F)(us:List (GU T F)):partsL (u::us)=u.parts++partsL us:=by simp[partsL]
theorem ZpE {us:List (GU T F)}(h:∀u∈us,u.ok):∀x∈partsL us,x.atom:=fun x hx=>by
 obtain⟨u,hu,h1⟩:=List.mem_flatMap.1 hx
 exact Zn7 (h u hu) h1
theorem Zi7 :∀{us:List (GU T F)},(∀u∈us,u.ok)->us.Pairwise GU.bfr->(partsL us).Pairwise GU.bfr
 |[],_,_=>by simp[partsL]
 |u::us,h,hp=>by
  obtain⟨h1,h2⟩:=List.pairwise_cons.1 hp
  rw[Zez]
  refine List.pairwise_append.2 ⟨ZsX (h u (.head _)),Zi7 (fun w hw=>h w (.tail _ hw)) h2,fun x hx y hy=>?_⟩
  obtain⟨w,hw,hy⟩:=List.mem_flatMap.1 hy
  exact Zqg (h u (.head _)) (h w (.tail _ hw)) (h1 w hw) hx hy
theorem Zhg :∀{us:List (GU T F)},(∀u∈us,u.ok)->∀{t:T} {v:V},Has (partsL us) t v↔Has us t v
 |[],_,t,v=>by simp[partsL]
 |u::us,h,t,v=>by rw[Zez,ZhO,Zpl (h u (.head _)),ZbQ,Zhg fun w hw=>h w (.tail _ hw)]
theorem Zfl :∀{l:List (GU T F)},(∀u∈l,u.ok)->(∀i (h:i+1<l.length),(l[i]).bfr l[i+1])->l.Pairwise GU.bfr
 |[],_,_=> .nil
 |[u],_,_=>List.pairwise_singleton _ _
 |u::w::l,hok,h=>by
  have h1:u.bfr w:=h 0 (by simp)
  have h2:(w::l).Pairwise GU.bfr:=Zfl (fun x hx=>hok x (.tail _ hx)) fun i hi=>h (i+1) (by simpa using hi)
  refine List.pairwise_cons.2 ⟨fun y hy=>?_,h2⟩
  rcases List.mem_cons.1 hy with rfl|hy
  ·exact h1
  ·exact h1.tr (hok w (.tail _ (.head _))) ((List.pairwise_cons.1 h2).1 y hy)
def Dis (u w:GU T F):Prop:=∀t,¬(u.mem t/\w.mem t)
theorem Dis.symm {u w:GU T F}(h:Dis u w):Dis w u:=fun t ⟨h1,h2⟩=>h t ⟨h2,h1⟩
theorem GU.bfr.Dis {u w:GU T F}(h:u.bfr w):Go.Vt.Dis u w:=fun _ ⟨h1,h2⟩=>h.dis h1 h2
theorem Zov {u w:GU T F}(hu:u.ok)(hw:w.ok)(hle:u.a<w.a\/(u.a=w.a/\(u.oa=true->w.oa=true)))(h:Dis u w):u.bfr w:=by
 rcases Classical.em (u.bfr w) with h0|h0
 ·exact h0
 ·exfalso
  rcases Classical.em (w.a<u.b) with h1|h1
  ·rcases hw with h2|⟨h2,h3,h4⟩
   ·obtain⟨t,h3,h4,h5⟩:=dens2 h1 h2
    refine h t ⟨⟨.inl (by grind), .inl h4⟩,⟨.inl h3, .inl h5⟩⟩
   ·refine h w.a ⟨⟨?_, .inl h1⟩,⟨.inr ⟨rfl,h3⟩, .inr ⟨h2,h4⟩⟩⟩
    rcases hle with h5|⟨h5,h6⟩
    ·exact .inl h5
    ·refine .inr ⟨h5, ?_⟩
     rcases ho:u.oa with _|_
     ·rfl
     ·rw[h6 ho] at h3;cases h3
  ·unfold GU.bfr at h0
   have h2:u.b=w.a:=by unfold GU.ok at*;grind
   have h3:u.ob=false/\w.oa=false:=by grind
   refine h w.a ⟨⟨?_, .inr ⟨h2.symm,h3.1⟩⟩,⟨.inr ⟨rfl,h3.2⟩, ?_⟩⟩
   ·unfold GU.ok at hu;grind
   ·unfold GU.ok at hw;grind
theorem Zkq {l m:List (GU T F)}(h:l.Perm m):l.Pairwise Dis↔m.Pairwise Dis:=h.pairwise_iff fun h=>h.symm
theorem ZsY {l m:List (GU T F)}(h:l.Perm m){t:T}{v:V}:Has l t v↔Has m t v:=by
 unfold Has
 exact⟨fun⟨u,hu,k⟩=>⟨u,h.mem_iff.1 hu,k⟩,fun⟨u,hu,k⟩=>⟨u,h.mem_iff.2 hu,k⟩⟩
end
end Go.Vt
