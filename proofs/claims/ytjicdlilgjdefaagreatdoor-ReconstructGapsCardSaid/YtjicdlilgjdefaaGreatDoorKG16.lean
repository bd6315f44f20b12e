/- that the gaps between reports are those of the chain (part 16 of 32.) Conditions: those that each statement names. -/
import Derived.Test.YtjicdlilgjdefaaGreatDoorKG11
import Derived.Test.YtjicdlilgjdefaaGreatDoorKG14
import Derived.Test.YtjicdlilgjdefaaGreatDoorKG15
set_option linter.unusedSimpArgs false
set_option linter.unusedVariables false
set_option maxHeartbeats 2000000
set_option maxRecDepth 100000
namespace Go.Vt
open Go.RowKit Go.Proofs
open Go.Proofs.Tryz (prog)
section
open Fv (va red)
section
variable {α : Type} [Inhabited α]
def swpG (xs:List α)(j:Nat):List α:=(xs.set (j+1) (gi xs (j:Int))).set j (gi xs ((j+1:Nat):Int))
def dwnG (c:α->α->Int)(xs:List α):Nat->List α
 |0=>xs
 |j+1=>if c (gi xs ((j+1:Nat):Int)) (gi xs (j:Int))<0 then dwnG c (swpG xs j) j else xs
def srtG (c:α->α->Int)(xs:List α):Nat->List α
 |0=>xs
 |i+1=>dwnG c (srtG c xs i) (i+1)
theorem Zde (xs:List α)(j:Nat):(swpG xs j).length=xs.length:=by simp[swpG]
theorem ZhZ {xs:List α}{j p:Nat}(h:j+1<xs.length)(hp:p<xs.length):gi (swpG xs j) (p:Int)=if p=j then gi xs ((j+1:Nat):Int) else if p=j+1 then gi xs (j:Int) else gi xs (p:Int):=by
 rw[Zj (by rw[Zde];exact hp)]
 unfold swpG
 rw[List.getElem_set,List.getElem_set]
 by_cases h1:p=j
 ·subst h1;simp
 ·rw[if_neg (fun h=>h1 h.symm),if_neg h1]
  by_cases h2:p=j+1
  ·subst h2;simp
  ·rw[if_neg (fun h=>h2 h.symm),if_neg h2,Zj hp]
theorem ZoN {xs:List α}{j:Nat}(h:j+1<xs.length):(swpG xs j).Perm xs:=by
 have e:xs=xs.take j++xs[j]::xs[j+1]::xs.drop (j+2):=by
  rw[<-List.drop_eq_getElem_cons h,<-List.drop_eq_getElem_cons (by omega),List.take_append_drop]
 have e2:swpG xs j=xs.take j++xs[j+1]::xs[j]::xs.drop (j+2):=by
  apply List.ext_getElem
  ·rw[Zde]
   simp only[Wp,Wt,Wu,List.length_drop]
   omega
  ·intro p h1 h2
   have hp:p<xs.length:=by rw[Zde] at h1;exact h1
   have h3:=ZhZ h hp
   rw[Zj h1,Zj h,Zj (show j<xs.length by omega),Zj hp] at h3
   rw[h3,List.getElem_append]
   simp only[Wt,Nat.min_eq_left (show j<=xs.length by omega)]
   by_cases h4:p<j
   ·rw[dif_pos h4,if_neg (by omega),if_neg (by omega)]
    simp
   ·rw[dif_neg h4]
    by_cases h5:p=j
    ·subst h5;simp
    ·rw[if_neg h5]
     by_cases h6:p=j+1
     ·subst h6;simp
     ·rw[if_neg h6]
      obtain⟨q,rfl⟩:∃q,p=j+2+q:=⟨p-(j+2),by omega⟩
      simp only[show j+2+q-j=q+1+1 by omega,List.getElem_cons_succ,List.getElem_drop]
 have h7:(xs.take j++xs[j+1]::xs[j]::xs.drop (j+2)).Perm (xs.take j++xs[j]::xs[j+1]::xs.drop (j+2)):=(List.Perm.swap _ _ _).append_left _
 rw[e2]
 exact h7.trans (by rw[<-e])
theorem ZiB (c:α->α->Int):∀(j:Nat)(xs:List α),j<xs.length->(dwnG c xs j).Perm xs
 |0,_,_=> .refl _
 |j+1,xs,h=>by
  rw[dwnG]
  split
  ·exact(ZiB c j _ (by rw[Zde];omega)).trans (ZoN h)
  ·exact .refl _
theorem Zbw (c:α->α->Int)(xs:List α):∀i,i<xs.length->(srtG c xs i).Perm xs
 |0,_=> .refl _
 |i+1,h=>by
  have h1:=Zbw c xs i (by omega)
  rw[srtG]
  exact(ZiB c _ _ (by rw[h1.length_eq];exact h)).trans h1
section
variable {c : α -> α -> Int} {le : α -> α -> Prop} (h1 : ∀ x y, c x y < 0 -> le x y) (h2 : ∀ x y, ¬ c x y < 0 -> le y x) (h3 : ∀ x y z, le x y -> le y z -> le x z)
include h1 h2 h3
theorem Zkm :∀(j n:Nat)(xs:List α),j<n->n<=xs.length->(∀p q:Nat,p<q->q<n->q≠j->le (gi xs (p:Int)) (gi xs (q:Int)))->∀p q:Nat,p<q->q<n->le (gi (dwnG c xs j) (p:Int)) (gi (dwnG c xs j) (q:Int))
 |0,n,xs,_,_,H,p,q,hpq,hq=>H p q hpq hq (by omega)
 |j+1,n,xs,hj,hn,H,p,q,hpq,hq=>by
  rw[dwnG]
  split
  ·rename_i hc
   refine Zkm j n (swpG xs j) (by omega) (by rw[Zde];exact hn) (fun p q hpq hq hqj=>?_) p q hpq hq
   rw[ZhZ (by omega) (by omega),ZhZ (by omega) (by omega),if_neg hqj]
   by_cases e1:q=j+1
   ·rw[if_pos e1]
    by_cases e2:p=j
    ·rw[if_pos e2];exact h1 _ _ hc
    ·rw[if_neg e2,if_neg (by omega)];exact H p j (by omega) (by omega) (by omega)
   ·rw[if_neg e1]
    by_cases e2:p=j
    ·rw[if_pos e2];exact H (j+1) q (by omega) hq e1
    ·rw[if_neg e2]
     by_cases e3:p=j+1
     ·rw[if_pos e3];exact H j q (by omega) hq e1
     ·rw[if_neg e3];exact H p q hpq hq e1
  ·rename_i hc
   have h4:=h2 _ _ hc
   by_cases e1:q=j+1
   ·subst e1
    by_cases e2:p=j
    ·subst e2;exact h4
    ·exact h3 _ _ _ (H p j (by omega) (by omega) (by omega)) h4
   ·exact H p q hpq hq e1
theorem ZcE (xs:List α):∀i,i<xs.length->∀p q:Nat,p<q->q<i+1->le (gi (srtG c xs i) (p:Int)) (gi (srtG c xs i) (q:Int))
 |0,_,p,q,_,_=>by omega
 |i+1,h,p,q,hpq,hq=>by
  have hl:=(Zbw c xs i (by omega)).length_eq
  rw[srtG]
  exact Zkm h1 h2 h3 (i+1) (i+2) _ (by omega) (by omega) (fun p q hpq hq hne=>ZcE xs i (by omega) p q hpq (by omega)) p q hpq hq
end
end
theorem ZuJ {a b:Rat}(h:a*b=0)(ha:a≠0):b=0:=by
 rcases Rat.mul_eq_zero.1 h with h1|h1
 ·exact absurd h1 ha
 ·exact h1
theorem ZoM {x0 x1 y0 y1 c d:Rat}(hcd:c<d)(h1:x0+c*(x1+c*0)=y0+c*(y1+c*0))(h2:x0+d*(x1+d*0)=y0+d*(y1+d*0)):x0=y0/\x1=y1:=by
 have h3:(d-c)*(x1-y1)=0:=by grind
 have h4:=ZuJ h3 (by grind)
 have h5:x1=y1:=by grind
 exact⟨by grind,h5⟩
instance : Dns Rat:=⟨fun a b h=>⟨(a+b) / 2,by grind,by grind⟩⟩
instance : Fv ZG Rat Zal where
 va:=pos
 red:=lred
 va_red f t:=by
  unfold lred pos
  simp only
  congr 1 <;> grind
 red_eq f g t h:=by
  unfold pos at h
  injection h with h1 h2
  unfold lred
  rw[h1,h2]
 agree f g a b h hv:=by
  obtain⟨c,h1,h2⟩:=Dns.out a b h
  obtain⟨d,h3,h4⟩:=Dns.out c b h2
  have e1:=hv c h1 h2
  have e2:=hv d (by grind) h4
  unfold pos at e1 e2
  injection e1 with p1 p2
  injection e2 with p3 p4
  have q1:=ZoM h3 p1 p3
  have q2:=ZoM h3 p2 p4
  cases f
  cases g
  simp_all
theorem Zqh (f:ZG)(t:Rat):va f t=pos f t:=rfl
theorem Zie {f g:ZG}{t:Rat}:smL f g t=true↔va f t=va g t:=by
 unfold smL
 rw[Wq,ZiL,ZiL,Zqh,Zqh]
 unfold lnX lnY pos
 simp only[Zal.mk.injEq]
 constructor
 ·rintro⟨h1,h2⟩;constructor <;> grind
 ·rintro⟨h1,h2⟩;constructor <;> grind
def absU (u:UL):GU Rat ZG:=⟨u.In.From.P,u.In.To.P,u.In.OpenFrom,u.In.OpenTo,u.F⟩
structure RtOk (x:Zp):Prop where
 r:x.R=0
 n:x.Neg=false
theorem Zcn {x y:Zp}(hx:RtOk x)(hy:RtOk y):x=y↔x.P=y.P:=by
 obtain⟨p,r,n⟩:=x
 obtain⟨p',r',n'⟩:=y
 obtain⟨h1,h2⟩:=hx
 obtain⟨h3,h4⟩:=hy
 simp only at h1 h2 h3 h4
 subst h1
 subst h2
 subst h3
 subst h4
 simp
theorem IvOk.rf {K:Nat}{I:Ze}(h:IvOk K I):RtOk I.From:=⟨h.r1,h.n1⟩
theorem IvOk.rt {K:Nat}{I:Ze}(h:IvOk K I):RtOk I.To:=⟨h.r2,h.n2⟩
theorem Zkf {u w:UL}:aprt u.In w.In=true↔(absU u).bfr (absU w):=by
 unfold aprt GU.bfr absU
 simp
theorem Zyt (xs:List UL)(j:Nat):swp xs j=swpG xs j:=rfl
theorem Ztl :∀(j:Nat)(xs:List UL),dwn xs j=dwnG cmpU xs j
 |0,_=>rfl
 |j+1,xs=>by rw[dwn,dwnG,Ztl j,Zyt]
theorem Zn3 (xs:List UL):∀i,srt xs i=srtG cmpU xs i
 |0=>rfl
 |i+1=>by rw[srt,srtG,Ztl,Zn3 xs i]
theorem Zfe (us:List UL):(sor us).Perm us:=by
 rcases us with _|⟨u,us⟩
 ·exact .refl _
 ·unfold sor
  rw[Zn3]
  exact Zbw _ _ _ (by simp)
def leU (u w:UL):Prop:=u.In.From.P<w.In.From.P\/(u.In.From.P=w.In.From.P/\opn u.In<=opn w.In)
theorem Zjg {a b:Int}:Lib.compareInt a b<0↔a<b:=by
 unfold Lib.compareInt
 split
 ·omega
 ·split <;> omega
theorem Zk4 {a b:Int}:Lib.compareInt a b=0↔a=b:=by
 unfold Lib.compareInt
 split
 ·omega
 ·split <;> omega
theorem ZtT {u w:UL}(h:cmpU u w<0):leU u w:=by
 unfold cmpU orL at h
 split at h
 ·rename_i h1
  have h1:=Zb7.1 h1
  refine .inr ⟨h1, ?_⟩
  unfold orL at h
  split at h
  ·rename_i h2
   have:=Zk4.1 h2
   omega
  ·have:=Zjg.1 h
   omega
 ·exact .inl (ZdC.1 h)
theorem ZuV {u w:UL}(h:¬cmpU u w<0):leU w u:=by
 unfold cmpU orL at h
 split at h
 ·rename_i h1
  have h1:=Zb7.1 h1
  refine .inr ⟨h1.symm, ?_⟩
  unfold orL at h
  split at h
  ·rename_i h2
   have:=Zk4.1 h2
   omega
  ·have:¬opn u.In<opn w.In:=fun k=>h (Zjg.2 k)
   omega
 ·rename_i h1
  refine .inl ?_
  have h2:¬u.In.From.P<w.In.From.P:=fun k=>h (ZdC.2 k)
  have h3:¬u.In.From.P=w.In.From.P:=fun k=>h1 (Zb7.2 k)
  grind
theorem ZwO {u v w:UL}(h:leU u v)(k:leU v w):leU u w:=by
 unfold leU at*
 rcases h with h|⟨h1,h2⟩ <;> rcases k with k|⟨k1,k2⟩
 ·exact .inl (by grind)
 ·exact .inl (by grind)
 ·exact .inl (by grind)
 ·exact .inr ⟨by grind,by omega⟩
theorem ZtY (us:List UL)(p q:Nat)(hpq:p<q)(hq:q<us.length):leU (gi (sor us) (p:Int)) (gi (sor us) (q:Int)):=by
 unfold sor
 rw[Zn3]
 exact ZcE (c:=cmpU) (le:=leU) (fun _ _=>ZtT) (fun _ _=>ZuV) (fun _ _ _=>ZwO) us (us.length-1) (by omega) p q hpq (by omega)
theorem ZpO {u:UL}{K:Nat}(h:IvOk K u.In):(atU u).map absU=(absU u).parts:=by
 have e:(u.In.From=u.In.To)↔(absU u).a=(absU u).b:=Zcn h.rf h.rt
 unfold atU GU.parts
 rw[List.map_append]
 congr 1
 ·show List.map absU (if u.In.OpenFrom=true then [] else _)=if u.In.OpenFrom=true then [] else _
  split <;> rfl
 ·by_cases hi:u.In.From=u.In.To
  ·rw[if_pos hi,if_pos (e.1 hi)]
   rfl
  ·rw[if_neg hi,if_neg (fun k=>hi (e.2 k))]
   show List.map absU (_::if u.In.OpenTo=true then [] else _)=_::if u.In.OpenTo=true then [] else _
   split <;> rfl
theorem Zii {us:List UL}{K:Nat}(h:∀u∈us,IvOk K u.In):∀m,m<=us.length->(atm us m).map absU=partsL ((us.take m).map absU)
 |0,_=>rfl
 |m+1,hm=>by
  have hg:=Zj (xs:=us) (i:=m) (by omega)
  rw[atm,List.map_append,Zii h m (by omega),ZpO (h _ (ZI (by omega))),Wn (by omega),List.map_append,partsL,partsL,List.flatMap_append,hg]
  simp
theorem ZbL (ys:List UL)(u:UL):lstU (ys++[u])=u:=by
 unfold lstU
 rw[Zc1 (by simp only[Wp,List.length_singleton];omega)]
 simp only[Wp,List.length_singleton]
 rw[List.getElem_append_right (by omega)]
 simp
theorem ZiS (ys:List UL)(u w:UL):turn (ys++[u]) w=ys++[w]:=by
 unfold turn
 simp
theorem ZmT {u:UL}{K:Nat}(h:IvOk K u.In):isI u=true↔(absU u).a=(absU u).b:=by
 unfold isI
 rw[decide_eq_true_iff]
 exact Zcn h.rf h.rt
theorem ZdN {ys':List UL}{u':UL}{ys:List (GU Rat ZG)}{u:GU Rat ZG}(h:(ys'++[u']).map absU=ys++[u]):u=absU u':=by
 rw[List.map_append] at h
 exact(Zda h).2.symm
theorem Ze3 (zs:List UL)(w:UL)(t:Zp):bef (zs++[w]) t=(decide (w.In.To=t)&& !decide (w.In.From=w.In.To)):=by
 unfold bef
 rw[ZbL,Wc (by simp:0<(zs++[w]).length),Bool.true_and]
theorem Zq1 (zs:List UL)(w:UL)(t:Zp):hld (zs++[w]) t=(decide (w.In.To=t)&& !w.In.OpenTo):=by
 unfold hld
 rw[ZbL,Wc (by simp:0<(zs++[w]).length),Bool.true_and]
def pvO (al:List UL)(i:Nat):Option (GU Rat ZG):=if i=0 then none else some (absU (gi al ((i:Int)-1)))
def nxO (al:List UL)(i:Nat):Option (GU Rat ZG):=if i+1<al.length then some (absU (gi al ((i:Int)+1))) else none
theorem ZrK {xs:List UL}(hxs:∀v∈xs,UOk v){t:Zp}(ht:RtOk t):hld xs t=true↔Held (xs.map absU) t.P:=by
 rcases Zb3 xs with rfl|⟨zs,w,rfl⟩
 ·unfold hld Held
  simp
 ·rw[Zq1]
  have hw:=hxs w (by simp)
  simp only[Wq,decide_eq_true_eq,Bool.not_eq_true']
  rw[Zcn hw.i.rt ht]
  constructor
  ·rintro⟨h1,h2⟩
   exact⟨zs.map absU,absU w,by simp,h1,h2⟩
  ·rintro⟨ys,u,h1,h2,h3⟩
   have:=ZdN h1
   subst this
   exact⟨h2,h3⟩
theorem Ztx {al xs:List UL}{i:Nat}{x:UL}(hi:i<al.length)(hal:∀u∈al,UIn u)(hx:UIn x)(hxs:∀v∈xs,UOk v):Stp (pvO al i) (nxO al i) (xs.map absU) (absU x) ((nstp al i xs x).map absU):=by
 have hprev:∀q,pvO al i=some q->0<i/\q=absU (gi al ((i:Int)-1))/\UIn (gi al ((i:Int)-1)):=fun q hq=>by
  unfold pvO at hq
  split at hq
  ·cases hq
  ·injection hq with hq
   exact⟨by omega,hq.symm,hal _ (ZI (by omega))⟩
 have hI:=ZmT hx.i
 unfold nstp
 by_cases hi0:isI x=true
 ·have hie:=hI.1 hi0
  rw[if_neg (by rw[hi0];decide)]
  have noClo:cC xs x=false->NoClo (xs.map absU) (absU x):=fun hC ys u h e1 e2 e3=>by
   rcases Zb3 xs with rfl|⟨zs,w,rfl⟩
   ·simp at h
   ·have:=ZdN h
    subst this
    have hw:=hxs w (by simp)
    have h2:cC (zs++[w]) x=true:=by
     unfold cC
     rw[Ze3,ZbL,(Zie.2 e3:smL w.F x.F x.In.From.P=true),Wc ((Zcn hw.i.rt hx.i.rf).2 e1),We (fun k=>e2 ((Zcn hw.i.rf hw.i.rt).1 k))]
     rfl
    rw[hC] at h2
    cases h2
  by_cases hC:cC xs x=true
  ·rw[if_pos hC]
   rcases Zb3 xs with rfl|⟨zs,w,rfl⟩
   ·cases hC
   ·have hw:=hxs w (by simp)
    unfold cC at hC
    rw[Ze3,ZbL] at hC
    simp only[Wq,decide_eq_true_eq,Bool.not_eq_true',decide_eq_false_iff_not] at hC
    rw[ZiS,ZbL,List.map_append,List.map_append]
    exact .clo hie ((Zcn hw.i.rt hx.i.rf).1 hC.1.1) (fun k=>hC.1.2 ((Zcn hw.i.rf hw.i.rt).2 k)) (Zie.1 hC.2)
  ·rw[if_neg hC]
   have hno:=noClo (by simpa using hC)
   have hnx:cD al i x=true↔NxI (nxO al i) (absU x):=by
    unfold cD NxI nxO
    by_cases h1:i+1<al.length
    ·rw[Wc h1,if_pos h1,Bool.true_and]
     have hn:=hal _ (ZI (i:=(i:Int)+1) (xs:=al) (by omega))
     simp only[Wq,decide_eq_true_eq,Option.some.injEq]
     rw[Zcn hn.i.rf hx.i.rf,Zie]
     constructor
     ·rintro⟨h2,h3⟩
      exact⟨_,rfl,h2,h3⟩
     ·rintro⟨n,rfl,h2,h3⟩
      exact⟨h2,h3⟩
    ·rw[We h1,if_neg h1]
     simp
   by_cases hD:cD al i x=true
   ·rw[if_pos hD]
    exact .lft hie hno (hnx.1 hD)
   ·rw[if_neg hD,List.map_append]
    exact .rdc hie hno (fun k=>hD (hnx.2 k))
 ·have hie:(absU x).a≠(absU x).b:=fun k=>hi0 (hI.2 k)
  rw[if_pos (by simpa using hi0)]
  by_cases hA:cA xs x=true
  ·rw[if_pos hA]
   rcases Zb3 xs with rfl|⟨zs,w,rfl⟩
   ·cases hA
   ·have hw:=hxs w (by simp)
    unfold cA at hA
    rw[Ze3,ZbL] at hA
    simp only[Wq,decide_eq_true_eq,Bool.not_eq_true',decide_eq_false_iff_not] at hA
    rw[ZiS,ZbL,List.map_append,List.map_append]
    exact .ext hie ((Zcn hw.i.rt hx.i.rf).1 hA.1.1) (fun k=>hA.1.2 ((Zcn hw.i.rf hw.i.rt).2 k)) hA.2.1 hA.2.2
  ·rw[if_neg hA]
   have hno:NoExt (xs.map absU) (absU x):=fun ys u h e1 e2 e3 e4=>by
    rcases Zb3 xs with rfl|⟨zs,w,rfl⟩
    ·simp at h
    ·have:=ZdN h
     subst this
     have hw:=hxs w (by simp)
     refine hA ?_
     unfold cA
     rw[Ze3,ZbL,Wc ((Zcn hw.i.rt hx.i.rf).2 e1),We (fun k=>e2 ((Zcn hw.i.rf hw.i.rt).1 k)),show w.In.OpenTo=false from e3,Wc (show w.F=x.F from e4)]
     rfl
   have hpv:cB al i xs x=true↔PvI (pvO al i) (absU x)/\¬Held (xs.map absU) (absU x).a:=by
    have hh:=ZrK hxs hx.i.rf
    unfold cB
    by_cases h1:0<i
    ·rw[Wc h1,Bool.true_and]
     have hn:=hal _ (ZI (i:=(i:Int)-1) (xs:=al) (by omega))
     simp only[Wq,decide_eq_true_eq,Bool.not_eq_true']
     rw[ZmT hn.i,Zcn hn.i.rf hx.i.rf]
     unfold PvI pvO
     rw[if_neg (by omega)]
     constructor
     ·rintro⟨h2,h3,h4⟩
      refine⟨⟨_,rfl,h2,h3⟩,fun k=>?_⟩
      rw[hh.2 k] at h4
      cases h4
     ·rintro⟨⟨q,h2,h3,h4⟩,h5⟩
      injection h2 with h2
      subst h2
      refine⟨h3,h4, ?_⟩
      rcases h6:hld xs x.In.From with _|_
      ·rfl
      ·exact absurd (hh.1 h6) h5
    ·rw[We h1,Bool.false_and]
     unfold PvI pvO
     rw[if_pos (by omega)]
     simp
   by_cases hB:cB al i xs x=true
   ·rw[if_pos hB,List.map_append]
    have:=hpv.1 hB
    exact .appO hie hno this.1 this.2
   ·rw[if_neg hB,List.map_append]
    exact .appN hie hno (fun k=>hB (hpv.2 k))
theorem ZjL {al:List UL}(hal:∀u∈al,UIn u):∀d i,i+d=al.length->Mk (pvO al i) ((nrm al i).map absU) ((al.drop i).map absU) ((nrm al al.length).map absU)
 |0,i,h=>by
  rw[Nat.add_zero] at h
  subst h
  rw[List.drop_length]
  exact .nil
 |d+1,i,h=>by
  have hi:i<al.length:=by omega
  have ih:=ZjL hal d (i+1) (by omega)
  have hg:=Zj hi
  have hx:=hal _ (ZI (i:=(i:Int)) (xs:=al) (by omega))
  rw[List.drop_eq_getElem_cons hi,List.map_cons,<-hg]
  have e1:pvO al (i+1)=some (absU (gi al (i:Int))):=by
   unfold pvO
   rw[if_neg (by omega),show((i+1:Nat):Int)-1=(i:Int) by omega]
  have e2:((al.drop (i+1)).map absU).head? =nxO al i:=by
   unfold nxO
   by_cases h1:i+1<al.length
   ·rw[if_pos h1,List.drop_eq_getElem_cons h1,List.map_cons,List.head?_cons,<-Zj h1]
    rfl
   ·rw[if_neg h1,List.drop_eq_nil_of_le (by omega)]
    rfl
  refine .cons ?_ (e1▸ih)
  rw[e2,nrm]
  exact Ztx hi hal hx (Zhc hal i (by omega))
theorem ZfC {l:List UL}:∀m,m<=l.length->aprN l m=true->∀i (h:i+1<m),aprt (gi l (i:Int)).In (gi l ((i+1:Nat):Int)).In=true
 |0,_,_,i,h=>by omega
 |m+1,hm,ha,i,h=>by
  rw[aprN,Wq] at ha
  rcases(by omega:i+1<m\/i+1=m) with h1|h1
  ·exact ZfC m (by omega) ha.1 i h1
  ·subst h1
   have h2:=ha.2
   rw[Wc (by omega:0<i+1),show((i+1:Nat):Int)-1=(i:Int) by omega,Bool.true_and,Bool.not_not] at h2
   exact h2
theorem Zf1 {l:List UL}(H:∀i,i+1<l.length->aprt (gi l (i:Int)).In (gi l ((i+1:Nat):Int)).In=true):∀m,m<=l.length->aprN l m=true
 |0,_=>rfl
 |m+1,hm=>by
  rw[aprN,Zf1 H m (by omega),Bool.true_and]
  rcases m with _|m
  ·rfl
  ·rw[Wc (by omega:0<m+1),show((m+1:Nat):Int)-1=(m:Int) by omega,H m (by omega)]
   rfl
structure UVal (us:List UL):Prop where
 i:∀u∈us,UIn u
 v:∀u∈us,(absU u).ok
theorem UVal.sor {us:List UL}(h:UVal us):UVal (sor us):=⟨fun u hu=>h.i u (ZeK hu),fun u hu=>h.v u (ZeK hu)⟩
theorem Zqz {us:List UL}(h:UVal us)(ha:aprN (sor us) (sor us).length=true):((sor us).map absU).Pairwise GU.bfr:=by
 have hs:=h.sor
 refine Zfl (fun u hu=>?_) (fun i hi=>?_)
 ·obtain⟨w,hw,rfl⟩:=List.mem_map.1 hu
  exact hs.v w hw
 ·rw[Ws] at hi
  have:=ZfC _ (Wl _) ha i hi
  rw[Zkf,Zj (by omega),Zj hi] at this
  simpa using this
theorem Zn4 {us:List UL}(h:UVal us)(ha:aprN (sor us) (sor us).length=true):(us.map absU).Pairwise Dis:=
 (Zkq ((Zfe us).map absU)).1 ((Zqz h ha).imp fun h=>h.Dis)
theorem Zhw {us:List UL}(h:UVal us)(hd:(us.map absU).Pairwise Dis):aprN (sor us) (sor us).length=true:=by
 have hs:=h.sor
 have hp:=(Zkq ((Zfe us).map absU)).2 hd
 refine Zf1 (fun i hi=>?_) _ (Wl _)
 have hl:=Zgv us
 have ho:=ZtY us i (i+1) (by omega) (by omega)
 have hdi:=List.pairwise_iff_getElem.1 hp i (i+1) (by rw[Ws];omega) (by rw[Ws];omega) (by omega)
 rw[List.getElem_map,List.getElem_map,<-Zj (by omega),<-Zj hi] at hdi
 rw[Zkf]
 refine Zov (hs.v _ (ZI (by omega))) (hs.v _ (ZI (by omega))) ?_ hdi
 rcases ho with h1|⟨h1,h2⟩
 ·exact .inl h1
 ·refine .inr ⟨h1,fun k=>?_⟩
  have k':(gi (Go.Vt.sor us) (i:Int)).In.OpenFrom=true:=k
  show(gi (Go.Vt.sor us) ((i+1:Nat):Int)).In.OpenFrom=true
  unfold opn at h2
  rw[if_pos k'] at h2
  split at h2
  ·assumption
  ·omega
theorem Zwy {us:List UL}(h:UVal us):nrmE us=0↔(us.map absU).Pairwise Dis:=by
 unfold nrmE
 constructor
 ·intro k
  split at k
  ·exact Zn4 h (by assumption)
  ·cases k
 ·intro k
  rw[if_pos (Zhw h k)]
theorem Zvo {us:List UL}(h:UVal us)(hd:(us.map absU).Pairwise Dis):NF ((nrmR us).map absU)/\∀t v,Has ((nrmR us).map absU) t v↔Has (us.map absU) t v:=by
 have hs:=h.sor
 have ha:=Zhw h hd
 have hp:=Zqz h ha
 have hok:∀u∈(Go.Vt.sor us).map absU,u.ok:=fun u hu=>by
  obtain⟨w,hw,rfl⟩:=List.mem_map.1 hu
  exact hs.v w hw
 have hall:=ZfI hs.i (Go.Vt.sor us).length (Wl _)
 have hmk:=ZjL hall _ 0 (Nat.zero_add _)
 have hparts:(atm (Go.Vt.sor us) (Go.Vt.sor us).length).map absU=partsL ((Go.Vt.sor us).map absU):=by
  have:=Zii (fun u hu=>(hs.i u hu).i) (Go.Vt.sor us).length (Wl _)
  rw[List.take_length] at this
  exact this
 rw[List.drop_zero,hparts] at hmk
 have hinv:=Inv.start (ZpE hok) (Zi7 hok hp)
 have e:nrmR us=nrm (atm (Go.Vt.sor us) (Go.Vt.sor us).length) (atm (Go.Vt.sor us) (Go.Vt.sor us).length).length:=by
  unfold nrmR allU
  rw[if_pos ha]
 rw[e]
 obtain⟨h1,h2⟩:=hmk.nf hinv
 refine⟨h1,fun t v=>?_⟩
 rw[h2,Zhg hok]
 exact ZsY ((Zfe us).map absU)
theorem ZtF {us:List UL}(h:∀u∈us,UIn u):∀v∈nrmR us,UOk v:=by
 unfold nrmR
 split
 ·exact Zhc (ZfI (fun u hu=>h u (ZeK hu)) _ (Wl _)) _ (Wl _)
 ·intro v hv
  cases hv
end
section
theorem ZtU (xs:List Zb)(j:Nat):swpRp xs j=swpG xs j:=rfl
theorem Zm0 :∀(j:Nat)(xs:List Zb),dwnRp xs j=dwnG cmpRp xs j
 |0,_=>rfl
 |j+1,xs=>by rw[dwnRp,dwnG,Zm0 j,ZtU]
theorem Zir (xs:List Zb):∀i,srtRp xs i=srtG cmpRp xs i
 |0=>rfl
 |i+1=>by rw[srtRp,srtG,Zm0,Zir xs i]
theorem ZrI {a b:Zb}(h:fldR a=fldR b):a=b:=by
 obtain⟨a1,a2,a3,a4,a5,a6,a7,a8⟩:=a
 obtain⟨b1,b2,b3,b4,b5,b6,b7,b8⟩:=b
 simp only[fldR,List.cons.injEq,and_true] at h
 obtain⟨rfl,rfl,rfl,rfl,rfl,rfl,rfl,h8⟩:=h
 cases a8 <;> cases b8 <;> simp at h8⊢
def leRp (a b:Zb):Prop:=cmpRp a b<=0
theorem ZmL {a b c:Zb}(h:leRp a b)(k:leRp b c):leRp a c:=Zil h k
theorem Zfz {a b:Zb}(h:leRp a b)(k:leRp b a):a=b:=by
 unfold leRp cmpRp at*
 rw[ZcJ] at k
 exact ZrI (ZhT (by omega))
def sorted (xs:List Zb):List Zb:=srtRp xs (xs.length-1)
theorem ZcY (xs:List Zb):(sorted xs).length=xs.length:=Zdv _ _
theorem Za2 (xs:List Zb):(sorted xs).Perm xs:=by
 unfold sorted
 rw[Zir]
 rcases Nat.eq_zero_or_pos xs.length with h|h
 ·rw[List.length_eq_zero_iff.1 h]
  exact .refl _
 ·exact Zbw _ _ _ (by omega)
theorem Zfk (xs:List Zb):(sorted xs).Pairwise leRp:=by
 refine List.pairwise_iff_getElem.2 fun p q hp hq hpq=>?_
 have hl:=ZcY xs
 rw[<-Zj hp,<-Zj hq]
 unfold sorted
 rw[Zir]
 refine ZcE (c:=cmpRp) (le:=leRp) (fun a b h=>by unfold leRp;omega) (fun a b h=>?_) (fun _ _ _=>ZmL) xs (xs.length-1) (by omega) p q hpq (by omega)
 unfold leRp cmpRp at*
 rw[ZcJ]
 omega
theorem ZeE {xs ys:List Zb}(h:xs.Perm ys):sorted xs=sorted ys:=
 Zdn (fun _ _=>Zfz) ((Za2 xs).trans (h.trans (Za2 ys).symm)) (Zfk xs) (Zfk ys)
abbrev vKs (bm:Nat):Value:= .func (.func 152) #[] [.pointer (some ⟨bm,0,none⟩)].toArray
instance ZB4 (w0:World)(L:List Blk)(b:Nat):SpecR prog w0 L 97 [.map (some b)] Nat (fun bm=>vKs bm) (fun bm=>[⟨bm,#[Value.map (some b)],177⟩]) True:=⟨fun _ w _=>by
 refine Zg Tryz.func97 rfl Tryz.ntmps97 rfl ?_
 repeat(refine wkM ?_;intros)
 rename_i bm
 exact Zy rfl rfl (fun w hw=>⟨bm,rfl,hw⟩)⟩
abbrev SqRp (l:List (Zb×Bool)):Type:=(ys:{ys:List Zb // ys.Perm (pKR l)})×SlS Zd 8 ys.1
instance ZE6 (w0:World)(L:List Blk)(bm b:Nat)(TB:TypeId)(l:List (Zb×Bool))[k1:AtC w0 L bm #[.map (some b)] TB][k2:AtO w0 L b (mRp l)]:SpecR prog w0 L 202 [.slice none 0 0,vKs bm] (SqRp l) (fun s=>vSl s.2) (fun s=>mS 35 s.2) (l.length<=1048576):=
 ⟨fun hl w hw=>Zoe bm b TB l w hl (k1.out w hw) (k2.out w hw)⟩
instance ZGk (w0:World)(L:List Blk)(bm b:Nat)(TB:TypeId)(l:List (Zb×Bool))[k1:AtC w0 L bm #[.map (some b)] TB][k2:AtO w0 L b (mRp l)]:SpecR prog w0 L 150 [vKs bm] (SqRp l) (fun s=>vSl s.2) (fun s=>mS 35 s.2) (l.length<=1048576):=⟨fun hl w hw=>by
 have f1:=FoC.mk (k1.out w hw)
 have f2:=FoO.mk (k2.out w hw)
 refine Zg Tryz.func150 rfl Tryz.ntmps150 rfl ?_
 repeat(first|(refine wkM ?_;intros)|(refine wnM ?_ ?_;(focus(exact hl));intros))
 rename_i s
 exact Zy rfl rfl (fun w hw=>⟨s,rfl,hw.sub suB⟩)⟩
instance ZEA (w0:World)(L:List Blk)(bm b:Nat)(TB:TypeId)(l:List (Zb×Bool))[k1:AtC w0 L bm #[.map (some b)] TB][k2:AtO w0 L b (mRp l)]:SpecR prog w0 L 96 [vKs bm,vFn 98] (SlS Zd 8 (sorted (pKR l))) (fun s=>vSl s) (fun s=>mS 35 s) (l.length<=12):=⟨fun hl w hw=>by
 have f1:=FoC.mk (k1.out w hw)
 have f2:=FoO.mk (k2.out w hw)
 refine Zg Tryz.func96 rfl Tryz.ntmps96 rfl ?_
 repeat(first|(refine wkM ?_;intros)|(refine wnM ?_ ?_;(focus(exact Wi hl (by decide)));intros))
 rename_i s
 obtain⟨⟨ys,hp⟩,s⟩:=s
 simp only
 have hlen:ys.length<=12:=by
  have:=hp.length_eq
  rw[Ws] at this
  omega
 refine sZ rfl rfl ⟨hlen,fun _ _=>trivial⟩ ?_
 intro s'
 repeat(refine wkM ?_;intros)
 obtain⟨s2,e1,e2⟩:=s'.1.like (ZeE hp).symm
 refine Zy rfl rfl (fun w hw=>⟨s2, ?_, ?_⟩)
 ·show Ending.returned (vSl s)=Ending.returned (vSl s2)
  rw[e1,s'.2]
 ·show Own _ (mS 35 s2) w
  rw[e2]
  exact hw.sub suB⟩
structure InkC (w0:World)(L:List Blk)(px:Nat)(l:outParam (List (Zb×Bool))):Prop where
 out:∃m1 m2 Tx,AtC w0 L px (vIn m1 m2) Tx/\AtO w0 L m1 (mRp l)/\AtO w0 L m2 (mEx [])
attribute [class] InkC
end
section
theorem Ztv (xs:List Za)(j:Nat):swpEx xs j=swpG xs j:=rfl
theorem Zmz :∀(j:Nat)(xs:List Za),dwnEx xs j=dwnG cmpEx xs j
 |0,_=>rfl
 |j+1,xs=>by rw[dwnEx,dwnG,Zmz j,Ztv]
theorem ZhX (xs:List Za):∀i,srtEx xs i=srtG cmpEx xs i
 |0=>rfl
 |i+1=>by rw[srtEx,srtG,Zmz,ZhX xs i]
def leEx (a b:Za):Prop:=cmpEx a b<=0
theorem ZuM {a b c:Za}(h:leEx a b)(k:leEx b c):leEx a c:=Zil h k
theorem Zo0 {a b:Za}(h:leEx a b)(k:leEx b a):a=b:=by
 unfold leEx cmpEx at*
 rw[ZcJ] at k
 exact Zss (ZhT (by omega))
def sortedE (xs:List Za):List Za:=srtEx xs (xs.length-1)
theorem ZgD (xs:List Za):(sortedE xs).length=xs.length:=Zds _ _
theorem ZcN (xs:List Za):(sortedE xs).Perm xs:=by
 unfold sortedE
 rw[ZhX]
 rcases Nat.eq_zero_or_pos xs.length with h|h
 ·rw[List.length_eq_zero_iff.1 h]
  exact .refl _
 ·exact Zbw _ _ _ (by omega)
theorem ZgC (xs:List Za):(sortedE xs).Pairwise leEx:=by
 refine List.pairwise_iff_getElem.2 fun p q hp hq hpq=>?_
 have hl:=ZgD xs
 rw[<-Zj hp,<-Zj hq]
 unfold sortedE
 rw[ZhX]
 refine ZcE (c:=cmpEx) (le:=leEx) (fun a b h=>by unfold leEx;omega) (fun a b h=>?_) (fun _ _ _=>ZuM) xs (xs.length-1) (by omega) p q hpq (by omega)
 unfold leEx cmpEx at*
 rw[ZcJ]
 omega
theorem ZhC {xs ys:List Za}(h:xs.Perm ys):sortedE xs=sortedE ys:=
 Zdn (fun _ _=>Zo0) ((ZcN xs).trans (h.trans (ZcN ys).symm)) (ZgC xs) (ZgC ys)
abbrev vKsE (bm:Nat):Value:= .func (.func 259) #[] [.pointer (some ⟨bm,0,none⟩)].toArray
instance ZAs (w0:World)(L:List Blk)(b:Nat):SpecR prog w0 L 206 [.map (some b)] Nat (fun bm=>vKsE bm) (fun bm=>[⟨bm,#[Value.map (some b)],178⟩]) True:=⟨fun _ w _=>by
 refine Zg Tryz.func206 rfl Tryz.ntmps206 rfl ?_
 repeat(refine wkM ?_;intros)
 rename_i bm
 exact Zy rfl rfl (fun w hw=>⟨bm,rfl,hw⟩)⟩
abbrev SqEx (l:List (Za×Bool)):Type:=(ys:{ys:List Za // ys.Perm (pKE l)})×SlS Zf 5 ys.1
instance ZDR (w0:World)(L:List Blk)(bm b:Nat)(TB:TypeId)(l:List (Za×Bool))[k1:AtC w0 L bm #[.map (some b)] TB][k2:AtO w0 L b (mEx l)]:SpecR prog w0 L 302 [.slice none 0 0,vKsE bm] (SqEx l) (fun s=>vSl s.2) (fun s=>mS 122 s.2) (l.length<=1048576):=
 ⟨fun hl w hw=>Zoa bm b TB l w hl (k1.out w hw) (k2.out w hw)⟩
instance ZEj (w0:World)(L:List Blk)(bm b:Nat)(TB:TypeId)(l:List (Za×Bool))[k1:AtC w0 L bm #[.map (some b)] TB][k2:AtO w0 L b (mEx l)]:SpecR prog w0 L 257 [vKsE bm] (SqEx l) (fun s=>vSl s.2) (fun s=>mS 122 s.2) (l.length<=1048576):=⟨fun hl w hw=>by
 have f1:=FoC.mk (k1.out w hw)
 have f2:=FoO.mk (k2.out w hw)
 refine Zg Tryz.func257 rfl Tryz.ntmps257 rfl ?_
 repeat(first|(refine wkM ?_;intros)|(refine wnM ?_ ?_;(focus(exact hl));intros))
 rename_i s
 exact Zy rfl rfl (fun w hw=>⟨s,rfl,hw.sub suB⟩)⟩
instance ZEw (w0:World)(L:List Blk)(bm b:Nat)(TB:TypeId)(l:List (Za×Bool))[k1:AtC w0 L bm #[.map (some b)] TB][k2:AtO w0 L b (mEx l)]:SpecR prog w0 L 205 [vKsE bm,vFn 207] (SlS Zf 5 (sortedE (pKE l))) (fun s=>vSl s) (fun s=>mS 122 s) (l.length<=12):=⟨fun hl w hw=>by
 have f1:=FoC.mk (k1.out w hw)
 have f2:=FoO.mk (k2.out w hw)
 refine Zg Tryz.func205 rfl Tryz.ntmps205 rfl ?_
 repeat(first|(refine wkM ?_;intros)|(refine wnM ?_ ?_;(focus(exact Wi hl (by decide)));intros))
 rename_i s
 obtain⟨⟨ys,hp⟩,s⟩:=s
 simp only
 have hlen:ys.length<=12:=by
  have:=hp.length_eq
  rw[Ws] at this
  omega
 refine sZ rfl rfl ⟨hlen,fun _ _=>trivial⟩ ?_
 intro s'
 repeat(refine wkM ?_;intros)
 obtain⟨s2,e1,e2⟩:=s'.1.like (ZhC hp).symm
 refine Zy rfl rfl (fun w hw=>⟨s2, ?_, ?_⟩)
 ·show Ending.returned (vSl s)=Ending.returned (vSl s2)
  rw[e1,s'.2]
 ·show Own _ (mS 122 s2) w
  rw[e2]
  exact hw.sub suB⟩
end
section
instance keyId :KeyC prog 133 (kA ZU) where
 chk e x w:=by kernel_rfl
 same:=Zf3 (fun x=>rfl)
 find ev l x w:=by
  obtain⟨fs,hf⟩:∃fs,prog.underlying 133=some (.struct fs):=⟨_,Tryz.underlying133⟩
  exact Zey hf (Zfd fun x y w=>(inferInstance:BinC prog .eql 133 (.agg (ZU x)) (.agg (ZU y)) (.bool (decide (x=y)))).run w) ev l x w
abbrev mWn (l:List (ZF×Zb)):Obj:=mapO (kA ZU) (kA Zd) l
instance ZGZ :MapT prog 130 (kA ZU) (kA Zd):=⟨trivial⟩
instance ZHA :UndC prog 130 (.map 133 35):=⟨by kernel_rfl⟩
instance ZKb :ZeV prog 35 (kA Zd) Zat:=Zk8 (inferInstance:ZeroC prog 35 (.agg (Zd Zat)) (Zd Zat)).out
instance ZJ4 :Inhabited (ZF×Zb):=⟨(Zcr,Zat)⟩
def idR (r:Zb):ZF:=⟨r.Object,r.Seq⟩
instance ZxL (r:Zb):SpecC prog 52 [.agg (Zd r)] (.agg (ZU (idR r))) True:=⟨fun _ w=>by
 refine Zg Tryz.func52 rfl Tryz.ntmps52 rfl ?_
 repeat(refine wkM ?_;intros)
 exact rtC rfl rfl⟩
def winS (m:List (ZF×Zb))(r:Zb):List (ZF×Zb):=
 match mget m (idR r) with
 |none=>mput m (idR r) r
 |some w=>if 0<cmpRp r w then mput m (idR r) r else m
def winR (rs:List Zb):List (ZF×Zb):=rs.foldl winS []
theorem Zqa {rs:List Zb}{m:Nat}(h:m<rs.length):winR (rs.take (m+1))=winS (winR (rs.take m)) (gi rs (m:Int)):=by
 rw[Wn h,winR,List.foldl_append,Zj h]
 rfl
set_option maxHeartbeats 4000000 in
theorem ZqY (v:Value)(rs:List Zb)(w:World)(hv:ArgS w v Zd rs)(hl:rs.length<=1048576):
  Calls prog 51 [v].toArray w (RetM Nat (fun b=> .map (some b)) (fun b=>[⟨b, .obj (mWn (winR rs)),130⟩]) w):=by
 obtain⟨p,cp,rfl⟩:=hv.form
 refine Zg Tryz.func51 rfl Tryz.ntmps51 rfl ?_
 repeat(refine wkM ?_;intros)
 rename_i b
 refine Zm (S:=Nat) (fun m=>m<=rs.length) (fun m=>[(3, .map (some b)),(9, .slice p rs.length cp),(10, .int .i64 rs.length),(11, .int .i64 (m:Nat))]) (fun m=>[⟨b, .obj (mWn (winR (rs.take m))),130⟩]) (fun m=>rs.length-m) 0 (Wm _) sbB slB (fun m hm=>?_)
 repeat(refine wkM ?_;intros)
 refine Zl rfl (fun h=>?_) (fun h=>?_)
 ·have hlt:m<rs.length:=by have:=Wa h;omega
  obtain⟨bw,ow,rfl,hrow'⟩:=hv.opn (k:=7) hlt
  have hnx:=Zqa hlt
  unfold winS at hnx
  repeat(refine wkM ?_;intros)
  cases hk:mget (winR (rs.take m)) (idR (gi rs (m:Int))) with
  |none=>
   rw[hk] at hnx
   simp only[hk,Option.isSome_none,Bool.not_false]
   repeat(refine wkM ?_;intros)
   refine jD 4 4 (h:=?_)
   (repeat(refine wkH ?_))
   refine Zn ?_
   refine Zr ?_
   repeat(refine wkM ?_;intros)
   exact Zh (m+1) hlt sbB (by rw[hnx];exact .cons _ (.cons _ (.refl _))) (by omega)
  |some wv=>
   rw[hk] at hnx
   simp only[hk,Option.isSome_some,Bool.not_true,Option.getD_some]
   repeat(first|(refine wkM ?_;intros)|(refine wnM ?_ ?_;(focus(exact⟨trivial,trivial⟩));intros))
   by_cases hc:0<cmpRp (gi rs (m:Int)) wv
   ·simp only[if_pos hc] at hnx
    simp only[Wc hc]
    repeat(refine wkM ?_;intros)
    refine jD 4 4 (h:=?_)
    (repeat(refine wkH ?_))
    refine Zn ?_
    refine Zr ?_
    repeat(refine wkM ?_;intros)
    exact Zh (m+1) hlt sbB (by rw[hnx];exact .cons _ (.cons _ (.refl _))) (by omega)
   ·simp only[if_neg hc] at hnx
    simp only[We hc]
    repeat(refine wkM ?_;intros)
    exact Zh (m+1) hlt sbB (by rw[hnx];exact .cons _ (.cons _ (.refl _))) (by omega)
 ·have hge:m=rs.length:=by have:=Wb h;omega
  subst hge
  rw[List.take_length]
  repeat(refine wkM ?_;intros)
  exact Zy rfl rfl (fun w hw=>⟨b,rfl,hw⟩)
instance ZJv (w0:World)(L:List Blk)(v:Value)(rs:List Zb)[h:LstC w0 L v Zb Zd rs]:SpecR prog w0 L 51 [v] Nat (fun b=> .map (some b)) (fun b=>[⟨b, .obj (mWn (winR rs)),130⟩]) (rs.length<=1048576):=⟨fun hl w hw=>ZqY v rs w (h.out w hw) hl⟩
end
section
instance ZJ6 :BsC prog 37 0 [] (row Zd [] []) 35:=⟨fun w=>by kernel_rfl⟩
theorem Zkc (v:Value)(us:List Zb)(w:World)(hv:ArgS w v Zd us)(hn:us=[]->v= .slice none 0 0)(hl:us.length<=1048576):
  Calls prog 210 [v].toArray w (RetM (SlS Zd 8 us) (fun s=>vSl s) (fun s=>mS 35 s) w):=by
 by_cases h0:us=[]
 ·obtain rfl:=hn h0
  subst h0
  refine Zg Tryz.func210 rfl Tryz.ntmps210 rfl ?_
  repeat(refine wkM ?_;intros)
  exact Zy rfl rfl (fun w hw=>⟨SlS.no,rfl,hw⟩)
 ·obtain⟨bw,ow,cw,rfl,hcw,hrow⟩:=hv.blk (k:=7) h0 []
  have hrow':∀L,RowC w L bw ow Zb Zd us:=fun L=>⟨fun w' hw'=>hrow.out w' (hw'.sub (Wk _))⟩
  refine Zg Tryz.func210 rfl Tryz.ntmps210 rfl ?_
  repeat(refine wkM ?_;intros)
  refine sG rfl rfl ?_ h0 ?_ ?_ ?_ ?_ ?_
  ·rfl
  ·rfl
  ·rfl
  ·decide
  ·exact⟨by omega,by omega⟩
  intro s'
  repeat(refine wkM ?_;intros)
  exact Zy rfl rfl (fun w hw=>⟨s',rfl,hw.sub suB⟩)
instance Zys (w0:World)(L:List Blk)(v:Value)(us:List Zb)[h:LstN w0 L v Zb Zd us]:SpecR prog w0 L 210 [v] (SlS Zd 8 us) (fun s=>vSl s) (fun s=>mS 35 s) (us.length<=1048576):=⟨fun hl w hw=>Zkc v us w (h.out w hw) h.nil hl⟩
def Apart (xs:List Zb):Prop:=∀i:Nat,i+1<xs.length->gi xs ((i+1:Nat):Int)≠gi xs (i:Int)
theorem Zh9 (v:Value)(us:List Zb)(w:World)(hv:ArgS w v Zd us)(ha:Apart us)(hl:us.length<=1048576):
  Calls prog 211 [v].toArray w (Ret v w):=by
 obtain⟨p,cp,rfl⟩:=hv.form
 refine Zg Tryz.func211 rfl Tryz.ntmps211 rfl ?_
 repeat(refine wkM ?_;intros)
 by_cases h2:us.length<2
 ·simp only[Wc (show(us.length:Int)<2 by omega)]
  repeat(refine wkM ?_;intros)
  exact rtT rfl rfl
 ·simp only[We (show¬(us.length:Int)<2 by omega)]
  repeat(refine wkM ?_;intros)
  refine Zm (S:=Nat) (fun m=>m+1<=us.length) (fun m=>[(0, .slice p us.length cp),(3, .int .i64 ((m+1:Nat)))]) (fun _=>[]) (fun m=>us.length-m) 0 (by omega) sbB slB (fun m hm=>?_)
  repeat(refine wkM ?_;intros)
  refine Zl rfl (fun h=>?_) (fun h=>?_)
  ·have hlt:m+1<us.length:=by have:=Wa h;omega
   have hne:us≠[]:=fun h0=>by rw[h0] at hlt;simp at hlt
   obtain⟨bw,ow,cw,hvw,hcw,hrow⟩:=hv.blk (k:=7) hne []
   injection hvw with e1 e2 e3
   subst e1
   subst e3
   have hrow':∀L,RowC w L bw ow Zb Zd us:=fun L=>⟨fun w' hw'=>hrow.out w' (hw'.sub (Wk _))⟩
   have hap:=ha m hlt
   have e1:((m+1:Nat):Int)-1=(m:Int):=by omega
   repeat(refine wkM ?_;intros)
   refine jD 10 10 (h:=?_)
   (repeat(refine wkH ?_))
   simp only[e1]
   (repeat(refine wkH ?_))
   refine Zn ?_
   refine Zr ?_
   simp only[We hap]
   repeat(refine wkO ?_;intros)
   exact Zh (m+1) (by omega) sbB slB (by omega)
  ·repeat(refine wkM ?_;intros)
   exact rtT rfl rfl
instance ZwL (w0:World)(L:List Blk)(v:Value)(us:List Zb)[h:LstC w0 L v Zb Zd us]:SpecM prog w0 L 211 [v] v (Apart us/\us.length<=1048576):=⟨fun hp w hw=>Zh9 v us w (h.out w hw) hp.1 hp.2⟩
theorem Zj3 {xs:List Zb}(h:xs.Nodup):Apart (sorted xs):=fun i hi e=>by
 have hn:(sorted xs).Nodup:=(Za2 xs).nodup_iff.2 h
 rw[Zj hi,Zj (by omega)] at e
 have:=(List.getElem_inj hn).1 e
 omega
instance ZJs (w0:World)(L:List Blk)(v:Value)(us:List Zb)[h:LstN w0 L v Zb Zd us]:SpecR prog w0 L 162 [v] (SlS Zd 8 (sorted us)) (fun s=>vSl s) (fun s=>mS 35 s) (us.length<=12/\us.Nodup):=⟨fun hp w hw=>by
 have:=LstN.mk (w0:=w) (L:=[]) (fun w' hw'=>(h.out w hw).to hw'.ext) h.nil
 have hsl:=ZcY us
 have hp12:=hp.1
 refine Zg Tryz.func162 rfl Tryz.ntmps162 rfl ?_
 repeat(first|(refine wkM ?_;intros)|(refine wnM ?_ ?_;(focus(exact Wi hp.1 (by decide)));intros))
 rename_i s
 refine sZ rfl rfl ⟨hp.1,fun _ _=>trivial⟩ ?_
 intro s'
 obtain⟨s',e⟩:=s'
 simp only
 have e0:sorted us=srtRp us (us.length-1):=rfl
 rw[<-e]
 repeat(first|(refine wkM ?_;intros)|(refine wnM ?_ ?_;(focus(exact⟨by rw[<-e0];exact Zj3 hp.2,by rw[<-e0];omega⟩));intros))
 exact Zy rfl rfl (fun w hw=>⟨s',rfl,hw.sub suB⟩)⟩
end
section
theorem Zeg {κ α:Type}[DecidableEq κ]{x:κ}{v:α}:∀{l:List (κ×α)} {p:κ×α},p∈mput l x v->p∈l\/p=(x,v)
 |[],p,h=>by
  simp only[mput,Wo] at h
  exact .inr h
 |q::l,p,h=>by
  simp only[mput] at h
  split at h
  ·rcases List.mem_cons.1 h with h|h
   ·exact .inr h
   ·exact .inl (.tail _ h)
  ·rcases List.mem_cons.1 h with h|h
   ·exact .inl (by rw[h];exact .head _)
   ·rcases Zeg h with h|h
    ·exact .inl (.tail _ h)
    ·exact .inr h
theorem Zf5 {κ α:Type}[DecidableEq κ]{x:κ}{v:α}:∀(l:List (κ×α)),(mput l x v).map (·.1)=l.map (·.1)\/(x∉l.map (·.1)/\(mput l x v).map (·.1)=l.map (·.1)++[x])
 |[]=> .inr ⟨by simp,rfl⟩
 |q::l=>by
  simp only[mput]
  split
  ·rename_i h
   exact .inl (by simp[h])
  ·rename_i h
   rcases Zf5 (x:=x) (v:=v) l with h1|⟨h1,h2⟩
   ·exact .inl (by simp only[List.map_cons,h1])
   ·exact .inr ⟨by simp only[List.map_cons,Ww,not_or];exact⟨h,h1⟩,by simp only[List.map_cons,h2,Wf]⟩
structure WinOk (n:Nat)(m:List (ZF×Zb)):Prop where
 nd:(m.map (·.1)).Nodup
 id:∀p∈m,idR p.2=p.1
 len:m.length<=n
theorem Zmn {n:Nat}{m:List (ZF×Zb)}(h:WinOk n m)(r:Zb):WinOk (n+1) (mput m (idR r) r):=by
 refine⟨?_,fun p hp=>?_, ?_⟩
 ·rcases Zf5 (x:=idR r) (v:=r) m with h1|⟨h1,h2⟩
  ·rw[h1];exact h.nd
  ·rw[h2]
   exact List.nodup_append.2 ⟨h.nd,by simp,fun a ha b hb=>by rw[Wo] at hb;rintro rfl;exact h1 (hb▸ha)⟩
 ·rcases Zeg hp with h1|rfl
  ·exact h.id p h1
  ·rfl
 ·have:=ZeZ m (idR r) r
  have:=h.len
  omega
theorem Zga (rs:List Zb):WinOk rs.length (winR rs):=by
 have key:∀(rs:List Zb)(n:Nat)(m:List (ZF×Zb)),WinOk n m->WinOk (n+rs.length) (rs.foldl winS m):=by
  intro rs
  induction rs with
  |nil=>intro n m h;exact h
  |cons r rs ih=>
   intro n m h
   rw[List.foldl_cons,Wu,show n+(rs.length+1)=n+1+rs.length by omega]
   refine ih _ _ ?_
   have hw:WinOk (n+1) m:=⟨h.nd,h.id,Nat.le_succ_of_le h.len⟩
   unfold winS
   split
   ·exact Zmn h r
   ·split
    ·exact Zmn h r
    ·exact hw
 have:=key rs 0 [] ⟨List.nodup_nil,(fun p h=>by cases h),Wl _⟩
 rwa [Nat.zero_add] at this
def cntL (q:List (ZF×Zb)):List Zb:=(q.map (·.2)).filter fun r=> !r.Cancel
theorem ZqE (q:List (ZF×Zb))(p:ZF×Zb):cntL (q++[p])=if p.2.Cancel then cntL q else cntL q++[p.2]:=by
 unfold cntL
 rw[List.map_append,List.filter_append]
 cases h:p.2.Cancel <;> simp[h]
theorem ZkH (q:List (ZF×Zb)):(cntL q).length<=q.length:=by
 have:=List.length_filter_le (fun r:Zb=> !r.Cancel) (q.map (·.2))
 rw[Ws] at this
 exact this
theorem Zp0 {q q':List (ZF×Zb)}(h:q.Perm q'):(cntL q).Perm (cntL q'):=(h.map _).filter _
theorem Zhz {n:Nat}{q:List (ZF×Zb)}(h:WinOk n q):(cntL q).Nodup:=by
 refine List.Pairwise.filter _ ?_
 have e:(q.map (·.2)).map idR=q.map (·.1):=by
  rw[List.map_map]
  exact List.map_congr_left fun p hp=>h.id p hp
 have:=h.nd
 rw[<-e] at this
 exact List.Pairwise.of_map idR (fun a b hab he=>hab (congrArg idR he)) this
def cntR (rs:List Zb):List Zb:=sorted (cntL (winR rs))
set_option maxHeartbeats 4000000 in
theorem Zjl (v:Value)(rs:List Zb)(w:World)(hv:ArgS w v Zd rs)(hl:rs.length<=12):
  Calls prog 103 [v].toArray w (RetM (SlS Zd 8 (cntR rs)) (fun s=>vSl s) (fun s=>mS 35 s) w):=by
 have:=ArgC.mk hv
 have hW:=Zga rs
 have hwl:=hW.len
 refine Zg Tryz.func103 rfl Tryz.ntmps103 rfl ?_
 repeat(first|(refine wkM ?_;intros)|(refine wnM ?_ ?_;(focus(exact Wi hl (by decide)));intros))
 rename_i b r
 have hcr:cntR rs=sorted (cntL (winR rs)):=rfl
 generalize winR rs=W at*
 refine Zm (S:=(s:List Nat)×SlS Zd 8 (cntL (seenL W s))) (fun q=>SeenOk W.length q.1) (fun q=>[(3,vSl q.2),(8, .pointer (some ⟨r,0,none⟩))]) (fun q=>mS 35 q.2++[⟨r, .obj (itO b W.length q.1),130⟩,⟨b, .obj (mWn W),130⟩]) (fun q=>W.length-q.1.length) ⟨[],SlS.no⟩ ⟨List.nodup_nil,fun i hi=>by cases hi⟩ sbB slB (fun q hs=>?_)
 obtain⟨s,o⟩:=q
 simp only at hs⊢
 have hlen:=ZaR hs.nd hs.lt
 have hcl:=ZkH (seenL W s)
 rw[Zek W hs.lt] at hcl
 refine cX ?_
 refine cX ?_
 refine sNx rfl rfl rfl (fun hall=>?h0) (fun i hi hni=>?h1)
 case h0=>
  have hp:(cntL (seenL W s)).Perm (cntL W):=Zp0 (Zci hs.nd hs.lt hall)
  repeat(first|(refine wkM ?_;intros)|(refine wnM ?_ ?_;(focus(exact⟨by omega,hp.nodup_iff.2 (Zhz hW)⟩));intros))
  rename_i s2
  obtain⟨s3,e1,e2⟩:=s2.like (hcr.trans (ZeE hp).symm)
  refine Zy rfl rfl (fun w hw=>⟨s3, ?_, ?_⟩)
  ·show Ending.returned (vSl s2)=Ending.returned (vSl s3)
   rw[e1]
  ·show Own _ (mS 35 s3) w
   rw[e2]
   exact hw.sub suB
 case h1=>
  have hs':=hs.snoc hi hni
  have hlen':=ZaR hs'.nd hs'.lt
  rw[Wp,List.length_singleton] at hlen'
  have hnx:cntL (seenL W (s++[i]))=if(gi W (i:Int)).2.Cancel then cntL (seenL W s) else cntL (seenL W s)++[(gi W (i:Int)).2]:=by
   rw[ZbS _ _ _ hi,ZqE,Zj hi]
  repeat(refine wkM ?_;intros)
  cases hc:(gi W (i:Int)).2.Cancel
  ·simp only[hc,Bool.not_false]
   rw[if_neg (by rw[hc];decide)] at hnx
   repeat(refine wkM ?_;intros)
   refine sU rfl rfl ?_ ?_ ?_ ?_
   ·rfl
   ·rfl
   ·exact⟨by decide,by omega,by omega⟩
   intro s'
   repeat(refine wkM ?_;intros)
   obtain⟨s3,e1,e2⟩:=SlS.turn 35 hnx.symm s'
   exact Zh ⟨s++[i],s3⟩ hs' (by simp only[e1];exact sbB) (by simp only[e2];exact suB) (by simp only[Wp,List.length_singleton];omega)
  ·simp only[hc,Bool.not_true]
   rw[if_pos hc] at hnx
   repeat(refine wkM ?_;intros)
   obtain⟨s3,e1,e2⟩:=SlS.turn 35 hnx.symm o
   exact Zh ⟨s++[i],s3⟩ hs' (by simp only[e1];exact sbB) (by simp only[e2];exact suB) (by simp only[Wp,List.length_singleton];omega)
instance Zxu (w0:World)(L:List Blk)(v:Value)(rs:List Zb)[h:LstC w0 L v Zb Zd rs]:SpecR prog w0 L 103 [v] (SlS Zd 8 (cntR rs)) (fun s=>vSl s) (fun s=>mS 35 s) (rs.length<=12):=⟨fun hl w hw=>Zjl v rs w (h.out w hw) hl⟩
abbrev vOf (b:Nat):Value:= .func (.func 104) #[] [.pointer (some ⟨b,0,none⟩)].toArray
end
section
instance keyI64 :KeyC prog 3 (Value.int .i64):=Zrb (by kernel_rfl)
instance ZJY :MapT prog 383 (Value.int .i64) Value.bool:=⟨trivial⟩
instance ZI7 :UndC prog 383 (.map 3 4):=⟨by kernel_rfl⟩
instance ZIP (m:Option Nat):LdC prog 383 #[.map m] 0 (.map m):=⟨ZC⟩
instance ZC2 :CallC prog 305:=⟨by kernel_rfl⟩
instance ZBt :CallC prog 306:=⟨by kernel_rfl⟩
instance ZFv :CallC prog 333:=⟨by kernel_rfl⟩
instance ZFq :CallC prog 334:=⟨by kernel_rfl⟩
instance ZEP :CallC prog 355:=⟨by kernel_rfl⟩
end
section
abbrev vKsI (bm:Nat):Value:= .func (.func 307) #[] [.pointer (some ⟨bm,0,none⟩)].toArray
instance ZFZ (w0:World)(L:List Blk)(b:Nat):SpecR prog w0 L 265 [.map (some b)] Nat (fun bm=>vKsI bm) (fun bm=>[⟨bm,#[Value.map (some b)],383⟩]) True:=⟨fun _ w _=>by
 refine Zg Tryz.func265 rfl Tryz.ntmps265 rfl ?_
 repeat(refine wkM ?_;intros)
 rename_i bm
 exact Zy rfl rfl (fun w hw=>⟨bm,rfl,hw⟩)⟩
end
section
abbrev vTm (x:Zc):Value:= .agg (ZL (ZJ x))
def TmOk (x:Zc):Prop:=M x.T<=8589934592
def cmpTm (a b:Zc):Int:=orL [cq a.T b.T,Lib.compareInt a.Report.Seq b.Report.Seq]
instance ZCN (a b:Zc):SpecC prog 157 [vTm a,vTm b] (.int .i64 (cmpTm a b)) (TmOk a/\TmOk b):=⟨fun hp w=>by
 obtain⟨h1,h2⟩:=hp
 unfold TmOk at h1 h2
 refine Zg Tryz.func157 rfl Tryz.ntmps157 rfl ?_
 repeat(refine wkB ?_;intros)
 rename_i b2 b3
 (refine Zfb [([0,1,2,3,4,5,6,7,8,9,10,11],[12,13,14])] ([⟨b3,Zi b,56⟩,⟨b2,Zi a,56⟩]) (h:=?_);refine wkP ?_)
 (repeat(first|refine wkH ?_|(refine tC rfl rfl ?_ ?_;focus(first|exact trivial|exact⟨Wi h1 (by decide),Wi h2 (by decide)⟩))))
 repeat(first|(refine wkT ?_;intros)|(refine tC rfl rfl ?_ ?_;focus(exact⟨rfl,by decide⟩))|(refine uC rfl rfl ?_ ?_;focus(exact⟨rfl,by decide⟩))|(refine eN rfl rfl ?_ ?_;(focus(exact⟨rfl,by decide⟩));intro _;(try simp only[Wf,Wg,Wh])))
 repeat(refine wkB ?_;intros)
 exact rtT rfl rfl⟩
def swpTm (xs:List Zc)(j:Nat):List Zc:=(xs.set (j+1) (gi xs (j:Int))).set j (gi xs ((j+1:Nat):Int))
def dwnTm (xs:List Zc):Nat->List Zc
 |0=>xs
 |j+1=>if cmpTm (gi xs ((j+1:Nat):Int)) (gi xs (j:Int))<0 then dwnTm (swpTm xs j) j else xs
def srtTm (xs:List Zc):Nat->List Zc
 |0=>xs
 |i+1=>dwnTm (srtTm xs i) (i+1)
theorem ZfZ (xs:List Zc)(j:Nat):(swpTm xs j).length=xs.length:=by simp[swpTm]
theorem Ziz {xs:List Zc}{j:Nat}(h:j+1<xs.length){u:Zc}(hu:u∈swpTm xs j):u∈xs:=by
 unfold swpTm at hu
 rcases List.mem_or_eq_of_mem_set hu with h1|h1
 ·rcases List.mem_or_eq_of_mem_set h1 with h2|h2
  ·exact h2
  ·rw[h2,Zj (by omega)]
   exact List.getElem_mem _
 ·rw[h1,Zj h]
  exact List.getElem_mem _
theorem ZiI :∀(j:Nat)(xs:List Zc),(dwnTm xs j).length=xs.length
 |0,_=>rfl
 |j+1,xs=>by
  rw[dwnTm]
  split
  ·rw[ZiI j,ZfZ]
  ·rfl
theorem ZiH :∀(j:Nat)(xs:List Zc),j<xs.length->∀u∈dwnTm xs j,u∈xs
 |0,_,_,_,h=>h
 |j+1,xs,hj,u,h=>by
  rw[dwnTm] at h
  split at h
  ·exact Ziz hj (ZiH j _ (by rw[ZfZ];omega) u h)
  ·exact h
theorem ZcK (xs:List Zc):∀i,(srtTm xs i).length=xs.length
 |0=>rfl
 |i+1=>by rw[srtTm,ZiI,ZcK xs i]
theorem ZfD (xs:List Zc):∀i,i<xs.length->∀u∈srtTm xs i,u∈xs
 |0,_,_,h=>h
 |i+1,hi,u,h=>by
  rw[srtTm] at h
  exact ZfD xs i (by omega) u (ZiH _ _ (by rw[ZcK];exact hi) u h)
theorem Zou (w0 w:World)(L1:List Blk)(b c n:Nat)(xs:List Zc)(sp:List Value)(T:TypeId)(hn:xs.length=n)(hl:n<=1048576)(hok:∀u∈xs,TmOk u)(hw:Own w0 (⟨b,row Zi xs sp,T⟩::L1) w):
  Calls prog 260 [.slice (some ⟨b,0,none⟩) n c, .int .i64 0, .int .i64 n,vFn 157].toArray w (RetX w0 Unit (fun _=> .tuple #[]) (fun _=>⟨b,row Zi (srtTm xs (n-1)) sp,T⟩::L1)):=by
 refine ZY Tryz.func260 rfl Tryz.ntmps260 rfl hw ?_
 repeat(refine wkB ?_;intros)
 refine Zm (S:=Nat) (fun m=>m<=n-1) (fun m=>[(0, .slice (some ⟨b,0,none⟩) n c),(1, .int .i64 0),(2, .int .i64 n),(3,vFn 157),(8, .int .i64 ((m+1:Nat)))]) (fun m=>⟨b,row Zi (srtTm xs m) sp,T⟩::L1) (fun m=>n-1-m) 0 (Wm _) sbB slB (fun m hm=>?_)
 have hsl:=ZcK xs m
 repeat(refine wkB ?_;intros)
 refine Zl rfl (fun h=>?_) (fun h=>?_)
 ·have hlt:m+1<n:=by have:=Wa h;omega
  have hmem:=ZfD xs m (by omega)
  repeat(refine wkB ?_;intros)
  refine Zm (S:=Nat×List Zc) (fun s=>dwnTm s.2 s.1=srtTm xs (m+1)/\s.2.length=n/\s.1<=m+1/\∀u∈s.2,TmOk u) (fun s=>[(0, .slice (some ⟨b,0,none⟩) n c),(1, .int .i64 0),(2, .int .i64 n),(3,vFn 157),(8, .int .i64 ((m+1:Nat))),(9, .int .i64 ((s.1:Nat)))]) (fun s=>⟨b,row Zi s.2 sp,T⟩::L1) (fun s=>s.1) (m+1,srtTm xs m)
   ⟨rfl,by show(srtTm xs m).length=n;omega,Wl _,fun u hu=>hok u (hmem u hu)⟩ sbB slB (fun s hs=>?_)
  obtain⟨j,ys⟩:=s
  obtain⟨g1,g2,g3,g4⟩:=hs
  simp only at g1 g2 g3 g4⊢
  repeat(refine wkB ?_;intros)
  rcases j with _|j
  ·(refine jD 17 17 (h:=?_);(repeat(refine wkH ?_));refine Zn ?_;(repeat(refine Z4 ?_;intro _));refine Zr ?_)
   repeat(refine wkB ?_;intros)
   exact Zh (m+1) (by omega) sbB (by rw[<-g1];exact Wj _) (by omega)
  ·have hj1:((j:Int)).toNat<ys.length:=by omega
   have hj2:(((j+1:Nat):Int)).toNat<ys.length:=by omega
   have e1:((j+1:Nat):Int)-1=(j:Int):=by omega
   have o1:=g4 _ (by rw[Zj (show j<ys.length by omega)];exact List.getElem_mem _:gi ys (j:Int)∈ys)
   have o2:=g4 _ (by rw[Zj (show j+1<ys.length by omega)];exact List.getElem_mem _:gi ys ((j+1:Nat):Int)∈ys)
   rw[dwnTm] at g1
   refine jD 17 17 (h:=?_)
   (repeat(refine wkH ?_))
   simp only[Wc (show(0:Int)<((j+1:Nat):Int) by omega),e1]
   (repeat(refine wkH ?_))
   simp only[e1]
   (repeat(first|refine wkH ?_|(refine tC rfl rfl ?_ ?_;focus(exact⟨o2,o1⟩))))
   refine Zn ?_
   refine Zr ?_
   repeat(refine wkB ?_;intros)
   by_cases hc:cmpTm (gi ys ((j+1:Nat):Int)) (gi ys (j:Int))<0
   ·rw[if_pos hc] at g1
    simp only[Wc hc]
    repeat(refine wkB ?_;intros)
    (refine Zfc [(true,[0,1,2,3,4,5,6,7,8]),(false,[9]),(true,[10,11,12]),(false,[13]),(true,[14])] [15,16,17] (h:=?_);refine wkS ?_)
    (repeat(refine wkH ?_))
    simp only[e1]
    refine Zn ?_
    refine eR rfl ?_ ?_
    ·omega
    refine uS rfl rfl ?_ ?_
    ·omega
    refine eR rfl ?_ ?_
    ·rw[List.length_set];omega
    refine Zba ?_
    simp only[Int.toNat_natCast]
    repeat(first|(refine wkB ?_;intros)|(refine wnM ?_ ?_;(focus(exact⟨by omega,by omega⟩));intros))
    simp only[e1]
    exact Zh (j,swpTm ys j) ⟨g1,by rw[ZfZ];exact g2,by omega,fun u hu=>g4 u (Ziz (by omega) hu)⟩ sbB slB (by show j<j+1;omega)
   ·rw[if_neg hc] at g1
    simp only[We hc]
    repeat(first|(refine wkB ?_;intros)|(refine wnM ?_ ?_;(focus(exact⟨by omega,by omega⟩));intros))
    exact Zh (m+1) (by omega) sbB (by rw[<-g1];exact Wj _) (by omega)
 ·have hge:m=n-1:=by have:=Wb h;omega
  subst hge
  repeat(refine wkB ?_;intros)
  exact Zaj rfl (fun w hw=>⟨(),rfl,hw⟩)
abbrev SrtSTm (xs:List Zc)(s:SlS Zi 12 xs):Type:={s':SlS Zi 12 (srtTm xs (xs.length-1)) // vSl s'=vSl s}
theorem ZlG (w0 w:World)(L L1:List Blk)(xs:List Zc)(s:SlS Zi 12 xs)(T:TypeId)[hd:OwnS T s L L1](hl:xs.length<=1048576)(hok:∀u∈xs,TmOk u)(hw:Own w0 L w):
  Calls prog 260 [vSl s, .int .i64 0, .int .i64 xs.length,vFn 157].toArray w (RetX w0 (SrtSTm xs s) (fun _=> .tuple #[]) (fun s'=>mS T s'.1++L1)):=by
 have hw1:=hw.perm hd.out
 rcases s.cases T with⟨rfl,hv,hm⟩|⟨b,c,sp,h1,hv,hm,hne⟩
 ·suffices h:Calls prog 260 [.slice none 0 0, .int .i64 0, .int .i64 (([]:List Zc).length:Nat),vFn 157].toArray w (RetX w0 (SrtSTm [] s) (fun _=> .tuple #[]) (fun s'=>mS T s'.1++L1)) by
   rw[<-hv] at h
   exact h
  refine ZY Tryz.func260 rfl Tryz.ntmps260 rfl hw1 ?_
  repeat(refine wkB ?_;intros)
  refine Zm (S:=Unit) (fun _=>True) (fun _=>[(2, .int .i64 (([]:List Zc).length:Nat)),(8, .int .i64 1)]) (fun _=>mS T s++L1) (fun _=>0) () trivial sbB slB (fun _ _=>?_)
  repeat(refine wkB ?_;intros)
  simp only[We (show¬(1:Int)<((([]:List Zc).length:Nat):Int) by simp)]
  repeat(refine wkB ?_;intros)
  exact Zaj rfl (fun w hw=>⟨⟨s,rfl⟩,rfl,hw⟩)
 ·suffices h:Calls prog 260 [.slice (some ⟨b,0,none⟩) xs.length c, .int .i64 0, .int .i64 xs.length,vFn 157].toArray w (RetX w0 (SrtSTm xs s) (fun _=> .tuple #[]) (fun s'=>mS T s'.1++L1)) by
   rw[<-hv] at h
   exact h
  rw[hm] at hw1
  have hsl:=ZcK xs (xs.length-1)
  refine(Zou w0 w L1 b c xs.length xs sp T rfl hl hok hw1).mono fun e w' ⟨_,he,hw'⟩=>?_
  exact⟨⟨SlS.at_ b c sp (by rw[hsl];exact h1) (fun h0=>hne (List.length_eq_zero_iff.1 (by rw[h0,Wx] at hsl;exact hsl.symm))),by rw[hv];show Value.slice _ (srtTm xs (xs.length-1)).length c=_;rw[hsl]⟩,he,hw'⟩
instance ZDX (w0:World)(L L1:List Blk)(xs:List Zc)(s:SlS Zi 12 xs)(T:TypeId)[hd:OwnS T s L L1]:SpecX prog w0 L 260 [vSl s, .int .i64 0, .int .i64 xs.length,vFn 157] (SrtSTm xs s) (fun _=> .tuple #[]) (fun s'=>mS T s'.1++L1) (xs.length<=1048576/\∀u∈xs,TmOk u):=⟨fun hp w hw=>ZlG w0 w L L1 xs s T hp.1 hp.2 hw⟩
theorem Zjn (w0 w:World)(L L1:List Blk)(xs:List Zc)(s:SlS Zi 12 xs)(T:TypeId)[hd:OwnS T s L L1](hl:xs.length<=19)(hok:∀u∈xs,TmOk u)(hw:Own w0 L w):
  Calls prog 208 [vSl s, .int .i64 xs.length,vFn 157].toArray w (RetX w0 (SrtSTm xs s) (fun _=> .tuple #[]) (fun s'=>mS T s'.1++L1)):=by
 refine ZY Tryz.func208 rfl Tryz.ntmps208 rfl hw ?_
 repeat(refine wkB ?_;intros)
 refine Zm (S:=Unit) (fun _=>True) (fun _=>[(0,vSl s),(1, .int .i64 xs.length),(2,vFn 157),(6, .int .i64 20),(7, .int .i64 0),(8, .int .i64 20)]) (fun _=>L) (fun _=>0) () trivial sbB slB (fun _ _=>?_)
 repeat(refine wkB ?_;intros)
 simp only[We (show¬(20:Int)<=(xs.length:Int) by omega)]
 repeat(refine wkB ?_;intros)
 refine sZ rfl rfl ?_ ?_
 ·exact⟨by omega,hok⟩
 intro s'
 repeat(refine wkB ?_;intros)
 refine Zm (S:=Unit) (fun _=>True) (fun _=>[(1, .int .i64 xs.length),(6, .int .i64 20)]) (fun _=>mS T s'.1++L1) (fun _=>0) () trivial sbB slB (fun _ _=>?_)
 repeat(refine wkB ?_;intros)
 simp only[We (show¬(20:Int)<(xs.length:Int) by omega)]
 repeat(refine wkB ?_;intros)
 exact Zaj rfl (fun w hw=>⟨s',rfl,hw⟩)
instance Zw6 (w0:World)(L L1:List Blk)(xs:List Zc)(s:SlS Zi 12 xs)(T:TypeId)[hd:OwnS T s L L1]:SpecX prog w0 L 208 [vSl s, .int .i64 xs.length,vFn 157] (SrtSTm xs s) (fun _=> .tuple #[]) (fun s'=>mS T s'.1++L1) (xs.length<=19/\∀u∈xs,TmOk u):=⟨fun hp w hw=>Zjn w0 w L L1 xs s T hp.1 hp.2 hw⟩
theorem Zgz (w0 w:World)(L L1:List Blk)(xs:List Zc)(s:SlS Zi 12 xs)(T:TypeId)[hd:OwnS T s L L1](hl:xs.length<=19)(hok:∀u∈xs,TmOk u)(hw:Own w0 L w):
  Calls prog 156 [vSl s,vFn 157].toArray w (RetX w0 (SrtSTm xs s) (fun _=> .tuple #[]) (fun s'=>mS T s'.1++L1)):=by
 refine ZY Tryz.func156 rfl Tryz.ntmps156 rfl hw ?_
 repeat(refine wkB ?_;intros)
 refine sZ rfl rfl ?_ ?_
 ·exact⟨hl,hok⟩
 intro s'
 repeat(refine wkB ?_;intros)
 exact Zaj rfl (fun w hw=>⟨s',rfl,hw⟩)
instance Zs0 (w0:World)(L L1:List Blk)(xs:List Zc)(s:SlS Zi 12 xs)(T:TypeId)[hd:OwnS T s L L1]:SpecX prog w0 L 156 [vSl s,vFn 157] (SrtSTm xs s) (fun _=> .tuple #[]) (fun s'=>mS T s'.1++L1) (xs.length<=19/\∀u∈xs,TmOk u):=⟨fun hp w hw=>Zgz w0 w L L1 xs s T hp.1 hp.2 hw⟩
end
end Go.Vt
