/- For any up to 8 stretches, Normal returns the normal form of their units in any order, if no two have an instant in common, and ErrOverlap otherwise. Conditions: none. (part 20 of 28.) Conditions: those that each statement names. -/
import Derived.Test.YtcgkgdgpdpihmaaGreatDoorProg
import Derived.Test.YtcgkgdgpdpihmaaGreatDoorKZ15
import Derived.Test.YtcgkgdgpdpihmaaGreatDoorKZ19
set_option linter.unusedSimpArgs false
set_option linter.unusedVariables false
set_option maxHeartbeats 2000000
set_option maxRecDepth 100000
set_option linter.unusedSectionVars false
namespace Go.Vt
open Go.RowKit Go.Proofs
open Go.Proofs.Tryz (prog)
section
open Fv (va red)
section
variable {α : Type} [Inhabited α]
def swpG (xs:List α)(j:Nat):List α:=(xs.set (j+1) (gi xs (j:Int))).set j (gi xs ((j+1:Nat):Int))
def dwnG (c:α->α->Int)(xs:List α):Nat->List α
 |0=>xs
 |j+1=>if c (gi xs ((j+1:Nat):Int)) (gi xs (j:Int))<0 then dwnG c (swpG xs j) j else xs
def srtG (c:α->α->Int)(xs:List α):Nat->List α
 |0=>xs
 |i+1=>dwnG c (srtG c xs i) (i+1)
theorem ZcQ (xs:List α)(j:Nat):(swpG xs j).length=xs.length:=by simp[swpG]
theorem ZfF {xs:List α}{j p:Nat}(h:j+1<xs.length)(hp:p<xs.length):gi (swpG xs j) (p:Int)=if p=j then gi xs ((j+1:Nat):Int) else if p=j+1 then gi xs (j:Int) else gi xs (p:Int):=by
 rw[Zr (by rw[ZcQ];exact hp)]
 unfold swpG
 rw[List.getElem_set,List.getElem_set]
 by_cases h1:p=j
 ·subst h1;simp
 ·rw[if_neg (fun h=>h1 h.symm),if_neg h1]
  by_cases h2:p=j+1
  ·subst h2;simp
  ·rw[if_neg (fun h=>h2 h.symm),if_neg h2,Zr hp]
theorem Zlu {xs:List α}{j:Nat}(h:j+1<xs.length):(swpG xs j).Perm xs:=by
 have e:xs=xs.take j++xs[j]::xs[j+1]::xs.drop (j+2):=by
  rw[<-List.drop_eq_getElem_cons h,<-List.drop_eq_getElem_cons (by omega),List.take_append_drop]
 have e2:swpG xs j=xs.take j++xs[j+1]::xs[j]::xs.drop (j+2):=by
  apply List.ext_getElem
  ·rw[ZcQ]
   simp only[Wp,Wt,Wu,List.length_drop]
   omega
  ·intro p h1 h2
   have hp:p<xs.length:=by rw[ZcQ] at h1;exact h1
   have h3:=ZfF h hp
   rw[Zr h1,Zr h,Zr (show j<xs.length by omega),Zr hp] at h3
   rw[h3,List.getElem_append]
   simp only[Wt,Nat.min_eq_left (show j<=xs.length by omega)]
   by_cases h4:p<j
   ·rw[dif_pos h4,if_neg (by omega),if_neg (by omega)]
    simp
   ·rw[dif_neg h4]
    by_cases h5:p=j
    ·subst h5;simp
    ·rw[if_neg h5]
     by_cases h6:p=j+1
     ·subst h6;simp
     ·rw[if_neg h6]
      obtain⟨q,rfl⟩:∃q,p=j+2+q:=⟨p-(j+2),by omega⟩
      simp only[show j+2+q-j=q+1+1 by omega,List.getElem_cons_succ,List.getElem_drop]
 have h7:(xs.take j++xs[j+1]::xs[j]::xs.drop (j+2)).Perm (xs.take j++xs[j]::xs[j+1]::xs.drop (j+2)):=(List.Perm.swap _ _ _).append_left _
 rw[e2]
 exact h7.trans (by rw[<-e])
theorem Zgr (c:α->α->Int):∀(j:Nat)(xs:List α),j<xs.length->(dwnG c xs j).Perm xs
 |0,_,_=> .refl _
 |j+1,xs,h=>by
  rw[dwnG]
  split
  ·exact(Zgr c j _ (by rw[ZcQ];omega)).trans (Zlu h)
  ·exact .refl _
theorem Zc2 (c:α->α->Int)(xs:List α):∀i,i<xs.length->(srtG c xs i).Perm xs
 |0,_=> .refl _
 |i+1,h=>by
  have h1:=Zc2 c xs i (by omega)
  rw[srtG]
  exact(Zgr c _ _ (by rw[h1.length_eq];exact h)).trans h1
section
variable {c : α -> α -> Int} {le : α -> α -> Prop} (h1 : ∀ x y, c x y < 0 -> le x y) (h2 : ∀ x y, ¬ c x y < 0 -> le y x) (h3 : ∀ x y z, le x y -> le y z -> le x z)
include h1 h2 h3
theorem Zh3 :∀(j n:Nat)(xs:List α),j<n->n<=xs.length->(∀p q:Nat,p<q->q<n->q≠j->le (gi xs (p:Int)) (gi xs (q:Int)))->∀p q:Nat,p<q->q<n->le (gi (dwnG c xs j) (p:Int)) (gi (dwnG c xs j) (q:Int))
 |0,n,xs,_,_,H,p,q,hpq,hq=>H p q hpq hq (by omega)
 |j+1,n,xs,hj,hn,H,p,q,hpq,hq=>by
  rw[dwnG]
  split
  ·rename_i hc
   refine Zh3 j n (swpG xs j) (by omega) (by rw[ZcQ];exact hn) (fun p q hpq hq hqj=>?_) p q hpq hq
   rw[ZfF (by omega) (by omega),ZfF (by omega) (by omega),if_neg hqj]
   by_cases e1:q=j+1
   ·rw[if_pos e1]
    by_cases e2:p=j
    ·rw[if_pos e2];exact h1 _ _ hc
    ·rw[if_neg e2,if_neg (by omega)];exact H p j (by omega) (by omega) (by omega)
   ·rw[if_neg e1]
    by_cases e2:p=j
    ·rw[if_pos e2];exact H (j+1) q (by omega) hq e1
    ·rw[if_neg e2]
     by_cases e3:p=j+1
     ·rw[if_pos e3];exact H j q (by omega) hq e1
     ·rw[if_neg e3];exact H p q hpq hq e1
  ·rename_i hc
   have h4:=h2 _ _ hc
   by_cases e1:q=j+1
   ·subst e1
    by_cases e2:p=j
    ·subst e2;exact h4
    ·exact h3 _ _ _ (H p j (by omega) (by omega) (by omega)) h4
   ·exact H p q hpq hq e1
theorem ZeH (xs:List α):∀i,i<xs.length->∀p q:Nat,p<q->q<i+1->le (gi (srtG c xs i) (p:Int)) (gi (srtG c xs i) (q:Int))
 |0,_,p,q,_,_=>by omega
 |i+1,h,p,q,hpq,hq=>by
  have hl:=(Zc2 c xs i (by omega)).length_eq
  rw[srtG]
  exact Zh3 h1 h2 h3 (i+1) (i+2) _ (by omega) (by omega) (fun p q hpq hq hne=>ZeH xs i (by omega) p q hpq (by omega)) p q hpq hq
end
end
noncomputable instance :Fv Int Ri Int where
 va f _:=f
 red f _:=f
 va_red _ _:=rfl
 red_eq _ _ _ h:=h
 agree f g a b h hv:=by
  obtain⟨c,h1,h2⟩:=Dns.out a b h
  exact hv c h1 h2
theorem Zjz {f g:Int}{t:Ri}:f=g↔va f t=va g t:=Iff.rfl
noncomputable def absU (u:UL):GU Ri Int:=⟨ri u.In.From,ri u.In.To,u.In.OpenFrom,u.In.OpenTo,u.F⟩
abbrev RtOk (x:Rl):Prop:=(rvR x).ok
theorem Za7 {x y:Rl}(hx:RtOk x)(hy:RtOk y):x=y↔ri x=ri y:=(Zcm hx hy).symm
theorem IvOk.rf {K:Nat}{I:Za}(h:IvOk K I):RtOk I.From:=h.a.o
theorem IvOk.rt {K:Nat}{I:Za}(h:IvOk K I):RtOk I.To:=h.b.o
theorem ZoD {K K':Nat}{u w:UL}(hu:IvOk K u.In)(hw:IvOk K' w.In)(h:absU u=absU w):u=w:=by
 obtain⟨⟨f,t,o,c⟩,F⟩:=u
 obtain⟨⟨f',t',o',c'⟩,F'⟩:=w
 unfold absU at h
 injection h with h1 h2 h3 h4 h5
 simp only at h1 h2 h3 h4 h5
 have e1:=(Za7 hu.rf hw.rf).2 h1
 have e2:=(Za7 hu.rt hw.rt).2 h2
 simp only at e1 e2
 subst e1
 subst e2
 subst h3
 subst h4
 subst h5
 rfl
theorem ZeM {K K':Nat}:∀{l m:List UL},(∀u∈l,IvOk K u.In)->(∀u∈m,IvOk K' u.In)->l.map absU=m.map absU->l=m
 |[],[],_,_,_=>rfl
 |[],_::_,_,_,h=>by simp at h
 |_::_,[],_,_,h=>by simp at h
 |u::l,w::m,hl,hm,h=>by
  simp only[List.map_cons,List.cons.injEq] at h
  rw[ZoD (hl u (.head _)) (hm w (.head _)) h.1,ZeM (fun x hx=>hl x (.tail _ hx)) (fun x hx=>hm x (.tail _ hx)) h.2]
theorem ZeI {u w:UL}:aprt u.In w.In=true↔(absU u).bfr (absU w):=by
 unfold aprt GU.bfr absU
 simp[Zac,Zal]
theorem Zta (xs:List UL)(j:Nat):swp xs j=swpG xs j:=rfl
theorem ZoS :∀(j:Nat)(xs:List UL),dwn xs j=dwnG cmpU xs j
 |0,_=>rfl
 |j+1,xs=>by rw[dwn,dwnG,ZoS j,Zta]
theorem ZkY (xs:List UL):∀i,srt xs i=srtG cmpU xs i
 |0=>rfl
 |i+1=>by rw[srt,srtG,ZoS,ZkY xs i]
theorem ZeO (us:List UL):(sor us).Perm us:=by
 rcases us with _|⟨u,us⟩
 ·exact .refl _
 ·unfold sor
  rw[ZkY]
  exact Zc2 _ _ _ (by simp)
def leU (u w:UL):Prop:=ri u.In.From<ri w.In.From\/(ri u.In.From=ri w.In.From/\opn u.In<=opn w.In)
theorem Zgc {a b:Int}:Lib.compareInt a b<0↔a<b:=by
 unfold Lib.compareInt
 split
 ·omega
 ·split <;> omega
theorem Zhk {a b:Int}:Lib.compareInt a b=0↔a=b:=by
 unfold Lib.compareInt
 split
 ·omega
 ·split <;> omega
theorem Zp4 {u w:UL}(h:cmpU u w<0):leU u w:=by
 unfold cmpU orL at h
 split at h
 ·rename_i h1
  have h1:=Zal.1 h1
  refine .inr ⟨h1, ?_⟩
  unfold orL at h
  split at h
  ·rename_i h2
   have:=Zhk.1 h2
   omega
  ·have:=Zgc.1 h
   omega
 ·exact .inl (Zac.1 h)
theorem Zqn {u w:UL}(h:¬cmpU u w<0):leU w u:=by
 unfold cmpU orL at h
 split at h
 ·rename_i h1
  have h1:=Zal.1 h1
  refine .inr ⟨h1.symm, ?_⟩
  unfold orL at h
  split at h
  ·rename_i h2
   have:=Zhk.1 h2
   omega
  ·have:¬opn u.In<opn w.In:=fun k=>h (Zgc.2 k)
   omega
 ·rename_i h1
  refine .inl ?_
  have h2:¬ri u.In.From<ri w.In.From:=fun k=>h (Zac.2 k)
  have h3:¬ri u.In.From=ri w.In.From:=fun k=>h1 (Zal.2 k)
  grind
theorem ZqR {u v w:UL}(h:leU u v)(k:leU v w):leU u w:=by
 unfold leU at*
 rcases h with h|⟨h1,h2⟩ <;> rcases k with k|⟨k1,k2⟩
 ·exact .inl (by grind)
 ·exact .inl (by grind)
 ·exact .inl (by grind)
 ·exact .inr ⟨by grind,by omega⟩
theorem ZpT (us:List UL)(p q:Nat)(hpq:p<q)(hq:q<us.length):leU (gi (sor us) (p:Int)) (gi (sor us) (q:Int)):=by
 unfold sor
 rw[ZkY]
 exact ZeH (c:=cmpU) (le:=leU) (fun _ _=>Zp4) (fun _ _=>Zqn) (fun _ _ _=>ZqR) us (us.length-1) (by omega) p q hpq (by omega)
theorem Zmt {u:UL}{K:Nat}(h:IvOk K u.In):(atU u).map absU=(absU u).parts:=by
 have e:(u.In.From=u.In.To)↔(absU u).a=(absU u).b:=Za7 h.rf h.rt
 unfold atU GU.parts
 rw[List.map_append]
 congr 1
 ·show List.map absU (if u.In.OpenFrom=true then [] else _)=if u.In.OpenFrom=true then [] else _
  split <;> rfl
 ·by_cases hi:u.In.From=u.In.To
  ·rw[if_pos hi,if_pos (e.1 hi)]
   rfl
  ·rw[if_neg hi,if_neg (fun k=>hi (e.2 k))]
   show List.map absU (_::if u.In.OpenTo=true then [] else _)=_::if u.In.OpenTo=true then [] else _
   split <;> rfl
theorem Zi5 {us:List UL}{K:Nat}(h:∀u∈us,IvOk K u.In):∀m,m<=us.length->(atm us m).map absU=partsL ((us.take m).map absU)
 |0,_=>rfl
 |m+1,hm=>by
  have hg:=Zr (xs:=us) (i:=m) (by omega)
  rw[atm,List.map_append,Zi5 h m (by omega),Zmt (h _ (Zt (by omega))),Wn (by omega),List.map_append,partsL,partsL,List.flatMap_append,hg]
  simp
theorem Za4 (ys:List UL)(u:UL):lstU (ys++[u])=u:=by
 unfold lstU
 rw[Zbb (by simp only[Wp,List.length_singleton];omega)]
 simp only[Wp,List.length_singleton]
 rw[List.getElem_append_right (by omega)]
 simp
theorem Zgh (ys:List UL)(u w:UL):turn (ys++[u]) w=ys++[w]:=by
 unfold turn
 simp
theorem ZjN {u:UL}{K:Nat}(h:IvOk K u.In):isI u=true↔(absU u).a=(absU u).b:=by
 unfold isI
 rw[decide_eq_true_iff]
 exact Za7 h.rf h.rt
theorem ZcG {ys':List UL}{u':UL}{ys:List (GU Ri Int)}{u:GU Ri Int}(h:(ys'++[u']).map absU=ys++[u]):u=absU u':=by
 rw[List.map_append] at h
 exact(Zbc h).2.symm
theorem Zdz (zs:List UL)(w:UL)(t:Zh):bef (zs++[w]) t=(decide (w.In.To=t)&& !decide (w.In.From=w.In.To)):=by
 unfold bef
 rw[Za4,Wc (by simp:0<(zs++[w]).length),Bool.true_and]
theorem Znj (zs:List UL)(w:UL)(t:Zh):hld (zs++[w]) t=(decide (w.In.To=t)&& !w.In.OpenTo):=by
 unfold hld
 rw[Za4,Wc (by simp:0<(zs++[w]).length),Bool.true_and]
noncomputable def pvO (al:List UL)(i:Nat):Option (GU Ri Int):=if i=0 then none else some (absU (gi al ((i:Int)-1)))
noncomputable def nxO (al:List UL)(i:Nat):Option (GU Ri Int):=if i+1<al.length then some (absU (gi al ((i:Int)+1))) else none
theorem Zoz {xs:List UL}(hxs:∀v∈xs,UOk v){t:Zh}(ht:RtOk t):hld xs t=true↔Held (xs.map absU) (ri t):=by
 rcases ZaM xs with rfl|⟨zs,w,rfl⟩
 ·unfold hld Held
  simp
 ·rw[Znj]
  have hw:=hxs w (by simp)
  simp only[Wq,decide_eq_true_eq,Bool.not_eq_true']
  rw[Za7 hw.i.rt ht]
  constructor
  ·rintro⟨h1,h2⟩
   exact⟨zs.map absU,absU w,by simp,h1,h2⟩
  ·rintro⟨ys,u,h1,h2,h3⟩
   have:=ZcG h1
   subst this
   exact⟨h2,h3⟩
theorem Zqu {al xs:List UL}{i:Nat}{x:UL}(hi:i<al.length)(hal:∀u∈al,UIn u)(hx:UIn x)(hxs:∀v∈xs,UOk v):Stp (pvO al i) (nxO al i) (xs.map absU) (absU x) ((nstp al i xs x).map absU):=by
 have hprev:∀q,pvO al i=some q->0<i/\q=absU (gi al ((i:Int)-1))/\UIn (gi al ((i:Int)-1)):=fun q hq=>by
  unfold pvO at hq
  split at hq
  ·cases hq
  ·injection hq with hq
   exact⟨by omega,hq.symm,hal _ (Zt (by omega))⟩
 have hI:=ZjN hx.i
 unfold nstp
 by_cases hi0:isI x=true
 ·have hie:=hI.1 hi0
  rw[if_neg (by rw[hi0];decide)]
  have noClo:cC xs x=false->NoClo (xs.map absU) (absU x):=fun hC ys u h e1 e2 e3=>by
   rcases ZaM xs with rfl|⟨zs,w,rfl⟩
   ·simp at h
   ·have:=ZcG h
    subst this
    have hw:=hxs w (by simp)
    have h2:cC (zs++[w]) x=true:=by
     unfold cC
     rw[Zdz,Za4,Wc (Zjz.2 e3:w.F=x.F),Wc ((Za7 hw.i.rt hx.i.rf).2 e1),We (fun k=>e2 ((Za7 hw.i.rf hw.i.rt).1 k))]
     rfl
    rw[hC] at h2
    cases h2
  by_cases hC:cC xs x=true
  ·rw[if_pos hC]
   rcases ZaM xs with rfl|⟨zs,w,rfl⟩
   ·cases hC
   ·have hw:=hxs w (by simp)
    unfold cC at hC
    rw[Zdz,Za4] at hC
    simp only[Wq,decide_eq_true_eq,Bool.not_eq_true',decide_eq_false_iff_not] at hC
    rw[Zgh,Za4,List.map_append,List.map_append]
    exact .clo hie ((Za7 hw.i.rt hx.i.rf).1 hC.1.1) (fun k=>hC.1.2 ((Za7 hw.i.rf hw.i.rt).2 k)) (Zjz.1 hC.2)
  ·rw[if_neg hC]
   have hno:=noClo (by simpa using hC)
   have hnx:cD al i x=true↔NxI (nxO al i) (absU x):=by
    unfold cD NxI nxO
    by_cases h1:i+1<al.length
    ·rw[Wc h1,if_pos h1,Bool.true_and]
     have hn:=hal _ (Zt (i:=(i:Int)+1) (xs:=al) (by omega))
     simp only[Wq,decide_eq_true_eq,Option.some.injEq]
     rw[Za7 hn.i.rf hx.i.rf]
     constructor
     ·rintro⟨h2,h3⟩
      exact⟨_,rfl,h2,h3⟩
     ·rintro⟨n,rfl,h2,h3⟩
      exact⟨h2,h3⟩
    ·rw[We h1,if_neg h1]
     simp
   by_cases hD:cD al i x=true
   ·rw[if_pos hD]
    exact .lft hie hno (hnx.1 hD)
   ·rw[if_neg hD,List.map_append]
    exact .rdc hie hno (fun k=>hD (hnx.2 k))
 ·have hie:(absU x).a≠(absU x).b:=fun k=>hi0 (hI.2 k)
  rw[if_pos (by simpa using hi0)]
  by_cases hA:cA xs x=true
  ·rw[if_pos hA]
   rcases ZaM xs with rfl|⟨zs,w,rfl⟩
   ·cases hA
   ·have hw:=hxs w (by simp)
    unfold cA at hA
    rw[Zdz,Za4] at hA
    simp only[Wq,decide_eq_true_eq,Bool.not_eq_true',decide_eq_false_iff_not] at hA
    rw[Zgh,Za4,List.map_append,List.map_append]
    exact .ext hie ((Za7 hw.i.rt hx.i.rf).1 hA.1.1) (fun k=>hA.1.2 ((Za7 hw.i.rf hw.i.rt).2 k)) hA.2.1 hA.2.2
  ·rw[if_neg hA]
   have hno:NoExt (xs.map absU) (absU x):=fun ys u h e1 e2 e3 e4=>by
    rcases ZaM xs with rfl|⟨zs,w,rfl⟩
    ·simp at h
    ·have:=ZcG h
     subst this
     have hw:=hxs w (by simp)
     refine hA ?_
     unfold cA
     rw[Zdz,Za4,Wc ((Za7 hw.i.rt hx.i.rf).2 e1),We (fun k=>e2 ((Za7 hw.i.rf hw.i.rt).1 k)),show w.In.OpenTo=false from e3,Wc (show w.F=x.F from e4)]
     rfl
   have hpv:cB al i xs x=true↔PvI (pvO al i) (absU x)/\¬Held (xs.map absU) (absU x).a:=by
    have hh:=Zoz hxs hx.i.rf
    unfold cB
    by_cases h1:0<i
    ·rw[Wc h1,Bool.true_and]
     have hn:=hal _ (Zt (i:=(i:Int)-1) (xs:=al) (by omega))
     simp only[Wq,decide_eq_true_eq,Bool.not_eq_true']
     rw[ZjN hn.i,Za7 hn.i.rf hx.i.rf]
     unfold PvI pvO
     rw[if_neg (by omega)]
     constructor
     ·rintro⟨h2,h3,h4⟩
      refine⟨⟨_,rfl,h2,h3⟩,fun k=>?_⟩
      rw[hh.2 k] at h4
      cases h4
     ·rintro⟨⟨q,h2,h3,h4⟩,h5⟩
      injection h2 with h2
      subst h2
      refine⟨h3,h4, ?_⟩
      rcases h6:hld xs x.In.From with _|_
      ·rfl
      ·exact absurd (hh.1 h6) h5
    ·rw[We h1,Bool.false_and]
     unfold PvI pvO
     rw[if_pos (by omega)]
     simp
   by_cases hB:cB al i xs x=true
   ·rw[if_pos hB,List.map_append]
    have:=hpv.1 hB
    exact .appO hie hno this.1 this.2
   ·rw[if_neg hB,List.map_append]
    exact .appN hie hno (fun k=>hB (hpv.2 k))
theorem Zmk {al:List UL}(hal:∀u∈al,UIn u):∀d i,i+d=al.length->Mk (pvO al i) ((nrm al i).map absU) ((al.drop i).map absU) ((nrm al al.length).map absU)
 |0,i,h=>by
  rw[Nat.add_zero] at h
  subst h
  rw[List.drop_length]
  exact .nil
 |d+1,i,h=>by
  have hi:i<al.length:=by omega
  have ih:=Zmk hal d (i+1) (by omega)
  have hg:=Zr hi
  have hx:=hal _ (Zt (i:=(i:Int)) (xs:=al) (by omega))
  rw[List.drop_eq_getElem_cons hi,List.map_cons,<-hg]
  have e1:pvO al (i+1)=some (absU (gi al (i:Int))):=by
   unfold pvO
   rw[if_neg (by omega),show((i+1:Nat):Int)-1=(i:Int) by omega]
  have e2:((al.drop (i+1)).map absU).head? =nxO al i:=by
   unfold nxO
   by_cases h1:i+1<al.length
   ·rw[if_pos h1,List.drop_eq_getElem_cons h1,List.map_cons,List.head?_cons,<-Zr h1]
    rfl
   ·rw[if_neg h1,List.drop_eq_nil_of_le (by omega)]
    rfl
  refine .cons ?_ (e1▸ih)
  rw[e2,nrm]
  exact Zqu hi hal hx (Ze0 hal i (by omega))
theorem Zd7 {l:List UL}:∀m,m<=l.length->aprN l m=true->∀i (h:i+1<m),aprt (gi l (i:Int)).In (gi l ((i+1:Nat):Int)).In=true
 |0,_,_,i,h=>by omega
 |m+1,hm,ha,i,h=>by
  rw[aprN,Wq] at ha
  rcases(by omega:i+1<m\/i+1=m) with h1|h1
  ·exact Zd7 m (by omega) ha.1 i h1
  ·subst h1
   have h2:=ha.2
   rw[Wc (by omega:0<i+1),show((i+1:Nat):Int)-1=(i:Int) by omega,Bool.true_and,Bool.not_not] at h2
   exact h2
theorem ZdY {l:List UL}(H:∀i,i+1<l.length->aprt (gi l (i:Int)).In (gi l ((i+1:Nat):Int)).In=true):∀m,m<=l.length->aprN l m=true
 |0,_=>rfl
 |m+1,hm=>by
  rw[aprN,ZdY H m (by omega),Bool.true_and]
  rcases m with _|m
  ·rfl
  ·rw[Wc (by omega:0<m+1),show((m+1:Nat):Int)-1=(m:Int) by omega,H m (by omega)]
   rfl
structure UVal (us:List UL):Prop where
 i:∀u∈us,UIn u
 v:∀u∈us,(absU u).ok
theorem UVal.sor {us:List UL}(h:UVal us):UVal (sor us):=⟨fun u hu=>h.i u (Zey hu),fun u hu=>h.v u (Zey hu)⟩
theorem ZmR {us:List UL}(h:UVal us)(ha:aprN (sor us) (sor us).length=true):((sor us).map absU).Pairwise GU.bfr:=by
 have hs:=h.sor
 refine Zfc (fun u hu=>?_) (fun i hi=>?_)
 ·obtain⟨w,hw,rfl⟩:=List.mem_map.1 hu
  exact hs.v w hw
 ·rw[Ws] at hi
  have:=Zd7 _ (Wl _) ha i hi
  rw[ZeI,Zr (by omega),Zr hi] at this
  simpa using this
theorem Zkx {us:List UL}(h:UVal us)(ha:aprN (sor us) (sor us).length=true):(us.map absU).Pairwise Dis:=
 (ZhY ((ZeO us).map absU)).1 ((ZmR h ha).imp fun h=>h.Dis)
theorem Ze2 {us:List UL}(h:UVal us)(hd:(us.map absU).Pairwise Dis):aprN (sor us) (sor us).length=true:=by
 have hs:=h.sor
 have hp:=(ZhY ((ZeO us).map absU)).2 hd
 refine ZdY (fun i hi=>?_) _ (Wl _)
 have hl:=Zeb us
 have ho:=ZpT us i (i+1) (by omega) (by omega)
 have hdi:=List.pairwise_iff_getElem.1 hp i (i+1) (by rw[Ws];omega) (by rw[Ws];omega) (by omega)
 rw[List.getElem_map,List.getElem_map,<-Zr (by omega),<-Zr hi] at hdi
 rw[ZeI]
 refine ZkK (hs.v _ (Zt (by omega))) (hs.v _ (Zt (by omega))) ?_ hdi
 rcases ho with h1|⟨h1,h2⟩
 ·exact .inl h1
 ·refine .inr ⟨h1,fun k=>?_⟩
  have k':(gi (Go.Vt.sor us) (i:Int)).In.OpenFrom=true:=k
  show(gi (Go.Vt.sor us) ((i+1:Nat):Int)).In.OpenFrom=true
  unfold opn at h2
  rw[if_pos k'] at h2
  split at h2
  ·assumption
  ·omega
theorem Zff {us:List UL}(h:UVal us):nrmE us=0↔(us.map absU).Pairwise Dis:=by
 unfold nrmE
 constructor
 ·intro k
  split at k
  ·exact Zkx h (by assumption)
  ·cases k
 ·intro k
  rw[if_pos (Ze2 h k)]
theorem ZpQ (us:List UL):nrmE us=0\/(nrmE us=11/\nrmR us=[]):=by
 unfold nrmE nrmR
 split
 ·exact .inl rfl
 ·exact .inr ⟨rfl,rfl⟩
theorem Zfp {us:List UL}(h:UVal us)(hd:(us.map absU).Pairwise Dis):NF ((nrmR us).map absU)/\∀t v,Has ((nrmR us).map absU) t v↔Has (us.map absU) t v:=by
 have hs:=h.sor
 have ha:=Ze2 h hd
 have hp:=ZmR h ha
 have hok:∀u∈(Go.Vt.sor us).map absU,u.ok:=fun u hu=>by
  obtain⟨w,hw,rfl⟩:=List.mem_map.1 hu
  exact hs.v w hw
 have hall:=ZfA hs.i (Go.Vt.sor us).length (Wl _)
 have hmk:=Zmk hall _ 0 (Nat.zero_add _)
 have hparts:(atm (Go.Vt.sor us) (Go.Vt.sor us).length).map absU=partsL ((Go.Vt.sor us).map absU):=by
  have:=Zi5 (fun u hu=>(hs.i u hu).i) (Go.Vt.sor us).length (Wl _)
  rw[List.take_length] at this
  exact this
 rw[List.drop_zero,hparts] at hmk
 have hinv:=Inv.start (Zlc hok) (Zgu hok hp)
 have e:nrmR us=nrm (atm (Go.Vt.sor us) (Go.Vt.sor us).length) (atm (Go.Vt.sor us) (Go.Vt.sor us).length).length:=by
  unfold nrmR allU
  rw[if_pos ha]
 rw[e]
 obtain⟨h1,h2⟩:=hmk.nf hinv
 refine⟨h1,fun t v=>?_⟩
 rw[h2,Ze1 hok]
 exact ZnN ((ZeO us).map absU)
theorem ZfN {us:List UL}(h:∀u∈us,UIn u):∀v∈nrmR us,UOk v:=by
 unfold nrmR
 split
 ·exact Ze0 (ZfA (fun u hu=>h u (Zey hu)) _ (Wl _)) _ (Wl _)
 ·intro v hv
  cases hv
end
section
def bLt (a b:Bd):Prop:=ri a.at_<ri b.at_\/(ri a.at_=ri b.at_/\a.behind=false/\b.behind=true)
def bLe (a b:Bd):Prop:=ri a.at_<ri b.at_\/(ri a.at_=ri b.at_/\(a.behind=true->b.behind=true))
def bAt (b:Bd)(t:Ri):Prop:=ri b.at_<t\/(ri b.at_=t/\b.behind=false)
theorem ZlF {a b:Bd}:bLt a b↔¬bLe b a:=by unfold bLt bLe;grind
theorem Zq8 {a b c:Bd}(h:bLe a b)(k:bLe b c):bLe a c:=by unfold bLe at*;grind
theorem ZcN {a b c:Bd}(h:bLt a b)(k:bLe b c):bLt a c:=by unfold bLe bLt at*;grind
theorem bLt.le {a b:Bd}(h:bLt a b):bLe a b:=by unfold bLe bLt at*;grind
theorem ZcF {a b:Bd}{t:Ri}(h:bLe a b)(k:bAt b t):bAt a t:=by unfold bLe bAt at*;grind
theorem Zmy {a b:Bd}:cmpB a b=0↔bLe a b/\bLe b a:=by
 unfold cmpB bLe
 by_cases h:cl a.at_ b.at_=0
 ·rw[if_neg (by simpa using h)]
  have h:=Zal.1 h
  rcases ha:a.behind <;> rcases hb:b.behind <;> simp[h] <;> grind
 ·rw[if_pos h]
  have h':¬ri a.at_=ri b.at_:=fun e=>h (Zal.2 e)
  constructor
  ·intro k;exact absurd k h
  ·rintro⟨k1,k2⟩;grind
theorem ZpZ {a b:Bd}(h:cmpB a b<0):bLe a b:=by
 unfold cmpB at h
 unfold bLe
 split at h
 ·exact .inl (Zac.1 h)
 ·rename_i h1
  have h1:=Zal.1 (Decidable.not_not.1 h1)
  split at h
  ·omega
  ·split at h
   ·rename_i h3
    exact .inr ⟨h1,fun _=>h3⟩
   ·omega
theorem ZfZ {a b:Bd}(h:¬cmpB a b<0):bLe b a:=by
 unfold cmpB at h
 unfold bLe
 split at h
 ·rename_i h1
  have h2:¬ri a.at_<ri b.at_:=fun e=>h (Zac.2 e)
  have h1:¬ri a.at_=ri b.at_:=fun e=>h1 (Zal.2 e)
  exact .inl (by grind)
 ·rename_i h1
  have h1:=Zal.1 (Decidable.not_not.1 h1)
  split at h
  ·rename_i h2
   exact .inr ⟨h1.symm,fun e=>by rw[h2];exact e⟩
  ·split at h
   ·omega
   ·rename_i h3
    exact .inr ⟨h1.symm,fun e=>absurd e h3⟩
theorem ZfP {I:Za}{t:Ri}:memI I t↔bAt (bdF I) t/\¬bAt (bdL I) t:=by
 unfold memI bAt bdF bdL
 rcases I.OpenFrom <;> rcases I.OpenTo <;> simp <;> grind
theorem ZgK (a b:Bd):bdF (bdB a b)=a:=rfl
theorem ZgJ (a b:Bd):bdL (bdB a b)=b:=by
 unfold bdL bdB
 simp
noncomputable def cntT (d:Ev->Int)(t:Ri):List Ev->Int
 |[]=>0
 |x::l=>(open Classical in if bAt x.b t then d x else 0)+cntT d t l
theorem Za8 (d:Ev->Int)(t:Ri):∀l m,cntT d t (l++m)=cntT d t l+cntT d t m
 |[],m=>by simp[cntT]
 |x::l,m=>by rw[Wf,cntT,cntT,Za8 d t l m];omega
theorem ZbL {d:Ev->Int}{t:Ri}{l m:List Ev}(h:l.Perm m):cntT d t l=cntT d t m:=by
 induction h with
 |nil=>rfl
 |cons x _ ih=>rw[cntT,cntT,ih]
 |swap x y l=>simp only[cntT];omega
 |trans _ _ h1 h2=>exact h1.trans h2
theorem Zgf {α:Type}[Inhabited α]{l:List α}{m:Nat}(h:m<l.length):l.take (m+1)=l.take m++[gi l (m:Int)]:=by
 rw[Zr h,Wn h]
theorem ZhC {d:Ev->Int}{t:Ri}{l:List Ev}(f:Nat->Int)(h0:f 0=0)(hs:∀m,f (m+1)=f m+d (gi l (m:Int))):∀k,k<=l.length->(∀j,j<k->bAt (gi l (j:Int)).b t)->cntT d t (l.take k)=f k
 |0,_,_=>by simp[cntT,h0]
 |k+1,hk,h=>by
  rw[Zgf (by omega),Za8,ZhC f h0 hs k (by omega) (fun j hj=>h j (by omega)),hs,cntT,cntT,if_pos (h k (by omega))]
  omega
theorem Zgl {d:Ev->Int}{t:Ri}:∀{l:List Ev},(∀x∈l,¬bAt x.b t)->cntT d t l=0
 |[],_=>rfl
 |x::l,h=>by rw[cntT,if_neg (h x (.head _)),Zgl (fun y hy=>h y (.tail _ hy))];rfl
theorem Zg5 {d:Ev->Int}{t:Ri}{l:List Ev}(f:Nat->Int)(h0:f 0=0)(hs:∀m,f (m+1)=f m+d (gi l (m:Int))){k:Nat}(hk:k<=l.length)(h:∀j,j<k->bAt (gi l (j:Int)).b t)(h':∀j,k<=j->j<l.length->¬bAt (gi l (j:Int)).b t):cntT d t l=f k:=by
 have e:cntT d t l=cntT d t (l.take k++l.drop k):=by rw[List.take_append_drop]
 rw[e,Za8,ZhC f h0 hs k hk h,Zgl (l:=l.drop k) fun x hx=>?_]
 ·omega
 ·obtain⟨j,hj,rfl⟩:=List.getElem_of_mem hx
  rw[List.length_drop] at hj
  rw[List.getElem_drop,<-Zr (by omega)]
  exact h' (k+j) (by omega) (by omega)
section
variable {kp : Bool -> Bool -> Bool} {l : List Ev}
theorem Zft (m:Nat):(sws kp l (m+1)).n0=(sws kp l m).n0+(gi l (m:Int)).n0:=by
 rw[sws]
 simp only
 split <;> rfl
theorem Zfj (m:Nat):(sws kp l (m+1)).n1=(sws kp l m).n1+(gi l (m:Int)).n1:=by
 rw[sws]
 simp only
 split <;> rfl
theorem ZhT {w:Ri}{k:Nat}(hk:k<=l.length)(h:∀j,j<k->bAt (gi l (j:Int)).b w)(h':∀j,k<=j->j<l.length->¬bAt (gi l (j:Int)).b w):cntT Ev.n0 w l=(sws kp l k).n0/\cntT Ev.n1 w l=(sws kp l k).n1:=
 ⟨Zg5 (fun m=>(sws kp l m).n0) rfl Zft hk h h',Zg5 (fun m=>(sws kp l m).n1) rfl Zfj hk h h'⟩
noncomputable def keeps (kp:Bool->Bool->Bool)(l:List Ev)(t:Ri):Bool:=kp (decide (0<cntT Ev.n0 t l)) (decide (0<cntT Ev.n1 t l))
structure SwI (kp:Bool->Bool->Bool)(l:List Ev)(s:SwS)(k:Nat):Prop where
 h:∀t,(k<l.length->¬bAt (gi l (k:Int)).b t)->(((∃i∈s.out,memI i t)\/(s.on=true/\bAt s.fr t))↔keeps kp l t=true)
 r:k<l.length->∀i∈s.out,bLt (bdL i) (gi l (k:Int)).b
 f:k<l.length->s.on=true->bLt s.fr (gi l (k:Int)).b
 o:s.on=true->∀i∈s.out,bLt (bdL i) s.fr
 pw:s.out.Pairwise (fun i j=>bLt (bdL i) (bdF j))
 v:∀i∈s.out,bLt (bdF i) (bdL i)
theorem ZiX (hs:∀p q:Nat,p<q->q<l.length->bLe (gi l (p:Int)).b (gi l (q:Int)).b)(hk:kp false false=false):∀k,k<=l.length->SwI kp l (sws kp l k) k
 |0,_=>by
  refine⟨fun t h=>?_,fun _ i hi=>(by cases hi),fun _ h=>(by cases h),fun h=>by(cases h),List.Pairwise.nil,fun i hi=>(by cases hi)⟩
  have hn:∀j,0<=j->j<l.length->¬bAt (gi l (j:Int)).b t:=fun j _ hj=>by
   by_cases e:j=0
   ·subst e;exact h hj
   ·exact fun hb=>h (by omega) (ZcF (hs 0 j (by omega) hj) hb)
  obtain⟨e1,e2⟩:=ZhT (kp:=kp) (Wm _) (fun j hj=>by omega) hn
  unfold keeps
  rw[e1,e2]
  simp[sws,hk]
 |k+1,hkl=>by
  have ih:=ZiX hs hk k (by omega)
  have hn0:=Zft (kp:=kp) (l:=l) k
  have hn1:=Zfj (kp:=kp) (l:=l) k
  have hnxt:k+1<l.length->bLe (gi l (k:Int)).b (gi l ((k+1:Nat):Int)).b:=fun h=>hs k (k+1) (by omega) h
  by_cases hsk:k+1<l.length/\cmpB (gi l (k:Int)).b (gi l ((k+1:Nat):Int)).b=0
  ·have e:sws kp l (k+1)=⟨(sws kp l k).n0+(gi l (k:Int)).n0,(sws kp l k).n1+(gi l (k:Int)).n1,(sws kp l k).fr,(sws kp l k).on,(sws kp l k).out⟩:=by rw[sws];simp only;rw[if_pos hsk]
   obtain⟨e1,e2⟩:=Zmy.1 hsk.2
   rw[e]
   exact⟨fun t h=>ih.h t (fun _ hb=>h hsk.1 (ZcF e2 hb)),fun _ i hi=>ZcN (ih.r (by omega) i hi) e1,fun _ ho=>ZcN (ih.f (by omega) ho) e1,ih.o,ih.pw,ih.v⟩
  ·have e:sws kp l (k+1)=⟨(sws kp l k).n0+(gi l (k:Int)).n0,(sws kp l k).n1+(gi l (k:Int)).n1,if kp (decide (0<(sws kp l k).n0+(gi l (k:Int)).n0)) (decide (0<(sws kp l k).n1+(gi l (k:Int)).n1))&& !(sws kp l k).on then(gi l (k:Int)).b else(sws kp l k).fr,kp (decide (0<(sws kp l k).n0+(gi l (k:Int)).n0)) (decide (0<(sws kp l k).n1+(gi l (k:Int)).n1)),if kp (decide (0<(sws kp l k).n0+(gi l (k:Int)).n0)) (decide (0<(sws kp l k).n1+(gi l (k:Int)).n1))&& !(sws kp l k).on then(sws kp l k).out else if !kp (decide (0<(sws kp l k).n0+(gi l (k:Int)).n0)) (decide (0<(sws kp l k).n1+(gi l (k:Int)).n1))&&(sws kp l k).on then(sws kp l k).out++[bdB (sws kp l k).fr (gi l (k:Int)).b] else(sws kp l k).out⟩:=by rw[sws];simp only;rw[if_neg hsk]
   have hlt:k+1<l.length->bLt (gi l (k:Int)).b (gi l ((k+1:Nat):Int)).b:=fun h=>by
    rw[ZlF]
    exact fun h2=>hsk ⟨h,Zmy.2 ⟨hnxt h,h2⟩⟩
   -- what is kept at an instant behind this border and ahead of the next one
   have hkeep:∀t,bAt (gi l (k:Int)).b t->(k+1<l.length->¬bAt (gi l ((k+1:Nat):Int)).b t)->keeps kp l t=(sws kp l (k+1)).on:=fun t h1 h2=>by
    obtain⟨e1,e2⟩:=ZhT (kp:=kp) (l:=l) (w:=t) (k:=k+1) hkl
     (fun j hj=>by
      by_cases e:j=k
      ·subst e;exact h1
      ·exact ZcF (hs j k (by omega) (by omega)) h1)
     (fun j h3 hj=>by
      by_cases e:j=k+1
      ·subst e;exact h2 hj
      ·exact fun hb=>h2 (by omega) (ZcF (hs (k+1) j (by omega) hj) hb))
    unfold keeps
    rw[e1,e2,hn0,hn1,e]
   generalize hnow:kp (decide (0<(sws kp l k).n0+(gi l (k:Int)).n0)) (decide (0<(sws kp l k).n1+(gi l (k:Int)).n1))=now at e
   generalize hx:(gi l (k:Int)).b=x at*
   have hnew:∀t,memI (bdB (sws kp l k).fr x) t↔bAt (sws kp l k).fr t/\¬bAt x t:=fun t=>by rw[ZfP,ZgK,ZgJ]
   have hr:=ih.r (by omega)
   have hf:=ih.f (by omega)
   rw[hx] at hr hf
   have hno:∀t,bAt x t->∀i∈(sws kp l k).out,¬memI i t:=fun t h i hi hm=>(ZfP.1 hm).2 (ZcF (hr i hi).le h)
   have hfr:∀t,bAt x t->(sws kp l k).on=true->bAt (sws kp l k).fr t:=fun t h ho=>ZcF (hf ho).le h
   have hih:∀t,¬bAt x t->(((∃i∈(sws kp l k).out,memI i t)\/((sws kp l k).on=true/\bAt (sws kp l k).fr t))↔keeps kp l t=true):=fun t h=>ih.h t (fun _=>by rw[hx];exact h)
   rw[e] at hkeep
   rw[e]
   simp only at hkeep⊢
   rcases now with _|_ <;> rcases hon:(sws kp l k).on with _|_ <;> simp only[Bool.not_true,Bool.not_false,Bool.and_true,Bool.and_false,Bool.false_eq_true,if_false,if_true] <;> rw[hon] at hih
   ·refine⟨fun t h=>?_,fun h i hi=>ZcN (hr i hi) (hnxt h),fun _ h=>(by cases h),fun h=>(by cases h),ih.pw,ih.v⟩
    by_cases hb:bAt x t
    ·rw[hkeep t hb h]
     exact⟨fun h=>(h.resolve_right (fun h=>by cases h.1)).elim fun i hi=>absurd hi.2 (hno t hb i hi.1),fun h=>(by cases h)⟩
    ·exact hih t hb
   ·refine⟨fun t h=>?_,fun h i hi=>?_,fun _ h=>(by cases h),fun h=>(by cases h), ?_,fun i hi=>?_⟩
    ·by_cases hb:bAt x t
     ·rw[hkeep t hb h]
      refine⟨fun h=>(h.resolve_right (fun h=>by cases h.1)).elim fun i hi=>?_,fun h=>(by cases h)⟩
      rcases List.mem_append.1 hi.1 with h1|h1
      ·exact absurd hi.2 (hno t hb i h1)
      ·rw[List.mem_singleton.1 h1] at hi
       exact absurd hb ((hnew t).1 hi.2).2
     ·rw[<-hih t hb]
      constructor
      ·rintro(⟨i,hi,hm⟩|⟨h,_⟩)
       ·rcases List.mem_append.1 hi with h1|h1
        ·exact .inl ⟨i,h1,hm⟩
        ·rw[List.mem_singleton.1 h1] at hm
         exact .inr ⟨rfl,((hnew t).1 hm).1⟩
       ·cases h
      ·rintro(⟨i,hi,hm⟩|⟨_,h⟩)
       ·exact .inl ⟨i,List.mem_append_left _ hi,hm⟩
       ·exact .inl ⟨_,List.mem_append_right _ (.head _),(hnew t).2 ⟨h,hb⟩⟩
    ·rcases List.mem_append.1 hi with h1|h1
     ·exact ZcN (hr i h1) (hnxt h)
     ·rw[List.mem_singleton.1 h1,ZgJ]
      exact hlt h
    ·rw[List.pairwise_append]
     refine⟨ih.pw,List.pairwise_singleton _ _,fun i hi j hj=>?_⟩
     rw[List.mem_singleton.1 hj,ZgK]
     exact ih.o hon i hi
    ·rcases List.mem_append.1 hi with h1|h1
     ·exact ih.v i h1
     ·rw[List.mem_singleton.1 h1,ZgJ,ZgK]
      exact hf hon
   ·refine⟨fun t h=>?_,fun h i hi=>ZcN (hr i hi) (hnxt h),fun h _=>hlt h,fun _ i hi=>hr i hi,ih.pw,ih.v⟩
    by_cases hb:bAt x t
    ·rw[hkeep t hb h]
     exact⟨fun _=>rfl,fun _=> .inr ⟨rfl,hb⟩⟩
    ·rw[<-hih t hb]
     exact⟨fun h=> .inl (h.resolve_right fun h=>hb h.2),fun h=> .inl (h.resolve_right fun h=>by cases h.1)⟩
   ·refine⟨fun t h=>?_,fun h i hi=>ZcN (hr i hi) (hnxt h),fun h _=>ZcN (hf hon) (hnxt h),fun _ i hi=>ih.o hon i hi,ih.pw,ih.v⟩
    by_cases hb:bAt x t
    ·rw[hkeep t hb h]
     exact⟨fun _=>rfl,fun _=> .inr ⟨rfl,hfr t hb hon⟩⟩
    ·exact hih t hb
theorem Zht {Pb:Bd->Prop}(h:∀x∈l,Pb x.b):∀k,k<=l.length->((sws kp l k).on=true->Pb (sws kp l k).fr)/\∀i∈(sws kp l k).out,Pb (bdF i)/\Pb (bdL i)
 |0,_=>⟨fun h=>(by cases h),fun i hi=>(by cases hi)⟩
 |k+1,hk=>by
  obtain⟨h1,h2⟩:=Zht h k (by omega)
  have hx:=h _ (Zt (xs:=l) (i:=(k:Int)) (by omega))
  rw[sws]
  simp only
  split
  ·exact⟨h1,h2⟩
  ·generalize kp _ _=now
   rcases now with _|_ <;> rcases hon:(sws kp l k).on with _|_ <;> simp only[Bool.not_true,Bool.not_false,Bool.and_true,Bool.and_false,Bool.false_eq_true,if_false,if_true]
   ·exact⟨fun h=>(by cases h),h2⟩
   ·refine⟨fun h=>(by cases h),fun i hi=>?_⟩
    rcases List.mem_append.1 hi with h3|h3
    ·exact h2 i h3
    ·rw[List.mem_singleton.1 h3,ZgJ,ZgK]
     exact⟨h1 hon,hx⟩
   ·exact⟨fun _=>hx,h2⟩
   ·exact⟨fun _=>h1 hon,h2⟩
theorem ZfH (hs:∀p q:Nat,p<q->q<l.length->bLe (gi l (p:Int)).b (gi l (q:Int)).b)(hk:kp false false=false)(h0:(sws kp l l.length).n0=0)(h1:(sws kp l l.length).n1=0):
  (∀t,(∃i∈(sws kp l l.length).out,memI i t)↔keeps kp l t=true)/\(sws kp l l.length).out.Pairwise (fun i j=>bLt (bdL i) (bdF j))/\∀i∈(sws kp l l.length).out,bLt (bdF i) (bdL i):=by
 have hi:=ZiX hs hk l.length (Wl _)
 have hon:(sws kp l l.length).on=false:=by
  rcases hl:l.length with _|m
  ·rfl
  ·rw[hl] at h0 h1
   rw[Zft] at h0
   rw[Zfj] at h1
   rw[sws]
   simp only
   rw[if_neg (fun h=>by omega),h0,h1]
   exact hk
 refine⟨fun t=>?_,hi.pw,hi.v⟩
 rw[<-hi.h t (fun h=>absurd h (Nat.lt_irrefl _)),hon]
 exact⟨.inl,fun h=>h.resolve_right (fun h=>by cases h.1)⟩
end
def sumT (d:Ev->Int):List Ev->Int
 |[]=>0
 |x::l=>d x+sumT d l
theorem ZaN (d:Ev->Int):∀l m,sumT d (l++m)=sumT d l+sumT d m
 |[],m=>by simp[sumT]
 |x::l,m=>by rw[Wf,sumT,sumT,ZaN d l m];omega
theorem ZbN {d:Ev->Int}{l m:List Ev}(h:l.Perm m):sumT d l=sumT d m:=by
 induction h with
 |nil=>rfl
 |cons x _ ih=>rw[sumT,sumT,ih]
 |swap x y l=>simp only[sumT];omega
 |trans _ _ h1 h2=>exact h1.trans h2
theorem ZdM {d:Ev->Int}{l:List Ev}(f:Nat->Int)(h0:f 0=0)(hs:∀m,f (m+1)=f m+d (gi l (m:Int))):∀k,k<=l.length->sumT d (l.take k)=f k
 |0,_=>by simp[sumT,h0]
 |k+1,hk=>by
  rw[Zgf (by omega),ZaN,ZdM f h0 hs k (by omega),hs]
  simp[sumT]
theorem Zf1 (kp:Bool->Bool->Bool)(l:List Ev):(sws kp l l.length).n0=sumT Ev.n0 l/\(sws kp l l.length).n1=sumT Ev.n1 l:=by
 constructor
 ·rw[<-ZdM (l:=l) (fun m=>(sws kp l m).n0) rfl Zft l.length (Wl _),List.take_length]
 ·rw[<-ZdM (l:=l) (fun m=>(sws kp l m).n1) rfl Zfj l.length (Wl _),List.take_length]
theorem Zd3 (is:List Za):∀m,(sumT Ev.n0 (evA is m)=0/\sumT Ev.n1 (evA is m)=0)/\sumT Ev.n0 (evB is m)=0/\sumT Ev.n1 (evB is m)=0
 |0=>by simp[evA,evB,sumT]
 |m+1=>by
  obtain⟨⟨h1,h2⟩,h3,h4⟩:=Zd3 is m
  rw[evA,evB,ZaN,ZaN,ZaN,ZaN,h1,h2,h3,h4]
  simp[sumT]
theorem Zls {i:Za}(h:bLe (bdF i) (bdL i))(t:Ri):(open Classical in (if bAt (bdF i) t then(1:Int) else 0)+((if bAt (bdL i) t then-1 else 0)+0))=(open Classical in if memI i t then 1 else 0):=by
 have:=ZfP (I:=i) (t:=t)
 have h2:=fun k=>ZcF (t:=t) h k
 by_cases h3:bAt (bdF i) t <;> by_cases h4:bAt (bdL i) t <;> simp_all
theorem Zpd (p:Prop)[Decidable p]:(if p then(0:Int) else 0)=0:=by split <;> rfl
theorem Zjb {is:List Za}(h:∀i∈is,bLe (bdF i) (bdL i))(t:Ri):∀m,m<=is.length->cntT Ev.n1 t (evA is m)=0/\0<=cntT Ev.n0 t (evA is m)/\(0<cntT Ev.n0 t (evA is m)↔∃j:Nat,j<m/\memI (gi is (j:Int)) t)
 |0,_=>by simp[evA,cntT]
 |m+1,hm=>by
  obtain⟨h1,h2,h3⟩:=Zjb h t m (by omega)
  have h4:=Zls (h _ (Zt (xs:=is) (i:=(m:Int)) (by omega))) t
  have e:(∃j:Nat,j<m+1/\memI (gi is (j:Int)) t)↔(∃j:Nat,j<m/\memI (gi is (j:Int)) t)\/memI (gi is (m:Int)) t:=by
   constructor
   ·rintro⟨j,hj,hm⟩
    by_cases e:j=m
    ·exact .inr (e▸hm)
    ·exact .inl ⟨j,by omega,hm⟩
   ·rintro(⟨j,hj,hm⟩|hm)
    ·exact⟨j,by omega,hm⟩
    ·exact⟨m,by omega,hm⟩
  rw[e,<-h3,evA,Za8,Za8,h1]
  simp only[cntT,Zpd]
  rw[h4]
  refine⟨by omega, ?_⟩
  by_cases h5:memI (gi is (m:Int)) t
  ·rw[if_pos h5];exact⟨by omega,by simp only[h5,or_true,iff_true];omega⟩
  ·rw[if_neg h5];exact⟨by omega,by simp only[h5,or_false];omega⟩
theorem Zj2 {is:List Za}(h:∀i∈is,bLe (bdF i) (bdL i))(t:Ri):∀m,m<=is.length->cntT Ev.n0 t (evB is m)=0/\0<=cntT Ev.n1 t (evB is m)/\(0<cntT Ev.n1 t (evB is m)↔∃j:Nat,j<m/\memI (gi is (j:Int)) t)
 |0,_=>by simp[evB,cntT]
 |m+1,hm=>by
  obtain⟨h1,h2,h3⟩:=Zj2 h t m (by omega)
  have h4:=Zls (h _ (Zt (xs:=is) (i:=(m:Int)) (by omega))) t
  have e:(∃j:Nat,j<m+1/\memI (gi is (j:Int)) t)↔(∃j:Nat,j<m/\memI (gi is (j:Int)) t)\/memI (gi is (m:Int)) t:=by
   constructor
   ·rintro⟨j,hj,hm⟩
    by_cases e:j=m
    ·exact .inr (e▸hm)
    ·exact .inl ⟨j,by omega,hm⟩
   ·rintro(⟨j,hj,hm⟩|hm)
    ·exact⟨j,by omega,hm⟩
    ·exact⟨m,by omega,hm⟩
  rw[e,<-h3,evB,Za8,Za8,h1]
  simp only[cntT,Zpd]
  rw[h4]
  refine⟨by omega, ?_⟩
  by_cases h5:memI (gi is (m:Int)) t
  ·rw[if_pos h5];exact⟨by omega,by simp only[h5,or_true,iff_true];omega⟩
  ·rw[if_neg h5];exact⟨by omega,by simp only[h5,or_false];omega⟩
theorem Zs9 {is:List Za}{t:Ri}:(∃j:Nat,j<is.length/\memI (gi is (j:Int)) t)↔∃i∈is,memI i t:=by
 constructor
 ·rintro⟨j,hj,hm⟩
  exact⟨_,Zt (xs:=is) (i:=(j:Int)) (by omega),hm⟩
 ·rintro⟨i,hi,hm⟩
  obtain⟨j,hj,rfl⟩:=List.getElem_of_mem hi
  exact⟨j,hj,by rw[Zr hj];exact hm⟩
theorem ZrE (xs:List Ev)(j:Nat):swpE xs j=swpG xs j:=rfl
theorem ZlM :∀(j:Nat)(xs:List Ev),dwnE xs j=dwnG cmpE xs j
 |0,_=>rfl
 |j+1,xs=>by rw[dwnE,dwnG,ZlM j,ZrE]
theorem ZgU (xs:List Ev):∀i,srtE xs i=srtG cmpE xs i
 |0=>rfl
 |i+1=>by rw[srtE,srtG,ZlM,ZgU xs i]
theorem Zc3 (xs:List Ev):(srtE xs (xs.length-1)).Perm xs:=by
 rcases xs with _|⟨u,us⟩
 ·exact .refl _
 ·rw[ZgU]
  exact Zc2 _ _ _ (by simp)
theorem ZhJ (xs:List Ev)(p q:Nat)(hpq:p<q)(hq:q<(srtE xs (xs.length-1)).length):bLe (gi (srtE xs (xs.length-1)) (p:Int)).b (gi (srtE xs (xs.length-1)) (q:Int)).b:=by
 rw[(Zc3 xs).length_eq] at hq
 rw[ZgU]
 exact ZeH (c:=cmpE) (le:=fun x y=>bLe x.b y.b) (fun _ _=>ZpZ) (fun _ _=>ZfZ) (fun _ _ _=>Zq8) xs (xs.length-1) (by omega) p q hpq (by omega)
theorem evK2 (is js:List Za):evK is js 2=evA is is.length++evB js js.length:=rfl
theorem ZnP {kp:Bool->Bool->Bool}(hk:kp false false=false){is js:List Za}(h:∀i∈is,bLe (bdF i) (bdL i))(h':∀i∈js,bLe (bdF i) (bdL i)):
  (∀t,(∃i∈swpR kp is js,memI i t)↔(open Classical in kp (decide (∃i∈is,memI i t)) (decide (∃i∈js,memI i t)))=true)/\(swpR kp is js).Pairwise (fun i j=>bLt (bdL i) (bdF j))/\∀i∈swpR kp is js,bLt (bdF i) (bdL i):=by
 have hp:=Zc3 (evK is js 2)
 obtain⟨h1,h2⟩:=Zf1 kp (srtE (evK is js 2) ((evK is js 2).length-1))
 obtain⟨⟨a1,a2⟩,a3,a4⟩:=Zd3 is is.length
 obtain⟨⟨b1,b2⟩,b3,b4⟩:=Zd3 js js.length
 rw[ZbN hp,evK2,ZaN,a1,b3] at h1
 rw[ZbN hp,evK2,ZaN,a2,b4] at h2
 obtain⟨h3,h4,h5⟩:=ZfH (kp:=kp) (ZhJ (evK is js 2)) hk (by rw[evK2];exact h1) (by rw[evK2];exact h2)
 refine⟨fun t=>?_,h4,h5⟩
 rw[swpR,h3 t,keeps,ZbL hp,ZbL hp,evK2,Za8,Za8]
 obtain⟨c1,c2,c3⟩:=Zjb h t is.length (Wl _)
 obtain⟨d1,d2,d3⟩:=Zj2 h' t js.length (Wl _)
 rw[c1,d1,Int.add_zero,Int.zero_add]
 rw[Zs9] at c3 d3
 rw[show decide (0<cntT Ev.n0 t (evA is is.length))=(open Classical in decide (∃i∈is,memI i t)) from decide_eq_decide.2 c3,show decide (0<cntT Ev.n1 t (evB js js.length))=(open Classical in decide (∃i∈js,memI i t)) from decide_eq_decide.2 d3]
theorem Zib {Pb:Bd->Prop}{is:List Za}(h:∀i∈is,Pb (bdF i)/\Pb (bdL i)):∀m,m<=is.length->(∀x∈evA is m,Pb x.b)/\∀x∈evB is m,Pb x.b
 |0,_=>⟨fun x hx=>(by cases hx),fun x hx=>(by cases hx)⟩
 |m+1,hm=>by
  obtain⟨h1,h2⟩:=Zib h m (by omega)
  obtain⟨h3,h4⟩:=h _ (Zt (xs:=is) (i:=(m:Int)) (by omega))
  constructor
  ·intro x hx
   rw[evA] at hx
   rcases List.mem_append.1 hx with h5|h5
   ·exact h1 x h5
   ·rcases List.mem_cons.1 h5 with rfl|h5
    ·exact h3
    ·rw[List.mem_singleton.1 h5];exact h4
  ·intro x hx
   rw[evB] at hx
   rcases List.mem_append.1 hx with h5|h5
   ·exact h2 x h5
   ·rcases List.mem_cons.1 h5 with rfl|h5
    ·exact h3
    ·rw[List.mem_singleton.1 h5];exact h4
theorem ZpG {Pb:Bd->Prop}(kp:Bool->Bool->Bool){is js:List Za}(h:∀i∈is,Pb (bdF i)/\Pb (bdL i))(h':∀i∈js,Pb (bdF i)/\Pb (bdL i)):∀i∈swpR kp is js,Pb (bdF i)/\Pb (bdL i):=by
 refine(Zht (kp:=kp) (l:=srtE (evK is js 2) ((evK is js 2).length-1)) (Pb:=Pb) (fun x hx=>?_) _ (Wl _)).2
 have hx:=(Zc3 (evK is js 2)).mem_iff.1 hx
 rw[evK2] at hx
 rcases List.mem_append.1 hx with h1|h1
 ·exact(Zib h is.length (Wl _)).1 x h1
 ·exact(Zib h' js.length (Wl _)).2 x h1
end
section
open Fv (va red)
instance fvU :Fv Unit Ri Unit:=⟨fun _ _=>(),fun f _=>f,fun _ _=>rfl,fun _ _ _ _=>rfl,fun _ _ _ _ _ _=>rfl⟩
noncomputable def absI (I:Za):GU Ri Unit:=⟨ri I.From,ri I.To,I.OpenFrom,I.OpenTo,()⟩
structure Sep (l:List Za):Prop where
 p:l.Pairwise (fun i j=>bLt (bdL i) (bdF j))
 v:∀i∈l,bLt (bdF i) (bdL i)
theorem ZcD {i:Za}:okI i↔bLt (bdF i) (bdL i):=by
 unfold okI bLt bdF bdL
 rcases i.OpenFrom <;> rcases i.OpenTo <;> simp
theorem Sep.nf {l:List Za}(h:Sep l):NF (l.map absI):=by
 refine⟨fun u hu=>?_,fun u hu _=>rfl, ?_⟩
 ·obtain⟨i,hi,rfl⟩:=List.mem_map.1 hu
  exact ZcD.2 (h.v i hi)
 ·rw[List.pairwise_map]
  refine List.Pairwise.imp_of_mem (fun {i j} hi hj hb=>?_) h.p
  have hv:=ZcD.2 (h.v i hi)
  unfold okI at hv
  unfold bLt bdL bdF at hb
  rcases hb with hb|⟨e,h1,h2⟩
  ·have hb:ri i.To<ri j.From:=hb
   exact⟨.inl hb,fun e=>absurd (show ri i.To=ri j.From from e) (by grind),fun e=>absurd (show ri i.To=ri j.From from e) (by grind),fun e=>absurd (show ri i.To=ri j.From from e) (by grind)⟩
  ·have e:ri i.To=ri j.From:=e
   have h1:i.OpenTo=true:=by simpa using h1
   have h2:j.OpenFrom=true:=h2
   exact⟨.inr ⟨e, .inl h1⟩,fun _ k=>absurd (show i.OpenTo=false from k) (by simp[h1]),fun _ k=>absurd (show j.OpenFrom=false from k) (by simp[h2]),fun _ k=>absurd (show ri i.From=ri i.To from k) (hv.elim (fun hv=>by grind) (fun hv=>by rw[h1] at hv;cases hv.2.2))⟩
theorem Zie {l:List Za}{t:Ri}{v:Unit}:Has (l.map absI) t v↔∃i∈l,memI i t:=by
 constructor
 ·rintro⟨u,hu,hm,_⟩
  obtain⟨i,hi,rfl⟩:=List.mem_map.1 hu
  exact⟨i,hi,hm⟩
 ·rintro⟨i,hi,hm⟩
  exact⟨absI i,List.mem_map.2 ⟨i,hi,rfl⟩,hm,rfl⟩
theorem Sep.uniq {l m:List Za}(h:Sep l)(k:Sep m)(H:∀t,(∃i∈l,memI i t)↔∃i∈m,memI i t):l.map absI=m.map absI:=
 NF.uniq h.nf k.nf (fun t v=>by rw[Zie,Zie];exact H t)
theorem Znx {i j:Za}(hi:(rvR i.From).ok/\(rvR i.To).ok)(hj:(rvR j.From).ok/\(rvR j.To).ok)(h:absI i=absI j):i=j:=by
 obtain⟨f,t,o,c⟩:=i
 obtain⟨f',t',o',c'⟩:=j
 unfold absI at h
 injection h with h1 h2 h3 h4 h5
 dsimp only at h1 h2 h3 h4 hi hj
 have e1:=(Zcm hi.1 hj.1).1 h1
 have e2:=(Zcm hi.2 hj.2).1 h2
 subst e1 e2 h3 h4
 rfl
theorem Zgw :∀{l m:List Za},(∀i∈l,(rvR i.From).ok/\(rvR i.To).ok)->(∀i∈m,(rvR i.From).ok/\(rvR i.To).ok)->l.map absI=m.map absI->l=m
 |[],[],_,_,_=>rfl
 |[],_::_,_,_,h=>by simp at h
 |_::_,[],_,_,h=>by simp at h
 |u::l,w::m,hl,hm,h=>by
  simp only[List.map_cons,List.cons.injEq] at h
  rw[Znx (hl u (.head _)) (hm w (.head _)) h.1,Zgw (fun x hx=>hl x (.tail _ hx)) (fun x hx=>hm x (.tail _ hx)) h.2]
theorem Sep.eq {l m:List Za}(h:Sep l)(k:Sep m)(hl:∀i∈l,(rvR i.From).ok/\(rvR i.To).ok)(hm:∀i∈m,(rvR i.From).ok/\(rvR i.To).ok)(H:∀t,(∃i∈l,memI i t)↔∃i∈m,memI i t):l=m:=Zgw hl hm (h.uniq k H)
theorem Zqi {kp:Bool->Bool->Bool}(hk:kp false false=false){xs es:List Ev}(h:SoR cmpE xs es)(hok:∀u∈xs,BdOk u.b)(h0:sumT Ev.n0 xs=0)(h1:sumT Ev.n1 xs=0):(sws kp es es.length).out=(sws kp (srtE xs (xs.length-1)) (srtE xs (xs.length-1)).length).out:=by
 have hp:=Zc3 xs
 have a:=Zf1 kp es
 have b:=Zf1 kp (srtE xs (xs.length-1))
 rw[ZbN h.p,ZbN h.p,h0,h1] at a
 rw[ZbN hp,ZbN hp,h0,h1] at b
 obtain⟨a1,a2,a3⟩:=ZfH (kp:=kp) (l:=es) (fun p q hpq hq=>ZfZ (h.o p q hpq hq)) hk a.1 a.2
 obtain⟨b1,b2,b3⟩:=ZfH (kp:=kp) (ZhJ xs) hk b.1 b.2
 have hb:∀ys:List Ev,ys.Perm xs->∀i∈(sws kp ys ys.length).out,(rvR i.From).ok/\(rvR i.To).ok:=fun ys hy i hi=>by
  have:=(Zht (kp:=kp) (l:=ys) (Pb:=fun b=>(rvR b.at_).ok) (fun x hx=>(hok x (hy.mem_iff.1 hx)).o.o) ys.length (Wl _)).2 i hi
  exact this
 refine Sep.eq ⟨a2,a3⟩ ⟨b2,b3⟩ (hb es h.p) (hb _ hp) fun t=>?_
 rw[a1,b1]
 unfold keeps
 rw[ZbL h.p,ZbL h.p,ZbL hp,ZbL hp]
end
end Go.Vt
