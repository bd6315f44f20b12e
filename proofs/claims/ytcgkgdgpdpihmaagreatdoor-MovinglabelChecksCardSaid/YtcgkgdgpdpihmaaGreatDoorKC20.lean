/- For any up to 12 units whose ends have up to 20 bytes, and for any decoded moving label (up to 8 stretches), Check returns OK or the first error. Conditions: none. (part 20 of 28.) Conditions: those that each statement names. -/
import Derived.Test.YtcgkgdgpdpihmaaGreatDoorProg
import Derived.Test.YtcgkgdgpdpihmaaGreatDoorKC15
import Derived.Test.YtcgkgdgpdpihmaaGreatDoorKC17
import Derived.Test.YtcgkgdgpdpihmaaGreatDoorKC19
set_option linter.unusedSimpArgs false
set_option linter.unusedVariables false
set_option maxHeartbeats 2000000
set_option maxRecDepth 100000
set_option linter.unusedSectionVars false
namespace Go.Vt
open Go.RowKit Go.Proofs
open Go.Proofs.Tryz (prog)
section
open Fv (va red)
section
variable {α : Type} [Inhabited α]
def swpG (xs:List α)(j:Nat):List α:=(xs.set (j+1) (gi xs (j:Int))).set j (gi xs ((j+1:Nat):Int))
def dwnG (c:α->α->Int)(xs:List α):Nat->List α
 |0=>xs
 |j+1=>if c (gi xs ((j+1:Nat):Int)) (gi xs (j:Int))<0 then dwnG c (swpG xs j) j else xs
def srtG (c:α->α->Int)(xs:List α):Nat->List α
 |0=>xs
 |i+1=>dwnG c (srtG c xs i) (i+1)
theorem ZcP (xs:List α)(j:Nat):(swpG xs j).length=xs.length:=by simp[swpG]
theorem Zf5 {xs:List α}{j p:Nat}(h:j+1<xs.length)(hp:p<xs.length):gi (swpG xs j) (p:Int)=if p=j then gi xs ((j+1:Nat):Int) else if p=j+1 then gi xs (j:Int) else gi xs (p:Int):=by
 rw[Zw (by rw[ZcP];exact hp)]
 unfold swpG
 rw[List.getElem_set,List.getElem_set]
 by_cases h1:p=j
 ·subst h1;simp
 ·rw[if_neg (fun h=>h1 h.symm),if_neg h1]
  by_cases h2:p=j+1
  ·subst h2;simp
  ·rw[if_neg (fun h=>h2 h.symm),if_neg h2,Zw hp]
theorem Zmh {xs:List α}{j:Nat}(h:j+1<xs.length):(swpG xs j).Perm xs:=by
 have e:xs=xs.take j++xs[j]::xs[j+1]::xs.drop (j+2):=by
  rw[<-List.drop_eq_getElem_cons h,<-List.drop_eq_getElem_cons (by omega),List.take_append_drop]
 have e2:swpG xs j=xs.take j++xs[j+1]::xs[j]::xs.drop (j+2):=by
  apply List.ext_getElem
  ·rw[ZcP]
   simp only[Wp,Wt,Wu,List.length_drop]
   omega
  ·intro p h1 h2
   have hp:p<xs.length:=by rw[ZcP] at h1;exact h1
   have h3:=Zf5 h hp
   rw[Zw h1,Zw h,Zw (show j<xs.length by omega),Zw hp] at h3
   rw[h3,List.getElem_append]
   simp only[Wt,Nat.min_eq_left (show j<=xs.length by omega)]
   by_cases h4:p<j
   ·rw[dif_pos h4,if_neg (by omega),if_neg (by omega)]
    simp
   ·rw[dif_neg h4]
    by_cases h5:p=j
    ·subst h5;simp
    ·rw[if_neg h5]
     by_cases h6:p=j+1
     ·subst h6;simp
     ·rw[if_neg h6]
      obtain⟨q,rfl⟩:∃q,p=j+2+q:=⟨p-(j+2),by omega⟩
      simp only[show j+2+q-j=q+1+1 by omega,List.getElem_cons_succ,List.getElem_drop]
 have h7:(xs.take j++xs[j+1]::xs[j]::xs.drop (j+2)).Perm (xs.take j++xs[j]::xs[j+1]::xs.drop (j+2)):=(List.Perm.swap _ _ _).append_left _
 rw[e2]
 exact h7.trans (by rw[<-e])
theorem Zgr (c:α->α->Int):∀(j:Nat)(xs:List α),j<xs.length->(dwnG c xs j).Perm xs
 |0,_,_=> .refl _
 |j+1,xs,h=>by
  rw[dwnG]
  split
  ·exact(Zgr c j _ (by rw[ZcP];omega)).trans (Zmh h)
  ·exact .refl _
theorem Zc8 (c:α->α->Int)(xs:List α):∀i,i<xs.length->(srtG c xs i).Perm xs
 |0,_=> .refl _
 |i+1,h=>by
  have h1:=Zc8 c xs i (by omega)
  rw[srtG]
  exact(Zgr c _ _ (by rw[h1.length_eq];exact h)).trans h1
section
variable {c : α -> α -> Int} {le : α -> α -> Prop} (h1 : ∀ x y, c x y < 0 -> le x y) (h2 : ∀ x y, ¬ c x y < 0 -> le y x) (h3 : ∀ x y z, le x y -> le y z -> le x z)
include h1 h2 h3
theorem Zhx :∀(j n:Nat)(xs:List α),j<n->n<=xs.length->(∀p q:Nat,p<q->q<n->q≠j->le (gi xs (p:Int)) (gi xs (q:Int)))->∀p q:Nat,p<q->q<n->le (gi (dwnG c xs j) (p:Int)) (gi (dwnG c xs j) (q:Int))
 |0,n,xs,_,_,H,p,q,hpq,hq=>H p q hpq hq (by omega)
 |j+1,n,xs,hj,hn,H,p,q,hpq,hq=>by
  rw[dwnG]
  split
  ·rename_i hc
   refine Zhx j n (swpG xs j) (by omega) (by rw[ZcP];exact hn) (fun p q hpq hq hqj=>?_) p q hpq hq
   rw[Zf5 (by omega) (by omega),Zf5 (by omega) (by omega),if_neg hqj]
   by_cases e1:q=j+1
   ·rw[if_pos e1]
    by_cases e2:p=j
    ·rw[if_pos e2];exact h1 _ _ hc
    ·rw[if_neg e2,if_neg (by omega)];exact H p j (by omega) (by omega) (by omega)
   ·rw[if_neg e1]
    by_cases e2:p=j
    ·rw[if_pos e2];exact H (j+1) q (by omega) hq e1
    ·rw[if_neg e2]
     by_cases e3:p=j+1
     ·rw[if_pos e3];exact H j q (by omega) hq e1
     ·rw[if_neg e3];exact H p q hpq hq e1
  ·rename_i hc
   have h4:=h2 _ _ hc
   by_cases e1:q=j+1
   ·subst e1
    by_cases e2:p=j
    ·subst e2;exact h4
    ·exact h3 _ _ _ (H p j (by omega) (by omega) (by omega)) h4
   ·exact H p q hpq hq e1
theorem Ze5 (xs:List α):∀i,i<xs.length->∀p q:Nat,p<q->q<i+1->le (gi (srtG c xs i) (p:Int)) (gi (srtG c xs i) (q:Int))
 |0,_,p,q,_,_=>by omega
 |i+1,h,p,q,hpq,hq=>by
  have hl:=(Zc8 c xs i (by omega)).length_eq
  rw[srtG]
  exact Zhx h1 h2 h3 (i+1) (i+2) _ (by omega) (by omega) (fun p q hpq hq hne=>Ze5 xs i (by omega) p q hpq (by omega)) p q hpq hq
end
end
noncomputable instance :Fv Int Ri Int where
 va f _:=f
 red f _:=f
 va_red _ _:=rfl
 red_eq _ _ _ h:=h
 agree f g a b h hv:=by
  obtain⟨c,h1,h2⟩:=Dns.out a b h
  exact hv c h1 h2
theorem Zjt {f g:Int}{t:Ri}:f=g↔va f t=va g t:=Iff.rfl
noncomputable def absU (u:UL):GU Ri Int:=⟨ri u.In.From,ri u.In.To,u.In.OpenFrom,u.In.OpenTo,u.F⟩
abbrev RtOk (x:Rl):Prop:=(rvR x).ok
theorem Za9 {x y:Rl}(hx:RtOk x)(hy:RtOk y):x=y↔ri x=ri y:=(ZcN hx hy).symm
theorem IvOk.rf {K:Nat}{I:Za}(h:IvOk K I):RtOk I.From:=h.a.o
theorem IvOk.rt {K:Nat}{I:Za}(h:IvOk K I):RtOk I.To:=h.b.o
theorem ZnE {K K':Nat}{u w:UL}(hu:IvOk K u.In)(hw:IvOk K' w.In)(h:absU u=absU w):u=w:=by
 obtain⟨⟨f,t,o,c⟩,F⟩:=u
 obtain⟨⟨f',t',o',c'⟩,F'⟩:=w
 unfold absU at h
 injection h with h1 h2 h3 h4 h5
 simp only at h1 h2 h3 h4 h5
 have e1:=(Za9 hu.rf hw.rf).2 h1
 have e2:=(Za9 hu.rt hw.rt).2 h2
 simp only at e1 e2
 subst e1
 subst e2
 subst h3
 subst h4
 subst h5
 rfl
theorem ZeU {K K':Nat}:∀{l m:List UL},(∀u∈l,IvOk K u.In)->(∀u∈m,IvOk K' u.In)->l.map absU=m.map absU->l=m
 |[],[],_,_,_=>rfl
 |[],_::_,_,_,h=>by simp at h
 |_::_,[],_,_,h=>by simp at h
 |u::l,w::m,hl,hm,h=>by
  simp only[List.map_cons,List.cons.injEq] at h
  rw[ZnE (hl u (.head _)) (hm w (.head _)) h.1,ZeU (fun x hx=>hl x (.tail _ hx)) (fun x hx=>hm x (.tail _ hx)) h.2]
theorem ZdE {u w:UL}:aprt u.In w.In=true↔(absU u).bfr (absU w):=by
 unfold aprt GU.bfr absU
 simp[Zal,Zao]
theorem ZtK (xs:List UL)(j:Nat):swp xs j=swpG xs j:=rfl
theorem Zph :∀(j:Nat)(xs:List UL),dwn xs j=dwnG cmpU xs j
 |0,_=>rfl
 |j+1,xs=>by rw[dwn,dwnG,Zph j,ZtK]
theorem ZkG (xs:List UL):∀i,srt xs i=srtG cmpU xs i
 |0=>rfl
 |i+1=>by rw[srt,srtG,Zph,ZkG xs i]
theorem Ze3 (us:List UL):(sor us).Perm us:=by
 rcases us with _|⟨u,us⟩
 ·exact .refl _
 ·unfold sor
  rw[ZkG]
  exact Zc8 _ _ _ (by simp)
def leU (u w:UL):Prop:=ri u.In.From<ri w.In.From\/(ri u.In.From=ri w.In.From/\opn u.In<=opn w.In)
theorem Zgj {a b:Int}:Lib.compareInt a b<0↔a<b:=by
 unfold Lib.compareInt
 split
 ·omega
 ·split <;> omega
theorem Zg0 {a b:Int}:Lib.compareInt a b=0↔a=b:=by
 unfold Lib.compareInt
 split
 ·omega
 ·split <;> omega
theorem Zqk {u w:UL}(h:cmpU u w<0):leU u w:=by
 unfold cmpU orL at h
 split at h
 ·rename_i h1
  have h1:=Zao.1 h1
  refine .inr ⟨h1, ?_⟩
  unfold orL at h
  split at h
  ·rename_i h2
   have:=Zg0.1 h2
   omega
  ·have:=Zgj.1 h
   omega
 ·exact .inl (Zal.1 h)
theorem ZqV {u w:UL}(h:¬cmpU u w<0):leU w u:=by
 unfold cmpU orL at h
 split at h
 ·rename_i h1
  have h1:=Zao.1 h1
  refine .inr ⟨h1.symm, ?_⟩
  unfold orL at h
  split at h
  ·rename_i h2
   have:=Zg0.1 h2
   omega
  ·have:¬opn u.In<opn w.In:=fun k=>h (Zgj.2 k)
   omega
 ·rename_i h1
  refine .inl ?_
  have h2:¬ri u.In.From<ri w.In.From:=fun k=>h (Zal.2 k)
  have h3:¬ri u.In.From=ri w.In.From:=fun k=>h1 (Zao.2 k)
  grind
theorem Zry {u v w:UL}(h:leU u v)(k:leU v w):leU u w:=by
 unfold leU at*
 rcases h with h|⟨h1,h2⟩ <;> rcases k with k|⟨k1,k2⟩
 ·exact .inl (by grind)
 ·exact .inl (by grind)
 ·exact .inl (by grind)
 ·exact .inr ⟨by grind,by omega⟩
theorem Zqz (us:List UL)(p q:Nat)(hpq:p<q)(hq:q<us.length):leU (gi (sor us) (p:Int)) (gi (sor us) (q:Int)):=by
 unfold sor
 rw[ZkG]
 exact Ze5 (c:=cmpU) (le:=leU) (fun _ _=>Zqk) (fun _ _=>ZqV) (fun _ _ _=>Zry) us (us.length-1) (by omega) p q hpq (by omega)
theorem ZlR {u:UL}{K:Nat}(h:IvOk K u.In):(atU u).map absU=(absU u).parts:=by
 have e:(u.In.From=u.In.To)↔(absU u).a=(absU u).b:=Za9 h.rf h.rt
 unfold atU GU.parts
 rw[List.map_append]
 congr 1
 ·show List.map absU (if u.In.OpenFrom=true then [] else _)=if u.In.OpenFrom=true then [] else _
  split <;> rfl
 ·by_cases hi:u.In.From=u.In.To
  ·rw[if_pos hi,if_pos (e.1 hi)]
   rfl
  ·rw[if_neg hi,if_neg (fun k=>hi (e.2 k))]
   show List.map absU (_::if u.In.OpenTo=true then [] else _)=_::if u.In.OpenTo=true then [] else _
   split <;> rfl
theorem Zi8 {us:List UL}{K:Nat}(h:∀u∈us,IvOk K u.In):∀m,m<=us.length->(atm us m).map absU=partsL ((us.take m).map absU)
 |0,_=>rfl
 |m+1,hm=>by
  have hg:=Zw (xs:=us) (i:=m) (by omega)
  rw[atm,List.map_append,Zi8 h m (by omega),ZlR (h _ (ZA (by omega))),Wn (by omega),List.map_append,partsL,partsL,List.flatMap_append,hg]
  simp
theorem Za6 (ys:List UL)(u:UL):lstU (ys++[u])=u:=by
 unfold lstU
 rw[Zbk (by simp only[Wp,List.length_singleton];omega)]
 simp only[Wp,List.length_singleton]
 rw[List.getElem_append_right (by omega)]
 simp
theorem Zgw (ys:List UL)(u w:UL):turn (ys++[u]) w=ys++[w]:=by
 unfold turn
 simp
theorem Zj9 {u:UL}{K:Nat}(h:IvOk K u.In):isI u=true↔(absU u).a=(absU u).b:=by
 unfold isI
 rw[decide_eq_true_iff]
 exact Za9 h.rf h.rt
theorem ZcG {ys':List UL}{u':UL}{ys:List (GU Ri Int)}{u:GU Ri Int}(h:(ys'++[u']).map absU=ys++[u]):u=absU u':=by
 rw[List.map_append] at h
 exact(Zba h).2.symm
theorem ZdP (zs:List UL)(w:UL)(t:Zi):bef (zs++[w]) t=(decide (w.In.To=t)&& !decide (w.In.From=w.In.To)):=by
 unfold bef
 rw[Za6,Wc (by simp:0<(zs++[w]).length),Bool.true_and]
theorem Zoy (zs:List UL)(w:UL)(t:Zi):hld (zs++[w]) t=(decide (w.In.To=t)&& !w.In.OpenTo):=by
 unfold hld
 rw[Za6,Wc (by simp:0<(zs++[w]).length),Bool.true_and]
noncomputable def pvO (al:List UL)(i:Nat):Option (GU Ri Int):=if i=0 then none else some (absU (gi al ((i:Int)-1)))
noncomputable def nxO (al:List UL)(i:Nat):Option (GU Ri Int):=if i+1<al.length then some (absU (gi al ((i:Int)+1))) else none
theorem Zns {xs:List UL}(hxs:∀v∈xs,UOk v){t:Zi}(ht:RtOk t):hld xs t=true↔Held (xs.map absU) (ri t):=by
 rcases ZaN xs with rfl|⟨zs,w,rfl⟩
 ·unfold hld Held
  simp
 ·rw[Zoy]
  have hw:=hxs w (by simp)
  simp only[Wq,decide_eq_true_eq,Bool.not_eq_true']
  rw[Za9 hw.i.rt ht]
  constructor
  ·rintro⟨h1,h2⟩
   exact⟨zs.map absU,absU w,by simp,h1,h2⟩
  ·rintro⟨ys,u,h1,h2,h3⟩
   have:=ZcG h1
   subst this
   exact⟨h2,h3⟩
theorem Zqa {al xs:List UL}{i:Nat}{x:UL}(hi:i<al.length)(hal:∀u∈al,UIn u)(hx:UIn x)(hxs:∀v∈xs,UOk v):Stp (pvO al i) (nxO al i) (xs.map absU) (absU x) ((nstp al i xs x).map absU):=by
 have hprev:∀q,pvO al i=some q->0<i/\q=absU (gi al ((i:Int)-1))/\UIn (gi al ((i:Int)-1)):=fun q hq=>by
  unfold pvO at hq
  split at hq
  ·cases hq
  ·injection hq with hq
   exact⟨by omega,hq.symm,hal _ (ZA (by omega))⟩
 have hI:=Zj9 hx.i
 unfold nstp
 by_cases hi0:isI x=true
 ·have hie:=hI.1 hi0
  rw[if_neg (by rw[hi0];decide)]
  have noClo:cC xs x=false->NoClo (xs.map absU) (absU x):=fun hC ys u h e1 e2 e3=>by
   rcases ZaN xs with rfl|⟨zs,w,rfl⟩
   ·simp at h
   ·have:=ZcG h
    subst this
    have hw:=hxs w (by simp)
    have h2:cC (zs++[w]) x=true:=by
     unfold cC
     rw[ZdP,Za6,Wc (Zjt.2 e3:w.F=x.F),Wc ((Za9 hw.i.rt hx.i.rf).2 e1),We (fun k=>e2 ((Za9 hw.i.rf hw.i.rt).1 k))]
     rfl
    rw[hC] at h2
    cases h2
  by_cases hC:cC xs x=true
  ·rw[if_pos hC]
   rcases ZaN xs with rfl|⟨zs,w,rfl⟩
   ·cases hC
   ·have hw:=hxs w (by simp)
    unfold cC at hC
    rw[ZdP,Za6] at hC
    simp only[Wq,decide_eq_true_eq,Bool.not_eq_true',decide_eq_false_iff_not] at hC
    rw[Zgw,Za6,List.map_append,List.map_append]
    exact .clo hie ((Za9 hw.i.rt hx.i.rf).1 hC.1.1) (fun k=>hC.1.2 ((Za9 hw.i.rf hw.i.rt).2 k)) (Zjt.1 hC.2)
  ·rw[if_neg hC]
   have hno:=noClo (by simpa using hC)
   have hnx:cD al i x=true↔NxI (nxO al i) (absU x):=by
    unfold cD NxI nxO
    by_cases h1:i+1<al.length
    ·rw[Wc h1,if_pos h1,Bool.true_and]
     have hn:=hal _ (ZA (i:=(i:Int)+1) (xs:=al) (by omega))
     simp only[Wq,decide_eq_true_eq,Option.some.injEq]
     rw[Za9 hn.i.rf hx.i.rf]
     constructor
     ·rintro⟨h2,h3⟩
      exact⟨_,rfl,h2,h3⟩
     ·rintro⟨n,rfl,h2,h3⟩
      exact⟨h2,h3⟩
    ·rw[We h1,if_neg h1]
     simp
   by_cases hD:cD al i x=true
   ·rw[if_pos hD]
    exact .lft hie hno (hnx.1 hD)
   ·rw[if_neg hD,List.map_append]
    exact .rdc hie hno (fun k=>hD (hnx.2 k))
 ·have hie:(absU x).a≠(absU x).b:=fun k=>hi0 (hI.2 k)
  rw[if_pos (by simpa using hi0)]
  by_cases hA:cA xs x=true
  ·rw[if_pos hA]
   rcases ZaN xs with rfl|⟨zs,w,rfl⟩
   ·cases hA
   ·have hw:=hxs w (by simp)
    unfold cA at hA
    rw[ZdP,Za6] at hA
    simp only[Wq,decide_eq_true_eq,Bool.not_eq_true',decide_eq_false_iff_not] at hA
    rw[Zgw,Za6,List.map_append,List.map_append]
    exact .ext hie ((Za9 hw.i.rt hx.i.rf).1 hA.1.1) (fun k=>hA.1.2 ((Za9 hw.i.rf hw.i.rt).2 k)) hA.2.1 hA.2.2
  ·rw[if_neg hA]
   have hno:NoExt (xs.map absU) (absU x):=fun ys u h e1 e2 e3 e4=>by
    rcases ZaN xs with rfl|⟨zs,w,rfl⟩
    ·simp at h
    ·have:=ZcG h
     subst this
     have hw:=hxs w (by simp)
     refine hA ?_
     unfold cA
     rw[ZdP,Za6,Wc ((Za9 hw.i.rt hx.i.rf).2 e1),We (fun k=>e2 ((Za9 hw.i.rf hw.i.rt).1 k)),show w.In.OpenTo=false from e3,Wc (show w.F=x.F from e4)]
     rfl
   have hpv:cB al i xs x=true↔PvI (pvO al i) (absU x)/\¬Held (xs.map absU) (absU x).a:=by
    have hh:=Zns hxs hx.i.rf
    unfold cB
    by_cases h1:0<i
    ·rw[Wc h1,Bool.true_and]
     have hn:=hal _ (ZA (i:=(i:Int)-1) (xs:=al) (by omega))
     simp only[Wq,decide_eq_true_eq,Bool.not_eq_true']
     rw[Zj9 hn.i,Za9 hn.i.rf hx.i.rf]
     unfold PvI pvO
     rw[if_neg (by omega)]
     constructor
     ·rintro⟨h2,h3,h4⟩
      refine⟨⟨_,rfl,h2,h3⟩,fun k=>?_⟩
      rw[hh.2 k] at h4
      cases h4
     ·rintro⟨⟨q,h2,h3,h4⟩,h5⟩
      injection h2 with h2
      subst h2
      refine⟨h3,h4, ?_⟩
      rcases h6:hld xs x.In.From with _|_
      ·rfl
      ·exact absurd (hh.1 h6) h5
    ·rw[We h1,Bool.false_and]
     unfold PvI pvO
     rw[if_pos (by omega)]
     simp
   by_cases hB:cB al i xs x=true
   ·rw[if_pos hB,List.map_append]
    have:=hpv.1 hB
    exact .appO hie hno this.1 this.2
   ·rw[if_neg hB,List.map_append]
    exact .appN hie hno (fun k=>hB (hpv.2 k))
theorem Znh {al:List UL}(hal:∀u∈al,UIn u):∀d i,i+d=al.length->Mk (pvO al i) ((nrm al i).map absU) ((al.drop i).map absU) ((nrm al al.length).map absU)
 |0,i,h=>by
  rw[Nat.add_zero] at h
  subst h
  rw[List.drop_length]
  exact .nil
 |d+1,i,h=>by
  have hi:i<al.length:=by omega
  have ih:=Znh hal d (i+1) (by omega)
  have hg:=Zw hi
  have hx:=hal _ (ZA (i:=(i:Int)) (xs:=al) (by omega))
  rw[List.drop_eq_getElem_cons hi,List.map_cons,<-hg]
  have e1:pvO al (i+1)=some (absU (gi al (i:Int))):=by
   unfold pvO
   rw[if_neg (by omega),show((i+1:Nat):Int)-1=(i:Int) by omega]
  have e2:((al.drop (i+1)).map absU).head? =nxO al i:=by
   unfold nxO
   by_cases h1:i+1<al.length
   ·rw[if_pos h1,List.drop_eq_getElem_cons h1,List.map_cons,List.head?_cons,<-Zw h1]
    rfl
   ·rw[if_neg h1,List.drop_eq_nil_of_le (by omega)]
    rfl
  refine .cons ?_ (e1▸ih)
  rw[e2,nrm]
  exact Zqa hi hal hx (Zfr hal i (by omega))
theorem ZdU {l:List UL}:∀m,m<=l.length->aprN l m=true->∀i (h:i+1<m),aprt (gi l (i:Int)).In (gi l ((i+1:Nat):Int)).In=true
 |0,_,_,i,h=>by omega
 |m+1,hm,ha,i,h=>by
  rw[aprN,Wq] at ha
  rcases(by omega:i+1<m\/i+1=m) with h1|h1
  ·exact ZdU m (by omega) ha.1 i h1
  ·subst h1
   have h2:=ha.2
   rw[Wc (by omega:0<i+1),show((i+1:Nat):Int)-1=(i:Int) by omega,Bool.true_and,Bool.not_not] at h2
   exact h2
theorem ZdW {l:List UL}(H:∀i,i+1<l.length->aprt (gi l (i:Int)).In (gi l ((i+1:Nat):Int)).In=true):∀m,m<=l.length->aprN l m=true
 |0,_=>rfl
 |m+1,hm=>by
  rw[aprN,ZdW H m (by omega),Bool.true_and]
  rcases m with _|m
  ·rfl
  ·rw[Wc (by omega:0<m+1),show((m+1:Nat):Int)-1=(m:Int) by omega,H m (by omega)]
   rfl
structure UVal (us:List UL):Prop where
 i:∀u∈us,UIn u
 v:∀u∈us,(absU u).ok
theorem UVal.sor {us:List UL}(h:UVal us):UVal (sor us):=⟨fun u hu=>h.i u (ZeB hu),fun u hu=>h.v u (ZeB hu)⟩
theorem ZlV {us:List UL}(h:UVal us)(ha:aprN (sor us) (sor us).length=true):((sor us).map absU).Pairwise GU.bfr:=by
 have hs:=h.sor
 refine ZdB (fun u hu=>?_) (fun i hi=>?_)
 ·obtain⟨w,hw,rfl⟩:=List.mem_map.1 hu
  exact hs.v w hw
 ·rw[Ws] at hi
  have:=ZdU _ (Wl _) ha i hi
  rw[ZdE,Zw (by omega),Zw hi] at this
  simpa using this
theorem Zk5 {us:List UL}(h:UVal us)(ha:aprN (sor us) (sor us).length=true):(us.map absU).Pairwise Dis:=
 (Zhj ((Ze3 us).map absU)).1 ((ZlV h ha).imp fun h=>h.Dis)
theorem Zfw {us:List UL}(h:UVal us)(hd:(us.map absU).Pairwise Dis):aprN (sor us) (sor us).length=true:=by
 have hs:=h.sor
 have hp:=(Zhj ((Ze3 us).map absU)).2 hd
 refine ZdW (fun i hi=>?_) _ (Wl _)
 have hl:=Zej us
 have ho:=Zqz us i (i+1) (by omega) (by omega)
 have hdi:=List.pairwise_iff_getElem.1 hp i (i+1) (by rw[Ws];omega) (by rw[Ws];omega) (by omega)
 rw[List.getElem_map,List.getElem_map,<-Zw (by omega),<-Zw hi] at hdi
 rw[ZdE]
 refine ZkI (hs.v _ (ZA (by omega))) (hs.v _ (ZA (by omega))) ?_ hdi
 rcases ho with h1|⟨h1,h2⟩
 ·exact .inl h1
 ·refine .inr ⟨h1,fun k=>?_⟩
  have k':(gi (Go.Vt.sor us) (i:Int)).In.OpenFrom=true:=k
  show(gi (Go.Vt.sor us) ((i+1:Nat):Int)).In.OpenFrom=true
  unfold opn at h2
  rw[if_pos k'] at h2
  split at h2
  ·assumption
  ·omega
theorem Zfg {us:List UL}(h:UVal us):nrmE us=0↔(us.map absU).Pairwise Dis:=by
 unfold nrmE
 constructor
 ·intro k
  split at k
  ·exact Zk5 h (by assumption)
  ·cases k
 ·intro k
  rw[if_pos (Zfw h k)]
theorem ZfG {us:List UL}(h:UVal us)(hd:(us.map absU).Pairwise Dis):NF ((nrmR us).map absU)/\∀t v,Has ((nrmR us).map absU) t v↔Has (us.map absU) t v:=by
 have hs:=h.sor
 have ha:=Zfw h hd
 have hp:=ZlV h ha
 have hok:∀u∈(Go.Vt.sor us).map absU,u.ok:=fun u hu=>by
  obtain⟨w,hw,rfl⟩:=List.mem_map.1 hu
  exact hs.v w hw
 have hall:=Zfe hs.i (Go.Vt.sor us).length (Wl _)
 have hmk:=Znh hall _ 0 (Nat.zero_add _)
 have hparts:(atm (Go.Vt.sor us) (Go.Vt.sor us).length).map absU=partsL ((Go.Vt.sor us).map absU):=by
  have:=Zi8 (fun u hu=>(hs.i u hu).i) (Go.Vt.sor us).length (Wl _)
  rw[List.take_length] at this
  exact this
 rw[List.drop_zero,hparts] at hmk
 have hinv:=Inv.start (Znf hok) (Zgx hok hp)
 have e:nrmR us=nrm (atm (Go.Vt.sor us) (Go.Vt.sor us).length) (atm (Go.Vt.sor us) (Go.Vt.sor us).length).length:=by
  unfold nrmR allU
  rw[if_pos ha]
 rw[e]
 obtain⟨h1,h2⟩:=hmk.nf hinv
 refine⟨h1,fun t v=>?_⟩
 rw[h2,ZfM hok]
 exact ZnN ((Ze3 us).map absU)
theorem Zke {us:List UL}(h:∀u∈us,UIn u):∀v∈nrmR us,UOk v:=by
 unfold nrmR
 split
 ·exact Zfr (Zfe (fun u hu=>h u (ZeB hu)) _ (Wl _)) _ (Wl _)
 ·intro v hv
  cases hv
end
section
def bLt (a b:Bd):Prop:=ri a.at_<ri b.at_\/(ri a.at_=ri b.at_/\a.behind=false/\b.behind=true)
def bLe (a b:Bd):Prop:=ri a.at_<ri b.at_\/(ri a.at_=ri b.at_/\(a.behind=true->b.behind=true))
def bAt (b:Bd)(t:Ri):Prop:=ri b.at_<t\/(ri b.at_=t/\b.behind=false)
theorem ZfC {a b:Bd}:bLt a b↔¬bLe b a:=by unfold bLt bLe;grind
theorem Zrk {a b c:Bd}(h:bLe a b)(k:bLe b c):bLe a c:=by unfold bLe at*;grind
theorem ZcQ {a b c:Bd}(h:bLt a b)(k:bLe b c):bLt a c:=by unfold bLe bLt at*;grind
theorem bLt.le {a b:Bd}(h:bLt a b):bLe a b:=by unfold bLe bLt at*;grind
theorem ZcL {a b:Bd}{t:Ri}(h:bLe a b)(k:bAt b t):bAt a t:=by unfold bLe bAt at*;grind
theorem Zhm {a b:Bd}:cmpB a b=0↔bLe a b/\bLe b a:=by
 unfold cmpB bLe
 by_cases h:cl a.at_ b.at_=0
 ·rw[if_neg (by simpa using h)]
  have h:=Zao.1 h
  rcases ha:a.behind <;> rcases hb:b.behind <;> simp[h] <;> grind
 ·rw[if_pos h]
  have h':¬ri a.at_=ri b.at_:=fun e=>h (Zao.2 e)
  constructor
  ·intro k;exact absurd k h
  ·rintro⟨k1,k2⟩;grind
theorem Zj4 {a b:Bd}(h:cmpB a b<0):bLe a b:=by
 unfold cmpB at h
 unfold bLe
 split at h
 ·exact .inl (Zal.1 h)
 ·rename_i h1
  have h1:=Zao.1 (Decidable.not_not.1 h1)
  split at h
  ·omega
  ·split at h
   ·rename_i h3
    exact .inr ⟨h1,fun _=>h3⟩
   ·omega
theorem Zet {a b:Bd}(h:¬cmpB a b<0):bLe b a:=by
 unfold cmpB at h
 unfold bLe
 split at h
 ·rename_i h1
  have h2:¬ri a.at_<ri b.at_:=fun e=>h (Zal.2 e)
  have h1:¬ri a.at_=ri b.at_:=fun e=>h1 (Zao.2 e)
  exact .inl (by grind)
 ·rename_i h1
  have h1:=Zao.1 (Decidable.not_not.1 h1)
  split at h
  ·rename_i h2
   exact .inr ⟨h1.symm,fun e=>by rw[h2];exact e⟩
  ·split at h
   ·omega
   ·rename_i h3
    exact .inr ⟨h1.symm,fun e=>absurd e h3⟩
theorem ZfT {I:Za}{t:Ri}:memI I t↔bAt (bdF I) t/\¬bAt (bdL I) t:=by
 unfold memI bAt bdF bdL
 rcases I.OpenFrom <;> rcases I.OpenTo <;> simp <;> grind
theorem ZgW (a b:Bd):bdF (bdB a b)=a:=rfl
theorem ZgU (a b:Bd):bdL (bdB a b)=b:=by
 unfold bdL bdB
 simp
noncomputable def cntT (d:Ev->Int)(t:Ri):List Ev->Int
 |[]=>0
 |x::l=>(open Classical in if bAt x.b t then d x else 0)+cntT d t l
theorem Zbb (d:Ev->Int)(t:Ri):∀l m,cntT d t (l++m)=cntT d t l+cntT d t m
 |[],m=>by simp[cntT]
 |x::l,m=>by rw[Wf,cntT,cntT,Zbb d t l m];omega
theorem ZbJ {d:Ev->Int}{t:Ri}{l m:List Ev}(h:l.Perm m):cntT d t l=cntT d t m:=by
 induction h with
 |nil=>rfl
 |cons x _ ih=>rw[cntT,cntT,ih]
 |swap x y l=>simp only[cntT];omega
 |trans _ _ h1 h2=>exact h1.trans h2
theorem Zgs {α:Type}[Inhabited α]{l:List α}{m:Nat}(h:m<l.length):l.take (m+1)=l.take m++[gi l (m:Int)]:=by
 rw[Zw h,Wn h]
theorem Zhc {d:Ev->Int}{t:Ri}{l:List Ev}(f:Nat->Int)(h0:f 0=0)(hs:∀m,f (m+1)=f m+d (gi l (m:Int))):∀k,k<=l.length->(∀j,j<k->bAt (gi l (j:Int)).b t)->cntT d t (l.take k)=f k
 |0,_,_=>by simp[cntT,h0]
 |k+1,hk,h=>by
  rw[Zgs (by omega),Zbb,Zhc f h0 hs k (by omega) (fun j hj=>h j (by omega)),hs,cntT,cntT,if_pos (h k (by omega))]
  omega
theorem ZgE {d:Ev->Int}{t:Ri}:∀{l:List Ev},(∀x∈l,¬bAt x.b t)->cntT d t l=0
 |[],_=>rfl
 |x::l,h=>by rw[cntT,if_neg (h x (.head _)),ZgE (fun y hy=>h y (.tail _ hy))];rfl
theorem Zii {d:Ev->Int}{t:Ri}{l:List Ev}(f:Nat->Int)(h0:f 0=0)(hs:∀m,f (m+1)=f m+d (gi l (m:Int))){k:Nat}(hk:k<=l.length)(h:∀j,j<k->bAt (gi l (j:Int)).b t)(h':∀j,k<=j->j<l.length->¬bAt (gi l (j:Int)).b t):cntT d t l=f k:=by
 have e:cntT d t l=cntT d t (l.take k++l.drop k):=by rw[List.take_append_drop]
 rw[e,Zbb,Zhc f h0 hs k hk h,ZgE (l:=l.drop k) fun x hx=>?_]
 ·omega
 ·obtain⟨j,hj,rfl⟩:=List.getElem_of_mem hx
  rw[List.length_drop] at hj
  rw[List.getElem_drop,<-Zw (by omega)]
  exact h' (k+j) (by omega) (by omega)
section
variable {kp : Bool -> Bool -> Bool} {l : List Ev}
theorem Zfx (m:Nat):(sws kp l (m+1)).n0=(sws kp l m).n0+(gi l (m:Int)).n0:=by
 rw[sws]
 simp only
 split <;> rfl
theorem ZfE (m:Nat):(sws kp l (m+1)).n1=(sws kp l m).n1+(gi l (m:Int)).n1:=by
 rw[sws]
 simp only
 split <;> rfl
theorem Zh3 {w:Ri}{k:Nat}(hk:k<=l.length)(h:∀j,j<k->bAt (gi l (j:Int)).b w)(h':∀j,k<=j->j<l.length->¬bAt (gi l (j:Int)).b w):cntT Ev.n0 w l=(sws kp l k).n0/\cntT Ev.n1 w l=(sws kp l k).n1:=
 ⟨Zii (fun m=>(sws kp l m).n0) rfl Zfx hk h h',Zii (fun m=>(sws kp l m).n1) rfl ZfE hk h h'⟩
noncomputable def keeps (kp:Bool->Bool->Bool)(l:List Ev)(t:Ri):Bool:=kp (decide (0<cntT Ev.n0 t l)) (decide (0<cntT Ev.n1 t l))
structure SwI (kp:Bool->Bool->Bool)(l:List Ev)(s:SwS)(k:Nat):Prop where
 h:∀t,(k<l.length->¬bAt (gi l (k:Int)).b t)->(((∃i∈s.out,memI i t)\/(s.on=true/\bAt s.fr t))↔keeps kp l t=true)
 r:k<l.length->∀i∈s.out,bLt (bdL i) (gi l (k:Int)).b
 f:k<l.length->s.on=true->bLt s.fr (gi l (k:Int)).b
 o:s.on=true->∀i∈s.out,bLt (bdL i) s.fr
 pw:s.out.Pairwise (fun i j=>bLt (bdL i) (bdF j))
 v:∀i∈s.out,bLt (bdF i) (bdL i)
theorem Zjm (hs:∀p q:Nat,p<q->q<l.length->bLe (gi l (p:Int)).b (gi l (q:Int)).b)(hk:kp false false=false):∀k,k<=l.length->SwI kp l (sws kp l k) k
 |0,_=>by
  refine⟨fun t h=>?_,fun _ i hi=>(by cases hi),fun _ h=>(by cases h),fun h=>by(cases h),List.Pairwise.nil,fun i hi=>(by cases hi)⟩
  have hn:∀j,0<=j->j<l.length->¬bAt (gi l (j:Int)).b t:=fun j _ hj=>by
   by_cases e:j=0
   ·subst e;exact h hj
   ·exact fun hb=>h (by omega) (ZcL (hs 0 j (by omega) hj) hb)
  obtain⟨e1,e2⟩:=Zh3 (kp:=kp) (Wm _) (fun j hj=>by omega) hn
  unfold keeps
  rw[e1,e2]
  simp[sws,hk]
 |k+1,hkl=>by
  have ih:=Zjm hs hk k (by omega)
  have hn0:=Zfx (kp:=kp) (l:=l) k
  have hn1:=ZfE (kp:=kp) (l:=l) k
  have hnxt:k+1<l.length->bLe (gi l (k:Int)).b (gi l ((k+1:Nat):Int)).b:=fun h=>hs k (k+1) (by omega) h
  by_cases hsk:k+1<l.length/\cmpB (gi l (k:Int)).b (gi l ((k+1:Nat):Int)).b=0
  ·have e:sws kp l (k+1)=⟨(sws kp l k).n0+(gi l (k:Int)).n0,(sws kp l k).n1+(gi l (k:Int)).n1,(sws kp l k).fr,(sws kp l k).on,(sws kp l k).out⟩:=by rw[sws];simp only;rw[if_pos hsk]
   obtain⟨e1,e2⟩:=Zhm.1 hsk.2
   rw[e]
   exact⟨fun t h=>ih.h t (fun _ hb=>h hsk.1 (ZcL e2 hb)),fun _ i hi=>ZcQ (ih.r (by omega) i hi) e1,fun _ ho=>ZcQ (ih.f (by omega) ho) e1,ih.o,ih.pw,ih.v⟩
  ·have e:sws kp l (k+1)=⟨(sws kp l k).n0+(gi l (k:Int)).n0,(sws kp l k).n1+(gi l (k:Int)).n1,if kp (decide (0<(sws kp l k).n0+(gi l (k:Int)).n0)) (decide (0<(sws kp l k).n1+(gi l (k:Int)).n1))&& !(sws kp l k).on then(gi l (k:Int)).b else(sws kp l k).fr,kp (decide (0<(sws kp l k).n0+(gi l (k:Int)).n0)) (decide (0<(sws kp l k).n1+(gi l (k:Int)).n1)),if kp (decide (0<(sws kp l k).n0+(gi l (k:Int)).n0)) (decide (0<(sws kp l k).n1+(gi l (k:Int)).n1))&& !(sws kp l k).on then(sws kp l k).out else if !kp (decide (0<(sws kp l k).n0+(gi l (k:Int)).n0)) (decide (0<(sws kp l k).n1+(gi l (k:Int)).n1))&&(sws kp l k).on then(sws kp l k).out++[bdB (sws kp l k).fr (gi l (k:Int)).b] else(sws kp l k).out⟩:=by rw[sws];simp only;rw[if_neg hsk]
   have hlt:k+1<l.length->bLt (gi l (k:Int)).b (gi l ((k+1:Nat):Int)).b:=fun h=>by
    rw[ZfC]
    exact fun h2=>hsk ⟨h,Zhm.2 ⟨hnxt h,h2⟩⟩
   -- what is kept at an instant behind this border and ahead of the next one
   have hkeep:∀t,bAt (gi l (k:Int)).b t->(k+1<l.length->¬bAt (gi l ((k+1:Nat):Int)).b t)->keeps kp l t=(sws kp l (k+1)).on:=fun t h1 h2=>by
    obtain⟨e1,e2⟩:=Zh3 (kp:=kp) (l:=l) (w:=t) (k:=k+1) hkl
     (fun j hj=>by
      by_cases e:j=k
      ·subst e;exact h1
      ·exact ZcL (hs j k (by omega) (by omega)) h1)
     (fun j h3 hj=>by
      by_cases e:j=k+1
      ·subst e;exact h2 hj
      ·exact fun hb=>h2 (by omega) (ZcL (hs (k+1) j (by omega) hj) hb))
    unfold keeps
    rw[e1,e2,hn0,hn1,e]
   generalize hnow:kp (decide (0<(sws kp l k).n0+(gi l (k:Int)).n0)) (decide (0<(sws kp l k).n1+(gi l (k:Int)).n1))=now at e
   generalize hx:(gi l (k:Int)).b=x at*
   have hnew:∀t,memI (bdB (sws kp l k).fr x) t↔bAt (sws kp l k).fr t/\¬bAt x t:=fun t=>by rw[ZfT,ZgW,ZgU]
   have hr:=ih.r (by omega)
   have hf:=ih.f (by omega)
   rw[hx] at hr hf
   have hno:∀t,bAt x t->∀i∈(sws kp l k).out,¬memI i t:=fun t h i hi hm=>(ZfT.1 hm).2 (ZcL (hr i hi).le h)
   have hfr:∀t,bAt x t->(sws kp l k).on=true->bAt (sws kp l k).fr t:=fun t h ho=>ZcL (hf ho).le h
   have hih:∀t,¬bAt x t->(((∃i∈(sws kp l k).out,memI i t)\/((sws kp l k).on=true/\bAt (sws kp l k).fr t))↔keeps kp l t=true):=fun t h=>ih.h t (fun _=>by rw[hx];exact h)
   rw[e] at hkeep
   rw[e]
   simp only at hkeep⊢
   rcases now with _|_ <;> rcases hon:(sws kp l k).on with _|_ <;> simp only[Bool.not_true,Bool.not_false,Bool.and_true,Bool.and_false,Bool.false_eq_true,if_false,if_true] <;> rw[hon] at hih
   ·refine⟨fun t h=>?_,fun h i hi=>ZcQ (hr i hi) (hnxt h),fun _ h=>(by cases h),fun h=>(by cases h),ih.pw,ih.v⟩
    by_cases hb:bAt x t
    ·rw[hkeep t hb h]
     exact⟨fun h=>(h.resolve_right (fun h=>by cases h.1)).elim fun i hi=>absurd hi.2 (hno t hb i hi.1),fun h=>(by cases h)⟩
    ·exact hih t hb
   ·refine⟨fun t h=>?_,fun h i hi=>?_,fun _ h=>(by cases h),fun h=>(by cases h), ?_,fun i hi=>?_⟩
    ·by_cases hb:bAt x t
     ·rw[hkeep t hb h]
      refine⟨fun h=>(h.resolve_right (fun h=>by cases h.1)).elim fun i hi=>?_,fun h=>(by cases h)⟩
      rcases List.mem_append.1 hi.1 with h1|h1
      ·exact absurd hi.2 (hno t hb i h1)
      ·rw[List.mem_singleton.1 h1] at hi
       exact absurd hb ((hnew t).1 hi.2).2
     ·rw[<-hih t hb]
      constructor
      ·rintro(⟨i,hi,hm⟩|⟨h,_⟩)
       ·rcases List.mem_append.1 hi with h1|h1
        ·exact .inl ⟨i,h1,hm⟩
        ·rw[List.mem_singleton.1 h1] at hm
         exact .inr ⟨rfl,((hnew t).1 hm).1⟩
       ·cases h
      ·rintro(⟨i,hi,hm⟩|⟨_,h⟩)
       ·exact .inl ⟨i,List.mem_append_left _ hi,hm⟩
       ·exact .inl ⟨_,List.mem_append_right _ (.head _),(hnew t).2 ⟨h,hb⟩⟩
    ·rcases List.mem_append.1 hi with h1|h1
     ·exact ZcQ (hr i h1) (hnxt h)
     ·rw[List.mem_singleton.1 h1,ZgU]
      exact hlt h
    ·rw[List.pairwise_append]
     refine⟨ih.pw,List.pairwise_singleton _ _,fun i hi j hj=>?_⟩
     rw[List.mem_singleton.1 hj,ZgW]
     exact ih.o hon i hi
    ·rcases List.mem_append.1 hi with h1|h1
     ·exact ih.v i h1
     ·rw[List.mem_singleton.1 h1,ZgU,ZgW]
      exact hf hon
   ·refine⟨fun t h=>?_,fun h i hi=>ZcQ (hr i hi) (hnxt h),fun h _=>hlt h,fun _ i hi=>hr i hi,ih.pw,ih.v⟩
    by_cases hb:bAt x t
    ·rw[hkeep t hb h]
     exact⟨fun _=>rfl,fun _=> .inr ⟨rfl,hb⟩⟩
    ·rw[<-hih t hb]
     exact⟨fun h=> .inl (h.resolve_right fun h=>hb h.2),fun h=> .inl (h.resolve_right fun h=>by cases h.1)⟩
   ·refine⟨fun t h=>?_,fun h i hi=>ZcQ (hr i hi) (hnxt h),fun h _=>ZcQ (hf hon) (hnxt h),fun _ i hi=>ih.o hon i hi,ih.pw,ih.v⟩
    by_cases hb:bAt x t
    ·rw[hkeep t hb h]
     exact⟨fun _=>rfl,fun _=> .inr ⟨rfl,hfr t hb hon⟩⟩
    ·exact hih t hb
theorem Zip {Pb:Bd->Prop}(h:∀x∈l,Pb x.b):∀k,k<=l.length->((sws kp l k).on=true->Pb (sws kp l k).fr)/\∀i∈(sws kp l k).out,Pb (bdF i)/\Pb (bdL i)
 |0,_=>⟨fun h=>(by cases h),fun i hi=>(by cases hi)⟩
 |k+1,hk=>by
  obtain⟨h1,h2⟩:=Zip h k (by omega)
  have hx:=h _ (ZA (xs:=l) (i:=(k:Int)) (by omega))
  rw[sws]
  simp only
  split
  ·exact⟨h1,h2⟩
  ·generalize kp _ _=now
   rcases now with _|_ <;> rcases hon:(sws kp l k).on with _|_ <;> simp only[Bool.not_true,Bool.not_false,Bool.and_true,Bool.and_false,Bool.false_eq_true,if_false,if_true]
   ·exact⟨fun h=>(by cases h),h2⟩
   ·refine⟨fun h=>(by cases h),fun i hi=>?_⟩
    rcases List.mem_append.1 hi with h3|h3
    ·exact h2 i h3
    ·rw[List.mem_singleton.1 h3,ZgU,ZgW]
     exact⟨h1 hon,hx⟩
   ·exact⟨fun _=>hx,h2⟩
   ·exact⟨fun _=>h1 hon,h2⟩
theorem ZfX (hs:∀p q:Nat,p<q->q<l.length->bLe (gi l (p:Int)).b (gi l (q:Int)).b)(hk:kp false false=false)(h0:(sws kp l l.length).n0=0)(h1:(sws kp l l.length).n1=0):
  (∀t,(∃i∈(sws kp l l.length).out,memI i t)↔keeps kp l t=true)/\(sws kp l l.length).out.Pairwise (fun i j=>bLt (bdL i) (bdF j))/\∀i∈(sws kp l l.length).out,bLt (bdF i) (bdL i):=by
 have hi:=Zjm hs hk l.length (Wl _)
 have hon:(sws kp l l.length).on=false:=by
  rcases hl:l.length with _|m
  ·rfl
  ·rw[hl] at h0 h1
   rw[Zfx] at h0
   rw[ZfE] at h1
   rw[sws]
   simp only
   rw[if_neg (fun h=>by omega),h0,h1]
   exact hk
 refine⟨fun t=>?_,hi.pw,hi.v⟩
 rw[<-hi.h t (fun h=>absurd h (Nat.lt_irrefl _)),hon]
 exact⟨.inl,fun h=>h.resolve_right (fun h=>by cases h.1)⟩
end
def sumT (d:Ev->Int):List Ev->Int
 |[]=>0
 |x::l=>d x+sumT d l
theorem ZaP (d:Ev->Int):∀l m,sumT d (l++m)=sumT d l+sumT d m
 |[],m=>by simp[sumT]
 |x::l,m=>by rw[Wf,sumT,sumT,ZaP d l m];omega
theorem ZbL {d:Ev->Int}{l m:List Ev}(h:l.Perm m):sumT d l=sumT d m:=by
 induction h with
 |nil=>rfl
 |cons x _ ih=>rw[sumT,sumT,ih]
 |swap x y l=>simp only[sumT];omega
 |trans _ _ h1 h2=>exact h1.trans h2
theorem Zd3 {d:Ev->Int}{l:List Ev}(f:Nat->Int)(h0:f 0=0)(hs:∀m,f (m+1)=f m+d (gi l (m:Int))):∀k,k<=l.length->sumT d (l.take k)=f k
 |0,_=>by simp[sumT,h0]
 |k+1,hk=>by
  rw[Zgs (by omega),ZaP,Zd3 f h0 hs k (by omega),hs]
  simp[sumT]
theorem ZfU (kp:Bool->Bool->Bool)(l:List Ev):(sws kp l l.length).n0=sumT Ev.n0 l/\(sws kp l l.length).n1=sumT Ev.n1 l:=by
 constructor
 ·rw[<-Zd3 (l:=l) (fun m=>(sws kp l m).n0) rfl Zfx l.length (Wl _),List.take_length]
 ·rw[<-Zd3 (l:=l) (fun m=>(sws kp l m).n1) rfl ZfE l.length (Wl _),List.take_length]
theorem Zd9 (is:List Za):∀m,(sumT Ev.n0 (evA is m)=0/\sumT Ev.n1 (evA is m)=0)/\sumT Ev.n0 (evB is m)=0/\sumT Ev.n1 (evB is m)=0
 |0=>by simp[evA,evB,sumT]
 |m+1=>by
  obtain⟨⟨h1,h2⟩,h3,h4⟩:=Zd9 is m
  rw[evA,evB,ZaP,ZaP,ZaP,ZaP,h1,h2,h3,h4]
  simp[sumT]
theorem Zm2 {i:Za}(h:bLe (bdF i) (bdL i))(t:Ri):(open Classical in (if bAt (bdF i) t then(1:Int) else 0)+((if bAt (bdL i) t then-1 else 0)+0))=(open Classical in if memI i t then 1 else 0):=by
 have:=ZfT (I:=i) (t:=t)
 have h2:=fun k=>ZcL (t:=t) h k
 by_cases h3:bAt (bdF i) t <;> by_cases h4:bAt (bdL i) t <;> simp_all
theorem Zpo (p:Prop)[Decidable p]:(if p then(0:Int) else 0)=0:=by split <;> rfl
theorem Zi6 {is:List Za}(h:∀i∈is,bLe (bdF i) (bdL i))(t:Ri):∀m,m<=is.length->cntT Ev.n1 t (evA is m)=0/\0<=cntT Ev.n0 t (evA is m)/\(0<cntT Ev.n0 t (evA is m)↔∃j:Nat,j<m/\memI (gi is (j:Int)) t)
 |0,_=>by simp[evA,cntT]
 |m+1,hm=>by
  obtain⟨h1,h2,h3⟩:=Zi6 h t m (by omega)
  have h4:=Zm2 (h _ (ZA (xs:=is) (i:=(m:Int)) (by omega))) t
  have e:(∃j:Nat,j<m+1/\memI (gi is (j:Int)) t)↔(∃j:Nat,j<m/\memI (gi is (j:Int)) t)\/memI (gi is (m:Int)) t:=by
   constructor
   ·rintro⟨j,hj,hm⟩
    by_cases e:j=m
    ·exact .inr (e▸hm)
    ·exact .inl ⟨j,by omega,hm⟩
   ·rintro(⟨j,hj,hm⟩|hm)
    ·exact⟨j,by omega,hm⟩
    ·exact⟨m,by omega,hm⟩
  rw[e,<-h3,evA,Zbb,Zbb,h1]
  simp only[cntT,Zpo]
  rw[h4]
  refine⟨by omega, ?_⟩
  by_cases h5:memI (gi is (m:Int)) t
  ·rw[if_pos h5];exact⟨by omega,by simp only[h5,or_true,iff_true];omega⟩
  ·rw[if_neg h5];exact⟨by omega,by simp only[h5,or_false];omega⟩
theorem Zi7 {is:List Za}(h:∀i∈is,bLe (bdF i) (bdL i))(t:Ri):∀m,m<=is.length->cntT Ev.n0 t (evB is m)=0/\0<=cntT Ev.n1 t (evB is m)/\(0<cntT Ev.n1 t (evB is m)↔∃j:Nat,j<m/\memI (gi is (j:Int)) t)
 |0,_=>by simp[evB,cntT]
 |m+1,hm=>by
  obtain⟨h1,h2,h3⟩:=Zi7 h t m (by omega)
  have h4:=Zm2 (h _ (ZA (xs:=is) (i:=(m:Int)) (by omega))) t
  have e:(∃j:Nat,j<m+1/\memI (gi is (j:Int)) t)↔(∃j:Nat,j<m/\memI (gi is (j:Int)) t)\/memI (gi is (m:Int)) t:=by
   constructor
   ·rintro⟨j,hj,hm⟩
    by_cases e:j=m
    ·exact .inr (e▸hm)
    ·exact .inl ⟨j,by omega,hm⟩
   ·rintro(⟨j,hj,hm⟩|hm)
    ·exact⟨j,by omega,hm⟩
    ·exact⟨m,by omega,hm⟩
  rw[e,<-h3,evB,Zbb,Zbb,h1]
  simp only[cntT,Zpo]
  rw[h4]
  refine⟨by omega, ?_⟩
  by_cases h5:memI (gi is (m:Int)) t
  ·rw[if_pos h5];exact⟨by omega,by simp only[h5,or_true,iff_true];omega⟩
  ·rw[if_neg h5];exact⟨by omega,by simp only[h5,or_false];omega⟩
theorem ZuR {is:List Za}{t:Ri}:(∃j:Nat,j<is.length/\memI (gi is (j:Int)) t)↔∃i∈is,memI i t:=by
 constructor
 ·rintro⟨j,hj,hm⟩
  exact⟨_,ZA (xs:=is) (i:=(j:Int)) (by omega),hm⟩
 ·rintro⟨i,hi,hm⟩
  obtain⟨j,hj,rfl⟩:=List.getElem_of_mem hi
  exact⟨j,hj,by rw[Zw hj];exact hm⟩
theorem ZrP (xs:List Ev)(j:Nat):swpE xs j=swpG xs j:=rfl
theorem Zl6 :∀(j:Nat)(xs:List Ev),dwnE xs j=dwnG cmpE xs j
 |0,_=>rfl
 |j+1,xs=>by rw[dwnE,dwnG,Zl6 j,ZrP]
theorem ZhV (xs:List Ev):∀i,srtE xs i=srtG cmpE xs i
 |0=>rfl
 |i+1=>by rw[srtE,srtG,Zl6,ZhV xs i]
theorem Zc3 (xs:List Ev):(srtE xs (xs.length-1)).Perm xs:=by
 rcases xs with _|⟨u,us⟩
 ·exact .refl _
 ·rw[ZhV]
  exact Zc8 _ _ _ (by simp)
theorem Zhz (xs:List Ev)(p q:Nat)(hpq:p<q)(hq:q<(srtE xs (xs.length-1)).length):bLe (gi (srtE xs (xs.length-1)) (p:Int)).b (gi (srtE xs (xs.length-1)) (q:Int)).b:=by
 rw[(Zc3 xs).length_eq] at hq
 rw[ZhV]
 exact Ze5 (c:=cmpE) (le:=fun x y=>bLe x.b y.b) (fun _ _=>Zj4) (fun _ _=>Zet) (fun _ _ _=>Zrk) xs (xs.length-1) (by omega) p q hpq (by omega)
theorem evK2 (is js:List Za):evK is js 2=evA is is.length++evB js js.length:=rfl
theorem ZoO {kp:Bool->Bool->Bool}(hk:kp false false=false){is js:List Za}(h:∀i∈is,bLe (bdF i) (bdL i))(h':∀i∈js,bLe (bdF i) (bdL i)):
  (∀t,(∃i∈swpR kp is js,memI i t)↔(open Classical in kp (decide (∃i∈is,memI i t)) (decide (∃i∈js,memI i t)))=true)/\(swpR kp is js).Pairwise (fun i j=>bLt (bdL i) (bdF j))/\∀i∈swpR kp is js,bLt (bdF i) (bdL i):=by
 have hp:=Zc3 (evK is js 2)
 obtain⟨h1,h2⟩:=ZfU kp (srtE (evK is js 2) ((evK is js 2).length-1))
 obtain⟨⟨a1,a2⟩,a3,a4⟩:=Zd9 is is.length
 obtain⟨⟨b1,b2⟩,b3,b4⟩:=Zd9 js js.length
 rw[ZbL hp,evK2,ZaP,a1,b3] at h1
 rw[ZbL hp,evK2,ZaP,a2,b4] at h2
 obtain⟨h3,h4,h5⟩:=ZfX (kp:=kp) (Zhz (evK is js 2)) hk (by rw[evK2];exact h1) (by rw[evK2];exact h2)
 refine⟨fun t=>?_,h4,h5⟩
 rw[swpR,h3 t,keeps,ZbJ hp,ZbJ hp,evK2,Zbb,Zbb]
 obtain⟨c1,c2,c3⟩:=Zi6 h t is.length (Wl _)
 obtain⟨d1,d2,d3⟩:=Zi7 h' t js.length (Wl _)
 rw[c1,d1,Int.add_zero,Int.zero_add]
 rw[ZuR] at c3 d3
 rw[show decide (0<cntT Ev.n0 t (evA is is.length))=(open Classical in decide (∃i∈is,memI i t)) from decide_eq_decide.2 c3,show decide (0<cntT Ev.n1 t (evB js js.length))=(open Classical in decide (∃i∈js,memI i t)) from decide_eq_decide.2 d3]
theorem ZhC {Pb:Bd->Prop}{is:List Za}(h:∀i∈is,Pb (bdF i)/\Pb (bdL i)):∀m,m<=is.length->(∀x∈evA is m,Pb x.b)/\∀x∈evB is m,Pb x.b
 |0,_=>⟨fun x hx=>(by cases hx),fun x hx=>(by cases hx)⟩
 |m+1,hm=>by
  obtain⟨h1,h2⟩:=ZhC h m (by omega)
  obtain⟨h3,h4⟩:=h _ (ZA (xs:=is) (i:=(m:Int)) (by omega))
  constructor
  ·intro x hx
   rw[evA] at hx
   rcases List.mem_append.1 hx with h5|h5
   ·exact h1 x h5
   ·rcases List.mem_cons.1 h5 with rfl|h5
    ·exact h3
    ·rw[List.mem_singleton.1 h5];exact h4
  ·intro x hx
   rw[evB] at hx
   rcases List.mem_append.1 hx with h5|h5
   ·exact h2 x h5
   ·rcases List.mem_cons.1 h5 with rfl|h5
    ·exact h3
    ·rw[List.mem_singleton.1 h5];exact h4
theorem ZqX {Pb:Bd->Prop}(kp:Bool->Bool->Bool){is js:List Za}(h:∀i∈is,Pb (bdF i)/\Pb (bdL i))(h':∀i∈js,Pb (bdF i)/\Pb (bdL i)):∀i∈swpR kp is js,Pb (bdF i)/\Pb (bdL i):=by
 refine(Zip (kp:=kp) (l:=srtE (evK is js 2) ((evK is js 2).length-1)) (Pb:=Pb) (fun x hx=>?_) _ (Wl _)).2
 have hx:=(Zc3 (evK is js 2)).mem_iff.1 hx
 rw[evK2] at hx
 rcases List.mem_append.1 hx with h1|h1
 ·exact(ZhC h is.length (Wl _)).1 x h1
 ·exact(ZhC h' js.length (Wl _)).2 x h1
end
section
open Fv (va red)
instance fvU :Fv Unit Ri Unit:=⟨fun _ _=>(),fun f _=>f,fun _ _=>rfl,fun _ _ _ _=>rfl,fun _ _ _ _ _ _=>rfl⟩
noncomputable def absI (I:Za):GU Ri Unit:=⟨ri I.From,ri I.To,I.OpenFrom,I.OpenTo,()⟩
structure Sep (l:List Za):Prop where
 p:l.Pairwise (fun i j=>bLt (bdL i) (bdF j))
 v:∀i∈l,bLt (bdF i) (bdL i)
theorem Zea {i:Za}:okI i↔bLt (bdF i) (bdL i):=by
 unfold okI bLt bdF bdL
 rcases i.OpenFrom <;> rcases i.OpenTo <;> simp
theorem Sep.nf {l:List Za}(h:Sep l):NF (l.map absI):=by
 refine⟨fun u hu=>?_,fun u hu _=>rfl, ?_⟩
 ·obtain⟨i,hi,rfl⟩:=List.mem_map.1 hu
  exact Zea.2 (h.v i hi)
 ·rw[List.pairwise_map]
  refine List.Pairwise.imp_of_mem (fun {i j} hi hj hb=>?_) h.p
  have hv:=Zea.2 (h.v i hi)
  unfold okI at hv
  unfold bLt bdL bdF at hb
  rcases hb with hb|⟨e,h1,h2⟩
  ·have hb:ri i.To<ri j.From:=hb
   exact⟨.inl hb,fun e=>absurd (show ri i.To=ri j.From from e) (by grind),fun e=>absurd (show ri i.To=ri j.From from e) (by grind),fun e=>absurd (show ri i.To=ri j.From from e) (by grind)⟩
  ·have e:ri i.To=ri j.From:=e
   have h1:i.OpenTo=true:=by simpa using h1
   have h2:j.OpenFrom=true:=h2
   exact⟨.inr ⟨e, .inl h1⟩,fun _ k=>absurd (show i.OpenTo=false from k) (by simp[h1]),fun _ k=>absurd (show j.OpenFrom=false from k) (by simp[h2]),fun _ k=>absurd (show ri i.From=ri i.To from k) (hv.elim (fun hv=>by grind) (fun hv=>by rw[h1] at hv;cases hv.2.2))⟩
theorem Zhk {l:List Za}{t:Ri}{v:Unit}:Has (l.map absI) t v↔∃i∈l,memI i t:=by
 constructor
 ·rintro⟨u,hu,hm,_⟩
  obtain⟨i,hi,rfl⟩:=List.mem_map.1 hu
  exact⟨i,hi,hm⟩
 ·rintro⟨i,hi,hm⟩
  exact⟨absI i,List.mem_map.2 ⟨i,hi,rfl⟩,hm,rfl⟩
theorem Sep.uniq {l m:List Za}(h:Sep l)(k:Sep m)(H:∀t,(∃i∈l,memI i t)↔∃i∈m,memI i t):l.map absI=m.map absI:=
 NF.uniq h.nf k.nf (fun t v=>by rw[Zhk,Zhk];exact H t)
theorem Zod {i j:Za}(hi:(rvR i.From).ok/\(rvR i.To).ok)(hj:(rvR j.From).ok/\(rvR j.To).ok)(h:absI i=absI j):i=j:=by
 obtain⟨f,t,o,c⟩:=i
 obtain⟨f',t',o',c'⟩:=j
 unfold absI at h
 injection h with h1 h2 h3 h4 h5
 dsimp only at h1 h2 h3 h4 hi hj
 have e1:=(ZcN hi.1 hj.1).1 h1
 have e2:=(ZcN hi.2 hj.2).1 h2
 subst e1 e2 h3 h4
 rfl
theorem Zgl :∀{l m:List Za},(∀i∈l,(rvR i.From).ok/\(rvR i.To).ok)->(∀i∈m,(rvR i.From).ok/\(rvR i.To).ok)->l.map absI=m.map absI->l=m
 |[],[],_,_,_=>rfl
 |[],_::_,_,_,h=>by simp at h
 |_::_,[],_,_,h=>by simp at h
 |u::l,w::m,hl,hm,h=>by
  simp only[List.map_cons,List.cons.injEq] at h
  rw[Zod (hl u (.head _)) (hm w (.head _)) h.1,Zgl (fun x hx=>hl x (.tail _ hx)) (fun x hx=>hm x (.tail _ hx)) h.2]
theorem Sep.eq {l m:List Za}(h:Sep l)(k:Sep m)(hl:∀i∈l,(rvR i.From).ok/\(rvR i.To).ok)(hm:∀i∈m,(rvR i.From).ok/\(rvR i.To).ok)(H:∀t,(∃i∈l,memI i t)↔∃i∈m,memI i t):l=m:=Zgl hl hm (h.uniq k H)
theorem ZqQ {kp:Bool->Bool->Bool}(hk:kp false false=false){xs es:List Ev}(h:SoR cmpE xs es)(hok:∀u∈xs,BdOk u.b)(h0:sumT Ev.n0 xs=0)(h1:sumT Ev.n1 xs=0):(sws kp es es.length).out=(sws kp (srtE xs (xs.length-1)) (srtE xs (xs.length-1)).length).out:=by
 have hp:=Zc3 xs
 have a:=ZfU kp es
 have b:=ZfU kp (srtE xs (xs.length-1))
 rw[ZbL h.p,ZbL h.p,h0,h1] at a
 rw[ZbL hp,ZbL hp,h0,h1] at b
 obtain⟨a1,a2,a3⟩:=ZfX (kp:=kp) (l:=es) (fun p q hpq hq=>Zet (h.o p q hpq hq)) hk a.1 a.2
 obtain⟨b1,b2,b3⟩:=ZfX (kp:=kp) (Zhz xs) hk b.1 b.2
 have hb:∀ys:List Ev,ys.Perm xs->∀i∈(sws kp ys ys.length).out,(rvR i.From).ok/\(rvR i.To).ok:=fun ys hy i hi=>by
  have:=(Zip (kp:=kp) (l:=ys) (Pb:=fun b=>(rvR b.at_).ok) (fun x hx=>(hok x (hy.mem_iff.1 hx)).o.o) ys.length (Wl _)).2 i hi
  exact this
 refine Sep.eq ⟨a2,a3⟩ ⟨b2,b3⟩ (hb es h.p) (hb _ hp) fun t=>?_
 rw[a1,b1]
 unfold keeps
 rw[ZbJ h.p,ZbJ h.p,ZbJ hp,ZbJ hp]
end
section
open Fv (va red)
def HoldP (l:List Za)(z:Ri):Prop:=∃i∈l,memI i z
end
section
instance (priority :=30000) lstNilI (w0:World)(L:List Blk):LstC w0 L (.slice none 0 0) Za rI []:=⟨fun _ _=>⟨.inl ⟨rfl,rfl⟩⟩⟩
instance (priority :=low) lstFR {xs:List Zi}(w0:World)(L L1:List Blk)(s:FlS Zv 9 xs)[h:OwnF 35 s L L1]:LstC w0 L (vF s) Zi Zv xs:=⟨fun w hw=>s.reads 35 ((hw.perm h.out).sub (List.sublist_append_left _ _))⟩
noncomputable def nrmS (l:List Za):List Za:=cmbR 1 l []
set_option maxHeartbeats 8000000 in
theorem Zhu (v:Value)(l:List Za)(w:World)(hv:ArgS w v rI l)(hl:l.length<=1024)(hb:∀i∈l,IvOk B28 i):
  Calls prog 48 [v].toArray w (RetM (SlS rI 20 (nrmS l)) (fun q=>vSl q) (fun q=>mS 37 q) w):=by
 have hL:=fun L=>hv.lst L
 have hk:CbIn l []:=⟨hl,Wm _,hb,fun i hi=>by cases hi⟩
 refine Zb Tryz.func48 rfl Tryz.ntmps48 rfl ?_
 repeat(first|(refine wkB ?_;intros)|(refine wnM ?_ ?_;(focus(exact hk));intros))
 rename_i q
 exact ZB rfl rfl (fun w hw=>⟨q,rfl,hw.sub suB⟩)
instance ZuG (w0:World)(L:List Blk)(v:Value)(l:List Za)[h:LstC w0 L v Za rI l]:SpecR prog w0 L 48 [v] (SlS rI 20 (nrmS l)) (fun q=>vSl q) (fun q=>mS 37 q) (l.length<=1024/\∀i∈l,IvOk B28 i):=⟨fun hp w hw=>Zhu v l w (h.out w hw) hp.1 hp.2⟩
noncomputable def celI (p:List Za)(c:List Rl)(i:Nat)(o:List Za):List Za:=if hlB p (gi c (i:Int))=true then o++[⟨gi c (i:Int),gi c (i:Int),false,false⟩] else o
noncomputable def celJ (p:List Za)(c:List Rl)(i:Nat)(o:List Za):List Za:=if i+1<c.length/\spB p (gi c (i:Int)) (gi c ((i+1:Nat):Int))=true then o++[⟨gi c (i:Int),gi c ((i+1:Nat):Int),true,true⟩] else o
noncomputable def celS (p:List Za)(c:List Rl):Nat->List Za
 |0=>[]
 |i+1=>celJ p c i (celI p c i (celS p c i))
theorem Zh2 (p:List Za)(c:List Rl)(i:Nat)(o:List Za):(celI p c i o).length<=o.length+1:=by
 unfold celI
 split <;> simp
theorem Zoj (p:List Za)(c:List Rl)(i:Nat)(o:List Za):(celJ p c i o).length<=o.length+1:=by
 unfold celJ
 split <;> simp
theorem ZeW (p:List Za)(c:List Rl):∀i,(celS p c i).length<=2*i
 |0=>Wl _
 |i+1=>by
  have h1:=ZeW p c i
  have h2:=Zh2 p c i (celS p c i)
  have h3:=Zoj p c i (celI p c i (celS p c i))
  rw[celS]
  omega
noncomputable def cutR (p:List Za)(a:List Rl):List Rl:=srtR (a++enR p) (a++enR p).length
noncomputable def celR (p:List Za)(a:List Rl):List Za:=celS p (cutR p a) (cutR p a).length
structure CelIn (p:List Za)(a:List Rl):Prop where
 lp:p.length<=1024
 la:a.length<=65536
 ip:∀i∈p,IvOk B28 i
 ia:∀x∈a,RtB x
theorem Zjl {p:List Za}{a:List Rl}(h:CelIn p a):SrR (a++enR p).length (cutR p a):=ZeF (fun x hx=>by
 rw[Wv] at hx
 exact hx.elim (h.ia x) ((Zec h.ip).b x)) _ (Wl _)
set_option maxHeartbeats 16000000 in
theorem ZiI (v1 v2:Value)(p:List Za)(a:List Rl)(w:World)(hv1:ArgS w v1 rI p)(hv2:ArgS w v2 Zv a)(hk:CelIn p a):
  Calls prog 67 [v1,v2].toArray w (RetM (SlS rI 20 (celR p a)) (fun q=>vSl q) (fun q=>mS 37 q) w):=by
 have hL1:=fun L=>hv1.lst L
 have hL2:=fun L=>hv2.lst L
 have hlp:=hk.lp
 have hla:=hk.la
 have hen:=Zec hk.ip
 have henn:=hen.n
 have p0:p.length<=65536/\∀i∈p,IvOk B28 i:=⟨by omega,hk.ip⟩
 have hall:(a++enR p).length<=1048576/\∀x∈a++enR p,RtB x:=by
  refine⟨by simp only[Wp];omega,fun x hx=>?_⟩
  rw[Wv] at hx
  exact hx.elim (hk.ia x) (hen.b x)
 refine Zb Tryz.func67 rfl Tryz.ntmps67 rfl ?_
 repeat(refine wkB ?_;intros)
 rename_i b0
 refine sVF (k:=8) (enc:=Zv) (s:=FlS.em b0) (hx:=⟨rfl⟩) rfl rfl ?_ ?_ ?_
 ·rfl
 ·exact⟨by simp only[Wx];omega,by simp only[Wx];omega⟩
 intro s1
 repeat(first|(refine wkB ?_;intros)|(refine wnM ?_ ?_;(focus(exact p0));intros))
 rename_i qe
 refine sVF rfl rfl ?_ ?_ ?_
 ·rfl
 ·exact⟨by(try simp only[Wp,Wx]);omega,by(try simp only[Wp,Wx]);omega⟩
 intro s2
 repeat(first|(refine wkB ?_;intros)|(refine wnM ?_ ?_;(focus(exact hall));intros))
 rename_i q
 have hx:SrR (a++enR p).length (srtR (a++enR p) (a++enR p).length):=Zjl hk
 have hfin:celR p a=celS p (srtR (a++enR p) (a++enR p).length) (srtR (a++enR p) (a++enR p).length).length:=rfl
 rw[hfin]
 generalize srtR (a++enR p) (a++enR p).length=xs at*
 have hxn:=hx.n
 simp only[Wp] at hxn
 have hpx:p.length<=1048576:=by omega
 refine Zad (S:=SlS rI 20 (celS p xs xs.length)) (fun _=>True) (fun s=>[(6,vSl s)]) (fun s=>mS 37 s) ?_ (fun s _=>?_)
 ·refine Zq (S:=(_:Nat)×(o:List Za)×SlS rI 20 o) (fun k=>k.1<=xs.length/\k.2.1=celS p xs k.1) (fun k=>[(0,v1),(5,vSl q),(6,vSl k.2.2),(7, .int .i64 (k.1:Nat))]) (fun k=>mS 37 k.2.2++mS 35 q) (fun k=>xs.length-k.1) ⟨0,[],SlS.no⟩ ⟨Wm _,rfl⟩ sbB suB (fun k hk'=>?_)
  obtain⟨k,out,o⟩:=k
  obtain⟨hkl,hko⟩:=hk'
  dsimp only at hkl hko⊢
  have hln:out.length<=2*k:=by rw[hko];exact ZeW p xs k
  have hend:k=xs.length->out=celS p xs xs.length:=fun h=>by rw[hko,h]
  have hnxt:celJ p xs k (celI p xs k out)=celS p xs (k+1):=by rw[hko];rfl
  clear hko
  repeat(refine wkB ?_;intros)
  refine Zk rfl (fun h=>?_) (fun h=>?_)
  ·have hlt:k<xs.length:=by have:=Wa h;omega
   have e1:(k:Int)+1=((k+1:Nat):Int):=by omega
   have hr1:=hx.b (gi xs (k:Int)) (ZA (by omega))
   have p1:p.length<=1048576/\(∀i∈p,IvOk B28 i)/\RtB (gi xs (k:Int)):=⟨hpx,hk.ip,hr1⟩
   rcases q.cases 35 with⟨y0,y1,y2⟩|⟨bq,cb,sp,hc1,y1,y2,yne⟩
   ·rw[y0] at hlt
    cases hlt
   simp only[y1,y2]
   repeat(first|(refine wkB ?_;intros)|(refine wnM ?_ ?_;(focus(exact p1));intros))
   refine ZY (S:=SlS rI 20 (celI p xs k out)) (fun _=>True) (fun s=>[(0,v1),(5, .slice (some ⟨bq,0,none⟩) xs.length cb),(6,vSl s),(7, .int .i64 (k:Nat))]) (fun s=>mS 37 s++[⟨bq,row Zv xs sp,35⟩]) ?_ (fun s _=>?_)
   ·refine Zk rfl (fun h=>?_) (fun h=>?_)
    ·(refine ZH (.v [0,1,2,3,4,5,6,7,8,9] (.e1 10 (.e1 11 (.e1 12 (.fin))))) ([⟨bq,row Zv xs sp,35⟩]) (h:=?_);refine wkX ?_)
     (repeat(refine wkH ?_))
     repeat(refine wkT ?_;intros)
     refine eU (k:=20) (enc:=rI) (s:=o) rfl rfl ?_ ?_ ?_ ?_
     ·rfl
     ·rfl
     ·exact⟨by decide,by omega,by omega⟩
     intro s0
     obtain⟨s',f1,f2⟩:=SlS.turn 37 (show out++[⟨gi xs (k:Int),gi xs (k:Int),false,false⟩]=celI p xs k out by unfold celI;rw[if_pos h]) s0
     repeat(refine wkT ?_;intros)
     repeat(refine wkB ?_;intros)
     exact Zj s' trivial (by rw[f1];exact sbB) (by rw[f2];exact suB)
    ·have hci:out=celI p xs k out:=by unfold celI;rw[if_neg (by rw[h];exact Bool.false_ne_true)]
     obtain⟨s',f1,f2⟩:=SlS.turn 37 hci o
     repeat(refine wkB ?_;intros)
     exact Zj s' trivial (by rw[f1];exact sbB) (by rw[f2];exact suB)
   ·have hcl:=Zh2 p xs k out
    generalize celI p xs k out=out1 at*
    refine Zad (S:=SlS rI 20 (celS p xs (k+1))) (fun _=>True) (fun s=>[(0,v1),(5, .slice (some ⟨bq,0,none⟩) xs.length cb),(6,vSl s),(7, .int .i64 (k:Nat))]) (fun s=>mS 37 s++[⟨bq,row Zv xs sp,35⟩]) ?_ (fun s _=>?_)
    ·by_cases c1:k+1<xs.length
     ·have hr2:=hx.b (gi xs ((k+1:Nat):Int)) (ZA (by omega))
      have p2:p.length<=1048576/\(∀i∈p,IvOk B28 i)/\RtB (gi xs (k:Int))/\RtB (gi xs ((k+1:Nat):Int)):=⟨hpx,hk.ip,hr1,hr2⟩
      repeat(refine wkB ?_;intros)
      refine jD 18 18 (h:=?_)
      (repeat(refine wkH ?_))
      simp only[Wc (show(k:Int)+1<(xs.length:Nat) by omega)]
      (repeat(refine wkH ?_))
      simp only[e1]
      (repeat(first|refine wkH ?_|(refine tC rfl rfl ?_ ?_;focus(exact p2))))
      refine Zo ?_
      refine Zs ?_
      repeat(refine wkB ?_;intros)
      refine Zk rfl (fun h=>?_) (fun h=>?_)
      ·try simp only[e1]
       (refine ZH (.v [0,1,2,3,4,5,6,7,8,9,10] (.e1 11 (.e1 12 (.e1 13 (.fin))))) ([⟨bq,row Zv xs sp,35⟩]) (h:=?_);refine wkX ?_)
       (repeat(refine wkH ?_))
       try simp only[e1]
       (repeat(refine wkH ?_))
       repeat(refine wkT ?_;intros)
       refine eU (k:=20) (enc:=rI) (s:=s) rfl rfl ?_ ?_ ?_ ?_
       ·rfl
       ·rfl
       ·exact⟨by decide,by omega,by omega⟩
       intro s0
       obtain⟨s',f1,f2⟩:=SlS.turn 37 (show out1++[⟨gi xs (k:Int),gi xs ((k+1:Nat):Int),true,true⟩]=celS p xs (k+1) by rw[<-hnxt];unfold celJ;rw[if_pos ⟨c1,h⟩]) s0
       repeat(refine wkT ?_;intros)
       repeat(refine wkB ?_;intros)
       exact Zj s' trivial (by rw[f1];exact sbB) (by rw[f2];exact suB)
      ·have hci:out1=celS p xs (k+1):=by rw[<-hnxt];unfold celJ;rw[if_neg (by rw[h];exact fun h=>Bool.false_ne_true h.2)]
       obtain⟨s',f1,f2⟩:=SlS.turn 37 hci s
       repeat(refine wkB ?_;intros)
       exact Zj s' trivial (by rw[f1];exact sbB) (by rw[f2];exact suB)
     ·repeat(refine wkB ?_;intros)
      refine jD 18 18 (h:=?_)
      (repeat(refine wkH ?_))
      simp only[We (show¬(k:Int)+1<(xs.length:Nat) by omega)]
      (repeat(refine wkH ?_))
      refine Zo ?_
      refine Zs ?_
      have hci:out1=celS p xs (k+1):=by rw[<-hnxt];unfold celJ;rw[if_neg (fun h=>c1 h.1)]
      obtain⟨s',f1,f2⟩:=SlS.turn 37 hci s
      repeat(refine wkB ?_;intros)
      exact Zj s' trivial (by rw[f1];exact sbB) (by rw[f2];exact suB)
    ·repeat(first|(refine wkB ?_;intros)|(refine wnM ?_ ?_;(focus(exact⟨by omega,by omega⟩));intros))
     exact Zg ⟨k+1,_,s⟩ ⟨hlt,rfl⟩ (by simp only[y1];exact sbB) (by simp only[y2];exact suB) (by show xs.length-(k+1)<xs.length-k;omega)
  ·have hge:k=xs.length:=by have:=Wb h;omega
   obtain⟨s',f1,f2⟩:=SlS.turn 37 (hend hge) o
   repeat(refine wkB ?_;intros)
   exact Zj s' trivial (by rw[f1];exact sbB) (by rw[f2];exact suB)
 ·repeat(refine wkB ?_;intros)
  exact ZB rfl rfl (fun w hw=>⟨s,rfl,hw.sub suB⟩)
instance Zwe (w0:World)(L:List Blk)(v1 v2:Value)(p:List Za)(a:List Zi)[h1:LstC w0 L v1 Za rI p][h2:LstC w0 L v2 Zi Zv a]:SpecR prog w0 L 67 [v1,v2] (SlS rI 20 (celR p a)) (fun q=>vSl q) (fun q=>mS 37 q) (CelIn p a):=⟨fun hp w hw=>ZiI v1 v2 p a w (h1.out w hw) (h2.out w hw) hp⟩
end
end Go.Vt
