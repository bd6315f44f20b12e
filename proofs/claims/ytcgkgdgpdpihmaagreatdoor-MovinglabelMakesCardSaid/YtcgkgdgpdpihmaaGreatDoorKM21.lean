/- For any moving Boolean, any period and any two labels, Constant and FromBool have their labels, and Is gives the moving Boolean back, if both labels differ. Conditions: none. (part 21 of 28.) Conditions: those that each statement names. -/
import Derived.Test.YtcgkgdgpdpihmaaGreatDoorProg
import Derived.Test.YtcgkgdgpdpihmaaGreatDoorCards
import Derived.Test.YtcgkgdgpdpihmaaGreatDoorTie
import Derived.WalkKit
import Derived.ProofKit
import Derived.OpenShut
import Derived.Deep.DeepHandedRow
import Derived.Deep.DeepLaidRun
import Derived.Deep.SlicePairs
import Derived.Carry
import Derived.Lib.LaidU8
import Derived.Test.YtcgkgdgpdpihmaaGreatDoorKM9
import Derived.Test.YtcgkgdgpdpihmaaGreatDoorKM11
import Derived.Test.YtcgkgdgpdpihmaaGreatDoorKM13
import Derived.Test.YtcgkgdgpdpihmaaGreatDoorKM15
import Derived.Test.YtcgkgdgpdpihmaaGreatDoorKM16
import Derived.Test.YtcgkgdgpdpihmaaGreatDoorKM17
import Derived.Test.YtcgkgdgpdpihmaaGreatDoorKM19
import Derived.Test.YtcgkgdgpdpihmaaGreatDoorKM20
set_option linter.unusedSimpArgs false
set_option linter.unusedVariables false
set_option maxHeartbeats 2000000
set_option maxRecDepth 100000
set_option linter.unusedSectionVars false
namespace Go.Vt
open Go.RowKit Go.Proofs
open Go.Proofs.Tryz (prog)
section
open Fv (va red)
theorem Zn1 {n:Nat}{xs:List Rl}{t x:Rl}(h:SrR n xs)(ht:RtB t):x∈insR xs t↔x∈xs\/x=t:=by
 unfold insR
 split
 ·rename_i hc
  have hm:gi xs (kI t xs:Int)∈xs:=ZA (by omega)
  have he:=(ZbX (h.b _ hm).o ht.o).1 (Zap.1 hc.2)
  rw[he] at hm
  exact⟨.inl,fun h=>h.elim id fun h=>h▸hm⟩
 ·have:x∈xs↔x∈xs.take (kI t xs)\/x∈xs.drop (kI t xs):=by
   rw[<-Wv,List.take_append_drop]
  rw[this]
  simp only[Wg,Wv,Wo]
  exact⟨fun h=>h.elim (fun h=>h.elim (fun h=> .inl (.inl h)) .inr) (fun h=> .inl (.inr h)),fun h=>h.elim (fun h=>h.elim (fun h=> .inl (.inl h)) .inr) (fun h=> .inl (.inr h))⟩
theorem Zhp {l:List Rl}(hb:∀x∈l,RtB x){x:Rl}:∀i,i<=l.length->(x∈srtR l i↔x∈l.take i)
 |0,_=>by simp[srtR]
 |i+1,hi=>by
  rw[srtR,Zn1 (Zen hb i (by omega)) (hb _ (ZA (by omega))),Zhp hb i (by omega),Wn (by omega),Wv,Wo,Zt (by omega)]
theorem ZjF (l:List Za){x:Rl}:∀m,m<=l.length->(x∈enL l m↔∃i∈l.take m,x=i.From\/x=i.To)
 |0,_=>by simp[enL]
 |m+1,hm=>by
  rw[enL,Wv,ZjF l m (by omega),Wn (by omega),Zt (by omega)]
  simp only[Ww,List.not_mem_nil,or_false,Wv]
  constructor
  ·rintro(⟨i,h1,h2⟩|h)
   ·exact⟨i, .inl h1,h2⟩
   ·exact⟨_, .inr rfl,h⟩
  ·rintro⟨i,h1|rfl,h2⟩
   ·exact .inl ⟨i,h1,h2⟩
   ·exact .inr h2
theorem Zjb {l:List Za}(h:∀i∈l,IvOk B28 i){x:Rl}:x∈enR l↔∃i∈l,x=i.From\/x=i.To:=by
 unfold enR
 rw[Zhp (Zfc h l.length (Wl _)) _ (Wl _),List.take_length,ZjF l _ (Wl _),List.take_length]
theorem SrR.mid {n:Nat}{xs:List Rl}(h:SrR n xs){k:Nat}(hk:k+1<xs.length){x:Rl}(hx:x∈xs):ri x<=ri (gi xs (k:Int))\/ri (gi xs ((k+1:Nat):Int))<=ri x:=by
 obtain⟨j,hj,rfl⟩:=List.getElem_of_mem hx
 rw[<-Zt hj]
 rcases(by omega:j<k\/j=k\/j=k+1\/k+1<j) with h1|rfl|rfl|h1
 ·have:=h.at h1 (by omega);exact .inl (by grind)
 ·exact .inl (by grind)
 ·exact .inr (by grind)
 ·have:=h.at h1 hj;exact .inr (by grind)
theorem SrR.fst {n:Nat}{xs:List Rl}(h:SrR n xs){x:Rl}(hx:x∈xs):ri (gi xs ((0:Nat):Int))<=ri x:=by
 obtain⟨j,hj,rfl⟩:=List.getElem_of_mem hx
 rw[<-Zt hj]
 rcases(by omega:j=0\/0<j) with rfl|h1
 ·grind
 ·have:=h.at h1 hj;grind
theorem SrR.lst {n:Nat}{xs:List Rl}(h:SrR n xs){k:Nat}(hk:k+1=xs.length){x:Rl}(hx:x∈xs):ri x<=ri (gi xs (k:Int)):=by
 obtain⟨j,hj,rfl⟩:=List.getElem_of_mem hx
 rw[<-Zt hj]
 rcases(by omega:j=k\/j<k) with rfl|h1
 ·grind
 ·have:=h.at h1 (by omega);grind
def HoldP (l:List Za)(z:Ri):Prop:=∃i∈l,memI i z
theorem Zjx {l:List Za}{t:Rl}:hlB l t=true↔HoldP l (ri t):=by
 unfold hlB HoldP
 rw[List.any_eq_true]
 exact⟨fun⟨i,h1,h2⟩=>⟨i,h1,Zjc.1 h2⟩,fun⟨i,h1,h2⟩=>⟨i,h1,Zjc.2 h2⟩⟩
theorem ZjA {l:List Za}{n:Nat}{xs:List Rl}(h:SrR n xs)(hm:∀i∈l,i.From∈xs/\i.To∈xs){k:Nat}(hk:k+1<xs.length){z:Ri}(h1:ri (gi xs (k:Int))<z)(h2:z<ri (gi xs ((k+1:Nat):Int))):spB l (gi xs (k:Int)) (gi xs ((k+1:Nat):Int))=true↔HoldP l z:=by
 unfold spB HoldP
 rw[List.any_eq_true]
 constructor
 ·rintro⟨i,hi,hs⟩
  unfold spI at hs
  simp only[Wq,decide_eq_true_eq,Zo8] at hs
  exact⟨i,hi, .inl (by grind), .inl (by grind)⟩
 ·rintro⟨i,hi,hs⟩
  obtain⟨m1,m2⟩:=hm i hi
  have e1:=h.mid hk m1
  have e2:=h.mid hk m2
  unfold memI at hs
  refine⟨i,hi, ?_⟩
  unfold spI
  simp only[Wq,decide_eq_true_eq,Zo8]
  exact⟨by grind,by grind⟩
def dcdP (op:Int)(p q:Prop):Prop:=if op=1 then p\/q else if op=2 then p/\q else p/\¬q
theorem Zi3 {op:Int}{a b:Bool}{p q:Prop}(h1:a=true↔p)(h2:b=true↔q):dcd op a b=true↔dcdP op p q:=by
 unfold dcd dcdP
 split
 ·rw[Bool.or_eq_true,h1,h2]
 ·split
  ·rw[Wq,h1,h2]
  ·rw[Wq,h1,<-h2,Bool.not_eq_true',Bool.not_eq_true]
theorem ZfJ {op:Int}{p q:Prop}(h1:¬p)(h2:¬q):¬dcdP op p q:=by
 unfold dcdP
 split
 ·exact fun h=>h.elim h1 h2
 ·split
  ·exact fun h=>h1 h.1
  ·exact fun h=>h1 h.1
theorem Zkl (ys:List Za)(w:Za)(t:Rl)(o:Bool):turnI (ys++[w]) t o=ys++[⟨w.From,t,w.OpenFrom,o⟩]:=by
 have e:lstI (ys++[w])=w:=by
  unfold lstI
  rw[ZbQ (by simp only[Wp,List.length_singleton];omega)]
  simp only[Wp,List.length_singleton]
  rw[List.getElem_append_right (by omega)]
  simp
 unfold turnI
 rw[e]
 simp
structure CbI (S:Ri->Prop)(p:CbS)(t:Rl):Prop where
 off:p.on=false->Sep p.out/\(∀i∈p.out,ri i.To<ri t)/\∀z,z<ri t->(HoldP p.out z↔S z)
 on:p.on=true->∃ys w,p.out=ys++[w]/\Sep (ys++[⟨w.From,t,w.OpenFrom,true⟩])/\ri w.From<ri t/\∀z,z<ri t->(HoldP (ys++[⟨w.From,t,w.OpenFrom,true⟩]) z↔S z)
structure CbJ (S:Ri->Prop)(o:List Za)(t:Rl):Prop where
 s:Sep o
 b:∀i∈o,ri i.To<ri t\/(ri i.To=ri t)
 e:∀i∈o,ri i.To=ri t->(i.OpenTo=false↔S (ri t))
 l:S (ri t)->∃ys w,o=ys++[w]/\ri w.To=ri t/\w.OpenTo=false
 h:∀z,z<=ri t->(HoldP o z↔S z)
theorem ZaH {ys:List Za}{w:Za}{z:Ri}:HoldP (ys++[w]) z↔HoldP ys z\/memI w z:=by
 unfold HoldP
 simp only[Wv,Wo]
 exact⟨fun⟨i,h1,h2⟩=>h1.elim (fun h=> .inl ⟨i,h,h2⟩) (fun h=> .inr (h▸h2)),fun h=>h.elim (fun⟨i,h1,h2⟩=>⟨i, .inl h1,h2⟩) (fun h=>⟨w, .inr rfl,h⟩)⟩
theorem Sep.snoc {ys:List Za}{w:Za}:Sep (ys++[w])↔Sep ys/\(∀i∈ys,bLt (bdL i) (bdF w))/\bLt (bdF w) (bdL w):=by
 constructor
 ·rintro⟨h1,h2⟩
  rw[List.pairwise_append] at h1
  exact⟨⟨h1.1,fun i hi=>h2 i (List.mem_append_left _ hi)⟩,fun i hi=>h1.2.2 i hi w (.head _),h2 w (List.mem_append_right _ (.head _))⟩
 ·rintro⟨⟨h1,h2⟩,h3,h4⟩
  refine⟨List.pairwise_append.2 ⟨h1,List.pairwise_singleton _ _,fun i hi j hj=>by rw[List.mem_singleton.1 hj];exact h3 i hi⟩,fun i hi=>?_⟩
  rcases List.mem_append.1 hi with h|h
  ·exact h2 i h
  ·rw[List.mem_singleton.1 h];exact h4
theorem Sep.nil :Sep []:=⟨List.Pairwise.nil,(fun i hi=>by cases hi)⟩
theorem Zpc {S:Ri->Prop}{p:CbS}{t:Rl}(h:CbI S p t){here:Bool}(hh:here=true↔S (ri t)):CbJ S (cbH p.out p.on here t) t:=by
 obtain⟨out,on⟩:=p
 cases on with
 |true=>
  obtain⟨ys,w,e,hs,hw,hz⟩:=h.on rfl
  dsimp only at e
  subst e
  unfold cbH
  rw[if_pos rfl,Zkl]
  obtain⟨s1,s2,s3⟩:=Sep.snoc.1 hs
  have hF:bdF ⟨w.From,t,w.OpenFrom,!here⟩=bdF ⟨w.From,t,w.OpenFrom,true⟩:=rfl
  have hys:∀i∈ys,ri i.To<ri t:=fun i hi=>by
   have:=s2 i hi
   unfold bLt bdL bdF at this
   dsimp only at this
   grind
  refine⟨Sep.snoc.2 ⟨s1,fun i hi=>by rw[hF];exact s2 i hi, .inl hw⟩,fun i hi=>?_,fun i hi e=>?_,fun hS=>⟨ys,_,rfl,rfl,by rw[hh.2 hS];rfl⟩,fun z hzt=>?_⟩
  ·rcases List.mem_append.1 hi with h1|h1
   ·exact .inl (hys i h1)
   ·rw[List.mem_singleton.1 h1];exact .inr rfl
  ·rcases List.mem_append.1 hi with h1|h1
   ·have:=hys i h1;grind
   ·rw[List.mem_singleton.1 h1]
    show(!here)=false↔_
    rw[<-hh]
    cases here <;> simp
  ·have hy:¬HoldP ys (ri t):=fun⟨i,hi,hm⟩=>by
    have:=hys i hi
    unfold memI at hm
    grind
   by_cases c:z=ri t
   ·subst c
    rw[ZaH,<-hh]
    refine⟨fun h=>h.elim (fun h=>(hy h).elim) fun h=>?_,fun h=> .inr ⟨.inl hw, .inr ⟨rfl,by rw[h];rfl⟩⟩⟩
    unfold memI at h
    have:=h.2
    cases here
    ·simp at this;grind
    ·rfl
   ·have hlt:z<ri t:=by grind
    rw[<-hz z hlt,ZaH,ZaH]
    unfold memI
    dsimp only
    grind
 |false=>
  obtain⟨hs,hb,hz⟩:=h.off rfl
  dsimp only at hs hb hz
  unfold cbH
  rw[if_neg (by simp)]
  have hy:¬HoldP out (ri t):=fun⟨i,hi,hm⟩=>by
   have:=hb i hi
   unfold memI at hm
   grind
  cases here with
  |true=>
   rw[if_pos rfl]
   have hS:=hh.1 rfl
   refine⟨Sep.snoc.2 ⟨hs,fun i hi=> .inl (hb i hi), .inr ⟨rfl,rfl,rfl⟩⟩,fun i hi=>?_,fun i hi e=>?_,fun _=>⟨out,_,rfl,rfl,rfl⟩,fun z hzt=>?_⟩
   ·rcases List.mem_append.1 hi with h1|h1
    ·exact .inl (hb i h1)
    ·rw[List.mem_singleton.1 h1];exact .inr rfl
   ·rcases List.mem_append.1 hi with h1|h1
    ·have:=hb i h1;grind
    ·rw[List.mem_singleton.1 h1]
     exact⟨fun _=>hS,fun _=>rfl⟩
   ·by_cases c:z=ri t
    ·subst c
     rw[ZaH]
     exact⟨fun _=>hS,fun _=> .inr ⟨.inr ⟨rfl,rfl⟩, .inr ⟨rfl,rfl⟩⟩⟩
    ·have hlt:z<ri t:=by grind
     rw[<-hz z hlt,ZaH]
     unfold memI
     dsimp only
     grind
  |false=>
   rw[if_neg (by decide)]
   have hS:¬S (ri t):=fun h=>by have:=hh.2 h;cases this
   refine⟨hs,fun i hi=> .inl (hb i hi),fun i hi e=>?_,fun h=>(hS h).elim,fun z hzt=>?_⟩
   ·have:=hb i hi;grind
   ·by_cases c:z=ri t
    ·subst c
     exact⟨fun h=>(hy h).elim,fun h=>(hS h).elim⟩
    ·exact hz z (by grind)
theorem ZtR {S:Ri->Prop}{o:List Za}{t u:Rl}(h:CbJ S o t)(htu:ri t<ri u){bt here:Bool}(hh:here=true↔S (ri t))(hb:∀z,ri t<z->z<ri u->(bt=true↔S z)):CbI S ⟨if(bt&& !here)=true then o++[⟨t,u,true,true⟩] else o,bt⟩ u:=by
 have hno:∀z,ri t<z->¬HoldP o z:=fun z hz ⟨i,hi,hm⟩=>by
  have:=h.b i hi
  unfold memI at hm
  grind
 cases bt with
 |false=>
  refine⟨fun _=>⟨h.s,fun i hi=>?_,fun z hz=>?_⟩,(fun h=>by cases h)⟩
  ·have:=h.b i hi;grind
  ·by_cases c:z<=ri t
   ·exact h.h z c
   ·have hl:ri t<z:=by grind
    exact⟨fun h=>(hno z hl h).elim,fun hS=>by have:=(hb z hl hz).2 hS;cases this⟩
 |true=>
  refine⟨(fun h=>by cases h),fun _=>?_⟩
  cases here with
  |true=>
   obtain⟨ys,w,e,hw1,hw2⟩:=h.l (hh.1 rfl)
   refine⟨ys,w,e, ?_, ?_,fun z hz=>?_⟩
   ·have hs:=h.s
    rw[e] at hs
    obtain⟨s1,s2,s3⟩:=Sep.snoc.1 hs
    refine Sep.snoc.2 ⟨s1,s2, .inl ?_⟩
    have:=ZaB.2 s3
    unfold okI at this
    show ri w.From<ri u
    grind
   ·have hs:=h.s.v w (by rw[e];exact List.mem_append_right _ (.head _))
    have:=ZaB.2 hs
    unfold okI at this
    grind
   ·have hs:=ZaB.2 (h.s.v w (by rw[e];exact List.mem_append_right _ (.head _)))
    have hold:=h.h z
    rw[e,ZaH] at hold
    rw[ZaH]
    by_cases c:z<=ri t
    ·rw[<-hold c]
     unfold memI
     dsimp only
     grind
    ·have hl:ri t<z:=by grind
     rw[<-hb z hl hz]
     refine⟨fun _=>rfl,fun _=> .inr ⟨.inl ?_, .inl hz⟩⟩
     unfold okI at hs
     show ri w.From<z
     grind
  |false=>
   have hS:¬S (ri t):=fun h=>by have:=hh.2 h;cases this
   have hsep:Sep (o++[⟨t,u,true,true⟩]):=Sep.snoc.2 ⟨h.s,fun i hi=>?_, .inl htu⟩
   ·refine⟨o,⟨t,u,true,true⟩,rfl,hsep,htu,fun z hz=>?_⟩
    rw[ZaH]
    by_cases c:z<=ri t
    ·rw[<-h.h z c]
     unfold memI
     dsimp only
     grind
    ·have hl:ri t<z:=by grind
     rw[<-hb z hl hz]
     exact⟨fun _=>rfl,fun _=> .inr ⟨.inl hl, .inl hz⟩⟩
   ·rcases h.b i hi with h1|h1
    ·exact .inl h1
    ·have h2:¬i.OpenTo=false:=fun h2=>hS ((h.e i hi h1).1 h2)
     refine .inr ⟨h1, ?_,rfl⟩
     show(!i.OpenTo)=false
     simpa using h2
theorem ZeK (op:Int){a b:List Za}(hk:CbIn a b):Sep (cmbR op a b)/\∀z,HoldP (cmbR op a b) z↔dcdP op (HoldP a z) (HoldP b z):=by
 have hab:∀i∈a++b,IvOk B28 i:=fun i hi=>(List.mem_append.1 hi).elim (hk.ia i) (hk.ib i)
 have hx:=Zmn hab
 have hm:∀i∈a++b,i.From∈enR (a++b)/\i.To∈enR (a++b):=fun i hi=>⟨(Zjb hab).2 ⟨i,hi, .inl rfl⟩,(Zjb hab).2 ⟨i,hi, .inr rfl⟩⟩
 unfold cmbR
 generalize enR (a++b)=xs at*
 have ha:∀i∈a,i.From∈xs/\i.To∈xs:=fun i hi=>hm i (List.mem_append_left _ hi)
 have hb:∀i∈b,i.From∈xs/\i.To∈xs:=fun i hi=>hm i (List.mem_append_right _ hi)
 obtain⟨S,hS⟩:∃S:Ri->Prop,S=fun z=>dcdP op (HoldP a z) (HoldP b z):=⟨_,rfl⟩
 have hSe:∀z,dcdP op (HoldP a z) (HoldP b z)↔S z:=fun z=>by rw[hS]
 simp only[hSe]
 have hhere:∀t:Rl,dcd op (hlB a t) (hlB b t)=true↔S (ri t):=fun t=>(Zi3 Zjx Zjx).trans (hSe _)
 by_cases h0:xs.length=0
 ·rw[h0]
  have hx0:xs=[]:=List.length_eq_zero_iff.1 h0
  have e1:∀l:List Za,(∀i∈l,i.From∈xs/\i.To∈xs)->∀z,¬HoldP l z:=fun l hl z ⟨i,hi,_⟩=>by
   have:=(hl i hi).1
   rw[hx0] at this
   cases this
  exact⟨Sep.nil,fun z=>⟨(fun⟨i,hi,_⟩=>by cases hi),fun h=>(ZfJ (e1 a ha z) (e1 b hb z) ((hSe z).2 h)).elim⟩⟩
 have hlow:∀l:List Za,(∀i∈l,i.From∈xs/\i.To∈xs)->∀z,z<ri (gi xs ((0:Nat):Int))->¬HoldP l z:=fun l hl z hz ⟨i,hi,hmm⟩=>by
  have:=hx.fst (hl i hi).1
  unfold memI at hmm
  grind
 have inv:∀k,k<xs.length->CbI S (cbR op a b xs k) (gi xs (k:Int)):=fun k=>by
  induction k with
  |zero=>exact fun _=>⟨fun _=>⟨Sep.nil,(fun i hi=>by cases hi),fun z hz=>⟨(fun⟨i,hi,_⟩=>by cases hi),fun h=>(ZfJ (hlow a ha z hz) (hlow b hb z hz) ((hSe z).2 h)).elim⟩⟩,(fun h=>by cases h)⟩
  |succ k ih=>
   intro hk1
   have hJ:=Zpc (ih (by omega)) (hhere (gi xs (k:Int)))
   rw[cbR]
   dsimp only
   rw[if_neg (show¬k+1=xs.length by omega)]
   exact ZtR hJ (hx.at (Nat.lt_succ_self k) hk1) (hhere _) fun z h1 h2=>(Zi3 (ZjA hx ha hk1 h1 h2) (ZjA hx hb hk1 h1 h2)).trans (hSe z)
 obtain⟨k,hk1⟩:∃k,xs.length=k+1:=⟨xs.length-1,by omega⟩
 have hJ:=Zpc (inv k (by omega)) (hhere (gi xs (k:Int)))
 have hup:∀l:List Za,(∀i∈l,i.From∈xs/\i.To∈xs)->∀z,ri (gi xs (k:Int))<z->¬HoldP l z:=fun l hl z hz ⟨i,hi,hmm⟩=>by
  have:=hx.lst hk1.symm (hl i hi).2
  unfold memI at hmm
  grind
 rw[hk1,cbR]
 dsimp only
 rw[if_pos hk1.symm]
 refine⟨hJ.s,fun z=>?_⟩
 by_cases c:z<=ri (gi xs (k:Int))
 ·exact hJ.h z c
 ·have hl:ri (gi xs (k:Int))<z:=by grind
  refine⟨fun⟨i,hi,hmm⟩=>?_,fun h=>(ZfJ (hup a ha z hl) (hup b hb z hl) ((hSe z).2 h)).elim⟩
  have:=hJ.b i hi
  unfold memI at hmm
  grind
end
section
instance (priority :=30000) lstNilI (w0:World)(L:List Blk):LstC w0 L (.slice none 0 0) Za rI []:=⟨fun _ _=>⟨.inl ⟨rfl,rfl⟩⟩⟩
noncomputable def nrmS (l:List Za):List Za:=cmbR 1 l []
set_option maxHeartbeats 8000000 in
theorem Zhf (v:Value)(l:List Za)(w:World)(hv:ArgS w v rI l)(hl:l.length<=1024)(hb:∀i∈l,IvOk B28 i):
  Calls prog 48 [v].toArray w (RetM (SlS rI 20 (nrmS l)) (fun q=>vSl q) (fun q=>mS 37 q) w):=by
 have hL:=fun L=>hv.lst L
 have hk:CbIn l []:=⟨hl,Wm _,hb,fun i hi=>by cases hi⟩
 refine Zb Tryz.func48 rfl Tryz.ntmps48 rfl ?_
 repeat(first|(refine wkB ?_;intros)|(refine wnM ?_ ?_;(focus(exact hk));intros))
 rename_i q
 exact Zs rfl rfl (fun w hw=>⟨q,rfl,hw.sub suB⟩)
instance ZuH (w0:World)(L:List Blk)(v:Value)(l:List Za)[h:LstC w0 L v Za rI l]:SpecR prog w0 L 48 [v] (SlS rI 20 (nrmS l)) (fun q=>vSl q) (fun q=>mS 37 q) (l.length<=1024/\∀i∈l,IvOk B28 i):=⟨fun hp w hw=>Zhf v l w (h.out w hw) hp.1 hp.2⟩
end
section
section
variable {Pr : Rl -> Prop}
theorem Zru {xs:List Rl}{t:Rl}(h:∀x∈xs,Pr x)(ht:Pr t):∀x∈insR xs t,Pr x:=fun x hx=>by
 unfold insR at hx
 split at hx
 ·exact h x hx
 ·simp only[Wg,Wv,Wo] at hx
  rcases hx with(hx|rfl)|hx
  ·exact h x (List.mem_of_mem_take hx)
  ·exact ht
  ·exact h x (List.mem_of_mem_drop hx)
theorem Zmi {l:List Rl}(h:∀x∈l,Pr x):∀i,i<=l.length->∀x∈srtR l i,Pr x
 |0,_=>fun x hx=>by cases hx
 |i+1,hi=>Zru (Zmi h i (by omega)) (h _ (ZA (by omega)))
theorem Zpf {l:List Za}(h:∀i∈l,Pr i.From/\Pr i.To):∀m,m<=l.length->∀x∈enL l m,Pr x
 |0,_,x,hx=>by cases hx
 |m+1,hm,x,hx=>by
  have h1:=h (gi l (m:Int)) (ZA (by omega))
  rw[enL,Wv] at hx
  rcases hx with hx|hx
  ·exact Zpf h m (by omega) x hx
  ·simp only[Ww,List.not_mem_nil,or_false] at hx
   rcases hx with rfl|rfl
   ·exact h1.1
   ·exact h1.2
theorem ZuD {l:List Za}(h:∀i∈l,Pr i.From/\Pr i.To):∀x∈enR l,Pr x:=Zmi (Zpf h l.length (Wl _)) _ (Wl _)
theorem Zuh {out:List Za}{on here:Bool}{t:Rl}(h:∀i∈out,Pr i.From/\Pr i.To)(ht:Pr t):∀i∈cbH out on here t,Pr i.From/\Pr i.To:=fun i hi=>by
 unfold cbH at hi
 split at hi
 ·unfold turnI at hi
  rcases List.mem_or_eq_of_mem_set hi with hi|rfl
  ·exact h i hi
  ·rcases Nat.eq_zero_or_pos out.length with h0|h0
   ·have:out=[]:=List.eq_nil_of_length_eq_zero h0
    subst this
    cases hi
   ·exact⟨(h _ (ZA (xs:=out) (i:=(out.length:Int)-1) (by omega))).1,ht⟩
 ·split at hi
  ·rw[Wv,Wo] at hi
   rcases hi with hi|rfl
   ·exact h i hi
   ·exact⟨ht,ht⟩
  ·exact h i hi
theorem Zpi {op:Int}{a b:List Za}{xs:List Rl}(h:∀x∈xs,Pr x):∀k,k<=xs.length->∀i∈(cbR op a b xs k).out,Pr i.From/\Pr i.To
 |0,_,i,hi=>by cases hi
 |k+1,hk,i,hi=>by
  have ih:=Zpi (op:=op) (a:=a) (b:=b) h k (by omega)
  have ht:=h (gi xs (k:Int)) (ZA (by omega))
  rw[cbR] at hi
  dsimp only at hi
  have hH:=Zuh (on:=(cbR op a b xs k).on) (here:=dcd op (hlB a (gi xs (k:Int))) (hlB b (gi xs (k:Int)))) ih ht
  split at hi
  ·exact hH i hi
  ·rename_i hne
   have hu:=h (gi xs ((k+1:Nat):Int)) (ZA (by omega))
   dsimp only at hi
   split at hi
   ·rw[Wv,Wo] at hi
    rcases hi with hi|rfl
    ·exact hH i hi
    ·exact⟨ht,hu⟩
   ·exact hH i hi
theorem Zhc {op:Int}{a b:List Za}(ha:∀i∈a,Pr i.From/\Pr i.To)(hb:∀i∈b,Pr i.From/\Pr i.To):∀i∈cmbR op a b,Pr i.From/\Pr i.To:=by
 refine Zpi (ZuD fun i hi=>?_) _ (Wl _)
 rw[Wv] at hi
 exact hi.elim (ha i) (hb i)
theorem Zh5 {a:List Za}(ha:∀i∈a,Pr i.From/\Pr i.To):∀i∈nrmS a,Pr i.From/\Pr i.To:=Zhc ha (fun i hi=>by cases hi)
end
theorem ZgS {l:List Rl}:∀i,(srtR l i).length<=i
 |0=>Wl _
 |i+1=>by
  have h1:=ZgS (l:=l) i
  rw[srtR,insR]
  split
  ·omega
  ·have:=Zke (gi l (i:Int)) (srtR l i)
   simp only[Wp,Wt,List.length_drop,List.length_singleton,Wx]
   omega
theorem Zqo (l:List Za):(enR l).length<=2*l.length:=by
 have h1:=ZgS (l:=enL l l.length) (enL l l.length).length
 have h2:=Zdg l l.length
 unfold enR
 omega
theorem Zh3 (op:Int)(a b:List Za):(cmbR op a b).length<=4*(a.length+b.length):=by
 have h1:=Zf1 op a b (enR (a++b)) (enR (a++b)).length
 have h2:=Zqo (a++b)
 rw[Wp] at h2
 unfold cmbR
 omega
theorem ZgJ (a:List Za):(nrmS a).length<=4*a.length:=Zh3 1 a []
end
end Go.Vt
namespace Go.Vt
def IsRt (n r:Nat):Prop:=r*r<=n/\n<(r+1)*(r+1)
theorem sqm {a b:Nat}(h:a<=b):a*a<=b*b:=Nat.mul_le_mul h h
theorem IsRt.uniq {n r s:Nat}(h:IsRt n r)(k:IsRt n s):r=s:=by
 obtain⟨h1,h2⟩:=h
 obtain⟨k1,k2⟩:=k
 rcases Nat.lt_trichotomy r s with hl|hl|hl
 ·have:=sqm (show r+1<=s by omega);omega
 ·exact hl
 ·have:=sqm (show s+1<=r by omega);omega
def rtN :Nat->Nat
 |0=>0
 |n+1=>if(rtN n+1)*(rtN n+1)<=n+1 then rtN n+1 else rtN n
theorem Zdb :∀n,IsRt n (rtN n)
 |0=>⟨Nat.le_refl _,by decide⟩
 |n+1=>by
  obtain⟨h1,h2⟩:=Zdb n
  rw[rtN]
  generalize rtN n=r at*
  split
  ·rename_i h
   refine⟨h, ?_⟩
   have e:(r+1+1)*(r+1+1)=(r+1)*(r+1)+2*r+3:=by grind
   omega
  ·exact⟨by omega,by omega⟩
theorem ZmO {n r:Nat}(h:IsRt n r):rtN n=r:=(Zdb n).uniq h
theorem Zmw (r:Nat):rtN (r*r)=r:=ZmO ⟨Nat.le_refl _,by rw[show(r+1)*(r+1)=r*r+2*r+1 by grind];omega⟩
theorem Zcn (n:Nat):rtN n<=n:=by
 have h:=(Zdb n).1
 generalize rtN n=r at*
 rcases Nat.eq_zero_or_pos r with h0|h0
 ·omega
 ·have:=Nat.mul_le_mul_left r h0
  omega
theorem Zm8 {n x:Nat}(hn:0<n)(h:n<(x+1)*(x+1)):0<x:=by
 rcases Nat.eq_zero_or_pos x with h0|h0
 ·subst h0;omega
 ·exact h0
theorem Zn2 (q:Rat):(q*q).num=q.num*q.num/\(q*q).den=q.den*q.den:=by
 have hr:(q.num*q.num).natAbs.Coprime (q.den*q.den):=by
  rw[Int.natAbs_mul]
  exact Nat.Coprime.mul_left (Nat.Coprime.mul_right q.reduced q.reduced) (Nat.Coprime.mul_right q.reduced q.reduced)
 have hd:q.den*q.den≠0:=Nat.mul_ne_zero q.den_nz q.den_nz
 have e:q*q=⟨q.num*q.num,q.den*q.den,hd,hr⟩:=by
  rw[Rat.mul_def,Rat.normalize_eq_mk' _ _ hd hr]
 rw[e]
 exact⟨rfl,rfl⟩
def rtQ (a:Rat):Option Rat:=if 0<=a.num/\rtN a.num.natAbs*rtN a.num.natAbs=a.num.natAbs/\rtN a.den*rtN a.den=a.den then some (Rat.divInt (rtN a.num.natAbs) (rtN a.den)) else none
theorem Zlc {q:Rat}(hq:0<=q):rtQ (q*q)=some q:=by
 obtain⟨h1,h2⟩:=Zn2 q
 have h3:=Rat.num_nonneg.2 hq
 have h4:(q*q).num.natAbs=q.num.natAbs*q.num.natAbs:=by rw[h1,Int.natAbs_mul]
 unfold rtQ
 rw[h4,h2,Zmw,Zmw,if_pos ⟨by rw[h1];exact Int.mul_nonneg h3 h3,rfl,rfl⟩,Int.natAbs_of_nonneg h3,Rat.num_divInt_den]
theorem ZnJ {a q:Rat}(h:rtQ a=some q):0<=q/\q*q=a:=by
 unfold rtQ at h
 split at h
 ·rename_i hc
  obtain⟨c1,c2,c3⟩:=hc
  injection h with h
  subst h
  have hp:=a.den_pos
  generalize rtN a.num.natAbs=n at*
  generalize rtN a.den=d at*
  have hd:(d:Int)≠0:=by
   rintro h0
   have:d=0:=by omega
   subst this
   omega
  constructor
  ·exact Rat.divInt_nonneg_iff_of_pos_right (b:=(d:Int)) (by omega) |>.2 (by omega)
  ·rw[Rat.divInt_mul_divInt]
   conv=>rhs;rw[<-Rat.num_divInt_den a]
   have e1:((n:Int)*n)=a.num:=by
    have:((n*n:Nat):Int)=(a.num.natAbs:Int):=by rw[c2]
    rw[Int.natAbs_of_nonneg c1] at this
    exact_mod_cast this
   have e2:((d:Int)*d)=(a.den:Int):=by exact_mod_cast congrArg (Nat.cast (R:=Int)) c3
   rw[e1,e2]
 ·cases h
theorem ZhM {a:Rat}(h:rtQ a=none)(q:Rat):q*q≠a:=fun e=>by
 by_cases hq:0<=q
 ·rw[<-e,Zlc hq] at h
  cases h
 ·have e2:(-q)*(-q)=a:=by rw[<-e];grind
  rw[<-e2,Zlc (by grind)] at h
  cases h
end Go.Vt
namespace Go.Vt
open Go.RowKit Go.Proofs
open Go.Proofs.Tryz (prog)
theorem Zr7 (w:World):(Instr.buildSlice 65 0 [].toArray).run prog w= .ok (.slice (some ⟨w.heap.size,0,none⟩) 0 0) (w.alloc (.cells (row (eI .i64) [] []) 3)):=by kernel_rfl
instance (priority :=high) ZAt:BsC prog 65 0 [] (row (eI .i64) [] []) 3:=⟨Zr7⟩
theorem ZmB :dI 2=[2]:=by rw[Zb8 (by decide)];rfl
instance (priority :=30000) lstD1 (w0:World)(L:List Blk)(b:Nat)(T:TypeId)[h:AtC w0 L b (row (eI .i64) [1] []) T]:LstC w0 L (.slice (some ⟨b,0,none⟩) 1 1) Int (eI .i64) (dI 1):=by
 rw[Zfl]
 exact⟨fun w hw=>by
  obtain⟨fz,hb⟩:=h.out w hw
  exact ZbI (c:=1) hb (Wl 1)⟩
instance (priority :=30000) lstD2 (w0:World)(L:List Blk)(b:Nat)(T:TypeId)[h:AtC w0 L b (row (eI .i64) [2] []) T]:LstC w0 L (.slice (some ⟨b,0,none⟩) 1 1) Int (eI .i64) (dI 2):=by
 rw[ZmB]
 exact⟨fun w hw=>by
  obtain⟨fz,hb⟩:=h.out w hw
  exact ZbI (c:=1) hb (Wl 1)⟩
theorem Zjo (m n:Nat):Lib.compareInt (m:Int) n<0↔m<n:=by
 have:=Zk8 m n
 omega
theorem ZiU (m n:Nat):Lib.compareInt (m:Int) n<=0↔m<=n:=by
 unfold Lib.compareInt
 split
 ·exact⟨fun _=>by omega,fun _=>by decide⟩
 ·split
  ·exact⟨fun h=>by omega,fun h=>by omega⟩
  ·exact⟨fun _=>by omega,fun _=>by decide⟩
theorem ZjO (m n:Nat):Lib.compareInt (m:Int) n=0↔m=n:=by
 unfold Lib.compareInt
 split
 ·exact⟨fun h=>by omega,fun h=>by omega⟩
 ·split
  ·exact⟨fun h=>by omega,fun h=>by omega⟩
  ·exact⟨fun _=>by omega,fun _=>rfl⟩
set_option maxHeartbeats 16000000 in
theorem Zkz (v:Value)(n:Nat)(w:World)(hv:ArgS w v (eI .i64) (dI n))(hl:(dI n).length<=268435456):
  Calls prog 159 [v].toArray w (RetM (FlS (eI .i64) 1 (dI (rtN n))) (fun s=>vF s) (fun s=>mF 3 s) w):=by
 have hc:=fun L=>hv.lst L
 have l1:(dI 1).length<=1:=by rw[Zfl];exact Wl _
 have l2:(dI 2).length<=1:=by rw[ZmB];exact Wl _
 have p0:(dI n).length<=1099511627776/\(dI 1).length<=1099511627776:=⟨by omega,by omega⟩
 have hb:∀m,m<=n+1->(dI m).length<=268435457:=fun m hm=>by
  have h1:=ZhO (m:=n) (n:=1) (a:=268435456) hl (by omega)
  exact Zfk hm h1
 have hn1:n<(n+1)*(n+1):=by
  have:(n+1)*(n+1)=n*n+2*n+1:=by grind
  omega
 refine Zb Tryz.func159 rfl Tryz.ntmps159 rfl ?_
 repeat(first|(refine wkB ?_;intros)|(refine wnM ?_ ?_;(focus(exact p0));intros))
 rename_i b7 b9 f
 refine Zm (S:=(lo:Nat)×(hi:Nat)×FlS (eI .i64) 1 (dI lo)×FlS (eI .i64) 1 (dI hi)) (fun s=>(s.1*s.1<=n/\n<s.2.1*s.2.1)/\s.2.1<=n+1) (fun s=>[(0,v),(3,vF s.2.2.1),(4,vF s.2.2.2)]) (fun s=>mF 3 s.2.2.2++mF 3 s.2.2.1) (fun s=>s.2.1-s.1) ⟨0,n+1,FlS.em b7,f⟩ ⟨⟨Wm _,hn1⟩,Wl _⟩ sbB (by dsimp only[FlS.em_m];exact suB) (fun s hs=>?_)
 obtain⟨lo,hi,slo,shi⟩:=s
 obtain⟨⟨h1,h2⟩,h3⟩:=hs
 dsimp only at h1 h2 h3⊢
 have hlh:lo<hi:=by
  rcases Nat.lt_or_ge lo hi with h|h
  ·exact h
  ·have:=sqm h;omega
 have b1:=hb lo (by omega)
 have b2:=hb hi h3
 have p1:(dI lo).length<=1099511627776/\(dI 1).length<=1099511627776:=⟨by omega,by omega⟩
 have p2:(dI (lo+1)).length<=1125899906842624/\(dI hi).length<=1125899906842624:=⟨by have:=hb (lo+1) (by omega);omega,by omega⟩
 repeat(first|(refine wkB ?_;intros)|(refine wnM ?_ ?_;(focus(first|exact p1|exact p2));intros))
 refine Zg rfl (fun h=>?_) (fun h=>?_)
 ·have hlt:=(Zjo (lo+1) hi).1 (Wa h)
  have p3:(dI lo).length<=1099511627776/\(dI hi).length<=1099511627776:=⟨by omega,by omega⟩
  have b3:(dI (lo+hi)).length<=268435458:=ZhO b1 b2
  have p4:((dI (lo+hi)).length<=1073741824/\(dI 2).length<=1073741824)/\0<2:=⟨⟨by omega,by omega⟩,by decide⟩
  repeat(first|(refine wkB ?_;intros)|(refine wnM ?_ ?_;(focus(first|exact p3|exact p4));intros))
  rename_i d
  obtain⟨q,r,al⟩:=d
  dsimp only
  simp only[List.append_assoc]
  have hm1:lo<(lo+hi) / 2:=by omega
  have hm2:(lo+hi) / 2<hi:=by omega
  have b4:=hb ((lo+hi) / 2) (by omega)
  have p5:(dI ((lo+hi) / 2)).length<=1099511627776/\(dI ((lo+hi) / 2)).length<=1099511627776:=⟨by omega,by omega⟩
  have b5:=Zcj b4 b4
  have p6:(dI (((lo+hi) / 2)*((lo+hi) / 2))).length<=1125899906842624/\(dI n).length<=1125899906842624:=⟨by omega,by omega⟩
  repeat(first|(refine wkB ?_;intros)|(refine wnM ?_ ?_;(focus(first|exact p5|exact p6));intros))
  refine Zg rfl (fun h=>?_) (fun h=>?_)
  ·have hle:=(ZiU (((lo+hi) / 2)*((lo+hi) / 2)) n).1 (Wa h)
   repeat(refine wkB ?_;intros)
   exact ZgX ⟨((lo+hi) / 2),hi,q,shi⟩ ⟨⟨hle,h2⟩,h3⟩ sbB inferInstance (by show hi-((lo+hi) / 2)<hi-lo;omega)
  ·have hgt:n<((lo+hi) / 2)*((lo+hi) / 2):=by
    rcases Nat.lt_or_ge n (((lo+hi) / 2)*((lo+hi) / 2)) with h0|h0
    ·exact h0
    ·exact absurd ((ZiU (((lo+hi) / 2)*((lo+hi) / 2)) n).2 h0) (Wb h)
   repeat(refine wkB ?_;intros)
   exact ZgX ⟨lo,((lo+hi) / 2),slo,q⟩ ⟨⟨h1,hgt⟩,by show((lo+hi) / 2)<=n+1;omega⟩ sbB inferInstance (by show((lo+hi) / 2)-lo<hi-lo;omega)
 ·have hge:hi=lo+1:=by
   have h0:¬lo+1<hi:=fun h0=>Wb h ((Zjo (lo+1) hi).2 h0)
   omega
  subst hge
  have hr:rtN n=lo:=ZmO ⟨h1,h2⟩
  obtain⟨f',g1,g2⟩:=slo.like (show dI (rtN n)=dI lo by rw[hr])
  repeat(refine wkB ?_;intros)
  exact Zs rfl rfl (fun w hw=>⟨f',by show Ending.returned _=Ending.returned (vF f');rw[g1],by show Own _ (mF _ f') _;rw[g2];exact hw.sub suB⟩)
instance ZxX (w0:World)(L:List Blk)(v:Value)(n:Nat)[h:LstC w0 L v Int (eI .i64) (dI n)]:SpecR prog w0 L 159 [v] (FlS (eI .i64) 1 (dI (rtN n))) (fun s=>vF s) (fun s=>mF 3 s) ((dI n).length<=268435456):=⟨fun hl w hw=>Zkz v n w (h.out w hw) hl⟩
theorem ZpY (q:Rat):(rtQ q).isSome=true↔0<=q.num/\rtN q.num.natAbs*rtN q.num.natAbs=q.num.natAbs/\rtN q.den*rtN q.den=q.den:=by
 unfold rtQ
 split
 ·rename_i h;exact⟨fun _=>h,fun _=>rfl⟩
 ·rename_i h;exact⟨(fun k=>by cases k),fun k=>(h k).elim⟩
set_option maxHeartbeats 16000000 in
theorem ZkP (a:Rat)(w:World)(hl:M a<=268435456):
  Calls prog 112 [vQ a].toArray w (Ret (.tuple #[vQ ((rtQ a).getD 0), .bool (rtQ a).isSome]) w):=by
 have ha:M a<=1073741824:=by omega
 have x1:(dI a.num.natAbs).length<=268435456:=by rw[ZbF];exact Wi (Nat.le_max_left _ _) hl
 have x2:(dI a.den).length<=268435456:=by have:=ZbF (a.den:Int);rw[Int.natAbs_natCast] at this;rw[this];exact Wi (Nat.le_max_right _ _) hl
 have r1:(dI (rtN a.num.natAbs)).length<=268435456:=Zfk (Zcn _) x1
 have r2:(dI (rtN a.den)).length<=268435456:=Zfk (Zcn _) x2
 have m1:=Zcj r1 r1
 have m2:=Zcj r2 r2
 have p1:(dI (rtN a.num.natAbs)).length<=1099511627776/\(dI (rtN a.num.natAbs)).length<=1099511627776:=⟨by omega,by omega⟩
 have p2:(dI (rtN a.den)).length<=1099511627776/\(dI (rtN a.den)).length<=1099511627776:=⟨by omega,by omega⟩
 have p3:(dI (rtN a.num.natAbs*rtN a.num.natAbs)).length<=1125899906842624/\(dI a.num.natAbs).length<=1125899906842624:=⟨by omega,by omega⟩
 have p4:(dI (rtN a.den*rtN a.den)).length<=1125899906842624/\(dI a.den).length<=1125899906842624:=⟨by omega,by omega⟩
 have hd0:0<rtN a.den:=Zm8 a.den_pos (Zdb _).2
 have p5:((dI (rtN a.num.natAbs)).length<=1073741824/\(dI (rtN a.den)).length<=1073741824)/\0<rtN a.den:=⟨⟨by omega,by omega⟩,hd0⟩
 have hiff:=ZpY a
 have hval:(rtQ a).isSome=true->Rat.divInt (sgI false (rtN a.num.natAbs)) (rtN a.den:Nat)=(rtQ a).getD 0:=fun h=>by
  have:=hiff.1 h
  unfold rtQ
  rw[if_pos this]
  rfl
 have hnone:(rtQ a).isSome=false->(rtQ a).getD 0=0:=fun h=>by
  cases h0:rtQ a with
  |none=>rfl
  |some q=>rw[h0] at h;cases h
 refine Zb Tryz.func112 rfl Tryz.ntmps112 rfl ?_
 repeat(first|(refine wkB ?_;intros)|(refine wnM ?_ ?_;(focus(exact ha));intros))
 rename_i b1 b2 s b4
 simp only[FrO.fr_eq,FrO.mem,List.append_assoc]
 refine ZX (S:=FlS (eI .i64) 1 (dI (rtN a.num.natAbs))×FlS (eI .i64) 1 (dI (rtN a.den))) (fun _=>True) (fun q=>[(2, .pointer (some ⟨b2,0,none⟩)),(3, .bool false),(4, .pointer (some ⟨b4,0,none⟩)),(5,vF q.1),(6,vF q.2)]) (fun q=>mF 3 q.1++(mF 3 q.2++(⟨b4,Zc ⟨decide (a.num<0),flH s.n,flH s.d⟩,162⟩::⟨b2,Zl (Q 0),33⟩::(mF 3 s.n++mF 3 s.d)))) ?_ (fun q _=>?_)
 ·(refine ZF (.v [0,1,3,4] (.e1 2 (.e1 5 (.e1 6 (.e1 7 (.fin)))))) ([⟨b4,Zc ⟨decide (a.num<0),flH s.n,flH s.d⟩,162⟩]) (h:=?_);refine wkX ?_)
  repeat' (first|(with_reducible refine And.intro ?_ ?_)|(with_reducible exact True.intro)|(refine wkT ?_;intros)|(refine tC rfl rfl ?_ ?_;focus(first|exact x1|exact x2))|(refine uC rfl rfl ?_ ?_;focus(first|exact x1|exact x2))|(refine eN rfl rfl ?_ ?_;(focus(first|exact x1|exact x2));intro _;(try simp only[Wf,Wg,Wh]))|fail)
  all_goals exact Zbh ⟨_,_⟩ trivial sbB inferInstance
 obtain⟨qn,qd⟩:=q
 dsimp only
 repeat(refine wkB ?_;intros)
 refine ZX (S:=Unit) (fun _=>True) (fun _=>[(2, .pointer (some ⟨b2,0,none⟩)),(3, .bool false),(5,vF qn),(6,vF qd),(34, .bool (!(rtQ a).isSome))]) (fun _=>mF 3 qn++(mF 3 qd++[⟨b2,Zl (Q 0),33⟩])) ?_ (fun _ _=>?_)
 ·have g1:=ZjO (rtN a.num.natAbs*rtN a.num.natAbs) a.num.natAbs
  have g2:=ZjO (rtN a.den*rtN a.den) a.den
  have i1:∀(L:List Blk)(u1 u2:Value) [LstC w L u1 Int (eI .i64) (dI (rtN a.num.natAbs*rtN a.num.natAbs))] [LstC w L u2 Int (eI .i64) (dI a.num.natAbs)],SpecM prog w L 125 [u1,u2] (.int .i64 (Lib.compareInt ((rtN a.num.natAbs*rtN a.num.natAbs:Nat):Int) a.num.natAbs)) ((dI (rtN a.num.natAbs*rtN a.num.natAbs)).length<=1125899906842624/\(dI a.num.natAbs).length<=1125899906842624):=fun L u1 u2 _ _=>inferInstance
  have i2:∀(L:List Blk)(u1 u2:Value) [LstC w L u1 Int (eI .i64) (dI (rtN a.den*rtN a.den))] [LstC w L u2 Int (eI .i64) (dI a.den)],SpecM prog w L 125 [u1,u2] (.int .i64 (Lib.compareInt ((rtN a.den*rtN a.den:Nat):Int) a.den)) ((dI (rtN a.den*rtN a.den)).length<=1125899906842624/\(dI a.den).length<=1125899906842624):=fun L u1 u2 _ _=>inferInstance
  generalize Lib.compareInt ((rtN a.num.natAbs*rtN a.num.natAbs:Nat):Int) a.num.natAbs=z1 at*
  generalize Lib.compareInt ((rtN a.den*rtN a.den:Nat):Int) a.den=z2 at*
  by_cases hneg:a.num<0
  ·have hs:(rtQ a).isSome=false:=Bool.eq_false_iff.2 fun h=>by have:=(hiff.1 h).1;omega
   simp only[Wc hneg,hs,Bool.not_false]
   (refine ZF (.v [0,1,2,3,4,5,6,7,8,9,10,11,12,13,14,15,16,17,18,19] (.fin)) ([⟨b4,Zc ⟨true,flH s.n,flH s.d⟩,162⟩]) (h:=?_);refine wkX ?_)
   repeat' (first|(with_reducible refine And.intro ?_ ?_)|(with_reducible exact True.intro)|(refine wkT ?_;intros)|(refine tC rfl rfl ?_ ?_;focus(first|exact p1|exact p2|exact p3|exact p4))|(refine uC rfl rfl ?_ ?_;focus(first|exact p1|exact p2|exact p3|exact p4))|(refine eN rfl rfl ?_ ?_;(focus(first|exact p1|exact p2|exact p3|exact p4));intro _;(try simp only[Wf,Wg,Wh]))|fail)
   all_goals exact Zbh () trivial sbB inferInstance
  ·simp only[We hneg]
   by_cases c1:z1=0
   ·by_cases c2:z2=0
    ·have hs:(rtQ a).isSome=true:=hiff.2 ⟨by omega,g1.1 c1,g2.1 c2⟩
     simp only[hs,Bool.not_true]
     (refine ZF (.v [0,1,2,3,4,6,7] (.e1 5 (.e1 8 (.v [9,10,11,12,13,15,16] (.e1 14 (.e1 17 (.v [18,19] (.fin)))))))) ([⟨b4,Zc ⟨false,flH s.n,flH s.d⟩,162⟩]) (h:=?_);refine wkX ?_)
     repeat' (first|(with_reducible refine And.intro ?_ ?_)|(with_reducible exact True.intro)|(refine wkT ?_;intros)|(refine tC rfl rfl ?_ ?_;focus(first|exact p1|exact p2|exact p3|exact p4))|(refine uC rfl rfl ?_ ?_;focus(first|exact p1|exact p2|exact p3|exact p4))|(refine eN rfl rfl ?_ ?_;(focus(first|exact p1|exact p2|exact p3|exact p4));intro _;(try simp only[Wf,Wg,Wh]))|fail)
     all_goals simp only[Wc c1,Bool.not_true]
     repeat' (first|(with_reducible refine And.intro ?_ ?_)|(with_reducible exact True.intro)|(refine wkT ?_;intros)|(refine tC rfl rfl ?_ ?_;focus(first|exact p1|exact p2|exact p3|exact p4))|(refine uC rfl rfl ?_ ?_;focus(first|exact p1|exact p2|exact p3|exact p4))|(refine eN rfl rfl ?_ ?_;(focus(first|exact p1|exact p2|exact p3|exact p4));intro _;(try simp only[Wf,Wg,Wh]))|fail)
     all_goals simp only[Wc c2,Bool.not_true]
     repeat' (first|(with_reducible refine And.intro ?_ ?_)|(with_reducible exact True.intro)|(refine wkT ?_;intros)|(refine tC rfl rfl ?_ ?_;focus(first|exact p1|exact p2|exact p3|exact p4))|(refine uC rfl rfl ?_ ?_;focus(first|exact p1|exact p2|exact p3|exact p4))|(refine eN rfl rfl ?_ ?_;(focus(first|exact p1|exact p2|exact p3|exact p4));intro _;(try simp only[Wf,Wg,Wh]))|fail)
     all_goals exact Zbh () trivial sbB inferInstance
    ·have hs:(rtQ a).isSome=false:=Bool.eq_false_iff.2 fun h=>c2 (g2.2 (hiff.1 h).2.2)
     simp only[hs,Bool.not_false]
     (refine ZF (.v [0,1,2,3,4,6,7] (.e1 5 (.e1 8 (.v [9,10,11,12,13,15,16] (.e1 14 (.e1 17 (.v [18,19] (.fin)))))))) ([⟨b4,Zc ⟨false,flH s.n,flH s.d⟩,162⟩]) (h:=?_);refine wkX ?_)
     repeat' (first|(with_reducible refine And.intro ?_ ?_)|(with_reducible exact True.intro)|(refine wkT ?_;intros)|(refine tC rfl rfl ?_ ?_;focus(first|exact p1|exact p2|exact p3|exact p4))|(refine uC rfl rfl ?_ ?_;focus(first|exact p1|exact p2|exact p3|exact p4))|(refine eN rfl rfl ?_ ?_;(focus(first|exact p1|exact p2|exact p3|exact p4));intro _;(try simp only[Wf,Wg,Wh]))|fail)
     all_goals simp only[Wc c1,Bool.not_true]
     repeat' (first|(with_reducible refine And.intro ?_ ?_)|(with_reducible exact True.intro)|(refine wkT ?_;intros)|(refine tC rfl rfl ?_ ?_;focus(first|exact p1|exact p2|exact p3|exact p4))|(refine uC rfl rfl ?_ ?_;focus(first|exact p1|exact p2|exact p3|exact p4))|(refine eN rfl rfl ?_ ?_;(focus(first|exact p1|exact p2|exact p3|exact p4));intro _;(try simp only[Wf,Wg,Wh]))|fail)
     all_goals simp only[We c2,Bool.not_false]
     repeat' (first|(with_reducible refine And.intro ?_ ?_)|(with_reducible exact True.intro)|(refine wkT ?_;intros)|(refine tC rfl rfl ?_ ?_;focus(first|exact p1|exact p2|exact p3|exact p4))|(refine uC rfl rfl ?_ ?_;focus(first|exact p1|exact p2|exact p3|exact p4))|(refine eN rfl rfl ?_ ?_;(focus(first|exact p1|exact p2|exact p3|exact p4));intro _;(try simp only[Wf,Wg,Wh]))|fail)
     all_goals exact Zbh () trivial sbB inferInstance
   ·have hs:(rtQ a).isSome=false:=Bool.eq_false_iff.2 fun h=>c1 (g1.2 (hiff.1 h).2.1)
    simp only[hs,Bool.not_false]
    (refine ZF (.v [0,1,2,3,4,6,7] (.e1 5 (.e1 8 (.v [9,10,11,12,13,14,15,16,17,18,19] (.fin))))) ([⟨b4,Zc ⟨false,flH s.n,flH s.d⟩,162⟩]) (h:=?_);refine wkX ?_)
    repeat' (first|(with_reducible refine And.intro ?_ ?_)|(with_reducible exact True.intro)|(refine wkT ?_;intros)|(refine tC rfl rfl ?_ ?_;focus(first|exact p1|exact p2|exact p3|exact p4))|(refine uC rfl rfl ?_ ?_;focus(first|exact p1|exact p2|exact p3|exact p4))|(refine eN rfl rfl ?_ ?_;(focus(first|exact p1|exact p2|exact p3|exact p4));intro _;(try simp only[Wf,Wg,Wh]))|fail)
    all_goals simp only[We c1,Bool.not_false]
    repeat' (first|(with_reducible refine And.intro ?_ ?_)|(with_reducible exact True.intro)|(refine wkT ?_;intros)|(refine tC rfl rfl ?_ ?_;focus(first|exact p1|exact p2|exact p3|exact p4))|(refine uC rfl rfl ?_ ?_;focus(first|exact p1|exact p2|exact p3|exact p4))|(refine eN rfl rfl ?_ ?_;(focus(first|exact p1|exact p2|exact p3|exact p4));intro _;(try simp only[Wf,Wg,Wh]))|fail)
    all_goals exact Zbh () trivial sbB inferInstance
 ·cases hs:(rtQ a).isSome with
  |false=>
   rw[hnone hs]
   repeat(refine wkB ?_;intros)
   exact ZD rfl (Z6 rfl) (Zr rfl) (fun w hw=>ZL hw)
  |true=>
   rw[<-hval hs]
   repeat(first|(refine wkB ?_;intros)|(refine wnM ?_ ?_;(focus(exact p5));intros))
   exact ZD rfl (Z6 rfl) (Zr rfl) (fun w hw=>ZL hw)
instance ZxR (a:Rat):SpecC prog 112 [vQ a] (.tuple #[vQ ((rtQ a).getD 0), .bool (rtQ a).isSome]) (M a<=268435456):=⟨fun hp w=>ZkP a w hp⟩
end Go.Vt
namespace Go.Vt
open Go.RowKit Go.Proofs
open Go.Proofs.Tryz (prog)
def ofR (p r:Rat)(neg:Bool):Rl:=match rtQ r with
 |some q=>⟨if neg=true then p-q else p+q,0,false⟩
 |none=>⟨p,r,neg⟩
theorem Zsd {p r:Rat}{neg:Bool}(hr:0<=r):(rvR (ofR p r neg)).ok:=by
 unfold ofR
 split
 ·exact RV.ok_rat _
 ·rename_i h
  have h0:r≠0:=fun h0=>by
   have:=ZhM h 0
   rw[h0] at this
   exact this (by grind)
  exact⟨.inr ⟨by show 0<r;grind,fun q=>ZhM h q⟩,fun h1=>(h0 h1).elim⟩
theorem Zph {r q:Rat}(h:rtQ r=some q):M q<=M r:=by
 unfold rtQ at h
 split at h
 ·injection h with h
  subst h
  have h1:=Zbc r
  have h2:=ZaR r
  refine ZcM (Wi (Zed ?_) h1) (Wi (Zed ?_) h2) ?_
  ·rw[Int.natAbs_natCast];exact Zcn _
  ·rw[Int.natAbs_natCast,Int.natAbs_natCast];exact Zcn _
  ·exact @Zl3 r
 ·cases h
theorem ZtC {p r:Rat}{neg:Bool}{k:Nat}(hr:0<=r)(h1:M p<=k)(h2:M r<=k)(hk:1<=k):RlB (2*k+1) (ofR p r neg):=by
 refine⟨Zsd hr, ?_, ?_⟩
 ·unfold ofR
  split
  ·rename_i q h
   have h3:=Zph h
   dsimp only
   split
   ·have:=Zpr p q;omega
   ·have:=Zj3 p q;omega
  ·dsimp only;omega
 ·unfold ofR
  split
  ·show M 0<=_;have:M 0<=1:=by decide
   omega
  ·dsimp only;omega
set_option maxHeartbeats 8000000 in
instance ZyS (p r:Rat)(neg:Bool):SpecC prog 135 [vQ p,vQ r, .bool neg] (vR (ofR p r neg)) (M p<=1000/\M r<=1000):=⟨fun hp w=>by
 obtain⟨h1,h2⟩:=hp
 have h3:M r<=268435456:=by omega
 have d1:∀q,rtQ r=some q->ofR p r true=⟨p-q,0,false⟩:=fun q h=>by unfold ofR;rw[h];rfl
 have d2:∀q,rtQ r=some q->ofR p r false=⟨p+q,0,false⟩:=fun q h=>by unfold ofR;rw[h];rfl
 have d3:rtQ r=none->ofR p r neg=⟨p,r,neg⟩:=fun h=>by unfold ofR;rw[h]
 refine Zb Tryz.func135 rfl Tryz.ntmps135 rfl ?_
 repeat(first|(refine wkB ?_;intros)|(refine wnM ?_ ?_;(focus(exact h3));intros))
 cases h:rtQ r with
 |none=>
  rw[d3 h]
  repeat(refine wkB ?_;intros)
  exact rtC rfl rfl
 |some q=>
  have hq:=Zph h
  have h4:M p<=268435456/\M q<=268435456:=⟨by omega,by omega⟩
  simp only[Option.isSome_some,Option.getD_some]
  cases neg with
  |true=>
   rw[d1 q h]
   repeat(first|(refine wkB ?_;intros)|(refine wnM ?_ ?_;(focus(exact h4));intros))
   exact rtC rfl rfl
  |false=>
   rw[d2 q h]
   repeat(first|(refine wkB ?_;intros)|(refine wnM ?_ ?_;(focus(exact h4));intros))
   exact rtC rfl rfl⟩
abbrev WI :=ZN
abbrev vWI (x:WI):Value:= .agg (ZG x)
structure WIOk (x:WI):Prop where
 p:0<=x.P/\x.P<=255
 d:0<=x.D/\x.D<=255
 r:0<=x.R/\x.R<=255
 e:0<=x.E/\x.E<=255
def inP (x:WI):Rat:=Rat.divInt (x.P % 64) (1+x.D % 4)
def inR (x:WI):Rat:=Rat.divInt (x.R % 12) (1+x.E % 3)
def insT (x:WI):Rl:=ofR (inP x) (inR x) x.Neg
theorem Zo2 {x:WI}(h:WIOk x):M (inP x)<=1:=ZcM (Zb9 (k:=1) (by have:=h.p;omega)) (Zb9 (k:=1) (by have:=h.d;omega)) (Wl _)
theorem ZoY {x:WI}(h:WIOk x):M (inR x)<=1:=ZcM (Zb9 (k:=1) (by have:=h.r;omega)) (Zb9 (k:=1) (by have:=h.e;omega)) (Wl _)
theorem ZqT (x:WI):0<=inR x:=by
 unfold inR
 exact Rat.divInt_nonneg_iff_of_pos_right (by omega) |>.2 (by omega)
theorem Zfe {x:WI}(h:WIOk x):RlB 3 (insT x):=ZtC (ZqT x) (Zo2 h) (ZoY h) (Wl _)
set_option maxHeartbeats 8000000 in
instance Zsq (x:WI):SpecC prog 89 [vWI x] (vR (insT x)) (WIOk x):=⟨fun hx w=>by
 have h1:=hx.p
 have h2:=hx.d
 have h3:=hx.r
 have h4:=hx.e
 have m1:=Zo2 hx
 have m2:=ZoY hx
 have p1:1+x.D % 4≠0/\(-9223372036854775808<=x.P % 64/\x.P % 64<=9223372036854775807)/\(-9223372036854775808<=1+x.D % 4/\1+x.D % 4<=9223372036854775807):=by omega
 have p2:1+x.E % 3≠0/\(-9223372036854775808<=x.R % 12/\x.R % 12<=9223372036854775807)/\(-9223372036854775808<=1+x.E % 3/\1+x.E % 3<=9223372036854775807):=by omega
 have p3:M (Rat.divInt (x.P % 64) (1+x.D % 4))<=1000/\M (Rat.divInt (x.R % 12) (1+x.E % 3))<=1000:=⟨Wi m1 (by decide),Wi m2 (by decide)⟩
 refine Zb Tryz.func89 rfl Tryz.ntmps89 rfl ?_
 repeat(refine wkB ?_;intros)
 rename_i b1 b2
 (refine ZF (.v [0,1,2,3,4,5,6,7,8,9,10,11,12,13,14,15,16,17,18,19,20,21,22] (.e1 23 (.fin))) ([⟨b1,ZG x,40⟩]) (h:=?_);refine wkX ?_)
 (repeat(first|refine wkH ?_|(refine tC rfl rfl ?_ ?_;focus(first|exact p1|exact p2|exact p3))))
 repeat(refine wkT ?_;intros)
 repeat(refine wkB ?_;intros)
 exact rtC rfl rfl⟩
abbrev WS :=ZW
abbrev vWS (x:WS):Value:= .agg (ZQ x)
structure WSOk (x:WS):Prop where
 a:WIOk x.A
 b:WIOk x.B
noncomputable def ivS (s:WS):Za:=if 0<cl (insT s.A) (insT s.B) then⟨insT s.B,insT s.A,s.OpenA,s.OpenB⟩ else if cl (insT s.A) (insT s.B)=0 then⟨insT s.A,insT s.B,false,false⟩ else⟨insT s.A,insT s.B,s.OpenA,s.OpenB⟩
theorem ZuC {s:WS}(h:WSOk s):IvOk 3 (ivS s):=by
 have h1:=Zfe h.a
 have h2:=Zfe h.b
 unfold ivS
 split
 ·exact⟨h2,h1⟩
 ·split <;> exact⟨h1,h2⟩
set_option maxHeartbeats 8000000 in
instance Zrh (s:WS):SpecC prog 71 [vWS s] (vIv (ivS s)) (WSOk s):=⟨fun hs w=>by
 have ha:=hs.a
 have hb:=hs.b
 have p1:RlB B28 (insT s.A)/\RlB B28 (insT s.B):=⟨(Zfe ha).mono (by decide),(Zfe hb).mono (by decide)⟩
 have hd:ivS s=ivS s:=rfl
 conv at hd=>rhs;unfold ivS
 refine Zb Tryz.func71 rfl Tryz.ntmps71 rfl ?_
 repeat(refine wkB ?_;intros)
 rename_i b1 b2
 (refine jD 11 12 (h:=?_);(repeat(first|refine wkH ?_|(refine tC rfl rfl ?_ ?_;focus(first|exact ha|exact hb))));refine Zn ?_;(repeat(refine Z3 ?_;intro _));refine Zq ?_)
 repeat(first|(refine wkB ?_;intros)|(refine wnM ?_ ?_;(focus(exact p1));intros))
 rw[hd]
 generalize cl (insT s.A) (insT s.B)=n at*
 by_cases c1:0<n
 ·rw[if_pos c1]
  simp only[Wc c1]
  repeat(refine wkB ?_;intros)
  simp only[We (show¬n=0 by omega)]
  repeat(refine wkB ?_;intros)
  exact rtC rfl rfl
 ·rw[if_neg c1]
  simp only[We c1]
  repeat(refine wkB ?_;intros)
  by_cases c2:n=0
  ·rw[if_pos c2]
   simp only[Wc c2]
   repeat(refine wkB ?_;intros)
   exact rtC rfl rfl
  ·rw[if_neg c2]
   simp only[We c2]
   repeat(refine wkB ?_;intros)
   exact rtC rfl rfl⟩
end Go.Vt
namespace Go.Proofs.YtcgkgdgpdpihmaaGreatDoor
open Go.ChangeShapes Go.WideShapes Go.ChangeAt Go.RowKit Go.Deep Go.Vt
theorem rown :ownKnob Tryz.prog.godebug=none:=by kernel_rfl
theorem rlaidOut :laidOutB Tryz.prog=true:=by kernel_rfl
theorem rc42 :Tryz.prog.cellsOf 42=12:=by kernel_rfl
theorem rc40 :Tryz.prog.cellsOf 40=5:=by kernel_rfl
theorem ru5 :Tryz.prog.underlying 5=some (.int .u8):=by kernel_rfl
theorem ru4 :Tryz.prog.underlying 4=some .bool:=by kernel_rfl
theorem rc5 :Tryz.prog.cellsOf 5=1:=by kernel_rfl
theorem rc4 :Tryz.prog.cellsOf 4=1:=by kernel_rfl
theorem ru40 :∃f0 f1 f2 f3 f4,Tryz.prog.underlying 40=some (.struct #[f0,f1,f2,f3,f4])/\f0.type=5/\f1.type=5/\f2.type=5/\f3.type=5/\f4.type=4/\f0.offset=0/\f1.offset=1/\f2.offset=2/\f3.offset=3/\f4.offset=4:=⟨_,_,_,_,_,Tryz.underlying40,rfl,rfl,rfl,rfl,rfl,rfl,rfl,rfl,rfl,rfl⟩
theorem ru42 :∃f0 f1 f2 f3,Tryz.prog.underlying 42=some (.struct #[f0,f1,f2,f3])/\f0.type=40/\f1.type=40/\f2.type=4/\f3.type=4/\f0.offset=0/\f1.offset=5/\f2.offset=10/\f3.offset=11:=⟨_,_,_,_,Tryz.underlying42,rfl,rfl,rfl,rfl,rfl,rfl,rfl,rfl⟩
theorem ZgE {n:Int}(h:(Lit.int .u8 n).wf=true):0<=n/\n<=255:=by
 simp only[Lit.wf,Bool.and_eq_true,decide_eq_true_eq] at h
 exact⟨h.1,h.2⟩
section
variable {H : Type} {eH : TypeId × Value -> H} {W : World} {base : Nat} {sp : Nat -> Bool} {held : Bool}
theorem Zgs (n:Nat)(cs:List Value)(y:DataW H×List MemPlace)(h:DataW.trod eH Tryz.prog W base sp held n 40 cs=some y):∃x:WI,cs=(ZG x).toList/\WIOk x:=by
 obtain⟨f0,f1,f2,f3,f4,he,t0,t1,t2,t3,t4,o0,o1,o2,o3,o4⟩:=ru40
 obtain⟨xs,k,hk,hxy,hlen,hxl,hf⟩:=DataW.trod_struct he h
 rw[rc40] at hlen
 match xs,hxl,cs,hlen with
 |[y0,y1,y2,y3,y4],_,[v0,v1,v2,v3,v4],_=>
  have g0:=hf 0 f0 rfl
  have g1:=hf 1 f1 rfl
  have g2:=hf 2 f2 rfl
  have g3:=hf 3 f3 rfl
  have g4:=hf 4 f4 rfl
  simp[o0,o1,o2,o3,o4,t0,t1,t2,t3,t4,rc5,rc4] at g0 g1 g2 g3 g4
  obtain⟨n0,p0,_,q0⟩:=DataW.trod_int ru5 g0
  obtain⟨n1,p1,_,q1⟩:=DataW.trod_int ru5 g1
  obtain⟨n2,p2,_,q2⟩:=DataW.trod_int ru5 g2
  obtain⟨n3,p3,_,q3⟩:=DataW.trod_int ru5 g3
  obtain⟨n4,p4,_⟩:=DataW.trod_bool ru4 g4
  simp only[List.cons.injEq,and_true] at p0 p1 p2 p3 p4
  subst p0 p1 p2 p3 p4
  exact⟨⟨n0,n1,n2,n3,n4⟩,rfl,⟨ZgE q0,ZgE q1,ZgE q2,ZgE q3⟩⟩
theorem Zmf (n:Nat)(cs:List Value)(y:DataW H×List MemPlace)(h:DataW.trod eH Tryz.prog W base sp held n 42 cs=some y):∃x:WS,cs=(ZQ x).toList/\WSOk x:=by
 obtain⟨f0,f1,f2,f3,he,t0,t1,t2,t3,o0,o1,o2,o3⟩:=ru42
 obtain⟨xs,k,hk,hxy,hlen,hxl,hf⟩:=DataW.trod_struct he h
 rw[rc42] at hlen
 match xs,hxl,cs,hlen with
 |[y0,y1,y2,y3],_,[v0,v1,v2,v3,v4,v5,v6,v7,v8,v9,v10,v11],_=>
  have g0:=hf 0 f0 rfl
  have g1:=hf 1 f1 rfl
  have g2:=hf 2 f2 rfl
  have g3:=hf 3 f3 rfl
  simp[o0,o1,o2,o3,t0,t1,t2,t3,rc40,rc4] at g0 g1 g2 g3
  obtain⟨a,p0,q0⟩:=Zgs _ _ _ g0
  obtain⟨b,p1,q1⟩:=Zgs _ _ _ g1
  obtain⟨n2,p2,_⟩:=DataW.trod_bool ru4 g2
  obtain⟨n3,p3,_⟩:=DataW.trod_bool ru4 g3
  refine⟨⟨a,b,n2,n3⟩, ?_,⟨q0,q1⟩⟩
  show [v0,v1,v2,v3,v4]++([v5,v6,v7,v8,v9]++([v10]++[v11]))=_
  rw[p0,p1,p2,p3]
  rfl
end
def cAcc :Array Value:=#[.int .u8 128, .int .u8 191, .int .u8 160, .int .u8 191, .int .u8 128, .int .u8 159, .int .u8 144, .int .u8 191, .int .u8 128, .int .u8 143, .int .u8 0, .int .u8 0, .int .u8 0, .int .u8 0, .int .u8 0, .int .u8 0, .int .u8 0, .int .u8 0, .int .u8 0, .int .u8 0, .int .u8 0, .int .u8 0, .int .u8 0, .int .u8 0, .int .u8 0, .int .u8 0, .int .u8 0, .int .u8 0, .int .u8 0, .int .u8 0, .int .u8 0, .int .u8 0]
def cFirst :Array Value:=(Pinned.utf8FirstZ.map fun(n:Nat)=>Value.int .u8 (n:Int)).toArray
def putCells (cs:Array Value):Obj->Obj
 | .cells _ t frozen=> .cells cs t frozen
 |o=>o
noncomputable def laidWorld (os:Os):World:=
 {World.holding Tryz.prog os ⟨#[],#[],[]⟩ with heap:=((World.holding Tryz.prog os ⟨#[],#[],[]⟩).heap.modify 2 (putCells cFirst)).modify 3 (putCells cAcc)}
end Go.Proofs.YtcgkgdgpdpihmaaGreatDoor
namespace Go.Proofs.YtcgkgdgpdpihmaaGreatDoor
open Go.ChangeShapes Go.WideShapes Go.ChangeAt Go.RowKit Go.Deep Go.Vt
end Go.Proofs.YtcgkgdgpdpihmaaGreatDoor
