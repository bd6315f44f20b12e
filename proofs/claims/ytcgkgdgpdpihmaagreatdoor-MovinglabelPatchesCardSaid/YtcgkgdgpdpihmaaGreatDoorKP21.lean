/- For any two moving labels and any period, Restrict returns the part during the period, and Patch the second one in place of the first one; patching by a part of itself changes nothing. Conditions: none. (part 21 of 30.) Conditions: those that each statement names. -/
import Derived.Test.YtcgkgdgpdpihmaaGreatDoorProg
import Derived.Test.YtcgkgdgpdpihmaaGreatDoorKP16
import Derived.Test.YtcgkgdgpdpihmaaGreatDoorKP17
import Derived.Test.YtcgkgdgpdpihmaaGreatDoorKP20
set_option linter.unusedSimpArgs false
set_option linter.unusedVariables false
set_option maxHeartbeats 2000000
set_option maxRecDepth 100000
namespace Go.Vt
open Go.RowKit Go.Proofs
open Go.Proofs.Tryz (prog)
section
open Fv (va red)
theorem Zpn {n:Nat}{xs:List Rl}{t x:Rl}(h:SrR n xs)(ht:RtB t):x∈insR xs t↔x∈xs\/x=t:=by
 unfold insR
 split
 ·rename_i hc
  have hm:gi xs (kI t xs:Int)∈xs:=Zu (by omega)
  have he:=(Zbi (h.b _ hm).o ht.o).1 (Zai.1 hc.2)
  rw[he] at hm
  exact⟨.inl,fun h=>h.elim id fun h=>h▸hm⟩
 ·have:x∈xs↔x∈xs.take (kI t xs)\/x∈xs.drop (kI t xs):=by
   rw[<-Wv,List.take_append_drop]
  rw[this]
  simp only[Wg,Wv,Wo]
  exact⟨fun h=>h.elim (fun h=>h.elim (fun h=> .inl (.inl h)) .inr) (fun h=> .inl (.inr h)),fun h=>h.elim (fun h=>h.elim (fun h=> .inl (.inl h)) .inr) (fun h=> .inl (.inr h))⟩
theorem Ze5 {l:List Rl}(hb:∀x∈l,RtB x){x:Rl}:∀i,i<=l.length->(x∈srtR l i↔x∈l.take i)
 |0,_=>by simp[srtR]
 |i+1,hi=>by
  rw[srtR,Zpn (ZdK hb i (by omega)) (hb _ (Zu (by omega))),Ze5 hb i (by omega),Wn (by omega),Wv,Wo,Zt (by omega)]
theorem ZkU (l:List Za){x:Rl}:∀m,m<=l.length->(x∈enL l m↔∃i∈l.take m,x=i.From\/x=i.To)
 |0,_=>by simp[enL]
 |m+1,hm=>by
  rw[enL,Wv,ZkU l m (by omega),Wn (by omega),Zt (by omega)]
  simp only[Ww,List.not_mem_nil,or_false,Wv]
  constructor
  ·rintro(⟨i,h1,h2⟩|h)
   ·exact⟨i, .inl h1,h2⟩
   ·exact⟨_, .inr rfl,h⟩
  ·rintro⟨i,h1|rfl,h2⟩
   ·exact .inl ⟨i,h1,h2⟩
   ·exact .inr h2
theorem ZcK {l:List Za}(h:∀i∈l,IvOk B28 i){x:Rl}:x∈enR l↔∃i∈l,x=i.From\/x=i.To:=by
 unfold enR
 rw[Ze5 (ZfU h l.length (Wl _)) _ (Wl _),List.take_length,ZkU l _ (Wl _),List.take_length]
theorem SrR.mid {n:Nat}{xs:List Rl}(h:SrR n xs){k:Nat}(hk:k+1<xs.length){x:Rl}(hx:x∈xs):ri x<=ri (gi xs (k:Int))\/ri (gi xs ((k+1:Nat):Int))<=ri x:=by
 obtain⟨j,hj,rfl⟩:=List.getElem_of_mem hx
 rw[<-Zt hj]
 rcases(by omega:j<k\/j=k\/j=k+1\/k+1<j) with h1|rfl|rfl|h1
 ·have:=h.at h1 (by omega);exact .inl (by grind)
 ·exact .inl (by grind)
 ·exact .inr (by grind)
 ·have:=h.at h1 hj;exact .inr (by grind)
theorem SrR.fst {n:Nat}{xs:List Rl}(h:SrR n xs){x:Rl}(hx:x∈xs):ri (gi xs ((0:Nat):Int))<=ri x:=by
 obtain⟨j,hj,rfl⟩:=List.getElem_of_mem hx
 rw[<-Zt hj]
 rcases(by omega:j=0\/0<j) with rfl|h1
 ·grind
 ·have:=h.at h1 hj;grind
theorem SrR.lst {n:Nat}{xs:List Rl}(h:SrR n xs){k:Nat}(hk:k+1=xs.length){x:Rl}(hx:x∈xs):ri x<=ri (gi xs (k:Int)):=by
 obtain⟨j,hj,rfl⟩:=List.getElem_of_mem hx
 rw[<-Zt hj]
 rcases(by omega:j=k\/j<k) with rfl|h1
 ·grind
 ·have:=h.at h1 (by omega);grind
def HoldP (l:List Za)(z:Ri):Prop:=∃i∈l,memI i z
theorem Zga {l:List Za}{t:Rl}:hlB l t=true↔HoldP l (ri t):=by
 unfold hlB HoldP
 rw[List.any_eq_true]
 exact⟨fun⟨i,h1,h2⟩=>⟨i,h1,Zgf.1 h2⟩,fun⟨i,h1,h2⟩=>⟨i,h1,Zgf.2 h2⟩⟩
theorem ZgK {l:List Za}{n:Nat}{xs:List Rl}(h:SrR n xs)(hm:∀i∈l,i.From∈xs/\i.To∈xs){k:Nat}(hk:k+1<xs.length){z:Ri}(h1:ri (gi xs (k:Int))<z)(h2:z<ri (gi xs ((k+1:Nat):Int))):spB l (gi xs (k:Int)) (gi xs ((k+1:Nat):Int))=true↔HoldP l z:=by
 unfold spB HoldP
 rw[List.any_eq_true]
 constructor
 ·rintro⟨i,hi,hs⟩
  unfold spI at hs
  simp only[Wq,decide_eq_true_eq,Zqz] at hs
  exact⟨i,hi, .inl (by grind), .inl (by grind)⟩
 ·rintro⟨i,hi,hs⟩
  obtain⟨m1,m2⟩:=hm i hi
  have e1:=h.mid hk m1
  have e2:=h.mid hk m2
  unfold memI at hs
  refine⟨i,hi, ?_⟩
  unfold spI
  simp only[Wq,decide_eq_true_eq,Zqz]
  exact⟨by grind,by grind⟩
def dcdP (op:Int)(p q:Prop):Prop:=if op=1 then p\/q else if op=2 then p/\q else p/\¬q
theorem Zks {op:Int}{a b:Bool}{p q:Prop}(h1:a=true↔p)(h2:b=true↔q):dcd op a b=true↔dcdP op p q:=by
 unfold dcd dcdP
 split
 ·rw[Bool.or_eq_true,h1,h2]
 ·split
  ·rw[Wq,h1,h2]
  ·rw[Wq,h1,<-h2,Bool.not_eq_true',Bool.not_eq_true]
theorem ZgJ {op:Int}{p q:Prop}(h1:¬p)(h2:¬q):¬dcdP op p q:=by
 unfold dcdP
 split
 ·exact fun h=>h.elim h1 h2
 ·split
  ·exact fun h=>h1 h.1
  ·exact fun h=>h1 h.1
theorem Zlr (ys:List Za)(w:Za)(t:Rl)(o:Bool):turnI (ys++[w]) t o=ys++[⟨w.From,t,w.OpenFrom,o⟩]:=by
 have e:lstI (ys++[w])=w:=by
  unfold lstI
  rw[Zbc (by simp only[Wp,List.length_singleton];omega)]
  simp only[Wp,List.length_singleton]
  rw[List.getElem_append_right (by omega)]
  simp
 unfold turnI
 rw[e]
 simp
structure CbI (S:Ri->Prop)(p:CbS)(t:Rl):Prop where
 off:p.on=false->Sep p.out/\(∀i∈p.out,ri i.To<ri t)/\∀z,z<ri t->(HoldP p.out z↔S z)
 on:p.on=true->∃ys w,p.out=ys++[w]/\Sep (ys++[⟨w.From,t,w.OpenFrom,true⟩])/\ri w.From<ri t/\∀z,z<ri t->(HoldP (ys++[⟨w.From,t,w.OpenFrom,true⟩]) z↔S z)
structure CbJ (S:Ri->Prop)(o:List Za)(t:Rl):Prop where
 s:Sep o
 b:∀i∈o,ri i.To<ri t\/(ri i.To=ri t)
 e:∀i∈o,ri i.To=ri t->(i.OpenTo=false↔S (ri t))
 l:S (ri t)->∃ys w,o=ys++[w]/\ri w.To=ri t/\w.OpenTo=false
 h:∀z,z<=ri t->(HoldP o z↔S z)
theorem ZaK {ys:List Za}{w:Za}{z:Ri}:HoldP (ys++[w]) z↔HoldP ys z\/memI w z:=by
 unfold HoldP
 simp only[Wv,Wo]
 exact⟨fun⟨i,h1,h2⟩=>h1.elim (fun h=> .inl ⟨i,h,h2⟩) (fun h=> .inr (h▸h2)),fun h=>h.elim (fun⟨i,h1,h2⟩=>⟨i, .inl h1,h2⟩) (fun h=>⟨w, .inr rfl,h⟩)⟩
theorem Sep.snoc {ys:List Za}{w:Za}:Sep (ys++[w])↔Sep ys/\(∀i∈ys,bLt (bdL i) (bdF w))/\bLt (bdF w) (bdL w):=by
 constructor
 ·rintro⟨h1,h2⟩
  rw[List.pairwise_append] at h1
  exact⟨⟨h1.1,fun i hi=>h2 i (List.mem_append_left _ hi)⟩,fun i hi=>h1.2.2 i hi w (.head _),h2 w (List.mem_append_right _ (.head _))⟩
 ·rintro⟨⟨h1,h2⟩,h3,h4⟩
  refine⟨List.pairwise_append.2 ⟨h1,List.pairwise_singleton _ _,fun i hi j hj=>by rw[List.mem_singleton.1 hj];exact h3 i hi⟩,fun i hi=>?_⟩
  rcases List.mem_append.1 hi with h|h
  ·exact h2 i h
  ·rw[List.mem_singleton.1 h];exact h4
theorem Sep.nil :Sep []:=⟨List.Pairwise.nil,(fun i hi=>by cases hi)⟩
theorem ZqE {S:Ri->Prop}{p:CbS}{t:Rl}(h:CbI S p t){here:Bool}(hh:here=true↔S (ri t)):CbJ S (cbH p.out p.on here t) t:=by
 obtain⟨out,on⟩:=p
 cases on with
 |true=>
  obtain⟨ys,w,e,hs,hw,hz⟩:=h.on rfl
  dsimp only at e
  subst e
  unfold cbH
  rw[if_pos rfl,Zlr]
  obtain⟨s1,s2,s3⟩:=Sep.snoc.1 hs
  have hF:bdF ⟨w.From,t,w.OpenFrom,!here⟩=bdF ⟨w.From,t,w.OpenFrom,true⟩:=rfl
  have hys:∀i∈ys,ri i.To<ri t:=fun i hi=>by
   have:=s2 i hi
   unfold bLt bdL bdF at this
   dsimp only at this
   grind
  refine⟨Sep.snoc.2 ⟨s1,fun i hi=>by rw[hF];exact s2 i hi, .inl hw⟩,fun i hi=>?_,fun i hi e=>?_,fun hS=>⟨ys,_,rfl,rfl,by rw[hh.2 hS];rfl⟩,fun z hzt=>?_⟩
  ·rcases List.mem_append.1 hi with h1|h1
   ·exact .inl (hys i h1)
   ·rw[List.mem_singleton.1 h1];exact .inr rfl
  ·rcases List.mem_append.1 hi with h1|h1
   ·have:=hys i h1;grind
   ·rw[List.mem_singleton.1 h1]
    show(!here)=false↔_
    rw[<-hh]
    cases here <;> simp
  ·have hy:¬HoldP ys (ri t):=fun⟨i,hi,hm⟩=>by
    have:=hys i hi
    unfold memI at hm
    grind
   by_cases c:z=ri t
   ·subst c
    rw[ZaK,<-hh]
    refine⟨fun h=>h.elim (fun h=>(hy h).elim) fun h=>?_,fun h=> .inr ⟨.inl hw, .inr ⟨rfl,by rw[h];rfl⟩⟩⟩
    unfold memI at h
    have:=h.2
    cases here
    ·simp at this;grind
    ·rfl
   ·have hlt:z<ri t:=by grind
    rw[<-hz z hlt,ZaK,ZaK]
    unfold memI
    dsimp only
    grind
 |false=>
  obtain⟨hs,hb,hz⟩:=h.off rfl
  dsimp only at hs hb hz
  unfold cbH
  rw[if_neg (by simp)]
  have hy:¬HoldP out (ri t):=fun⟨i,hi,hm⟩=>by
   have:=hb i hi
   unfold memI at hm
   grind
  cases here with
  |true=>
   rw[if_pos rfl]
   have hS:=hh.1 rfl
   refine⟨Sep.snoc.2 ⟨hs,fun i hi=> .inl (hb i hi), .inr ⟨rfl,rfl,rfl⟩⟩,fun i hi=>?_,fun i hi e=>?_,fun _=>⟨out,_,rfl,rfl,rfl⟩,fun z hzt=>?_⟩
   ·rcases List.mem_append.1 hi with h1|h1
    ·exact .inl (hb i h1)
    ·rw[List.mem_singleton.1 h1];exact .inr rfl
   ·rcases List.mem_append.1 hi with h1|h1
    ·have:=hb i h1;grind
    ·rw[List.mem_singleton.1 h1]
     exact⟨fun _=>hS,fun _=>rfl⟩
   ·by_cases c:z=ri t
    ·subst c
     rw[ZaK]
     exact⟨fun _=>hS,fun _=> .inr ⟨.inr ⟨rfl,rfl⟩, .inr ⟨rfl,rfl⟩⟩⟩
    ·have hlt:z<ri t:=by grind
     rw[<-hz z hlt,ZaK]
     unfold memI
     dsimp only
     grind
  |false=>
   rw[if_neg (by decide)]
   have hS:¬S (ri t):=fun h=>by have:=hh.2 h;cases this
   refine⟨hs,fun i hi=> .inl (hb i hi),fun i hi e=>?_,fun h=>(hS h).elim,fun z hzt=>?_⟩
   ·have:=hb i hi;grind
   ·by_cases c:z=ri t
    ·subst c
     exact⟨fun h=>(hy h).elim,fun h=>(hS h).elim⟩
    ·exact hz z (by grind)
theorem Zu1 {S:Ri->Prop}{o:List Za}{t u:Rl}(h:CbJ S o t)(htu:ri t<ri u){bt here:Bool}(hh:here=true↔S (ri t))(hb:∀z,ri t<z->z<ri u->(bt=true↔S z)):CbI S ⟨if(bt&& !here)=true then o++[⟨t,u,true,true⟩] else o,bt⟩ u:=by
 have hno:∀z,ri t<z->¬HoldP o z:=fun z hz ⟨i,hi,hm⟩=>by
  have:=h.b i hi
  unfold memI at hm
  grind
 cases bt with
 |false=>
  refine⟨fun _=>⟨h.s,fun i hi=>?_,fun z hz=>?_⟩,(fun h=>by cases h)⟩
  ·have:=h.b i hi;grind
  ·by_cases c:z<=ri t
   ·exact h.h z c
   ·have hl:ri t<z:=by grind
    exact⟨fun h=>(hno z hl h).elim,fun hS=>by have:=(hb z hl hz).2 hS;cases this⟩
 |true=>
  refine⟨(fun h=>by cases h),fun _=>?_⟩
  cases here with
  |true=>
   obtain⟨ys,w,e,hw1,hw2⟩:=h.l (hh.1 rfl)
   refine⟨ys,w,e, ?_, ?_,fun z hz=>?_⟩
   ·have hs:=h.s
    rw[e] at hs
    obtain⟨s1,s2,s3⟩:=Sep.snoc.1 hs
    refine Sep.snoc.2 ⟨s1,s2, .inl ?_⟩
    have:=Zbj.2 s3
    unfold okI at this
    show ri w.From<ri u
    grind
   ·have hs:=h.s.v w (by rw[e];exact List.mem_append_right _ (.head _))
    have:=Zbj.2 hs
    unfold okI at this
    grind
   ·have hs:=Zbj.2 (h.s.v w (by rw[e];exact List.mem_append_right _ (.head _)))
    have hold:=h.h z
    rw[e,ZaK] at hold
    rw[ZaK]
    by_cases c:z<=ri t
    ·rw[<-hold c]
     unfold memI
     dsimp only
     grind
    ·have hl:ri t<z:=by grind
     rw[<-hb z hl hz]
     refine⟨fun _=>rfl,fun _=> .inr ⟨.inl ?_, .inl hz⟩⟩
     unfold okI at hs
     show ri w.From<z
     grind
  |false=>
   have hS:¬S (ri t):=fun h=>by have:=hh.2 h;cases this
   have hsep:Sep (o++[⟨t,u,true,true⟩]):=Sep.snoc.2 ⟨h.s,fun i hi=>?_, .inl htu⟩
   ·refine⟨o,⟨t,u,true,true⟩,rfl,hsep,htu,fun z hz=>?_⟩
    rw[ZaK]
    by_cases c:z<=ri t
    ·rw[<-h.h z c]
     unfold memI
     dsimp only
     grind
    ·have hl:ri t<z:=by grind
     rw[<-hb z hl hz]
     exact⟨fun _=>rfl,fun _=> .inr ⟨.inl hl, .inl hz⟩⟩
   ·rcases h.b i hi with h1|h1
    ·exact .inl h1
    ·have h2:¬i.OpenTo=false:=fun h2=>hS ((h.e i hi h1).1 h2)
     refine .inr ⟨h1, ?_,rfl⟩
     show(!i.OpenTo)=false
     simpa using h2
theorem ZiD (op:Int){a b:List Za}(hk:CbIn a b):Sep (cmbR op a b)/\∀z,HoldP (cmbR op a b) z↔dcdP op (HoldP a z) (HoldP b z):=by
 have hab:∀i∈a++b,IvOk B28 i:=fun i hi=>(List.mem_append.1 hi).elim (hk.ia i) (hk.ib i)
 have hx:=Zb3 hab
 have hm:∀i∈a++b,i.From∈enR (a++b)/\i.To∈enR (a++b):=fun i hi=>⟨(ZcK hab).2 ⟨i,hi, .inl rfl⟩,(ZcK hab).2 ⟨i,hi, .inr rfl⟩⟩
 unfold cmbR
 generalize enR (a++b)=xs at*
 have ha:∀i∈a,i.From∈xs/\i.To∈xs:=fun i hi=>hm i (List.mem_append_left _ hi)
 have hb:∀i∈b,i.From∈xs/\i.To∈xs:=fun i hi=>hm i (List.mem_append_right _ hi)
 obtain⟨S,hS⟩:∃S:Ri->Prop,S=fun z=>dcdP op (HoldP a z) (HoldP b z):=⟨_,rfl⟩
 have hSe:∀z,dcdP op (HoldP a z) (HoldP b z)↔S z:=fun z=>by rw[hS]
 simp only[hSe]
 have hhere:∀t:Rl,dcd op (hlB a t) (hlB b t)=true↔S (ri t):=fun t=>(Zks Zga Zga).trans (hSe _)
 by_cases h0:xs.length=0
 ·rw[h0]
  have hx0:xs=[]:=List.length_eq_zero_iff.1 h0
  have e1:∀l:List Za,(∀i∈l,i.From∈xs/\i.To∈xs)->∀z,¬HoldP l z:=fun l hl z ⟨i,hi,_⟩=>by
   have:=(hl i hi).1
   rw[hx0] at this
   cases this
  exact⟨Sep.nil,fun z=>⟨(fun⟨i,hi,_⟩=>by cases hi),fun h=>(ZgJ (e1 a ha z) (e1 b hb z) ((hSe z).2 h)).elim⟩⟩
 have hlow:∀l:List Za,(∀i∈l,i.From∈xs/\i.To∈xs)->∀z,z<ri (gi xs ((0:Nat):Int))->¬HoldP l z:=fun l hl z hz ⟨i,hi,hmm⟩=>by
  have:=hx.fst (hl i hi).1
  unfold memI at hmm
  grind
 have inv:∀k,k<xs.length->CbI S (cbR op a b xs k) (gi xs (k:Int)):=fun k=>by
  induction k with
  |zero=>exact fun _=>⟨fun _=>⟨Sep.nil,(fun i hi=>by cases hi),fun z hz=>⟨(fun⟨i,hi,_⟩=>by cases hi),fun h=>(ZgJ (hlow a ha z hz) (hlow b hb z hz) ((hSe z).2 h)).elim⟩⟩,(fun h=>by cases h)⟩
  |succ k ih=>
   intro hk1
   have hJ:=ZqE (ih (by omega)) (hhere (gi xs (k:Int)))
   rw[cbR]
   dsimp only
   rw[if_neg (show¬k+1=xs.length by omega)]
   exact Zu1 hJ (hx.at (Nat.lt_succ_self k) hk1) (hhere _) fun z h1 h2=>(Zks (ZgK hx ha hk1 h1 h2) (ZgK hx hb hk1 h1 h2)).trans (hSe z)
 obtain⟨k,hk1⟩:∃k,xs.length=k+1:=⟨xs.length-1,by omega⟩
 have hJ:=ZqE (inv k (by omega)) (hhere (gi xs (k:Int)))
 have hup:∀l:List Za,(∀i∈l,i.From∈xs/\i.To∈xs)->∀z,ri (gi xs (k:Int))<z->¬HoldP l z:=fun l hl z hz ⟨i,hi,hmm⟩=>by
  have:=hx.lst hk1.symm (hl i hi).2
  unfold memI at hmm
  grind
 rw[hk1,cbR]
 dsimp only
 rw[if_pos hk1.symm]
 refine⟨hJ.s,fun z=>?_⟩
 by_cases c:z<=ri (gi xs (k:Int))
 ·exact hJ.h z c
 ·have hl:ri (gi xs (k:Int))<z:=by grind
  refine⟨fun⟨i,hi,hmm⟩=>?_,fun h=>(ZgJ (hup a ha z hl) (hup b hb z hl) ((hSe z).2 h)).elim⟩
  have:=hJ.b i hi
  unfold memI at hmm
  grind
end
section
instance (priority :=30000) lstNilI (w0:World)(L:List Blk):LstC w0 L (.slice none 0 0) Za rI []:=⟨fun _ _=>⟨.inl ⟨rfl,rfl⟩⟩⟩
instance (priority :=low) lstFR {xs:List Zj}(w0:World)(L L1:List Blk)(s:FlS Zx 9 xs)[h:OwnF 35 s L L1]:LstC w0 L (vF s) Zj Zx xs:=⟨fun w hw=>s.reads 35 ((hw.perm h.out).sub (List.sublist_append_left _ _))⟩
noncomputable def nrmS (l:List Za):List Za:=cmbR 1 l []
set_option maxHeartbeats 8000000 in
theorem ZiJ (v:Value)(l:List Za)(w:World)(hv:ArgS w v rI l)(hl:l.length<=1024)(hb:∀i∈l,IvOk B28 i):
  Calls prog 48 [v].toArray w (RetM (SlS rI 20 (nrmS l)) (fun q=>vSl q) (fun q=>mS 37 q) w):=by
 have hL:=fun L=>hv.lst L
 have hk:CbIn l []:=⟨hl,Wm _,hb,fun i hi=>by cases hi⟩
 refine Zb Tryz.func48 rfl Tryz.ntmps48 rfl ?_
 repeat(first|(refine wkB ?_;intros)|(refine wnM ?_ ?_;(focus(exact hk));intros))
 rename_i q
 exact Zr rfl rfl (fun w hw=>⟨q,rfl,hw.sub suB⟩)
instance ZvY (w0:World)(L:List Blk)(v:Value)(l:List Za)[h:LstC w0 L v Za rI l]:SpecR prog w0 L 48 [v] (SlS rI 20 (nrmS l)) (fun q=>vSl q) (fun q=>mS 37 q) (l.length<=1024/\∀i∈l,IvOk B28 i):=⟨fun hp w hw=>ZiJ v l w (h.out w hw) hp.1 hp.2⟩
noncomputable def celI (p:List Za)(c:List Rl)(i:Nat)(o:List Za):List Za:=if hlB p (gi c (i:Int))=true then o++[⟨gi c (i:Int),gi c (i:Int),false,false⟩] else o
noncomputable def celJ (p:List Za)(c:List Rl)(i:Nat)(o:List Za):List Za:=if i+1<c.length/\spB p (gi c (i:Int)) (gi c ((i+1:Nat):Int))=true then o++[⟨gi c (i:Int),gi c ((i+1:Nat):Int),true,true⟩] else o
noncomputable def celS (p:List Za)(c:List Rl):Nat->List Za
 |0=>[]
 |i+1=>celJ p c i (celI p c i (celS p c i))
theorem ZiH (p:List Za)(c:List Rl)(i:Nat)(o:List Za):(celI p c i o).length<=o.length+1:=by
 unfold celI
 split <;> simp
theorem ZoG (p:List Za)(c:List Rl)(i:Nat)(o:List Za):(celJ p c i o).length<=o.length+1:=by
 unfold celJ
 split <;> simp
theorem Zfe (p:List Za)(c:List Rl):∀i,(celS p c i).length<=2*i
 |0=>Wl _
 |i+1=>by
  have h1:=Zfe p c i
  have h2:=ZiH p c i (celS p c i)
  have h3:=ZoG p c i (celI p c i (celS p c i))
  rw[celS]
  omega
noncomputable def cutR (p:List Za)(a:List Rl):List Rl:=srtR (a++enR p) (a++enR p).length
noncomputable def celR (p:List Za)(a:List Rl):List Za:=celS p (cutR p a) (cutR p a).length
structure CelIn (p:List Za)(a:List Rl):Prop where
 lp:p.length<=1024
 la:a.length<=65536
 ip:∀i∈p,IvOk B28 i
 ia:∀x∈a,RtB x
theorem Zgc {p:List Za}{a:List Rl}(h:CelIn p a):SrR (a++enR p).length (cutR p a):=ZdK (fun x hx=>by
 rw[Wv] at hx
 exact hx.elim (h.ia x) ((Zb3 h.ip).b x)) _ (Wl _)
set_option maxHeartbeats 16000000 in
theorem Zje (v1 v2:Value)(p:List Za)(a:List Rl)(w:World)(hv1:ArgS w v1 rI p)(hv2:ArgS w v2 Zx a)(hk:CelIn p a):
  Calls prog 67 [v1,v2].toArray w (RetM (SlS rI 20 (celR p a)) (fun q=>vSl q) (fun q=>mS 37 q) w):=by
 have hL1:=fun L=>hv1.lst L
 have hL2:=fun L=>hv2.lst L
 have hlp:=hk.lp
 have hla:=hk.la
 have hen:=Zb3 hk.ip
 have henn:=hen.n
 have p0:p.length<=65536/\∀i∈p,IvOk B28 i:=⟨by omega,hk.ip⟩
 have hall:(a++enR p).length<=1048576/\∀x∈a++enR p,RtB x:=by
  refine⟨by simp only[Wp];omega,fun x hx=>?_⟩
  rw[Wv] at hx
  exact hx.elim (hk.ia x) (hen.b x)
 refine Zb Tryz.func67 rfl Tryz.ntmps67 rfl ?_
 repeat(refine wkB ?_;intros)
 rename_i b0
 refine sVF (k:=8) (enc:=Zx) (s:=FlS.em b0) (hx:=⟨rfl⟩) rfl rfl ?_ ?_ ?_
 ·rfl
 ·exact⟨by simp only[Wx];omega,by simp only[Wx];omega⟩
 intro s1
 repeat(first|(refine wkB ?_;intros)|(refine wnM ?_ ?_;(focus(exact p0));intros))
 rename_i qe
 refine sVF rfl rfl ?_ ?_ ?_
 ·rfl
 ·exact⟨by(try simp only[Wp,Wx]);omega,by(try simp only[Wp,Wx]);omega⟩
 intro s2
 repeat(first|(refine wkB ?_;intros)|(refine wnM ?_ ?_;(focus(exact hall));intros))
 rename_i q
 have hx:SrR (a++enR p).length (srtR (a++enR p) (a++enR p).length):=Zgc hk
 have hfin:celR p a=celS p (srtR (a++enR p) (a++enR p).length) (srtR (a++enR p) (a++enR p).length).length:=rfl
 rw[hfin]
 generalize srtR (a++enR p) (a++enR p).length=xs at*
 have hxn:=hx.n
 simp only[Wp] at hxn
 have hpx:p.length<=1048576:=by omega
 refine ZW (S:=SlS rI 20 (celS p xs xs.length)) (fun _=>True) (fun s=>[(6,vSl s)]) (fun s=>mS 37 s) ?_ (fun s _=>?_)
 ·refine Zo (S:=(_:Nat)×(o:List Za)×SlS rI 20 o) (fun k=>k.1<=xs.length/\k.2.1=celS p xs k.1) (fun k=>[(0,v1),(5,vSl q),(6,vSl k.2.2),(7, .int .i64 (k.1:Nat))]) (fun k=>mS 37 k.2.2++mS 35 q) (fun k=>xs.length-k.1) ⟨0,[],SlS.no⟩ ⟨Wm _,rfl⟩ sbB suB (fun k hk'=>?_)
  obtain⟨k,out,o⟩:=k
  obtain⟨hkl,hko⟩:=hk'
  dsimp only at hkl hko⊢
  have hln:out.length<=2*k:=by rw[hko];exact Zfe p xs k
  have hend:k=xs.length->out=celS p xs xs.length:=fun h=>by rw[hko,h]
  have hnxt:celJ p xs k (celI p xs k out)=celS p xs (k+1):=by rw[hko];rfl
  clear hko
  repeat(refine wkB ?_;intros)
  refine Zk rfl (fun h=>?_) (fun h=>?_)
  ·have hlt:k<xs.length:=by have:=Wa h;omega
   have e1:(k:Int)+1=((k+1:Nat):Int):=by omega
   have hr1:=hx.b (gi xs (k:Int)) (Zu (by omega))
   have p1:p.length<=1048576/\(∀i∈p,IvOk B28 i)/\RtB (gi xs (k:Int)):=⟨hpx,hk.ip,hr1⟩
   rcases q.cases 35 with⟨y0,y1,y2⟩|⟨bq,cb,sp,hc1,y1,y2,yne⟩
   ·rw[y0] at hlt
    cases hlt
   simp only[y1,y2]
   repeat(first|(refine wkB ?_;intros)|(refine wnM ?_ ?_;(focus(exact p1));intros))
   refine ZY (S:=SlS rI 20 (celI p xs k out)) (fun _=>True) (fun s=>[(0,v1),(5, .slice (some ⟨bq,0,none⟩) xs.length cb),(6,vSl s),(7, .int .i64 (k:Nat))]) (fun s=>mS 37 s++[⟨bq,row Zx xs sp,35⟩]) ?_ (fun s _=>?_)
   ·refine Zk rfl (fun h=>?_) (fun h=>?_)
    ·(refine ZE (.v [0,1,2,3,4,5,6,7,8,9] (.e1 10 (.e1 11 (.e1 12 (.fin))))) ([⟨bq,row Zx xs sp,35⟩]) (h:=?_);refine wkX ?_)
     (repeat(refine wkH ?_))
     repeat(refine wkT ?_;intros)
     refine eU (k:=20) (enc:=rI) (s:=o) rfl rfl ?_ ?_ ?_ ?_
     ·rfl
     ·rfl
     ·exact⟨by decide,by omega,by omega⟩
     intro s0
     obtain⟨s',f1,f2⟩:=SlS.turn 37 (show out++[⟨gi xs (k:Int),gi xs (k:Int),false,false⟩]=celI p xs k out by unfold celI;rw[if_pos h]) s0
     repeat(refine wkT ?_;intros)
     repeat(refine wkB ?_;intros)
     exact Ze s' trivial (by rw[f1];exact sbB) (by rw[f2];exact suB)
    ·have hci:out=celI p xs k out:=by unfold celI;rw[if_neg (by rw[h];exact Bool.false_ne_true)]
     obtain⟨s',f1,f2⟩:=SlS.turn 37 hci o
     repeat(refine wkB ?_;intros)
     exact Ze s' trivial (by rw[f1];exact sbB) (by rw[f2];exact suB)
   ·have hcl:=ZiH p xs k out
    generalize celI p xs k out=out1 at*
    refine ZW (S:=SlS rI 20 (celS p xs (k+1))) (fun _=>True) (fun s=>[(0,v1),(5, .slice (some ⟨bq,0,none⟩) xs.length cb),(6,vSl s),(7, .int .i64 (k:Nat))]) (fun s=>mS 37 s++[⟨bq,row Zx xs sp,35⟩]) ?_ (fun s _=>?_)
    ·by_cases c1:k+1<xs.length
     ·have hr2:=hx.b (gi xs ((k+1:Nat):Int)) (Zu (by omega))
      have p2:p.length<=1048576/\(∀i∈p,IvOk B28 i)/\RtB (gi xs (k:Int))/\RtB (gi xs ((k+1:Nat):Int)):=⟨hpx,hk.ip,hr1,hr2⟩
      repeat(refine wkB ?_;intros)
      refine jD 18 18 (h:=?_)
      (repeat(refine wkH ?_))
      simp only[Wc (show(k:Int)+1<(xs.length:Nat) by omega)]
      (repeat(refine wkH ?_))
      simp only[e1]
      (repeat(first|refine wkH ?_|(refine tC rfl rfl ?_ ?_;focus(exact p2))))
      refine Zp ?_
      refine Zq ?_
      repeat(refine wkB ?_;intros)
      refine Zk rfl (fun h=>?_) (fun h=>?_)
      ·try simp only[e1]
       (refine ZE (.v [0,1,2,3,4,5,6,7,8,9,10] (.e1 11 (.e1 12 (.e1 13 (.fin))))) ([⟨bq,row Zx xs sp,35⟩]) (h:=?_);refine wkX ?_)
       (repeat(refine wkH ?_))
       try simp only[e1]
       (repeat(refine wkH ?_))
       repeat(refine wkT ?_;intros)
       refine eU (k:=20) (enc:=rI) (s:=s) rfl rfl ?_ ?_ ?_ ?_
       ·rfl
       ·rfl
       ·exact⟨by decide,by omega,by omega⟩
       intro s0
       obtain⟨s',f1,f2⟩:=SlS.turn 37 (show out1++[⟨gi xs (k:Int),gi xs ((k+1:Nat):Int),true,true⟩]=celS p xs (k+1) by rw[<-hnxt];unfold celJ;rw[if_pos ⟨c1,h⟩]) s0
       repeat(refine wkT ?_;intros)
       repeat(refine wkB ?_;intros)
       exact Ze s' trivial (by rw[f1];exact sbB) (by rw[f2];exact suB)
      ·have hci:out1=celS p xs (k+1):=by rw[<-hnxt];unfold celJ;rw[if_neg (by rw[h];exact fun h=>Bool.false_ne_true h.2)]
       obtain⟨s',f1,f2⟩:=SlS.turn 37 hci s
       repeat(refine wkB ?_;intros)
       exact Ze s' trivial (by rw[f1];exact sbB) (by rw[f2];exact suB)
     ·repeat(refine wkB ?_;intros)
      refine jD 18 18 (h:=?_)
      (repeat(refine wkH ?_))
      simp only[We (show¬(k:Int)+1<(xs.length:Nat) by omega)]
      (repeat(refine wkH ?_))
      refine Zp ?_
      refine Zq ?_
      have hci:out1=celS p xs (k+1):=by rw[<-hnxt];unfold celJ;rw[if_neg (fun h=>c1 h.1)]
      obtain⟨s',f1,f2⟩:=SlS.turn 37 hci s
      repeat(refine wkB ?_;intros)
      exact Ze s' trivial (by rw[f1];exact sbB) (by rw[f2];exact suB)
    ·repeat(first|(refine wkB ?_;intros)|(refine wnM ?_ ?_;(focus(exact⟨by omega,by omega⟩));intros))
     exact Zc ⟨k+1,_,s⟩ ⟨hlt,rfl⟩ (by simp only[y1];exact sbB) (by simp only[y2];exact suB) (by show xs.length-(k+1)<xs.length-k;omega)
  ·have hge:k=xs.length:=by have:=Wb h;omega
   obtain⟨s',f1,f2⟩:=SlS.turn 37 (hend hge) o
   repeat(refine wkB ?_;intros)
   exact Ze s' trivial (by rw[f1];exact sbB) (by rw[f2];exact suB)
 ·repeat(refine wkB ?_;intros)
  exact Zr rfl rfl (fun w hw=>⟨s,rfl,hw.sub suB⟩)
instance Zxq (w0:World)(L:List Blk)(v1 v2:Value)(p:List Za)(a:List Zj)[h1:LstC w0 L v1 Za rI p][h2:LstC w0 L v2 Zj Zx a]:SpecR prog w0 L 67 [v1,v2] (SlS rI 20 (celR p a)) (fun q=>vSl q) (fun q=>mS 37 q) (CelIn p a):=⟨fun hp w hw=>Zje v1 v2 p a w (h1.out w hw) (h2.out w hw) hp⟩
end
section
section
variable {Pr : Rl -> Prop}
theorem Ztn {xs:List Rl}{t:Rl}(h:∀x∈xs,Pr x)(ht:Pr t):∀x∈insR xs t,Pr x:=fun x hx=>by
 unfold insR at hx
 split at hx
 ·exact h x hx
 ·simp only[Wg,Wv,Wo] at hx
  rcases hx with(hx|rfl)|hx
  ·exact h x (List.mem_of_mem_take hx)
  ·exact ht
  ·exact h x (List.mem_of_mem_drop hx)
theorem Zif {l:List Rl}(h:∀x∈l,Pr x):∀i,i<=l.length->∀x∈srtR l i,Pr x
 |0,_=>fun x hx=>by cases hx
 |i+1,hi=>Ztn (Zif h i (by omega)) (h _ (Zu (by omega)))
theorem ZqG {l:List Za}(h:∀i∈l,Pr i.From/\Pr i.To):∀m,m<=l.length->∀x∈enL l m,Pr x
 |0,_,x,hx=>by cases hx
 |m+1,hm,x,hx=>by
  have h1:=h (gi l (m:Int)) (Zu (by omega))
  rw[enL,Wv] at hx
  rcases hx with hx|hx
  ·exact ZqG h m (by omega) x hx
  ·simp only[Ww,List.not_mem_nil,or_false] at hx
   rcases hx with rfl|rfl
   ·exact h1.1
   ·exact h1.2
theorem ZeU {l:List Za}(h:∀i∈l,Pr i.From/\Pr i.To):∀x∈enR l,Pr x:=Zif (ZqG h l.length (Wl _)) _ (Wl _)
theorem Zwy {out:List Za}{on here:Bool}{t:Rl}(h:∀i∈out,Pr i.From/\Pr i.To)(ht:Pr t):∀i∈cbH out on here t,Pr i.From/\Pr i.To:=fun i hi=>by
 unfold cbH at hi
 split at hi
 ·unfold turnI at hi
  rcases List.mem_or_eq_of_mem_set hi with hi|rfl
  ·exact h i hi
  ·rcases Nat.eq_zero_or_pos out.length with h0|h0
   ·have:out=[]:=List.eq_nil_of_length_eq_zero h0
    subst this
    cases hi
   ·exact⟨(h _ (Zu (xs:=out) (i:=(out.length:Int)-1) (by omega))).1,ht⟩
 ·split at hi
  ·rw[Wv,Wo] at hi
   rcases hi with hi|rfl
   ·exact h i hi
   ·exact⟨ht,ht⟩
  ·exact h i hi
theorem ZqF {op:Int}{a b:List Za}{xs:List Rl}(h:∀x∈xs,Pr x):∀k,k<=xs.length->∀i∈(cbR op a b xs k).out,Pr i.From/\Pr i.To
 |0,_,i,hi=>by cases hi
 |k+1,hk,i,hi=>by
  have ih:=ZqF (op:=op) (a:=a) (b:=b) h k (by omega)
  have ht:=h (gi xs (k:Int)) (Zu (by omega))
  rw[cbR] at hi
  dsimp only at hi
  have hH:=Zwy (on:=(cbR op a b xs k).on) (here:=dcd op (hlB a (gi xs (k:Int))) (hlB b (gi xs (k:Int)))) ih ht
  split at hi
  ·exact hH i hi
  ·rename_i hne
   have hu:=h (gi xs ((k+1:Nat):Int)) (Zu (by omega))
   dsimp only at hi
   split at hi
   ·rw[Wv,Wo] at hi
    rcases hi with hi|rfl
    ·exact hH i hi
    ·exact⟨ht,hu⟩
   ·exact hH i hi
theorem Zn8 {op:Int}{a b:List Za}(ha:∀i∈a,Pr i.From/\Pr i.To)(hb:∀i∈b,Pr i.From/\Pr i.To):∀i∈cmbR op a b,Pr i.From/\Pr i.To:=by
 refine ZqF (ZeU fun i hi=>?_) _ (Wl _)
 rw[Wv] at hi
 exact hi.elim (ha i) (hb i)
theorem Zb0 {a:List Za}(ha:∀i∈a,Pr i.From/\Pr i.To):∀i∈nrmS a,Pr i.From/\Pr i.To:=Zn8 ha (fun i hi=>by cases hi)
theorem ZtG {p:List Za}{c:List Rl}{k:Nat}{o:List Za}(h:∀i∈o,Pr i.From/\Pr i.To)(ht:Pr (gi c (k:Int))):∀i∈celI p c k o,Pr i.From/\Pr i.To:=fun i hi=>by
 unfold celI at hi
 split at hi
 ·rw[Wv,Wo] at hi
  rcases hi with hi|rfl
  ·exact h i hi
  ·exact⟨ht,ht⟩
 ·exact h i hi
theorem ZmE {p:List Za}{c:List Rl}(h:∀x∈c,Pr x):∀k,k<=c.length->∀i∈celS p c k,Pr i.From/\Pr i.To
 |0,_,i,hi=>by cases hi
 |k+1,hk,i,hi=>by
  have ht:=h (gi c (k:Int)) (Zu (by omega))
  have ih:=ZtG (p:=p) (ZmE (p:=p) h k (by omega)) ht
  rw[celS] at hi
  unfold celJ at hi
  split at hi
  ·rename_i hc
   rw[Wv,Wo] at hi
   rcases hi with hi|rfl
   ·exact ih i hi
   ·exact⟨ht,h (gi c ((k+1:Nat):Int)) (Zu (by omega))⟩
  ·exact ih i hi
theorem ZfX {p:List Za}{a:List Rl}(hp:∀i∈p,Pr i.From/\Pr i.To)(ha:∀x∈a,Pr x):∀i∈celR p a,Pr i.From/\Pr i.To:=by
 refine ZmE (Zif (fun x hx=>?_) _ (Wl _)) _ (Wl _)
 rw[Wv] at hx
 exact hx.elim (ha x) (ZeU hp x)
end
theorem Zfb {l:List Rl}:∀i,(srtR l i).length<=i
 |0=>Wl _
 |i+1=>by
  have h1:=Zfb (l:=l) i
  rw[srtR,insR]
  split
  ·omega
  ·have:=Zlm (gi l (i:Int)) (srtR l i)
   simp only[Wp,Wt,List.length_drop,List.length_singleton,Wx]
   omega
theorem ZbW (l:List Za):(enR l).length<=2*l.length:=by
 have h1:=Zfb (l:=enL l l.length) (enL l l.length).length
 have h2:=Zdn l l.length
 unfold enR
 omega
theorem Zfh (op:Int)(a b:List Za):(cmbR op a b).length<=4*(a.length+b.length):=by
 have h1:=Zgy op a b (enR (a++b)) (enR (a++b)).length
 have h2:=ZbW (a++b)
 rw[Wp] at h2
 unfold cmbR
 omega
theorem Zbw (a:List Za):(nrmS a).length<=4*a.length:=Zfh 1 a []
theorem Zh9 (p:List Za)(a:List Rl):(celR p a).length<=2*(a.length+2*p.length):=by
 have h1:=Zfe p (cutR p a) (cutR p a).length
 have h2:=Zfb (l:=a++enR p) (a++enR p).length
 have h3:=ZbW p
 have h4:(cutR p a).length=(srtR (a++enR p) (a++enR p).length).length:=rfl
 rw[Wp] at h2
 have h5:(celR p a).length=(celS p (cutR p a) (cutR p a).length).length:=rfl
 rw[Wp] at h4
 omega
end
section
section
variable {P : Program} {w0 : World} {n : Nat} {ops : Array Oper} {L L' Lw : List Blk} {E : Env} {K : Env -> List Blk -> Prop}
variable {rest : List Oper} {ty : TypeId} {pos : String} {aft : Array Edge} {gd : Option (Nat × Bool)} {x y : Operand} {T T0 : TypeId}
variable {α : Type} [Inhabited α] {enc : α -> Array Value} {k b f : Nat} {xs : List α} {sp : List Value} {i : Int}
theorem eRF {u:Value}{cs1:Array Value}[hx:IsC (evl E x) (.pointer (some ⟨b,0+i.toNat*k+f,none⟩))][hy:IsC (evl E y) u][MemC b L (row enc xs sp) T0][he:EncC enc k][hs:StC P T (enc (gi xs i)) f u cs1](z:α)(hz:cs1=enc z)[hU:UpdC b (row enc (xs.set i.toNat z) sp) L (row enc xs sp) T0 L'][hw:SblC Lw L']
  (hg:guardB ops E gd=some true) (s:i.toNat<xs.length) (h:JE P w0 n ops Lw K rest E L'):JE P w0 n ops Lw K (⟨none, .store T x y,ty,pos,aft,gd⟩::rest) E L:=by
 have h1:=he.size (gi xs i)
 have hfit:=Nat.le_of_ble_eq_true hs.fit
 have hle:=Nat.mul_le_mul_right k (show i.toNat+1<=xs.length from s)
 rw[Nat.add_mul] at hle
 refine Zc6 (u:=u) u.cells.size isE isE hU.out hs.size rfl (by rw[ZaG (k:=k)];exact Nat.ble_eq_true_of_le (by omega)) hs.one ?_ hg hw.out h
 rw[Nat.zero_add]
 refine Ziy xs sp i.toNat f z u.cells.toList s (by simp only[Array.length_toList];omega) ?_
 rw[<-Zbc s,hs.out,hz]
end
theorem ZtO {P:Program}{w0:World}{n:Nat}{Q:Exit->Act->World->Prop}{E:Env}{L:List Blk}{S:Type}{id:Nat}(I:S->Prop)(Es:S->Env)(Ls:S->List Blk){c x y:Code}(h1:J P w0 n c (Then P x (Exit.inBlock id (MidQ w0 n I Es Ls (fun _ _=>True) Q))) E L)(h2:∀s,I s->J P w0 n y Q (Es s) (Ls s)):J P w0 n c (Then P x (Exit.inBlock id (Then P y Q))) E L:=⟨fun a w ha hw=>by
 refine wp_mono (h1.out a w ha hw) (fun e a' w' hq=>?_)
 cases e with
 |normal=>exact wp_mono hq (ZT (ZM h2))
 |exit j=>exact ZT (id:=id) (ZM h2) (.exit j) a' w' hq
 |goto j=>exact ZT (id:=id) (ZM h2) (.goto j) a' w' hq
 |ret=>exact ZT (id:=id) (ZM h2) .ret a' w' hq
 |panic j=>exact ZT (id:=id) (ZM h2) (.panic j) a' w' hq
 |outgrown=>exact ZT (id:=id) (ZM h2) .outgrown a' w' hq⟩
def jnB (a u:PU):Bool:=decide (a.Label=u.Label)&&(decide (a.In.To=u.In.From)&& !(a.In.OpenTo&&u.In.OpenFrom))
def lstP (l:List PU):PU:=gi l ((l.length:Int)-1)
def jnP (a u:PU):PU:=⟨⟨a.In.From,u.In.To,a.In.OpenFrom,u.In.OpenTo⟩,a.Label⟩
def jn1 (out:List PU)(u:PU):List PU:=if 0<out.length/\jnB (lstP out) u=true then out.set ((out.length:Int)-1).toNat (jnP (lstP out) u) else out++[u]
def jnL (l:List PU):Nat->List PU
 |0=>[]
 |i+1=>jn1 (jnL l i) (gi l (i:Int))
theorem Zr6 (out:List PU)(u:PU):(jn1 out u).length<=out.length+1:=by
 unfold jn1
 split <;> simp
theorem ZeL (l:List PU):∀i,(jnL l i).length<=i
 |0=>Wl _
 |i+1=>by
  have h1:=ZeL l i
  have h2:=Zr6 (jnL l i) (gi l (i:Int))
  rw[jnL]
  omega
set_option maxHeartbeats 16000000 in
theorem Zjr (v:Value)(l:List PU)(w:World)(hv:ArgS w v rP l)(hl:l.length<=1048576):
  Calls prog 66 [v].toArray w (RetM (SlS rP 21 (jnL l l.length)) (fun q=>vSl q) (fun q=>mS 46 q) w):=by
 obtain⟨p,cp,rfl⟩:=hv.form
 refine Zb Tryz.func66 rfl Tryz.ntmps66 rfl ?_
 repeat(refine wkB ?_;intros)
 refine ZW (S:=SlS rP 21 (jnL l l.length)) (fun _=>True) (fun q=>[(3,vSl q)]) (fun q=>mS 46 q) ?_ (fun q _=>?_)
 ·refine Zo (S:=(_:Nat)×(o:List PU)×SlS rP 21 o) (fun q=>q.1<=l.length/\q.2.1=jnL l q.1) (fun q=>[(0, .slice p l.length cp),(3,vSl q.2.2),(4, .int .i64 (q.1:Nat))]) (fun q=>mS 46 q.2.2) (fun q=>l.length-q.1) ⟨0,[],SlS.no⟩ ⟨Wm _,rfl⟩ sbB suB (fun q hq=>?_)
  obtain⟨i,out,o⟩:=q
  obtain⟨hq,ho⟩:=hq
  dsimp only at hq ho⊢
  have hln:out.length<=i:=by rw[ho];exact ZeL l i
  have hend:i=l.length->out=jnL l l.length:=fun h=>by rw[ho,h]
  have hnxt:jn1 out (gi l (i:Int))=jnL l (i+1):=by rw[ho];rfl
  clear ho
  repeat(refine wkB ?_;intros)
  refine Zk rfl (fun h=>?_) (fun h=>?_)
  ·have hlt:i<l.length:=by have:=Wa h;omega
   obtain⟨bw,ow,rfl,hrow'⟩:=hv.opn (k:=20) hlt
   repeat(refine wkB ?_;intros)
   refine ZtO (S:=SlS rP 21 (jn1 out (gi l (i:Int)))) (fun _=>True) (fun q=>[(0, .slice (some ⟨bw,ow,none⟩) l.length cp),(3,vSl q),(4, .int .i64 (i:Nat))]) (fun q=>mS 46 q) ?_ (fun q _=>?_)
   ·skip
    rcases Nat.eq_zero_or_pos out.length with c0|c0
    ·refine jD 47 47 (h:=?_)
     (repeat(refine wkH ?_))
     simp only[We (show¬(out.length:Int)-1≥0 by omega)]
     (repeat(refine wkH ?_))
     refine Zp ?_
     refine Zq ?_
     have hci:out++[gi l (i:Int)]=jn1 out (gi l (i:Int)):=by unfold jn1;rw[if_neg (fun h=>by omega)]
     repeat(refine wkB ?_;intros)
     refine sU (k:=21) (enc:=rP) (s:=o) rfl rfl ?_ ?_ ?_ ?_
     ·rfl
     ·rfl
     ·exact⟨by decide,by omega,by omega⟩
     intro s0
     obtain⟨s',f1,f2⟩:=SlS.turn 46 hci s0
     repeat(refine wkB ?_;intros)
     exact Ze s' trivial (by rw[f1];exact sbB) (by rw[f2];exact suB)
    ·rcases o.cases 46 with⟨y0,y1,y2⟩|⟨bo,co,so,hco,y1,y2,yne⟩
     ·rw[y0] at c0;cases c0
     have hi1:0<=(out.length:Int)-1/\(out.length:Int)-1<(out.length:Nat):=by omega
     rw[y1,y2]
     by_cases c1:(lstP out).Label=(gi l (i:Int)).Label
     ·by_cases c2:(lstP out).In.To=(gi l (i:Int)).In.From
      ·cases c3:(lstP out).In.OpenTo&&(gi l (i:Int)).In.OpenFrom with
       |true=>
        simp only[Wq] at c3
        obtain⟨c3,c4⟩:=c3
        unfold lstP at c1 c2 c3
        refine jD 47 47 (h:=?_)
        (repeat(refine wkH ?_))
        simp only[Wc (show(out.length:Int)-1≥0 by omega)]
        (repeat(refine wkH ?_))
        simp only[Wc c1]
        (repeat(refine wkH ?_))
        simp only[Wc c2]
        (repeat(refine wkH ?_))
        simp only[c3]
        (repeat(refine wkH ?_))
        simp only[c4]
        (repeat(refine wkH ?_))
        refine Zp ?_
        refine Zq ?_
        rw[<-y1,show [(⟨bo,row rP out so,46⟩:Blk)]=mS 46 o from y2.symm]
        have hci:out++[gi l (i:Int)]=jn1 out (gi l (i:Int)):=by unfold jn1;rw[if_neg (fun h=>by have h2:=h.2;unfold jnB lstP at h2;rw[c3,c4] at h2;simp at h2)]
        repeat(refine wkB ?_;intros)
        refine sU (k:=21) (enc:=rP) (s:=o) rfl rfl ?_ ?_ ?_ ?_
        ·rfl
        ·rfl
        ·exact⟨by decide,by omega,by omega⟩
        intro s0
        obtain⟨s',f1,f2⟩:=SlS.turn 46 hci s0
        repeat(refine wkB ?_;intros)
        exact Ze s' trivial (by rw[f1];exact sbB) (by rw[f2];exact suB)
       |false=>
        cases c5:(lstP out).In.OpenTo with
        |true=>
         have c6:(gi l (i:Int)).In.OpenFrom=false:=by rw[c5] at c3;simpa using c3
         refine jD 47 47 (h:=?_)
         (repeat(refine wkH ?_))
         simp only[Wc (show(out.length:Int)-1≥0 by omega)]
         (repeat(refine wkH ?_))
         simp only[Wc (show(gi out ((out.length:Int)-1)).Label=_ from c1)]
         (repeat(refine wkH ?_))
         simp only[Wc (show(gi out ((out.length:Int)-1)).In.To=_ from c2)]
         (repeat(refine wkH ?_))
         simp only[show(gi out ((out.length:Int)-1)).In.OpenTo=_ from c5]
         (repeat(refine wkH ?_))
         simp only[c6]
         (repeat(refine wkH ?_))
         refine Zp ?_
         refine Zq ?_
         have hci:out.set ((out.length:Int)-1).toNat (jnP (lstP out) (gi l (i:Int)))=jn1 out (gi l (i:Int)):=by unfold jn1;rw[if_pos ⟨c0,by unfold jnB;rw[Wc c1,Wc c2,c3];rfl⟩]
         repeat(refine wkB ?_;intros)
         (refine ZE (.v [0,1,2,3,4,5,6,7,8,9,10,11,12,13,14,15,16,17,18] (.e1 19 (.v [20,21,22] (.e1 23 (.fin))))) (([]:List Blk)) (h:=?_);refine wkX ?_)
         (repeat(refine wkH ?_))
         repeat(refine wkT ?_;intros)
         refine eRF (i:=(out.length:Int)-1) (f:=9) (⟨⟨(lstP out).In.From,(gi l (i:Int)).In.To,(lstP out).In.OpenFrom,(lstP out).In.OpenTo⟩,(lstP out).Label⟩:PU) rfl rfl ?_ ?_
         ·omega
         repeat(refine wkT ?_;intros)
         have hg2:gi (out.set ((out.length:Int)-1).toNat (⟨⟨(lstP out).In.From,(gi l (i:Int)).In.To,(lstP out).In.OpenFrom,(lstP out).In.OpenTo⟩,(lstP out).Label⟩:PU)) ((out.length:Int)-1)=⟨⟨(lstP out).In.From,(gi l (i:Int)).In.To,(lstP out).In.OpenFrom,(lstP out).In.OpenTo⟩,(lstP out).Label⟩:=by
          rw[Zbc (by simp only[List.length_set];omega)]
          simp
         refine eRF (i:=(out.length:Int)-1) (f:=19) (jnP (lstP out) (gi l (i:Int))) (by rw[hg2];rfl) rfl ?_ ?_
         ·rw[List.length_set];omega
         rw[List.set_set]
         obtain⟨s0,hv',hm'⟩:=SlS.put (enc:=rP) (k:=21) (b:=bo) 46 (show(out.set ((out.length:Int)-1).toNat (jnP (lstP out) (gi l (i:Int)))).length=out.length from List.length_set) hco c0
         rw[<-hv']
         obtain⟨s',f1,f2⟩:=SlS.turn 46 hci s0
         repeat(refine wkT ?_;intros)
         repeat(refine wkB ?_;intros)
         exact Ze s' trivial (by rw[f1];exact sbB) (by rw[f2,show mS 46 s0=_ from hm'];exact suB)
        |false=>
         refine jD 47 47 (h:=?_)
         (repeat(refine wkH ?_))
         simp only[Wc (show(out.length:Int)-1≥0 by omega)]
         (repeat(refine wkH ?_))
         simp only[Wc (show(gi out ((out.length:Int)-1)).Label=_ from c1)]
         (repeat(refine wkH ?_))
         simp only[Wc (show(gi out ((out.length:Int)-1)).In.To=_ from c2)]
         (repeat(refine wkH ?_))
         simp only[show(gi out ((out.length:Int)-1)).In.OpenTo=_ from c5]
         (repeat(refine wkH ?_))
         refine Zp ?_
         refine Zq ?_
         have hci:out.set ((out.length:Int)-1).toNat (jnP (lstP out) (gi l (i:Int)))=jn1 out (gi l (i:Int)):=by unfold jn1;rw[if_pos ⟨c0,by unfold jnB;rw[Wc c1,Wc c2,c3];rfl⟩]
         repeat(refine wkB ?_;intros)
         (refine ZE (.v [0,1,2,3,4,5,6,7,8,9,10,11,12,13,14,15,16,17,18] (.e1 19 (.v [20,21,22] (.e1 23 (.fin))))) (([]:List Blk)) (h:=?_);refine wkX ?_)
         (repeat(refine wkH ?_))
         repeat(refine wkT ?_;intros)
         refine eRF (i:=(out.length:Int)-1) (f:=9) (⟨⟨(lstP out).In.From,(gi l (i:Int)).In.To,(lstP out).In.OpenFrom,(lstP out).In.OpenTo⟩,(lstP out).Label⟩:PU) rfl rfl ?_ ?_
         ·omega
         repeat(refine wkT ?_;intros)
         have hg2:gi (out.set ((out.length:Int)-1).toNat (⟨⟨(lstP out).In.From,(gi l (i:Int)).In.To,(lstP out).In.OpenFrom,(lstP out).In.OpenTo⟩,(lstP out).Label⟩:PU)) ((out.length:Int)-1)=⟨⟨(lstP out).In.From,(gi l (i:Int)).In.To,(lstP out).In.OpenFrom,(lstP out).In.OpenTo⟩,(lstP out).Label⟩:=by
          rw[Zbc (by simp only[List.length_set];omega)]
          simp
         refine eRF (i:=(out.length:Int)-1) (f:=19) (jnP (lstP out) (gi l (i:Int))) (by rw[hg2];rfl) rfl ?_ ?_
         ·rw[List.length_set];omega
         rw[List.set_set]
         obtain⟨s0,hv',hm'⟩:=SlS.put (enc:=rP) (k:=21) (b:=bo) 46 (show(out.set ((out.length:Int)-1).toNat (jnP (lstP out) (gi l (i:Int)))).length=out.length from List.length_set) hco c0
         rw[<-hv']
         obtain⟨s',f1,f2⟩:=SlS.turn 46 hci s0
         repeat(refine wkT ?_;intros)
         repeat(refine wkB ?_;intros)
         exact Ze s' trivial (by rw[f1];exact sbB) (by rw[f2,show mS 46 s0=_ from hm'];exact suB)
      ·unfold lstP at c1 c2
       refine jD 47 47 (h:=?_)
       (repeat(refine wkH ?_))
       simp only[Wc (show(out.length:Int)-1≥0 by omega)]
       (repeat(refine wkH ?_))
       simp only[Wc c1]
       (repeat(refine wkH ?_))
       simp only[We c2]
       (repeat(refine wkH ?_))
       refine Zp ?_
       refine Zq ?_
       rw[<-y1,show [(⟨bo,row rP out so,46⟩:Blk)]=mS 46 o from y2.symm]
       have hci:out++[gi l (i:Int)]=jn1 out (gi l (i:Int)):=by unfold jn1;rw[if_neg (fun h=>by have h2:=h.2;unfold jnB lstP at h2;rw[We c2] at h2;simp at h2)]
       repeat(refine wkB ?_;intros)
       refine sU (k:=21) (enc:=rP) (s:=o) rfl rfl ?_ ?_ ?_ ?_
       ·rfl
       ·rfl
       ·exact⟨by decide,by omega,by omega⟩
       intro s0
       obtain⟨s',f1,f2⟩:=SlS.turn 46 hci s0
       repeat(refine wkB ?_;intros)
       exact Ze s' trivial (by rw[f1];exact sbB) (by rw[f2];exact suB)
     ·unfold lstP at c1
      refine jD 47 47 (h:=?_)
      (repeat(refine wkH ?_))
      simp only[Wc (show(out.length:Int)-1≥0 by omega)]
      (repeat(refine wkH ?_))
      simp only[We c1]
      (repeat(refine wkH ?_))
      refine Zp ?_
      refine Zq ?_
      rw[<-y1,show [(⟨bo,row rP out so,46⟩:Blk)]=mS 46 o from y2.symm]
      have hci:out++[gi l (i:Int)]=jn1 out (gi l (i:Int)):=by unfold jn1;rw[if_neg (fun h=>by have h2:=h.2;unfold jnB lstP at h2;rw[We c1] at h2;simp at h2)]
      repeat(refine wkB ?_;intros)
      refine sU (k:=21) (enc:=rP) (s:=o) rfl rfl ?_ ?_ ?_ ?_
      ·rfl
      ·rfl
      ·exact⟨by decide,by omega,by omega⟩
      intro s0
      obtain⟨s',f1,f2⟩:=SlS.turn 46 hci s0
      repeat(refine wkB ?_;intros)
      exact Ze s' trivial (by rw[f1];exact sbB) (by rw[f2];exact suB)
   ·repeat(first|(refine wkB ?_;intros)|(refine wnM ?_ ?_;(focus(exact⟨by omega,by omega⟩));intros))
    exact Zc ⟨i+1,_,q⟩ ⟨hlt,hnxt⟩ sbB suB (by show l.length-(i+1)<l.length-i;omega)
  ·have hge:i=l.length:=by have:=Wb h;omega
   obtain⟨s',f1,f2⟩:=SlS.turn 46 (hend hge) o
   repeat(refine wkB ?_;intros)
   exact Ze s' trivial (by rw[f1];exact sbB) (by rw[f2];exact suB)
 ·repeat(refine wkB ?_;intros)
  exact Zr rfl rfl (fun w hw=>⟨q,rfl,hw.sub suB⟩)
instance Zxw (w0:World)(L:List Blk)(v:Value)(l:List PU)[h:LstC w0 L v PU rP l]:SpecR prog w0 L 66 [v] (SlS rP 21 (jnL l l.length)) (fun q=>vSl q) (fun q=>mS 46 q) (l.length<=1048576):=⟨fun hp w hw=>Zjr v l w (h.out w hw) hp⟩
end
end Go.Vt
namespace Go.Vt
def IsRt (n r:Nat):Prop:=r*r<=n/\n<(r+1)*(r+1)
theorem sqm {a b:Nat}(h:a<=b):a*a<=b*b:=Nat.mul_le_mul h h
theorem IsRt.uniq {n r s:Nat}(h:IsRt n r)(k:IsRt n s):r=s:=by
 obtain⟨h1,h2⟩:=h
 obtain⟨k1,k2⟩:=k
 rcases Nat.lt_trichotomy r s with hl|hl|hl
 ·have:=sqm (show r+1<=s by omega);omega
 ·exact hl
 ·have:=sqm (show s+1<=r by omega);omega
def rtN :Nat->Nat
 |0=>0
 |n+1=>if(rtN n+1)*(rtN n+1)<=n+1 then rtN n+1 else rtN n
theorem Zdt :∀n,IsRt n (rtN n)
 |0=>⟨Nat.le_refl _,by decide⟩
 |n+1=>by
  obtain⟨h1,h2⟩:=Zdt n
  rw[rtN]
  generalize rtN n=r at*
  split
  ·rename_i h
   refine⟨h, ?_⟩
   have e:(r+1+1)*(r+1+1)=(r+1)*(r+1)+2*r+3:=by grind
   omega
  ·exact⟨by omega,by omega⟩
theorem ZnC {n r:Nat}(h:IsRt n r):rtN n=r:=(Zdt n).uniq h
theorem Zme (r:Nat):rtN (r*r)=r:=ZnC ⟨Nat.le_refl _,by rw[show(r+1)*(r+1)=r*r+2*r+1 by grind];omega⟩
theorem Zcr (n:Nat):rtN n<=n:=by
 have h:=(Zdt n).1
 generalize rtN n=r at*
 rcases Nat.eq_zero_or_pos r with h0|h0
 ·omega
 ·have:=Nat.mul_le_mul_left r h0
  omega
theorem Zot {n x:Nat}(hn:0<n)(h:n<(x+1)*(x+1)):0<x:=by
 rcases Nat.eq_zero_or_pos x with h0|h0
 ·subst h0;omega
 ·exact h0
theorem Zqf (q:Rat):(q*q).num=q.num*q.num/\(q*q).den=q.den*q.den:=by
 have hr:(q.num*q.num).natAbs.Coprime (q.den*q.den):=by
  rw[Int.natAbs_mul]
  exact Nat.Coprime.mul_left (Nat.Coprime.mul_right q.reduced q.reduced) (Nat.Coprime.mul_right q.reduced q.reduced)
 have hd:q.den*q.den≠0:=Nat.mul_ne_zero q.den_nz q.den_nz
 have e:q*q=⟨q.num*q.num,q.den*q.den,hd,hr⟩:=by
  rw[Rat.mul_def,Rat.normalize_eq_mk' _ _ hd hr]
 rw[e]
 exact⟨rfl,rfl⟩
def rtQ (a:Rat):Option Rat:=if 0<=a.num/\rtN a.num.natAbs*rtN a.num.natAbs=a.num.natAbs/\rtN a.den*rtN a.den=a.den then some (Rat.divInt (rtN a.num.natAbs) (rtN a.den)) else none
theorem Zmj {q:Rat}(hq:0<=q):rtQ (q*q)=some q:=by
 obtain⟨h1,h2⟩:=Zqf q
 have h3:=Rat.num_nonneg.2 hq
 have h4:(q*q).num.natAbs=q.num.natAbs*q.num.natAbs:=by rw[h1,Int.natAbs_mul]
 unfold rtQ
 rw[h4,h2,Zme,Zme,if_pos ⟨by rw[h1];exact Int.mul_nonneg h3 h3,rfl,rfl⟩,Int.natAbs_of_nonneg h3,Rat.num_divInt_den]
theorem Zql {a q:Rat}(h:rtQ a=some q):0<=q/\q*q=a:=by
 unfold rtQ at h
 split at h
 ·rename_i hc
  obtain⟨c1,c2,c3⟩:=hc
  injection h with h
  subst h
  have hp:=a.den_pos
  generalize rtN a.num.natAbs=n at*
  generalize rtN a.den=d at*
  have hd:(d:Int)≠0:=by
   rintro h0
   have:d=0:=by omega
   subst this
   omega
  constructor
  ·exact Rat.divInt_nonneg_iff_of_pos_right (b:=(d:Int)) (by omega) |>.2 (by omega)
  ·rw[Rat.divInt_mul_divInt]
   conv=>rhs;rw[<-Rat.num_divInt_den a]
   have e1:((n:Int)*n)=a.num:=by
    have:((n*n:Nat):Int)=(a.num.natAbs:Int):=by rw[c2]
    rw[Int.natAbs_of_nonneg c1] at this
    exact_mod_cast this
   have e2:((d:Int)*d)=(a.den:Int):=by exact_mod_cast congrArg (Nat.cast (R:=Int)) c3
   rw[e1,e2]
 ·cases h
theorem Zii {a:Rat}(h:rtQ a=none)(q:Rat):q*q≠a:=fun e=>by
 by_cases hq:0<=q
 ·rw[<-e,Zmj hq] at h
  cases h
 ·have e2:(-q)*(-q)=a:=by rw[<-e];grind
  rw[<-e2,Zmj (by grind)] at h
  cases h
end Go.Vt
