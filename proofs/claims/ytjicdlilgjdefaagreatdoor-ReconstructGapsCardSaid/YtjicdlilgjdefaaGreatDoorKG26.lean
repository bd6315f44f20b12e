/- that the gaps between reports are those of the chain (part 26 of 32.) Conditions: those that each statement names. -/
import Derived.Test.YtjicdlilgjdefaaGreatDoorKG17
import Derived.Test.YtjicdlilgjdefaaGreatDoorKG18
import Derived.Test.YtjicdlilgjdefaaGreatDoorKG24
import Derived.Test.YtjicdlilgjdefaaGreatDoorKG25
set_option linter.unusedSimpArgs false
set_option linter.unusedVariables false
set_option maxHeartbeats 2000000
set_option maxRecDepth 100000
set_option linter.unusedSectionVars false
namespace Go.Vt
open Go.RowKit Go.Proofs
open Go.Proofs.Tryz (prog)
section
def bLt (a b:Bd):Prop:=a.at_.P<b.at_.P\/(a.at_.P=b.at_.P/\a.behind=false/\b.behind=true)
def bLe (a b:Bd):Prop:=a.at_.P<b.at_.P\/(a.at_.P=b.at_.P/\(a.behind=true->b.behind=true))
def bAt (b:Bd)(t:Rat):Prop:=b.at_.P<t\/(b.at_.P=t/\b.behind=false)
theorem Zwx {a b:Bd}:bLt a b↔¬bLe b a:=by unfold bLt bLe;grind
theorem Zjz {a b c:Bd}(h:bLe a b)(k:bLe b c):bLe a c:=by unfold bLe at*;grind
theorem ZdP {a b c:Bd}(h:bLt a b)(k:bLe b c):bLt a c:=by unfold bLe bLt at*;grind
theorem bLt.le {a b:Bd}(h:bLt a b):bLe a b:=by unfold bLe bLt at*;grind
theorem Zd8 {a b:Bd}{t:Rat}(h:bLe a b)(k:bAt b t):bAt a t:=by unfold bLe bAt at*;grind
theorem Zk2 {a b:Bd}:cmpB a b=0↔bLe a b/\bLe b a:=by
 unfold cmpB bLe
 by_cases h:cq a.at_.P b.at_.P=0
 ·rw[if_neg (by simpa using h)]
  have h:=Zb7.1 h
  rcases ha:a.behind <;> rcases hb:b.behind <;> simp[h]
 ·rw[if_pos h]
  have h':¬a.at_.P=b.at_.P:=fun e=>h (Zb7.2 e)
  constructor
  ·intro k;exact absurd k h
  ·rintro⟨k1,k2⟩;grind
theorem ZmE {a b:Bd}(h:cmpB a b<0):bLe a b:=by
 unfold cmpB at h
 unfold bLe
 split at h
 ·exact .inl (ZdC.1 h)
 ·rename_i h1
  have h1:=Zb7.1 (Decidable.not_not.1 h1)
  split at h
  ·omega
  ·split at h
   ·rename_i h3
    exact .inr ⟨h1,fun _=>h3⟩
   ·omega
theorem Zue {a b:Bd}(h:¬cmpB a b<0):bLe b a:=by
 unfold cmpB at h
 unfold bLe
 split at h
 ·rename_i h1
  have h2:¬a.at_.P<b.at_.P:=fun e=>h (ZdC.2 e)
  have h1:¬a.at_.P=b.at_.P:=fun e=>h1 (Zb7.2 e)
  exact .inl (by grind)
 ·rename_i h1
  have h1:=Zb7.1 (Decidable.not_not.1 h1)
  split at h
  ·rename_i h2
   exact .inr ⟨h1.symm,fun e=>by rw[h2];exact e⟩
  ·split at h
   ·omega
   ·rename_i h3
    exact .inr ⟨h1.symm,fun e=>absurd e h3⟩
theorem ZhU {I:Ze}{t:Rat}:memI I t↔bAt (bdF I) t/\¬bAt (bdL I) t:=by
 unfold memI bAt bdF bdL
 rcases I.OpenFrom <;> rcases I.OpenTo <;> simp <;> grind
theorem Zjw (a b:Bd):bdF (bdB a b)=a:=rfl
theorem Zjv (a b:Bd):bdL (bdB a b)=b:=by
 unfold bdL bdB
 simp
noncomputable def cntT (d:Ev->Int)(t:Rat):List Ev->Int
 |[]=>0
 |x::l=>(open Classical in if bAt x.b t then d x else 0)+cntT d t l
theorem ZbO (d:Ev->Int)(t:Rat):∀l m,cntT d t (l++m)=cntT d t l+cntT d t m
 |[],m=>by simp[cntT]
 |x::l,m=>by rw[Wf,cntT,cntT,ZbO d t l m];omega
theorem ZiN {d:Ev->Int}{t:Rat}{l m:List Ev}(h:l.Perm m):cntT d t l=cntT d t m:=by
 induction h with
 |nil=>rfl
 |cons x _ ih=>rw[cntT,cntT,ih]
 |swap x y l=>simp only[cntT];omega
 |trans _ _ h1 h2=>exact h1.trans h2
theorem ZiJ {α:Type}[Inhabited α]{l:List α}{m:Nat}(h:m<l.length):l.take (m+1)=l.take m++[gi l (m:Int)]:=by
 rw[Zj h,Wn h]
theorem ZjB {d:Ev->Int}{t:Rat}{l:List Ev}(f:Nat->Int)(h0:f 0=0)(hs:∀m,f (m+1)=f m+d (gi l (m:Int))):∀k,k<=l.length->(∀j,j<k->bAt (gi l (j:Int)).b t)->cntT d t (l.take k)=f k
 |0,_,_=>by simp[cntT,h0]
 |k+1,hk,h=>by
  rw[ZiJ (by omega),ZbO,ZjB f h0 hs k (by omega) (fun j hj=>h j (by omega)),hs,cntT,cntT,if_pos (h k (by omega))]
  omega
theorem Zjb {d:Ev->Int}{t:Rat}:∀{l:List Ev},(∀x∈l,¬bAt x.b t)->cntT d t l=0
 |[],_=>rfl
 |x::l,h=>by rw[cntT,if_neg (h x (.head _)),Zjb (fun y hy=>h y (.tail _ hy))];rfl
theorem ZjA {d:Ev->Int}{t:Rat}{l:List Ev}(f:Nat->Int)(h0:f 0=0)(hs:∀m,f (m+1)=f m+d (gi l (m:Int))){k:Nat}(hk:k<=l.length)(h:∀j,j<k->bAt (gi l (j:Int)).b t)(h':∀j,k<=j->j<l.length->¬bAt (gi l (j:Int)).b t):cntT d t l=f k:=by
 have e:cntT d t l=cntT d t (l.take k++l.drop k):=by rw[List.take_append_drop]
 rw[e,ZbO,ZjB f h0 hs k hk h,Zjb (l:=l.drop k) fun x hx=>?_]
 ·omega
 ·obtain⟨j,hj,rfl⟩:=List.getElem_of_mem hx
  rw[List.length_drop] at hj
  rw[List.getElem_drop,<-Zj (by omega)]
  exact h' (k+j) (by omega) (by omega)
section
variable {kp : Bool -> Bool -> Bool} {l : List Ev}
theorem ZhD (m:Nat):(sws kp l (m+1)).n0=(sws kp l m).n0+(gi l (m:Int)).n0:=by
 rw[sws]
 simp only
 split <;> rfl
theorem Zha (m:Nat):(sws kp l (m+1)).n1=(sws kp l m).n1+(gi l (m:Int)).n1:=by
 rw[sws]
 simp only
 split <;> rfl
theorem ZjM {w:Rat}{k:Nat}(hk:k<=l.length)(h:∀j,j<k->bAt (gi l (j:Int)).b w)(h':∀j,k<=j->j<l.length->¬bAt (gi l (j:Int)).b w):cntT Ev.n0 w l=(sws kp l k).n0/\cntT Ev.n1 w l=(sws kp l k).n1:=
 ⟨ZjA (fun m=>(sws kp l m).n0) rfl ZhD hk h h',ZjA (fun m=>(sws kp l m).n1) rfl Zha hk h h'⟩
noncomputable def keeps (kp:Bool->Bool->Bool)(l:List Ev)(t:Rat):Bool:=kp (decide (0<cntT Ev.n0 t l)) (decide (0<cntT Ev.n1 t l))
structure SwI (kp:Bool->Bool->Bool)(l:List Ev)(s:SwS)(k:Nat):Prop where
 h:∀t,(k<l.length->¬bAt (gi l (k:Int)).b t)->(((∃i∈s.out,memI i t)\/(s.on=true/\bAt s.fr t))↔keeps kp l t=true)
 r:k<l.length->∀i∈s.out,bLt (bdL i) (gi l (k:Int)).b
 f:k<l.length->s.on=true->bLt s.fr (gi l (k:Int)).b
 o:s.on=true->∀i∈s.out,bLt (bdL i) s.fr
 pw:s.out.Pairwise (fun i j=>bLt (bdL i) (bdF j))
 v:∀i∈s.out,bLt (bdF i) (bdL i)
theorem ZmQ (hs:∀p q:Nat,p<q->q<l.length->bLe (gi l (p:Int)).b (gi l (q:Int)).b)(hk:kp false false=false):∀k,k<=l.length->SwI kp l (sws kp l k) k
 |0,_=>by
  refine⟨fun t h=>?_,fun _ i hi=>(by cases hi),fun _ h=>(by cases h),fun h=>by(cases h),List.Pairwise.nil,fun i hi=>(by cases hi)⟩
  have hn:∀j,0<=j->j<l.length->¬bAt (gi l (j:Int)).b t:=fun j _ hj=>by
   by_cases e:j=0
   ·subst e;exact h hj
   ·exact fun hb=>h (by omega) (Zd8 (hs 0 j (by omega) hj) hb)
  obtain⟨e1,e2⟩:=ZjM (kp:=kp) (Wm _) (fun j hj=>by omega) hn
  unfold keeps
  rw[e1,e2]
  simp[sws,hk]
 |k+1,hkl=>by
  have ih:=ZmQ hs hk k (by omega)
  have hn0:=ZhD (kp:=kp) (l:=l) k
  have hn1:=Zha (kp:=kp) (l:=l) k
  have hnxt:k+1<l.length->bLe (gi l (k:Int)).b (gi l ((k+1:Nat):Int)).b:=fun h=>hs k (k+1) (by omega) h
  by_cases hsk:k+1<l.length/\cmpB (gi l (k:Int)).b (gi l ((k+1:Nat):Int)).b=0
  ·have e:sws kp l (k+1)=⟨(sws kp l k).n0+(gi l (k:Int)).n0,(sws kp l k).n1+(gi l (k:Int)).n1,(sws kp l k).fr,(sws kp l k).on,(sws kp l k).out⟩:=by rw[sws];simp only;rw[if_pos hsk]
   obtain⟨e1,e2⟩:=Zk2.1 hsk.2
   rw[e]
   exact⟨fun t h=>ih.h t (fun _ hb=>h hsk.1 (Zd8 e2 hb)),fun _ i hi=>ZdP (ih.r (by omega) i hi) e1,fun _ ho=>ZdP (ih.f (by omega) ho) e1,ih.o,ih.pw,ih.v⟩
  ·have e:sws kp l (k+1)=⟨(sws kp l k).n0+(gi l (k:Int)).n0,(sws kp l k).n1+(gi l (k:Int)).n1,if kp (decide (0<(sws kp l k).n0+(gi l (k:Int)).n0)) (decide (0<(sws kp l k).n1+(gi l (k:Int)).n1))&& !(sws kp l k).on then(gi l (k:Int)).b else(sws kp l k).fr,kp (decide (0<(sws kp l k).n0+(gi l (k:Int)).n0)) (decide (0<(sws kp l k).n1+(gi l (k:Int)).n1)),if kp (decide (0<(sws kp l k).n0+(gi l (k:Int)).n0)) (decide (0<(sws kp l k).n1+(gi l (k:Int)).n1))&& !(sws kp l k).on then(sws kp l k).out else if !kp (decide (0<(sws kp l k).n0+(gi l (k:Int)).n0)) (decide (0<(sws kp l k).n1+(gi l (k:Int)).n1))&&(sws kp l k).on then(sws kp l k).out++[bdB (sws kp l k).fr (gi l (k:Int)).b] else(sws kp l k).out⟩:=by rw[sws];simp only;rw[if_neg hsk]
   have hlt:k+1<l.length->bLt (gi l (k:Int)).b (gi l ((k+1:Nat):Int)).b:=fun h=>by
    rw[Zwx]
    exact fun h2=>hsk ⟨h,Zk2.2 ⟨hnxt h,h2⟩⟩
   -- what is kept at an instant behind this border and ahead of the next one
   have hkeep:∀t,bAt (gi l (k:Int)).b t->(k+1<l.length->¬bAt (gi l ((k+1:Nat):Int)).b t)->keeps kp l t=(sws kp l (k+1)).on:=fun t h1 h2=>by
    obtain⟨e1,e2⟩:=ZjM (kp:=kp) (l:=l) (w:=t) (k:=k+1) hkl
     (fun j hj=>by
      by_cases e:j=k
      ·subst e;exact h1
      ·exact Zd8 (hs j k (by omega) (by omega)) h1)
     (fun j h3 hj=>by
      by_cases e:j=k+1
      ·subst e;exact h2 hj
      ·exact fun hb=>h2 (by omega) (Zd8 (hs (k+1) j (by omega) hj) hb))
    unfold keeps
    rw[e1,e2,hn0,hn1,e]
   generalize hnow:kp (decide (0<(sws kp l k).n0+(gi l (k:Int)).n0)) (decide (0<(sws kp l k).n1+(gi l (k:Int)).n1))=now at e
   generalize hx:(gi l (k:Int)).b=x at*
   have hnew:∀t,memI (bdB (sws kp l k).fr x) t↔bAt (sws kp l k).fr t/\¬bAt x t:=fun t=>by rw[ZhU,Zjw,Zjv]
   have hr:=ih.r (by omega)
   have hf:=ih.f (by omega)
   rw[hx] at hr hf
   have hno:∀t,bAt x t->∀i∈(sws kp l k).out,¬memI i t:=fun t h i hi hm=>(ZhU.1 hm).2 (Zd8 (hr i hi).le h)
   have hfr:∀t,bAt x t->(sws kp l k).on=true->bAt (sws kp l k).fr t:=fun t h ho=>Zd8 (hf ho).le h
   have hih:∀t,¬bAt x t->(((∃i∈(sws kp l k).out,memI i t)\/((sws kp l k).on=true/\bAt (sws kp l k).fr t))↔keeps kp l t=true):=fun t h=>ih.h t (fun _=>by rw[hx];exact h)
   rw[e] at hkeep
   rw[e]
   simp only at hkeep⊢
   rcases now with _|_ <;> rcases hon:(sws kp l k).on with _|_ <;> simp only[Bool.not_true,Bool.not_false,Bool.and_true,Bool.and_false,Bool.false_eq_true,if_false,if_true] <;> rw[hon] at hih
   ·refine⟨fun t h=>?_,fun h i hi=>ZdP (hr i hi) (hnxt h),fun _ h=>(by cases h),fun h=>(by cases h),ih.pw,ih.v⟩
    by_cases hb:bAt x t
    ·rw[hkeep t hb h]
     exact⟨fun h=>(h.resolve_right (fun h=>by cases h.1)).elim fun i hi=>absurd hi.2 (hno t hb i hi.1),fun h=>(by cases h)⟩
    ·exact hih t hb
   ·refine⟨fun t h=>?_,fun h i hi=>?_,fun _ h=>(by cases h),fun h=>(by cases h), ?_,fun i hi=>?_⟩
    ·by_cases hb:bAt x t
     ·rw[hkeep t hb h]
      refine⟨fun h=>(h.resolve_right (fun h=>by cases h.1)).elim fun i hi=>?_,fun h=>(by cases h)⟩
      rcases List.mem_append.1 hi.1 with h1|h1
      ·exact absurd hi.2 (hno t hb i h1)
      ·rw[List.mem_singleton.1 h1] at hi
       exact absurd hb ((hnew t).1 hi.2).2
     ·rw[<-hih t hb]
      constructor
      ·rintro(⟨i,hi,hm⟩|⟨h,_⟩)
       ·rcases List.mem_append.1 hi with h1|h1
        ·exact .inl ⟨i,h1,hm⟩
        ·rw[List.mem_singleton.1 h1] at hm
         exact .inr ⟨rfl,((hnew t).1 hm).1⟩
       ·cases h
      ·rintro(⟨i,hi,hm⟩|⟨_,h⟩)
       ·exact .inl ⟨i,List.mem_append_left _ hi,hm⟩
       ·exact .inl ⟨_,List.mem_append_right _ (.head _),(hnew t).2 ⟨h,hb⟩⟩
    ·rcases List.mem_append.1 hi with h1|h1
     ·exact ZdP (hr i h1) (hnxt h)
     ·rw[List.mem_singleton.1 h1,Zjv]
      exact hlt h
    ·rw[List.pairwise_append]
     refine⟨ih.pw,List.pairwise_singleton _ _,fun i hi j hj=>?_⟩
     rw[List.mem_singleton.1 hj,Zjw]
     exact ih.o hon i hi
    ·rcases List.mem_append.1 hi with h1|h1
     ·exact ih.v i h1
     ·rw[List.mem_singleton.1 h1,Zjv,Zjw]
      exact hf hon
   ·refine⟨fun t h=>?_,fun h i hi=>ZdP (hr i hi) (hnxt h),fun h _=>hlt h,fun _ i hi=>hr i hi,ih.pw,ih.v⟩
    by_cases hb:bAt x t
    ·rw[hkeep t hb h]
     exact⟨fun _=>rfl,fun _=> .inr ⟨rfl,hb⟩⟩
    ·rw[<-hih t hb]
     exact⟨fun h=> .inl (h.resolve_right fun h=>hb h.2),fun h=> .inl (h.resolve_right fun h=>by cases h.1)⟩
   ·refine⟨fun t h=>?_,fun h i hi=>ZdP (hr i hi) (hnxt h),fun h _=>ZdP (hf hon) (hnxt h),fun _ i hi=>ih.o hon i hi,ih.pw,ih.v⟩
    by_cases hb:bAt x t
    ·rw[hkeep t hb h]
     exact⟨fun _=>rfl,fun _=> .inr ⟨rfl,hfr t hb hon⟩⟩
    ·exact hih t hb
theorem Zpp {Pb:Bd->Prop}(h:∀x∈l,Pb x.b):∀k,k<=l.length->((sws kp l k).on=true->Pb (sws kp l k).fr)/\∀i∈(sws kp l k).out,Pb (bdF i)/\Pb (bdL i)
 |0,_=>⟨fun h=>(by cases h),fun i hi=>(by cases hi)⟩
 |k+1,hk=>by
  obtain⟨h1,h2⟩:=Zpp h k (by omega)
  have hx:=h _ (ZI (xs:=l) (i:=(k:Int)) (by omega))
  rw[sws]
  simp only
  split
  ·exact⟨h1,h2⟩
  ·generalize kp _ _=now
   rcases now with _|_ <;> rcases hon:(sws kp l k).on with _|_ <;> simp only[Bool.not_true,Bool.not_false,Bool.and_true,Bool.and_false,Bool.false_eq_true,if_false,if_true]
   ·exact⟨fun h=>(by cases h),h2⟩
   ·refine⟨fun h=>(by cases h),fun i hi=>?_⟩
    rcases List.mem_append.1 hi with h3|h3
    ·exact h2 i h3
    ·rw[List.mem_singleton.1 h3,Zjv,Zjw]
     exact⟨h1 hon,hx⟩
   ·exact⟨fun _=>hx,h2⟩
   ·exact⟨fun _=>h1 hon,h2⟩
theorem ZtE (hs:∀p q:Nat,p<q->q<l.length->bLe (gi l (p:Int)).b (gi l (q:Int)).b)(hk:kp false false=false)(h0:(sws kp l l.length).n0=0)(h1:(sws kp l l.length).n1=0):
  (∀t,(∃i∈(sws kp l l.length).out,memI i t)↔keeps kp l t=true)/\(sws kp l l.length).out.Pairwise (fun i j=>bLt (bdL i) (bdF j))/\∀i∈(sws kp l l.length).out,bLt (bdF i) (bdL i):=by
 have hi:=ZmQ hs hk l.length (Wl _)
 have hon:(sws kp l l.length).on=false:=by
  rcases hl:l.length with _|m
  ·rfl
  ·rw[hl] at h0 h1
   rw[ZhD] at h0
   rw[Zha] at h1
   rw[sws]
   simp only
   rw[if_neg (fun h=>by omega),h0,h1]
   exact hk
 refine⟨fun t=>?_,hi.pw,hi.v⟩
 rw[<-hi.h t (fun h=>absurd h (Nat.lt_irrefl _)),hon]
 exact⟨.inl,fun h=>h.resolve_right (fun h=>by cases h.1)⟩
end
def sumT (d:Ev->Int):List Ev->Int
 |[]=>0
 |x::l=>d x+sumT d l
theorem Zb9 (d:Ev->Int):∀l m,sumT d (l++m)=sumT d l+sumT d m
 |[],m=>by simp[sumT]
 |x::l,m=>by rw[Wf,sumT,sumT,Zb9 d l m];omega
theorem ZiK {d:Ev->Int}{l m:List Ev}(h:l.Perm m):sumT d l=sumT d m:=by
 induction h with
 |nil=>rfl
 |cons x _ ih=>rw[sumT,sumT,ih]
 |swap x y l=>simp only[sumT];omega
 |trans _ _ h1 h2=>exact h1.trans h2
theorem ZfU {d:Ev->Int}{l:List Ev}(f:Nat->Int)(h0:f 0=0)(hs:∀m,f (m+1)=f m+d (gi l (m:Int))):∀k,k<=l.length->sumT d (l.take k)=f k
 |0,_=>by simp[sumT,h0]
 |k+1,hk=>by
  rw[ZiJ (by omega),Zb9,ZfU f h0 hs k (by omega),hs]
  simp[sumT]
theorem Zut (kp:Bool->Bool->Bool)(l:List Ev):(sws kp l l.length).n0=sumT Ev.n0 l/\(sws kp l l.length).n1=sumT Ev.n1 l:=by
 constructor
 ·rw[<-ZfU (l:=l) (fun m=>(sws kp l m).n0) rfl ZhD l.length (Wl _),List.take_length]
 ·rw[<-ZfU (l:=l) (fun m=>(sws kp l m).n1) rfl Zha l.length (Wl _),List.take_length]
theorem ZkG (is:List Ze):∀m,(sumT Ev.n0 (evA is m)=0/\sumT Ev.n1 (evA is m)=0)/\sumT Ev.n0 (evB is m)=0/\sumT Ev.n1 (evB is m)=0
 |0=>by simp[evA,evB,sumT]
 |m+1=>by
  obtain⟨⟨h1,h2⟩,h3,h4⟩:=ZkG is m
  rw[evA,evB,Zb9,Zb9,Zb9,Zb9,h1,h2,h3,h4]
  simp[sumT]
theorem ZpD {i:Ze}(h:bLe (bdF i) (bdL i))(t:Rat):(open Classical in (if bAt (bdF i) t then(1:Int) else 0)+((if bAt (bdL i) t then-1 else 0)+0))=(open Classical in if memI i t then 1 else 0):=by
 have:=ZhU (I:=i) (t:=t)
 have h2:=fun k=>Zd8 (t:=t) h k
 by_cases h3:bAt (bdF i) t <;> by_cases h4:bAt (bdL i) t <;> simp_all
theorem Zs4 (p:Prop)[Decidable p]:(if p then(0:Int) else 0)=0:=by split <;> rfl
theorem Znq {is:List Ze}(h:∀i∈is,bLe (bdF i) (bdL i))(t:Rat):∀m,m<=is.length->cntT Ev.n1 t (evA is m)=0/\0<=cntT Ev.n0 t (evA is m)/\(0<cntT Ev.n0 t (evA is m)↔∃j:Nat,j<m/\memI (gi is (j:Int)) t)
 |0,_=>by simp[evA,cntT]
 |m+1,hm=>by
  obtain⟨h1,h2,h3⟩:=Znq h t m (by omega)
  have h4:=ZpD (h _ (ZI (xs:=is) (i:=(m:Int)) (by omega))) t
  have e:(∃j:Nat,j<m+1/\memI (gi is (j:Int)) t)↔(∃j:Nat,j<m/\memI (gi is (j:Int)) t)\/memI (gi is (m:Int)) t:=by
   constructor
   ·rintro⟨j,hj,hm⟩
    by_cases e:j=m
    ·exact .inr (e▸hm)
    ·exact .inl ⟨j,by omega,hm⟩
   ·rintro(⟨j,hj,hm⟩|hm)
    ·exact⟨j,by omega,hm⟩
    ·exact⟨m,by omega,hm⟩
  rw[e,<-h3,evA,ZbO,ZbO,h1]
  simp only[cntT,Zs4]
  rw[h4]
  refine⟨by omega, ?_⟩
  by_cases h5:memI (gi is (m:Int)) t
  ·rw[if_pos h5];exact⟨by omega,by simp only[h5,or_true,iff_true];omega⟩
  ·rw[if_neg h5];exact⟨by omega,by simp only[h5,or_false];omega⟩
theorem ZmF {is:List Ze}(h:∀i∈is,bLe (bdF i) (bdL i))(t:Rat):∀m,m<=is.length->cntT Ev.n0 t (evB is m)=0/\0<=cntT Ev.n1 t (evB is m)/\(0<cntT Ev.n1 t (evB is m)↔∃j:Nat,j<m/\memI (gi is (j:Int)) t)
 |0,_=>by simp[evB,cntT]
 |m+1,hm=>by
  obtain⟨h1,h2,h3⟩:=ZmF h t m (by omega)
  have h4:=ZpD (h _ (ZI (xs:=is) (i:=(m:Int)) (by omega))) t
  have e:(∃j:Nat,j<m+1/\memI (gi is (j:Int)) t)↔(∃j:Nat,j<m/\memI (gi is (j:Int)) t)\/memI (gi is (m:Int)) t:=by
   constructor
   ·rintro⟨j,hj,hm⟩
    by_cases e:j=m
    ·exact .inr (e▸hm)
    ·exact .inl ⟨j,by omega,hm⟩
   ·rintro(⟨j,hj,hm⟩|hm)
    ·exact⟨j,by omega,hm⟩
    ·exact⟨m,by omega,hm⟩
  rw[e,<-h3,evB,ZbO,ZbO,h1]
  simp only[cntT,Zs4]
  rw[h4]
  refine⟨by omega, ?_⟩
  by_cases h5:memI (gi is (m:Int)) t
  ·rw[if_pos h5];exact⟨by omega,by simp only[h5,or_true,iff_true];omega⟩
  ·rw[if_neg h5];exact⟨by omega,by simp only[h5,or_false];omega⟩
theorem ZAd {is:List Ze}{t:Rat}:(∃j:Nat,j<is.length/\memI (gi is (j:Int)) t)↔∃i∈is,memI i t:=by
 constructor
 ·rintro⟨j,hj,hm⟩
  exact⟨_,ZI (xs:=is) (i:=(j:Int)) (by omega),hm⟩
 ·rintro⟨i,hi,hm⟩
  obtain⟨j,hj,rfl⟩:=List.getElem_of_mem hi
  exact⟨j,hj,by rw[Zj hj];exact hm⟩
theorem ZvS (xs:List Ev)(j:Nat):swpE xs j=swpG xs j:=rfl
theorem Zpn :∀(j:Nat)(xs:List Ev),dwnE xs j=dwnG cmpE xs j
 |0,_=>rfl
 |j+1,xs=>by rw[dwnE,dwnG,Zpn j,ZvS]
theorem Zk0 (xs:List Ev):∀i,srtE xs i=srtG cmpE xs i
 |0=>rfl
 |i+1=>by rw[srtE,srtG,Zpn,Zk0 xs i]
theorem Zev (xs:List Ev):(srtE xs (xs.length-1)).Perm xs:=by
 rcases xs with _|⟨u,us⟩
 ·exact .refl _
 ·rw[Zk0]
  exact Zbw _ _ _ (by simp)
theorem ZrS (xs:List Ev)(p q:Nat)(hpq:p<q)(hq:q<(srtE xs (xs.length-1)).length):bLe (gi (srtE xs (xs.length-1)) (p:Int)).b (gi (srtE xs (xs.length-1)) (q:Int)).b:=by
 rw[(Zev xs).length_eq] at hq
 rw[Zk0]
 exact ZcE (c:=cmpE) (le:=fun x y=>bLe x.b y.b) (fun _ _=>ZmE) (fun _ _=>Zue) (fun _ _ _=>Zjz) xs (xs.length-1) (by omega) p q hpq (by omega)
theorem evK2 (is js:List Ze):evK is js 2=evA is is.length++evB js js.length:=rfl
theorem Zrn {kp:Bool->Bool->Bool}(hk:kp false false=false){is js:List Ze}(h:∀i∈is,bLe (bdF i) (bdL i))(h':∀i∈js,bLe (bdF i) (bdL i)):
  (∀t,(∃i∈swpR kp is js,memI i t)↔(open Classical in kp (decide (∃i∈is,memI i t)) (decide (∃i∈js,memI i t)))=true)/\(swpR kp is js).Pairwise (fun i j=>bLt (bdL i) (bdF j))/\∀i∈swpR kp is js,bLt (bdF i) (bdL i):=by
 have hp:=Zev (evK is js 2)
 obtain⟨h1,h2⟩:=Zut kp (srtE (evK is js 2) ((evK is js 2).length-1))
 obtain⟨⟨a1,a2⟩,a3,a4⟩:=ZkG is is.length
 obtain⟨⟨b1,b2⟩,b3,b4⟩:=ZkG js js.length
 rw[ZiK hp,evK2,Zb9,a1,b3] at h1
 rw[ZiK hp,evK2,Zb9,a2,b4] at h2
 obtain⟨h3,h4,h5⟩:=ZtE (kp:=kp) (ZrS (evK is js 2)) hk (by rw[evK2];exact h1) (by rw[evK2];exact h2)
 refine⟨fun t=>?_,h4,h5⟩
 rw[swpR,h3 t,keeps,ZiN hp,ZiN hp,evK2,ZbO,ZbO]
 obtain⟨c1,c2,c3⟩:=Znq h t is.length (Wl _)
 obtain⟨d1,d2,d3⟩:=ZmF h' t js.length (Wl _)
 rw[c1,d1,Int.add_zero,Int.zero_add]
 rw[ZAd] at c3 d3
 rw[show decide (0<cntT Ev.n0 t (evA is is.length))=(open Classical in decide (∃i∈is,memI i t)) from decide_eq_decide.2 c3,show decide (0<cntT Ev.n1 t (evB js js.length))=(open Classical in decide (∃i∈js,memI i t)) from decide_eq_decide.2 d3]
theorem ZjI {Pb:Bd->Prop}{is:List Ze}(h:∀i∈is,Pb (bdF i)/\Pb (bdL i)):∀m,m<=is.length->(∀x∈evA is m,Pb x.b)/\∀x∈evB is m,Pb x.b
 |0,_=>⟨fun x hx=>(by cases hx),fun x hx=>(by cases hx)⟩
 |m+1,hm=>by
  obtain⟨h1,h2⟩:=ZjI h m (by omega)
  obtain⟨h3,h4⟩:=h _ (ZI (xs:=is) (i:=(m:Int)) (by omega))
  constructor
  ·intro x hx
   rw[evA] at hx
   rcases List.mem_append.1 hx with h5|h5
   ·exact h1 x h5
   ·rcases List.mem_cons.1 h5 with rfl|h5
    ·exact h3
    ·rw[List.mem_singleton.1 h5];exact h4
  ·intro x hx
   rw[evB] at hx
   rcases List.mem_append.1 hx with h5|h5
   ·exact h2 x h5
   ·rcases List.mem_cons.1 h5 with rfl|h5
    ·exact h3
    ·rw[List.mem_singleton.1 h5];exact h4
theorem ZtH {Pb:Bd->Prop}(kp:Bool->Bool->Bool){is js:List Ze}(h:∀i∈is,Pb (bdF i)/\Pb (bdL i))(h':∀i∈js,Pb (bdF i)/\Pb (bdL i)):∀i∈swpR kp is js,Pb (bdF i)/\Pb (bdL i):=by
 refine(Zpp (kp:=kp) (l:=srtE (evK is js 2) ((evK is js 2).length-1)) (Pb:=Pb) (fun x hx=>?_) _ (Wl _)).2
 have hx:=(Zev (evK is js 2)).mem_iff.1 hx
 rw[evK2] at hx
 rcases List.mem_append.1 hx with h1|h1
 ·exact(ZjI h is.length (Wl _)).1 x h1
 ·exact(ZjI h' js.length (Wl _)).2 x h1
end
section
open Fv (va red)
structure Sep (l:List Ze):Prop where
 p:l.Pairwise (fun i j=>bLt (bdL i) (bdF j))
 v:∀i∈l,bLt (bdF i) (bdL i)
theorem Zwv {i:Ze}:okI i↔bLt (bdF i) (bdL i):=by
 unfold okI bLt bdF bdL
 rcases i.OpenFrom <;> rcases i.OpenTo <;> simp
theorem ZqA {i:Ze}(h:okI i):bLe (bdF i) (bdL i):=(Zwv.1 h).le
end
section
open Fv (va red)
abbrev absP (u:PU):GU Rat ZG:=absU (toU u)
structure PNf (l:List PU):Prop where
 nf:NF (l.map absP)
 rf:∀u∈l,RtOk u.In.From/\RtOk u.In.To
section
variable {l : List PU}
theorem PNf.g (h:PNf l){i:Nat}(hi:i<l.length):RtOk (gi l (i:Int)).In.From/\RtOk (gi l (i:Int)).In.To:=h.rf _ (ZI (by omega))
theorem PNf.ok (h:PNf l){i:Nat}(hi:i<l.length):(absP (gi l (i:Int))).ok:=h.nf.ok _ (List.mem_map.2 ⟨_,ZI (by omega),rfl⟩)
theorem PNf.ad (h:PNf l){i j:Nat}(hij:i<j)(hj:j<l.length):Adj (absP (gi l (i:Int))) (absP (gi l (j:Int))):=by
 have h1:=List.pairwise_iff_getElem.1 h.nf.pw i j (by rw[Ws];omega) (by rw[Ws];omega) hij
 rw[List.getElem_map,List.getElem_map,<-Zj (by omega),<-Zj hj] at h1
 exact h1
end
end
section
open Fv (va red)
structure PGood (K n:Nat)(l:List PU):Prop where
 nf:PNf l
 k:∀u∈l,UK K (toU u)
 n:l.length<=n
theorem ZmU {α β:Type}[Inhabited α](f:α->β)(xs:List α):mpN f xs xs.length=xs.map f:=by
 rw[Zg1 f xs _ (Wl _),List.take_length]
theorem Zug (r:List PU):(r.map toU).map absU=r.map absP:=by
 rw[List.map_map]
 rfl
structure BdK (K:Nat)(b:Bd):Prop where
 r:b.at_.R=0
 n:b.at_.Neg=false
 m:M b.at_.P<=K
theorem BdK.ok {K:Nat}{b:Bd}(h:BdK K b)(hk:K<=LQ):BdOk b:=⟨h.r,h.n,Wi h.m hk⟩
theorem BdK.iv {K:Nat}{i:Ze}(h:BdK K (bdF i))(h':BdK K (bdL i)):IvOk K i:=⟨h.r,h'.r,h.n,h'.n,h.m,h'.m⟩
theorem IvOk.bd {K:Nat}{i:Ze}(h:IvOk K i):BdK K (bdF i)/\BdK K (bdL i):=⟨⟨h.r1,h.n1,h.m1⟩,⟨h.r2,h.n2,h.m2⟩⟩
def pIv (l:List PU):List Ze:=mpN ivU (mpN toU l l.length) (mpN toU l l.length).length
def pDom (l:List PU):List Ze:=swpR kpU (pIv l) []
theorem Zhs (l:List PU):pIv l=l.map (·.In):=by
 unfold pIv
 rw[ZmU ivU,ZmU toU,List.map_map]
 rfl
theorem ZvJ {l:List PU}{t:Rat}:(∃i∈l.map (·.In),memI i t)↔∃u∈l,memI u.In t:=by
 constructor
 ·rintro⟨i,hi,hm⟩
  obtain⟨u,hu,rfl⟩:=List.mem_map.1 hi
  exact⟨u,hu,hm⟩
 ·rintro⟨u,hu,hm⟩
  exact⟨_,List.mem_map.2 ⟨u,hu,rfl⟩,hm⟩
theorem Zj1 {K n:Nat}{l:List PU}(h:PGood K n l):Sep (pDom l)/\(∀t,(∃i∈pDom l,memI i t)↔∃u∈l,memI u.In t)/\(∀i∈pDom l,BdK K (bdF i)/\BdK K (bdL i))/\∀i∈pIv l,BdK K (bdF i)/\BdK K (bdL i):=by
 have h1:∀i∈l.map (·.In),bLe (bdF i) (bdL i):=fun i hi=>by
  obtain⟨u,hu,rfl⟩:=List.mem_map.1 hi
  exact ZqA (h.nf.nf.ok _ (List.mem_map.2 ⟨u,hu,rfl⟩))
 have h2:∀i∈l.map (·.In),BdK K (bdF i)/\BdK K (bdL i):=fun i hi=>by
  obtain⟨u,hu,rfl⟩:=List.mem_map.1 hi
  exact(h.k u hu).i.bd
 have h0:∀i∈([]:List Ze),BdK K (bdF i)/\BdK K (bdL i):=fun i hi=>(by cases hi)
 obtain⟨e1,e2,e3⟩:=Zrn (kp:=kpU) rfl h1 (js:=[]) (fun i hi=>(by cases hi))
 unfold pDom
 rw[Zhs]
 refine⟨⟨e2,e3⟩,fun t=>?_,ZtH kpU h2 h0,h2⟩
 refine(e1 t).trans ?_
 unfold kpU
 simp only[Bool.or_eq_true,decide_eq_true_eq]
 rw[ZvJ]
 exact⟨fun h=>h.resolve_right (fun⟨i,hi,_⟩=>by cases hi), .inl⟩
theorem ZuW (is js:List Ze):(evK is js 2).length=2*is.length+2*js.length:=by rw[evK2,Wp,ZeG,Zgm]
end
section
instance ZAm (a b:Bool):SpecC prog 235 [.bool a, .bool b] (.bool (kpU a b)) True:=⟨fun _ w=>by
 refine Zg Tryz.func235 rfl Tryz.ntmps235 rfl ?_
 rcases a with _|_
 ·repeat(refine wkB ?_;intros)
  exact rtT rfl rfl
 ·repeat(refine wkB ?_;intros)
  exact rtT rfl rfl⟩
structure SwOk (is js:List Ze):Prop where
 l:2*is.length+2*js.length<=12\/(OrdE (evA is is.length++evB js js.length)/\2*is.length+2*js.length<50)
 a:∀i∈is,BdOk (bdF i)/\BdOk (bdL i)
 b:∀i∈js,BdOk (bdF i)/\BdOk (bdL i)
theorem SwOk.n {is js:List Ze}(h:SwOk is js):2*is.length+2*js.length<50:=h.l.elim (fun h=>by omega) (fun h=>h.2)
theorem ZnV (v1 v2:Value)(is js:List Ze)(w:World)(hv1:ArgS w v1 rI is)(hv2:ArgS w v2 rI js)(h:SwOk is js):
  Calls prog 184 [v1,v2].toArray w (RetM (SlS rI 20 (swpR kpU is js)) (fun s=>vSl s) (fun s=>mS 111 s) w):=by
 have:=ArgC.mk hv1
 have:=ArgC.mk hv2
 refine Zg Tryz.func184 rfl Tryz.ntmps184 rfl ?_
 repeat(first|(refine wkB ?_;intros)|(refine wnM ?_ ?_;(focus(exact⟨h.l,h.a,h.b⟩));intros))
 rename_i s
 exact Zy rfl rfl (fun w hw=>⟨s,rfl,hw.sub suB⟩)
instance ZGq (w0:World)(L:List Blk)(v1 v2:Value)(is js:List Ze)[h1:LstC w0 L v1 Ze rI is][h2:LstC w0 L v2 Ze rI js]:SpecR prog w0 L 184 [v1,v2] (SlS rI 20 (swpR kpU is js)) (fun s=>vSl s) (fun s=>mS 111 s) (SwOk is js):=⟨fun hp w hw=>ZnV v1 v2 is js w (h1.out w hw) (h2.out w hw) hp⟩
theorem Zph (v1:Value)(is:List Ze)(w:World)(hv1:ArgS w v1 rI is)(h:SwOk is []):
  Calls prog 123 [v1].toArray w (RetM (SlS rI 20 (swpR kpU is [])) (fun s=>vSl s) (fun s=>mS 111 s) w):=by
 have:=ArgC.mk hv1
 have hn:∀L,LstC w L (.slice none 0 0) Ze rI []:=fun L=>⟨fun _ _=>⟨.inl ⟨rfl,rfl⟩⟩⟩
 refine Zg Tryz.func123 rfl Tryz.ntmps123 rfl ?_
 repeat(first|(refine wkB ?_;intros)|(refine wnM ?_ ?_;(focus(exact h));intros))
 rename_i s
 exact Zy rfl rfl (fun w hw=>⟨s,rfl,hw.sub suB⟩)
instance ZHi (w0:World)(L:List Blk)(v1:Value)(is:List Ze)[h1:LstC w0 L v1 Ze rI is]:SpecR prog w0 L 123 [v1] (SlS rI 20 (swpR kpU is [])) (fun s=>vSl s) (fun s=>mS 111 s) (SwOk is []):=⟨fun hp w hw=>Zph v1 is w (h1.out w hw) hp⟩
theorem ZpU (v:Value)(us:List UL)(w:World)(hv:ArgS w v rU us)(h:SwOk (mpN ivU us us.length) []):
  Calls prog 71 [v].toArray w (RetM (SlS rI 20 (swpR kpU (mpN ivU us us.length) [])) (fun s=>vSl s) (fun s=>mS 111 s) w):=by
 have:=ArgC.mk hv
 have hl:=h.n
 have hml:=Zcl ivU us us.length
 simp only[Wx] at hl
 refine Zg Tryz.func71 rfl Tryz.ntmps71 rfl ?_
 repeat(first|(refine wkB ?_;intros)|(refine wnM ?_ ?_;(focus(first|exact(show us.length<=1048576 by omega)|exact h));intros))
 rename_i s1 s2
 exact Zy rfl rfl (fun w hw=>⟨s2,rfl,hw.sub suB⟩)
instance ZIU (w0:World)(L:List Blk)(v:Value)(us:List UL)[h:LstC w0 L v UL rU us]:SpecR prog w0 L 71 [v] (SlS rI 20 (swpR kpU (mpN ivU us us.length) [])) (fun s=>vSl s) (fun s=>mS 111 s) (SwOk (mpN ivU us us.length) []):=⟨fun hp w hw=>ZpU v us w (h.out w hw) hp⟩
theorem Zpi (v:Value)(us:List PU)(w:World)(hv:ArgS w v rP us)(h:SwOk (pIv us) []):
  Calls prog 34 [v].toArray w (RetM (SlS rI 20 (pDom us)) (fun s=>vSl s) (fun s=>mS 111 s) w):=by
 have:=ArgC.mk hv
 have hl:=h.n
 have hml:=Zcl toU us us.length
 have hml2:=Zcl ivU (mpN toU us us.length) (mpN toU us us.length).length
 unfold pIv at hl
 simp only[Wx] at hl
 refine Zg Tryz.func34 rfl Tryz.ntmps34 rfl ?_
 repeat(first|(refine wkB ?_;intros)|(refine wnM ?_ ?_;(focus(first|exact(show us.length<=1048576 by omega)|exact h));intros))
 rename_i s1 s2
 exact Zy rfl rfl (fun w hw=>⟨s2,rfl,hw.sub suB⟩)
instance ZIr (w0:World)(L:List Blk)(v:Value)(us:List PU)[h:LstC w0 L v PU rP us]:SpecR prog w0 L 34 [v] (SlS rI 20 (pDom us)) (fun s=>vSl s) (fun s=>mS 111 s) (SwOk (pIv us) []):=⟨fun hp w hw=>Zpi v us w (h.out w hw) hp⟩
end
section
structure PFine (us:List PU):Prop where
 nf:NF (us.map absP)
 k:∀u∈us,UIn (toU u)
 l:us.length<=19
end
section
theorem ZwS {pts:List SS}(hB:Bnd pts):∀u∈frS pts,UIn (toU u):=fun u hu=>by
 by_cases h1:pts.length=1
 ·have e:frS pts=[one1 (gi pts 0)]:=by unfold frS;rw[if_pos h1]
  rw[e,Wo] at hu
  subst hu
  exact(Ztp hB).uin Zgw.2.2.1
 ·have e:frS pts=mNorm (sgs pts (pts.length-1)):=by unfold frS;rw[if_neg h1]
  have e3:(frS pts).map toU=nrmR (sgW pts (pts.length-1)):=by
   rw[e,<-ZdJ toU,Zge]
   rfl
  refine(Zpy (K:=K0) (us:=sgW pts (pts.length-1)) (fun v hv=>?_) (toU u) (by rw[<-e3];exact List.mem_map.2 ⟨u,hu,rfl⟩)).uin Zgw.2.1
  obtain⟨i, -,rfl⟩:=Zgl hv
  exact Zs8 hB i
theorem ZpS {l:List SS}{g:Rat}(hB:Bnd l)(hi:Inc l):∀i,i<=l.length->∀u∈(thrN l g i).1,UIn (toU u)
 |0,_,u,hu=>by cases hu
 |i+1,h,u,hu=>by
  have ih:=ZpS (g:=g) hB hi i (by omega)
  have hk:=ZeB (g:=g) hB hi i (by omega)
  simp only[thrN] at hu
  split at hu
  ·exact ih u hu
  ·rcases List.mem_append.1 hu with h1|h1
   ·exact ih u h1
   ·have hr:=hk.r
    have e:(thrN l g i).2++[gi l (i:Int)]=(l.drop (i-(thrN l g i).2.length)).take ((thrN l g i).2.length+1):=by
     have e1:=hk.run
     rw[Wn (by rw[List.length_drop];omega),<-e1,List.getElem_drop,Zj (by omega)]
     congr 2
     simp only[show i-(thrN l g i).2.length+(thrN l g i).2.length=i by omega]
    rw[e] at h1
    exact ZwS (Zgk hB hi (by omega)).1 u h1
theorem Zr2 {l:List SS}{g:Rat}(hB:Bnd l)(hi:Inc l)(hn:l.length<=19):PFine (thrN l g l.length).1:=by
 have hk:=ZeB (g:=g) hB hi l.length (Wl _)
 have h1:=hk.n
 refine⟨?_,ZpS hB hi _ (Wl _),by omega⟩
 rw[<-Zug]
 exact hk.nf
end
section
theorem Zuu (y x:Zc):leTm y x↔(0<cq x.T y.T\/(cq x.T y.T=0/\y.Report.Seq<=x.Report.Seq)):=by
 unfold leTm
 rw[Zjr,Zb7]
 constructor
 ·rintro(h|⟨h1,h2⟩)
  ·exact .inl h
  ·exact .inr ⟨h1.symm,h2⟩
 ·rintro(h|⟨h1,h2⟩)
  ·exact .inl h
  ·exact .inr ⟨h1.symm,h2⟩
theorem ZwU (w:World):(Instr.buildSlice 48 0 [].toArray).run prog w= .ok (.slice (some ⟨w.heap.size,0,none⟩) 0 0) (w.alloc (.cells (row (Zi) [] []) 56)):=by kernel_rfl
instance (priority :=high) ZKw:BsC prog 48 0 [] (row (Zi) [] []) 56:=⟨ZwU⟩
set_option maxHeartbeats 8000000 in
theorem ZoJ (v:Value)(l:List Zc)(x:Zc)(w:World)(hv:ArgS w v Zi l)(hl:l.length<=1048576)(hok:∀z∈l,TkOk z)(hx:TkOk x):
  Calls prog 56 [v,vTm x].toArray w (RetM (SlS Zi 12 (putL l x)) (fun s=>vSl s) (fun s=>mS 56 s) w):=by
 obtain⟨p,cp,rfl⟩:=hv.form
 have hcp:l.length<=cp:=by
  rcases hv.out with⟨h1,h2⟩|⟨a,c,h1,h2, -⟩
  ·rw[h2];exact Wm _
  ·injection h1 with _ _ e;omega
 refine Zg Tryz.func56 rfl Tryz.ntmps56 rfl ?_
 repeat(refine wkM ?_;intros)
 rename_i b3
 refine ZeD (S:=Nat) (fun k=>k<=l.length/\k=posT l x l.length) (fun k=>[(0, .slice p l.length cp),(3, .pointer (some ⟨b3,0,none⟩)),(5, .int .i64 (k:Nat))]) (fun _=>[⟨b3,Zi x,56⟩]) ?_ (fun k hk=>?_)
 ·refine Zm (S:=Nat) (fun k=>k<=l.length/\posT l x k=posT l x l.length) (fun k=>[(0, .slice p l.length cp),(3, .pointer (some ⟨b3,0,none⟩)),(5, .int .i64 (k:Nat))]) (fun _=>[⟨b3,Zi x,56⟩]) (fun k=>k) l.length ⟨Wl _,rfl⟩ sbB slB (fun k hk=>?_)
  obtain⟨hk,hpos⟩:=hk
  rcases k with _|j
  ·repeat(refine wkM ?_;intros)
   simp only[We (show¬(0:Int)<((0:Nat):Int) by omega)]
   repeat(refine wkM ?_;intros)
   exact Zt 0 ⟨Wm _,hpos⟩ sbB slB
  ·have hlt:j<l.length:=hk
   obtain⟨bw,ow,rfl,hrow'⟩:=hv.opn (k:=11) hlt
   have hj:=hok (gi l (j:Int)) (ZI (by omega))
   have hM:M x.T<=LQ/\M (gi l (j:Int)).T<=LQ:=⟨Wi hx.t (by decide),Wi hj.t (by decide)⟩
   have e1:((j+1:Nat):Int)-1=(j:Int):=by omega
   have hle:=Zuu (gi l (j:Int)) x
   rw[posT] at hpos
   repeat(refine wkM ?_;intros)
   simp only[Wc (show(0:Int)<((j+1:Nat):Int) by omega)]
   repeat(refine wkM ?_;intros)
   (refine ZX (.v [0,1,2,3,4,5,6,7,8] (.e1 9 (.fin))) ([⟨b3,Zi x,56⟩]) (h:=?_);refine wkX ?_)
   (repeat(refine wkH ?_))
   simp only[e1]
   (repeat(first|refine wkH ?_|(refine tC rfl rfl ?_ ?_;focus(exact hM))))
   repeat(refine wkT ?_;intros)
   repeat(refine wkM ?_;intros)
   refine jD 19 19 (h:=?_)
   (repeat(refine wkH ?_))
   by_cases c1:0<cq x.T (gi l (j:Int)).T
   ·rw[if_pos (hle.2 (.inl c1))] at hpos
    simp only[Wc c1]
    (repeat(refine wkH ?_))
    refine Zn ?_
    refine Zr ?_
    repeat(refine wkM ?_;intros)
    exact Zt (j+1) ⟨hk,hpos⟩ sbB slB
   ·simp only[We c1]
    (repeat(refine wkH ?_))
    by_cases c2:cq x.T (gi l (j:Int)).T=0
    ·simp only[Wc c2]
     (repeat(refine wkH ?_))
     try simp only[e1]
     (repeat(refine wkH ?_))
     simp only[show ow+((j:Nat):Int).toNat*12+4+1=ow+((j:Nat):Int).toNat*12+5 from rfl]
     (repeat(refine wkH ?_))
     by_cases c3:(gi l (j:Int)).Report.Seq<=x.Report.Seq
     ·rw[if_pos (hle.2 (.inr ⟨c2,c3⟩))] at hpos
      simp only[Wc c3]
      (repeat(refine wkH ?_))
      refine Zn ?_
      refine Zr ?_
      repeat(refine wkM ?_;intros)
      exact Zt (j+1) ⟨hk,hpos⟩ sbB slB
     ·rw[if_neg (fun h=>(hle.1 h).elim c1 (fun h=>c3 h.2))] at hpos
      simp only[We c3]
      (repeat(refine wkH ?_))
      refine Zn ?_
      refine Zr ?_
      repeat(refine wkO ?_;intros)
      try simp only[e1]
      exact Zh j ⟨Nat.le_of_lt hlt,hpos⟩ sbB slB (Nat.lt_succ_self _)
    ·rw[if_neg (fun h=>(hle.1 h).elim c1 (fun h=>c2 h.1))] at hpos
     simp only[We c2]
     (repeat(refine wkH ?_))
     refine Zn ?_
     refine Zr ?_
     repeat(refine wkO ?_;intros)
     try simp only[e1]
     exact Zh j ⟨Nat.le_of_lt hlt,hpos⟩ sbB slB (Nat.lt_succ_self _)
 ·obtain⟨hk,hpos⟩:=hk
  have hT:=fun L=>(hv.take k hk).lst L
  have hD:=fun L=>(hv.drop k hk).lst L
  have hend:∀s3:FlS Zi 12 (([]++l.take k)++[x]++l.drop k),∃s4:SlS Zi 12 (putL l x),vSl s4=vF s3/\mS 56 s4=mF 56 s3:=fun s3=>by
   obtain⟨s4,f1,f2⟩:=s3.sl (by simp)
   obtain⟨s5,f3,f4⟩:=s4.like (show putL l x=([]++l.take k)++[x]++l.drop k by unfold putL;rw[<-hpos];simp)
   exact⟨s5,f3.trans f1,(f4 _).trans (f2 _)⟩
  refine Zgh (S:=SlS Zi 12 (putL l x)) (fun _=>True) (fun s=>[(4,vSl s)]) (fun s=>mS 56 s) ?_ (fun s _=>?_)
  ·(refine ZX (.v [1,2,3,5,8,9,10] (.e2 0 (.e2 4 (.e1 6 (.e1 7 (.e1 11 (.e1 12 (.fin))))) 6 (.e1 4 (.e1 7 (.e1 11 (.e1 12 (.fin)))))) 6 (.e1 0 (.e1 4 (.e1 7 (.e1 11 (.e1 12 (.fin)))))))) ([⟨b3,Zi x,56⟩]) (h:=?_);refine wkX ?_)
   (repeat(first|refine wkH ?_|(refine tC rfl rfl ?_ ?_;focus(exact⟨by omega,by omega⟩))))
   refine And.intro ?_ ?_
   ·repeat(refine wkT ?_;intros)
    rename_i b0
    refine And.intro ?_ ?_
    ·refine eVF (k:=11) (enc:=Zi) (s:=FlS.em b0) (hx:=⟨rfl⟩) rfl rfl ?_ ?_ ?_
     ·rfl
     ·exact⟨by simp only[Wt,Wx];omega,by simp only[Wt,Wx];omega⟩
     intro s1
     repeat(refine wkT ?_;intros)
     refine eVF rfl rfl ?_ ?_ ?_
     ·rfl
     ·exact⟨by simp only[Wp,Wt,Wx,Wu];omega,by simp only[Wp,Wt,Wx,Wu];omega⟩
     intro s2
     refine eVF rfl rfl ?_ ?_ ?_
     ·rfl
     ·exact⟨by simp only[Wp,Wt,List.length_drop,Wx,Wu];omega,by simp only[Wp,Wt,List.length_drop,Wx,Wu];omega⟩
     intro s3
     repeat(refine wkT ?_;intros)
     obtain⟨s4,f1,f2⟩:=hend s3
     exact Zt s4 trivial (by simp only[f1];exact sbB) (by rw[f2];exact suB)
    ·repeat(refine wkT ?_;intros)
     refine eVF (k:=11) (enc:=Zi) (s:=FlS.em b0) (hx:=⟨rfl⟩) rfl rfl ?_ ?_ ?_
     ·rfl
     ·exact⟨by simp only[Wt,Wx];omega,by simp only[Wt,Wx];omega⟩
     intro s1
     refine eVF rfl rfl ?_ ?_ ?_
     ·rfl
     ·exact⟨by simp only[Wp,Wt,Wx,Wu];omega,by simp only[Wp,Wt,Wx,Wu];omega⟩
     intro s2
     refine eVF rfl rfl ?_ ?_ ?_
     ·rfl
     ·exact⟨by simp only[Wp,Wt,List.length_drop,Wx,Wu];omega,by simp only[Wp,Wt,List.length_drop,Wx,Wu];omega⟩
     intro s3
     repeat(refine wkT ?_;intros)
     obtain⟨s4,f1,f2⟩:=hend s3
     exact Zt s4 trivial (by simp only[f1];exact sbB) (by rw[f2];exact suB)
   ·repeat(refine wkT ?_;intros)
    rename_i b0
    refine eVF (k:=11) (enc:=Zi) (s:=FlS.em b0) (hx:=⟨rfl⟩) rfl rfl ?_ ?_ ?_
    ·rfl
    ·exact⟨by simp only[Wt,Wx];omega,by simp only[Wt,Wx];omega⟩
    intro s1
    refine eVF rfl rfl ?_ ?_ ?_
    ·rfl
    ·exact⟨by simp only[Wp,Wt,Wx,Wu];omega,by simp only[Wp,Wt,Wx,Wu];omega⟩
    intro s2
    refine eVF rfl rfl ?_ ?_ ?_
    ·rfl
    ·exact⟨by simp only[Wp,Wt,List.length_drop,Wx,Wu];omega,by simp only[Wp,Wt,List.length_drop,Wx,Wu];omega⟩
    intro s3
    repeat(refine wkT ?_;intros)
    obtain⟨s4,f1,f2⟩:=hend s3
    exact Zt s4 trivial (by simp only[f1];exact sbB) (by rw[f2];exact suB)
  ·repeat(refine wkM ?_;intros)
   exact Zy rfl rfl (fun w hw=>⟨s,rfl,hw⟩)
end
section
instance ZI8 (w0:World)(L:List Blk)(v:Value)(l:List Zc)(x:Zc)[h:LstC w0 L v Zc Zi l]:SpecR prog w0 L 56 [v,vTm x] (SlS Zi 12 (putL l x)) (fun s=>vSl s) (fun s=>mS 56 s) (l.length<=1048576/\(∀z∈l,TkOk z)/\TkOk x):=⟨fun hp w hw=>ZoJ v l x w (h.out w hw) hp.1 hp.2.1 hp.2.2⟩
structure RsOk (rs:List Zb)(es:List Za):Prop where
 n:rs.length<=12
 en:es.length<=6
 ee:∀y∈es,ExB y
 rr:∀r∈rs,RepV r
theorem RsOk.tk {rs:List Zb}{es:List Za}{o:Int}(h:RsOk rs es)(w:World):∀z∈tmXL es (ofL rs o),TkOk z:=Zh5 w h.en h.ee fun r hr=>h.rr r (Zgg hr)
theorem RsOk.rk {rs:List Zb}{es:List Za}{o:Int}(h:RsOk rs es)(w:World):∀z∈repL rs es o,TkOk z:=fun z hz=>h.tk w z ((Zgc _).1.mem_iff.1 hz)
theorem Zk1 {rs:List Zb}{es:List Za}{o:Int}:(repL rs es o).length<=rs.length:=by
 unfold repL
 rw[ZjS]
 exact Wi Zd9 Zhe
set_option maxHeartbeats 8000000 in
theorem Zjh (sr0 he:Sl)(rs:List Zb)(es:List Za)(o:Int)(w:World)(hv:ArgS w (vSlc sr0) Zd rs)(hu:ArgS w (vSlc he) Zf es)(hk:RsOk rs es):
  Calls prog 19 [.agg (ZB ⟨sr0,he⟩), .int .i64 o].toArray w (RetM (SlS Zi 12 (repL rs es o)) (fun s=>vSl s) (fun s=>mS 56 s) w):=by
 have hvl:=fun L=>hv.lst L
 have hul:=fun L=>hu.lst L
 have hTk:=hk.tk w (o:=o)
 have hov:∀r∈ofL rs o,RepV r:=fun r hr=>hk.rr r (Zgg hr)
 have hol:=Zhe (rs:=rs) (o:=o)
 have hn:=hk.n
 have hdf:repL rs es o=puts (tmXL es (ofL rs o)):=rfl
 refine Zg Tryz.func19 rfl Tryz.ntmps19 rfl ?_
 repeat(refine wkM ?_;intros)
 try dsimp only
 repeat(first|(refine wkM ?_;intros)|(refine wnM ?_ ?_;(focus(exact hn));intros))
 rename_i b2 s0
 generalize ofL rs o=cs at*
 refine Zm (S:=(m:Nat)×SlS Zi 12 (puts (tmXL es (cs.take m)))) (fun q=>q.1<=cs.length) (fun q=>[(2, .pointer (some ⟨b2,0,none⟩)),(5,vSl q.2),(6,vF s0),(7, .int .i64 (q.1:Nat))]) (fun q=>mS 56 q.2++(mF 35 s0++[⟨b2,ZB ⟨sr0,he⟩,40⟩])) (fun q=>cs.length-q.1) ⟨0,SlS.no⟩ (Wm _) sbB suB (fun q hq=>?_)
 obtain⟨m,q⟩:=q
 simp only at hq⊢
 have hql:(puts (tmXL es (cs.take m))).length<=m:=by
  rw[ZjS]
  have:=Zd9 (ex:=es) (cs:=cs.take m)
  rw[Wt] at this
  omega
 have hqk:∀z∈puts (tmXL es (cs.take m)),TkOk z:=fun z hz=>by
  have h1:=(Zgc _).1.mem_iff.1 hz
  obtain⟨r,h2,h3⟩:=List.mem_filterMap.1 h1
  exact hTk z (List.mem_filterMap.2 ⟨r,List.mem_of_mem_take h2,h3⟩)
 repeat(refine wkM ?_;intros)
 refine Zl rfl (fun h=>?_) (fun h=>?_)
 ·have hlt:m<cs.length:=by have:=Wa h;omega
  have hr:=hov (gi cs (m:Int)) (ZI (by omega))
  have hn1:=(Zkn (ex:=es) hlt).1
  have hpr:es.length<=6/\(∀x∈es,ExB x)/\(0<=(gi cs (m:Int)).Device/\(gi cs (m:Int)).Device<=1073741824)/\(0<=(gi cs (m:Int)).Time/\(gi cs (m:Int)).Time<=1073741824):=⟨hk.en,hk.ee,hr.d,hr.t⟩
  rcases s0.cases 35 with⟨x0, -, -⟩|⟨bs,cb,sp,hc1,x1,x2⟩
  ·rw[x0] at hlt
   cases hlt
  have hz:(corX es (gi cs (m:Int))).2=0->TkOk ⟨(corX es (gi cs (m:Int))).1,gi cs (m:Int)⟩:=fun h0=>⟨Zqw w hk.en hk.ee hr.d hr.t,hr.x,hr.y⟩
  unfold tmF at hn1
  simp only[x1,x2,Wf,Wg]
  repeat(refine wkM ?_;intros)
  (refine Zdi [0,1,2,3,4,5,6,7,8,9] [10] [11,12] ([⟨bs,row Zd cs sp,35⟩,⟨b2,ZB ⟨_,he⟩,40⟩]) (h:=?_);refine wkI ?_)
  (repeat(refine wkH ?_))
  try dsimp only
  (repeat(first|refine wkH ?_|(refine tC rfl rfl ?_ ?_;focus(exact hpr))))
  repeat(refine wkT ?_;intros)
  rename_i b8
  repeat(refine wkM ?_;intros)
  by_cases e0:(corX es (gi cs (m:Int))).2=0
  ·rw[if_pos e0,Option.toList_some] at hn1
   have hnx:puts (tmXL es (cs.take (m+1)))=putL (puts (tmXL es (cs.take m))) ⟨(corX es (gi cs (m:Int))).1,gi cs (m:Int)⟩:=by rw[hn1,ZpL]
   have hpp:(puts (tmXL es (cs.take m))).length<=1048576/\(∀z∈puts (tmXL es (cs.take m)),TkOk z)/\TkOk ⟨(corX es (gi cs (m:Int))).1,gi cs (m:Int)⟩:=⟨by omega,hqk,hz e0⟩
   simp only[Wc e0,Bool.not_true]
   repeat(refine wkM ?_;intros)
   (refine ZX (.v [0,1,2,3,4,5,6] (.e1 7 (.e1 8 (.fin)))) ([⟨b8,Zu (Q (corX es (gi cs (m:Int))).1),54⟩,⟨bs,row Zd cs sp,35⟩]) (h:=?_);refine wkX ?_)
   (repeat(refine wkH ?_))
   repeat(first|(refine wkT ?_;intros)|(refine tC rfl rfl ?_ ?_;focus(exact hpp))|(refine uC rfl rfl ?_ ?_;focus(exact hpp))|(refine eN rfl rfl ?_ ?_;(focus(exact hpp));intro _;(try simp only[Wf,Wg,Wh])))
   rename_i q'
   repeat(refine wkO ?_;intros)
   obtain⟨s3,e1,e2⟩:=SlS.turn 56 hnx.symm q'
   exact Zh ⟨m+1,s3⟩ hlt (by simp only[e1,x1];exact sbB) (by simp only[e2,x2];exact suB) (by show cs.length-(m+1)<cs.length-m;omega)
  ·rw[if_neg e0,Option.toList_none,Wh] at hn1
   simp only[We e0,Bool.not_false]
   repeat(refine wkO ?_;intros)
   obtain⟨s3,e1,e2⟩:=SlS.turn 56 (show puts (tmXL es (cs.take m))=puts (tmXL es (cs.take (m+1))) by rw[hn1]) q
   exact Zh ⟨m+1,s3⟩ hlt (by simp only[e1,x1];exact sbB) (by simp only[e2,x2];exact suB) (by show cs.length-(m+1)<cs.length-m;omega)
 ·have hge:m=cs.length:=by have:=Wb h;omega
  obtain⟨s3,e1,e2⟩:=SlS.turn 56 (show puts (tmXL es (cs.take m))=repL rs es o by rw[hdf,List.take_of_length_le (by omega)]) q
  repeat(refine wkM ?_;intros)
  refine Zy rfl rfl (fun w hw=>⟨s3, ?_, ?_⟩)
  ·show Ending.returned (vSl q)=Ending.returned (vSl s3)
   rw[e1]
  ·show Own _ (mS _ s3) w
   rw[e2]
   exact hw.sub suB
instance Zxw (w0:World)(L:List Blk)(sr0 he:Sl)(rs:List Zb)(es:List Za)(o:Int)[h1:LstC w0 L (vSlc sr0) Zb Zd rs][h2:LstC w0 L (vSlc he) Za Zf es]:SpecR prog w0 L 19 [.agg (ZB ⟨sr0,he⟩), .int .i64 o] (SlS Zi 12 (repL rs es o)) (fun s=>vSl s) (fun s=>mS 56 s) (RsOk rs es):=⟨fun hp w hw=>Zjh sr0 he rs es o w (h1.out w hw) (h2.out w hw) hp⟩
set_option maxHeartbeats 8000000 in
theorem Zos (sr0 he:Sl)(rs:List Zb)(es:List Za)(o:Int)(s:ZR)(w:World)(hv:ArgS w (vSlc sr0) Zd rs)(hu:ArgS w (vSlc he) Zf es)(hk:RsOk rs es)(hs: -1048576<=s.MaxSpeed/\s.MaxSpeed<=1048576):
  Calls prog 20 [.agg (ZB ⟨sr0,he⟩), .int .i64 o, .agg (Zv s)].toArray w (RetM (SlS Zi 12 (kpT s.MaxSpeed (repL rs es o))) (fun s=>vSl s) (fun s=>mS 56 s) w):=by
 have hvl:=fun L=>hv.lst L
 have hul:=fun L=>hu.lst L
 have hn:=hk.n
 have hl:=Zk1 (rs:=rs) (es:=es) (o:=o)
 have hk2:(repL rs es o).length<=4096/\(∀z∈repL rs es o,TkOk z)/\(-1048576<=s.MaxSpeed/\s.MaxSpeed<=1048576):=⟨by omega,hk.rk w,hs⟩
 refine Zg Tryz.func20 rfl Tryz.ntmps20 rfl ?_
 repeat(first|(refine wkM ?_;intros)|(refine wnM ?_ ?_;(focus(first|exact hk|exact hk2));intros))
 rename_i b3 b5 s1 ch
 generalize hT:repL rs es o=T at*
 have hcn:=Zco (cCp s.MaxSpeed T) T.length
 have hcl:=fun k (h:k∈chainL (cCp s.MaxSpeed T) T.length)=>Zff h
 have hkp:kpT s.MaxSpeed T=(chainL (cCp s.MaxSpeed T) T.length).map fun k:Nat=>gi T (k:Int):=rfl
 generalize chainL (cCp s.MaxSpeed T) T.length=C at*
 have hCl:=ZfQ C
 refine Zm (S:=(m:Nat)×SlS Zi 12 ((C.take m).map fun k:Nat=>gi T (k:Int))) (fun q=>q.1<=C.length) (fun q=>[(7,vSl s1),(8,vSl ch),(9,vSl q.2),(10, .int .i64 (q.1:Nat))]) (fun q=>mS 56 q.2++(mS 3 ch++mS 56 s1)) (fun q=>C.length-q.1) ⟨0,SlS.no⟩ (Wm _) sbB suB (fun q hq=>?_)
 obtain⟨m,q⟩:=q
 simp only at hq⊢
 have hml:((C.take m).map fun k:Nat=>gi T (k:Int)).length=m:=by rw[Ws,Wt];omega
 repeat(refine wkM ?_;intros)
 refine Zl rfl (fun h=>?_) (fun h=>?_)
 ·have hlt:m<C.length:=by have:=Wa h;omega
  have hcm:gi (cI C) (m:Int)=((C[m]:Nat):Int):=by
   rw[Zj (by omega)]
   simp only[cI,List.getElem_map]
  have hCm:=hcl C[m] (List.getElem_mem _)
  have hnx:((C.take (m+1)).map fun k:Nat=>gi T (k:Int))=((C.take m).map fun k:Nat=>gi T (k:Int))++[gi T ((C[m]:Nat):Int)]:=by
   rw[Wn hlt,List.map_append]
   rfl
  generalize C[m]=k at*
  rcases s1.cases 56 with⟨x0, -, -⟩|⟨bs,cb,sp,hc1,x1,x2,xne⟩
  ·rw[x0] at hCm
   cases hCm
  rcases ch.cases 3 with⟨y0, -, -⟩|⟨bc,cc,sq,hc2,y1,y2,yne⟩
  ·rw[y0,Wx] at hCl
   omega
  simp only[x1,x2,y1,y2,Wf,Wg]
  repeat(refine wkM ?_;intros)
  simp only[hcm]
  repeat(refine wkM ?_;intros)
  refine sU rfl rfl ?_ ?_ ?_ ?_
  ·rfl
  ·rfl
  ·exact⟨by decide,by omega,by omega⟩
  intro s'
  repeat(refine wkO ?_;intros)
  obtain⟨s3,e1,e2⟩:=SlS.turn 56 hnx.symm s'
  exact Zh ⟨m+1,s3⟩ hlt (by simp only[e1,x1,y1];exact sbB) (by simp only[e2,x2,y2];exact suB) (by show C.length-(m+1)<C.length-m;omega)
 ·have hge:m=C.length:=by have:=Wb h;omega
  subst hge
  repeat(refine wkM ?_;intros)
  obtain⟨s3,e1,e2⟩:=SlS.turn 56 (show((C.take C.length).map fun k:Nat=>gi T (k:Int))=kpT s.MaxSpeed T by rw[List.take_length,hkp]) q
  refine Zy rfl rfl (fun w hw=>⟨s3, ?_, ?_⟩)
  ·show Ending.returned (vSl q)=Ending.returned (vSl s3)
   rw[e1]
  ·show Own _ (mS _ s3) w
   rw[e2]
   exact hw.sub suB
instance ZDr (w0:World)(L:List Blk)(sr0 he:Sl)(rs:List Zb)(es:List Za)(o:Int)(s:ZR)[h1:LstC w0 L (vSlc sr0) Zb Zd rs][h2:LstC w0 L (vSlc he) Za Zf es]:SpecR prog w0 L 20 [.agg (ZB ⟨sr0,he⟩), .int .i64 o, .agg (Zv s)] (SlS Zi 12 (kpT s.MaxSpeed (repL rs es o))) (fun s=>vSl s) (fun s=>mS 56 s) (RsOk rs es/\(-1048576<=s.MaxSpeed/\s.MaxSpeed<=1048576)):=⟨fun hp w hw=>Zos sr0 he rs es o s w (h1.out w hw) (h2.out w hw) hp.1 hp.2⟩
end
end Go.Vt
