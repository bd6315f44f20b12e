/- For any up to 12 units whose ends have up to 20 bytes, and for any decoded moving label (up to 8 stretches), Check returns OK or the first error. Conditions: none. (part 15 of 28.) Conditions: those that each statement names. -/
import Derived.Test.YtcgkgdgpdpihmaaGreatDoorProg
import Derived.Test.YtcgkgdgpdpihmaaGreatDoorKC9
import Derived.Test.YtcgkgdgpdpihmaaGreatDoorKC11
import Derived.Test.YtcgkgdgpdpihmaaGreatDoorKC13
import Derived.Test.YtcgkgdgpdpihmaaGreatDoorKC14
set_option linter.unusedSectionVars false
set_option linter.unusedVariables false
set_option linter.unusedSimpArgs false
set_option maxHeartbeats 2000000
set_option maxRecDepth 100000
namespace Go.Vt
structure GU (T F:Type) where
 a:T
 b:T
 oa:Bool
 ob:Bool
 f:F
class Fv (F T:Type)(V:outParam Type)[LT T] where
 va:F->T->V
 red:F->T->F
 va_red:∀f t,va (red f t) t=va f t
 red_eq:∀f g t,va f t=va g t->red f t=red g t
 agree:∀(f g:F)(a b:T),a<b->(∀t,a<t->t<b->va f t=va g t)->f=g
class Dns (T:Type)[LT T]:Prop where
 out:∀a b:T,a<b->∃c,a<c/\c<b
open Fv (va red)
section
variable {T F V : Type} [LE T] [LT T] [Std.LawfulOrderLT T] [Std.IsLinearOrder T] [Dns T] [Fv F T V]
def GU.mem (u:GU T F)(t:T):Prop:=(u.a<t\/(u.a=t/\u.oa=false))/\(t<u.b\/(t=u.b/\u.ob=false))
def GU.ok (u:GU T F):Prop:=u.a<u.b\/(u.a=u.b/\u.oa=false/\u.ob=false)
def GU.bfr (u w:GU T F):Prop:=u.b<w.a\/(u.b=w.a/\(u.ob=true\/w.oa=true))
theorem dens2 {a b c:T}(h:a<b)(k:a<c):∃t,a<t/\t<b/\t<c:=by
 obtain⟨x,h1,h2⟩:=Dns.out a b h
 obtain⟨y,h3,h4⟩:=Dns.out a c k
 rcases Std.le_total (a:=x) (b:=y) with h5|h5
 ·exact⟨x,h1,h2,by grind⟩
 ·exact⟨y,h3,by grind,h4⟩
theorem agree2 {f g:F}{a b c:T}(h:a<b)(k:a<c)(hv:∀t,a<t->t<b->t<c->va f t=va g t):f=g:=by
 rcases Std.le_total (a:=b) (b:=c) with h5|h5
 ·exact Fv.agree f g a b h fun t h1 h2=>hv t h1 h2 (by grind)
 ·exact Fv.agree f g a c k fun t h1 h2=>hv t h1 (by grind) h2
theorem GU.ok.pt {u:GU T F}(h:u.ok):∃t,u.mem t:=by
 rcases h with h|⟨h1,h2,h3⟩
 ·obtain⟨c,h1,h2⟩:=Dns.out _ _ h
  exact⟨c, .inl h1, .inl h2⟩
 ·exact⟨u.a, .inr ⟨rfl,h2⟩, .inr ⟨h1,h3⟩⟩
theorem GU.bfr.dis {u w:GU T F}(h:u.bfr w){t:T}(h1:u.mem t)(h2:w.mem t):False:=by
 unfold GU.mem GU.bfr at*
 grind
theorem GU.bfr.tr {u v w:GU T F}(hv:v.ok)(h:u.bfr v)(k:v.bfr w):u.bfr w:=by
 unfold GU.ok GU.bfr at*
 grind
def Has (l:List (GU T F))(t:T)(v:V):Prop:=∃u∈l,u.mem t/\va u.f t=v
theorem Zdp {t:T}{v:V}:¬Has ([]:List (GU T F)) t v:=fun⟨u,hu,_⟩=>by cases hu
theorem Zah {u:GU T F}{l:List (GU T F)}{t:T}{v:V}:Has (u::l) t v↔(u.mem t/\va u.f t=v)\/Has l t v:=by
 unfold Has
 simp
theorem Zcy {l m:List (GU T F)}{t:T}{v:V}:Has (l++m) t v↔Has l t v\/Has m t v:=by
 unfold Has
 constructor
 ·rintro⟨u,hu,h⟩
  rcases List.mem_append.1 hu with h1|h1
  ·exact .inl ⟨u,h1,h⟩
  ·exact .inr ⟨u,h1,h⟩
 ·rintro(⟨u,hu,h⟩|⟨u,hu,h⟩)
  ·exact⟨u,List.mem_append_left _ hu,h⟩
  ·exact⟨u,List.mem_append_right _ hu,h⟩
theorem ZcC {u:GU T F}{t:T}{v:V}:Has [u] t v↔(u.mem t/\va u.f t=v):=by
 rw[Zah]
 exact⟨fun h=>h.resolve_right Zdp, .inl⟩
structure Adj (u w:GU T F):Prop where
 bf:u.bfr w
 n1:u.b=w.a->u.ob=false->u.a<u.b->u.f≠w.f
 n2:u.b=w.a->w.oa=false->va u.f w.a≠va w.f w.a
 n3:u.b=w.a->u.a=u.b->va u.f w.a≠va w.f w.a
structure NF (l:List (GU T F)):Prop where
 ok:∀u∈l,u.ok
 rd:∀u∈l,u.a=u.b->u.f=red u.f u.a
 pw:l.Pairwise Adj
theorem NF.nil :NF ([]:List (GU T F)):=⟨(fun _ h=>by cases h),(fun _ h=>by cases h),List.Pairwise.nil⟩
theorem NF.tail {u:GU T F}{l:List (GU T F)}(h:NF (u::l)):NF l:=
 ⟨fun w hw=>h.ok w (.tail _ hw),fun w hw=>h.rd w (.tail _ hw),(List.pairwise_cons.1 h.pw).2⟩
theorem Zib {α:Type}{R:α->α->Prop}:∀{l:List α},l.Pairwise R->∀u∈l,∀w∈l,u=w\/R u w\/R w u
 |[],_,_,h,_,_=>by cases h
 |x::l,hp,u,hu,w,hw=>by
  obtain⟨h1,h2⟩:=List.pairwise_cons.1 hp
  rcases List.mem_cons.1 hu with rfl|hu
  ·rcases List.mem_cons.1 hw with rfl|hw
   ·exact .inl rfl
   ·exact .inr (.inl (h1 w hw))
  ·rcases List.mem_cons.1 hw with h3|hw
   ·exact .inr (.inr (by rw[h3];exact h1 u hu))
   ·exact Zib h2 u hu w hw
theorem NF.fn {l:List (GU T F)}(h:NF l){u:GU T F}(hu:u∈l){t:T}{v:V}(hm:u.mem t)(hv:Has l t v):va u.f t=v:=by
 obtain⟨w,hw,h1,h2⟩:=hv
 rcases Zib h.pw u hu w hw with rfl|h3|h3
 ·exact h2
 ·exact(h3.bf.dis hm h1).elim
 ·exact(h3.bf.dis h1 hm).elim
section
variable {u u' : GU T F} {l l' : List (GU T F)}
theorem ZpJ (h:NF (u::l)){w:GU T F}(hw:w∈u::l):u.a<=w.a:=by
 rcases List.mem_cons.1 hw with rfl|hw
 ·exact Std.le_refl _
 ·have h1:=(List.pairwise_cons.1 h.pw).1 w hw
  have h2:=h.ok u (.head _)
  have h3:=h1.bf
  unfold GU.ok GU.bfr at*
  grind
theorem ZgV (h:NF (u::l)){w:GU T F}(hw:w∈l):u.b<=w.a:=by
 have h3:=((List.pairwise_cons.1 h.pw).1 w hw).bf
 unfold GU.bfr at*
 grind
theorem ZsH (h:NF (u::l))(h':NF (u'::l'))(H:∀t v,Has (u::l) t v->Has (u'::l') t v):¬u.a<u'.a:=fun hlt=>by
 have hok:=h.ok u (.head _)
 obtain⟨t,ht,htl⟩:∃t,u.mem t/\t<u'.a:=by
  rcases hok with h1|⟨h1,h2,h3⟩
  ·obtain⟨t,h2,h3,h4⟩:=dens2 h1 hlt
   exact⟨t,⟨.inl h2, .inl h3⟩,h4⟩
  ·exact⟨u.a,⟨.inr ⟨rfl,h2⟩, .inr ⟨h1,h3⟩⟩,hlt⟩
 obtain⟨w,hw,h1,h2⟩:=H t _ ⟨u, .head _,ht,rfl⟩
 have h3:=ZpJ h' hw
 unfold GU.mem at h1
 grind
theorem Zpr (h:NF (u::l))(h':NF (u'::l'))(H:∀t v,Has (u::l) t v->Has (u'::l') t v)(ha:u.a=u'.a)(ho:u.oa=false):u'.oa=false:=by
 have hok:=h.ok u (.head _)
 have hok':=h'.ok u' (.head _)
 have hm:u.mem u.a:=by unfold GU.mem GU.ok at*;grind
 obtain⟨w,hw,h1,h2⟩:=H u.a _ ⟨u, .head _,hm,rfl⟩
 rcases List.mem_cons.1 hw with rfl|hw
 ·unfold GU.mem at h1;grind
 ·have h3:=ZgV h' hw
  unfold GU.mem GU.ok at*
  grind
theorem nxt (h:NF (u::l))(h':NF (u'::l'))(H:∀t v,Has (u::l) t v↔Has (u'::l') t v)(hle:u'.a<=u.b)(hlt:u.b<u'.b)(hob:u.ob=false):∃w∈l,w.a=u.b/\w.f=u'.f:=by
 have cov:∀t,u.b<t->t<u'.b->∃w∈l,w.mem t/\va w.f t=va u'.f t:=fun t h1 h2=>by
  obtain⟨w,hw,h3,h4⟩:=(H t (va u'.f t)).2 ⟨u', .head _,⟨.inl (by grind), .inl h2⟩,rfl⟩
  rcases List.mem_cons.1 hw with rfl|hw
  ·unfold GU.mem at h3;grind
  ·exact⟨w,hw,h3,h4⟩
 cases l with
 |nil=>
  obtain⟨t,h1,h2⟩:=Dns.out _ _ hlt
  obtain⟨w,hw,_⟩:=cov t h1 h2
  cases hw
 |cons w l=>
  have hge:=ZgV h (.head _)
  have hb:=((List.pairwise_cons.1 h.pw).1 w (.head _)).bf
  have hok:=h.ok w (.tail _ (.head _))
  have hwa:w.a=u.b:=by
   rcases Std.le_total (a:=w.a) (b:=u.b) with h1|h1
   ·grind
   ·rcases Classical.em (w.a=u.b) with h2|h2
    ·exact h2
    ·obtain⟨t,h3,h4,h5⟩:=dens2 hlt (show u.b<w.a by grind)
     obtain⟨x,hx,h6, -⟩:=cov t h3 h4
     have h7:=ZpJ h.tail hx
     unfold GU.mem at h6
     grind
  refine⟨w, .head _,hwa, ?_⟩
  have hlong:w.a<w.b:=by unfold GU.ok GU.bfr at*;grind
  refine agree2 (a:=u.b) (b:=w.b) (c:=u'.b) (by grind) hlt fun t h1 h2 h3=>?_
  have hmw:w.mem t:=⟨.inl (by grind), .inl h2⟩
  have hmu:u'.mem t:=⟨.inl (by grind), .inl h3⟩
  have:=(H t _).1 ⟨w, .tail _ (.head _),hmw,rfl⟩
  exact(h'.fn (.head _) hmu this).symm
theorem ZjF (h:NF (u::l))(h':NF (u'::l'))(H:∀t v,Has (u::l) t v↔Has (u'::l') t v)(ha:u.a=u'.a)(ho:u.oa=u'.oa)(hi:u.a=u.b):¬u'.a<u'.b:=fun hlt=>by
 have hok:=h.ok u (.head _)
 obtain⟨o1,o2⟩:u.oa=false/\u.ob=false:=by unfold GU.ok at hok;grind
 obtain⟨w,hw,h1,h2⟩:=nxt h h' H (by grind) (by grind) o2
 have hadj:=(List.pairwise_cons.1 h.pw).1 w hw
 refine hadj.n3 h1.symm hi ?_
 have hmu:u.mem w.a:=⟨.inr ⟨by grind,o1⟩, .inr ⟨h1,o2⟩⟩
 have hmu':u'.mem w.a:=⟨.inr ⟨by grind,by grind⟩, .inl (by grind)⟩
 have:=h.fn (.head _) hmu ((H w.a _).2 ⟨u', .head _,hmu',rfl⟩)
 rw[this,h2]
theorem Zru (h:NF (u::l))(h':NF (u'::l'))(H:∀t v,Has (u::l) t v↔Has (u'::l') t v)(ha:u.a=u'.a)(hl:u.a<u.b)(hf:u.f=u'.f):¬u.b<u'.b:=fun hlt=>by
 rcases ho:u.ob with _|_
 ·obtain⟨w,hw,h1,h2⟩:=nxt h h' H (by grind) hlt ho
  exact((List.pairwise_cons.1 h.pw).1 w hw).n1 h1.symm ho hl (by rw[hf,h2])
 ·have hmu':u'.mem u.b:=⟨.inl (by grind), .inl hlt⟩
  obtain⟨w,hw,h1,h2⟩:=(H u.b (va u'.f u.b)).2 ⟨u', .head _,hmu',rfl⟩
  rcases List.mem_cons.1 hw with rfl|hw
  ·unfold GU.mem at h1;grind
  ·have h3:=ZgV h hw
   have h4:w.a=u.b/\w.oa=false:=by unfold GU.mem at h1;grind
   refine((List.pairwise_cons.1 h.pw).1 w hw).n2 h4.1.symm h4.2 ?_
   rw[h4.1,h2,hf]
theorem Zpm (h:NF (u::l))(h':NF (u'::l'))(H:∀t v,Has (u::l) t v↔Has (u'::l') t v)(hb:u.b=u'.b)(hl:u.a<u.b)(hl':u'.a<u'.b)(hf:u.f=u'.f)(ho:u.ob=false):u'.ob=false:=by
 rcases ho':u'.ob with _|_
 ·rfl
 ·have hmu:u.mem u.b:=⟨.inl hl, .inr ⟨rfl,ho⟩⟩
  obtain⟨w,hw,h1,h2⟩:=(H u.b (va u.f u.b)).1 ⟨u, .head _,hmu,rfl⟩
  rcases List.mem_cons.1 hw with rfl|hw
  ·unfold GU.mem at h1;grind
  ·have h3:=ZgV h' hw
   have h4:w.a=u'.b/\w.oa=false:=by unfold GU.mem at h1;grind
   refine absurd ?_ (((List.pairwise_cons.1 h'.pw).1 w hw).n2 h4.1.symm h4.2)
   rw[h4.1,<-hb,h2,hf]
theorem ZuP (h:NF (u::l))(h':NF (u'::l'))(H:∀t v,Has (u::l) t v↔Has (u'::l') t v):u=u':=by
 have H':∀t v,Has (u'::l') t v↔Has (u::l) t v:=fun t v=>(H t v).symm
 have ha:u.a=u'.a:=by
  have h1:=ZsH h h' fun t v=>(H t v).1
  have h2:=ZsH h' h fun t v=>(H' t v).1
  grind
 have ho:u.oa=u'.oa:=by
  have h1:=Zpr h h' (fun t v=>(H t v).1) ha
  have h2:=Zpr h' h (fun t v=>(H' t v).1) ha.symm
  cases hq:u.oa <;> cases hq':u'.oa <;> simp_all
 have hok:=h.ok u (.head _)
 have hok':=h'.ok u' (.head _)
 rcases hok with hl|⟨hi,i1,i2⟩
 ·have hl':u'.a<u'.b:=by
   rcases hok' with h1|⟨h1, -, -⟩
   ·exact h1
   ·exact absurd hl (ZjF h' h H' ha.symm ho.symm h1)
  have hf:u.f=u'.f:=by
   refine agree2 (a:=u.a) (b:=u.b) (c:=u'.b) hl (by grind) fun t h1 h2 h3=>?_
   have hm:u.mem t:=⟨.inl h1, .inl h2⟩
   have hm':u'.mem t:=⟨.inl (by grind), .inl h3⟩
   exact h.fn (.head _) hm ((H t _).2 ⟨u', .head _,hm',rfl⟩)
  have hb:u.b=u'.b:=by
   have h1:=Zru h h' H ha hl hf
   have h2:=Zru h' h H' ha.symm hl' hf.symm
   grind
  have hob:u.ob=u'.ob:=by
   have h1:=Zpm h h' H hb hl hl' hf
   have h2:=Zpm h' h H' hb.symm hl' hl hf.symm
   cases hq:u.ob <;> cases hq':u'.ob <;> simp_all
  cases u
  cases u'
  simp_all
 ·have hi':u'.a=u'.b/\u'.oa=false/\u'.ob=false:=by
   rcases hok' with h1|h1
   ·exact absurd h1 (ZjF h h' H ha ho hi)
   ·exact h1
  have hm:u.mem u.a:=⟨.inr ⟨rfl,i1⟩, .inr ⟨hi,i2⟩⟩
  have hm':u'.mem u.a:=⟨.inr ⟨ha.symm,hi'.2.1⟩, .inr ⟨by grind,hi'.2.2⟩⟩
  have hv:=h.fn (.head _) hm ((H u.a _).2 ⟨u', .head _,hm',rfl⟩)
  have hf:u.f=u'.f:=by
   rw[h.rd u (.head _) hi,h'.rd u' (.head _) hi'.1,<-ha]
   exact Fv.red_eq _ _ _ hv
  have hb:u.b=u'.b:=by grind
  cases u
  cases u'
  simp_all
end
theorem NF.pts {u:GU T F}{l:List (GU T F)}(h:NF (u::l)):∃t v,Has (u::l) t v:=by
 obtain⟨t,ht⟩:=(h.ok u (.head _)).pt
 exact⟨t,_,u, .head _,ht,rfl⟩
theorem NF.uniq :∀{l l':List (GU T F)},NF l->NF l'->(∀t v,Has l t v↔Has l' t v)->l=l'
 |[],[],_,_,_=>rfl
 |[],u::l,_,h',H=>by
  obtain⟨t,v,h⟩:=h'.pts
  exact absurd ((H t v).2 h) Zdp
 |u::l,[],h,_,H=>by
  obtain⟨t,v,h⟩:=h.pts
  exact absurd ((H t v).1 h) Zdp
 |u::l,u'::l',h,h',H=>by
  have e:=ZuP h h' H
  subst e
  have no:∀{l:List (GU T F)}(h:NF (u::l)) {t:T} {v:V},u.mem t->¬Has l t v:=fun h t v hm ⟨w,hw,h1,_⟩=>((List.pairwise_cons.1 h.pw).1 w hw).bf.dis hm h1
  rw[NF.uniq h.tail h'.tail fun t v=>?_]
  constructor
  ·intro h1
   rcases Zah.1 ((H t v).1 (Zah.2 (.inr h1))) with h2|h2
   ·exact absurd h1 (no h h2.1)
   ·exact h2
  ·intro h1
   rcases Zah.1 ((H t v).2 (Zah.2 (.inr h1))) with h2|h2
   ·exact absurd h1 (no h' h2.1)
   ·exact h2
def Held (xs:List (GU T F))(t:T):Prop:=∃ys u,xs=ys++[u]/\u.b=t/\u.ob=false
def NoExt (xs:List (GU T F))(x:GU T F):Prop:=∀ys u,xs=ys++[u]->u.b=x.a->u.a≠u.b->u.ob=false->u.f≠x.f
def NoClo (xs:List (GU T F))(x:GU T F):Prop:=∀ys u,xs=ys++[u]->u.b=x.a->u.a≠u.b->va u.f x.a≠va x.f x.a
def PvI (pv:Option (GU T F))(x:GU T F):Prop:=∃q,pv=some q/\q.a=q.b/\q.a=x.a
def NxI (nx:Option (GU T F))(x:GU T F):Prop:=∃n,nx=some n/\n.a=x.a/\va n.f x.a=va x.f x.a
inductive Stp (pv nx:Option (GU T F)):List (GU T F)->GU T F->List (GU T F)->Prop where
 |ext {ys u x}:x.a≠x.b->u.b=x.a->u.a≠u.b->u.ob=false->u.f=x.f->Stp pv nx (ys++[u]) x (ys++[⟨u.a,x.b,u.oa,true,u.f⟩])
 |appO {xs x}:x.a≠x.b->NoExt xs x->PvI pv x->¬Held xs x.a->Stp pv nx xs x (xs++[⟨x.a,x.b,false,x.ob,x.f⟩])
 |appN {xs x}:x.a≠x.b->NoExt xs x->¬(PvI pv x/\¬Held xs x.a)->Stp pv nx xs x (xs++[x])
 |clo {ys u x}:x.a=x.b->u.b=x.a->u.a≠u.b->va u.f x.a=va x.f x.a->Stp pv nx (ys++[u]) x (ys++[⟨u.a,u.b,u.oa,false,u.f⟩])
 |lft {xs x}:x.a=x.b->NoClo xs x->NxI nx x->Stp pv nx xs x xs
 |rdc {xs x}:x.a=x.b->NoClo xs x->¬NxI nx x->Stp pv nx xs x (xs++[⟨x.a,x.b,x.oa,x.ob,red x.f x.a⟩])
inductive Mk :Option (GU T F)->List (GU T F)->List (GU T F)->List (GU T F)->Prop where
 |nil {pv xs}:Mk pv xs [] xs
 |cons {pv xs x xs' rest out}:Stp pv rest.head? xs x xs'->Mk (some x) xs' rest out->Mk pv xs (x::rest) out
def GU.atom (x:GU T F):Prop:=(x.a=x.b/\x.oa=false/\x.ob=false)\/(x.a<x.b/\x.oa=true/\x.ob=true)
structure Inv (pv:Option (GU T F))(xs rem:List (GU T F))(S:T->V->Prop):Prop where
 nf:NF xs
 at_:∀x∈rem,x.atom
 ch:rem.Pairwise GU.bfr
 sep:∀u∈xs,∀x∈rem,u.bfr x
 st:(∃q x rest,pv=some q/\q.a=q.b/\q.oa=false/\q.ob=false/\rem=x::rest/\x.a=q.a/\x.oa=true/\va x.f q.a=va q.f q.a/\(∀u∈xs,u.bfr q)/\NoClo xs q/\∀t v,S t v↔Has xs t v\/(t=q.a/\va q.f t=v)\/Has rem t v)
  \/((∀q,pv=some q->q.a=q.b->Held xs q.a)/\(∀ys u x rest,xs=ys++[u]->u.a=u.b->rem=x::rest->x.a=u.b->va u.f x.a≠va x.f x.a)/\∀t v,S t v↔Has xs t v\/Has rem t v)
theorem NF.snoc {ys:List (GU T F)}{u x:GU T F}(h:NF (ys++[u]))(hx:x.ok)(hr:x.a=x.b->x.f=red x.f x.a)(ha:Adj u x):NF (ys++[u]++[x]):=by
 refine⟨fun w hw=>?_,fun w hw=>?_, ?_⟩
 ·rcases List.mem_append.1 hw with h1|h1
  ·exact h.ok w h1
  ·rw[List.mem_singleton] at h1;subst h1;exact hx
 ·rcases List.mem_append.1 hw with h1|h1
  ·exact h.rd w h1
  ·rw[List.mem_singleton] at h1;subst h1;exact hr
 ·refine List.pairwise_append.2 ⟨h.pw,List.pairwise_singleton _ _,fun y hy w hw=>?_⟩
  rw[List.mem_singleton] at hw
  subst hw
  rcases List.mem_append.1 hy with h1|h1
  ·have hyu:=(List.pairwise_append.1 h.pw).2.2 y h1 u (List.mem_singleton.2 rfl)
   have hu:=h.ok u (by simp)
   have hyo:=h.ok y (by simp[h1])
   have b1:=hyu.bf
   have b2:=ha.bf
   unfold GU.ok GU.bfr at*
   refine⟨?_,fun h2 h3=>?_,fun h2 h3=>?_,fun h2 h3=>?_⟩
   ·unfold GU.bfr;grind
   ·exfalso;grind
   ·exfalso;grind
   ·exfalso;grind
  ·rw[List.mem_singleton] at h1;subst h1;exact ha
theorem NF.one {x:GU T F}(hx:x.ok)(hr:x.a=x.b->x.f=red x.f x.a):NF [x]:=
 ⟨fun w hw=>by rw[List.mem_singleton] at hw;subst hw;exact hx,fun w hw=>by rw[List.mem_singleton] at hw;subst hw;exact hr,List.pairwise_singleton _ _⟩
theorem NF.last {ys:List (GU T F)}{u u':GU T F}(h:NF (ys++[u]))(ha:u'.a=u.a)(ho:u'.oa=u.oa)(hf:u'.f=u.f)(hl:u'.a<u'.b):NF (ys++[u']):=by
 have hp:=List.pairwise_append.1 h.pw
 refine⟨fun w hw=>?_,fun w hw=>?_, ?_⟩
 ·rcases List.mem_append.1 hw with h1|h1
  ·exact h.ok w (List.mem_append_left _ h1)
  ·rw[List.mem_singleton] at h1;subst h1;exact .inl hl
 ·rcases List.mem_append.1 hw with h1|h1
  ·exact h.rd w (List.mem_append_left _ h1)
  ·rw[List.mem_singleton] at h1;subst h1;intro h2;grind
 ·refine List.pairwise_append.2 ⟨hp.1,List.pairwise_singleton _ _,fun y hy w hw=>?_⟩
  rw[List.mem_singleton] at hw
  subst hw
  have h1:=hp.2.2 y hy u (List.mem_singleton.2 rfl)
  have h2:=h1.bf
  refine⟨?_, ?_, ?_, ?_⟩
  ·unfold GU.bfr at*;rw[ha,ho];exact h2
  ·rw[ha,hf];exact h1.n1
  ·rw[ha,ho,hf];exact h1.n2
  ·rw[ha,hf];exact h1.n3
theorem Zba {α:Type}{ys zs:List α}{u w:α}(h:ys++[u]=zs++[w]):ys=zs/\u=w:=by
 have:=List.append_inj' h rfl
 exact⟨this.1,by simpa using this.2⟩
theorem ZaN {α:Type}(xs:List α):xs=[]\/∃ys u,xs=ys++[u]:=by
 rcases List.eq_nil_or_concat xs with h|⟨ys,u,h⟩
 ·exact .inl h
 ·exact .inr ⟨ys,u,by simpa using h⟩
theorem NF.app {xs:List (GU T F)}{x:GU T F}(h:NF xs)(hx:x.ok)(hr:x.a=x.b->x.f=red x.f x.a)(ha:∀ys u,xs=ys++[u]->Adj u x):NF (xs++[x]):=by
 rcases ZaN xs with rfl|⟨ys,u,rfl⟩
 ·exact NF.one hx hr
 ·exact h.snoc hx hr (ha ys u rfl)
theorem Zbc {ys:List (GU T F)}{u:GU T F}{t:T}{v:V}:Has (ys++[u]) t v↔Has ys t v\/(u.mem t/\va u.f t=v):=by rw[Zcy,ZcC]
theorem Inv.step {pv:Option (GU T F)}{xs xs' rest:List (GU T F)}{x:GU T F}{S:T->V->Prop}(h:Inv pv xs (x::rest) S)(hs:Stp pv rest.head? xs x xs'):Inv (some x) xs' rest S:=by
 have hx:=h.at_ x (.head _)
 have hat:∀y∈rest,y.atom:=fun y hy=>h.at_ y (.tail _ hy)
 obtain⟨hxr,hch⟩:=List.pairwise_cons.1 h.ch
 have sx:∀u∈xs,u.bfr x:=fun u hu=>h.sep u hu x (.head _)
 have sr:∀u∈xs,∀y∈rest,u.bfr y:=fun u hu y hy=>h.sep u hu y (.tail _ hy)
 have hst:=h.st
 have hnf:=h.nf
 have inst:x.a=x.b->x.oa=false/\x.ob=false:=fun e=>by unfold GU.atom at hx;grind
 have long:x.a≠x.b->x.a<x.b/\x.oa=true/\x.ob=true:=fun e=>by unfold GU.atom at hx;grind
 -- a part that is a single instant is not awaited
 have noP:x.a=x.b->(∀ys u y r,xs=ys++[u]->u.a=u.b->x::rest=y::r->y.a=u.b->va u.f y.a≠va y.f y.a)/\∀t v,S t v↔Has xs t v\/Has (x::rest) t v:=fun e=>by
  rcases hst with⟨q,y,r, -, -, -, -,h1, -,h2, -⟩|⟨-,h2,h3⟩
  ·injection h1 with h1 _
   subst h1
   have:=(inst e).1
   rw[h2] at this
   cases this
  ·exact⟨h2,h3⟩
 cases hs with
 | @ext ys u _ hl hb hu ho hf=>
  obtain⟨hl1,hl2,hl3⟩:=long hl
  have hub:=sx u (by simp)
  have huo:=hnf.ok u (by simp)
  have hua:u.a<u.b:=by unfold GU.ok at huo;grind
  have hS:∀t v,S t v↔Has (ys++[u]) t v\/Has (x::rest) t v:=by
   rcases hst with⟨q,y,r, -, -,q1, -,h1,h2, -, -,h3, -⟩|⟨-, -,h3⟩
   ·injection h1 with h1 _
    subst h1
    have h4:=h3 u (by simp)
    unfold GU.bfr at h4
    grind
   ·exact h3
  refine⟨hnf.last (u:=u) rfl rfl rfl (by show u.a<x.b;grind),hat,hch,fun w hw y hy=>?_, .inr ⟨fun q hq e=>?_,fun zs w y r hz e _ _=>?_,fun t v=>?_⟩⟩
  ·rcases List.mem_append.1 hw with h1|h1
   ·exact sr w (List.mem_append_left _ h1) y hy
   ·rw[List.mem_singleton] at h1
    subst h1
    have:=hxr y hy
    unfold GU.bfr at*
    grind
  ·injection hq with hq
   subst hq
   exact absurd e hl
  ·obtain⟨-,rfl⟩:=Zba hz
   simp only at e
   grind
  ·rw[hS,Zbc,Zbc,Zah]
   have hm:(⟨u.a,x.b,u.oa,true,u.f⟩:GU T F).mem t↔u.mem t\/x.mem t:=by
    unfold GU.mem
    simp only[Bool.true_eq_false,and_false,or_false]
    grind
   rw[hm]
   simp only[hf]
   grind
 | @appO _ _ hl hne hp hh=>
  obtain⟨hl1,hl2,hl3⟩:=long hl
  rcases hst with⟨q,y,r,hpv,q0,q1,q2,h1,h2, -,h4,h5,h6,hS⟩|⟨hq, -, -⟩
  ·injection h1 with h1 h1'
   subst h1
   subst h1'
   refine⟨hnf.app (.inl hl1) (fun e=>absurd e hl) (fun ys u hxs=>?_),hat,hch,fun w hw y hy=>?_, .inr ⟨fun q hq e=>?_,fun zs w y r hz e _ _=>?_,fun t v=>?_⟩⟩
   ·subst hxs
    have hub:=h5 u (by simp)
    have huo:=hnf.ok u (by simp)
    have h7:=h6 ys u rfl
    unfold GU.bfr GU.ok at*
    refine⟨?_,fun e1 e2=>?_,fun e1 e2=>?_,fun e1 e2=>?_⟩
    ·unfold GU.bfr;grind
    ·exfalso;simp only at*;grind
    ·simp only at*;rw[h2,h4];refine h7 ?_ ?_ <;> grind
    ·exfalso;simp only at*;grind
   ·rcases List.mem_append.1 hw with h1|h1
    ·exact sr w h1 y hy
    ·rw[List.mem_singleton] at h1
     subst h1
     have:=hxr y hy
     unfold GU.bfr at*
     exact this
   ·injection hq with hq
    subst hq
    exact absurd e hl
   ·obtain⟨-,rfl⟩:=Zba hz
    exact absurd e hl
   ·rw[hS,Zbc,Zah]
    have hm:(⟨x.a,x.b,false,x.ob,x.f⟩:GU T F).mem t↔t=q.a\/x.mem t:=by
     unfold GU.mem
     simp only[and_true]
     grind
    rw[hm]
    have hv:t=q.a->va q.f t=va x.f t:=fun e=>by rw[e,h4]
    simp only
    grind
  ·obtain⟨q,e1,e2,e3⟩:=hp
   exact absurd (e3▸hq q e1 e2) hh
 | @appN _ _ hl hne hp=>
  obtain⟨hl1,hl2,hl3⟩:=long hl
  rcases hst with⟨q,y,r,hpv,q0,q1,q2,h1,h2, -,h4,h5,h6,hS⟩|⟨-,hI,hS⟩
  ·injection h1 with h1 h1'
   subst h1
   refine absurd ⟨⟨q,hpv,q0,h2.symm⟩, ?_⟩ hp
   rintro⟨ys,u,rfl,e1,e2⟩
   have:=h5 u (by simp)
   unfold GU.bfr at this
   grind
  ·refine⟨hnf.app (.inl hl1) (fun e=>absurd e hl) (fun ys u hxs=>?_),hat,hch,fun w hw y hy=>?_, .inr ⟨fun q hq e=>?_,fun zs w y r hz e _ _=>?_,fun t v=>?_⟩⟩
   ·subst hxs
    have hub:=sx u (by simp)
    refine⟨hub,fun e1 e2 e3=>hne ys u rfl e1 (by grind) e2,fun e1 e2=>by grind,fun e1 e2=>hI ys u x rest rfl e2 rfl e1.symm⟩
   ·rcases List.mem_append.1 hw with h1|h1
    ·exact sr w h1 y hy
    ·rw[List.mem_singleton] at h1
     subst h1
     exact hxr y hy
   ·injection hq with hq
    subst hq
    exact absurd e hl
   ·obtain⟨-,rfl⟩:=Zba hz
    exact absurd e hl
   ·rw[hS,Zbc,Zah]
    grind
 | @clo ys u _ hi hb hu hv=>
  obtain⟨i1,i2⟩:=inst hi
  obtain⟨-,hS⟩:=noP hi
  have hub:=sx u (by simp)
  have huo:=hnf.ok u (by simp)
  have hua:u.a<u.b:=by unfold GU.ok at huo;grind
  refine⟨hnf.last (u:=u) rfl rfl rfl hua,hat,hch,fun w hw y hy=>?_, .inr ⟨fun q hq e=>?_,fun zs w y r hz e _ _=>?_,fun t v=>?_⟩⟩
  ·rcases List.mem_append.1 hw with h1|h1
   ·exact sr w (List.mem_append_left _ h1) y hy
   ·rw[List.mem_singleton] at h1
    subst h1
    have:=hxr y hy
    unfold GU.bfr at*
    grind
  ·injection hq with hq
   subst hq
   exact⟨ys,_,rfl,hb,rfl⟩
  ·obtain⟨-,rfl⟩:=Zba hz
   exact absurd e hu
  ·rw[hS,Zbc,Zbc,Zah]
   have hm:(⟨u.a,u.b,u.oa,false,u.f⟩:GU T F).mem t↔u.mem t\/t=x.a:=by
    unfold GU.mem GU.bfr at*
    simp only[and_true]
    grind
   have hmx:x.mem t↔t=x.a:=by
    unfold GU.mem
    grind
   have hvt:t=x.a->va u.f t=va x.f t:=fun e=>by rw[e,hv]
   rw[hm,hmx]
   simp only
   grind
 | @lft _ _ hi hc hn=>
  obtain⟨i1,i2⟩:=inst hi
  obtain⟨-,hS⟩:=noP hi
  obtain⟨n,e1,e2,e3⟩:=hn
  cases rest with
  |nil=>cases e1
  |cons m r=>
   simp only[List.head?_cons,Option.some.injEq] at e1
   subst e1
   have hxm:=hxr m (.head _)
   refine⟨hnf,hat,hch,sr, .inl ⟨x,m,r,rfl,hi,i1,i2,rfl,e2, ?_,e3,sx,hc,fun t v=>?_⟩⟩
   ·unfold GU.bfr at hxm;grind
   ·rw[hS,Zah (u:=x)]
    have hmx:x.mem t↔t=x.a:=by
     unfold GU.mem
     grind
    rw[hmx]
 | @rdc _ _ hi hc hn=>
  obtain⟨i1,i2⟩:=inst hi
  obtain⟨-,hS⟩:=noP hi
  refine⟨hnf.app (.inr ⟨hi,i1,i2⟩) (fun _=>(Fv.red_eq _ _ _ (Fv.va_red _ _)).symm) (fun ys u hxs=>?_),hat,hch,fun w hw y hy=>?_, .inr ⟨fun q hq e=>?_,fun zs w y r hz e hr hy=>?_,fun t v=>?_⟩⟩
  ·subst hxs
   have hub:=sx u (by simp)
   have huo:=hnf.ok u (by simp)
   have h7:=hc ys u rfl
   refine⟨hub,fun e1 e2=>?_,fun e1 e2=>?_,fun e1 e2=>?_⟩
   ·unfold GU.bfr at hub;simp only at*;grind
   ·simp only[Fv.va_red] at*
    refine h7 e1 ?_
    unfold GU.bfr GU.ok at*
    grind
   ·unfold GU.bfr GU.ok at*;simp only at*;grind
  ·rcases List.mem_append.1 hw with h1|h1
   ·exact sr w h1 y hy
   ·rw[List.mem_singleton] at h1
    subst h1
    have:=hxr y hy
    unfold GU.bfr at*
    exact this
  ·injection hq with hq
   subst hq
   exact⟨xs,_,rfl,hi.symm,i2⟩
  ·obtain⟨-,rfl⟩:=Zba hz
   subst hr
   simp only at e hy⊢
   rw[hy,<-hi,Fv.va_red]
   intro e4
   exact hn ⟨y,rfl,by rw[hy,hi],e4.symm⟩
  ·rw[hS,Zbc,Zah]
   have hmx:x.mem t↔t=x.a:=by
    unfold GU.mem
    grind
   have hmy:(⟨x.a,x.b,x.oa,x.ob,red x.f x.a⟩:GU T F).mem t↔t=x.a:=by
    unfold GU.mem
    simp only
    grind
   have hvt:t=x.a->va (red x.f x.a) t=va x.f t:=fun e=>by rw[e,Fv.va_red]
   rw[hmx,hmy]
   simp only
   grind
theorem Mk.nf {pv:Option (GU T F)}{xs rem out:List (GU T F)}{S:T->V->Prop}(h:Mk pv xs rem out):Inv pv xs rem S->NF out/\∀t v,Has out t v↔S t v:=by
 induction h with
 |nil=>
  intro hi
  refine⟨hi.nf,fun t v=>?_⟩
  rcases hi.st with⟨q,x,r, -, -, -, -,h1, -⟩|⟨-, -,h3⟩
  ·cases h1
  ·rw[h3]
   exact⟨.inl,fun h=>h.resolve_right Zdp⟩
 |cons hs _ ih=>exact fun hi=>ih (hi.step hs)
theorem Inv.start {al:List (GU T F)}(ha:∀x∈al,x.atom)(hc:al.Pairwise GU.bfr):Inv none [] al (Has al):=
 ⟨NF.nil,ha,hc,(fun u hu=>by cases hu), .inr ⟨(fun q h=>by cases h),(fun ys u x r h=>by simp at h),fun t v=>⟨.inr,fun h=>h.resolve_left Zdp⟩⟩⟩
variable [DecidableEq T]
def GU.parts (u:GU T F):List (GU T F):=(if u.oa=true then [] else [⟨u.a,u.a,false,false,u.f⟩])++(if u.a=u.b then [] else⟨u.a,u.b,true,true,u.f⟩::if u.ob=true then [] else [⟨u.b,u.b,false,false,u.f⟩])
theorem Zc0 {u x:GU T F}(h:x∈u.parts):(x=⟨u.a,u.a,false,false,u.f⟩/\u.oa=false)\/(x=⟨u.a,u.b,true,true,u.f⟩/\u.a≠u.b)\/(x=⟨u.b,u.b,false,false,u.f⟩/\u.a≠u.b/\u.ob=false):=by
 unfold GU.parts at h
 rcases List.mem_append.1 h with h1|h1
 ·split at h1
  ·cases h1
  ·rename_i ho
   rw[List.mem_singleton] at h1
   exact .inl ⟨h1,by simpa using ho⟩
 ·split at h1
  ·cases h1
  ·rename_i hi
   rcases List.mem_cons.1 h1 with h2|h2
   ·exact .inr (.inl ⟨h2,hi⟩)
   ·split at h2
    ·cases h2
    ·rename_i ho
     rw[List.mem_singleton] at h2
     exact .inr (.inr ⟨h2,hi,by simpa using ho⟩)
theorem ZkD {u x:GU T F}(hu:u.ok)(h:x∈u.parts):x.atom:=by
 unfold GU.atom GU.ok at*
 rcases Zc0 h with⟨rfl,h1⟩|⟨rfl,h1⟩|⟨rfl,h1,h2⟩
 ·exact .inl ⟨rfl,rfl,rfl⟩
 ·exact .inr ⟨by simp only;grind,rfl,rfl⟩
 ·exact .inl ⟨rfl,rfl,rfl⟩
theorem Zl9 {u w x y:GU T F}(hu:u.ok)(hw:w.ok)(h:u.bfr w)(hx:x∈u.parts)(hy:y∈w.parts):x.bfr y:=by
 unfold GU.bfr GU.ok at*
 rcases Zc0 hx with⟨rfl,h1⟩|⟨rfl,h1⟩|⟨rfl,h1,h2⟩ <;> rcases Zc0 hy with⟨rfl,h3⟩|⟨rfl,h3⟩|⟨rfl,h3,h4⟩ <;> simp only <;> grind
theorem ZnT {u:GU T F}(hu:u.ok):u.parts.Pairwise GU.bfr:=by
 unfold GU.parts
 refine List.pairwise_append.2 ⟨?_, ?_,fun x hx y hy=>?_⟩
 ·split <;> simp
 ·split
  ·simp
  ·refine List.pairwise_cons.2 ⟨fun y hy=>?_, ?_⟩
   ·split at hy
    ·cases hy
    ·rw[List.mem_singleton] at hy
     subst hy
     exact .inr ⟨rfl, .inl rfl⟩
   ·split <;> simp
 ·split at hx
  ·cases hx
  ·rename_i ho
   rw[List.mem_singleton] at hx
   subst hx
   split at hy
   ·cases hy
   ·rename_i hi
    unfold GU.ok at hu
    rcases List.mem_cons.1 hy with h2|h2
    ·subst h2
     exact .inr ⟨rfl, .inr rfl⟩
    ·split at h2
     ·cases h2
     ·rw[List.mem_singleton] at h2
      subst h2
      exact .inl (by simp only;grind)
theorem Zm3 {u:GU T F}(hu:u.ok){t:T}{v:V}:Has u.parts t v↔u.mem t/\va u.f t=v:=by
 constructor
 ·rintro⟨x,hx,h1,h2⟩
  unfold GU.mem GU.ok at*
  rcases Zc0 hx with⟨rfl,h3⟩|⟨rfl,h3⟩|⟨rfl,h3,h4⟩ <;> simp only at h1 h2 <;> refine⟨?_,h2⟩ <;> grind
 ·rintro⟨h1,h2⟩
  unfold GU.parts
  rw[Zcy]
  by_cases ha:u.a=t
  ·have hoa:u.oa=false:=by unfold GU.mem at h1;grind
   refine .inl ?_
   rw[hoa,if_neg (by decide),ZcC]
   exact⟨⟨.inr ⟨ha,rfl⟩, .inr ⟨ha.symm,rfl⟩⟩,h2⟩
  ·refine .inr ?_
   have hne:u.a≠u.b:=by unfold GU.mem GU.ok at*;grind
   rw[if_neg hne,Zah]
   by_cases hb:t=u.b
   ·have hob:u.ob=false:=by unfold GU.mem at h1;grind
    refine .inr ?_
    rw[hob,if_neg (by decide),ZcC]
    exact⟨⟨.inr ⟨hb.symm,rfl⟩, .inr ⟨hb,rfl⟩⟩,h2⟩
   ·refine .inl ⟨?_,h2⟩
    unfold GU.mem at*
    simp only
    grind
def partsL (us:List (GU T F)):List (GU T F):=us.flatMap GU.parts
theorem ZeJ (u:GU T F)(us:List (GU T F)):partsL (u::us)=u.parts++partsL us:=by simp[partsL]
theorem Znf {us:List (GU T F)}(h:∀u∈us,u.ok):∀x∈partsL us,x.atom:=fun x hx=>by
 obtain⟨u,hu,h1⟩:=List.mem_flatMap.1 hx
 exact ZkD (h u hu) h1
theorem Zgx :∀{us:List (GU T F)},(∀u∈us,u.ok)->us.Pairwise GU.bfr->(partsL us).Pairwise GU.bfr
 |[],_,_=>by simp[partsL]
 |u::us,h,hp=>by
  obtain⟨h1,h2⟩:=List.pairwise_cons.1 hp
  rw[ZeJ]
  refine List.pairwise_append.2 ⟨ZnT (h u (.head _)),Zgx (fun w hw=>h w (.tail _ hw)) h2,fun x hx y hy=>?_⟩
  obtain⟨w,hw,hy⟩:=List.mem_flatMap.1 hy
  exact Zl9 (h u (.head _)) (h w (.tail _ hw)) (h1 w hw) hx hy
theorem ZfM :∀{us:List (GU T F)},(∀u∈us,u.ok)->∀{t:T} {v:V},Has (partsL us) t v↔Has us t v
 |[],_,t,v=>by simp[partsL]
 |u::us,h,t,v=>by rw[ZeJ,Zcy,Zm3 (h u (.head _)),Zah,ZfM fun w hw=>h w (.tail _ hw)]
theorem ZdB :∀{l:List (GU T F)},(∀u∈l,u.ok)->(∀i (h:i+1<l.length),(l[i]).bfr l[i+1])->l.Pairwise GU.bfr
 |[],_,_=> .nil
 |[u],_,_=>List.pairwise_singleton _ _
 |u::w::l,hok,h=>by
  have h1:u.bfr w:=h 0 (by simp)
  have h2:(w::l).Pairwise GU.bfr:=ZdB (fun x hx=>hok x (.tail _ hx)) fun i hi=>h (i+1) (by simpa using hi)
  refine List.pairwise_cons.2 ⟨fun y hy=>?_,h2⟩
  rcases List.mem_cons.1 hy with rfl|hy
  ·exact h1
  ·exact h1.tr (hok w (.tail _ (.head _))) ((List.pairwise_cons.1 h2).1 y hy)
def Dis (u w:GU T F):Prop:=∀t,¬(u.mem t/\w.mem t)
theorem Dis.symm {u w:GU T F}(h:Dis u w):Dis w u:=fun t ⟨h1,h2⟩=>h t ⟨h2,h1⟩
theorem GU.bfr.Dis {u w:GU T F}(h:u.bfr w):Go.Vt.Dis u w:=fun _ ⟨h1,h2⟩=>h.dis h1 h2
theorem ZkI {u w:GU T F}(hu:u.ok)(hw:w.ok)(hle:u.a<w.a\/(u.a=w.a/\(u.oa=true->w.oa=true)))(h:Dis u w):u.bfr w:=by
 rcases Classical.em (u.bfr w) with h0|h0
 ·exact h0
 ·exfalso
  rcases Classical.em (w.a<u.b) with h1|h1
  ·rcases hw with h2|⟨h2,h3,h4⟩
   ·obtain⟨t,h3,h4,h5⟩:=dens2 h1 h2
    refine h t ⟨⟨.inl (by grind), .inl h4⟩,⟨.inl h3, .inl h5⟩⟩
   ·refine h w.a ⟨⟨?_, .inl h1⟩,⟨.inr ⟨rfl,h3⟩, .inr ⟨h2,h4⟩⟩⟩
    rcases hle with h5|⟨h5,h6⟩
    ·exact .inl h5
    ·refine .inr ⟨h5, ?_⟩
     rcases ho:u.oa with _|_
     ·rfl
     ·rw[h6 ho] at h3;cases h3
  ·unfold GU.bfr at h0
   have h2:u.b=w.a:=by unfold GU.ok at*;grind
   have h3:u.ob=false/\w.oa=false:=by grind
   refine h w.a ⟨⟨?_, .inr ⟨h2.symm,h3.1⟩⟩,⟨.inr ⟨rfl,h3.2⟩, ?_⟩⟩
   ·unfold GU.ok at hu;grind
   ·unfold GU.ok at hw;grind
theorem Zhj {l m:List (GU T F)}(h:l.Perm m):l.Pairwise Dis↔m.Pairwise Dis:=h.pairwise_iff fun h=>h.symm
theorem ZnN {l m:List (GU T F)}(h:l.Perm m){t:T}{v:V}:Has l t v↔Has m t v:=by
 unfold Has
 exact⟨fun⟨u,hu,k⟩=>⟨u,h.mem_iff.1 hu,k⟩,fun⟨u,hu,k⟩=>⟨u,h.mem_iff.2 hu,k⟩⟩
end
end Go.Vt
namespace Go.Vt
def Ri :Type:={x:RV // x.ok}
def Ri.of (x:RV)(h:x.ok):Ri:=⟨x,h⟩
instance : DecidableEq Ri:=fun a b=>decidable_of_iff (a.1=b.1) Subtype.ext_iff.symm
instance : LT Ri:=⟨fun x y=>x.1.lt y.1⟩
instance : LE Ri:=⟨fun x y=>¬y.1.lt x.1⟩
theorem Ri.lt_def {x y:Ri}:x<y↔x.1.lt y.1:=Iff.rfl
instance : Std.LawfulOrderLT Ri:=⟨fun x y=>⟨fun h=>⟨fun k=>RV.lt_irr (RV.lt_tr x.2 y.2 h k),fun k=>k h⟩,fun h=>Classical.not_not.1 h.2⟩⟩
instance : Std.IsLinearOrder Ri where
 le_refl x:=fun h=>RV.lt_irr h
 le_trans x y z h k:=fun g=>by
  rcases RV.tri x.2 y.2 with h1|h1|h1
  ·exact k (RV.lt_tr z.2 x.2 g h1)
  ·rw[h1] at g;exact k g
  ·exact h h1
 le_antisymm x y h k:=by
  rcases RV.tri x.2 y.2 with h1|h1|h1
  ·exact(k h1).elim
  ·exact Subtype.ext h1
  ·exact(h h1).elim
 le_total x y:=by
  rcases RV.tri x.2 y.2 with h1|h1|h1
  ·exact .inl fun h=>RV.lt_irr (RV.lt_tr x.2 y.2 h1 h)
  ·exact .inl fun h=>by rw[h1] at h;exact RV.lt_irr h
  ·exact .inr fun h=>RV.lt_irr (RV.lt_tr y.2 x.2 h1 h)
theorem RV.ok_rat (q:Rat):RV.ok ⟨q,0,false⟩:=⟨.inl rfl,fun _=>rfl⟩
theorem RV.rat_lt (q:Rat){y:RV}(hy:y.ok)(h:RV.ql q y):RV.lt ⟨q,0,false⟩ y:=by
 unfold RV.ql at h
 obtain⟨e,e0,he⟩:=Zd2 hy.k h
 refine⟨q+e, ?_, ?_⟩
 ·unfold RV.lq
  exact .inl ⟨show 0<q+e-q by grind,by show _*_*(0:Rat)<(q+e-q)*(q+e-q);rw[show q+e-q=e by grind];have:=Rat.mul_pos e0 e0;grind⟩
 ·unfold RV.ql
  rwa [show y.p-(q+e)=y.p-q-e by grind]
theorem RV.lt_rat (q:Rat){x:RV}(hx:x.ok)(h:x.lq q):RV.lt x ⟨q,0,false⟩:=by
 unfold RV.lq at h
 obtain⟨e,e0,he⟩:=Zd2 hx.k h
 refine⟨q-e, ?_, ?_⟩
 ·unfold RV.lq
  rwa [show q-e-x.p=q-x.p-e by grind]
 ·unfold RV.ql
  exact .inl ⟨show 0<q-(q-e) by grind,by show _*_*(0:Rat)<(q-(q-e))*(q-(q-e));rw[show q-(q-e)=e by grind];have:=Rat.mul_pos e0 e0;grind⟩
instance : Dns Ri:=⟨fun a b ⟨q,h1,h2⟩=>⟨⟨⟨q,0,false⟩,RV.ok_rat q⟩,RV.lt_rat q a.2 h1,RV.rat_lt q b.2 h2⟩⟩
end Go.Vt
namespace Go.Vt
open Go.RowKit Go.Proofs
open Go.Proofs.Tryz (prog)
section
abbrev Rl :=Zi
def rvR (x:Rl):RV:=⟨x.P,x.R,x.Neg⟩
structure RlB (k:Nat)(x:Rl):Prop where
 o:(rvR x).ok
 p:M x.P<=k
 r:M x.R<=k
abbrev KR :Nat:=1073741824
abbrev vIv (I:Za):Value:= .agg (Zh (Zf I))
noncomputable def ri (x:Rl):Ri:=open Classical in if h:(rvR x).ok then Ri.of (rvR x) h else Ri.of ⟨0,0,false⟩ (RV.ok_rat 0)
theorem Zcc {x:Rl}(h:(rvR x).ok):(ri x).1=rvR x:=by unfold ri;rw[dif_pos h];rfl
theorem ZcN {x y:Rl}(hx:(rvR x).ok)(hy:(rvR y).ok):ri x=ri y↔x=y:=by
 refine⟨fun h=>?_,fun h=>by rw[h]⟩
 have h1:rvR x=rvR y:=by rw[<-Zcc hx,<-Zcc hy,h]
 obtain⟨a,b,c⟩:=x
 obtain⟨a',b',c'⟩:=y
 unfold rvR at h1
 simp only[RV.mk.injEq] at h1
 obtain⟨e1,e2,e3⟩:=h1
 subst e1
 subst e2
 subst e3
 rfl
noncomputable def cl (x y:Rl):Int:=open Classical in if ri x<ri y then-1 else if ri y<ri x then 1 else 0
theorem Zal {x y:Rl}:cl x y<0↔ri x<ri y:=by unfold cl;grind
theorem Zkx {x y:Rl}:0<cl x y↔ri y<ri x:=by unfold cl;grind
theorem Zao {x y:Rl}:cl x y=0↔ri x=ri y:=by unfold cl;grind
theorem Zlc (x y:Rl): -1<=cl x y/\cl x y<=1:=by
 unfold cl
 split
 ·decide
 ·split <;> decide
theorem ZpN {x y:Rl}(hx:(rvR x).ok)(hy:(rvR y).ok):cl x y=cR (rvR x) (rvR y):=by
 rcases Zg3 (rvR x) (rvR y) with h|h|h
 ·have h1:ri y<ri x:=by rw[Ri.lt_def,Zcc hx,Zcc hy];exact(ZdX hx hy).1 h
  have:=Zkx.2 h1
  have:=Zlc x y
  omega
 ·have h1:ri x=ri y:=Subtype.ext (by rw[Zcc hx,Zcc hy];exact(Zng hx hy).1 h)
  rw[h,Zao.2 h1]
 ·have h1:ri x<ri y:=by rw[Ri.lt_def,Zcc hx,Zcc hy];exact(ZgD hx hy).1 h
  have:=Zal.2 h1
  have:=Zlc x y
  omega
theorem nsg (a:Rat):(0<a/\a.num.sign=1)\/(a=0/\a.num.sign=0)\/(a<0/\a.num.sign= -1):=by
 rcases Int.lt_trichotomy a.num 0 with h|h|h
 ·refine .inr (.inr ⟨?_,Int.sign_eq_neg_one_of_neg h⟩)
  by_cases h0:a<0
  ·exact h0
  ·have:=Rat.num_nonneg.2 (show 0<=a by grind)
   omega
 ·exact .inr (.inl ⟨Rat.num_eq_zero.1 h,by rw[h];rfl⟩)
 ·refine .inl ⟨?_,Int.sign_eq_one_of_pos h⟩
  have h1:a≠0:=fun h0=>by rw[h0] at h;exact absurd h (by decide)
  have:=Rat.num_nonneg.1 (show 0<=a.num by omega)
  grind
theorem ZbA (a:Rat): -1<=a.num.sign/\a.num.sign<=1:=by
 rcases nsg a with h|h|h <;> omega
theorem Zli (a b:Rat): -1<=cq a b/\cq a b<=1:=by
 unfold cq
 split
 ·decide
 ·split <;> decide
theorem Zbp {m n:Int}(h: -1<=m/\m<=1)(k: -1<=n/\n<=1): -1<=m*n/\m*n<=1:=by
 obtain⟨h1,h2⟩:=h
 rcases(by omega:m= -1\/m=0\/m=1) with h|h|h <;> subst h <;> omega
theorem Zlv {a b r:Rat}(hr:Rk r):sg1 a b r=(if b.num.sign*r.num.sign=0\/a.num.sign=b.num.sign*r.num.sign then a.num.sign else if a.num.sign=0 then b.num.sign*r.num.sign else a.num.sign*cq (a*a) (b*b*r)):=by
 have hr0:=hr.nn
 have hsq:b≠0->a*a=b*b*r->r=0:=fun hb e=>(hr.sq e hb).1
 have haa:=ZaD a
 have hbr:=Rat.mul_nonneg (ZaD b) hr0
 have ha:a≠0->0<a*a:=fun h=>by
  rcases(by grind:0<a\/0< -a) with h1|h1
  ·exact Rat.mul_pos h1 h1
  ·have:=Rat.mul_pos h1 h1;grind
 have hb:b≠0->r≠0->0<b*b*r:=fun h h2=>by
  have h3:0<b*b:=by
   rcases(by grind:0<b\/0< -b) with h1|h1
   ·exact Rat.mul_pos h1 h1
   ·have:=Rat.mul_pos h1 h1;grind
  exact Rat.mul_pos h3 (by grind)
 have hb0:b=0->b*b*r=0:=fun h=>by subst h;grind
 have hr1:r=0->b*b*r=0:=fun h=>by subst h;grind
 have ha0:a=0->a*a=0:=fun h=>by subst h;grind
 unfold sg1 cq
 generalize b*b*r=y at*
 generalize a*a=x at*
 rcases nsg a with⟨h1,h2⟩|⟨h1,h2⟩|⟨h1,h2⟩ <;> rcases nsg b with⟨k1,k2⟩|⟨k1,k2⟩|⟨k1,k2⟩ <;> rcases nsg r with⟨l1,l2⟩|⟨l1,l2⟩|⟨l1,l2⟩ <;> simp only[h2,k2,l2] <;> grind
instance Zu4 (x:Rl):SpecC prog 129 [vR x] (vQ (sgn x.Neg)) True:=⟨fun _ w=>by
 have e:sgn x.Neg=(if x.Neg then((-1:Int):Rat) else((1:Int):Rat)):=by unfold sgn;split <;> rfl
 rw[e]
 refine Zb Tryz.func129 rfl Tryz.ntmps129 rfl ?_
 obtain⟨p,r,b⟩:=x
 cases b
 ·repeat(first|(refine wkB ?_;intros)|(refine wnM ?_ ?_;(focus(exact⟨by decide,by decide⟩));intros))
  exact rtC rfl rfl
 ·repeat(first|(refine wkB ?_;intros)|(refine wnM ?_ ?_;(focus(exact⟨by decide,by decide⟩));intros))
  exact rtC rfl rfl⟩
instance ZyR (a b r:Rat):SpecC prog 131 [vQ a,vQ b,vQ r] (.int .i64 (sg1 a b r)) (Rk r/\M a<=68719476736/\M b<=68719476736/\M r<=68719476736):=⟨fun hp w=>by
 obtain⟨hr,ha,hb,hrm⟩:=hp
 have hv:=Zlv (a:=a) (b:=b) hr
 have hA:MB a 68719476736:=⟨ha⟩
 have hB:MB b 68719476736:=⟨hb⟩
 have hR:MB r 68719476736:=⟨hrm⟩
 have bm:=ZbA a
 have bn:=Zbp (ZbA b) (ZbA r)
 have bc:=Zbp bm (Zli (a*a) (b*b*r))
 refine Zb Tryz.func131 rfl Tryz.ntmps131 rfl ?_
 repeat(refine wkB ?_;intros)
 (refine Zaq [0,1,2,3,4,5,6] [7,8] (_) (h:=?_);refine wkI ?_)
 (repeat(first|refine wkH ?_|(refine tC rfl rfl ?_ ?_;focus(exact trivial))))
 repeat(refine wkT ?_;intros)
 generalize a.num.sign=m at*
 generalize b.num.sign*r.num.sign=n at*
 rw[hv]
 repeat(refine wkB ?_;intros)
 by_cases c1:n=0
 ·rw[if_pos (.inl c1)]
  simp only[Wc c1]
  repeat(refine wkB ?_;intros)
  exact rtT rfl rfl
 simp only[We c1]
 repeat(refine wkB ?_;intros)
 by_cases c2:m=n
 ·rw[if_pos (.inr c2)]
  simp only[Wc c2]
  repeat(refine wkB ?_;intros)
  exact rtT rfl rfl
 simp only[We c2]
 repeat(refine wkB ?_;intros)
 rw[if_neg (fun h=>h.elim c1 c2)]
 by_cases c3:m=0
 ·rw[if_pos c3]
  simp only[Wc c3]
  repeat(refine wkB ?_;intros)
  exact rtT rfl rfl
 simp only[We c3]
 rw[if_neg c3]
 repeat(refine wkB ?_;intros)
 (refine ZH (.v [0,1,2,3,4,5,6,7,8,9,10] (.e1 11 (.fin))) (_) (h:=?_);refine wkX ?_)
 (repeat(first|refine wkH ?_|(refine tC rfl rfl ?_ ?_;focus(exact mb2 rfl rfl))))
 repeat(refine wkT ?_;intros)
 repeat(refine wkB ?_;intros)
 exact rtT rfl rfl⟩
theorem Zut (b:Bool):M (sgn b)<=1:=by cases b <;> decide
theorem ZqK {y:Rl}(h:(rvR y).ok):(-(sgn y.Neg)).num.sign*y.R.num.sign=if y.R=0 then 0 else if y.Neg then 1 else-1:=by
 by_cases h0:y.R=0
 ·rw[if_pos h0,h0]
  exact Int.mul_zero _
 ·have h1:=(h.k.pos h0).1
  rw[if_neg h0]
  rcases nsg y.R with⟨h2,h3⟩|⟨h2,h3⟩|⟨h2,h3⟩
  ·rw[h3,Int.mul_one]
   cases y.Neg <;> rfl
  ·exact(h0 h2).elim
  ·exact absurd (show(0:Rat)<y.R from h1) (by grind)
theorem Zme (a b r:Rat): -1<=sg1 a b r/\sg1 a b r<=1:=by rcases ZaU a b r with h|h|h <;> rw[h] <;> decide
instance Ztm (x y:Rl):SpecC prog 87 [vR x,vR y] (.int .i64 (cl x y)) (RlB KR x/\RlB KR y):=⟨fun hp w=>by
 obtain⟨hx,hy⟩:=hp
 have hz:=ZqK hy.o
 have hv:=ZpN hx.o hy.o
 unfold cR rvR at hv
 have h1:M x.P<=LQ/\M y.P<=LQ:=⟨Wi hx.p (by decide),Wi hy.p (by decide)⟩
 have b1:MB x.P KR:=⟨hx.p⟩
 have b2:MB y.P KR:=⟨hy.p⟩
 have b3:MB x.R KR:=⟨hx.r⟩
 have b4:MB y.R KR:=⟨hy.r⟩
 have b5:MB (sgn x.Neg) 1:=⟨Zut _⟩
 have hs:Rk x.R/\M (x.P-y.P)<=68719476736/\M (sgn x.Neg)<=68719476736/\M x.R<=68719476736:=⟨hx.o.k,MB.lt rfl,MB.lt rfl,MB.lt rfl⟩
 have hq:Rk x.R/\M ((x.P-y.P)*(x.P-y.P)+x.R-y.R)<=68719476736/\M (((2:Int):Rat)*((x.P-y.P)*sgn x.Neg))<=68719476736/\M x.R<=68719476736:=⟨hx.o.k,MB.lt rfl,(by have:MB ((2:Int):Rat) 1:=⟨by decide⟩;exact MB.lt rfl),MB.lt rfl⟩
 have M2:M ((2:Int):Rat)<=LQ:=by decide
 have bm:=Zme (x.P-y.P) (sgn x.Neg) x.R
 have bc:=Zbp bm (Zme ((x.P-y.P)*(x.P-y.P)+x.R-y.R) (2*((x.P-y.P)*sgn x.Neg)) x.R)
 rw[show(2:Rat)*((x.P-y.P)*sgn x.Neg)=((2:Int):Rat)*((x.P-y.P)*sgn x.Neg) from rfl] at hv bc
 have bn: -1<=(if y.R=0 then(0:Int) else if y.Neg then 1 else-1)/\(if y.R=0 then(0:Int) else if y.Neg then 1 else-1)<=1:=by
  split
  ·decide
  ·split <;> decide
 refine Zb Tryz.func87 rfl Tryz.ntmps87 rfl ?_
 repeat(refine wkB ?_;intros)
 (refine jD 10 13 (h:=?_);(repeat(first|refine wkH ?_|(refine tC rfl rfl ?_ ?_;focus(first|exact trivial|exact h1))));refine Zo ?_;(repeat(refine Z0 ?_;intro _));refine Zs ?_)
 repeat(refine wkB ?_;intros)
 rw[<-hz] at bn hv
 (refine Zaq [0,1,2,3,4,5,6,7,8,9,10] [11,12] (_) (h:=?_);refine wkI ?_)
 (repeat(first|refine wkH ?_|(refine tC rfl rfl ?_ ?_;focus(first|exact trivial|exact hs))))
 repeat(refine wkT ?_;intros)
 rw[hz] at bn hv
 simp only[hz]
 rw[hv]
 dsimp only
 generalize sg1 (x.P-y.P) (sgn x.Neg) x.R=m at*
 generalize (if y.R=0 then(0:Int) else if y.Neg then 1 else-1)=n at*
 repeat(refine wkB ?_;intros)
 by_cases c1:n=0
 ·rw[if_pos (.inl c1)]
  simp only[Wc c1]
  repeat(refine wkB ?_;intros)
  exact rtT rfl rfl
 simp only[We c1]
 repeat(refine wkB ?_;intros)
 by_cases c2:m=n
 ·rw[if_pos (.inr c2)]
  simp only[Wc c2]
  repeat(refine wkB ?_;intros)
  exact rtT rfl rfl
 simp only[We c2]
 repeat(refine wkB ?_;intros)
 rw[if_neg (fun h=>h.elim c1 c2)]
 by_cases c3:m=0
 ·rw[if_pos c3]
  simp only[Wc c3]
  repeat(refine wkB ?_;intros)
  exact rtT rfl rfl
 simp only[We c3]
 rw[if_neg c3]
 repeat(refine wkB ?_;intros)
 rename_i b2' b3' b5' b6' b7'
 (refine Zb4 [0,1,2,3,4,5,6,7,8] [9] [10] ([⟨b7',Zn (Q (-sgn y.Neg)),33⟩,⟨b6',Zn (Q (sgn x.Neg)),33⟩,⟨b5',Zn (Q (x.P-y.P)),33⟩,⟨b3',Zc (Ze y),35⟩,⟨b2',Zc (Ze x),35⟩]) (h:=?_);refine wkI ?_)
 (repeat(first|refine wkH ?_|(refine tC rfl rfl ?_ ?_;focus(first|exact mb2 rfl rfl|exact⟨MB.lt rfl,MB.lt rfl⟩))))
 repeat(refine wkT ?_;intros)
 repeat(refine wkB ?_;intros)
 (refine ZH (.v [0,1,2,3,4,5,6,7,8,9,10] (.e1 11 (.fin))) (_) (h:=?_);refine wkX ?_)
 (repeat(first|refine wkH ?_|(refine tC rfl rfl ?_ ?_;focus(first|exact mb2 rfl rfl|exact hq|exact⟨by decide,by decide⟩|exact⟨M2,MB.lt rfl⟩))))
 repeat(refine wkT ?_;intros)
 repeat(refine wkB ?_;intros)
 exact rtT rfl rfl⟩
instance ZpD :CallC prog 165:=⟨by kernel_rfl⟩
instance ZuI :CallC prog 164:=⟨by kernel_rfl⟩
instance Zue (I:Za):SpecC prog 116 [vIv I] (.bool (decide (I.From=I.To))) True:=⟨fun _ w=>by
 refine Zb Tryz.func116 rfl Tryz.ntmps116 rfl ?_
 repeat(refine wkB ?_;intros)
 exact rtT rfl rfl⟩
noncomputable def aprt (a b:Za):Bool:=decide (cl a.To b.From<0)||(decide (cl a.To b.From=0)&&(a.OpenTo||b.OpenFrom))
instance Zn8 (a b:Za):SpecC prog 108 [vIv a,vIv b] (.bool (aprt a b)) (RlB KR a.To/\RlB KR b.From):=⟨fun hp w=>by
 refine Zb Tryz.func108 rfl Tryz.ntmps108 rfl ?_
 repeat(first|(refine wkB ?_;intros)|(refine wnM ?_ ?_;(focus(exact hp));intros))
 unfold aprt
 generalize cl a.To b.From=n at*
 by_cases h1:n<0
 ·simp only[Wc h1]
  repeat(refine wkB ?_;intros)
  exact rtT rfl rfl
 ·simp only[We h1]
  repeat(refine wkB ?_;intros)
  by_cases h2:n=0
  ·simp only[Wc h2]
   repeat(refine wkB ?_;intros)
   obtain⟨fa,ta,oa,ca⟩:=a
   simp only at h1 h2⊢
   cases ca
   ·repeat(refine wkB ?_;intros)
    exact rtT rfl rfl
   ·repeat(refine wkB ?_;intros)
    exact rtT rfl rfl
  ·simp only[We h2]
   repeat(refine wkB ?_;intros)
   exact rtT rfl rfl⟩
end
section
def sgI1 (b:Bool):Int:=if b then-1 else 1
instance Zwl (x:Rl):SpecC prog 83 [vR x] (.int .i64 (sgI1 x.Neg)) True:=⟨fun _ w=>by
 refine Zb Tryz.func83 rfl Tryz.ntmps83 rfl ?_
 obtain⟨p,r,b⟩:=x
 cases b
 ·repeat(refine wkB ?_;intros)
  exact rtT rfl rfl
 ·repeat(refine wkB ?_;intros)
  exact rtT rfl rfl⟩
def sgr (a:Rat)(u:Int)(r:Rat):Int:=if a.num.sign=0 then u*r.num.sign else if u*r.num.sign=0\/a.num.sign=u*r.num.sign then a.num.sign else a.num.sign*cq (a*a) r
theorem ZmV (a:Rat){u:Int}(r:Rat)(hu: -1<=u/\u<=1): -1<=sgr a u r/\sgr a u r<=1:=by
 have h1:=ZbA a
 have h2:=Zbp hu (ZbA r)
 have h3:=Zbp h1 (Zli (a*a) r)
 unfold sgr
 split
 ·exact h2
 ·split <;> assumption
instance Zvh (a r:Rat)(u:Int):SpecC prog 123 [vQ a, .int .i64 u,vQ r] (.int .i64 (sgr a u r)) ((-1<=u/\u<=1)/\M a<=134217728/\M r<=268435456):=⟨fun hp w=>by
 obtain⟨hu,ha,hr⟩:=hp
 have hv:sgr a u r=sgr a u r:=rfl
 conv at hv=>rhs;unfold sgr
 have hA:MB a 134217728:=⟨ha⟩
 have hR:MB r 268435456:=⟨hr⟩
 have bm:=ZbA a
 have bn:=Zbp hu (ZbA r)
 have bc:=Zbp bm (Zli (a*a) r)
 refine Zb Tryz.func123 rfl Tryz.ntmps123 rfl ?_
 repeat(refine wkB ?_;intros)
 rename_i b3 b5
 (refine ZH (.v [0,1,2,3,4,5] (.e1 6 (.e1 7 (.fin)))) ([⟨b5,Zn (Q r),33⟩,⟨b3,Zn (Q a),33⟩]) (h:=?_);refine wkX ?_)
 (repeat(first|refine wkH ?_|(refine tC rfl rfl ?_ ?_;focus(exact trivial))))
 repeat(refine wkT ?_;intros)
 rw[hv]
 generalize a.num.sign=m at*
 generalize u*r.num.sign=n at*
 repeat(refine wkB ?_;intros)
 by_cases c3:m=0
 ·rw[if_pos c3]
  simp only[Wc c3]
  repeat(refine wkB ?_;intros)
  exact rtT rfl rfl
 simp only[We c3]
 rw[if_neg c3]
 repeat(refine wkB ?_;intros)
 by_cases c1:n=0
 ·rw[if_pos (.inl c1)]
  simp only[Wc c1]
  repeat(refine wkB ?_;intros)
  exact rtT rfl rfl
 simp only[We c1]
 repeat(refine wkB ?_;intros)
 by_cases c2:m=n
 ·rw[if_pos (.inr c2)]
  simp only[Wc c2]
  repeat(refine wkB ?_;intros)
  exact rtT rfl rfl
 simp only[We c2]
 repeat(refine wkB ?_;intros)
 rw[if_neg (fun h=>h.elim c1 c2)]
 repeat(refine wkB ?_;intros)
 (refine ZH (.v [0,1,2,3,4,5,6] (.e1 7 (.fin))) ([⟨b5,Zn (Q r),33⟩,⟨b3,Zn (Q a),33⟩]) (h:=?_);refine wkX ?_)
 (repeat(first|refine wkH ?_|(refine tC rfl rfl ?_ ?_;focus(exact mb2 rfl rfl))))
 repeat(refine wkT ?_;intros)
 repeat(refine wkB ?_;intros)
 exact rtT rfl rfl⟩
theorem ZfS {a r:Rat}(hr:Rk r)(n:Bool):sgr a (sgI1 n) r=sg1 a (sgn n) r:=by
 rw[Zlv hr]
 have e:(sgn n).num.sign=sgI1 n:=by cases n <;> decide
 have e2:sgn n*sgn n*r=r:=by rw[Zhr];grind
 unfold sgr
 rw[e,e2]
 by_cases h1:a.num.sign=0
 ·rw[if_pos h1]
  by_cases h2:sgI1 n*r.num.sign=0
  ·rw[if_pos (.inl h2),h1,h2]
  ·rw[if_neg (by omega),if_pos h1]
 ·rw[if_neg h1,if_neg h1]
theorem Zmp {E v r k:Rat}(hk:0<k):sg1 E (k*v) r=sg1 E v (k*k*r):=by
 have e1:k*v*(k*v)*r=v*v*(k*k*r):=by grind
 have h1:(0:Rat)<k*v↔0<v:=by
  constructor
  ·intro h
   by_cases h0:0<v
   ·exact h0
   ·have:=Rat.mul_nonneg (show 0<=k by grind) (show 0<= -v by grind)
    grind
  ·exact Rat.mul_pos hk
 have h2:k*v=0↔v=0:=by
  constructor
  ·intro h
   rcases Rat.mul_eq_zero.1 h with h0|h0
   ·grind
   ·exact h0
  ·intro h;rw[h];grind
 have h3:k*k*r=0↔r=0:=by
  constructor
  ·intro h
   rcases Rat.mul_eq_zero.1 h with h0|h0
   ·have:=Rat.mul_pos hk hk
    grind
   ·exact h0
  ·intro h;rw[h];grind
 unfold sg1
 simp only[e1,h1,h2,h3]
theorem Rk.sc {r k:Rat}(h:Rk r):Rk (k*k*r):=by
 rcases h with h|⟨h1,h2⟩
 ·exact .inl (by rw[h];grind)
 ·by_cases h0:k=0
  ·exact .inl (by rw[h0];grind)
  ·refine .inr ⟨Rat.mul_pos ?_ h1,fun q hq=>h2 (q / k) (by grind)⟩
   have:=ZaD k
   have:k*k≠0:=fun h3=>(Rat.mul_eq_zero.1 h3).elim h0 h0
   grind
def sg2 (a:Rat)(u:Int)(r:Rat)(v:Int)(s:Rat):Int:=if sgr a u r≠v*s.num.sign\/sgr a u r=0 then(if v*s.num.sign<sgr a u r then 1 else sgr a u r-v*s.num.sign) else sgr a u r*sgr (a*a+r-s) (u*a.num.sign) ((4:Rat)*(a*a*r))
instance Zt4 (a r s:Rat)(u v:Int):SpecC prog 81 [vQ a, .int .i64 u,vQ r, .int .i64 v,vQ s] (.int .i64 (sg2 a u r v s)) (((-1<=u/\u<=1)/\(-1<=v/\v<=1))/\M a<=16777217/\M r<=16777216/\M s<=16777216):=⟨fun hp w=>by
 obtain⟨⟨hu,hv⟩,ha,hr,hs⟩:=hp
 have hdef:sg2 a u r v s=sg2 a u r v s:=rfl
 conv at hdef=>rhs;unfold sg2
 have hA:MB a 16777217:=⟨ha⟩
 have hR:MB r 16777216:=⟨hr⟩
 have hS:MB s 16777216:=⟨hs⟩
 have h4:MB (4:Rat) 1:=⟨by decide⟩
 have bx:=ZmV a r hu
 have by':=Zbp hv (ZbA s)
 have bua:=Zbp hu (ZbA a)
 have bc:=Zbp bx (ZmV (a*a+r-s) ((4:Rat)*(a*a*r)) bua)
 have p1:(-1<=u/\u<=1)/\M a<=134217728/\M r<=268435456:=⟨hu,MB.lt rfl,MB.lt rfl⟩
 have p2:(-1<=u*a.num.sign/\u*a.num.sign<=1)/\M (a*a+r-s)<=134217728/\M ((4:Rat)*(a*a*r))<=268435456:=⟨bua,MB.lt rfl,MB.lt rfl⟩
 have p4:(1:Int)≠0/\(-9223372036854775808<=(4:Int)/\(4:Int)<=9223372036854775807)/\(-9223372036854775808<=(1:Int)/\(1:Int)<=9223372036854775807):=by decide
 have e4:Rat.divInt 4 1=4:=by decide+kernel
 have h41:MB (Rat.divInt 4 1) 1:=⟨by decide+kernel⟩
 refine Zb Tryz.func81 rfl Tryz.ntmps81 rfl ?_
 repeat(refine wkB ?_;intros)
 rename_i b5 b7 b9
 (refine ZH (.v [0,1,2,3,4,5,6,7] (.e1 8 (.e1 9 (.fin)))) ([⟨b9,Zn (Q s),33⟩,⟨b7,Zn (Q r),33⟩,⟨b5,Zn (Q a),33⟩]) (h:=?_);refine wkX ?_)
 (repeat(first|refine wkH ?_|(refine tC rfl rfl ?_ ?_;focus(first|exact trivial|exact p1))))
 repeat(refine wkT ?_;intros)
 rw[hdef]
 generalize sgr a u r=x at*
 generalize v*s.num.sign=y at*
 repeat(refine wkB ?_;intros)
 by_cases c1:x=y
 ·simp only[Wc c1,Bool.not_true]
  repeat(refine wkB ?_;intros)
  by_cases c2:x=0
  ·rw[if_pos (.inr c2)]
   subst c1
   simp only[Wc c2]
   repeat(refine wkB ?_;intros)
   simp only[We (show¬x<x by omega),if_neg (show¬x<x by omega)]
   repeat(refine wkB ?_;intros)
   exact rtT rfl rfl
  ·rw[if_neg (by omega)]
   simp only[We c2]
   repeat(refine wkB ?_;intros)
   (refine Zb4 [0,1,2,3,4] [5] [6] ([⟨b9,Zn (Q s),33⟩,⟨b7,Zn (Q r),33⟩,⟨b5,Zn (Q a),33⟩]) (h:=?_);refine wkI ?_)
   (repeat(first|refine wkH ?_|(refine tC rfl rfl ?_ ?_;focus(exact mb2 rfl rfl))))
   repeat(refine wkT ?_;intros)
   repeat(refine wkB ?_;intros)
   rename_i b13
   (refine Zb4 [0,1,2,3,4,5,6] [7] [8] ([⟨b9,Zn (Q s),33⟩,⟨b7,Zn (Q r),33⟩,⟨b5,Zn (Q a),33⟩]) (h:=?_);refine wkI ?_)
   (repeat(first|refine wkH ?_|(refine tC rfl rfl ?_ ?_;focus(first|exact mb2 rfl rfl|exact p4))))
   repeat(refine wkT ?_;intros)
   simp only[e4]
   repeat(refine wkB ?_;intros)
   rename_i b14
   (refine ZH (.v [0,1,2,3,4,5,6,7,8,9,10] (.e1 11 (.fin))) ([⟨b14,Zn (Q ((4:Rat)*(a*a*r))),33⟩,⟨b13,Zn (Q (a*a+r)),33⟩,⟨b9,Zn (Q s),33⟩,⟨b7,Zn (Q r),33⟩,⟨b5,Zn (Q a),33⟩]) (h:=?_);refine wkX ?_)
   (repeat(first|refine wkH ?_|(refine tC rfl rfl ?_ ?_;focus(first|exact trivial|exact mb2 rfl rfl|exact p2))))
   repeat(refine wkT ?_;intros)
   repeat(refine wkB ?_;intros)
   exact rtT rfl rfl
 ·rw[if_pos (.inl c1)]
  simp only[We c1,Bool.not_false]
  repeat(refine wkB ?_;intros)
  by_cases c3:y<x
  ·rw[if_pos c3]
   simp only[Wc c3]
   repeat(refine wkB ?_;intros)
   exact rtT rfl rfl
  ·rw[if_neg c3]
   simp only[We c3]
   repeat(refine wkB ?_;intros)
   exact rtT rfl rfl⟩
theorem Zsw {x y:RV}(hx:x.ok)(hy:y.ok):(if sg2 (x.p-y.p) (sgI1 x.n) x.r (sgI1 y.n) y.r<0 then(-1:Int) else if 0<sg2 (x.p-y.p) (sgI1 x.n) x.r (sgI1 y.n) y.r then 1 else 0)=cR x y:=by
 have hn:(if y.r=0 then(0:Int) else if y.n then 1 else-1)= -(sgI1 y.n*y.r.num.sign):=by
  by_cases h0:y.r=0
  ·rw[if_pos h0,h0]
   exact(by rw[show(0:Rat).num.sign=0 from rfl,Int.mul_zero];rfl)
  ·rw[if_neg h0]
   have h1:=(hy.k.pos h0).1
   rcases nsg y.r with⟨h2,h3⟩|⟨h2,h3⟩|⟨h2,h3⟩
   ·rw[h3,Int.mul_one]
    cases y.n <;> rfl
   ·exact(h0 h2).elim
   ·exact absurd h1 (by grind)
 have hE:(x.p-y.p)≠0->sgr ((x.p-y.p)*(x.p-y.p)+x.r-y.r) (sgI1 x.n*(x.p-y.p).num.sign) ((4:Rat)*((x.p-y.p)*(x.p-y.p)*x.r))=sg1 ((x.p-y.p)*(x.p-y.p)+x.r-y.r) (2*((x.p-y.p)*sgn x.n)) x.r:=fun h0=>by
  generalize x.p-y.p=a at*
  generalize a*a+x.r-y.r=e at*
  have hk:Rk ((2*a)*(2*a)*x.r):=hx.k.sc
  rw[show(4:Rat)*(a*a*x.r)=(2*a)*(2*a)*x.r by grind]
  rcases nsg a with⟨h2,h3⟩|⟨h2,h3⟩|⟨h2,h3⟩
  ·rw[h3,Int.mul_one,ZfS hk,show 2*(a*sgn x.n)=(2*a)*sgn x.n by grind,Zmp (by grind)]
  ·exact(h0 h2).elim
  ·have e1:sgI1 x.n* -1=sgI1 (!x.n):=by cases x.n <;> rfl
   rw[h3,e1,ZfS hk,show 2*(a*sgn x.n)=(-(2*a))* -sgn x.n by grind,Zmp (by grind),<-Zdh,show-(2*a)* -(2*a)*x.r=2*a*(2*a)*x.r by grind]
 unfold cR sg2
 dsimp only
 rw[hn,ZfS hx.k]
 have hv:=ZaU (x.p-y.p) (sgn x.n) x.r
 have hb:=Zbp (show-1<=sgI1 y.n/\sgI1 y.n<=1 by cases y.n <;> decide) (ZbA y.r)
 have hm0:∀z:Int,sg1 (x.p-y.p) (sgn x.n) x.r=z->z≠0->x.p-y.p=0->z=sg1 0 (sgn x.n) x.r:=fun z h1 _ h3=>by rw[<-h1,h3]
 by_cases ha:x.p-y.p=0
 ·-- nothing but the roots
  have hk:=hx.k
  rw[ha] at hv⊢
  rw[show(0:Rat)*0+x.r-y.r=x.r-y.r by grind,show(2:Rat)*(0*sgn x.n)=0 by grind,show(4:Rat)*(0*0*x.r)=0 by grind,show(0:Rat).num.sign=0 from rfl,Int.mul_zero]
  have e3:sgr (x.r-y.r) 0 0=sg1 (x.r-y.r) 0 x.r:=by
   unfold sgr
   rcases nsg (x.r-y.r) with⟨h2,h3⟩|⟨h2,h3⟩|⟨h2,h3⟩
   ·rw[h3,if_neg (by decide),if_pos (.inl (by rfl))]
    exact(Zat.2 (ZlN h2)).symm
   ·rw[h3,if_pos rfl]
    exact(Zb1.2 ⟨h2, .inl rfl⟩).symm
   ·rw[h3,if_neg (by decide),if_pos (.inl (by rfl))]
    exact((ZaS hk).2 (by rw[show-(0:Rat)=0 by grind];exact ZlN (by grind))).symm
  rw[e3]
  have hv2:=ZaU (x.r-y.r) 0 x.r
  generalize sg1 0 (sgn x.n) x.r=m at*
  generalize sgI1 y.n*y.r.num.sign=n at*
  generalize sg1 (x.r-y.r) 0 x.r=k at*
  rcases hv with rfl|rfl|rfl <;> rcases hv2 with rfl|rfl|rfl <;> rcases(by omega:n= -1\/n=0\/n=1) with rfl|rfl|rfl <;> decide
 ·rw[hE ha]
  have hv2:=ZaU ((x.p-y.p)*(x.p-y.p)+x.r-y.r) (2*((x.p-y.p)*sgn x.n)) x.r
  generalize sg1 (x.p-y.p) (sgn x.n) x.r=m at*
  generalize sgI1 y.n*y.r.num.sign=n at*
  generalize sg1 ((x.p-y.p)*(x.p-y.p)+x.r-y.r) (2*((x.p-y.p)*sgn x.n)) x.r=k at*
  rcases hv with rfl|rfl|rfl <;> rcases hv2 with rfl|rfl|rfl <;> rcases(by omega:n= -1\/n=0\/n=1) with rfl|rfl|rfl <;> decide
abbrev B28 :Nat:=8388608
instance ZoL (x y:Rl):SpecC prog 29 [vR x,vR y] (.int .i64 (cl x y)) (RlB B28 x/\RlB B28 y):=⟨fun hp w=>by
 obtain⟨hx,hy⟩:=hp
 have hv:=(ZpN hx.o hy.o).trans (Zsw hx.o hy.o).symm
 unfold rvR at hv
 dsimp only at hv
 have b1:MB x.P B28:=⟨hx.p⟩
 have b2:MB y.P B28:=⟨hy.p⟩
 have h1:M x.P<=268435456/\M y.P<=268435456:=⟨MB.lt rfl,MB.lt rfl⟩
 have hsx: -1<=sgI1 x.Neg/\sgI1 x.Neg<=1:=by cases x.Neg <;> decide
 have hsy: -1<=sgI1 y.Neg/\sgI1 y.Neg<=1:=by cases y.Neg <;> decide
 have p2:((-1<=sgI1 x.Neg/\sgI1 x.Neg<=1)/\(-1<=sgI1 y.Neg/\sgI1 y.Neg<=1))/\M (x.P-y.P)<=16777217/\M x.R<=16777216/\M y.R<=16777216:=⟨⟨hsx,hsy⟩,MB.lt rfl,Wi hx.r (by decide),Wi hy.r (by decide)⟩
 refine Zb Tryz.func29 rfl Tryz.ntmps29 rfl ?_
 repeat(refine wkB ?_;intros)
 rename_i b2' b3'
 (refine ZH (.v [0,1,2,3,4,5,6,7,8,9,10,11,12,13] (.e1 14 (.fin))) ([⟨b3',Zc (Ze y),35⟩,⟨b2',Zc (Ze x),35⟩]) (h:=?_);refine wkX ?_)
 (repeat(first|refine wkH ?_|(refine tC rfl rfl ?_ ?_;focus(first|exact trivial|exact h1|exact p2))))
 repeat(refine wkT ?_;intros)
 rw[hv]
 generalize sg2 (x.P-y.P) (sgI1 x.Neg) x.R (sgI1 y.Neg) y.R=z at*
 repeat(refine wkB ?_;intros)
 by_cases c:z<0
 ·rw[if_pos c]
  simp only[Wc c]
  repeat(refine wkB ?_;intros)
  exact rtT rfl rfl
 rw[if_neg c]
 simp only[We c]
 repeat(refine wkB ?_;intros)
 by_cases c1:0<z
 ·rw[if_pos c1]
  simp only[Wc c1]
  repeat(refine wkB ?_;intros)
  exact rtT rfl rfl
 ·rw[if_neg c1]
  simp only[We c1]
  repeat(refine wkB ?_;intros)
  exact rtT rfl rfl⟩
end
end Go.Vt
