/- that objects are reconstructed from their reports (part 16 of 29.) Conditions: those that each statement names. -/
import Derived.Test.YtjicdlilgjdefaaGreatDoorKJ11
import Derived.Test.YtjicdlilgjdefaaGreatDoorKJ13
import Derived.Test.YtjicdlilgjdefaaGreatDoorKJ15
set_option linter.unusedSectionVars false
set_option linter.unusedVariables false
set_option linter.unusedSimpArgs false
set_option maxHeartbeats 2000000
set_option maxRecDepth 100000
namespace Go.Vt
structure GU (T F : Type) where
 a : T
 b : T
 oa : Bool
 ob : Bool
 f : F
class Fv (F T : Type) (V : outParam Type) [LT T] where
 va : F → T → V
 red : F → T → F
 va_red : ∀ f t, va (red f t) t = va f t
 red_eq : ∀ f g t, va f t = va g t → red f t = red g t
 agree : ∀ (f g : F) (a b : T), a < b → (∀ t, a < t → t < b → va f t = va g t) → f = g
class Dns (T : Type) [LT T] : Prop where
 out : ∀ a b : T, a < b → ∃ c, a < c ∧ c < b
open Fv (va red)
section
variable {T F V : Type} [LE T] [LT T] [Std.LawfulOrderLT T] [Std.IsLinearOrder T] [Dns T] [Fv F T V]
def GU.mem (u : GU T F) (t : T) : Prop := (u.a < t ∨ (u.a = t ∧ u.oa = false)) ∧ (t < u.b ∨ (t = u.b ∧ u.ob = false))
def GU.ok (u : GU T F) : Prop := u.a < u.b ∨ (u.a = u.b ∧ u.oa = false ∧ u.ob = false)
def GU.bfr (u w : GU T F) : Prop := u.b < w.a ∨ (u.b = w.a ∧ (u.ob = true ∨ w.oa = true))
theorem dens2 {a b c : T} (h : a < b) (k : a < c) : ∃ t, a < t ∧ t < b ∧ t < c := by
 obtain ⟨x, h1, h2⟩ := Dns.out a b h
 obtain ⟨y, h3, h4⟩ := Dns.out a c k
 rcases Std.le_total (a := x) (b := y) with h5 | h5
 ·exact ⟨x, h1, h2, by grind⟩
 ·exact ⟨y, h3, by grind, h4⟩
theorem agree2 {f g : F} {a b c : T} (h : a < b) (k : a < c) (hv : ∀ t, a < t → t < b → t < c → va f t = va g t) : f = g := by
 rcases Std.le_total (a := b) (b := c) with h5 | h5
 ·exact Fv.agree f g a b h fun t h1 h2 => hv t h1 h2 (by grind)
 ·exact Fv.agree f g a c k fun t h1 h2 => hv t h1 (by grind) h2
theorem GU.ok.pt {u : GU T F} (h : u.ok) : ∃ t, u.mem t := by
 rcases h with h | ⟨h1, h2, h3⟩
 ·obtain ⟨c, h1, h2⟩ := Dns.out _ _ h
  exact ⟨c, .inl h1, .inl h2⟩
 ·exact ⟨u.a, .inr ⟨rfl, h2⟩, .inr ⟨h1, h3⟩⟩
theorem GU.bfr.dis {u w : GU T F} (h : u.bfr w) {t : T} (h1 : u.mem t) (h2 : w.mem t) : False := by
 unfold GU.mem GU.bfr at *
 grind
theorem GU.bfr.tr {u v w : GU T F} (hv : v.ok) (h : u.bfr v) (k : v.bfr w) : u.bfr w := by
 unfold GU.ok GU.bfr at *
 grind
def Has (l : List (GU T F)) (t : T) (v : V) : Prop := ∃ u ∈ l, u.mem t ∧ va u.f t = v
theorem Zen {t : T} {v : V} : ¬ Has ([] : List (GU T F)) t v := fun ⟨u, hu, _⟩ => by cases hu
theorem Za3 {u : GU T F} {l : List (GU T F)} {t : T} {v : V} : Has (u :: l) t v ↔ (u.mem t ∧ va u.f t = v) ∨ Has l t v := by
 unfold Has
 simp
theorem ZhV {l m : List (GU T F)} {t : T} {v : V} : Has (l ++ m) t v ↔ Has l t v ∨ Has m t v := by
 unfold Has
 constructor
 ·rintro ⟨u, hu, h⟩
  rcases List.mem_append.1 hu with h1 | h1
  ·exact .inl ⟨u, h1, h⟩
  ·exact .inr ⟨u, h1, h⟩
 ·rintro (⟨u, hu, h⟩ | ⟨u, hu, h⟩)
  ·exact ⟨u, List.mem_append_left _ hu, h⟩
  ·exact ⟨u, List.mem_append_right _ hu, h⟩
theorem ZhP {u : GU T F} {t : T} {v : V} : Has [u] t v ↔ (u.mem t ∧ va u.f t = v) := by
 rw [Za3]
 exact ⟨fun h => h.resolve_right Zen, .inl⟩
structure Adj (u w : GU T F) : Prop where
 bf : u.bfr w
 n1 : u.b = w.a → u.ob = false → u.a < u.b → u.f ≠ w.f
 n2 : u.b = w.a → w.oa = false → va u.f w.a ≠ va w.f w.a
 n3 : u.b = w.a → u.a = u.b → va u.f w.a ≠ va w.f w.a
structure NF (l : List (GU T F)) : Prop where
 ok : ∀ u ∈ l, u.ok
 rd : ∀ u ∈ l, u.a = u.b → u.f = red u.f u.a
 pw : l.Pairwise Adj
theorem NF.nil : NF ([] : List (GU T F)) := ⟨(fun _ h => by cases h), (fun _ h => by cases h), List.Pairwise.nil⟩
theorem NF.tail {u : GU T F} {l : List (GU T F)} (h : NF (u :: l)) : NF l :=
 ⟨fun w hw => h.ok w (.tail _ hw), fun w hw => h.rd w (.tail _ hw), (List.pairwise_cons.1 h.pw).2⟩
theorem ZoO {α : Type} {R : α → α → Prop} : ∀ {l : List α}, l.Pairwise R → ∀ u ∈ l, ∀ w ∈ l, u = w ∨ R u w ∨ R w u
 | [], _, _, h, _, _ => by cases h
 | x :: l, hp, u, hu, w, hw => by
  obtain ⟨h1, h2⟩ := List.pairwise_cons.1 hp
  rcases List.mem_cons.1 hu with rfl | hu
  ·rcases List.mem_cons.1 hw with rfl | hw
   ·exact .inl rfl
   ·exact .inr (.inl (h1 w hw))
  ·rcases List.mem_cons.1 hw with h3 | hw
   ·exact .inr (.inr (by rw [h3]; exact h1 u hu))
   ·exact ZoO h2 u hu w hw
theorem NF.fn {l : List (GU T F)} (h : NF l) {u : GU T F} (hu : u ∈ l) {t : T} {v : V} (hm : u.mem t) (hv : Has l t v) : va u.f t = v := by
 obtain ⟨w, hw, h1, h2⟩ := hv
 rcases ZoO h.pw u hu w hw with rfl | h3 | h3
 ·exact h2
 ·exact (h3.bf.dis hm h1).elim
 ·exact (h3.bf.dis h1 hm).elim
section
variable {u u' : GU T F} {l l' : List (GU T F)}
theorem Zry (h : NF (u :: l)) {w : GU T F} (hw : w ∈ u :: l) : u.a ≤ w.a := by
 rcases List.mem_cons.1 hw with rfl | hw
 ·exact Std.le_refl _
 ·have h1 := (List.pairwise_cons.1 h.pw).1 w hw
  have h2 := h.ok u (.head _)
  have h3 := h1.bf
  unfold GU.ok GU.bfr at *
  grind
theorem ZiR (h : NF (u :: l)) {w : GU T F} (hw : w ∈ l) : u.b ≤ w.a := by
 have h3 := ((List.pairwise_cons.1 h.pw).1 w hw).bf
 unfold GU.bfr at *
 grind
theorem ZtH (h : NF (u :: l)) (h' : NF (u' :: l')) (H : ∀ t v, Has (u :: l) t v → Has (u' :: l') t v) : ¬ u.a < u'.a := fun hlt => by
 have hok := h.ok u (.head _)
 obtain ⟨t, ht, htl⟩ : ∃ t, u.mem t ∧ t < u'.a := by
  rcases hok with h1 | ⟨h1, h2, h3⟩
  ·obtain ⟨t, h2, h3, h4⟩ := dens2 h1 hlt
   exact ⟨t, ⟨.inl h2, .inl h3⟩, h4⟩
  ·exact ⟨u.a, ⟨.inr ⟨rfl, h2⟩, .inr ⟨h1, h3⟩⟩, hlt⟩
 obtain ⟨w, hw, h1, h2⟩ := H t _ ⟨u, .head _, ht, rfl⟩
 have h3 := Zry h' hw
 unfold GU.mem at h1
 grind
theorem ZrB (h : NF (u :: l)) (h' : NF (u' :: l')) (H : ∀ t v, Has (u :: l) t v → Has (u' :: l') t v) (ha : u.a = u'.a) (ho : u.oa = false) : u'.oa = false := by
 have hok := h.ok u (.head _)
 have hok' := h'.ok u' (.head _)
 have hm : u.mem u.a := by unfold GU.mem GU.ok at *; grind
 obtain ⟨w, hw, h1, h2⟩ := H u.a _ ⟨u, .head _, hm, rfl⟩
 rcases List.mem_cons.1 hw with rfl | hw
 ·unfold GU.mem at h1; grind
 ·have h3 := ZiR h' hw
  unfold GU.mem GU.ok at *
  grind
theorem nxt (h : NF (u :: l)) (h' : NF (u' :: l')) (H : ∀ t v, Has (u :: l) t v ↔ Has (u' :: l') t v) (hle : u'.a ≤ u.b) (hlt : u.b < u'.b) (hob : u.ob = false) : ∃ w ∈ l, w.a = u.b ∧ w.f = u'.f := by
 have cov : ∀ t, u.b < t → t < u'.b → ∃ w ∈ l, w.mem t ∧ va w.f t = va u'.f t := fun t h1 h2 => by
  obtain ⟨w, hw, h3, h4⟩ := (H t (va u'.f t)).2 ⟨u', .head _, ⟨.inl (by grind), .inl h2⟩, rfl⟩
  rcases List.mem_cons.1 hw with rfl | hw
  ·unfold GU.mem at h3; grind
  ·exact ⟨w, hw, h3, h4⟩
 cases l with
 | nil =>
  obtain ⟨t, h1, h2⟩ := Dns.out _ _ hlt
  obtain ⟨w, hw, _⟩ := cov t h1 h2
  cases hw
 | cons w l =>
  have hge := ZiR h (.head _)
  have hb := ((List.pairwise_cons.1 h.pw).1 w (.head _)).bf
  have hok := h.ok w (.tail _ (.head _))
  have hwa : w.a = u.b := by
   rcases Std.le_total (a := w.a) (b := u.b) with h1 | h1
   ·grind
   ·rcases Classical.em (w.a = u.b) with h2 | h2
    ·exact h2
    ·obtain ⟨t, h3, h4, h5⟩ := dens2 hlt (show u.b < w.a by grind)
     obtain ⟨x, hx, h6, -⟩ := cov t h3 h4
     have h7 := Zry h.tail hx
     unfold GU.mem at h6
     grind
  refine ⟨w, .head _, hwa, ?_⟩
  have hlong : w.a < w.b := by unfold GU.ok GU.bfr at *; grind
  refine agree2 (a := u.b) (b := w.b) (c := u'.b) (by grind) hlt fun t h1 h2 h3 => ?_
  have hmw : w.mem t := ⟨.inl (by grind), .inl h2⟩
  have hmu : u'.mem t := ⟨.inl (by grind), .inl h3⟩
  have := (H t _).1 ⟨w, .tail _ (.head _), hmw, rfl⟩
  exact (h'.fn (.head _) hmu this).symm
theorem ZlI (h : NF (u :: l)) (h' : NF (u' :: l')) (H : ∀ t v, Has (u :: l) t v ↔ Has (u' :: l') t v) (ha : u.a = u'.a) (ho : u.oa = u'.oa) (hi : u.a = u.b) : ¬ u'.a < u'.b := fun hlt => by
 have hok := h.ok u (.head _)
 obtain ⟨o1, o2⟩ : u.oa = false ∧ u.ob = false := by unfold GU.ok at hok; grind
 obtain ⟨w, hw, h1, h2⟩ := nxt h h' H (by grind) (by grind) o2
 have hadj := (List.pairwise_cons.1 h.pw).1 w hw
 refine hadj.n3 h1.symm hi ?_
 have hmu : u.mem w.a := ⟨.inr ⟨by grind, o1⟩, .inr ⟨h1, o2⟩⟩
 have hmu' : u'.mem w.a := ⟨.inr ⟨by grind, by grind⟩, .inl (by grind)⟩
 have := h.fn (.head _) hmu ((H w.a _).2 ⟨u', .head _, hmu', rfl⟩)
 rw [this, h2]
theorem Zto (h : NF (u :: l)) (h' : NF (u' :: l')) (H : ∀ t v, Has (u :: l) t v ↔ Has (u' :: l') t v) (ha : u.a = u'.a) (hl : u.a < u.b) (hf : u.f = u'.f) : ¬ u.b < u'.b := fun hlt => by
 rcases ho : u.ob with _ | _
 ·obtain ⟨w, hw, h1, h2⟩ := nxt h h' H (by grind) hlt ho
  exact ((List.pairwise_cons.1 h.pw).1 w hw).n1 h1.symm ho hl (by rw [hf, h2])
 ·have hmu' : u'.mem u.b := ⟨.inl (by grind), .inl hlt⟩
  obtain ⟨w, hw, h1, h2⟩ := (H u.b (va u'.f u.b)).2 ⟨u', .head _, hmu', rfl⟩
  rcases List.mem_cons.1 hw with rfl | hw
  ·unfold GU.mem at h1; grind
  ·have h3 := ZiR h hw
   have h4 : w.a = u.b ∧ w.oa = false := by unfold GU.mem at h1; grind
   refine ((List.pairwise_cons.1 h.pw).1 w hw).n2 h4.1.symm h4.2 ?_
   rw [h4.1, h2, hf]
theorem ZrC (h : NF (u :: l)) (h' : NF (u' :: l')) (H : ∀ t v, Has (u :: l) t v ↔ Has (u' :: l') t v) (hb : u.b = u'.b) (hl : u.a < u.b) (hl' : u'.a < u'.b) (hf : u.f = u'.f) (ho : u.ob = false) : u'.ob = false := by
 rcases ho' : u'.ob with _ | _
 ·rfl
 ·have hmu : u.mem u.b := ⟨.inl hl, .inr ⟨rfl, ho⟩⟩
  obtain ⟨w, hw, h1, h2⟩ := (H u.b (va u.f u.b)).1 ⟨u, .head _, hmu, rfl⟩
  rcases List.mem_cons.1 hw with rfl | hw
  ·unfold GU.mem at h1; grind
  ·have h3 := ZiR h' hw
   have h4 : w.a = u'.b ∧ w.oa = false := by unfold GU.mem at h1; grind
   refine absurd ?_ (((List.pairwise_cons.1 h'.pw).1 w hw).n2 h4.1.symm h4.2)
   rw [h4.1, ← hb, h2, hf]
theorem ZxI (h : NF (u :: l)) (h' : NF (u' :: l')) (H : ∀ t v, Has (u :: l) t v ↔ Has (u' :: l') t v) : u = u' := by
 have H' : ∀ t v, Has (u' :: l') t v ↔ Has (u :: l) t v := fun t v => (H t v).symm
 have ha : u.a = u'.a := by
  have h1 := ZtH h h' fun t v => (H t v).1
  have h2 := ZtH h' h fun t v => (H' t v).1
  grind
 have ho : u.oa = u'.oa := by
  have h1 := ZrB h h' (fun t v => (H t v).1) ha
  have h2 := ZrB h' h (fun t v => (H' t v).1) ha.symm
  cases hq : u.oa <;> cases hq' : u'.oa <;> simp_all
 have hok := h.ok u (.head _)
 have hok' := h'.ok u' (.head _)
 rcases hok with hl | ⟨hi, i1, i2⟩
 ·have hl' : u'.a < u'.b := by
   rcases hok' with h1 | ⟨h1, -, -⟩
   ·exact h1
   ·exact absurd hl (ZlI h' h H' ha.symm ho.symm h1)
  have hf : u.f = u'.f := by
   refine agree2 (a := u.a) (b := u.b) (c := u'.b) hl (by grind) fun t h1 h2 h3 => ?_
   have hm : u.mem t := ⟨.inl h1, .inl h2⟩
   have hm' : u'.mem t := ⟨.inl (by grind), .inl h3⟩
   exact h.fn (.head _) hm ((H t _).2 ⟨u', .head _, hm', rfl⟩)
  have hb : u.b = u'.b := by
   have h1 := Zto h h' H ha hl hf
   have h2 := Zto h' h H' ha.symm hl' hf.symm
   grind
  have hob : u.ob = u'.ob := by
   have h1 := ZrC h h' H hb hl hl' hf
   have h2 := ZrC h' h H' hb.symm hl' hl hf.symm
   cases hq : u.ob <;> cases hq' : u'.ob <;> simp_all
  cases u
  cases u'
  simp_all
 ·have hi' : u'.a = u'.b ∧ u'.oa = false ∧ u'.ob = false := by
   rcases hok' with h1 | h1
   ·exact absurd h1 (ZlI h h' H ha ho hi)
   ·exact h1
  have hm : u.mem u.a := ⟨.inr ⟨rfl, i1⟩, .inr ⟨hi, i2⟩⟩
  have hm' : u'.mem u.a := ⟨.inr ⟨ha.symm, hi'.2.1⟩, .inr ⟨by grind, hi'.2.2⟩⟩
  have hv := h.fn (.head _) hm ((H u.a _).2 ⟨u', .head _, hm', rfl⟩)
  have hf : u.f = u'.f := by
   rw [h.rd u (.head _) hi, h'.rd u' (.head _) hi'.1, ← ha]
   exact Fv.red_eq _ _ _ hv
  have hb : u.b = u'.b := by grind
  cases u
  cases u'
  simp_all
end
theorem NF.pts {u : GU T F} {l : List (GU T F)} (h : NF (u :: l)) : ∃ t v, Has (u :: l) t v := by
 obtain ⟨t, ht⟩ := (h.ok u (.head _)).pt
 exact ⟨t, _, u, .head _, ht, rfl⟩
theorem NF.uniq : ∀ {l l' : List (GU T F)}, NF l → NF l' → (∀ t v, Has l t v ↔ Has l' t v) → l = l'
 | [], [], _, _, _ => rfl
 | [], u :: l, _, h', H => by
  obtain ⟨t, v, h⟩ := h'.pts
  exact absurd ((H t v).2 h) Zen
 | u :: l, [], h, _, H => by
  obtain ⟨t, v, h⟩ := h.pts
  exact absurd ((H t v).1 h) Zen
 | u :: l, u' :: l', h, h', H => by
  have e := ZxI h h' H
  subst e
  have no : ∀ {l : List (GU T F)} (h : NF (u :: l)) {t : T} {v : V}, u.mem t → ¬ Has l t v := fun h t v hm ⟨w, hw, h1, _⟩ => ((List.pairwise_cons.1 h.pw).1 w hw).bf.dis hm h1
  rw [NF.uniq h.tail h'.tail fun t v => ?_]
  constructor
  ·intro h1
   rcases Za3.1 ((H t v).1 (Za3.2 (.inr h1))) with h2 | h2
   ·exact absurd h1 (no h h2.1)
   ·exact h2
  ·intro h1
   rcases Za3.1 ((H t v).2 (Za3.2 (.inr h1))) with h2 | h2
   ·exact absurd h1 (no h' h2.1)
   ·exact h2
def Held (xs : List (GU T F)) (t : T) : Prop := ∃ ys u, xs = ys ++ [u] ∧ u.b = t ∧ u.ob = false
def NoExt (xs : List (GU T F)) (x : GU T F) : Prop := ∀ ys u, xs = ys ++ [u] → u.b = x.a → u.a ≠ u.b → u.ob = false → u.f ≠ x.f
def NoClo (xs : List (GU T F)) (x : GU T F) : Prop := ∀ ys u, xs = ys ++ [u] → u.b = x.a → u.a ≠ u.b → va u.f x.a ≠ va x.f x.a
def PvI (pv : Option (GU T F)) (x : GU T F) : Prop := ∃ q, pv = some q ∧ q.a = q.b ∧ q.a = x.a
def NxI (nx : Option (GU T F)) (x : GU T F) : Prop := ∃ n, nx = some n ∧ n.a = x.a ∧ va n.f x.a = va x.f x.a
inductive Stp (pv nx : Option (GU T F)) : List (GU T F) → GU T F → List (GU T F) → Prop where
 | ext {ys u x} : x.a ≠ x.b → u.b = x.a → u.a ≠ u.b → u.ob = false → u.f = x.f → Stp pv nx (ys ++ [u]) x (ys ++ [⟨u.a, x.b, u.oa, true, u.f⟩])
 | appO {xs x} : x.a ≠ x.b → NoExt xs x → PvI pv x → ¬ Held xs x.a → Stp pv nx xs x (xs ++ [⟨x.a, x.b, false, x.ob, x.f⟩])
 | appN {xs x} : x.a ≠ x.b → NoExt xs x → ¬ (PvI pv x ∧ ¬ Held xs x.a) → Stp pv nx xs x (xs ++ [x])
 | clo {ys u x} : x.a = x.b → u.b = x.a → u.a ≠ u.b → va u.f x.a = va x.f x.a → Stp pv nx (ys ++ [u]) x (ys ++ [⟨u.a, u.b, u.oa, false, u.f⟩])
 | lft {xs x} : x.a = x.b → NoClo xs x → NxI nx x → Stp pv nx xs x xs
 | rdc {xs x} : x.a = x.b → NoClo xs x → ¬ NxI nx x → Stp pv nx xs x (xs ++ [⟨x.a, x.b, x.oa, x.ob, red x.f x.a⟩])
inductive Mk : Option (GU T F) → List (GU T F) → List (GU T F) → List (GU T F) → Prop where
 | nil {pv xs} : Mk pv xs [] xs
 | cons {pv xs x xs' rest out} : Stp pv rest.head? xs x xs' → Mk (some x) xs' rest out → Mk pv xs (x :: rest) out
def GU.atom (x : GU T F) : Prop := (x.a = x.b ∧ x.oa = false ∧ x.ob = false) ∨ (x.a < x.b ∧ x.oa = true ∧ x.ob = true)
structure Inv (pv : Option (GU T F)) (xs rem : List (GU T F)) (S : T → V → Prop) : Prop where
 nf : NF xs
 at_ : ∀ x ∈ rem, x.atom
 ch : rem.Pairwise GU.bfr
 sep : ∀ u ∈ xs, ∀ x ∈ rem, u.bfr x
 st : (∃ q x rest, pv = some q ∧ q.a = q.b ∧ q.oa = false ∧ q.ob = false ∧ rem = x :: rest ∧ x.a = q.a ∧ x.oa = true ∧ va x.f q.a = va q.f q.a ∧ (∀ u ∈ xs, u.bfr q) ∧ NoClo xs q ∧ ∀ t v, S t v ↔ Has xs t v ∨ (t = q.a ∧ va q.f t = v) ∨ Has rem t v)
  ∨ ((∀ q, pv = some q → q.a = q.b → Held xs q.a) ∧ (∀ ys u x rest, xs = ys ++ [u] → u.a = u.b → rem = x :: rest → x.a = u.b → va u.f x.a ≠ va x.f x.a) ∧ ∀ t v, S t v ↔ Has xs t v ∨ Has rem t v)
theorem NF.snoc {ys : List (GU T F)} {u x : GU T F} (h : NF (ys ++ [u])) (hx : x.ok) (hr : x.a = x.b → x.f = red x.f x.a) (ha : Adj u x) : NF (ys ++ [u] ++ [x]) := by
 refine ⟨fun w hw => ?_, fun w hw => ?_, ?_⟩
 ·rcases List.mem_append.1 hw with h1 | h1
  ·exact h.ok w h1
  ·rw [List.mem_singleton] at h1; subst h1; exact hx
 ·rcases List.mem_append.1 hw with h1 | h1
  ·exact h.rd w h1
  ·rw [List.mem_singleton] at h1; subst h1; exact hr
 ·refine List.pairwise_append.2 ⟨h.pw, List.pairwise_singleton _ _, fun y hy w hw => ?_⟩
  rw [List.mem_singleton] at hw
  subst hw
  rcases List.mem_append.1 hy with h1 | h1
  ·have hyu := (List.pairwise_append.1 h.pw).2.2 y h1 u (List.mem_singleton.2 rfl)
   have hu := h.ok u (by simp)
   have hyo := h.ok y (by simp [h1])
   have b1 := hyu.bf
   have b2 := ha.bf
   unfold GU.ok GU.bfr at *
   refine ⟨?_, fun h2 h3 => ?_, fun h2 h3 => ?_, fun h2 h3 => ?_⟩
   ·unfold GU.bfr; grind
   ·exfalso; grind
   ·exfalso; grind
   ·exfalso; grind
  ·rw [List.mem_singleton] at h1; subst h1; exact ha
theorem NF.one {x : GU T F} (hx : x.ok) (hr : x.a = x.b → x.f = red x.f x.a) : NF [x] :=
 ⟨fun w hw => by rw [List.mem_singleton] at hw; subst hw; exact hx, fun w hw => by rw [List.mem_singleton] at hw; subst hw; exact hr, List.pairwise_singleton _ _⟩
theorem NF.last {ys : List (GU T F)} {u u' : GU T F} (h : NF (ys ++ [u])) (ha : u'.a = u.a) (ho : u'.oa = u.oa) (hf : u'.f = u.f) (hl : u'.a < u'.b) : NF (ys ++ [u']) := by
 have hp := List.pairwise_append.1 h.pw
 refine ⟨fun w hw => ?_, fun w hw => ?_, ?_⟩
 ·rcases List.mem_append.1 hw with h1 | h1
  ·exact h.ok w (List.mem_append_left _ h1)
  ·rw [List.mem_singleton] at h1; subst h1; exact .inl hl
 ·rcases List.mem_append.1 hw with h1 | h1
  ·exact h.rd w (List.mem_append_left _ h1)
  ·rw [List.mem_singleton] at h1; subst h1; intro h2; grind
 ·refine List.pairwise_append.2 ⟨hp.1, List.pairwise_singleton _ _, fun y hy w hw => ?_⟩
  rw [List.mem_singleton] at hw
  subst hw
  have h1 := hp.2.2 y hy u (List.mem_singleton.2 rfl)
  have h2 := h1.bf
  refine ⟨?_, ?_, ?_, ?_⟩
  ·unfold GU.bfr at *; rw [ha, ho]; exact h2
  ·rw [ha, hf]; exact h1.n1
  ·rw [ha, ho, hf]; exact h1.n2
  ·rw [ha, hf]; exact h1.n3
theorem Zc2 {α : Type} {ys zs : List α} {u w : α} (h : ys ++ [u] = zs ++ [w]) : ys = zs ∧ u = w := by
 have := List.append_inj' h rfl
 exact ⟨this.1, by simpa using this.2⟩
theorem Zb3 {α : Type} (xs : List α) : xs = [] ∨ ∃ ys u, xs = ys ++ [u] := by
 rcases List.eq_nil_or_concat xs with h | ⟨ys, u, h⟩
 ·exact .inl h
 ·exact .inr ⟨ys, u, by simpa using h⟩
theorem NF.app {xs : List (GU T F)} {x : GU T F} (h : NF xs) (hx : x.ok) (hr : x.a = x.b → x.f = red x.f x.a) (ha : ∀ ys u, xs = ys ++ [u] → Adj u x) : NF (xs ++ [x]) := by
 rcases Zb3 xs with rfl | ⟨ys, u, rfl⟩
 ·exact NF.one hx hr
 ·exact h.snoc hx hr (ha ys u rfl)
theorem Zct {ys : List (GU T F)} {u : GU T F} {t : T} {v : V} : Has (ys ++ [u]) t v ↔ Has ys t v ∨ (u.mem t ∧ va u.f t = v) := by rw [ZhV, ZhP]
theorem Inv.step {pv : Option (GU T F)} {xs xs' rest : List (GU T F)} {x : GU T F} {S : T → V → Prop} (h : Inv pv xs (x :: rest) S) (hs : Stp pv rest.head? xs x xs') : Inv (some x) xs' rest S := by
 have hx := h.at_ x (.head _)
 have hat : ∀ y ∈ rest, y.atom := fun y hy => h.at_ y (.tail _ hy)
 obtain ⟨hxr, hch⟩ := List.pairwise_cons.1 h.ch
 have sx : ∀ u ∈ xs, u.bfr x := fun u hu => h.sep u hu x (.head _)
 have sr : ∀ u ∈ xs, ∀ y ∈ rest, u.bfr y := fun u hu y hy => h.sep u hu y (.tail _ hy)
 have hst := h.st
 have hnf := h.nf
 have inst : x.a = x.b → x.oa = false ∧ x.ob = false := fun e => by unfold GU.atom at hx; grind
 have long : x.a ≠ x.b → x.a < x.b ∧ x.oa = true ∧ x.ob = true := fun e => by unfold GU.atom at hx; grind
 -- a part that is a single instant is not awaited
 have noP : x.a = x.b → (∀ ys u y r, xs = ys ++ [u] → u.a = u.b → x :: rest = y :: r → y.a = u.b → va u.f y.a ≠ va y.f y.a) ∧ ∀ t v, S t v ↔ Has xs t v ∨ Has (x :: rest) t v := fun e => by
  rcases hst with ⟨q, y, r, -, -, -, -, h1, -, h2, -⟩ | ⟨-, h2, h3⟩
  ·injection h1 with h1 _
   subst h1
   have := (inst e).1
   rw [h2] at this
   cases this
  ·exact ⟨h2, h3⟩
 cases hs with
 | @ext ys u _ hl hb hu ho hf =>
  obtain ⟨hl1, hl2, hl3⟩ := long hl
  have hub := sx u (by simp)
  have huo := hnf.ok u (by simp)
  have hua : u.a < u.b := by unfold GU.ok at huo; grind
  have hS : ∀ t v, S t v ↔ Has (ys ++ [u]) t v ∨ Has (x :: rest) t v := by
   rcases hst with ⟨q, y, r, -, -, q1, -, h1, h2, -, -, h3, -⟩ | ⟨-, -, h3⟩
   ·injection h1 with h1 _
    subst h1
    have h4 := h3 u (by simp)
    unfold GU.bfr at h4
    grind
   ·exact h3
  refine ⟨hnf.last (u := u) rfl rfl rfl (by show u.a < x.b; grind), hat, hch, fun w hw y hy => ?_, .inr ⟨fun q hq e => ?_, fun zs w y r hz e _ _ => ?_, fun t v => ?_⟩⟩
  ·rcases List.mem_append.1 hw with h1 | h1
   ·exact sr w (List.mem_append_left _ h1) y hy
   ·rw [List.mem_singleton] at h1
    subst h1
    have := hxr y hy
    unfold GU.bfr at *
    grind
  ·injection hq with hq
   subst hq
   exact absurd e hl
  ·obtain ⟨-, rfl⟩ := Zc2 hz
   simp only at e
   grind
  ·rw [hS, Zct, Zct, Za3]
   have hm : (⟨u.a, x.b, u.oa, true, u.f⟩ : GU T F).mem t ↔ u.mem t ∨ x.mem t := by
    unfold GU.mem
    simp only [Bool.true_eq_false, and_false, or_false]
    grind
   rw [hm]
   simp only [hf]
   grind
 | @appO _ _ hl hne hp hh =>
  obtain ⟨hl1, hl2, hl3⟩ := long hl
  rcases hst with ⟨q, y, r, hpv, q0, q1, q2, h1, h2, -, h4, h5, h6, hS⟩ | ⟨hq, -, -⟩
  ·injection h1 with h1 h1'
   subst h1
   subst h1'
   refine ⟨hnf.app (.inl hl1) (fun e => absurd e hl) (fun ys u hxs => ?_), hat, hch, fun w hw y hy => ?_, .inr ⟨fun q hq e => ?_, fun zs w y r hz e _ _ => ?_, fun t v => ?_⟩⟩
   ·subst hxs
    have hub := h5 u (by simp)
    have huo := hnf.ok u (by simp)
    have h7 := h6 ys u rfl
    unfold GU.bfr GU.ok at *
    refine ⟨?_, fun e1 e2 => ?_, fun e1 e2 => ?_, fun e1 e2 => ?_⟩
    ·unfold GU.bfr; grind
    ·exfalso; simp only at *; grind
    ·simp only at *; rw [h2, h4]; refine h7 ?_ ?_ <;> grind
    ·exfalso; simp only at *; grind
   ·rcases List.mem_append.1 hw with h1 | h1
    ·exact sr w h1 y hy
    ·rw [List.mem_singleton] at h1
     subst h1
     have := hxr y hy
     unfold GU.bfr at *
     exact this
   ·injection hq with hq
    subst hq
    exact absurd e hl
   ·obtain ⟨-, rfl⟩ := Zc2 hz
    exact absurd e hl
   ·rw [hS, Zct, Za3]
    have hm : (⟨x.a, x.b, false, x.ob, x.f⟩ : GU T F).mem t ↔ t = q.a ∨ x.mem t := by
     unfold GU.mem
     simp only [and_true]
     grind
    rw [hm]
    have hv : t = q.a → va q.f t = va x.f t := fun e => by rw [e, h4]
    simp only
    grind
  ·obtain ⟨q, e1, e2, e3⟩ := hp
   exact absurd (e3 ▸ hq q e1 e2) hh
 | @appN _ _ hl hne hp =>
  obtain ⟨hl1, hl2, hl3⟩ := long hl
  rcases hst with ⟨q, y, r, hpv, q0, q1, q2, h1, h2, -, h4, h5, h6, hS⟩ | ⟨-, hI, hS⟩
  ·injection h1 with h1 h1'
   subst h1
   refine absurd ⟨⟨q, hpv, q0, h2.symm⟩, ?_⟩ hp
   rintro ⟨ys, u, rfl, e1, e2⟩
   have := h5 u (by simp)
   unfold GU.bfr at this
   grind
  ·refine ⟨hnf.app (.inl hl1) (fun e => absurd e hl) (fun ys u hxs => ?_), hat, hch, fun w hw y hy => ?_, .inr ⟨fun q hq e => ?_, fun zs w y r hz e _ _ => ?_, fun t v => ?_⟩⟩
   ·subst hxs
    have hub := sx u (by simp)
    refine ⟨hub, fun e1 e2 e3 => hne ys u rfl e1 (by grind) e2, fun e1 e2 => by grind, fun e1 e2 => hI ys u x rest rfl e2 rfl e1.symm⟩
   ·rcases List.mem_append.1 hw with h1 | h1
    ·exact sr w h1 y hy
    ·rw [List.mem_singleton] at h1
     subst h1
     exact hxr y hy
   ·injection hq with hq
    subst hq
    exact absurd e hl
   ·obtain ⟨-, rfl⟩ := Zc2 hz
    exact absurd e hl
   ·rw [hS, Zct, Za3]
    grind
 | @clo ys u _ hi hb hu hv =>
  obtain ⟨i1, i2⟩ := inst hi
  obtain ⟨-, hS⟩ := noP hi
  have hub := sx u (by simp)
  have huo := hnf.ok u (by simp)
  have hua : u.a < u.b := by unfold GU.ok at huo; grind
  refine ⟨hnf.last (u := u) rfl rfl rfl hua, hat, hch, fun w hw y hy => ?_, .inr ⟨fun q hq e => ?_, fun zs w y r hz e _ _ => ?_, fun t v => ?_⟩⟩
  ·rcases List.mem_append.1 hw with h1 | h1
   ·exact sr w (List.mem_append_left _ h1) y hy
   ·rw [List.mem_singleton] at h1
    subst h1
    have := hxr y hy
    unfold GU.bfr at *
    grind
  ·injection hq with hq
   subst hq
   exact ⟨ys, _, rfl, hb, rfl⟩
  ·obtain ⟨-, rfl⟩ := Zc2 hz
   exact absurd e hu
  ·rw [hS, Zct, Zct, Za3]
   have hm : (⟨u.a, u.b, u.oa, false, u.f⟩ : GU T F).mem t ↔ u.mem t ∨ t = x.a := by
    unfold GU.mem GU.bfr at *
    simp only [and_true]
    grind
   have hmx : x.mem t ↔ t = x.a := by
    unfold GU.mem
    grind
   have hvt : t = x.a → va u.f t = va x.f t := fun e => by rw [e, hv]
   rw [hm, hmx]
   simp only
   grind
 | @lft _ _ hi hc hn =>
  obtain ⟨i1, i2⟩ := inst hi
  obtain ⟨-, hS⟩ := noP hi
  obtain ⟨n, e1, e2, e3⟩ := hn
  cases rest with
  | nil => cases e1
  | cons m r =>
   simp only [List.head?_cons, Option.some.injEq] at e1
   subst e1
   have hxm := hxr m (.head _)
   refine ⟨hnf, hat, hch, sr, .inl ⟨x, m, r, rfl, hi, i1, i2, rfl, e2, ?_, e3, sx, hc, fun t v => ?_⟩⟩
   ·unfold GU.bfr at hxm; grind
   ·rw [hS, Za3 (u := x)]
    have hmx : x.mem t ↔ t = x.a := by
     unfold GU.mem
     grind
    rw [hmx]
 | @rdc _ _ hi hc hn =>
  obtain ⟨i1, i2⟩ := inst hi
  obtain ⟨-, hS⟩ := noP hi
  refine ⟨hnf.app (.inr ⟨hi, i1, i2⟩) (fun _ => (Fv.red_eq _ _ _ (Fv.va_red _ _)).symm) (fun ys u hxs => ?_), hat, hch, fun w hw y hy => ?_, .inr ⟨fun q hq e => ?_, fun zs w y r hz e hr hy => ?_, fun t v => ?_⟩⟩
  ·subst hxs
   have hub := sx u (by simp)
   have huo := hnf.ok u (by simp)
   have h7 := hc ys u rfl
   refine ⟨hub, fun e1 e2 => ?_, fun e1 e2 => ?_, fun e1 e2 => ?_⟩
   ·unfold GU.bfr at hub; simp only at *; grind
   ·simp only [Fv.va_red] at *
    refine h7 e1 ?_
    unfold GU.bfr GU.ok at *
    grind
   ·unfold GU.bfr GU.ok at *; simp only at *; grind
  ·rcases List.mem_append.1 hw with h1 | h1
   ·exact sr w h1 y hy
   ·rw [List.mem_singleton] at h1
    subst h1
    have := hxr y hy
    unfold GU.bfr at *
    exact this
  ·injection hq with hq
   subst hq
   exact ⟨xs, _, rfl, hi.symm, i2⟩
  ·obtain ⟨-, rfl⟩ := Zc2 hz
   subst hr
   simp only at e hy ⊢
   rw [hy, ← hi, Fv.va_red]
   intro e4
   exact hn ⟨y, rfl, by rw [hy, hi], e4.symm⟩
  ·rw [hS, Zct, Za3]
   have hmx : x.mem t ↔ t = x.a := by
    unfold GU.mem
    grind
   have hmy : (⟨x.a, x.b, x.oa, x.ob, red x.f x.a⟩ : GU T F).mem t ↔ t = x.a := by
    unfold GU.mem
    simp only
    grind
   have hvt : t = x.a → va (red x.f x.a) t = va x.f t := fun e => by rw [e, Fv.va_red]
   rw [hmx, hmy]
   simp only
   grind
theorem Mk.nf {pv : Option (GU T F)} {xs rem out : List (GU T F)} {S : T → V → Prop} (h : Mk pv xs rem out) : Inv pv xs rem S → NF out ∧ ∀ t v, Has out t v ↔ S t v := by
 induction h with
 | nil =>
  intro hi
  refine ⟨hi.nf, fun t v => ?_⟩
  rcases hi.st with ⟨q, x, r, -, -, -, -, h1, -⟩ | ⟨-, -, h3⟩
  ·cases h1
  ·rw [h3]
   exact ⟨.inl, fun h => h.resolve_right Zen⟩
 | cons hs _ ih => exact fun hi => ih (hi.step hs)
theorem Inv.start {al : List (GU T F)} (ha : ∀ x ∈ al, x.atom) (hc : al.Pairwise GU.bfr) : Inv none [] al (Has al) :=
 ⟨NF.nil, ha, hc, (fun u hu => by cases hu), .inr ⟨(fun q h => by cases h), (fun ys u x r h => by simp at h), fun t v => ⟨.inr, fun h => h.resolve_left Zen⟩⟩⟩
variable [DecidableEq T]
def GU.parts (u : GU T F) : List (GU T F) := (if u.oa = true then [] else [⟨u.a, u.a, false, false, u.f⟩]) ++ (if u.a = u.b then [] else ⟨u.a, u.b, true, true, u.f⟩ :: if u.ob = true then [] else [⟨u.b, u.b, false, false, u.f⟩])
theorem Zd3 {u x : GU T F} (h : x ∈ u.parts) : (x = ⟨u.a, u.a, false, false, u.f⟩ ∧ u.oa = false) ∨ (x = ⟨u.a, u.b, true, true, u.f⟩ ∧ u.a ≠ u.b) ∨ (x = ⟨u.b, u.b, false, false, u.f⟩ ∧ u.a ≠ u.b ∧ u.ob = false) := by
 unfold GU.parts at h
 rcases List.mem_append.1 h with h1 | h1
 ·split at h1
  ·cases h1
  ·rename_i ho
   rw [List.mem_singleton] at h1
   exact .inl ⟨h1, by simpa using ho⟩
 ·split at h1
  ·cases h1
  ·rename_i hi
   rcases List.mem_cons.1 h1 with h2 | h2
   ·exact .inr (.inl ⟨h2, hi⟩)
   ·split at h2
    ·cases h2
    ·rename_i ho
     rw [List.mem_singleton] at h2
     exact .inr (.inr ⟨h2, hi, by simpa using ho⟩)
theorem Znc {u x : GU T F} (hu : u.ok) (h : x ∈ u.parts) : x.atom := by
 unfold GU.atom GU.ok at *
 rcases Zd3 h with ⟨rfl, h1⟩ | ⟨rfl, h1⟩ | ⟨rfl, h1, h2⟩
 ·exact .inl ⟨rfl, rfl, rfl⟩
 ·exact .inr ⟨by simp only; grind, rfl, rfl⟩
 ·exact .inl ⟨rfl, rfl, rfl⟩
theorem Zn4 {u w x y : GU T F} (hu : u.ok) (hw : w.ok) (h : u.bfr w) (hx : x ∈ u.parts) (hy : y ∈ w.parts) : x.bfr y := by
 unfold GU.bfr GU.ok at *
 rcases Zd3 hx with ⟨rfl, h1⟩ | ⟨rfl, h1⟩ | ⟨rfl, h1, h2⟩ <;> rcases Zd3 hy with ⟨rfl, h3⟩ | ⟨rfl, h3⟩ | ⟨rfl, h3, h4⟩ <;> simp only <;> grind
theorem ZqH {u : GU T F} (hu : u.ok) : u.parts.Pairwise GU.bfr := by
 unfold GU.parts
 refine List.pairwise_append.2 ⟨?_, ?_, fun x hx y hy => ?_⟩
 ·split <;> simp
 ·split
  ·simp
  ·refine List.pairwise_cons.2 ⟨fun y hy => ?_, ?_⟩
   ·split at hy
    ·cases hy
    ·rw [List.mem_singleton] at hy
     subst hy
     exact .inr ⟨rfl, .inl rfl⟩
   ·split <;> simp
 ·split at hx
  ·cases hx
  ·rename_i ho
   rw [List.mem_singleton] at hx
   subst hx
   split at hy
   ·cases hy
   ·rename_i hi
    unfold GU.ok at hu
    rcases List.mem_cons.1 hy with h2 | h2
    ·subst h2
     exact .inr ⟨rfl, .inr rfl⟩
    ·split at h2
     ·cases h2
     ·rw [List.mem_singleton] at h2
      subst h2
      exact .inl (by simp only; grind)
theorem Zoo {u : GU T F} (hu : u.ok) {t : T} {v : V} : Has u.parts t v ↔ u.mem t ∧ va u.f t = v := by
 constructor
 ·rintro ⟨x, hx, h1, h2⟩
  unfold GU.mem GU.ok at *
  rcases Zd3 hx with ⟨rfl, h3⟩ | ⟨rfl, h3⟩ | ⟨rfl, h3, h4⟩ <;> simp only at h1 h2 <;> refine ⟨?_, h2⟩ <;> grind
 ·rintro ⟨h1, h2⟩
  unfold GU.parts
  rw [ZhV]
  by_cases ha : u.a = t
  ·have hoa : u.oa = false := by unfold GU.mem at h1; grind
   refine .inl ?_
   rw [hoa, if_neg (by decide), ZhP]
   exact ⟨⟨.inr ⟨ha, rfl⟩, .inr ⟨ha.symm, rfl⟩⟩, h2⟩
  ·refine .inr ?_
   have hne : u.a ≠ u.b := by unfold GU.mem GU.ok at *; grind
   rw [if_neg hne, Za3]
   by_cases hb : t = u.b
   ·have hob : u.ob = false := by unfold GU.mem at h1; grind
    refine .inr ?_
    rw [hob, if_neg (by decide), ZhP]
    exact ⟨⟨.inr ⟨hb.symm, rfl⟩, .inr ⟨hb, rfl⟩⟩, h2⟩
   ·refine .inl ⟨?_, h2⟩
    unfold GU.mem at *
    simp only
    grind
def partsL (us : List (GU T F)) : List (GU T F) := us.flatMap GU.parts
theorem Zec (u : GU T F) (us : List (GU T F)) : partsL (u :: us) = u.parts ++ partsL us := by simp [partsL]
theorem Zo2 {us : List (GU T F)} (h : ∀ u ∈ us, u.ok) : ∀ x ∈ partsL us, x.atom := fun x hx => by
 obtain ⟨u, hu, h1⟩ := List.mem_flatMap.1 hx
 exact Znc (h u hu) h1
theorem Zib : ∀ {us : List (GU T F)}, (∀ u ∈ us, u.ok) → us.Pairwise GU.bfr → (partsL us).Pairwise GU.bfr
 | [], _, _ => by simp [partsL]
 | u :: us, h, hp => by
  obtain ⟨h1, h2⟩ := List.pairwise_cons.1 hp
  rw [Zec]
  refine List.pairwise_append.2 ⟨ZqH (h u (.head _)), Zib (fun w hw => h w (.tail _ hw)) h2, fun x hx y hy => ?_⟩
  obtain ⟨w, hw, hy⟩ := List.mem_flatMap.1 hy
  exact Zn4 (h u (.head _)) (h w (.tail _ hw)) (h1 w hw) hx hy
theorem Zg2 : ∀ {us : List (GU T F)}, (∀ u ∈ us, u.ok) → ∀ {t : T} {v : V}, Has (partsL us) t v ↔ Has us t v
 | [], _, t, v => by simp [partsL]
 | u :: us, h, t, v => by rw [Zec, ZhV, Zoo (h u (.head _)), Za3, Zg2 fun w hw => h w (.tail _ hw)]
theorem ZeZ : ∀ {l : List (GU T F)}, (∀ u ∈ l, u.ok) → (∀ i (h : i + 1 < l.length), (l[i]).bfr l[i + 1]) → l.Pairwise GU.bfr
 | [], _, _ => .nil
 | [u], _, _ => List.pairwise_singleton _ _
 | u :: w :: l, hok, h => by
  have h1 : u.bfr w := h 0 (by simp)
  have h2 : (w :: l).Pairwise GU.bfr := ZeZ (fun x hx => hok x (.tail _ hx)) fun i hi => h (i + 1) (by simpa using hi)
  refine List.pairwise_cons.2 ⟨fun y hy => ?_, h2⟩
  rcases List.mem_cons.1 hy with rfl | hy
  ·exact h1
  ·exact h1.tr (hok w (.tail _ (.head _))) ((List.pairwise_cons.1 h2).1 y hy)
def Dis (u w : GU T F) : Prop := ∀ t, ¬ (u.mem t ∧ w.mem t)
theorem Dis.symm {u w : GU T F} (h : Dis u w) : Dis w u := fun t ⟨h1, h2⟩ => h t ⟨h2, h1⟩
theorem GU.bfr.Dis {u w : GU T F} (h : u.bfr w) : Go.Vt.Dis u w := fun _ ⟨h1, h2⟩ => h.dis h1 h2
theorem Zmc {u w : GU T F} (hu : u.ok) (hw : w.ok) (hle : u.a < w.a ∨ (u.a = w.a ∧ (u.oa = true → w.oa = true))) (h : Dis u w) : u.bfr w := by
 rcases Classical.em (u.bfr w) with h0 | h0
 ·exact h0
 ·exfalso
  rcases Classical.em (w.a < u.b) with h1 | h1
  ·rcases hw with h2 | ⟨h2, h3, h4⟩
   ·obtain ⟨t, h3, h4, h5⟩ := dens2 h1 h2
    refine h t ⟨⟨.inl (by grind), .inl h4⟩, ⟨.inl h3, .inl h5⟩⟩
   ·refine h w.a ⟨⟨?_, .inl h1⟩, ⟨.inr ⟨rfl, h3⟩, .inr ⟨h2, h4⟩⟩⟩
    rcases hle with h5 | ⟨h5, h6⟩
    ·exact .inl h5
    ·refine .inr ⟨h5, ?_⟩
     rcases ho : u.oa with _ | _
     ·rfl
     ·rw [h6 ho] at h3; cases h3
  ·unfold GU.bfr at h0
   have h2 : u.b = w.a := by unfold GU.ok at *; grind
   have h3 : u.ob = false ∧ w.oa = false := by grind
   refine h w.a ⟨⟨?_, .inr ⟨h2.symm, h3.1⟩⟩, ⟨.inr ⟨rfl, h3.2⟩, ?_⟩⟩
   ·unfold GU.ok at hu; grind
   ·unfold GU.ok at hw; grind
theorem Zj9 {l m : List (GU T F)} (h : l.Perm m) : l.Pairwise Dis ↔ m.Pairwise Dis := h.pairwise_iff fun h => h.symm
theorem Zqr {l m : List (GU T F)} (h : l.Perm m) {t : T} {v : V} : Has l t v ↔ Has m t v := by
 unfold Has
 exact ⟨fun ⟨u, hu, k⟩ => ⟨u, h.mem_iff.1 hu, k⟩, fun ⟨u, hu, k⟩ => ⟨u, h.mem_iff.2 hu, k⟩⟩
end
end Go.Vt
namespace Go.Vt
open Go.RowKit Go.Proofs
open Go.Proofs.Tryz (prog)
section
open Fv (va red)
section
variable {α : Type} [Inhabited α]
def swpG (xs : List α) (j : Nat) : List α := (xs.set (j + 1) (gi xs (j : Int))).set j (gi xs ((j + 1 : Nat) : Int))
def dwnG (c : α → α → Int) (xs : List α) : Nat → List α
 | 0 => xs
 | j + 1 => if c (gi xs ((j + 1 : Nat) : Int)) (gi xs (j : Int)) < 0 then dwnG c (swpG xs j) j else xs
def srtG (c : α → α → Int) (xs : List α) : Nat → List α
 | 0 => xs
 | i + 1 => dwnG c (srtG c xs i) (i + 1)
theorem ZcV (xs : List α) (j : Nat) : (swpG xs j).length = xs.length := by simp [swpG]
theorem Zht {xs : List α} {j p : Nat} (h : j + 1 < xs.length) (hp : p < xs.length) : gi (swpG xs j) (p : Int) = if p = j then gi xs ((j + 1 : Nat) : Int) else if p = j + 1 then gi xs (j : Int) else gi xs (p : Int) := by
 rw [Zk (by rw [ZcV]; exact hp)]
 unfold swpG
 rw [List.getElem_set, List.getElem_set]
 by_cases h1 : p = j
 ·subst h1; simp
 ·rw [if_neg (fun h => h1 h.symm), if_neg h1]
  by_cases h2 : p = j + 1
  ·subst h2; simp
  ·rw [if_neg (fun h => h2 h.symm), if_neg h2, Zk hp]
theorem Znz {xs : List α} {j : Nat} (h : j + 1 < xs.length) : (swpG xs j).Perm xs := by
 have e : xs = xs.take j ++ xs[j] :: xs[j + 1] :: xs.drop (j + 2) := by
  rw [← List.drop_eq_getElem_cons h, ← List.drop_eq_getElem_cons (by omega), List.take_append_drop]
 have e2 : swpG xs j = xs.take j ++ xs[j + 1] :: xs[j] :: xs.drop (j + 2) := by
  apply List.ext_getElem
  ·rw [ZcV]
   simp only [Wp, Wt, Wu, List.length_drop]
   omega
  ·intro p h1 h2
   have hp : p < xs.length := by rw [ZcV] at h1; exact h1
   have h3 := Zht h hp
   rw [Zk h1, Zk h, Zk (show j < xs.length by omega), Zk hp] at h3
   rw [h3, List.getElem_append]
   simp only [Wt, Nat.min_eq_left (show j ≤ xs.length by omega)]
   by_cases h4 : p < j
   ·rw [dif_pos h4, if_neg (by omega), if_neg (by omega)]
    simp
   ·rw [dif_neg h4]
    by_cases h5 : p = j
    ·subst h5; simp
    ·rw [if_neg h5]
     by_cases h6 : p = j + 1
     ·subst h6; simp
     ·rw [if_neg h6]
      obtain ⟨q, rfl⟩ : ∃ q, p = j + 2 + q := ⟨p - (j + 2), by omega⟩
      simp only [show j + 2 + q - j = q + 1 + 1 by omega, List.getElem_cons_succ, List.getElem_drop]
 have h7 : (xs.take j ++ xs[j + 1] :: xs[j] :: xs.drop (j + 2)).Perm (xs.take j ++ xs[j] :: xs[j + 1] :: xs.drop (j + 2)) := (List.Perm.swap _ _ _).append_left _
 rw [e2]
 exact h7.trans (by rw [← e])
theorem Zid (c : α → α → Int) : ∀ (j : Nat) (xs : List α), j < xs.length → (dwnG c xs j).Perm xs
 | 0, _, _ => .refl _
 | j + 1, xs, h => by
  rw [dwnG]
  split
  ·exact (Zid c j _ (by rw [ZcV]; omega)).trans (Znz h)
  ·exact .refl _
theorem ZbL (c : α → α → Int) (xs : List α) : ∀ i, i < xs.length → (srtG c xs i).Perm xs
 | 0, _ => .refl _
 | i + 1, h => by
  have h1 := ZbL c xs i (by omega)
  rw [srtG]
  exact (Zid c _ _ (by rw [h1.length_eq]; exact h)).trans h1
section
variable {c : α → α → Int} {le : α → α → Prop} (h1 : ∀ x y, c x y < 0 → le x y) (h2 : ∀ x y, ¬ c x y < 0 → le y x) (h3 : ∀ x y z, le x y → le y z → le x z)
include h1 h2 h3
theorem Zj2 : ∀ (j n : Nat) (xs : List α), j < n → n ≤ xs.length → (∀ p q : Nat, p < q → q < n → q ≠ j → le (gi xs (p : Int)) (gi xs (q : Int))) → ∀ p q : Nat, p < q → q < n → le (gi (dwnG c xs j) (p : Int)) (gi (dwnG c xs j) (q : Int))
 | 0, n, xs, _, _, H, p, q, hpq, hq => H p q hpq hq (by omega)
 | j + 1, n, xs, hj, hn, H, p, q, hpq, hq => by
  rw [dwnG]
  split
  ·rename_i hc
   refine Zj2 j n (swpG xs j) (by omega) (by rw [ZcV]; exact hn) (fun p q hpq hq hqj => ?_) p q hpq hq
   rw [Zht (by omega) (by omega), Zht (by omega) (by omega), if_neg hqj]
   by_cases e1 : q = j + 1
   ·rw [if_pos e1]
    by_cases e2 : p = j
    ·rw [if_pos e2]; exact h1 _ _ hc
    ·rw [if_neg e2, if_neg (by omega)]; exact H p j (by omega) (by omega) (by omega)
   ·rw [if_neg e1]
    by_cases e2 : p = j
    ·rw [if_pos e2]; exact H (j + 1) q (by omega) hq e1
    ·rw [if_neg e2]
     by_cases e3 : p = j + 1
     ·rw [if_pos e3]; exact H j q (by omega) hq e1
     ·rw [if_neg e3]; exact H p q hpq hq e1
  ·rename_i hc
   have h4 := h2 _ _ hc
   by_cases e1 : q = j + 1
   ·subst e1
    by_cases e2 : p = j
    ·subst e2; exact h4
    ·exact h3 _ _ _ (H p j (by omega) (by omega) (by omega)) h4
   ·exact H p q hpq hq e1
theorem ZcW (xs : List α) : ∀ i, i < xs.length → ∀ p q : Nat, p < q → q < i + 1 → le (gi (srtG c xs i) (p : Int)) (gi (srtG c xs i) (q : Int))
 | 0, _, p, q, _, _ => by omega
 | i + 1, h, p, q, hpq, hq => by
  have hl := (ZbL c xs i (by omega)).length_eq
  rw [srtG]
  exact Zj2 h1 h2 h3 (i + 1) (i + 2) _ (by omega) (by omega) (fun p q hpq hq hne => ZcW xs i (by omega) p q hpq (by omega)) p q hpq hq
end
end
theorem ZrO {a b : Rat} (h : a * b = 0) (ha : a ≠ 0) : b = 0 := by
 rcases Rat.mul_eq_zero.1 h with h1 | h1
 ·exact absurd h1 ha
 ·exact h1
theorem ZoU {x0 x1 y0 y1 c d : Rat} (hcd : c < d) (h1 : x0 + c * (x1 + c * 0) = y0 + c * (y1 + c * 0)) (h2 : x0 + d * (x1 + d * 0) = y0 + d * (y1 + d * 0)) : x0 = y0 ∧ x1 = y1 := by
 have h3 : (d - c) * (x1 - y1) = 0 := by grind
 have h4 := ZrO h3 (by grind)
 have h5 : x1 = y1 := by grind
 exact ⟨by grind, h5⟩
instance : Dns Rat := ⟨fun a b h => ⟨(a + b) / 2, by grind, by grind⟩⟩
instance : Fv ZF Rat Zad where
 va := pos
 red := lred
 va_red f t := by
  unfold lred pos
  simp only
  congr 1 <;> grind
 red_eq f g t h := by
  unfold pos at h
  injection h with h1 h2
  unfold lred
  rw [h1, h2]
 agree f g a b h hv := by
  obtain ⟨c, h1, h2⟩ := Dns.out a b h
  obtain ⟨d, h3, h4⟩ := Dns.out c b h2
  have e1 := hv c h1 h2
  have e2 := hv d (by grind) h4
  unfold pos at e1 e2
  injection e1 with p1 p2
  injection e2 with p3 p4
  have q1 := ZoU h3 p1 p3
  have q2 := ZoU h3 p2 p4
  cases f
  cases g
  simp_all
theorem ZoG (f : ZF) (t : Rat) : va f t = pos f t := rfl
theorem Zhu {f g : ZF} {t : Rat} : smL f g t = true ↔ va f t = va g t := by
 unfold smL
 rw [Wq, Ziv, Ziv, ZoG, ZoG]
 unfold lnX lnY pos
 simp only [Zad.mk.injEq]
 constructor
 ·rintro ⟨h1, h2⟩; constructor <;> grind
 ·rintro ⟨h1, h2⟩; constructor <;> grind
def absU (u : UL) : GU Rat ZF := ⟨u.In.From.P, u.In.To.P, u.In.OpenFrom, u.In.OpenTo, u.F⟩
structure RtOk (x : ZJ) : Prop where
 r : x.R = 0
 n : x.Neg = false
theorem ZbR {x y : ZJ} (hx : RtOk x) (hy : RtOk y) : x = y ↔ x.P = y.P := by
 obtain ⟨p, r, n⟩ := x
 obtain ⟨p', r', n'⟩ := y
 obtain ⟨h1, h2⟩ := hx
 obtain ⟨h3, h4⟩ := hy
 simp only at h1 h2 h3 h4
 subst h1
 subst h2
 subst h3
 subst h4
 simp
theorem IvOk.rf {K : Nat} {I : Zt} (h : IvOk K I) : RtOk I.From := ⟨h.r1, h.n1⟩
theorem IvOk.rt {K : Nat} {I : Zt} (h : IvOk K I) : RtOk I.To := ⟨h.r2, h.n2⟩
theorem ZqU {K K' : Nat} {u w : UL} (hu : IvOk K u.In) (hw : IvOk K' w.In) (h : absU u = absU w) : u = w := by
 obtain ⟨⟨f, t, o, c⟩, F⟩ := u
 obtain ⟨⟨f', t', o', c'⟩, F'⟩ := w
 unfold absU at h
 injection h with h1 h2 h3 h4 h5
 simp only at h1 h2 h3 h4 h5
 have e1 := (ZbR hu.rf hw.rf).2 h1
 have e2 := (ZbR hu.rt hw.rt).2 h2
 simp only at e1 e2
 subst e1
 subst e2
 subst h3
 subst h4
 subst h5
 rfl
theorem Zj5 {K K' : Nat} : ∀ {l m : List UL}, (∀ u ∈ l, IvOk K u.In) → (∀ u ∈ m, IvOk K' u.In) → l.map absU = m.map absU → l = m
 | [], [], _, _, _ => rfl
 | [], _ :: _, _, _, h => by simp at h
 | _ :: _, [], _, _, h => by simp at h
 | u :: l, w :: m, hl, hm, h => by
  simp only [List.map_cons, List.cons.injEq] at h
  rw [ZqU (hl u (.head _)) (hm w (.head _)) h.1, Zj5 (fun x hx => hl x (.tail _ hx)) (fun x hx => hm x (.tail _ hx)) h.2]
theorem Zgy {u w : UL} : aprt u.In w.In = true ↔ (absU u).bfr (absU w) := by
 unfold aprt GU.bfr absU
 simp
theorem Zwp (xs : List UL) (j : Nat) : swp xs j = swpG xs j := rfl
theorem Zrs : ∀ (j : Nat) (xs : List UL), dwn xs j = dwnG cmpU xs j
 | 0, _ => rfl
 | j + 1, xs => by rw [dwn, dwnG, Zrs j, Zwp]
theorem Zmh (xs : List UL) : ∀ i, srt xs i = srtG cmpU xs i
 | 0 => rfl
 | i + 1 => by rw [srt, srtG, Zrs, Zmh xs i]
theorem Ze5 (us : List UL) : (sor us).Perm us := by
 rcases us with _ | ⟨u, us⟩
 ·exact .refl _
 ·unfold sor
  rw [Zmh]
  exact ZbL _ _ _ (by simp)
def leU (u w : UL) : Prop := u.In.From.P < w.In.From.P ∨ (u.In.From.P = w.In.From.P ∧ opn u.In ≤ opn w.In)
theorem Zis {a b : Int} : Lib.compareInt a b < 0 ↔ a < b := by
 unfold Lib.compareInt
 split
 ·omega
 ·split <;> omega
theorem Zj6 {a b : Int} : Lib.compareInt a b = 0 ↔ a = b := by
 unfold Lib.compareInt
 split
 ·omega
 ·split <;> omega
theorem Zsg {u w : UL} (h : cmpU u w < 0) : leU u w := by
 unfold cmpU orL at h
 split at h
 ·rename_i h1
  have h1 := ZfS.1 h1
  refine .inr ⟨h1, ?_⟩
  unfold orL at h
  split at h
  ·rename_i h2
   have := Zj6.1 h2
   omega
  ·have := Zis.1 h
   omega
 ·exact .inl (ZiS.1 h)
theorem Zsm {u w : UL} (h : ¬ cmpU u w < 0) : leU w u := by
 unfold cmpU orL at h
 split at h
 ·rename_i h1
  have h1 := ZfS.1 h1
  refine .inr ⟨h1.symm, ?_⟩
  unfold orL at h
  split at h
  ·rename_i h2
   have := Zj6.1 h2
   omega
  ·have : ¬ opn u.In < opn w.In := fun k => h (Zis.2 k)
   omega
 ·rename_i h1
  refine .inl ?_
  have h2 : ¬ u.In.From.P < w.In.From.P := fun k => h (ZiS.2 k)
  have h3 : ¬ u.In.From.P = w.In.From.P := fun k => h1 (ZfS.2 k)
  grind
theorem Ztw {u v w : UL} (h : leU u v) (k : leU v w) : leU u w := by
 unfold leU at *
 rcases h with h | ⟨h1, h2⟩ <;> rcases k with k | ⟨k1, k2⟩
 ·exact .inl (by grind)
 ·exact .inl (by grind)
 ·exact .inl (by grind)
 ·exact .inr ⟨by grind, by omega⟩
theorem Zs6 (us : List UL) (p q : Nat) (hpq : p < q) (hq : q < us.length) : leU (gi (sor us) (p : Int)) (gi (sor us) (q : Int)) := by
 unfold sor
 rw [Zmh]
 exact ZcW (c := cmpU) (le := leU) (fun _ _ => Zsg) (fun _ _ => Zsm) (fun _ _ _ => Ztw) us (us.length - 1) (by omega) p q hpq (by omega)
theorem ZoL {u : UL} {K : Nat} (h : IvOk K u.In) : (atU u).map absU = (absU u).parts := by
 have e : (u.In.From = u.In.To) ↔ (absU u).a = (absU u).b := ZbR h.rf h.rt
 unfold atU GU.parts
 rw [List.map_append]
 congr 1
 ·show List.map absU (if u.In.OpenFrom = true then [] else _) = if u.In.OpenFrom = true then [] else _
  split <;> rfl
 ·by_cases hi : u.In.From = u.In.To
  ·rw [if_pos hi, if_pos (e.1 hi)]
   rfl
  ·rw [if_neg hi, if_neg (fun k => hi (e.2 k))]
   show List.map absU (_ :: if u.In.OpenTo = true then [] else _) = _ :: if u.In.OpenTo = true then [] else _
   split <;> rfl
theorem Zhg {us : List UL} {K : Nat} (h : ∀ u ∈ us, IvOk K u.In) : ∀ m, m ≤ us.length → (atm us m).map absU = partsL ((us.take m).map absU)
 | 0, _ => rfl
 | m + 1, hm => by
  have hg := Zk (xs := us) (i := m) (by omega)
  rw [atm, List.map_append, Zhg h m (by omega), ZoL (h _ (Z0 (by omega))), Wn (by omega), List.map_append, partsL, partsL, List.flatMap_append, hg]
  simp
theorem ZbJ (ys : List UL) (u : UL) : lstU (ys ++ [u]) = u := by
 unfold lstU
 rw [Zc8 (by simp only [Wp, List.length_singleton]; omega)]
 simp only [Wp, List.length_singleton]
 rw [List.getElem_append_right (by omega)]
 simp
theorem Zij (ys : List UL) (u w : UL) : turn (ys ++ [u]) w = ys ++ [w] := by
 unfold turn
 simp
theorem Zk0 {u : UL} {K : Nat} (h : IvOk K u.In) : isI u = true ↔ (absU u).a = (absU u).b := by
 unfold isI
 rw [decide_eq_true_iff]
 exact ZbR h.rf h.rt
theorem ZdQ {ys' : List UL} {u' : UL} {ys : List (GU Rat ZF)} {u : GU Rat ZF} (h : (ys' ++ [u']).map absU = ys ++ [u]) : u = absU u' := by
 rw [List.map_append] at h
 exact (Zc2 h).2.symm
theorem ZeR (zs : List UL) (w : UL) (t : ZJ) : bef (zs ++ [w]) t = (decide (w.In.To = t) && !decide (w.In.From = w.In.To)) := by
 unfold bef
 rw [ZbJ, Wc (by simp : 0 < (zs ++ [w]).length), Bool.true_and]
theorem Zpo (zs : List UL) (w : UL) (t : ZJ) : hld (zs ++ [w]) t = (decide (w.In.To = t) && !w.In.OpenTo) := by
 unfold hld
 rw [ZbJ, Wc (by simp : 0 < (zs ++ [w]).length), Bool.true_and]
def pvO (al : List UL) (i : Nat) : Option (GU Rat ZF) := if i = 0 then none else some (absU (gi al ((i : Int) - 1)))
def nxO (al : List UL) (i : Nat) : Option (GU Rat ZF) := if i + 1 < al.length then some (absU (gi al ((i : Int) + 1))) else none
theorem Zqd {xs : List UL} (hxs : ∀ v ∈ xs, UOk v) {t : ZJ} (ht : RtOk t) : hld xs t = true ↔ Held (xs.map absU) t.P := by
 rcases Zb3 xs with rfl | ⟨zs, w, rfl⟩
 ·unfold hld Held
  simp
 ·rw [Zpo]
  have hw := hxs w (by simp)
  simp only [Wq, decide_eq_true_eq, Bool.not_eq_true']
  rw [ZbR hw.i.rt ht]
  constructor
  ·rintro ⟨h1, h2⟩
   exact ⟨zs.map absU, absU w, by simp, h1, h2⟩
  ·rintro ⟨ys, u, h1, h2, h3⟩
   have := ZdQ h1
   subst this
   exact ⟨h2, h3⟩
theorem ZsY {al xs : List UL} {i : Nat} {x : UL} (hi : i < al.length) (hal : ∀ u ∈ al, UIn u) (hx : UIn x) (hxs : ∀ v ∈ xs, UOk v) : Stp (pvO al i) (nxO al i) (xs.map absU) (absU x) ((nstp al i xs x).map absU) := by
 have hprev : ∀ q, pvO al i = some q → 0 < i ∧ q = absU (gi al ((i : Int) - 1)) ∧ UIn (gi al ((i : Int) - 1)) := fun q hq => by
  unfold pvO at hq
  split at hq
  ·cases hq
  ·injection hq with hq
   exact ⟨by omega, hq.symm, hal _ (Z0 (by omega))⟩
 have hI := Zk0 hx.i
 unfold nstp
 by_cases hi0 : isI x = true
 ·have hie := hI.1 hi0
  rw [if_neg (by rw [hi0]; decide)]
  have noClo : cC xs x = false → NoClo (xs.map absU) (absU x) := fun hC ys u h e1 e2 e3 => by
   rcases Zb3 xs with rfl | ⟨zs, w, rfl⟩
   ·simp at h
   ·have := ZdQ h
    subst this
    have hw := hxs w (by simp)
    have h2 : cC (zs ++ [w]) x = true := by
     unfold cC
     rw [ZeR, ZbJ, (Zhu.2 e3 : smL w.F x.F x.In.From.P = true), Wc ((ZbR hw.i.rt hx.i.rf).2 e1), We (fun k => e2 ((ZbR hw.i.rf hw.i.rt).1 k))]
     rfl
    rw [hC] at h2
    cases h2
  by_cases hC : cC xs x = true
  ·rw [if_pos hC]
   rcases Zb3 xs with rfl | ⟨zs, w, rfl⟩
   ·cases hC
   ·have hw := hxs w (by simp)
    unfold cC at hC
    rw [ZeR, ZbJ] at hC
    simp only [Wq, decide_eq_true_eq, Bool.not_eq_true', decide_eq_false_iff_not] at hC
    rw [Zij, ZbJ, List.map_append, List.map_append]
    exact .clo hie ((ZbR hw.i.rt hx.i.rf).1 hC.1.1) (fun k => hC.1.2 ((ZbR hw.i.rf hw.i.rt).2 k)) (Zhu.1 hC.2)
  ·rw [if_neg hC]
   have hno := noClo (by simpa using hC)
   have hnx : cD al i x = true ↔ NxI (nxO al i) (absU x) := by
    unfold cD NxI nxO
    by_cases h1 : i + 1 < al.length
    ·rw [Wc h1, if_pos h1, Bool.true_and]
     have hn := hal _ (Z0 (i := (i : Int) + 1) (xs := al) (by omega))
     simp only [Wq, decide_eq_true_eq, Option.some.injEq]
     rw [ZbR hn.i.rf hx.i.rf, Zhu]
     constructor
     ·rintro ⟨h2, h3⟩
      exact ⟨_, rfl, h2, h3⟩
     ·rintro ⟨n, rfl, h2, h3⟩
      exact ⟨h2, h3⟩
    ·rw [We h1, if_neg h1]
     simp
   by_cases hD : cD al i x = true
   ·rw [if_pos hD]
    exact .lft hie hno (hnx.1 hD)
   ·rw [if_neg hD, List.map_append]
    exact .rdc hie hno (fun k => hD (hnx.2 k))
 ·have hie : (absU x).a ≠ (absU x).b := fun k => hi0 (hI.2 k)
  rw [if_pos (by simpa using hi0)]
  by_cases hA : cA xs x = true
  ·rw [if_pos hA]
   rcases Zb3 xs with rfl | ⟨zs, w, rfl⟩
   ·cases hA
   ·have hw := hxs w (by simp)
    unfold cA at hA
    rw [ZeR, ZbJ] at hA
    simp only [Wq, decide_eq_true_eq, Bool.not_eq_true', decide_eq_false_iff_not] at hA
    rw [Zij, ZbJ, List.map_append, List.map_append]
    exact .ext hie ((ZbR hw.i.rt hx.i.rf).1 hA.1.1) (fun k => hA.1.2 ((ZbR hw.i.rf hw.i.rt).2 k)) hA.2.1 hA.2.2
  ·rw [if_neg hA]
   have hno : NoExt (xs.map absU) (absU x) := fun ys u h e1 e2 e3 e4 => by
    rcases Zb3 xs with rfl | ⟨zs, w, rfl⟩
    ·simp at h
    ·have := ZdQ h
     subst this
     have hw := hxs w (by simp)
     refine hA ?_
     unfold cA
     rw [ZeR, ZbJ, Wc ((ZbR hw.i.rt hx.i.rf).2 e1), We (fun k => e2 ((ZbR hw.i.rf hw.i.rt).1 k)), show w.In.OpenTo = false from e3, Wc (show w.F = x.F from e4)]
     rfl
   have hpv : cB al i xs x = true ↔ PvI (pvO al i) (absU x) ∧ ¬ Held (xs.map absU) (absU x).a := by
    have hh := Zqd hxs hx.i.rf
    unfold cB
    by_cases h1 : 0 < i
    ·rw [Wc h1, Bool.true_and]
     have hn := hal _ (Z0 (i := (i : Int) - 1) (xs := al) (by omega))
     simp only [Wq, decide_eq_true_eq, Bool.not_eq_true']
     rw [Zk0 hn.i, ZbR hn.i.rf hx.i.rf]
     unfold PvI pvO
     rw [if_neg (by omega)]
     constructor
     ·rintro ⟨h2, h3, h4⟩
      refine ⟨⟨_, rfl, h2, h3⟩, fun k => ?_⟩
      rw [hh.2 k] at h4
      cases h4
     ·rintro ⟨⟨q, h2, h3, h4⟩, h5⟩
      injection h2 with h2
      subst h2
      refine ⟨h3, h4, ?_⟩
      rcases h6 : hld xs x.In.From with _ | _
      ·rfl
      ·exact absurd (hh.1 h6) h5
    ·rw [We h1, Bool.false_and]
     unfold PvI pvO
     rw [if_pos (by omega)]
     simp
   by_cases hB : cB al i xs x = true
   ·rw [if_pos hB, List.map_append]
    have := hpv.1 hB
    exact .appO hie hno this.1 this.2
   ·rw [if_neg hB, List.map_append]
    exact .appN hie hno (fun k => hB (hpv.2 k))
theorem ZjT {al : List UL} (hal : ∀ u ∈ al, UIn u) : ∀ d i, i + d = al.length → Mk (pvO al i) ((nrm al i).map absU) ((al.drop i).map absU) ((nrm al al.length).map absU)
 | 0, i, h => by
  rw [Nat.add_zero] at h
  subst h
  rw [List.drop_length]
  exact .nil
 | d + 1, i, h => by
  have hi : i < al.length := by omega
  have ih := ZjT hal d (i + 1) (by omega)
  have hg := Zk hi
  have hx := hal _ (Z0 (i := (i : Int)) (xs := al) (by omega))
  rw [List.drop_eq_getElem_cons hi, List.map_cons, ← hg]
  have e1 : pvO al (i + 1) = some (absU (gi al (i : Int))) := by
   unfold pvO
   rw [if_neg (by omega), show ((i + 1 : Nat) : Int) - 1 = (i : Int) by omega]
  have e2 : ((al.drop (i + 1)).map absU).head? = nxO al i := by
   unfold nxO
   by_cases h1 : i + 1 < al.length
   ·rw [if_pos h1, List.drop_eq_getElem_cons h1, List.map_cons, List.head?_cons, ← Zk h1]
    rfl
   ·rw [if_neg h1, List.drop_eq_nil_of_le (by omega)]
    rfl
  refine .cons ?_ (e1 ▸ ih)
  rw [e2, nrm]
  exact ZsY hi hal hx (ZgZ hal i (by omega))
theorem Zfj {l : List UL} : ∀ m, m ≤ l.length → aprN l m = true → ∀ i (h : i + 1 < m), aprt (gi l (i : Int)).In (gi l ((i + 1 : Nat) : Int)).In = true
 | 0, _, _, i, h => by omega
 | m + 1, hm, ha, i, h => by
  rw [aprN, Wq] at ha
  rcases (by omega : i + 1 < m ∨ i + 1 = m) with h1 | h1
  ·exact Zfj m (by omega) ha.1 i h1
  ·subst h1
   have h2 := ha.2
   rw [Wc (by omega : 0 < i + 1), show ((i + 1 : Nat) : Int) - 1 = (i : Int) by omega, Bool.true_and, Bool.not_not] at h2
   exact h2
theorem Zfn {l : List UL} (H : ∀ i, i + 1 < l.length → aprt (gi l (i : Int)).In (gi l ((i + 1 : Nat) : Int)).In = true) : ∀ m, m ≤ l.length → aprN l m = true
 | 0, _ => rfl
 | m + 1, hm => by
  rw [aprN, Zfn H m (by omega), Bool.true_and]
  rcases m with _ | m
  ·rfl
  ·rw [Wc (by omega : 0 < m + 1), show ((m + 1 : Nat) : Int) - 1 = (m : Int) by omega, H m (by omega)]
   rfl
structure UVal (us : List UL) : Prop where
 i : ∀ u ∈ us, UIn u
 v : ∀ u ∈ us, (absU u).ok
theorem UVal.sor {us : List UL} (h : UVal us) : UVal (sor us) := ⟨fun u hu => h.i u (ZeB hu), fun u hu => h.v u (ZeB hu)⟩
theorem ZnB {us : List UL} (h : UVal us) (ha : aprN (sor us) (sor us).length = true) : ((sor us).map absU).Pairwise GU.bfr := by
 have hs := h.sor
 refine ZeZ (fun u hu => ?_) (fun i hi => ?_)
 ·obtain ⟨w, hw, rfl⟩ := List.mem_map.1 hu
  exact hs.v w hw
 ·rw [Ws] at hi
  have := Zfj _ (Wl _) ha i hi
  rw [Zgy, Zk (by omega), Zk hi] at this
  simpa using this
theorem ZmG {us : List UL} (h : UVal us) (ha : aprN (sor us) (sor us).length = true) : (us.map absU).Pairwise Dis :=
 (Zj9 ((Ze5 us).map absU)).1 ((ZnB h ha).imp fun h => h.Dis)
theorem Zg0 {us : List UL} (h : UVal us) (hd : (us.map absU).Pairwise Dis) : aprN (sor us) (sor us).length = true := by
 have hs := h.sor
 have hp := (Zj9 ((Ze5 us).map absU)).2 hd
 refine Zfn (fun i hi => ?_) _ (Wl _)
 have hl := Zf0 us
 have ho := Zs6 us i (i + 1) (by omega) (by omega)
 have hdi := List.pairwise_iff_getElem.1 hp i (i + 1) (by rw [Ws]; omega) (by rw [Ws]; omega) (by omega)
 rw [List.getElem_map, List.getElem_map, ← Zk (by omega), ← Zk hi] at hdi
 rw [Zgy]
 refine Zmc (hs.v _ (Z0 (by omega))) (hs.v _ (Z0 (by omega))) ?_ hdi
 rcases ho with h1 | ⟨h1, h2⟩
 ·exact .inl h1
 ·refine .inr ⟨h1, fun k => ?_⟩
  have k' : (gi (Go.Vt.sor us) (i : Int)).In.OpenFrom = true := k
  show (gi (Go.Vt.sor us) ((i + 1 : Nat) : Int)).In.OpenFrom = true
  unfold opn at h2
  rw [if_pos k'] at h2
  split at h2
  ·assumption
  ·omega
theorem ZoE {us : List UL} (h : UVal us) : nrmE us = 0 ↔ (us.map absU).Pairwise Dis := by
 unfold nrmE
 constructor
 ·intro k
  split at k
  ·exact ZmG h (by assumption)
  ·cases k
 ·intro k
  rw [if_pos (Zg0 h k)]
theorem Zn0 {us : List UL} (h : UVal us) (hd : (us.map absU).Pairwise Dis) : NF ((nrmR us).map absU) ∧ ∀ t v, Has ((nrmR us).map absU) t v ↔ Has (us.map absU) t v := by
 have hs := h.sor
 have ha := Zg0 h hd
 have hp := ZnB h ha
 have hok : ∀ u ∈ (Go.Vt.sor us).map absU, u.ok := fun u hu => by
  obtain ⟨w, hw, rfl⟩ := List.mem_map.1 hu
  exact hs.v w hw
 have hall := ZfC hs.i (Go.Vt.sor us).length (Wl _)
 have hmk := ZjT hall _ 0 (Nat.zero_add _)
 have hparts : (atm (Go.Vt.sor us) (Go.Vt.sor us).length).map absU = partsL ((Go.Vt.sor us).map absU) := by
  have := Zhg (fun u hu => (hs.i u hu).i) (Go.Vt.sor us).length (Wl _)
  rw [List.take_length] at this
  exact this
 rw [List.drop_zero, hparts] at hmk
 have hinv := Inv.start (Zo2 hok) (Zib hok hp)
 have e : nrmR us = nrm (atm (Go.Vt.sor us) (Go.Vt.sor us).length) (atm (Go.Vt.sor us) (Go.Vt.sor us).length).length := by
  unfold nrmR allU
  rw [if_pos ha]
 rw [e]
 obtain ⟨h1, h2⟩ := hmk.nf hinv
 refine ⟨h1, fun t v => ?_⟩
 rw [h2, Zg2 hok]
 exact Zqr ((Ze5 us).map absU)
theorem Zma {us : List UL} (h : ∀ u ∈ us, UIn u) : ∀ v ∈ nrmR us, UOk v := by
 unfold nrmR
 split
 ·exact ZgZ (ZfC (fun u hu => h u (ZeB hu)) _ (Wl _)) _ (Wl _)
 ·intro v hv
  cases hv
end
section
theorem Zsq (xs : List Zb) (j : Nat) : swpRp xs j = swpG xs j := rfl
theorem Zla : ∀ (j : Nat) (xs : List Zb), dwnRp xs j = dwnG cmpRp xs j
 | 0, _ => rfl
 | j + 1, xs => by rw [dwnRp, dwnG, Zla j, Zsq]
theorem Zhk (xs : List Zb) : ∀ i, srtRp xs i = srtG cmpRp xs i
 | 0 => rfl
 | i + 1 => by rw [srtRp, srtG, Zla, Zhk xs i]
theorem Zpp {a b : Zb} (h : fldR a = fldR b) : a = b := by
 obtain ⟨a1, a2, a3, a4, a5, a6, a7, a8⟩ := a
 obtain ⟨b1, b2, b3, b4, b5, b6, b7, b8⟩ := b
 simp only [fldR, List.cons.injEq, and_true] at h
 obtain ⟨rfl, rfl, rfl, rfl, rfl, rfl, rfl, h8⟩ := h
 cases a8 <;> cases b8 <;> simp at h8 ⊢
def leRp (a b : Zb) : Prop := cmpRp a b ≤ 0
theorem Zl6 {a b c : Zb} (h : leRp a b) (k : leRp b c) : leRp a c := Zhr h k
theorem Zd5 {a b : Zb} (h : leRp a b) (k : leRp b a) : a = b := by
 unfold leRp cmpRp at *
 rw [Zcw] at k
 exact Zpp (ZhF (by omega))
def sorted (xs : List Zb) : List Zb := srtRp xs (xs.length - 1)
theorem ZbS (xs : List Zb) : (sorted xs).length = xs.length := Zdf _ _
theorem ZaM (xs : List Zb) : (sorted xs).Perm xs := by
 unfold sorted
 rw [Zhk]
 rcases Nat.eq_zero_or_pos xs.length with h | h
 ·rw [List.length_eq_zero_iff.1 h]
  exact .refl _
 ·exact ZbL _ _ _ (by omega)
theorem ZeF (xs : List Zb) : (sorted xs).Pairwise leRp := by
 refine List.pairwise_iff_getElem.2 fun p q hp hq hpq => ?_
 have hl := ZbS xs
 rw [← Zk hp, ← Zk hq]
 unfold sorted
 rw [Zhk]
 refine ZcW (c := cmpRp) (le := leRp) (fun a b h => by unfold leRp; omega) (fun a b h => ?_) (fun _ _ _ => Zl6) xs (xs.length - 1) (by omega) p q hpq (by omega)
 unfold leRp cmpRp at *
 rw [Zcw]
 omega
theorem ZeA {xs ys : List Zb} (h : xs.Perm ys) : sorted xs = sorted ys :=
 Zcj (fun _ _ => Zd5) ((ZaM xs).trans (h.trans (ZaM ys).symm)) (ZeF xs) (ZeF ys)
abbrev vKs (bm : Nat) : Value := .func (.func 152) #[] [.pointer (some ⟨bm, 0, none⟩)].toArray
instance ZAe (w0 : World) (L : List Blk) (b : Nat) : SpecR prog w0 L 97 [.map (some b)] Nat (fun bm => vKs bm) (fun bm => [⟨bm, #[Value.map (some b)], 177⟩]) True := ⟨fun _ w _ => by
 refine Zg Tryz.func97 rfl Tryz.ntmps97 rfl ?_
 repeat (refine wkM ?_; intros)
 rename_i bm
 exact Zf rfl rfl (fun w hw => ⟨bm, rfl, hw⟩)⟩
abbrev SqRp (l : List (Zb × Bool)) : Type := (ys : { ys : List Zb // ys.Perm (pKR l) }) × SlS Zd 8 ys.1
instance ZCa (w0 : World) (L : List Blk) (bm b : Nat) (TB : TypeId) (l : List (Zb × Bool)) [k1 : AtC w0 L bm #[.map (some b)] TB] [k2 : AtO w0 L b (mRp l)] : SpecR prog w0 L 202 [.slice none 0 0, vKs bm] (SqRp l) (fun s => vSl s.2) (fun s => mS 35 s.2) (l.length ≤ 1048576) :=
 ⟨fun hl w hw => Zmm bm b TB l w hl (k1.out w hw) (k2.out w hw)⟩
instance ZBD (w0 : World) (L : List Blk) (bm b : Nat) (TB : TypeId) (l : List (Zb × Bool)) [k1 : AtC w0 L bm #[.map (some b)] TB] [k2 : AtO w0 L b (mRp l)] : SpecR prog w0 L 150 [vKs bm] (SqRp l) (fun s => vSl s.2) (fun s => mS 35 s.2) (l.length ≤ 1048576) := ⟨fun hl w hw => by
 have f1 := FoC.mk (k1.out w hw)
 have f2 := FoO.mk (k2.out w hw)
 refine Zg Tryz.func150 rfl Tryz.ntmps150 rfl ?_
 repeat (first | (refine wkM ?_; intros) | (refine wnM ?_ ?_; (focus (exact hl)); intros))
 rename_i s
 exact Zf rfl rfl (fun w hw => ⟨s, rfl, hw.sub suB⟩)⟩
instance ZBm (w0 : World) (L : List Blk) (bm b : Nat) (TB : TypeId) (l : List (Zb × Bool)) [k1 : AtC w0 L bm #[.map (some b)] TB] [k2 : AtO w0 L b (mRp l)] : SpecR prog w0 L 96 [vKs bm, vFn 98] (SlS Zd 8 (sorted (pKR l))) (fun s => vSl s) (fun s => mS 35 s) (l.length ≤ 12) := ⟨fun hl w hw => by
 have f1 := FoC.mk (k1.out w hw)
 have f2 := FoO.mk (k2.out w hw)
 refine Zg Tryz.func96 rfl Tryz.ntmps96 rfl ?_
 repeat (first | (refine wkM ?_; intros) | (refine wnM ?_ ?_; (focus (exact Wi hl (by decide))); intros))
 rename_i s
 obtain ⟨⟨ys, hp⟩, s⟩ := s
 simp only
 have hlen : ys.length ≤ 12 := by
  have := hp.length_eq
  rw [Ws] at this
  omega
 refine sZ rfl rfl ⟨hlen, fun _ _ => trivial⟩ ?_
 intro s'
 repeat (refine wkM ?_; intros)
 obtain ⟨s2, e1, e2⟩ := s'.1.like (ZeA hp).symm
 refine Zf rfl rfl (fun w hw => ⟨s2, ?_, ?_⟩)
 ·show Ending.returned (vSl s) = Ending.returned (vSl s2)
  rw [e1, s'.2]
 ·show Own _ (mS 35 s2) w
  rw [e2]
  exact hw.sub suB⟩
structure InkC (w0 : World) (L : List Blk) (px : Nat) (l : outParam (List (Zb × Bool))) : Prop where
 out : ∃ m1 m2 Tx, AtC w0 L px (vIn m1 m2) Tx ∧ AtO w0 L m1 (mRp l) ∧ AtO w0 L m2 (mEx [])
attribute [class] InkC
end
end Go.Vt
