/- that the order in which batches arrive does not matter (part 19 of 27.) Conditions: those that each statement names. -/
import Derived.Test.YtjicdlilgjdefaaGreatDoorKO1
import Derived.Test.YtjicdlilgjdefaaGreatDoorKO4
import Derived.Test.YtjicdlilgjdefaaGreatDoorKO11
import Derived.Test.YtjicdlilgjdefaaGreatDoorKO18
/- Least sums of chains of exchanges: the search by turns, plainly. Conditions: those that each statement names. -/
set_option linter.unusedSimpArgs false
set_option linter.unusedVariables false
set_option maxHeartbeats 2000000
namespace Go.Vt
structure Ed where
 u : Int
 v : Int
 w : Int
 i : Nat
deriving DecidableEq
abbrev Sm := Int → Option Int
def upd {α : Type} (s : Int → α) (x : Int) (a : α) : Int → α := fun y => if y = x then a else s y
theorem ZaF {α : Type} (s : Int → α) (x : Int) (a : α) : upd s x a x = a := if_pos rfl
theorem ZaD {α : Type} {s : Int → α} {x y : Int} {a : α} (h : y ≠ x) : upd s x a y = s y := if_neg h
def hit (s : Sm) (e : Ed) : Option Int := match s e.u with
 | none => none
 | some a => match s e.v with
  | none => some (a + e.w)
  | some b => if a + e.w < b then some (a + e.w) else none
inductive Rch (E : List Ed) (S : Int → Prop) : Int → Int → Prop
 | src {t : Int} : S t → Rch E S t 0
 | stp {e : Ed} {a : Int} : Rch E S e.u a → e ∈ E → Rch E S e.v (a + e.w)
def Dst (E : List Ed) (S : Int → Prop) (v m : Int) : Prop := Rch E S v m ∧ ∀ b, Rch E S v b → m ≤ b
theorem Dst.uniq {E : List Ed} {S : Int → Prop} {v m n : Int} (h : Dst E S v m) (k : Dst E S v n) : m = n := by
 have h1 := h.2 n k.1
 have h2 := k.2 m h.1
 omega
theorem ZtX {P : Int → Prop} {L : Int} (h : ∃ b, P b) (hL : ∀ b, P b → L ≤ b) : ∃ m, P m ∧ ∀ b, P b → m ≤ b := by
 have key : ∀ n : Nat, ∀ b, P b → b ≤ L + n → ∃ m, P m ∧ ∀ b, P b → m ≤ b := by
  intro n
  induction n with
  | zero =>
   intro b hb h1
   refine ⟨b, hb, fun c hc => ?_⟩
   have := hL c hc
   have h2 : b ≤ L := by simpa using h1
   omega
  | succ n ih =>
   intro b hb h1
   rcases Classical.em (∃ c, P c ∧ c < b) with ⟨c, c1, c2⟩ | h2
   ·exact ih c c1 (by omega)
   ·refine ⟨b, hb, fun c hc => ?_⟩
    rcases Int.lt_or_le c b with h3 | h3
    ·exact (h2 ⟨c, hc, h3⟩).elim
    ·exact h3
 obtain ⟨b, hb⟩ := h
 exact key (b - L).toNat b hb (by have := hL b hb; omega)
def PotE (E : List Ed) (p : Int → Int) : Prop := ∀ e ∈ E, p e.v ≤ p e.u + e.w
theorem Zkz {E : List Ed} {S : Int → Prop} {p : Int → Int} (hp : PotE E p) {L : Int} (hL : ∀ t, S t → p t ≤ L) {v b : Int} (h : Rch E S v b) : p v - L ≤ b := by
 induction h with
 | src h => have := hL _ h; omega
 | stp h1 h2 ih => have := hp _ h2; omega
theorem ZtF {E : List Ed} {S : Int → Prop} {p : Int → Int} (hp : PotE E p) {L : Int} (hL : ∀ t, S t → p t ≤ L) {v b : Int} (h : Rch E S v b) : ∃ m, Dst E S v m :=
 ZtX ⟨b, h⟩ fun _ hc => Zkz hp hL hc
structure Sr where
 s : Sm
 by' : Int → Option Ed
 t : Int → Nat
 n : Nat
def Sr.use (q : Sr) (e : Ed) : Sr := match hit q.s e with
 | none => q
 | some a => ⟨upd q.s e.v (some a), upd q.by' e.v (some e), upd q.t e.v (q.n + 1), q.n + 1⟩
def Sr.round (q : Sr) (l : List Ed) : Sr := l.foldl Sr.use q
theorem ZiM (q : Sr) (e : Ed) {v b : Int} (h : q.s v = some b) : ∃ c, (q.use e).s v = some c ∧ c ≤ b := by
 unfold Sr.use
 cases hh : hit q.s e with
 | none => exact ⟨b, h, by omega⟩
 | some a =>
  simp only
  by_cases hv : v = e.v
  ·subst hv
   refine ⟨a, ZaF _ _ _, ?_⟩
   unfold hit at hh
   cases h1 : q.s e.u with
   | none => simp [h1] at hh
   | some c =>
    simp only [h1, h] at hh
    split at hh
    ·simp at hh; omega
    ·simp at hh
  ·exact ⟨b, by rw [ZaD hv]; exact h, by omega⟩
theorem Zgz : ∀ (l : List Ed) (q : Sr) {v b : Int}, q.s v = some b → ∃ c, (q.round l).s v = some c ∧ c ≤ b
 | [], _, _, b, h => ⟨b, h, by omega⟩
 | e :: l, q, v, b, h => by
  obtain ⟨c, h1, h2⟩ := ZiM q e h
  obtain ⟨d, h3, h4⟩ := Zgz l (q.use e) h1
  exact ⟨d, h3, by omega⟩
theorem ZrS {E : List Ed} {S : Int → Prop} {s : Sm} (hI : ∀ v b, s v = some b → Rch E S v b) {e : Ed} (he : e ∈ E) {a : Int} (h : hit s e = some a) : Rch E S e.v a := by
 unfold hit at h
 cases h1 : s e.u with
 | none => simp [h1] at h
 | some c =>
  have h2 := Rch.stp (hI _ _ h1) he
  simp only [h1] at h
  cases h3 : s e.v with
  | none =>
   simp only [h3] at h
   injection h with h
   rw [← h]; exact h2
  | some d =>
   simp only [h3] at h
   split at h
   ·injection h with h
    rw [← h]; exact h2
   ·cases h
structure SrOk (E : List Ed) (S : Int → Prop) (q : Sr) : Prop where
 r : ∀ v b, q.s v = some b → Rch E S v b
 src : ∀ t, S t → ∃ c, q.s t = some c
 le : ∀ v, q.t v ≤ q.n
 by1 : ∀ v e, q.by' v = some e → e ∈ E ∧ e.v = v ∧ ∃ a b, q.s e.u = some a ∧ q.s v = some b ∧ (a + e.w < b ∨ (a + e.w = b ∧ q.t e.u < q.t v))
 by0 : ∀ v b, q.by' v = none → q.s v = some b → S v ∧ b = 0
theorem SrOk.use {E : List Ed} {S : Int → Prop} {q : Sr} (h : SrOk E S q) {e : Ed} (he : e ∈ E) : SrOk E S (q.use e) := by
 unfold Sr.use
 cases hh : hit q.s e with
 | none => exact h
 | some a =>
  simp only
  have hr := ZrS h.r he hh
  obtain ⟨c, hc, hca⟩ : ∃ c, q.s e.u = some c ∧ a = c + e.w := by
   unfold hit at hh
   cases h1 : q.s e.u with
   | none => simp [h1] at hh
   | some c =>
    simp only [h1] at hh
    refine ⟨c, rfl, ?_⟩
    cases h3 : q.s e.v with
    | none => simp only [h3] at hh; injection hh with hh; exact hh.symm
    | some d =>
     simp only [h3] at hh
     split at hh
     ·injection hh with hh; exact hh.symm
     ·cases hh
  have hlt : ∀ b, q.s e.v = some b → a < b := fun b hb => by
   unfold hit at hh
   simp only [hc, hb] at hh
   split at hh
   ·injection hh with hh; omega
   ·cases hh
  refine ⟨fun v b hv => ?_, fun t ht => ?_, fun v => ?_, fun v f hf => ?_, fun v b hb hv => ?_⟩
  ·dsimp only at hv
   by_cases h1 : v = e.v
   ·subst h1
    rw [ZaF] at hv
    injection hv with hv
    rw [← hv]; exact hr
   ·rw [ZaD h1] at hv
    exact h.r v b hv
  ·dsimp only
   by_cases h1 : t = e.v
   ·subst h1; exact ⟨a, ZaF _ _ _⟩
   ·rw [ZaD h1]; exact h.src t ht
  ·dsimp only
   by_cases h1 : v = e.v
   ·subst h1; rw [ZaF]; omega
   ·rw [ZaD h1]; have := h.le v; omega
  ·dsimp only at hf ⊢
   by_cases h1 : v = e.v
   ·subst h1
    rw [ZaF] at hf
    injection hf with hf
    subst hf
    refine ⟨he, rfl, ?_⟩
    by_cases h2 : e.u = e.v
    ·refine ⟨a, a, by rw [h2]; exact ZaF _ _ _, ZaF _ _ _, ?_⟩
     have h3 := hlt c (by rw [← h2]; exact hc)
     exact .inl (by omega)
    ·refine ⟨c, a, by rw [ZaD h2]; exact hc, ZaF _ _ _, .inr ⟨hca.symm, ?_⟩⟩
     rw [ZaD h2, ZaF]
     have := h.le e.u
     omega
   ·rw [ZaD h1] at hf
    obtain ⟨f1, f2, a', b', f3, f4, f5⟩ := h.by1 v f hf
    refine ⟨f1, f2, ?_⟩
    by_cases h2 : f.u = e.v
    ·refine ⟨a, b', by rw [h2]; exact ZaF _ _ _, by rw [ZaD h1]; exact f4, .inl ?_⟩
     have h3 := hlt a' (by rw [← h2]; exact f3)
     rcases f5 with f5 | f5
     ·omega
     ·have := f5.1; omega
    ·refine ⟨a', b', by rw [ZaD h2]; exact f3, by rw [ZaD h1]; exact f4, ?_⟩
     rw [ZaD h2, ZaD h1]
     exact f5
  ·dsimp only at hb hv
   by_cases h1 : v = e.v
   ·subst h1
    rw [ZaF] at hb
    cases hb
   ·rw [ZaD h1] at hb hv
    exact h.by0 v b hb hv
theorem ZaK (q : Sr) (e : Ed) (l : List Ed) : q.round (e :: l) = (q.use e).round l := rfl
theorem SrOk.round {E : List Ed} {S : Int → Prop} : ∀ {l : List Ed} {q : Sr}, SrOk E S q → (∀ e ∈ l, e ∈ E) → SrOk E S (q.round l)
 | [], _, h, _ => h
 | e :: l, q, h, hl => by
  rw [ZaK]
  exact SrOk.round (h.use (hl e (.head _))) fun f hf => hl f (.tail _ hf)
theorem Zbh {q : Sr} {e : Ed} (h : hit q.s e = none) : q.use e = q := by
 unfold Sr.use
 rw [h]
theorem ZfL {q : Sr} {e : Ed} {a : Int} (h : hit q.s e = some a) : (q.use e).n = q.n + 1 := by
 unfold Sr.use
 rw [h]
theorem Zd3 : ∀ (l : List Ed) (q : Sr), q.n ≤ (q.round l).n
 | [], _ => Nat.le_refl _
 | e :: l, q => by
  rw [ZaK]
  have h1 := Zd3 l (q.use e)
  cases h : hit q.s e with
  | none => rw [Zbh h] at h1 ⊢; exact h1
  | some a => have := ZfL h; omega
theorem ZgT : ∀ {l : List Ed} {q : Sr}, (q.round l).n = q.n → q.round l = q ∧ ∀ e ∈ l, hit q.s e = none
 | [], _, _ => ⟨rfl, fun _ h => by cases h⟩
 | e :: l, q, h => by
  rw [ZaK] at h ⊢
  cases hh : hit q.s e with
  | none =>
   rw [Zbh hh] at h ⊢
   obtain ⟨h1, h2⟩ := ZgT h
   exact ⟨h1, fun f hf => by
    rcases List.mem_cons.1 hf with rfl | hf
    ·exact hh
    ·exact h2 f hf⟩
  | some a =>
   have h1 := Zd3 l (q.use e)
   have h2 := ZfL hh
   omega
theorem Zeg : ∀ {l : List Ed} {q : Sr}, (∀ e ∈ l, hit q.s e = none) → q.round l = q
 | [], _, _ => rfl
 | e :: l, q, h => by
  rw [ZaK, Zbh (h e (.head _))]
  exact Zeg fun f hf => h f (.tail _ hf)
def Fin' (E : List Ed) (S : Int → Prop) (s : Sm) (v : Int) : Prop := ∃ m, Dst E S v m ∧ s v = some m
theorem SrOk.fin_use {E : List Ed} {S : Int → Prop} {q : Sr} (h : SrOk E S q) {e : Ed} (he : e ∈ E) {v : Int} (hv : Fin' E S q.s v) : Fin' E S (q.use e).s v := by
 obtain ⟨m, h1, h2⟩ := hv
 obtain ⟨c, h3, h4⟩ := ZiM q e h2
 have h5 := h1.2 c ((h.use he).r v c h3)
 have : c = m := by omega
 subst this
 exact ⟨c, h1, h3⟩
theorem SrOk.fin_round {E : List Ed} {S : Int → Prop} : ∀ {l : List Ed} {q : Sr}, SrOk E S q → (∀ e ∈ l, e ∈ E) → ∀ {v : Int}, Fin' E S q.s v → Fin' E S (q.round l).s v
 | [], _, _, _, _, hv => hv
 | e :: l, q, h, hl, v, hv => by
  rw [ZaK]
  exact SrOk.fin_round (h.use (hl e (.head _))) (fun f hf => hl f (.tail _ hf)) (h.fin_use (hl e (.head _)) hv)
theorem SrOk.edge {E : List Ed} {S : Int → Prop} {q : Sr} (h : SrOk E S q) (hS : ∀ t, S t → ∃ c, q.s t = some c ∧ c ≤ 0) {v b : Int} (hr : Rch E S v b) (hd : ∀ c, Rch E S v c → b ≤ c) (hn : ¬ Fin' E S q.s v) :
  ∃ e ∈ E, ∃ a, Dst E S e.u a ∧ Fin' E S q.s e.u ∧ ¬ Fin' E S q.s e.v ∧ Dst E S e.v (a + e.w) := by
 induction hr with
 | @src t ht =>
  obtain ⟨c, h1, h2⟩ := hS t ht
  have h3 := hd c (h.r t c h1)
  have : c = 0 := by omega
  subst this
  exact (hn ⟨0, ⟨.src ht, hd⟩, h1⟩).elim
 | @stp e a h1 h2 ih =>
  have h3 : ∀ c, Rch E S e.u c → a ≤ c := fun c hc => by
   have := hd _ (.stp hc h2)
   omega
  rcases Classical.em (Fin' E S q.s e.u) with h4 | h4
  ·exact ⟨e, h2, a, ⟨h1, h3⟩, h4, hn, .stp h1 h2, hd⟩
  ·exact ih h3 h4
theorem SrOk.reach {E : List Ed} {S : Int → Prop} : ∀ {l : List Ed} {q : Sr}, SrOk E S q → (∀ e ∈ l, e ∈ E) → ∀ {e : Ed}, e ∈ l → ∀ {a : Int}, Fin' E S q.s e.u → Dst E S e.u a → Dst E S e.v (a + e.w) → Fin' E S (q.round l).s e.v
 | f :: l, q, h, hl, e, he, a, hf, hu, hv => by
  have hfE := hl f (.head _)
  rw [ZaK]
  rcases List.mem_cons.1 he with rfl | he
  ·refine SrOk.fin_round (h.use hfE) (fun g hg => hl g (.tail _ hg)) ?_
   obtain ⟨m, m1, m2⟩ := hf
   have hm := m1.uniq hu
   subst hm
   refine ⟨m + e.w, hv, ?_⟩
   unfold Sr.use
   cases hh : hit q.s e with
   | none =>
    simp only
    unfold hit at hh
    simp only [m2] at hh
    cases h3 : q.s e.v with
    | none => simp [h3] at hh
    | some b =>
     simp only [h3] at hh
     split at hh
     ·cases hh
     ·have h4 := hv.2 b (h.r _ _ h3)
      have : b = m + e.w := by omega
      rw [this]
   | some b =>
    simp only
    rw [ZaF]
    unfold hit at hh
    simp only [m2] at hh
    cases h3 : q.s e.v with
    | none => simp only [h3] at hh; exact hh.symm
    | some c =>
     simp only [h3] at hh
     split at hh
     ·exact hh.symm
     ·cases hh
  ·exact SrOk.reach (h.use hfE) (fun g hg => hl g (.tail _ hg)) he (h.fin_use hfE hf) hu hv
theorem Zjy {α : Type} {p r : α → Bool} : ∀ {V : List α}, (∀ x ∈ V, p x = true → r x = true) → (∃ x ∈ V, p x = false ∧ r x = true) → V.countP p < V.countP r
 | [], _, ⟨x, hx, _⟩ => by cases hx
 | y :: V, h, ⟨x, hx, h1, h2⟩ => by
  have hle : V.countP p ≤ V.countP r := List.countP_mono_left fun z hz hp => h z (.tail _ hz) hp
  rw [List.countP_cons, List.countP_cons]
  rcases List.mem_cons.1 hx with rfl | hx
  ·simp only [h1, h2]
   simp
   omega
  ·have := Zjy (fun z hz => h z (.tail _ hz)) ⟨x, hx, h1, h2⟩
   have h3 := h y (.head _)
   by_cases hp : p y = true
   ·simp only [hp, h3 hp]; omega
   ·by_cases hr : r y = true
    ·simp only [hp, hr]; simp; omega
    ·simp only [hp, hr]; simpa using this
open Classical in
noncomputable def cntFin (E : List Ed) (S : Int → Prop) (V : List Int) (s : Sm) : Nat := V.countP fun v => decide (Fin' E S s v)
def Sr.rounds (q : Sr) (l : List Ed) : Nat → Sr
 | 0 => q
 | k + 1 => (q.rounds l k).round l
theorem SrOk.rounds {E : List Ed} {S : Int → Prop} {q : Sr} (h : SrOk E S q) : ∀ k, SrOk E S (q.rounds E k)
 | 0 => h
 | k + 1 => (h.rounds k).round fun _ he => he
theorem ZcA {E : List Ed} {q : Sr} {t : Int} (h : ∃ c, q.s t = some c ∧ c ≤ 0) : ∀ k, ∃ c, (q.rounds E k).s t = some c ∧ c ≤ 0
 | 0 => h
 | k + 1 => by
  obtain ⟨c, h1, h2⟩ := ZcA (E := E) h k
  obtain ⟨d, h3, h4⟩ := Zgz E _ h1
  exact ⟨d, h3, by omega⟩
open Classical in
theorem SrOk.many {E : List Ed} {S : Int → Prop} {q : Sr} (h : SrOk E S q) (hS : ∀ t, S t → ∃ c, q.s t = some c ∧ c ≤ 0) {p : Int → Int} (hp : PotE E p) {L : Int} (hL : ∀ t, S t → p t ≤ L) {V : List Int} (hV : ∀ v b, Rch E S v b → v ∈ V) :
  ∀ k, (∀ v b, Rch E S v b → Fin' E S (q.rounds E k).s v) ∨ k ≤ cntFin E S V (q.rounds E k).s
 | 0 => .inr (Nat.zero_le _)
 | k + 1 => by
  rcases Classical.em (∀ v b, Rch E S v b → Fin' E S (q.rounds E (k + 1)).s v) with h0 | h0
  ·exact .inl h0
  ·refine .inr ?_
   have hk := h.rounds k
   have ih : k ≤ cntFin E S V (q.rounds E k).s := by
    rcases h.many hS hp hL hV k with h1 | h1
    ·exact (h0 fun v b hb => hk.fin_round (fun _ he => he) (h1 v b hb)).elim
    ·exact h1
   refine Nat.lt_of_le_of_lt ih (Zjy (fun v _ hv => decide_eq_true (hk.fin_round (fun _ he => he) (of_decide_eq_true hv))) ?_)
   have h1 : ∃ v b, Rch E S v b ∧ ¬ Fin' E S (q.rounds E k).s v := by
    rcases Classical.em (∃ v b, Rch E S v b ∧ ¬ Fin' E S (q.rounds E k).s v) with h2 | h2
    ·exact h2
    ·refine (h0 fun v b hb => hk.fin_round (fun _ he => he) ?_).elim
     rcases Classical.em (Fin' E S (q.rounds E k).s v) with h3 | h3
     ·exact h3
     ·exact (h2 ⟨v, b, hb, h3⟩).elim
   obtain ⟨v, b, hb, hn⟩ := h1
   obtain ⟨m, m1, m2⟩ := ZtF hp hL hb
   obtain ⟨e, e1, a, e2, e3, e4, e5⟩ := hk.edge (fun t ht => ZcA (hS t ht) k) m1 m2 hn
   refine ⟨e.v, hV _ _ e5.1, decide_eq_false e4, decide_eq_true ?_⟩
   exact hk.reach (fun _ he => he) e1 e3 e2 e5
open Classical in
theorem SrOk.all {E : List Ed} {S : Int → Prop} {q : Sr} (h : SrOk E S q) (hS : ∀ t, S t → ∃ c, q.s t = some c ∧ c ≤ 0) {p : Int → Int} (hp : PotE E p) {L : Int} (hL : ∀ t, S t → p t ≤ L) {V : List Int} (hV : ∀ v b, Rch E S v b → v ∈ V) :
  ∀ v b, Rch E S v b → Fin' E S (q.rounds E V.length).s v := fun v b hb => by
 rcases h.many hS hp hL hV V.length with h1 | h1
 ·exact h1 v b hb
 ·have h2 : cntFin E S V (q.rounds E V.length).s = V.length := Nat.le_antisymm List.countP_le_length h1
  exact of_decide_eq_true (List.countP_eq_length.1 h2 v (hV v b hb))
theorem SrOk.noHit {E : List Ed} {S : Int → Prop} {q : Sr} (h : SrOk E S q) (hf : ∀ v b, Rch E S v b → Fin' E S q.s v) : ∀ e ∈ E, hit q.s e = none := fun e he => by
 unfold hit
 cases h1 : q.s e.u with
 | none => rfl
 | some a =>
  have h2 := h.r _ _ h1
  obtain ⟨m, m1, m2⟩ := hf _ _ (.stp h2 he)
  have h3 := m1.2 _ (.stp h2 he)
  simp only [m2]
  rw [if_neg (by omega)]
theorem SrOk.dst {E : List Ed} {S : Int → Prop} {q : Sr} (h : SrOk E S q) (hS : ∀ t, S t → ∃ c, q.s t = some c ∧ c ≤ 0) (hn : ∀ e ∈ E, hit q.s e = none) {v b : Int} (hb : Rch E S v b) : ∃ m, q.s v = some m ∧ Dst E S v m := by
 have key : ∀ {v b : Int}, Rch E S v b → ∃ m, q.s v = some m ∧ m ≤ b := fun hb => by
  induction hb with
  | src ht => exact hS _ ht
  | @stp e a h1 h2 ih =>
   obtain ⟨m, m1, m2⟩ := ih
   have h3 := hn e h2
   unfold hit at h3
   simp only [m1] at h3
   cases h4 : q.s e.v with
   | none => simp [h4] at h3
   | some c =>
    simp only [h4] at h3
    split at h3
    ·cases h3
    ·exact ⟨c, rfl, by omega⟩
 obtain ⟨m, m1, m2⟩ := key hb
 exact ⟨m, m1, h.r _ _ m1, fun c hc => by
  obtain ⟨n, n1, n2⟩ := key hc
  rw [m1] at n1
  injection n1 with n1
  omega⟩
inductive Bk (q : Sr) (t0 : Int) : Int → List Ed → Prop
 | nil : Bk q t0 t0 []
 | cons {v : Int} {e : Ed} {p : List Ed} : v ≠ t0 → q.by' v = some e → e.v = v → Bk q t0 e.u p → Bk q t0 v (e :: p)
def wSum : List Ed → Int
 | [] => 0
 | e :: p => wSum p + e.w
theorem SrOk.tight {E : List Ed} {t0 : Int} {q : Sr} (h : SrOk E (· = t0) q) (hn : ∀ e ∈ E, hit q.s e = none) {v b : Int} (hb : q.s v = some b) (hv : v ≠ t0) :
  ∃ e a, q.by' v = some e ∧ e ∈ E ∧ e.v = v ∧ q.s e.u = some a ∧ a + e.w = b ∧ q.t e.u < q.t v := by
 cases h1 : q.by' v with
 | none => exact (hv (h.by0 v b h1 hb).1).elim
 | some e =>
  obtain ⟨e1, e2, a, c, e3, e4, e5⟩ := h.by1 v e h1
  rw [hb] at e4
  injection e4 with e4
  subst e4
  have h2 := hn e e1
  unfold hit at h2
  rw [e2] at h2
  simp only [e3, hb] at h2
  split at h2
  ·cases h2
  ·rcases e5 with e5 | e5
   ·omega
   ·exact ⟨e, a, rfl, e1, e2, e3, e5.1, e5.2⟩
theorem SrOk.bk {E : List Ed} {t0 : Int} {q : Sr} (h : SrOk E (· = t0) q) (hn : ∀ e ∈ E, hit q.s e = none) {c : Int} (h0 : q.s t0 = some c) :
  ∀ (k : Nat) (v b : Int), q.t v < k → q.s v = some b → ∃ p, Bk q t0 v p ∧ p.length ≤ q.t v ∧ wSum p + c = b ∧ ∀ e ∈ p, e ∈ E
 | 0, _, _, hk, _ => by omega
 | k + 1, v, b, hk, hb => by
  by_cases hv : v = t0
  ·subst hv
   rw [h0] at hb
   injection hb with hb
   exact ⟨[], .nil, Nat.zero_le _, by rw [wSum]; omega, fun _ he => by cases he⟩
  ·obtain ⟨e, a, e1, e2, e3, e4, e5, e6⟩ := h.tight hn hb hv
   obtain ⟨p, p1, p2, p3, p4⟩ := SrOk.bk h hn h0 k e.u a (by omega) e4
   refine ⟨e :: p, .cons hv e1 e3 p1, by rw [List.length_cons]; omega, by rw [wSum]; omega, fun f hf => ?_⟩
   rcases List.mem_cons.1 hf with rfl | hf
   ·exact e2
   ·exact p4 f hf
def Agd (q : Sr) (m : Nat) (e : Ed) : Prop := hit q.s e = none ∨ m < q.t e.u
theorem Agd.use {q : Sr} {m : Nat} (hm : m ≤ q.n) {f : Ed} (h : Agd q m f) (e : Ed) : Agd (q.use e) m f := by
 cases hh : hit q.s e with
 | none => rw [Zbh hh]; exact h
 | some a =>
  unfold Sr.use
  rw [hh]
  unfold Agd at *
  simp only
  by_cases h1 : f.u = e.v
  ·rw [h1, ZaF]
   exact .inr (by omega)
  ·rw [ZaD h1]
   rcases h with h | h
   ·refine .inl ?_
    unfold hit at *
    simp only [ZaD h1]
    cases h2 : q.s f.u with
    | none => rfl
    | some c =>
     simp only [h2] at h ⊢
     by_cases h3 : f.v = e.v
     ·rw [h3, ZaF]
      rw [h3] at h
      cases h4 : q.s e.v with
      | none => simp [h4] at h
      | some d =>
       simp only [h4] at h hh
       split at h
       ·cases h
       ·simp only
        cases h5 : q.s e.u with
        | none => simp [h5] at hh
        | some g =>
         simp only [h5] at hh
         split at hh
         ·injection hh with hh
          rw [if_neg (by omega)]
         ·cases hh
     ·rw [ZaD h3]; exact h
   ·exact .inr h
theorem ZqA {q : Sr} {m : Nat} (hm : m ≤ q.n) (e : Ed) : Agd (q.use e) m e := by
 cases hh : hit q.s e with
 | none => rw [Zbh hh]; exact .inl hh
 | some a =>
  unfold Sr.use
  rw [hh]
  unfold Agd
  simp only
  by_cases h1 : e.u = e.v
  ·rw [h1, ZaF]
   exact .inr (by omega)
  ·refine .inl ?_
   unfold hit at *
   simp only [ZaD h1, ZaF]
   cases h2 : q.s e.u with
   | none => rfl
   | some c =>
    simp only [h2] at hh ⊢
    cases h4 : q.s e.v with
    | none =>
     simp only [h4] at hh
     injection hh with hh
     rw [if_neg (by omega)]
    | some d =>
     simp only [h4] at hh
     split at hh
     ·injection hh with hh
      rw [if_neg (by omega)]
     ·cases hh
theorem Zjr (q : Sr) (e : Ed) : q.n ≤ (q.use e).n := by
 cases hh : hit q.s e with
 | none => rw [Zbh hh]; exact Nat.le_refl _
 | some a => rw [ZfL hh]; omega
theorem Agd.round {m : Nat} {f : Ed} : ∀ {l : List Ed} {q : Sr}, m ≤ q.n → Agd q m f → Agd (q.round l) m f
 | [], _, _, h => h
 | e :: l, q, hm, h => by
  rw [ZaK]
  have := Zjr q e
  exact Agd.round (by omega) (h.use hm e)
theorem Zib {m : Nat} {f : Ed} : ∀ {l : List Ed} {q : Sr}, m ≤ q.n → f ∈ l → Agd (q.round l) m f
 | e :: l, q, hm, hf => by
  rw [ZaK]
  have := Zjr q e
  rcases List.mem_cons.1 hf with rfl | hf
  ·exact Agd.round (by omega) (ZqA hm f)
  ·exact Zib (by omega) hf
def Lat (q : Sr) (m k : Nat) : Prop := ∀ v, k < q.t v → ∃ e, q.by' v = some e ∧ m < q.t e.u
theorem Lat.use {q : Sr} {m k : Nat} (hm : m ≤ q.n) (h : Lat q m k) {e : Ed} (he : Agd q m e) : Lat (q.use e) m k := by
 cases hh : hit q.s e with
 | none => rw [Zbh hh]; exact h
 | some a =>
  have ht : m < q.t e.u := by
   rcases he with he | he
   ·rw [hh] at he; cases he
   ·exact he
  unfold Sr.use
  rw [hh]
  intro v hv
  simp only at hv ⊢
  have key : ∀ x, m < q.t x → m < upd q.t e.v (q.n + 1) x := fun x hx => by
   by_cases h1 : x = e.v
   ·rw [h1, ZaF]; omega
   ·rw [ZaD h1]; exact hx
  by_cases h1 : v = e.v
  ·subst h1
   rw [ZaF]
   exact ⟨e, rfl, key _ ht⟩
  ·rw [ZaD h1] at hv ⊢
   obtain ⟨f, f1, f2⟩ := h v hv
   exact ⟨f, f1, key _ f2⟩
theorem Lat.round {m k : Nat} : ∀ {l : List Ed} {q : Sr}, m ≤ q.n → Lat q m k → (∀ e ∈ l, Agd q m e) → Lat (q.round l) m k
 | [], _, _, h, _ => h
 | e :: l, q, hm, h, hl => by
  rw [ZaK]
  have := Zjr q e
  exact Lat.round (by omega) (h.use hm (hl e (.head _))) fun f hf => (hl f (.tail _ hf)).use hm e
def HasBy (E : List Ed) (q : Sr) : Prop := ∀ v, 0 < q.t v → ∃ e ∈ E, q.by' v = some e ∧ e.v = v
theorem HasBy.use {E : List Ed} {q : Sr} (h : HasBy E q) {e : Ed} (he : e ∈ E) : HasBy E (q.use e) := by
 cases hh : hit q.s e with
 | none => rw [Zbh hh]; exact h
 | some a =>
  unfold Sr.use
  rw [hh]
  intro v hv
  simp only at hv ⊢
  by_cases h1 : v = e.v
  ·subst h1
   exact ⟨e, he, ZaF _ _ _, rfl⟩
  ·rw [ZaD h1] at hv ⊢
   exact h v hv
theorem HasBy.round {E : List Ed} : ∀ {l : List Ed} {q : Sr}, HasBy E q → (∀ e ∈ l, e ∈ E) → HasBy E (q.round l)
 | [], _, h, _ => h
 | e :: l, q, h, hl => by
  rw [ZaK]
  exact HasBy.round (h.use (hl e (.head _))) fun f hf => hl f (.tail _ hf)
theorem HasBy.rounds {E : List Ed} {q : Sr} (h : HasBy E q) : ∀ k, HasBy E (q.rounds E k)
 | 0 => h
 | k + 1 => (h.rounds k).round fun _ he => he
theorem Zgb (q : Sr) (E : List Ed) {i : Nat} : ∀ {j : Nat}, i ≤ j → (q.rounds E i).n ≤ (q.rounds E j).n
 | 0, h => by
  have : i = 0 := by omega
  subst this
  exact Nat.le_refl _
 | j + 1, h => by
  rcases Nat.lt_or_ge i (j + 1) with h1 | h1
  ·exact Nat.le_trans (Zgb q E (show i ≤ j by omega)) (Zd3 _ _)
  ·have : i = j + 1 := by omega
   subst this
   exact Nat.le_refl _
theorem Zdc {E : List Ed} {q : Sr} {i : Nat} {e : Ed} (he : e ∈ E) : ∀ {j : Nat}, i < j → Agd (q.rounds E j) (q.rounds E i).n e
 | j + 1, h => by
  have hn := Zgb q E (show i ≤ j by omega)
  rcases Nat.lt_or_ge i j with h1 | h1
  ·exact Agd.round hn (Zdc he h1)
  ·have : i = j := by omega
   subst this
   exact Zib (Nat.le_refl _) he
theorem Zgx {E : List Ed} {S : Int → Prop} {q : Sr} (h : SrOk E S q) {i : Nat} : ∀ {j : Nat}, i < j → Lat (q.rounds E j) (q.rounds E i).n (q.rounds E (i + 1)).n
 | j + 1, hj => by
  have hn := Zgb q E (show i ≤ j by omega)
  rcases Nat.lt_or_ge i j with h1 | h1
  ·exact Lat.round hn (Zgx h h1) fun e he => Zdc he h1
  ·have : i = j := by omega
   subst this
   intro v hv
   have := (h.rounds (i + 1)).le v
   omega
def back (by' : Int → Option Ed) (v : Int) : Int := match by' v with
 | some e => e.u
 | none => v
def itr {α : Type} (f : α → α) : Nat → α → α
 | 0, x => x
 | n + 1, x => itr f n (f x)
theorem ZhG {by' : Int → Option Ed} {v : Int} {e : Ed} (h : by' v = some e) : back by' v = e.u := by
 unfold back
 rw [h]
theorem Zdh {α : Type} (f : α → α) : ∀ (m n : Nat) (x : α), itr f (m + n) x = itr f n (itr f m x)
 | 0, n, x => by rw [Nat.zero_add]; rfl
 | m + 1, n, x => by rw [Nat.succ_add]; exact Zdh f m n (f x)
theorem Zf3 {α : Type} (f : α → α) (n : Nat) (x : α) : itr f (n + 1) x = f (itr f n x) := Zdh f n 1 x
theorem pigeon : ∀ (V : List Int) (n : Nat) (f : Nat → Int), V.length < n → (∀ i, i < n → f i ∈ V) → ∃ i j, i < j ∧ j < n ∧ f i = f j
 | [], n, f, h, hf => by
  have := hf 0 (by simp at h; omega)
  cases this
 | x :: V, n, f, h, hf => by
  rcases Classical.em (∃ i j, i < j ∧ j < n ∧ f i = f j) with h0 | h0
  ·exact h0
  ·exfalso
   have inj : ∀ i j, i < n → j < n → f i = f j → i = j := fun i j hi hj e => by
    rcases Nat.lt_trichotomy i j with h1 | h1 | h1
    ·exact (h0 ⟨i, j, h1, hj, e⟩).elim
    ·exact h1
    ·exact (h0 ⟨j, i, h1, hi, e.symm⟩).elim
   rw [List.length_cons] at h
   rcases Classical.em (∃ k, k < n ∧ f k = x) with ⟨k, k1, k2⟩ | h2
   ·obtain ⟨i, j, h3, h4, h5⟩ := pigeon V (n - 1) (fun i => if i < k then f i else f (i + 1)) (by omega) (fun i hi => by
     have key : ∀ m, m < n → m ≠ k → f m ∈ V := fun m hm hk => by
      rcases List.mem_cons.1 (hf m hm) with h6 | h6
      ·exact (hk (inj m k hm k1 (h6.trans k2.symm))).elim
      ·exact h6
     split
     ·exact key i (by omega) (by omega)
     ·exact key (i + 1) (by omega) (by omega))
    split at h5 <;> split at h5
    ·have := inj _ _ (by omega) (by omega) h5; omega
    ·have := inj _ _ (by omega) (by omega) h5; omega
    ·have := inj _ _ (by omega) (by omega) h5; omega
    ·have := inj _ _ (by omega) (by omega) h5; omega
   ·obtain ⟨i, j, h3, h4, h5⟩ := pigeon V n f (by omega) (fun i hi => by
     rcases List.mem_cons.1 (hf i hi) with h6 | h6
     ·exact (h2 ⟨i, hi, h6⟩).elim
     ·exact h6)
    exact h0 ⟨i, j, h3, h4, h5⟩
theorem ZmJ {E : List Ed} {S : Int → Prop} {q : Sr} (h : SrOk E S q) (hH : HasBy E q) {V : List Int} (hV : ∀ e ∈ E, e.u ∈ V) {K : Nat} (hK : V.length < K) {e0 : Ed} (he : e0 ∈ E) {a : Int} (hh : hit (q.rounds E K).s e0 = some a) :
  ∃ d, 1 ≤ d ∧ d ≤ K ∧ itr (back (upd (q.rounds E K).by' e0.v (some e0))) d (itr (back (upd (q.rounds E K).by' e0.v (some e0))) K e0.v) = itr (back (upd (q.rounds E K).by' e0.v (some e0))) K e0.v ∧
   ∀ m, ∃ e ∈ E, upd (q.rounds E K).by' e0.v (some e0) (itr (back (upd (q.rounds E K).by' e0.v (some e0))) m e0.v) = some e := by
 have hHK := hH.rounds K
 obtain ⟨B, hB⟩ : ∃ B, B = upd (q.rounds E K).by' e0.v (some e0) := ⟨_, rfl⟩
 rw [← hB]
 have b0 : B e0.v = some e0 := by rw [hB]; exact ZaF _ _ _
 have bn : ∀ v, v ≠ e0.v → B v = (q.rounds E K).by' v := fun v hv => by rw [hB]; exact ZaD hv
 -- late places
 have late : ∀ i, i < K → (q.rounds E (K - 1 - i)).n < (q.rounds E K).t (itr (back B) (i + 1) e0.v) := by
  intro i
  induction i with
  | zero =>
   intro hi
   have h1 : itr (back B) 1 e0.v = e0.u := by
    show back B e0.v = _
    unfold back
    rw [b0]
   rw [h1, show K - 1 - 0 = K - 1 by omega]
   rcases Zdc (q := q) (i := K - 1) (j := K) he (by omega) with h2 | h2
   ·rw [hh] at h2; cases h2
   ·exact h2
  | succ i ih =>
   intro hi
   have ih := ih (by omega)
   rw [Zf3]
   have hs : ∀ v, (q.rounds E (K - 1 - i)).n < (q.rounds E K).t v → (q.rounds E (K - 1 - (i + 1))).n < (q.rounds E K).t (back B v) := fun v hv => by
    by_cases h1 : v = e0.v
    ·have h2 : back B v = e0.u := by unfold back; rw [h1, b0]
     rw [h2]
     rcases Zdc (q := q) (i := K - 1 - (i + 1)) (j := K) he (by omega) with h3 | h3
     ·rw [hh] at h3; cases h3
     ·exact h3
    ·obtain ⟨e, e1, e2⟩ := Zgx h (i := K - 1 - (i + 1)) (j := K) (by omega) v (by rw [show K - 1 - (i + 1) + 1 = K - 1 - i by omega]; exact hv)
     have h2 : back B v = e.u := by unfold back; rw [bn v h1, e1]
     rw [h2]
     exact e2
   exact hs _ ih
 have some' : ∀ i, i ≤ K → ∃ e ∈ E, B (itr (back B) i e0.v) = some e := fun i hi => by
  cases i with
  | zero => exact ⟨e0, he, b0⟩
  | succ i =>
   by_cases h1 : itr (back B) (i + 1) e0.v = e0.v
   ·rw [h1]; exact ⟨e0, he, b0⟩
   ·obtain ⟨e, e1, e2, -⟩ := hHK (itr (back B) (i + 1) e0.v) (Nat.lt_of_le_of_lt (Nat.zero_le _) (late i (by omega)))
    exact ⟨e, e1, by rw [bn _ h1]; exact e2⟩
 have inV : ∀ i, i < K → itr (back B) (i + 1) e0.v ∈ V := fun i hi => by
  obtain ⟨e, e1, e2⟩ := some' i (by omega)
  rw [Zf3]
  rw [ZhG e2]
  exact hV e e1
 obtain ⟨i, j, h1, h2, h3⟩ := pigeon V K (fun i => itr (back B) (i + 1) e0.v) hK inV
 have per : ∀ m, i + 1 ≤ m → itr (back B) (m + (j - i)) e0.v = itr (back B) m e0.v := fun m hm => by
  rw [show m + (j - i) = j + 1 + (m - (i + 1)) by omega, Zdh, ← h3, ← Zdh, show i + 1 + (m - (i + 1)) = m by omega]
 refine ⟨j - i, by omega, by omega, ?_, ?_⟩
 ·rw [← Zdh]
  exact per K (by omega)
 ·intro m
  induction m using Nat.strongRecOn with
  | ind m ih =>
   rcases Nat.lt_or_ge K m with h4 | h4
   ·have h5 := per (m - (j - i)) (by omega)
    rw [show m - (j - i) + (j - i) = m by omega] at h5
    rw [h5]
    exact ih _ (by omega)
   ·exact some' m h4
end Go.Vt
/- What exchanges connect, plainly. Conditions: those that each statement names. -/
namespace Go.Vt
theorem Zay {κ α : Type} [DecidableEq κ] {x : κ} {v : α} {y : κ} : ∀ (m : List (κ × α)), mget (mput m x v) y = if y = x then some v else mget m y
 | [] => by simp [mput, mget]
 | p :: m => by
  rw [mput]
  by_cases h : x = p.1
  ·rw [if_pos h, mget, mget]
   by_cases h2 : y = x
   ·rw [if_pos h2, if_pos h2]
   ·rw [if_neg h2, if_neg h2, if_neg (by rw [← h]; exact h2)]
  ·rw [if_neg h, mget, mget, Zay m]
   by_cases h2 : y = p.1
   ·rw [if_pos h2, if_pos h2, if_neg (by rw [h2]; exact fun h3 => h h3.symm)]
   ·rw [if_neg h2, if_neg h2]
theorem Zc5 {κ α : Type} [DecidableEq κ] {x : κ} : ∀ {m : List (κ × α)}, (∃ v, mget m x = some v) ↔ x ∈ m.map (·.1)
 | [] => by simp [mget]
 | p :: m => by
  rw [mget, List.map_cons, List.mem_cons]
  by_cases h : x = p.1
  ·rw [if_pos h]
   simp [h]
  ·rw [if_neg h, Zc5 (m := m)]
   simp [h]
theorem ZdA {κ α : Type} [DecidableEq κ] {x : κ} {v : α} : ∀ {m : List (κ × α)}, mget m x = none → (mput m x v).length = m.length + 1
 | [], _ => rfl
 | p :: m, h => by
  rw [mget] at h
  split at h
  ·cases h
  ·rename_i h1
   rw [mput, if_neg h1, List.length_cons, ZdA h, List.length_cons]
theorem ZdG {κ α : Type} [DecidableEq κ] {x : κ} {v u : α} : ∀ {m : List (κ × α)}, mget m x = some u → (mput m x v).length = m.length
 | p :: m, h => by
  rw [mget] at h
  rw [mput]
  split at h
  ·rename_i h1
   rw [if_pos h1]
   rfl
  ·rename_i h1
   rw [if_neg h1, List.length_cons, ZdG h, List.length_cons]
theorem Zg5 {κ α : Type} [DecidableEq κ] {x : κ} {v : α} : ∀ {m : List (κ × α)}, (m.map (·.1)).Nodup → ((mput m x v).map (·.1)).Nodup
 | [], _ => by simp [mput]
 | p :: m, h => by
  rw [List.map_cons, List.nodup_cons] at h
  rw [mput]
  split
  ·rename_i h1
   rw [List.map_cons, List.nodup_cons]
   exact ⟨by rw [h1]; exact h.1, h.2⟩
  ·rename_i h1
   rw [List.map_cons, List.nodup_cons]
   refine ⟨fun h2 => ?_, Zg5 h.2⟩
   obtain ⟨u, hu⟩ := Zc5.2 h2
   rw [Zay, if_neg (fun h3 => h1 h3.symm)] at hu
   exact h.1 (Zc5.1 ⟨u, hu⟩)
inductive Con (l : List Za) (d : Int) : Int → Prop
 | base : Con l d d
 | fwd {x : Za} : x ∈ l → Con l d x.From → Con l d x.To
 | bwd {x : Za} : x ∈ l → Con l d x.To → Con l d x.From
theorem Con.mono {l k : List Za} {d v : Int} (h : ∀ x ∈ l, x ∈ k) (c : Con l d v) : Con k d v := by
 induction c with
 | base => exact .base
 | fwd hx _ ih => exact .fwd (h _ hx) ih
 | bwd hx _ ih => exact .bwd (h _ hx) ih
def hasM (m : List (Int × Bool)) (v : Int) : Bool := (mget m v).getD false
def dmS (m : List (Int × Bool)) (x : Za) : List (Int × Bool) := mput (mput m x.From true) x.To true
structure CompOk (l : List Za) (d : Int) (m : List (Int × Bool)) : Prop where
 nd : (m.map (·.1)).Nodup
 tr : ∀ v b, mget m v = some b → b = true
 b0 : hasM m d = true
 con : ∀ v, hasM m v = true → Con l d v
 few : m.length ≤ 1 + l.countP fun x => hasM m x.From && hasM m x.To
theorem CompOk.get {l : List Za} {d : Int} {m : List (Int × Bool)} (h : CompOk l d m) (v : Int) : (hasM m v = true ∧ mget m v = some true) ∨ (hasM m v = false ∧ mget m v = none) := by
 unfold hasM
 cases hm : mget m v with
 | none => exact .inr ⟨rfl, rfl⟩
 | some b =>
  have := h.tr v b hm
  subst this
  exact .inl ⟨rfl, rfl⟩
theorem Zgr (m : List (Int × Bool)) (x : Za) (v : Int) : hasM (dmS m x) v = (decide (v = x.From) || decide (v = x.To) || hasM m v) := by
 unfold hasM dmS
 rw [Zay, Zay]
 by_cases h1 : v = x.To
 ·simp [h1]
 ·by_cases h2 : v = x.From
  ·simp [h2]
  ·simp [h1, h2]
theorem Zf0 {α : Type} {p r : α → Bool} : ∀ {V : List α}, (∀ x ∈ V, p x = true → r x = true) → (∃ x ∈ V, p x = false ∧ r x = true) → V.countP p < V.countP r
 | [], _, ⟨x, hx, _⟩ => by cases hx
 | y :: V, h, ⟨x, hx, h1, h2⟩ => by
  have hle : V.countP p ≤ V.countP r := List.countP_mono_left fun z hz hp => h z (.tail _ hz) hp
  rw [List.countP_cons, List.countP_cons]
  rcases List.mem_cons.1 hx with rfl | hx
  ·simp only [h1, h2]
   simp
   omega
  ·have := Zf0 (fun z hz => h z (.tail _ hz)) ⟨x, hx, h1, h2⟩
   have h3 := h y (.head _)
   by_cases hp : p y = true
   ·simp only [hp, h3 hp]; omega
   ·by_cases hr : r y = true
    ·simp only [hp, hr]; simp; omega
    ·simp only [hp, hr]; simpa using this
theorem CompOk.grow {l : List Za} {d : Int} {m : List (Int × Bool)} (h : CompOk l d m) {x : Za} (hx : x ∈ l) (hd : hasM m x.From ≠ hasM m x.To) : CompOk l d (dmS m x) ∧ (dmS m x).length = m.length + 1 := by
 have hlen : (dmS m x).length = m.length + 1 := by
  unfold dmS
  rcases h.get x.From with ⟨f1, f2⟩ | ⟨f1, f2⟩
  ·rcases h.get x.To with ⟨t1, t2⟩ | ⟨t1, t2⟩
   ·exact (hd (f1.trans t1.symm)).elim
   ·have hne : x.To ≠ x.From := fun e => by rw [e, f2] at t2; cases t2
    rw [ZdA (by rw [Zay, if_neg hne]; exact t2), ZdG f2]
  ·rcases h.get x.To with ⟨t1, t2⟩ | ⟨t1, t2⟩
   ·have hne : x.To ≠ x.From := fun e => by rw [e, f2] at t2; cases t2
    rw [ZdG (u := true) (by rw [Zay, if_neg hne]; exact t2), ZdA f2]
   ·exact (hd (f1.trans t1.symm)).elim
 have hold : ∀ v, hasM m v = true → hasM (dmS m x) v = true := fun v hv => by rw [Zgr, hv]; simp
 refine ⟨⟨Zg5 (Zg5 h.nd), fun v b hv => ?_, hold _ h.b0, fun v hv => ?_, ?_⟩, hlen⟩
 ·unfold dmS at hv
  rw [Zay, Zay] at hv
  split at hv
  ·injection hv with hv; exact hv.symm
  ·split at hv
   ·injection hv with hv; exact hv.symm
   ·exact h.tr v b hv
 ·rw [Zgr] at hv
  have c : Con l d x.From ∧ Con l d x.To := by
   rcases h.get x.From with ⟨f1, f2⟩ | ⟨f1, f2⟩
   ·have := h.con _ f1
    exact ⟨this, .fwd hx this⟩
   ·rcases h.get x.To with ⟨t1, t2⟩ | ⟨t1, t2⟩
    ·have := h.con _ t1
     exact ⟨.bwd hx this, this⟩
    ·exact (hd (f1.trans t1.symm)).elim
  rw [Bool.or_eq_true, Bool.or_eq_true] at hv
  rcases hv with (hv | hv) | hv
  ·rw [of_decide_eq_true hv]; exact c.1
  ·rw [of_decide_eq_true hv]; exact c.2
  ·exact h.con v hv
 ·have h1 := Zf0 (p := fun y => hasM m y.From && hasM m y.To) (r := fun y => hasM (dmS m x) y.From && hasM (dmS m x) y.To) (V := l) (fun y _ hy => by
   rw [Bool.and_eq_true] at hy ⊢
   exact ⟨hold _ hy.1, hold _ hy.2⟩) ⟨x, hx, by
    rcases h.get x.From with ⟨f1, f2⟩ | ⟨f1, f2⟩
    ·rcases h.get x.To with ⟨t1, t2⟩ | ⟨t1, t2⟩
     ·exact (hd (f1.trans t1.symm)).elim
     ·simp [t1]
    ·simp [f1], by simp [Zgr]⟩
  have := h.few
  omega
theorem Ziw (l : List Za) (d : Int) : CompOk l d [(d, true)] := by
 have hg : ∀ v, mget [(d, true)] v = if v = d then some true else none := fun v => rfl
 refine ⟨by simp, fun v b hv => ?_, by unfold hasM; rw [hg, if_pos rfl]; rfl, fun v hv => ?_, by simp⟩
 ·rw [hg] at hv
  split at hv
  ·injection hv with hv; exact hv.symm
  ·cases hv
 ·unfold hasM at hv
  rw [hg] at hv
  by_cases h : v = d
  ·subst h; exact .base
  ·rw [if_neg h] at hv; cases hv
theorem CompOk.all {l : List Za} {d : Int} {m : List (Int × Bool)} (h : CompOk l d m) (hc : ∀ x ∈ l, hasM m x.From = hasM m x.To) {v : Int} : v ∈ m.map (·.1) ↔ Con l d v := by
 have h1 : v ∈ m.map (·.1) ↔ hasM m v = true := by
  rw [← Zc5]
  rcases h.get v with ⟨a, b⟩ | ⟨a, b⟩
  ·simp [a, b]
  ·simp [a, b]
 rw [h1]
 clear h1
 refine ⟨h.con v, fun c => ?_⟩
 induction c with
 | base => exact h.b0
 | fwd hx _ ih => rw [← hc _ hx]; exact ih
 | bwd hx _ ih => rw [hc _ hx]; exact ih
end Go.Vt
/- Devices and what exchanges connect. Conditions: those that each statement names. -/
set_option maxRecDepth 100000
namespace Go.Vt
open Go.RowKit Go.Proofs
abbrev SqIn (l : List (Int × Bool)) : Type := (ys : { ys : List Int // ys.Perm (pKI l) }) × SlS (eI .i64) 1 ys.1
instance ZDD (w0 : World) (L : List Blk) (bm b : Nat) (TB : TypeId) (l : List (Int × Bool)) [k1 : AtC w0 L bm #[.map (some b)] TB] [k2 : AtO w0 L b (mIn l)] : SpecR Tryz.prog w0 L 333 [.slice none 0 0, vKsI bm] (SqIn l) (fun s => vSl s.2) (fun s => mS 3 s.2) (l.length ≤ 1048576) :=
 ⟨fun hl w hw => Zl1 bm b TB l w hl (k1.out w hw) (k2.out w hw)⟩
instance ZDs (w0 : World) (L : List Blk) (bm b : Nat) (TB : TypeId) (l : List (Int × Bool)) [k1 : AtC w0 L bm #[.map (some b)] TB] [k2 : AtO w0 L b (mIn l)] : SpecR Tryz.prog w0 L 305 [vKsI bm] (SqIn l) (fun s => vSl s.2) (fun s => mS 3 s.2) (l.length ≤ 1048576) := ⟨fun hl w hw => by
 have f1 := FoC.mk (k1.out w hw)
 have f2 := FoO.mk (k2.out w hw)
 refine Zg Tryz.func305 rfl Tryz.ntmps305 rfl ?_
 repeat (first | (refine wkM ?_; try intro _) | (refine sC rfl rfl ?_ ?_; focus (exact hl)) | (refine sN rfl rfl ?_ ?_; (focus (exact hl)); intro _; (try simp only [List.cons_append, List.nil_append, List.append_nil])))
 rename_i s
 exact Zf rfl rfl (fun w hw => ⟨s, rfl, hw.sub suB⟩)⟩
instance ZuQ (w0 : World) (L : List Blk) (bm b : Nat) (TB : TypeId) (l : List (Int × Bool)) [k1 : AtC w0 L bm #[.map (some b)] TB] [k2 : AtO w0 L b (mIn l)] : SpecR Tryz.prog w0 L 264 [vKsI bm] (SlS (eI .i64) 1 (sortI (pKI l))) (fun s => vSl s) (fun s => mS 3 s) (l.length ≤ 12) := ⟨fun hl w hw => by
 have f1 := FoC.mk (k1.out w hw)
 have f2 := FoO.mk (k2.out w hw)
 refine Zg Tryz.func264 rfl Tryz.ntmps264 rfl ?_
 repeat (first | (refine wkM ?_; try intro _) | (refine sC rfl rfl ?_ ?_; focus (exact Nat.le_trans hl (by decide))) | (refine sN rfl rfl ?_ ?_; (focus (exact Nat.le_trans hl (by decide))); intro _; (try simp only [List.cons_append, List.nil_append, List.append_nil])))
 rename_i s
 obtain ⟨⟨ys, hp⟩, s⟩ := s
 simp only
 have hlen : ys.length ≤ 12 := by
  have := hp.length_eq
  rw [List.length_map] at this
  omega
 refine sZ rfl rfl hlen ?_
 intro s'
 repeat (refine wkM ?_; try intro _)
 obtain ⟨s2, e1, e2⟩ := s'.1.like (Zij hp).symm
 refine Zf rfl rfl (fun w hw => ⟨s2, ?_, ?_⟩)
 ·show Ending.returned (vSl s) = Ending.returned (vSl s2)
  rw [e1, s'.2]
 ·show Own _ (mS 3 s2) w
  rw [e2]
  exact hw.sub suB⟩
structure ExB (x : Za) : Prop where
 f : 0 ≤ x.From ∧ x.From ≤ 1073741824
 t : 0 ≤ x.To ∧ x.To ≤ 1073741824
 s : 0 ≤ x.Sent ∧ x.Sent ≤ 1073741824
 r : 0 ≤ x.Received ∧ x.Received ≤ 1073741824
 l : 0 ≤ x.Least ∧ x.Least ≤ 1073741824
def wgt (x : Za) : Int := x.Received - x.Sent - x.Least
instance ZxI (x : Za) : SpecC Tryz.prog 218 [.agg (Zd x)] (.int .i64 (wgt x)) (ExB x) := ⟨fun hp w => by
 have h1 := hp.s
 have h2 := hp.r
 have h3 := hp.l
 refine Zg Tryz.func218 rfl Tryz.ntmps218 rfl ?_
 repeat (refine wkO ?_; try intro _)
 exact Zf rfl rfl (fun w hw => Zh hw)⟩
def dmL (l : List Za) (i : Nat) : List (Int × Bool) := (l.take i).foldl dmS []
def devL (l : List Za) : List Int := sortI (pKI (dmL l l.length))
theorem Zh4 {κ α : Type} [DecidableEq κ] (m : List (κ × α)) (x : κ) (v : α) : (mput m x v).length ≤ m.length + 1 := by
 induction m with
 | nil => simp [mput]
 | cons p m ih =>
  rw [mput]
  split
  ·simp
  ·simp only [List.length_cons]
   omega
theorem Zgp {l : List Za} {i : Nat} (h : i < l.length) : dmL l (i + 1) = dmS (dmL l i) (gi l (i : Int)) := by
 unfold dmL
 rw [List.take_succ_eq_append_getElem h, List.foldl_append, Zi h]
 rfl
theorem Zhh (l : List Za) : ∀ i, i ≤ l.length → (dmL l i).length ≤ 2 * i
 | 0, _ => by simp [dmL]
 | i + 1, h => by
  have ih := Zhh l i (by omega)
  rw [Zgp (by omega)]
  have h1 := Zh4 (dmL l i) (gi l (i : Int)).From true
  have h2 := Zh4 (mput (dmL l i) (gi l (i : Int)).From true) (gi l (i : Int)).To true
  unfold dmS
  omega
set_option maxHeartbeats 4000000 in
theorem Zjk (v : Value) (l : List Za) (w : World) (hv : ArgS w v Zd l) (hl : l.length ≤ 6) :
  Calls Tryz.prog 213 [v].toArray w (RetM (SlS (eI .i64) 1 (devL l)) (fun s => vSl s) (fun s => mS 3 s) w) := by
 obtain ⟨p, cp, rfl⟩ := hv.form
 refine Zg Tryz.func213 rfl Tryz.ntmps213 rfl ?_
 repeat (refine wkM ?_; try intro _)
 rename_i b
 refine Zq (S := Nat) (fun i => i ≤ l.length) (fun i => [(3, .map (some b)), (7, .slice p l.length cp), (8, .int .i64 l.length), (9, .int .i64 (i : Nat))]) (fun i => [⟨b, .obj (mIn (dmL l i)), 383⟩]) (fun i => l.length - i) 0 (Nat.zero_le _) sbB slB (fun i hi => ?_)
 repeat (refine wkM ?_; try intro _)
 refine Zl rfl (fun h => ?_) (fun h => ?_)
 ·have hlt : i < l.length := by have := of_decide_eq_true h; omega
  have hne : l ≠ [] := fun h0 => by rw [h0] at hlt; simp at hlt
  obtain ⟨bw, ow, cw, hvw, hcw, hrow⟩ := hv.blk (k := 4) hne []
  injection hvw with e1 e2 e3
  subst e1
  subst e3
  have hrow' : ∀ L, RowC w L bw ow Za Zd l := fun L => ⟨fun w' hw' => hrow.out w' (hw'.sub (List.nil_sublist _))⟩
  have hnx := Zgp hlt
  unfold dmS at hnx
  repeat (refine wkM ?_; try intro _)
  rename_i b5
  (refine Zao (.v [0, 1, 2, 3, 4, 5] (.e1 6 (.e1 7 (.fin)))) ([⟨b5, Zd (gi l (i : Int)), 122⟩]) (h := ?_); refine wkX ?_)
  (repeat (refine wkH ?_))
  repeat (refine wkT ?_; try intro _)
  refine eMu rfl ?_
  repeat (refine wkT ?_; try intro _)
  refine eMu rfl ?_
  repeat (refine wkT ?_; try intro _)
  rw [← hnx]
  repeat (refine wkO ?_; try intro _)
  exact Zj (i + 1) hlt sbB slB (by omega)
 ·have hge : i = l.length := by have := of_decide_eq_false h; omega
  subst hge
  have hm := Zhh l l.length (Nat.le_refl _)
  repeat (first | (refine wkM ?_; try intro _) | (refine sC rfl rfl ?_ ?_; focus (first | exact trivial | exact (show (dmL l l.length).length ≤ 12 by omega))) | (refine sN rfl rfl ?_ ?_; (focus (first | exact trivial | exact (show (dmL l l.length).length ≤ 12 by omega))); intro _; (try simp only [List.cons_append, List.nil_append, List.append_nil])))
  rename_i bm s
  exact Zf rfl rfl (fun w hw => ⟨s, rfl, hw.sub suB⟩)
instance Zv3 (w0 : World) (L : List Blk) (v : Value) (l : List Za) [h : LstC w0 L v Za Zd l] : SpecR Tryz.prog w0 L 213 [v] (SlS (eI .i64) 1 (devL l)) (fun s => vSl s) (fun s => mS 3 s) (l.length ≤ 6) := ⟨fun hp w hw => Zjk v l w (h.out w hw) hp⟩
structure CompL (l : List Za) (d : Int) (c : List Int) : Prop where
 ord : c.Pairwise leI
 nd : c.Nodup
 mem : ∀ v, v ∈ c ↔ Con l d v
 few : c.length ≤ 1 + l.length
theorem Zqn {l : List Za} {d : Int} {m : List (Int × Bool)} (h : CompOk l d m) (hc : ∀ x ∈ l, hasM m x.From = hasM m x.To) : CompL l d (sortI (pKI m)) := by
 have hp := Zcq (pKI m)
 refine ⟨ZdQ _, hp.nodup_iff.2 h.nd, fun v => by rw [hp.mem_iff]; exact h.all hc, ?_⟩
 have h1 := h.few
 have h2 := List.countP_le_length (p := fun x : Za => hasM m x.From && hasM m x.To) (l := l)
 rw [ZdN, List.length_map]
 omega
set_option maxHeartbeats 8000000 in
theorem ZnP (v : Value) (l : List Za) (d : Int) (w : World) (hv : ArgS w v Zd l) (hl : l.length ≤ 6) :
  Calls Tryz.prog 266 [v, .int .i64 d].toArray w (RetM ((c : { c : List Int // CompL l d c }) × SlS (eI .i64) 1 c.1) (fun s => vSl s.2) (fun s => mS 3 s.2) w) := by
 obtain ⟨p, cp, rfl⟩ := hv.form
 refine Zg Tryz.func266 rfl Tryz.ntmps266 rfl ?_
 repeat (refine wkM ?_; try intro _)
 refine sMi rfl ?_
 repeat (refine wkM ?_; try intro _)
 rename_i b
 refine Zq (S := List (Int × Bool) × Bool) (fun q => CompOk l d q.1 ∧ (q.2 = false → ∀ x ∈ l, hasM q.1 x.From = hasM q.1 x.To)) (fun q => [(0, .slice p l.length cp), (5, .map (some b)), (6, .bool q.2)]) (fun q => [⟨b, .obj (mIn q.1), 383⟩]) (fun q => 2 * (8 - q.1.length) + (if q.2 then 1 else 0)) ([(d, true)], true) ⟨Ziw l d, fun h => by cases h⟩ sbB slB (fun q hq => ?_)
 obtain ⟨m, g⟩ := q
 obtain ⟨hm, hg⟩ := hq
 simp only at hm hg ⊢
 have hfew := hm.few
 have hcp := List.countP_le_length (p := fun x : Za => hasM m x.From && hasM m x.To) (l := l)
 repeat (refine wkM ?_; try intro _)
 refine Zl rfl (fun h => ?_) (fun h => ?_)
 ·subst h
  repeat (refine wkM ?_; try intro _)
  refine Zq (S := Nat × List (Int × Bool) × Bool) (fun q => q.1 ≤ l.length ∧ CompOk l d q.2.1 ∧ (q.2.2 = false → q.2.1 = m ∧ ∀ x ∈ l.take q.1, hasM m x.From = hasM m x.To) ∧ (q.2.2 = true → m.length < q.2.1.length)) (fun q => [(0, .slice p l.length cp), (5, .map (some b)), (6, .bool q.2.2), (13, .slice p l.length cp), (14, .int .i64 l.length), (15, .int .i64 (q.1 : Nat))]) (fun q => [⟨b, .obj (mIn q.2.1), 383⟩]) (fun q => l.length - q.1) (0, m, false) ⟨Nat.zero_le _, hm, fun _ => ⟨rfl, fun x hx => by rw [List.take_zero] at hx; cases hx⟩, fun h => by cases h⟩ sbB slB (fun q hq => ?_)
  obtain ⟨i, k, g⟩ := q
  obtain ⟨hi, hk, h0, h1⟩ := hq
  simp only at hi hk h0 h1 ⊢
  repeat (refine wkM ?_; try intro _)
  refine Zl rfl (fun h => ?_) (fun h => ?_)
  ·have hlt : i < l.length := by have := of_decide_eq_true h; omega
   have hne : l ≠ [] := fun h0 => by rw [h0] at hlt; simp at hlt
   obtain ⟨bw, ow, cw, hvw, hcw, hrow⟩ := hv.blk (k := 4) hne []
   injection hvw with e1 e2 e3
   subst e1
   subst e3
   have hrow' : ∀ L, RowC w L bw ow Za Zd l := fun L => ⟨fun w' hw' => hrow.out w' (hw'.sub (List.nil_sublist _))⟩
   have hx : gi l (i : Int) ∈ l := ZZ (by omega)
   have htk : l.take (i + 1) = l.take i ++ [gi l (i : Int)] := by rw [List.take_succ_eq_append_getElem hlt, Zi hlt]
   repeat (refine wkM ?_; try intro _)
   rename_i b8
   generalize gi l (i : Int) = x at *
   have hh : ∀ v, (mget k v).getD false = hasM k v := fun _ => rfl
   by_cases hd : hasM k x.From = hasM k x.To
   ·simp only [hh, hd, bne_self_eq_false]
    repeat (refine wkO ?_; try intro _)
    exact Zj (i + 1, k, g) ⟨hlt, hk, fun hg => by
     obtain ⟨rfl, h2⟩ := h0 hg
     refine ⟨rfl, fun y hy => ?_⟩
     rw [htk] at hy
     rcases List.mem_append.1 hy with hy | hy
     ·exact h2 y hy
     ·rw [List.mem_singleton] at hy
      rw [hy]
      exact hd, h1⟩ sbB slB (by show l.length - (i + 1) < l.length - i; omega)
   ·have hd' : (hasM k x.From != hasM k x.To) = true := by simpa using hd
    obtain ⟨g1, g2⟩ := hk.grow hx hd
    have hgr : m.length < (dmS k x).length := by
     cases g with
     | false =>
      have e := (h0 rfl).1
      rw [e] at g2 ⊢
      omega
     | true => have := h1 rfl; omega
    simp only [hh, hd']
    repeat (refine wkM ?_; try intro _)
    (refine Zao (.v [0, 1, 2, 3, 4, 5] (.e1 6 (.e1 7 (.e1 8 (.fin))))) ([⟨b8, Zd x, 122⟩]) (h := ?_); refine wkX ?_)
    (repeat (refine wkH ?_))
    repeat (refine wkT ?_; try intro _)
    refine eMu rfl ?_
    repeat (refine wkT ?_; try intro _)
    refine eMu rfl ?_
    repeat (refine wkT ?_; try intro _)
    repeat (refine wkO ?_; try intro _)
    exact Zj (i + 1, dmS k x, true) ⟨hlt, g1, (fun h => by cases h), fun _ => hgr⟩ sbB slB (by show l.length - (i + 1) < l.length - i; omega)
  ·have hge : i = l.length := by have := of_decide_eq_false h; omega
   subst hge
   rw [List.take_length] at h0
   repeat (refine wkM ?_; try intro _)
   refine Zj (k, g) ⟨hk, fun hg => by
    obtain ⟨rfl, h2⟩ := h0 hg
    exact h2⟩ sbB slB ?_
   have hf2 := hk.few
   have hc2 := List.countP_le_length (p := fun x : Za => hasM k x.From && hasM k x.To) (l := l)
   show 2 * (8 - k.length) + (if g then 1 else 0) < 2 * (8 - m.length) + (if true then 1 else 0)
   cases g with
   | false => rw [(h0 rfl).1]; simp
   | true => have := h1 rfl; simp; omega
 ·subst h
  have hc := hg rfl
  have hC := Zqn hm hc
  have hml : m.length ≤ 12 := by omega
  repeat (first | (refine wkM ?_; try intro _) | (refine sC rfl rfl ?_ ?_; focus (first | exact trivial | exact hml)) | (refine sN rfl rfl ?_ ?_; (focus (first | exact trivial | exact hml)); intro _; (try simp only [List.cons_append, List.nil_append, List.append_nil])))
  rename_i bm s
  exact Zf rfl rfl (fun w hw => ⟨⟨⟨_, hC⟩, s⟩, rfl, hw.sub suB⟩)
instance ZFS (w0 : World) (L : List Blk) (v : Value) (l : List Za) (d : Int) [h : LstC w0 L v Za Zd l] : SpecR Tryz.prog w0 L 266 [v, .int .i64 d] ((c : { c : List Int // CompL l d c }) × SlS (eI .i64) 1 c.1) (fun s => vSl s.2) (fun s => mS 3 s.2) (l.length ≤ 6) := ⟨fun hp w hw => ZnP v l d w (h.out w hw) hp⟩
end Go.Vt
/- The graph of a component. Conditions: those that each statement names. -/
namespace Go.Vt
open Go.RowKit Go.Proofs
open Classical in
noncomputable def cutK (xs : List Int) (t : Int) : Nat := if h : ∃ k, CutI xs t k then h.choose else 0
theorem ZrG {xs : List Int} (t : Int) (h : xs.Pairwise leI) : CutI xs t (cutK xs t) := by
 unfold cutK
 rw [dif_pos (Zhj h)]
 exact (Zhj h).choose_spec
instance ZGT (w0 : World) (L : List Blk) (v : Value) (xs : List Int) (t : Int) [h : LstC w0 L v Int (eI .i64) xs] : SpecM Tryz.prog w0 L 212 [v, .int .i64 t] (.tuple #[.int .i64 (cutK xs t : Nat), .bool (decide (t ∈ xs))]) (xs.Pairwise leI ∧ xs.length ≤ 1048576) := ⟨fun hp w hw => Zo1 v xs t _ (ZrG t hp.1) hp.1 w (h.out w hw) hp.2⟩
def slH {α : Type} {enc : α → Array Value} {k : Nat} {xs : List α} (s : SlS enc k xs) : Sl := match s.s with
 | none => ⟨none, xs.length, 0⟩
 | some q => ⟨some ⟨q.1, 0, none⟩, xs.length, q.2.1⟩
theorem ZbB {α : Type} {enc : α → Array Value} {k : Nat} {xs : List α} (s : SlS enc k xs) : vSl s = .slice (slH s).a (slH s).len (slH s).cap := by
 rcases s with ⟨s, h1, h2⟩
 rcases s with _ | ⟨b, c, sp⟩
 ·obtain rfl := h1.1 rfl
  rfl
 ·rfl
theorem ZbM {α : Type} {enc : α → Array Value} {k : Nat} {xs ys : List α} {s : SlS enc k xs} {t : SlS enc k ys} (h : vSl s = vSl t) : slH s = slH t := by
 rw [ZbB, ZbB t] at h
 injection h with h1 h2 h3
 cases hs : slH s
 cases ht : slH t
 rw [hs, ht] at h1 h2 h3
 simp only at h1 h2 h3
 rw [h1, h2, h3]
def smI (l : List Za) (c : List Int) : Nat → List Int
 | 0 => []
 | i + 1 => if (gi l (i : Int)).From ∈ c then smI l c i ++ [(i : Int)] else smI l c i
theorem ZfM (l : List Za) (c : List Int) : ∀ i, (smI l c i).length ≤ i
 | 0 => Nat.le_refl _
 | i + 1 => by
  have := ZfM l c i
  rw [smI]
  split
  ·rw [List.length_append, List.length_singleton]; omega
  ·omega
theorem Zhg (l : List Za) (c : List Int) : ∀ i, ∀ k ∈ smI l c i, 0 ≤ k ∧ k < i
 | 0, k, h => by cases h
 | i + 1, k, h => by
  rw [smI] at h
  split at h
  ·rcases List.mem_append.1 h with h | h
   ·have := Zhg l c i k h; omega
   ·rw [List.mem_singleton] at h; omega
  ·have := Zhg l c i k h; omega
theorem ArgS.lstK {α : Type} {w : World} {v : Value} {enc : α → Array Value} {xs : List α} (h : ArgS w v enc xs) (L : List Blk) : LstC w L v α enc xs := ⟨fun w' hw' => h.to hw'.ext⟩
abbrev PartS (l : List Za) (d : Int) : Type := (c : { c : List Int // CompL l d c }) × SlS (eI .i64) 1 (smI l c.1 l.length)
abbrev vGr (p : Option Addr) (n cp : Nat) (h : Sl) (z : Int) : Value := .agg (ZL ⟨⟨p, n, cp⟩, h, z⟩)
set_option maxHeartbeats 8000000 in
theorem Zn3 (p : Option Addr) (n cp : Nat) (l : List Za) (d : Int) (w : World) (hv : ArgS w (.slice p n cp) Zd l) (hl : l.length ≤ 6) :
  Calls Tryz.prog 215 [.slice p n cp, .int .i64 d].toArray w (RetM (PartS l d) (fun s => vGr p n cp (slH s.2) (s.1.1.length : Nat)) (fun s => mS 3 s.2) w) := by
 obtain ⟨p', cp', hform⟩ := hv.form
 injection hform with h1 h2 h3
 subst h1
 subst h2
 subst h3
 have hls := fun L => hv.lstK L
 refine Zg Tryz.func215 rfl Tryz.ntmps215 rfl ?_
 repeat (first | (refine wkM ?_; try intro _) | (refine sC rfl rfl ?_ ?_; focus (exact hl)) | (refine sN rfl rfl ?_ ?_; (focus (exact hl)); intro _; (try simp only [List.cons_append, List.nil_append, List.append_nil])))
 rename_i b4 cs b6
 obtain ⟨⟨c, hc⟩, s⟩ := cs
 simp only
 have hcl := hc.few
 have hbs : c.Pairwise leI ∧ c.length ≤ 1048576 := ⟨hc.ord, by omega⟩
 refine Zq (S := (i : Nat) × SlS (eI .i64) 1 (smI l c i)) (fun q => q.1 ≤ l.length) (fun q => [(5, vSl s), (4, .pointer (some ⟨b4, 0, none⟩)), (6, .pointer (some ⟨b6, 0, none⟩)), (18, .slice p l.length cp), (19, .int .i64 l.length), (20, .int .i64 (q.1 : Nat))]) (fun q => mS 3 q.2 ++ (⟨b6, ZL ⟨⟨p, l.length, cp⟩, slH q.2, (c.length : Nat)⟩, 324⟩ :: (mS 3 s ++ [⟨b4, ZL Zc9, 324⟩]))) (fun q => l.length - q.1) ⟨0, SlS.no⟩ (Nat.zero_le _) sbB suB (fun q hq => ?_)
 obtain ⟨i, o⟩ := q
 simp only at hq ⊢
 have hsl := ZfM l c i
 have hnx : smI l c (i + 1) = if (gi l (i : Int)).From ∈ c then smI l c i ++ [(i : Int)] else smI l c i := rfl
 repeat (refine wkM ?_; try intro _)
 refine Zl rfl (fun h => ?_) (fun h => ?_)
 ·have hlt : i < l.length := by have := of_decide_eq_true h; omega
  have hne : l ≠ [] := fun h0 => by rw [h0] at hlt; simp at hlt
  obtain ⟨bw, ow, cw, hvw, hcw, hrow⟩ := hv.blk (k := 4) hne []
  injection hvw with e1 e2 e3
  subst e1
  subst e3
  have hrow' : ∀ L, RowC w L bw ow Za Zd l := fun L => ⟨fun w' hw' => hrow.out w' (hw'.sub (List.nil_sublist _))⟩
  repeat (first | (refine wkM ?_; try intro _) | (refine sC rfl rfl ?_ ?_; focus (exact hbs)) | (refine sN rfl rfl ?_ ?_; (focus (exact hbs)); intro _; (try simp only [List.cons_append, List.nil_append, List.append_nil])))
  rename_i b8
  by_cases hf : (gi l (i : Int)).From ∈ c
  ·rw [if_pos hf] at hnx
   simp only [decide_eq_true hf]
   repeat (refine wkM ?_; try intro _)
   dsimp only
   rw [← ZbB o]
   repeat (refine wkM ?_; try intro _)
   refine sU rfl rfl ?_ ?_ ?_ ?_
   ·rfl
   ·rfl
   ·exact ⟨by decide, by omega, by omega⟩
   intro s'
   rw [ZbB s']
   repeat (refine wkM ?_; try intro _)
   obtain ⟨s3, x1, x2⟩ := SlS.turn 3 hnx.symm s'
   have x3 := ZbM x1
   repeat (refine wkO ?_; try intro _)
   exact Zj ⟨i + 1, s3⟩ hlt sbB (by simp only [x2, x3]; exact suB) (by show l.length - (i + 1) < l.length - i; omega)
  ·rw [if_neg hf] at hnx
   simp only [decide_eq_false hf]
   repeat (refine wkO ?_; try intro _)
   obtain ⟨s3, x1, x2⟩ := SlS.turn 3 hnx.symm o
   have x3 := ZbM x1
   exact Zj ⟨i + 1, s3⟩ hlt sbB (by simp only [x2, x3]; exact suB) (by show l.length - (i + 1) < l.length - i; omega)
 ·have hge : i = l.length := by have := of_decide_eq_false h; omega
  subst hge
  repeat (refine wkM ?_; try intro _)
  exact ZV rfl rfl (fun w hw => ⟨⟨⟨c, hc⟩, o⟩, rfl, hw.sub suB⟩)
instance ZE1 (w0 : World) (L : List Blk) (p : Option Addr) (n cp : Nat) (l : List Za) (d : Int) [h : LstC w0 L (.slice p n cp) Za Zd l] : SpecR Tryz.prog w0 L 215 [.slice p n cp, .int .i64 d] (PartS l d) (fun s => vGr p n cp (slH s.2) (s.1.1.length : Nat)) (fun s => mS 3 s.2) (l.length ≤ 6) := ⟨fun hp w hw => Zn3 p n cp l d w (h.out w hw) hp⟩
end Go.Vt
