/- SimplifyNear holds for every input that the card takes. Conditions: none. (part 4 of 6.) Conditions: those that each statement names. -/
import Derived.Test.YtgcjapcminakdaaGreatDoorNr3
/- The normal form of units of lines: what it says, and that it is determined by that. Conditions: those that each statement names. -/
set_option linter.unusedSimpArgs false
set_option linter.unusedVariables false
set_option maxHeartbeats 2000000
set_option maxRecDepth 100000
namespace Go.Vt
open Go.RowKit Go.Proofs
open Fv (va red)
section
variable {α : Type} [Inhabited α]
/-- Two neighbours change places. -/
def swpG (xs : List α) (j : Nat) : List α := (xs.set (j + 1) (gi xs (j : Int))).set j (gi xs ((j + 1 : Nat) : Int))
def dwnG (c : α → α → Int) (xs : List α) : Nat → List α
  | 0 => xs
  | j + 1 => if c (gi xs ((j + 1 : Nat) : Int)) (gi xs (j : Int)) < 0 then dwnG c (swpG xs j) j else xs
def srtG (c : α → α → Int) (xs : List α) : Nat → List α
  | 0 => xs
  | i + 1 => dwnG c (srtG c xs i) (i + 1)
theorem swpG_len (xs : List α) (j : Nat) : (swpG xs j).length = xs.length := by simp [swpG]
theorem swpG_gi {xs : List α} {j p : Nat} (h : j + 1 < xs.length) (hp : p < xs.length) : gi (swpG xs j) (p : Int) = if p = j then gi xs ((j + 1 : Nat) : Int) else if p = j + 1 then gi xs (j : Int) else gi xs (p : Int) := by
  rw [gi_nat (by rw [swpG_len]; exact hp)]
  unfold swpG
  rw [List.getElem_set, List.getElem_set]
  by_cases h1 : p = j
  · subst h1; simp
  · rw [if_neg (fun h => h1 h.symm), if_neg h1]
    by_cases h2 : p = j + 1
    · subst h2; simp
    · rw [if_neg (fun h => h2 h.symm), if_neg h2, gi_nat hp]
theorem swpG_perm {xs : List α} {j : Nat} (h : j + 1 < xs.length) : (swpG xs j).Perm xs := by
  have e : xs = xs.take j ++ xs[j] :: xs[j + 1] :: xs.drop (j + 2) := by
    rw [← List.drop_eq_getElem_cons h, ← List.drop_eq_getElem_cons (by omega), List.take_append_drop]
  have e2 : swpG xs j = xs.take j ++ xs[j + 1] :: xs[j] :: xs.drop (j + 2) := by
    apply List.ext_getElem
    · rw [swpG_len]
      simp only [List.length_append, List.length_take, List.length_cons, List.length_drop]
      omega
    · intro p h1 h2
      have hp : p < xs.length := by rw [swpG_len] at h1; exact h1
      have h3 := swpG_gi h hp
      rw [gi_nat h1, gi_nat h, gi_nat (show j < xs.length by omega), gi_nat hp] at h3
      rw [h3, List.getElem_append]
      simp only [List.length_take, Nat.min_eq_left (show j ≤ xs.length by omega)]
      by_cases h4 : p < j
      · rw [dif_pos h4, if_neg (by omega), if_neg (by omega)]
        simp
      · rw [dif_neg h4]
        by_cases h5 : p = j
        · subst h5; simp
        · rw [if_neg h5]
          by_cases h6 : p = j + 1
          · subst h6; simp
          · rw [if_neg h6]
            obtain ⟨q, rfl⟩ : ∃ q, p = j + 2 + q := ⟨p - (j + 2), by omega⟩
            simp only [show j + 2 + q - j = q + 1 + 1 by omega, List.getElem_cons_succ, List.getElem_drop]
  have h7 : (xs.take j ++ xs[j + 1] :: xs[j] :: xs.drop (j + 2)).Perm (xs.take j ++ xs[j] :: xs[j + 1] :: xs.drop (j + 2)) := (List.Perm.swap _ _ _).append_left _
  rw [e2]
  exact h7.trans (by rw [← e])
theorem dwnG_perm (c : α → α → Int) : ∀ (j : Nat) (xs : List α), j < xs.length → (dwnG c xs j).Perm xs
  | 0, _, _ => .refl _
  | j + 1, xs, h => by
    rw [dwnG]
    split
    · exact (dwnG_perm c j _ (by rw [swpG_len]; omega)).trans (swpG_perm h)
    · exact .refl _
theorem srtG_perm (c : α → α → Int) (xs : List α) : ∀ i, i < xs.length → (srtG c xs i).Perm xs
  | 0, _ => .refl _
  | i + 1, h => by
    have h1 := srtG_perm c xs i (by omega)
    rw [srtG]
    exact (dwnG_perm c _ _ (by rw [h1.length_eq]; exact h)).trans h1
section
variable {c : α → α → Int} {le : α → α → Prop} (h1 : ∀ x y, c x y < 0 → le x y) (h2 : ∀ x y, ¬ c x y < 0 → le y x) (h3 : ∀ x y z, le x y → le y z → le x z)
include h1 h2 h3
theorem dwnG_ord : ∀ (j n : Nat) (xs : List α), j < n → n ≤ xs.length → (∀ p q : Nat, p < q → q < n → q ≠ j → le (gi xs (p : Int)) (gi xs (q : Int))) → ∀ p q : Nat, p < q → q < n → le (gi (dwnG c xs j) (p : Int)) (gi (dwnG c xs j) (q : Int))
  | 0, n, xs, _, _, H, p, q, hpq, hq => H p q hpq hq (by omega)
  | j + 1, n, xs, hj, hn, H, p, q, hpq, hq => by
    rw [dwnG]
    split
    · rename_i hc
      refine dwnG_ord j n (swpG xs j) (by omega) (by rw [swpG_len]; exact hn) (fun p q hpq hq hqj => ?_) p q hpq hq
      rw [swpG_gi (by omega) (by omega), swpG_gi (by omega) (by omega), if_neg hqj]
      by_cases e1 : q = j + 1
      · rw [if_pos e1]
        by_cases e2 : p = j
        · rw [if_pos e2]; exact h1 _ _ hc
        · rw [if_neg e2, if_neg (by omega)]; exact H p j (by omega) (by omega) (by omega)
      · rw [if_neg e1]
        by_cases e2 : p = j
        · rw [if_pos e2]; exact H (j + 1) q (by omega) hq e1
        · rw [if_neg e2]
          by_cases e3 : p = j + 1
          · rw [if_pos e3]; exact H j q (by omega) hq e1
          · rw [if_neg e3]; exact H p q hpq hq e1
    · rename_i hc
      have h4 := h2 _ _ hc
      by_cases e1 : q = j + 1
      · subst e1
        by_cases e2 : p = j
        · subst e2; exact h4
        · exact h3 _ _ _ (H p j (by omega) (by omega) (by omega)) h4
      · exact H p q hpq hq e1
theorem srtG_ord (xs : List α) : ∀ i, i < xs.length → ∀ p q : Nat, p < q → q < i + 1 → le (gi (srtG c xs i) (p : Int)) (gi (srtG c xs i) (q : Int))
  | 0, _, p, q, _, _ => by omega
  | i + 1, h, p, q, hpq, hq => by
    have hl := (srtG_perm c xs i (by omega)).length_eq
    rw [srtG]
    exact dwnG_ord h1 h2 h3 (i + 1) (i + 2) _ (by omega) (by omega) (fun p q hpq hq hne => srtG_ord xs i (by omega) p q hpq (by omega)) p q hpq hq
end
end
theorem mul_eq0 {a b : Rat} (h : a * b = 0) (ha : a ≠ 0) : b = 0 := by
  rcases Rat.mul_eq_zero.1 h with h1 | h1
  · exact absurd h1 ha
  · exact h1
theorem lin_eq {x0 x1 y0 y1 c d : Rat} (hcd : c < d) (h1 : x0 + c * (x1 + c * 0) = y0 + c * (y1 + c * 0)) (h2 : x0 + d * (x1 + d * 0) = y0 + d * (y1 + d * 0)) : x0 = y0 ∧ x1 = y1 := by
  have h3 : (d - c) * (x1 - y1) = 0 := by grind
  have h4 := mul_eq0 h3 (by grind)
  have h5 : x1 = y1 := by grind
  exact ⟨by grind, h5⟩
instance : Dns Rat := ⟨fun a b h => ⟨(a + b) / 2, by grind, by grind⟩⟩
instance : Fv R_api_Line Rat R_api_Point where
  va := pos
  red := lred
  va_red f t := by
    unfold lred pos
    simp only
    congr 1 <;> grind
  red_eq f g t h := by
    unfold pos at h
    injection h with h1 h2
    unfold lred
    rw [h1, h2]
  agree f g a b h hv := by
    obtain ⟨c, h1, h2⟩ := Dns.out a b h
    obtain ⟨d, h3, h4⟩ := Dns.out c b h2
    have e1 := hv c h1 h2
    have e2 := hv d (by grind) h4
    unfold pos at e1 e2
    injection e1 with p1 p2
    injection e2 with p3 p4
    have q1 := lin_eq h3 p1 p3
    have q2 := lin_eq h3 p2 p4
    cases f
    cases g
    simp_all
theorem va_pos (f : R_api_Line) (t : Rat) : va f t = pos f t := rfl
theorem smL_iff {f g : R_api_Line} {t : Rat} : smL f g t = true ↔ va f t = va g t := by
  unfold smL
  rw [Bool.and_eq_true, qsame_iff, qsame_iff, va_pos, va_pos]
  unfold lnX lnY pos
  simp only [R_api_Point.mk.injEq]
  constructor
  · rintro ⟨h1, h2⟩; constructor <;> grind
  · rintro ⟨h1, h2⟩; constructor <;> grind
/-- A unit, plain. -/
def absU (u : UL) : GU Rat R_api_Line := ⟨u.In.From.P, u.In.To.P, u.In.OpenFrom, u.In.OpenTo, u.F⟩
structure RtOk (x : R_api_Real) : Prop where
  r : x.R = 0
  n : x.Neg = false
theorem rt_eq {x y : R_api_Real} (hx : RtOk x) (hy : RtOk y) : x = y ↔ x.P = y.P := by
  obtain ⟨p, r, n⟩ := x
  obtain ⟨p', r', n'⟩ := y
  obtain ⟨h1, h2⟩ := hx
  obtain ⟨h3, h4⟩ := hy
  simp only at h1 h2 h3 h4
  subst h1
  subst h2
  subst h3
  subst h4
  simp
theorem IvOk.rf {K : Nat} {I : R_api_Interval} (h : IvOk K I) : RtOk I.From := ⟨h.r1, h.n1⟩
theorem IvOk.rt {K : Nat} {I : R_api_Interval} (h : IvOk K I) : RtOk I.To := ⟨h.r2, h.n2⟩
theorem absU_inj {K K' : Nat} {u w : UL} (hu : IvOk K u.In) (hw : IvOk K' w.In) (h : absU u = absU w) : u = w := by
  obtain ⟨⟨f, t, o, c⟩, F⟩ := u
  obtain ⟨⟨f', t', o', c'⟩, F'⟩ := w
  unfold absU at h
  injection h with h1 h2 h3 h4 h5
  simp only at h1 h2 h3 h4 h5
  have e1 := (rt_eq hu.rf hw.rf).2 h1
  have e2 := (rt_eq hu.rt hw.rt).2 h2
  simp only at e1 e2
  subst e1
  subst e2
  subst h3
  subst h4
  subst h5
  rfl
theorem absL_inj {K K' : Nat} : ∀ {l m : List UL}, (∀ u ∈ l, IvOk K u.In) → (∀ u ∈ m, IvOk K' u.In) → l.map absU = m.map absU → l = m
  | [], [], _, _, _ => rfl
  | [], _ :: _, _, _, h => by simp at h
  | _ :: _, [], _, _, h => by simp at h
  | u :: l, w :: m, hl, hm, h => by
    simp only [List.map_cons, List.cons.injEq] at h
    rw [absU_inj (hl u (.head _)) (hm w (.head _)) h.1, absL_inj (fun x hx => hl x (.tail _ hx)) (fun x hx => hm x (.tail _ hx)) h.2]
theorem aprt_iff {u w : UL} : aprt u.In w.In = true ↔ (absU u).bfr (absU w) := by
  unfold aprt GU.bfr absU
  simp
theorem swp_G (xs : List UL) (j : Nat) : swp xs j = swpG xs j := rfl
theorem dwn_G : ∀ (j : Nat) (xs : List UL), dwn xs j = dwnG cmpU xs j
  | 0, _ => rfl
  | j + 1, xs => by rw [dwn, dwnG, dwn_G j, swp_G]
theorem srt_G (xs : List UL) : ∀ i, srt xs i = srtG cmpU xs i
  | 0 => rfl
  | i + 1 => by rw [srt, srtG, dwn_G, srt_G xs i]
theorem sor_perm (us : List UL) : (sor us).Perm us := by
  rcases us with _ | ⟨u, us⟩
  · exact .refl _
  · unfold sor
    rw [srt_G]
    exact srtG_perm _ _ _ (by simp)
def leU (u w : UL) : Prop := u.In.From.P < w.In.From.P ∨ (u.In.From.P = w.In.From.P ∧ opn u.In ≤ opn w.In)
theorem cmpInt_lt {a b : Int} : Lib.compareInt a b < 0 ↔ a < b := by
  unfold Lib.compareInt
  split
  · omega
  · split <;> omega
theorem cmpInt_0 {a b : Int} : Lib.compareInt a b = 0 ↔ a = b := by
  unfold Lib.compareInt
  split
  · omega
  · split <;> omega
theorem cmpU_lt {u w : UL} (h : cmpU u w < 0) : leU u w := by
  unfold cmpU orL at h
  split at h
  · rename_i h1
    have h1 := cq_eq.1 h1
    refine .inr ⟨h1, ?_⟩
    unfold orL at h
    split at h
    · rename_i h2
      have := cmpInt_0.1 h2
      omega
    · have := cmpInt_lt.1 h
      omega
  · exact .inl (cq_lt.1 h)
theorem cmpU_ge {u w : UL} (h : ¬ cmpU u w < 0) : leU w u := by
  unfold cmpU orL at h
  split at h
  · rename_i h1
    have h1 := cq_eq.1 h1
    refine .inr ⟨h1.symm, ?_⟩
    unfold orL at h
    split at h
    · rename_i h2
      have := cmpInt_0.1 h2
      omega
    · have : ¬ opn u.In < opn w.In := fun k => h (cmpInt_lt.2 k)
      omega
  · rename_i h1
    refine .inl ?_
    have h2 : ¬ u.In.From.P < w.In.From.P := fun k => h (cq_lt.2 k)
    have h3 : ¬ u.In.From.P = w.In.From.P := fun k => h1 (cq_eq.2 k)
    grind
theorem leU_tr {u v w : UL} (h : leU u v) (k : leU v w) : leU u w := by
  unfold leU at *
  rcases h with h | ⟨h1, h2⟩ <;> rcases k with k | ⟨k1, k2⟩
  · exact .inl (by grind)
  · exact .inl (by grind)
  · exact .inl (by grind)
  · exact .inr ⟨by grind, by omega⟩
theorem sor_ord (us : List UL) (p q : Nat) (hpq : p < q) (hq : q < us.length) : leU (gi (sor us) (p : Int)) (gi (sor us) (q : Int)) := by
  unfold sor
  rw [srt_G]
  exact srtG_ord (c := cmpU) (le := leU) (fun _ _ => cmpU_lt) (fun _ _ => cmpU_ge) (fun _ _ _ => leU_tr) us (us.length - 1) (by omega) p q hpq (by omega)
theorem parts_abs {u : UL} {K : Nat} (h : IvOk K u.In) : (atU u).map absU = (absU u).parts := by
  have e : (u.In.From = u.In.To) ↔ (absU u).a = (absU u).b := rt_eq h.rf h.rt
  unfold atU GU.parts
  rw [List.map_append]
  congr 1
  · show List.map absU (if u.In.OpenFrom = true then [] else _) = if u.In.OpenFrom = true then [] else _
    split <;> rfl
  · by_cases hi : u.In.From = u.In.To
    · rw [if_pos hi, if_pos (e.1 hi)]
      rfl
    · rw [if_neg hi, if_neg (fun k => hi (e.2 k))]
      show List.map absU (_ :: if u.In.OpenTo = true then [] else _) = _ :: if u.In.OpenTo = true then [] else _
      split <;> rfl
theorem atm_abs {us : List UL} {K : Nat} (h : ∀ u ∈ us, IvOk K u.In) : ∀ m, m ≤ us.length → (atm us m).map absU = partsL ((us.take m).map absU)
  | 0, _ => rfl
  | m + 1, hm => by
    have hg := gi_nat (xs := us) (i := m) (by omega)
    rw [atm, List.map_append, atm_abs h m (by omega), parts_abs (h _ (gi_mem (by omega))), List.take_succ_eq_append_getElem (by omega), List.map_append, partsL, partsL, List.flatMap_append, hg]
    simp
theorem lstU_snoc (ys : List UL) (u : UL) : lstU (ys ++ [u]) = u := by
  unfold lstU
  rw [gi_eq (by simp only [List.length_append, List.length_singleton]; omega)]
  simp only [List.length_append, List.length_singleton]
  rw [List.getElem_append_right (by omega)]
  simp
theorem turn_snoc (ys : List UL) (u w : UL) : turn (ys ++ [u]) w = ys ++ [w] := by
  unfold turn
  simp
theorem isI_iff {u : UL} {K : Nat} (h : IvOk K u.In) : isI u = true ↔ (absU u).a = (absU u).b := by
  unfold isI
  rw [decide_eq_true_iff]
  exact rt_eq h.rf h.rt
theorem map_snoc_inv {ys' : List UL} {u' : UL} {ys : List (GU Rat R_api_Line)} {u : GU Rat R_api_Line} (h : (ys' ++ [u']).map absU = ys ++ [u]) : u = absU u' := by
  rw [List.map_append] at h
  exact (snoc_inj h).2.symm
theorem bef_snoc (zs : List UL) (w : UL) (t : R_api_Real) : bef (zs ++ [w]) t = (decide (w.In.To = t) && !decide (w.In.From = w.In.To)) := by
  unfold bef
  rw [lstU_snoc, decide_eq_true (by simp : 0 < (zs ++ [w]).length), Bool.true_and]
theorem hld_snoc (zs : List UL) (w : UL) (t : R_api_Real) : hld (zs ++ [w]) t = (decide (w.In.To = t) && !w.In.OpenTo) := by
  unfold hld
  rw [lstU_snoc, decide_eq_true (by simp : 0 < (zs ++ [w]).length), Bool.true_and]
def pvO (al : List UL) (i : Nat) : Option (GU Rat R_api_Line) := if i = 0 then none else some (absU (gi al ((i : Int) - 1)))
def nxO (al : List UL) (i : Nat) : Option (GU Rat R_api_Line) := if i + 1 < al.length then some (absU (gi al ((i : Int) + 1))) else none
theorem held_iff {xs : List UL} (hxs : ∀ v ∈ xs, UOk v) {t : R_api_Real} (ht : RtOk t) : hld xs t = true ↔ Held (xs.map absU) t.P := by
  rcases nil_or_snoc xs with rfl | ⟨zs, w, rfl⟩
  · unfold hld Held
    simp
  · rw [hld_snoc]
    have hw := hxs w (by simp)
    simp only [Bool.and_eq_true, decide_eq_true_eq, Bool.not_eq_true']
    rw [rt_eq hw.i.rt ht]
    constructor
    · rintro ⟨h1, h2⟩
      exact ⟨zs.map absU, absU w, by simp, h1, h2⟩
    · rintro ⟨ys, u, h1, h2, h3⟩
      have := map_snoc_inv h1
      subst this
      exact ⟨h2, h3⟩
theorem stp_nrm {al xs : List UL} {i : Nat} {x : UL} (hi : i < al.length) (hal : ∀ u ∈ al, UIn u) (hx : UIn x) (hxs : ∀ v ∈ xs, UOk v) : Stp (pvO al i) (nxO al i) (xs.map absU) (absU x) ((nstp al i xs x).map absU) := by
  have hprev : ∀ q, pvO al i = some q → 0 < i ∧ q = absU (gi al ((i : Int) - 1)) ∧ UIn (gi al ((i : Int) - 1)) := fun q hq => by
    unfold pvO at hq
    split at hq
    · cases hq
    · injection hq with hq
      exact ⟨by omega, hq.symm, hal _ (gi_mem (by omega))⟩
  have hI := isI_iff hx.i
  unfold nstp
  by_cases hi0 : isI x = true
  · have hie := hI.1 hi0
    rw [if_neg (by rw [hi0]; decide)]
    have noClo : cC xs x = false → NoClo (xs.map absU) (absU x) := fun hC ys u h e1 e2 e3 => by
      rcases nil_or_snoc xs with rfl | ⟨zs, w, rfl⟩
      · simp at h
      · have := map_snoc_inv h
        subst this
        have hw := hxs w (by simp)
        have h2 : cC (zs ++ [w]) x = true := by
          unfold cC
          rw [bef_snoc, lstU_snoc, (smL_iff.2 e3 : smL w.F x.F x.In.From.P = true), decide_eq_true ((rt_eq hw.i.rt hx.i.rf).2 e1), decide_eq_false (fun k => e2 ((rt_eq hw.i.rf hw.i.rt).1 k))]
          rfl
        rw [hC] at h2
        cases h2
    by_cases hC : cC xs x = true
    · rw [if_pos hC]
      rcases nil_or_snoc xs with rfl | ⟨zs, w, rfl⟩
      · cases hC
      · have hw := hxs w (by simp)
        unfold cC at hC
        rw [bef_snoc, lstU_snoc] at hC
        simp only [Bool.and_eq_true, decide_eq_true_eq, Bool.not_eq_true', decide_eq_false_iff_not] at hC
        rw [turn_snoc, lstU_snoc, List.map_append, List.map_append]
        exact .clo hie ((rt_eq hw.i.rt hx.i.rf).1 hC.1.1) (fun k => hC.1.2 ((rt_eq hw.i.rf hw.i.rt).2 k)) (smL_iff.1 hC.2)
    · rw [if_neg hC]
      have hno := noClo (by simpa using hC)
      have hnx : cD al i x = true ↔ NxI (nxO al i) (absU x) := by
        unfold cD NxI nxO
        by_cases h1 : i + 1 < al.length
        · rw [decide_eq_true h1, if_pos h1, Bool.true_and]
          have hn := hal _ (gi_mem (i := (i : Int) + 1) (xs := al) (by omega))
          simp only [Bool.and_eq_true, decide_eq_true_eq, Option.some.injEq]
          rw [rt_eq hn.i.rf hx.i.rf, smL_iff]
          constructor
          · rintro ⟨h2, h3⟩
            exact ⟨_, rfl, h2, h3⟩
          · rintro ⟨n, rfl, h2, h3⟩
            exact ⟨h2, h3⟩
        · rw [decide_eq_false h1, if_neg h1]
          simp
      by_cases hD : cD al i x = true
      · rw [if_pos hD]
        exact .lft hie hno (hnx.1 hD)
      · rw [if_neg hD, List.map_append]
        exact .rdc hie hno (fun k => hD (hnx.2 k))
  · have hie : (absU x).a ≠ (absU x).b := fun k => hi0 (hI.2 k)
    rw [if_pos (by simpa using hi0)]
    by_cases hA : cA xs x = true
    · rw [if_pos hA]
      rcases nil_or_snoc xs with rfl | ⟨zs, w, rfl⟩
      · cases hA
      · have hw := hxs w (by simp)
        unfold cA at hA
        rw [bef_snoc, lstU_snoc] at hA
        simp only [Bool.and_eq_true, decide_eq_true_eq, Bool.not_eq_true', decide_eq_false_iff_not] at hA
        rw [turn_snoc, lstU_snoc, List.map_append, List.map_append]
        exact .ext hie ((rt_eq hw.i.rt hx.i.rf).1 hA.1.1) (fun k => hA.1.2 ((rt_eq hw.i.rf hw.i.rt).2 k)) hA.2.1 hA.2.2
    · rw [if_neg hA]
      have hno : NoExt (xs.map absU) (absU x) := fun ys u h e1 e2 e3 e4 => by
        rcases nil_or_snoc xs with rfl | ⟨zs, w, rfl⟩
        · simp at h
        · have := map_snoc_inv h
          subst this
          have hw := hxs w (by simp)
          refine hA ?_
          unfold cA
          rw [bef_snoc, lstU_snoc, decide_eq_true ((rt_eq hw.i.rt hx.i.rf).2 e1), decide_eq_false (fun k => e2 ((rt_eq hw.i.rf hw.i.rt).1 k)), show w.In.OpenTo = false from e3, decide_eq_true (show w.F = x.F from e4)]
          rfl
      have hpv : cB al i xs x = true ↔ PvI (pvO al i) (absU x) ∧ ¬ Held (xs.map absU) (absU x).a := by
        have hh := held_iff hxs hx.i.rf
        unfold cB
        by_cases h1 : 0 < i
        · rw [decide_eq_true h1, Bool.true_and]
          have hn := hal _ (gi_mem (i := (i : Int) - 1) (xs := al) (by omega))
          simp only [Bool.and_eq_true, decide_eq_true_eq, Bool.not_eq_true']
          rw [isI_iff hn.i, rt_eq hn.i.rf hx.i.rf]
          unfold PvI pvO
          rw [if_neg (by omega)]
          constructor
          · rintro ⟨h2, h3, h4⟩
            refine ⟨⟨_, rfl, h2, h3⟩, fun k => ?_⟩
            rw [hh.2 k] at h4
            cases h4
          · rintro ⟨⟨q, h2, h3, h4⟩, h5⟩
            injection h2 with h2
            subst h2
            refine ⟨h3, h4, ?_⟩
            rcases h6 : hld xs x.In.From with _ | _
            · rfl
            · exact absurd (hh.1 h6) h5
        · rw [decide_eq_false h1, Bool.false_and]
          unfold PvI pvO
          rw [if_pos (by omega)]
          simp
      by_cases hB : cB al i xs x = true
      · rw [if_pos hB, List.map_append]
        have := hpv.1 hB
        exact .appO hie hno this.1 this.2
      · rw [if_neg hB, List.map_append]
        exact .appN hie hno (fun k => hB (hpv.2 k))
theorem mk_nrm {al : List UL} (hal : ∀ u ∈ al, UIn u) : ∀ d i, i + d = al.length → Mk (pvO al i) ((nrm al i).map absU) ((al.drop i).map absU) ((nrm al al.length).map absU)
  | 0, i, h => by
    rw [Nat.add_zero] at h
    subst h
    rw [List.drop_length]
    exact .nil
  | d + 1, i, h => by
    have hi : i < al.length := by omega
    have ih := mk_nrm hal d (i + 1) (by omega)
    have hg := gi_nat hi
    have hx := hal _ (gi_mem (i := (i : Int)) (xs := al) (by omega))
    rw [List.drop_eq_getElem_cons hi, List.map_cons, ← hg]
    have e1 : pvO al (i + 1) = some (absU (gi al (i : Int))) := by
      unfold pvO
      rw [if_neg (by omega), show ((i + 1 : Nat) : Int) - 1 = (i : Int) by omega]
    have e2 : ((al.drop (i + 1)).map absU).head? = nxO al i := by
      unfold nxO
      by_cases h1 : i + 1 < al.length
      · rw [if_pos h1, List.drop_eq_getElem_cons h1, List.map_cons, List.head?_cons, ← gi_nat h1]
        rfl
      · rw [if_neg h1, List.drop_eq_nil_of_le (by omega)]
        rfl
    refine .cons ?_ (e1 ▸ ih)
    rw [e2, nrm]
    exact stp_nrm hi hal hx (nrm_ok hal i (by omega))
theorem next_of_aprN {l : List UL} : ∀ m, m ≤ l.length → aprN l m = true → ∀ i (h : i + 1 < m), aprt (gi l (i : Int)).In (gi l ((i + 1 : Nat) : Int)).In = true
  | 0, _, _, i, h => by omega
  | m + 1, hm, ha, i, h => by
    rw [aprN, Bool.and_eq_true] at ha
    rcases (by omega : i + 1 < m ∨ i + 1 = m) with h1 | h1
    · exact next_of_aprN m (by omega) ha.1 i h1
    · subst h1
      have h2 := ha.2
      rw [decide_eq_true (by omega : 0 < i + 1), show ((i + 1 : Nat) : Int) - 1 = (i : Int) by omega, Bool.true_and, Bool.not_not] at h2
      exact h2
theorem aprN_of_next {l : List UL} (H : ∀ i, i + 1 < l.length → aprt (gi l (i : Int)).In (gi l ((i + 1 : Nat) : Int)).In = true) : ∀ m, m ≤ l.length → aprN l m = true
  | 0, _ => rfl
  | m + 1, hm => by
    rw [aprN, aprN_of_next H m (by omega), Bool.true_and]
    rcases m with _ | m
    · rfl
    · rw [decide_eq_true (by omega : 0 < m + 1), show ((m + 1 : Nat) : Int) - 1 = (m : Int) by omega, H m (by omega)]
      rfl
/-- Units whose intervals are not empty. -/
structure UVal (us : List UL) : Prop where
  i : ∀ u ∈ us, UIn u
  v : ∀ u ∈ us, (absU u).ok
theorem UVal.sor {us : List UL} (h : UVal us) : UVal (sor us) := ⟨fun u hu => h.i u (sor_mem hu), fun u hu => h.v u (sor_mem hu)⟩
theorem sor_pw {us : List UL} (h : UVal us) (ha : aprN (sor us) (sor us).length = true) : ((sor us).map absU).Pairwise GU.bfr := by
  have hs := h.sor
  refine pw_of_next (fun u hu => ?_) (fun i hi => ?_)
  · obtain ⟨w, hw, rfl⟩ := List.mem_map.1 hu
    exact hs.v w hw
  · rw [List.length_map] at hi
    have := next_of_aprN _ (Nat.le_refl _) ha i hi
    rw [aprt_iff, gi_nat (by omega), gi_nat hi] at this
    simpa using this
theorem dis_of_apr {us : List UL} (h : UVal us) (ha : aprN (sor us) (sor us).length = true) : (us.map absU).Pairwise Dis :=
  (dis_perm ((sor_perm us).map absU)).1 ((sor_pw h ha).imp fun h => h.Dis)
theorem apr_of_dis {us : List UL} (h : UVal us) (hd : (us.map absU).Pairwise Dis) : aprN (sor us) (sor us).length = true := by
  have hs := h.sor
  have hp := (dis_perm ((sor_perm us).map absU)).2 hd
  refine aprN_of_next (fun i hi => ?_) _ (Nat.le_refl _)
  have hl := sor_len us
  have ho := sor_ord us i (i + 1) (by omega) (by omega)
  have hdi := List.pairwise_iff_getElem.1 hp i (i + 1) (by rw [List.length_map]; omega) (by rw [List.length_map]; omega) (by omega)
  rw [List.getElem_map, List.getElem_map, ← gi_nat (by omega), ← gi_nat hi] at hdi
  rw [aprt_iff]
  refine bfr_of_dis (hs.v _ (gi_mem (by omega))) (hs.v _ (gi_mem (by omega))) ?_ hdi
  rcases ho with h1 | ⟨h1, h2⟩
  · exact .inl h1
  · refine .inr ⟨h1, fun k => ?_⟩
    have k' : (gi (Go.Vt.sor us) (i : Int)).In.OpenFrom = true := k
    show (gi (Go.Vt.sor us) ((i + 1 : Nat) : Int)).In.OpenFrom = true
    unfold opn at h2
    rw [if_pos k'] at h2
    split at h2
    · assumption
    · omega
theorem nrmE_0 {us : List UL} (h : UVal us) : nrmE us = 0 ↔ (us.map absU).Pairwise Dis := by
  unfold nrmE
  constructor
  · intro k
    split at k
    · exact dis_of_apr h (by assumption)
    · cases k
  · intro k
    rw [if_pos (apr_of_dis h k)]
/-- The normal form, and what it says. -/
theorem nrm_nf {us : List UL} (h : UVal us) (hd : (us.map absU).Pairwise Dis) : NF ((nrmR us).map absU) ∧ ∀ t v, Has ((nrmR us).map absU) t v ↔ Has (us.map absU) t v := by
  have hs := h.sor
  have ha := apr_of_dis h hd
  have hp := sor_pw h ha
  have hok : ∀ u ∈ (Go.Vt.sor us).map absU, u.ok := fun u hu => by
    obtain ⟨w, hw, rfl⟩ := List.mem_map.1 hu
    exact hs.v w hw
  have hall := atm_ok hs.i (Go.Vt.sor us).length (Nat.le_refl _)
  have hmk := mk_nrm hall _ 0 (Nat.zero_add _)
  have hparts : (atm (Go.Vt.sor us) (Go.Vt.sor us).length).map absU = partsL ((Go.Vt.sor us).map absU) := by
    have := atm_abs (fun u hu => (hs.i u hu).i) (Go.Vt.sor us).length (Nat.le_refl _)
    rw [List.take_length] at this
    exact this
  rw [List.drop_zero, hparts] at hmk
  have hinv := Inv.start (partsL_at hok) (partsL_pw hok hp)
  have e : nrmR us = nrm (atm (Go.Vt.sor us) (Go.Vt.sor us).length) (atm (Go.Vt.sor us) (Go.Vt.sor us).length).length := by
    unfold nrmR allU
    rw [if_pos ha]
  rw [e]
  obtain ⟨h1, h2⟩ := hmk.nf hinv
  refine ⟨h1, fun t v => ?_⟩
  rw [h2, partsL_has hok]
  exact has_perm ((sor_perm us).map absU)
theorem nrmR_ok {us : List UL} (h : ∀ u ∈ us, UIn u) : ∀ v ∈ nrmR us, UOk v := by
  unfold nrmR
  split
  · exact nrm_ok (atm_ok (fun u hu => h u (sor_mem hu)) _ (Nat.le_refl _)) _ (Nat.le_refl _)
  · intro v hv
    cases hv
end Go.Vt
/- A region that draws its order: values anywhere, allocations in any order, then effects in a forced order. Conditions: the closed check 'drlB'. -/
set_option linter.unusedSimpArgs false
set_option linter.unusedVariables false
set_option maxHeartbeats 2000000
set_option linter.unusedSectionVars false
namespace Go.Vt
open Go.RowKit
section
variable {P : Program} {w0 : World} {n : Nat} {ops : Array Oper} {L L' Lw : List Blk} {E : Env}
variable {Q : Exit → Act → World → Prop} {v : Value}
/-- Whatever order is drawn; 'As' may come at any time. -/
def wpK (P : Program) (w0 : World) (ops : Array Oper) (As : List Nat) (Lw : List Blk) (F : List Blk → Act → Prop) : Nat → Array Bool → List Nat → List Blk → Act → Prop
  | 0, listed, es, L, a => es = [] ∧ Region.ready .any ops listed = [] ∧ F L a
  | f + 1, listed, es, L, a => Region.ready .any ops listed ≠ [] ∧ ∀ i ∈ Region.ready .any ops listed, ∃ o, ops[i]? = some o ∧
      ((∃ v, YieldsC P w0 L ops o v a ∧ wpK P w0 ops As Lw F f (listed.setIfInBounds i true) es L (a.put o.dst v)) ∨
       ∃ es', (es = i :: es' ∨ (As.contains i = true ∧ es' = es)) ∧ Eff P w0 Lw ops L o a fun L' u => wpK P w0 ops As Lw F f (listed.setIfInBounds i true) es' L' (a.put o.dst u))
theorem wpK_first {As : List Nat} {i : Nat} {oi : Oper} {F : List Blk → Act → Prop} (hi : ops[i]? = some oi) (hsel : ∀ (j : Nat) (o : Oper) cs b, ops[j]? = some o → o.op ≠ .select cs b) :
    ∀ (f : Nat) (listed : Array Bool) (es : List Nat) (L : List Blk) (a : Act),
      (∀ j oj, ops[j]? = some oj → j ≠ i → listed.getD j true = false → (∀ e ∈ oj.after, Region.binds .any e = true → e.on ≠ i) → oi.apart ops oj = true) →
      i ∈ Region.ready .any ops listed → YieldsC P w0 Lw ops oi v a → Weak w0 Lw L →
      wpK P w0 ops As Lw F f (listed.setIfInBounds i true) es L (a.put oi.dst v) → wpK P w0 ops As Lw F (f + 1) listed es L a := by
  intro f
  induction f with
  | zero =>
    intro listed es L a _ hr hy hw H
    refine ⟨fun h => (by rw [h] at hr; cases hr), fun j hj => ?_⟩
    by_cases hji : j = i
    · subst hji
      exact ⟨oi, hi, .inl ⟨v, hy.weak hw, H⟩⟩
    · have := ready_mono hj hji
      rw [H.2.1] at this
      cases this
  | succ f ih =>
    intro listed es L a hfree hr hy hw H
    have hun := (mem_ready.1 hr).1
    refine ⟨fun h => (by rw [h] at hr; cases hr), fun j hj => ?_⟩
    by_cases hji : j = i
    · subst hji
      exact ⟨oi, hi, .inl ⟨v, hy.weak hw, H⟩⟩
    · obtain ⟨hjun, oj, hoj, hall⟩ := mem_ready.1 hj
      have hnot : ∀ e ∈ oj.after, Region.binds .any e = true → e.on ≠ i := fun e he hb heq => by
        have h1 := hall e he hb
        rw [heq, getD_both hun] at h1
        cases h1
      obtain ⟨h1, h2, h3⟩ := Oper.apart_spec (hfree j oj hoj hji hjun hnot)
      have hfree' : ∀ q oq, ops[q]? = some oq → q ≠ i → (listed.setIfInBounds j true).getD q true = false →
          (∀ e ∈ oq.after, Region.binds .any e = true → e.on ≠ i) → oi.apart ops oq = true := fun q oq hq hqi hun' hno => by
        refine hfree q oq hq hqi ?_ hno
        by_cases hjq : j = q
        · subst hjq; exact hjun
        · rw [getD_set_ne true hjq] at hun'; exact hun'
      have keep : ∀ u, YieldsC P w0 Lw ops oi v (a.put oj.dst u) := fun u => hy.same (execOp_put oi (fun cs b => hsel i oi cs b hi) a oj.dst u h3) (wanted_put oi a oj.dst u h3)
      have hex : execOp (a.put oi.dst v).eval oj = execOp a.eval oj := execOp_put oj (fun cs b => hsel j oj cs b hoj) a oi.dst v h1
      have hwa : Region.wanted oj (yielded ops (a.put oi.dst v).tmps) = Region.wanted oj (yielded ops a.tmps) := wanted_put oj a oi.dst v h1
      have step : ∀ es' L' u, Weak w0 Lw L' → wpK P w0 ops As Lw F f ((listed.setIfInBounds i true).setIfInBounds j true) es' L' ((a.put oi.dst v).put oj.dst u) → wpK P w0 ops As Lw F (f + 1) (listed.setIfInBounds j true) es' L' (a.put oj.dst u) := fun es' L' u hw' hh => by
        refine ih _ _ _ _ hfree' (ready_mono hr (Ne.symm hji)) (keep u) hw' ?_
        rw [Array.setIfInBounds_comm _ _ hji, ← Act.put_comm a v u h2]
        exact hh
      obtain ⟨o, ho, hH⟩ := H.2 j (ready_mono hj hji)
      have : o = oj := Option.some.inj (ho.symm.trans hoj)
      subst this
      refine ⟨o, ho, ?_⟩
      rcases hH with ⟨u, hu, hK⟩ | ⟨es', he, hE⟩
      · exact .inl ⟨u, hu.same hex.symm hwa.symm, step _ _ _ hw hK⟩
      · refine .inr ⟨es', he, hwa ▸ hE.1, fun w hw1 => ?_⟩
        have hH := hE.2 w hw1
        rw [hex] at hH
        exact hH.mono fun u w' ⟨L', h5, h6, h7⟩ => ⟨L', h5, h6, step _ _ _ h6 h7⟩
theorem wpAny_of_wpK {As : List Nat} {F : List Blk → Act → Prop} (hF : ∀ L a w, F L a → Own w0 L w → Q .normal a w) :
    ∀ (f : Nat) (listed : Array Bool) (es : List Nat) (L : List Blk) (a : Act) (w : World), Own w0 L w → wpK P w0 ops As Lw F f listed es L a → wpAny P .any ops Q f listed a w
  | 0, listed, es, L, a, w, hw, h => ⟨h.2.1, hF _ _ _ h.2.2 hw⟩
  | f + 1, listed, es, L, a, w, hw, h => by
    refine ⟨fun h0 => absurd h0 h.1, fun i hi => ?_⟩
    obtain ⟨o, ho, hH⟩ := h.2 i hi
    unfold wpOp
    simp only [ho]
    rcases hH with ⟨v, hy, hK⟩ | ⟨es', _, hwt, hE⟩
    · rcases hy with ⟨hwt, hy⟩ | ⟨hwt, rfl⟩
      · rw [if_pos hwt]
        exact .inl (wp_of_calm (hy w hw) fun w' hx => wpAny_of_wpK hF f _ _ _ _ _ (hw.to hx) hK)
      · rw [if_neg (by rw [hwt]; simp)]
        exact wpAny_of_wpK hF f _ _ _ _ _ hw hK
    · rw [if_pos hwt]
      exact .inl (wp_of_hap ((hE w hw).mono fun u w' ⟨L', hw', _, hK⟩ => wpAny_of_wpK hF f _ _ _ _ _ hw' hK))
theorem wpK_of_ec {As : List Nat} {F : List Blk → Act → Prop} : ∀ (es : List Nat) (listed : Array Bool) (L : List Blk) (a : Act), seqE ops es listed = true → EC P w0 ops [] Lw F es L a → wpK P w0 ops As Lw F es.length listed es L a
  | [], listed, L, a, hB, h => ⟨rfl, by simpa [seqE] using hB, h⟩
  | i :: es, listed, L, a, hB, h => by
    simp only [seqE, Bool.and_eq_true, decide_eq_true_eq] at hB
    refine ⟨by rw [hB.1]; simp, fun j hj => ?_⟩
    rw [hB.1] at hj
    have : j = i := by simpa using hj
    subst this
    obtain ⟨o, ho, hE⟩ := h
    exact ⟨o, ho, .inr ⟨es, .inl rfl, Eff.mono hE fun L' u _ hK => wpK_of_ec es _ _ _ hB.2 hK⟩⟩
def AK (P : Program) (ops : Array Oper) (F : List Blk → Act → Prop) : List Nat → List Blk → Act → Prop
  | [], L, a => F L a
  | i :: is, L, a => ∃ o T z, ops[i]? = some o ∧ isNew o = some T ∧ (P.info? T).bind (·.zero) = some z ∧ ∀ b, AK P ops F is (⟨b, z.cells, T⟩ :: L) (a.put o.dst (.pointer (some ⟨b, 0, none⟩)))
theorem AK.perm {F : List Blk → Act → Prop} (hF : ∀ L M a, L.Perm M → F L a → F M a) : ∀ (is : List Nat) (L M : List Blk) (a : Act), L.Perm M → AK P ops F is L a → AK P ops F is M a
  | [], L, M, a, p, h => hF L M a p h
  | i :: is, L, M, a, p, ⟨o, T, z, h1, h2, h3, h⟩ => ⟨o, T, z, h1, h2, h3, fun b => AK.perm hF is _ _ _ (p.cons _) (h b)⟩
/-- All their destinations differ. -/
def dsB (ops : Array Oper) : List Nat → Bool
  | [] => true
  | i :: is => is.all (fun j => match (ops[i]?).bind (·.dst), (ops[j]?).bind (·.dst) with | some d, some e => d != e | _, _ => true) && dsB ops is
theorem AK.pick {F : List Blk → Act → Prop} (hF : ∀ L M a, L.Perm M → F L a → F M a) : ∀ (is : List Nat) (L : List Blk) (a : Act) (i : Nat), i ∈ is → dsB ops is = true → AK P ops F is L a →
    ∃ o T z, ops[i]? = some o ∧ isNew o = some T ∧ (P.info? T).bind (·.zero) = some z ∧ ∀ b, AK P ops F (is.erase i) (⟨b, z.cells, T⟩ :: L) (a.put o.dst (.pointer (some ⟨b, 0, none⟩)))
  | [], _, _, _, h, _, _ => by cases h
  | j :: is, L, a, i, hi, hd, ⟨oj, Tj, zj, h1, h2, h3, h⟩ => by
    by_cases hij : j = i
    · subst hij
      rw [List.erase_cons_head]
      exact ⟨oj, Tj, zj, h1, h2, h3, h⟩
    · have hi' : i ∈ is := by
        rcases List.mem_cons.1 hi with h4 | h4
        · exact absurd h4.symm hij
        · exact h4
      simp only [dsB, Bool.and_eq_true, List.all_eq_true] at hd
      obtain ⟨o, T, z, k1, k2, k3, -⟩ := AK.pick hF is _ _ i hi' hd.2 (h 0)
      refine ⟨o, T, z, k1, k2, k3, fun b => ?_⟩
      rw [List.erase_cons_tail (by simpa using hij)]
      refine ⟨oj, Tj, zj, h1, h2, h3, fun bj => ?_⟩
      obtain ⟨o', T', z', m1, m2, m3, m⟩ := AK.pick hF is _ _ i hi' hd.2 (h bj)
      obtain rfl : o' = o := Option.some.inj (m1.symm.trans k1)
      obtain rfl : T' = T := Option.some.inj (m2.symm.trans k2)
      obtain rfl : z' = z := Option.some.inj (m3.symm.trans k3)
      have hne : ∀ d e, oj.dst = some d → o'.dst = some e → d ≠ e := fun d e hd1 he1 => by
        have := hd.1 i hi'
        simp [h1, k1, hd1, he1] at this
        exact this
      have hput : (a.put oj.dst (.pointer (some ⟨bj, 0, none⟩))).put o'.dst (.pointer (some ⟨b, 0, none⟩)) = (a.put o'.dst (.pointer (some ⟨b, 0, none⟩))).put oj.dst (.pointer (some ⟨bj, 0, none⟩)) := by
        obtain ⟨-, -, d, hd1⟩ := isNew_spec h2
        obtain ⟨-, -, e, he1⟩ := isNew_spec k2
        have hde := hne d e hd1 he1
        rw [hd1, he1]
        simp only [Act.put]
        rw [Array.setIfInBounds_comm _ _ hde]
      have hm := m b
      rw [hput] at hm
      exact AK.perm hF _ _ _ _ (.swap _ _ _) hm
/-- The check: the allocations alone are ready, in whatever order they are taken; behind them the effects are forced. -/
def alB (ops : Array Oper) (es : List Nat) : Nat → List Nat → Array Bool → Bool
  | _, [], listed => seqE ops es listed
  | 0, _ :: _, _ => false
  | f + 1, i :: is, listed => decide (Region.ready .any ops listed = i :: is) && (i :: is).all fun j => alB ops es f ((i :: is).erase j) (listed.setIfInBounds j true)
theorem wpK_of_ak {As : List Nat} {F : List Blk → Act → Prop} {es : List Nat} (hF : ∀ L M a, L.Perm M → F L a → F M a) (hw : ∀ e : Blk, Weak w0 Lw L → Weak w0 Lw (e :: L)) : ∀ (f : Nat) (is : List Nat) (listed : Array Bool) (L : List Blk) (a : Act), alB ops es f is listed = true → dsB ops is = true → (∀ i ∈ is, As.contains i = true) → is.Nodup → Weak w0 Lw L →
    AK P ops (fun L a => EC P w0 ops [] Lw F es L a) is L a → wpK P w0 ops As Lw F (is.length + es.length) listed es L a := by
  have hEC : ∀ (es : List Nat) (L M : List Blk) (a : Act), L.Perm M → EC P w0 ops [] Lw F es L a → EC P w0 ops [] Lw F es M a := fun es L M a p h => by
    cases es with
    | nil => exact hF L M a p h
    | cons i es =>
      obtain ⟨o, ho, h1, h2⟩ := h
      exact ⟨o, ho, h1, fun w hw => h2 w (hw.perm p.symm)⟩
  intro f
  induction f with
  | zero =>
    intro is listed L a hB hd hA hnd hw h
    cases is with
    | nil =>
      rw [List.length_nil, Nat.zero_add]
      exact wpK_of_ec es listed L a hB h
    | cons i is => cases hB
  | succ f ih =>
    intro is listed L a hB hd hA hnd hw h
    cases is with
    | nil =>
      rw [List.length_nil, Nat.zero_add]
      exact wpK_of_ec es listed L a hB h
    | cons i is =>
      simp only [alB, Bool.and_eq_true, decide_eq_true_eq, List.all_eq_true] at hB
      rw [show (i :: is).length + es.length = (is.length + es.length) + 1 by simp only [List.length_cons]; omega]
      refine ⟨by rw [hB.1]; simp, fun j hj => ?_⟩
      rw [hB.1] at hj
      obtain ⟨o, T, z, h1, h2, h3, hk⟩ := AK.pick (hEC es) _ _ _ j hj hd h
      obtain ⟨hop, hgd, d, hdd⟩ := isNew_spec h2
      refine ⟨o, h1, .inr ⟨es, .inr ⟨hA j hj, rfl⟩, by simp [Region.wanted, hgd], fun w hw1 => ?_⟩⟩
      have hrun : (execOp a.eval o).run P w = .ok (.value (.pointer (some ⟨w.heap.size, 0, none⟩))) (w.alloc (.cells z.cells T)) := by
        cases hinf : P.info? T with
        | none => simp [hinf] at h3
        | some ti =>
          have hz' : ti.zero = some z := by simpa [hinf] using h3
          obtain ⟨dst, op, ty, pos, aft, gd⟩ := o
          simp only at hop
          subst hop
          simp [execOp, Instr.alloc, zeroValue, typeInfo, hinf, hz', newVar, newRow]
      rw [hrun]
      have hwk : Weak w0 Lw (⟨w.heap.size, z.cells, T⟩ :: L) := fun w1 h1 => hw w1 (h1.sub (List.sublist_cons_self _ _))
      refine ⟨_, hw1.alloc z.cells T, hwk, ?_⟩
      have hlen : ((i :: is).erase j).length = is.length := by rw [List.length_erase_of_mem hj]; rfl
      have hds : dsB ops ((i :: is).erase j) = true := by
        have key : ∀ l : List Nat, dsB ops l = true → ∀ j, dsB ops (l.erase j) = true := fun l => by
          induction l with
          | nil => intro _ j; rfl
          | cons x l ihl =>
            intro h j
            simp only [dsB, Bool.and_eq_true] at h
            rw [List.erase_cons]
            split
            · exact h.2
            · simp only [dsB, Bool.and_eq_true]
              exact ⟨List.all_eq_true.2 fun y hy => List.all_eq_true.1 h.1 y (List.mem_of_mem_erase hy), ihl h.2 j⟩
        exact key _ hd j
      have := ih ((i :: is).erase j) (listed.setIfInBounds j true) _ _ (hB.2 j hj) hds (fun q hq => hA q (List.mem_of_mem_erase hq)) (hnd.erase j) hwk (hk w.heap.size)
      rw [hlen] at this
      exact this
def drlB (ops : Array Oper) (N : Nat) (P : Program) (hs As es : List Nat) : Bool :=
  Region.noSelect ops && decide (hs.length + (As.length + es.length) = ops.size) && dsB ops As && decide As.Nodup && es.all (fun i => decide (i < ops.size)) &&
    As.all (fun i => match ops[i]? with | some o => dstOk N o.dst | none => false) && lexF ops (alB ops es As.length As) hs (Array.replicate ops.size false)
theorem wpK_of_ahF {l : List Oper} {As : List Nat} {F : List Blk → Act → Prop} {es : List Nat} {G : Act → Prop} {N : Nat} {k : Array Bool → Bool} (hk : ∀ listed a, k listed = true → G a → wpK P w0 l.toArray As Lw F N listed es L a) (hsel : Region.noSelect l.toArray = true) (hw : Weak w0 Lw L) : ∀ (hs : List Nat) (listed : Array Bool) (a : Act), lexF l.toArray k hs listed = true →
    AH P w0 Lw l.toArray G (picks l hs) a → wpK P w0 l.toArray As Lw F (hs.length + N) listed es L a
  | [], listed, a, hB, h => by
    rw [List.length_nil, Nat.zero_add]
    exact hk listed a hB h
  | i :: hs, listed, a, hB, h => by
    simp only [lexF, Bool.and_eq_true] at hB
    obtain ⟨⟨hr, hf⟩, hB'⟩ := hB
    have hr' : i ∈ Region.ready .any l.toArray listed := by simpa using hr
    obtain ⟨_, o, ho, _⟩ := mem_ready.1 hr'
    have ho' : l[i]? = some o := by simpa using ho
    simp only [picks, ho', AH] at h
    obtain ⟨v, hy, h⟩ := h
    rw [show (i :: hs).length + N = (hs.length + N) + 1 by simp only [List.length_cons]; omega]
    exact wpK_first ho (Region.noSelect_spec hsel) _ _ _ _ _ (Region.free_spec ho hf) hr' hy hw (wpK_of_ahF hk hsel hw hs _ _ hB' h)
theorem ak_of_jn {l : List Oper} {K : Env → List Blk → Prop} {F : List Blk → Act → Prop} (hK : ∀ E L a, Rep n E a → K E L → F L a) : ∀ (is : List Nat) (E : Env) (L : List Blk) (a : Act), is.all (fun i => match l.toArray[i]? with | some o => dstOk n o.dst | none => false) = true → Rep n E a → JN P n K (picks l is) E L → AK P l.toArray F is L a
  | [], E, L, a, _, ha, h => hK E L a ha h
  | i :: is, E, L, a, hi, ha, h => by
    simp only [List.all_cons, Bool.and_eq_true] at hi
    cases ho : l[i]? with
    | none => simp [ho] at hi
    | some o =>
      simp only [picks, ho] at h
      obtain ⟨T, z, h1, h2, h3⟩ := h
      have hd : dstOk n o.dst = true := by simpa [ho] using hi.1
      exact ⟨o, T, z, by simpa using ho, h1, h2, fun b => ak_of_jn hK is _ _ _ hi.2 (ha.put _ _ hd) (h3 b)⟩
theorem j_drawL {id : Nat} {l : List Oper} (hs As es : List Nat) (Lw : List Blk) (hm : P.follows .mixedOrders = true := by exact mixed) (hB : drlB l.toArray n P hs As es = true := by kernel_rfl) (hL : Lw.Sublist L := by first | exact List.Sublist.refl _ | exact List.nil_sublist _ | exact sbl | (repeat (first | exact List.Sublist.refl _ | exact List.nil_sublist _ | refine List.Sublist.cons_cons _ ?_ | refine List.Sublist.cons _ ?_ | refine List.Sublist.trans ?_ (List.sublist_append_right _ _))))
    (h : JH P w0 n Lw l.toArray (fun E' => JN P n (fun E1 L1 => JE P w0 n l.toArray Lw (fun E2 L2 => JX w0 n .normal Q E2 L2) (picks l es) E1 L1) (picks l As) E' L) (picks l hs) E) : J P w0 n (.region id l.toArray true) Q E L := by
  refine ⟨fun a w ha hw => ?_⟩
  simp only [drlB, Bool.and_eq_true, decide_eq_true_eq] at hB
  obtain ⟨⟨⟨⟨⟨⟨hsel, hlen⟩, hds⟩, hnd⟩, hes⟩, hAs⟩, hlex⟩ := hB
  refine wp_region_any hm ?_
  have hF : ∀ L M (a : Act), L.Perm M → (∀ w, Own w0 L w → Q .normal a w) → (∀ w, Own w0 M w → Q .normal a w) := fun L M a p h w hw => h w (hw.perm p.symm)
  have H : wpK P w0 l.toArray As Lw (fun L a => ∀ w, Own w0 L w → Q .normal a w) (hs.length + (As.length + es.length)) (Array.replicate l.toArray.size false) es L a :=
    wpK_of_ahF (k := alB l.toArray es As.length As) (G := fun a => AK P l.toArray (fun L a => EC P w0 l.toArray [] Lw (fun L a => ∀ w, Own w0 L w → Q .normal a w) es L a) As L a)
      (fun listed a hb hG => wpK_of_ak hF (L := L) (fun e h w1 h1 => h w1 (h1.sub (List.sublist_cons_self _ _))) As.length As listed L a hb hds (fun i hi => by simpa using hi) hnd (weak_sub hL) hG) hsel (weak_sub hL) hs _ a hlex
      (ah_of_jh (n := n) (fun E' a' ha' hK => ak_of_jn (n := n) (fun E1 L1 a1 ha1 h1 => ec_of_je (n := n) (Lj := Lw) (fun E2 L2 a2 ha2 hx w hw => hx.out a2 w ha2 hw) es E1 L1 a1 (by simpa using hes) (fun _ _ => rfl) ha1 h1) As E' L a' hAs ha' hK) _ _ _ ha h)
  have := wpAny_of_wpK (P := P) (Q := Q) (fun L a w hF hw => hF w hw) _ _ _ _ _ w.drew (hw.to (Ext.drew w)) H
  rw [hlen] at this
  exact this
inductive Tr where
  | fin
  | v (hs : List Nat) (t : Tr)
  | e1 (i : Nat) (t : Tr)
  | e2 (i : Nat) (t : Tr) (j : Nat) (u : Tr)
def trB (ops : Array Oper) : Tr → Array Bool → Bool
  | .fin, listed => (Region.ready .any ops listed).isEmpty
  | .v hs t, listed => lexF ops (trB ops t) hs listed
  | .e1 i t, listed => decide (Region.ready .any ops listed = [i]) && trB ops t (listed.setIfInBounds i true)
  | .e2 i t j u, listed => decide (Region.ready .any ops listed = [i, j]) && (trB ops t (listed.setIfInBounds i true) && trB ops u (listed.setIfInBounds j true))
def trN : Tr → Nat
  | .fin => 0
  | .v hs t => hs.length + trN t
  | .e1 _ t => trN t + 1
  | .e2 _ t _ _ => trN t + 1
/-- All ways have the same length, all places are places of the region. -/
def trC (k : Nat) : Tr → Bool
  | .fin => true
  | .v _ t => trC k t
  | .e1 i t => decide (i < k) && trC k t
  | .e2 i t j u => decide (i < k) && (decide (j < k) && (decide (trN t = trN u) && (trC k t && trC k u)))
def trA (ops : Array Oper) (t : Tr) : Bool := Region.noSelect ops && (decide (trN t = ops.size) && (trC ops.size t && trB ops t (Array.replicate ops.size false)))
def AT (P : Program) (w0 : World) (l : List Oper) (Lw : List Blk) (F : List Blk → Act → Prop) : Tr → List Blk → Act → Prop
  | .fin, L, a => F L a
  | .v hs t, L, a => AH P w0 Lw l.toArray (fun a1 => AT P w0 l Lw F t L a1) (picks l hs) a
  | .e1 i t, L, a => EC P w0 l.toArray [] Lw (fun L1 a1 => AT P w0 l Lw F t L1 a1) [i] L a
  | .e2 i t j u, L, a => EC P w0 l.toArray [] Lw (fun L1 a1 => AT P w0 l Lw F t L1 a1) [i] L a ∧ EC P w0 l.toArray [] Lw (fun L1 a1 => AT P w0 l Lw F u L1 a1) [j] L a
def JT (P : Program) (w0 : World) (n : Nat) (l : List Oper) (Lw : List Blk) (K : Env → List Blk → Prop) : Tr → Env → List Blk → Prop
  | .fin, E, L => K E L
  | .v hs t, E, L => JH P w0 n Lw l.toArray (fun E1 => JT P w0 n l Lw K t E1 L) (picks l hs) E
  | .e1 i t, E, L => JE P w0 n l.toArray Lw (fun E1 L1 => JT P w0 n l Lw K t E1 L1) (picks l [i]) E L
  | .e2 i t j u, E, L => JE P w0 n l.toArray Lw (fun E1 L1 => JT P w0 n l Lw K t E1 L1) (picks l [i]) E L ∧ JE P w0 n l.toArray Lw (fun E1 L1 => JT P w0 n l Lw K u E1 L1) (picks l [j]) E L
theorem at_of_jt {l : List Oper} {K : Env → List Blk → Prop} {F : List Blk → Act → Prop} (hK : ∀ E L a, Rep n E a → K E L → F L a) : ∀ (t : Tr) (E : Env) (L : List Blk) (a : Act), trC l.length t = true → Rep n E a → JT P w0 n l Lw K t E L → AT P w0 l Lw F t L a
  | .fin, E, L, a, _, ha, h => hK E L a ha h
  | .v hs t, E, L, a, hc, ha, h => ah_of_jh (n := n) (fun E1 a1 ha1 h1 => at_of_jt hK t E1 L a1 hc ha1 h1) _ _ _ ha h
  | .e1 i t, E, L, a, hc, ha, h => by
    simp only [trC, Bool.and_eq_true, decide_eq_true_eq] at hc
    exact ec_of_je (n := n) (Lj := Lw) (fun E1 L1 a1 ha1 h1 => at_of_jt hK t E1 L1 a1 hc.2 ha1 h1) [i] E L a (by simpa using hc.1) (fun _ _ => rfl) ha h
  | .e2 i t j u, E, L, a, hc, ha, h => by
    simp only [trC, Bool.and_eq_true, decide_eq_true_eq] at hc
    exact ⟨ec_of_je (n := n) (Lj := Lw) (fun E1 L1 a1 ha1 h1 => at_of_jt hK t E1 L1 a1 hc.2.2.2.1 ha1 h1) [i] E L a (by simpa using hc.1) (fun _ _ => rfl) ha h.1,
      ec_of_je (n := n) (Lj := Lw) (fun E1 L1 a1 ha1 h1 => at_of_jt hK u E1 L1 a1 hc.2.2.2.2 ha1 h1) [j] E L a (by simpa using hc.2.1) (fun _ _ => rfl) ha h.2⟩
theorem wpK_of_at {l : List Oper} {F : List Blk → Act → Prop} (hsel : Region.noSelect l.toArray = true) : ∀ (t : Tr) (listed : Array Bool) (L : List Blk) (a : Act), trC l.length t = true → trB l.toArray t listed = true → Weak w0 Lw L → AT P w0 l Lw F t L a → wpK P w0 l.toArray (List.range l.length) Lw F (trN t) listed [] L a
  | .fin, listed, L, a, _, hB, _, h => ⟨rfl, by simpa [trB] using hB, h⟩
  | .v hs t, listed, L, a, hc, hB, hw, h => wpK_of_ahF (k := trB l.toArray t) (G := fun a1 => AT P w0 l Lw F t L a1) (fun listed a1 hb hG => wpK_of_at hsel t listed L a1 hc hb hw hG) hsel hw hs listed a hB h
  | .e1 i t, listed, L, a, hc, hB, hw, h => by
    simp only [trC, Bool.and_eq_true, decide_eq_true_eq] at hc
    simp only [trB, Bool.and_eq_true, decide_eq_true_eq] at hB
    refine ⟨by rw [hB.1]; simp, fun q hq => ?_⟩
    rw [hB.1, List.mem_singleton] at hq
    subst hq
    obtain ⟨o, ho, hE⟩ := h
    exact ⟨o, ho, .inr ⟨[], .inr ⟨by simpa using hc.1, rfl⟩, Eff.mono hE fun L' u hw' hK => wpK_of_at hsel t _ _ _ hc.2 hB.2 hw' hK⟩⟩
  | .e2 i t j u, listed, L, a, hc, hB, hw, h => by
    simp only [trC, Bool.and_eq_true, decide_eq_true_eq] at hc
    simp only [trB, Bool.and_eq_true, decide_eq_true_eq] at hB
    refine ⟨by rw [hB.1]; simp, fun q hq => ?_⟩
    rw [hB.1] at hq
    rcases List.mem_cons.1 hq with h1 | h1
    · subst h1
      obtain ⟨o, ho, hE⟩ := h.1
      exact ⟨o, ho, .inr ⟨[], .inr ⟨by simpa using hc.1, rfl⟩, Eff.mono hE fun L' u hw' hK => wpK_of_at hsel t _ _ _ hc.2.2.2.1 hB.2.1 hw' hK⟩⟩
    · rw [List.mem_singleton] at h1
      subst h1
      obtain ⟨o, ho, hE⟩ := h.2
      refine ⟨o, ho, .inr ⟨[], .inr ⟨by simpa using hc.2.1, rfl⟩, Eff.mono hE fun L' u' hw' hK => ?_⟩⟩
      show wpK P w0 l.toArray (List.range l.length) Lw F (trN t) _ [] L' _
      rw [hc.2.2.1]
      exact wpK_of_at hsel u _ _ _ hc.2.2.2.2 hB.2.2 hw' hK
theorem j_tree {id : Nat} {l : List Oper} (t : Tr) (Lw : List Blk) (hm : P.follows .mixedOrders = true := by exact mixed) (hB : trA l.toArray t = true := by kernel_rfl) (hL : Lw.Sublist L := by first | exact List.Sublist.refl _ | exact List.nil_sublist _ | exact sbl | (repeat (first | exact List.Sublist.refl _ | exact List.nil_sublist _ | refine List.Sublist.cons_cons _ ?_ | refine List.Sublist.cons _ ?_ | refine List.Sublist.trans ?_ (List.sublist_append_right _ _))))
    (h : JT P w0 n l Lw (fun E2 L2 => JX w0 n .normal Q E2 L2) t E L) : J P w0 n (.region id l.toArray true) Q E L := by
  refine ⟨fun a w ha hw => ?_⟩
  simp only [trA, Bool.and_eq_true, decide_eq_true_eq] at hB
  obtain ⟨hsel, hlen, hc, hlex⟩ := hB
  refine wp_region_any hm ?_
  have hc' : trC l.length t = true := by simpa using hc
  have H := wpK_of_at (P := P) (F := fun L a => ∀ w, Own w0 L w → Q .normal a w) hsel t _ L a hc' hlex (weak_sub hL) (at_of_jt (n := n) (fun E2 L2 a2 ha2 hx w hw => hx.out a2 w ha2 hw) t E L a hc' ha h)
  have := wpAny_of_wpK (P := P) (Q := Q) (fun L a w hF hw => hF w hw) _ _ _ _ _ w.drew (hw.to (Ext.drew w)) H
  rw [hlen] at this
  exact this
end
theorem wkX {P Q : Prop} (k : Q) (h : Wr Q → P := by intro hq; simp only [JT, picks, List.getElem?_cons_succ, List.getElem?_cons_zero]; exact hq.out) : P := h ⟨k⟩
end Go.Vt
/- The position of a moving point at a rational instant, where there is one. Conditions: those that each statement names. -/
set_option linter.unusedSimpArgs false
set_option linter.unusedVariables false
set_option maxHeartbeats 2000000
set_option maxRecDepth 100000
namespace Go.Vt
open Go.RowKit Go.Proofs
class CtC (us : List UL) (t : Rat) (k : outParam Nat) : Prop where
  out : Cut us t k
instance sm_bsearch (w0 : World) (L : List Blk) (v : Value) (us : List UL) (t : R_api_Real) (k : Nat) [h : LstC w0 L v UL rU us] [hk : CtC us t.P k] : SpecM Tryz.prog w0 L 107 [v, vR t, vFn 108] (.tuple #[.int .i64 (k : Nat), .bool (decide (k < us.length) && decide (cq (gi us (k : Int)).In.To.P t.P = 0))]) (us.length ≤ 1048576 ∧ t.R = 0 ∧ M t.P ≤ LQ ∧ ∀ u ∈ us, IvOk BQ u.In) := ⟨fun hp w hw => bsearch_spec v us t k hk.out w (h.out w hw) hp.1 hp.2.1 hp.2.2.1 hp.2.2.2⟩
/-- What is found at an instant. -/
structure AtR (us : List UL) (t : Rat) (r : Option R_api_Line) : Prop where
  out : (∃ k : Nat, k < us.length ∧ (absU (gi us (k : Int))).mem t ∧ (∀ j : Nat, j < k → ¬ (absU (gi us (j : Int))).mem t) ∧ (∀ j : Nat, j ≤ k → (gi us (j : Int)).In.From.P ≤ t) ∧ r = some (gi us (k : Int)).F) ∨ ((∀ j : Nat, j < us.length → ¬ (absU (gi us (j : Int))).mem t) ∧ r = none)
theorem AtR.hit {us : List UL} {t : Rat} {r : Option R_api_Line} (h : AtR us t r) {i : Nat} (hi : i < us.length) (hm : (absU (gi us (i : Int))).mem t) (hn : ∀ j : Nat, j < i → ¬ (absU (gi us (j : Int))).mem t) : r = some (gi us (i : Int)).F := by
  rcases h.out with ⟨k, h1, h2, h3, -, h5⟩ | ⟨h1, -⟩
  · rcases Nat.lt_trichotomy i k with h6 | h6 | h6
    · exact absurd hm (h3 i h6)
    · subst h6; exact h5
    · exact absurd h2 (hn k h6)
  · exact absurd hm (h1 i hi)
theorem AtR.miss {us : List UL} {t : Rat} {r : Option R_api_Line} (h : AtR us t r) {i : Nat} (hi : us.length ≤ i ∨ t < (gi us (i : Int)).In.From.P) (hn : ∀ j : Nat, j < i → ¬ (absU (gi us (j : Int))).mem t) : r = none := by
  rcases h.out with ⟨k, h1, h2, h3, h4, h5⟩ | ⟨-, h2⟩
  · have hik : i ≤ k := by
      rcases Nat.lt_or_ge k i with h6 | h6
      · exact absurd h2 (hn k h6)
      · exact h6
    rcases hi with h6 | h6
    · omega
    · have := h4 i hik
      grind
  · exact h2
class AtC' (us : List UL) (t : Rat) (r : outParam (Option R_api_Line)) : Prop where
  out : AtR us t r
/-- The test of one unit, its end not ahead of the instant, its beginning not behind it. -/
def tst (u : UL) (t : R_api_Real) : Bool := (decide (u.In.From.P < t.P) || !u.In.OpenFrom) && (!decide (u.In.To = t) || !u.In.OpenTo)
theorem tst_iff {u : UL} {t : R_api_Real} {K : Nat} (hu : IvOk K u.In) (ht : RtOk t) (h1 : u.In.From.P ≤ t.P) (h2 : t.P ≤ u.In.To.P) : tst u t = true ↔ (absU u).mem t.P := by
  have e := rt_eq hu.rt ht
  unfold tst GU.mem absU
  simp only [Bool.and_eq_true, Bool.or_eq_true, decide_eq_true_eq, Bool.not_eq_true', decide_eq_false_iff_not, e]
  grind
theorem pAt_spec (v : Value) (us : List UL) (t : R_api_Real) (c : Nat) (r : Option R_api_Line) (hk : Cut us t.P c) (hr : AtR us t.P r) (w : World) (hv : ArgS w v rU us) (hl : us.length ≤ 1048576) (ht : RtOk t) (htM : M t.P ≤ LQ) (hok : ∀ u ∈ us, IvOk BQ u.In) :
    Calls Tryz.prog 60 [v, vR t].toArray w (Ret (.tuple #[vLn (r.getD zR_api_Line), .bool r.isSome]) w) := by
  have := ArgC.mk hv
  have := CtC.mk hk
  have hcl := hk.le
  refine fn_intro Tryz.func60 rfl Tryz.ntmps60 rfl ?_
  obtain ⟨p, cp, rfl⟩ := hv.form
  repeat (first | (refine wkB ?_; try intro _) | (refine sC rfl rfl ?_ ?_; focus (exact ⟨hl, ht.r, htM, hok⟩)) | (refine sN rfl rfl ?_ ?_; (focus (exact ⟨hl, ht.r, htM, hok⟩)); intro _; (try simp only [List.cons_append, List.nil_append, List.append_nil])))
  rename_i b3 b4
  refine j_loop (S := Nat) (fun i => (c ≤ i ∧ i ≤ us.length) ∧ ∀ j : Nat, j < i → ¬ (absU (gi us (j : Int))).mem t.P) (fun i => [(0, .slice p us.length cp), (3, .pointer (some ⟨b3, 0, none⟩)), (4, .pointer (some ⟨b4, 0, none⟩)), (5, .bool false), (6, .int .i64 (i : Nat))]) (fun _ => [⟨b4, e_api_Line (q_api_Line zR_api_Line), 66⟩, ⟨b3, e_api_Real (q_api_Real t), 30⟩]) (fun i => us.length - i) c
    ⟨⟨Nat.le_refl _, hcl⟩, fun j hj hm => ?_⟩ sbB slB (fun i hi => ?_)
  · have h1 := hk.lo j hj
    unfold GU.mem absU at hm
    grind
  obtain ⟨⟨hci, hil⟩, hno⟩ := hi
  repeat (refine wkB ?_; try intro _)
  refine j_cond rfl (fun h => ?_) (fun h => ?_)
  · have hlt : i < us.length := by have := of_decide_eq_true h; omega
    have hne : us ≠ [] := fun h0 => by rw [h0] at hlt; simp at hlt
    obtain ⟨bw, ow, cw, hvw, hcw, hrow⟩ := hv.blk (k := 35) hne []
    injection hvw with e1 e2 e3
    subst e1
    subst e3
    have hrow' : ∀ L, RowC w L bw ow UL rU us := fun L => ⟨fun w' hw' => hrow.out w' (hw'.sub (List.nil_sublist _))⟩
    have ho := hok _ (gi_mem (i := (i : Int)) (xs := us) (by omega))
    have hto := hk.hi i hci hlt
    repeat (refine wkB ?_; try intro _)
    (refine j_late [0, 1, 2, 3, 4, 5, 6, 7] [8] (_) (h := ?_); refine wkI ?_)
    (repeat (first | refine wkH ?_ | (refine tC rfl rfl ?_ ?_; focus (exact ⟨⟨ho.r1, ht.r⟩, Nat.le_trans ho.m1 (by decide), htM⟩))))
    repeat (refine wkT ?_; try intro _)
    repeat (refine wkB ?_; try intro _)
    by_cases hgt : t.P < (gi us (i : Int)).In.From.P
    · have hrn := hr.miss (.inr hgt) hno
      subst hrn
      simp only [decide_eq_true (cq_gt.2 hgt)]
      repeat (refine wkB ?_; try intro _)
      exact jx_ret_two rfl (wr_cell rfl) (resv_tmp rfl) (fun w hw => ret_ok hw)
    · have hle : (gi us (i : Int)).In.From.P ≤ t.P := by grind
      have hti := tst_iff ho ht hle hto
      simp only [decide_eq_false (fun h => hgt (cq_gt.1 h))]
      repeat (refine wkB ?_; try intro _)
      refine j_cut (S := Bool) (fun v => v = tst (gi us (i : Int)) t) (fun v => [(61, .bool v), (0, .slice (some ⟨bw, ow, none⟩) us.length cp), (3, .pointer (some ⟨b3, 0, none⟩)), (4, .pointer (some ⟨b4, 0, none⟩)), (5, .bool false), (6, .int .i64 (i : Nat))]) (fun _ => [⟨b4, e_api_Line (q_api_Line zR_api_Line), 66⟩, ⟨b3, e_api_Real (q_api_Real t), 30⟩]) ?_ (fun v hv3 => ?_)
      · have hcq : decide (cq (gi us (i : Int)).In.From.P t.P < 0) = decide ((gi us (i : Int)).In.From.P < t.P) := by rw [decide_eq_decide]; exact cq_lt
        refine jD 30 30 (h := ?_)
        (repeat (refine wkH ?_))
        rw [hcq]
        unfold tst
        rcases hd1 : decide ((gi us (i : Int)).In.From.P < t.P) with _ | _
        · (repeat (refine wkH ?_))
          rcases hd2 : (gi us (i : Int)).In.OpenFrom with _ | _
          · (repeat (refine wkH ?_))
            rcases hd3 : decide ((gi us (i : Int)).In.To = t) with _ | _
            · (repeat (refine wkH ?_))
              refine jh_nil ?_
              refine jn_nil ?_
              repeat (refine wkB ?_; try intro _)
              exact jx_mid true rfl sbB slB
            · (repeat (refine wkH ?_))
              refine jh_nil ?_
              refine jn_nil ?_
              repeat (refine wkB ?_; try intro _)
              exact jx_mid (!(gi us (i : Int)).In.OpenTo) (by simp) sbB slB
          · (repeat (refine wkH ?_))
            refine jh_nil ?_
            refine jn_nil ?_
            repeat (refine wkB ?_; try intro _)
            exact jx_mid false (by simp) sbB slB
        · (repeat (refine wkH ?_))
          rcases hd3 : decide ((gi us (i : Int)).In.To = t) with _ | _
          · (repeat (refine wkH ?_))
            refine jh_nil ?_
            refine jn_nil ?_
            repeat (refine wkB ?_; try intro _)
            exact jx_mid true rfl sbB slB
          · (repeat (refine wkH ?_))
            refine jh_nil ?_
            refine jn_nil ?_
            repeat (refine wkB ?_; try intro _)
            exact jx_mid (!(gi us (i : Int)).In.OpenTo) (by simp) sbB slB
      subst hv3
      rcases htt : tst (gi us (i : Int)) t with _ | _
      · repeat (first | (refine wkB ?_; try intro _) | (refine sC rfl rfl ?_ ?_; focus (exact ⟨by omega, by omega⟩)) | (refine sN rfl rfl ?_ ?_; (focus (exact ⟨by omega, by omega⟩)); intro _; (try simp only [List.cons_append, List.nil_append, List.append_nil])))
        refine jx_loop (i + 1) ⟨⟨by omega, hlt⟩, fun j hj hm => ?_⟩ sbB slB (by omega)
        rcases (by omega : j < i ∨ j = i) with h1 | h1
        · exact hno j h1 hm
        · subst h1
          rw [hti.2 hm] at htt
          cases htt
      · have hrs := hr.hit hlt (hti.1 htt) hno
        subst hrs
        repeat (refine wkB ?_; try intro _)
        exact jx_ret_two rfl (wr_cell rfl) (resv_tmp rfl) (fun w hw => ret_ok hw)
  · have hge : us.length ≤ i := by have := of_decide_eq_false h; omega
    have hrn := hr.miss (.inl hge) hno
    subst hrn
    repeat (refine wkB ?_; try intro _)
    exact jx_ret_two rfl (wr_cell rfl) (resv_tmp rfl) (fun w hw => ret_ok hw)
instance sm_pAt (w0 : World) (L : List Blk) (v : Value) (us : List UL) (t : R_api_Real) (c : Nat) (r : Option R_api_Line) [h : LstC w0 L v UL rU us] [hk : CtC us t.P c] [hr : AtC' us t.P r] : SpecM Tryz.prog w0 L 60 [v, vR t] (.tuple #[vLn (r.getD zR_api_Line), .bool r.isSome]) (us.length ≤ 1048576 ∧ RtOk t ∧ M t.P ≤ LQ ∧ ∀ u ∈ us, IvOk BQ u.In) := ⟨fun hp w hw => pAt_spec v us t c r hk.out hr.out w (h.out w hw) hp.1 hp.2.1 hp.2.2.1 hp.2.2.2⟩
end Go.Vt
/- Are integers and fractions in their canonical form? Walked, for any bytes. Conditions: the lengths that each statement names. -/
set_option linter.unusedSimpArgs false
set_option linter.unusedVariables false
set_option maxHeartbeats 2000000
set_option maxRecDepth 100000
namespace Go.Vt
open Go.RowKit Go.Proofs
/-- No zero with a sign, no zero byte ahead. -/
def icb (x : api_Int) : Bool := if x.Mag = ByteArray.empty then !x.Neg else !decide (x.Mag[0]? = some 0)
theorem list_top {l : List UInt8} (h : l[0]? ≠ some 0) : Top l.reverse := by
  intro b hb
  rw [List.getLast?_reverse] at hb
  intro h0
  subst h0
  refine h ?_
  cases l with
  | nil => cases hb
  | cons x r => simpa using hb
theorem bget (s : ByteArray) (i : Nat) : s[i]? = s.data.toList[i]? := by
  by_cases h : i < s.size
  · have h' : i < s.data.toList.length := h
    rw [getElem?_pos s i h, getElem?_pos s.data.toList i h']
    rfl
  · have h' : ¬ i < s.data.toList.length := h
    rw [getElem?_neg s i h, getElem?_neg s.data.toList i h']
theorem icb_iff {x : api_Int} : icb x = true ↔ ∃ a : Int, x = I a := by
  obtain ⟨n, s⟩ := x
  unfold icb
  simp only
  constructor
  · intro h
    have hc : Can s := by
      split at h
      · rename_i h0
        subst h0
        exact can_mag 0
      · rename_i h0
        simp only [Bool.not_eq_true', decide_eq_false_iff_not] at h
        exact list_top (by rw [← bget]; exact h)
    have hm := mag_vmag hc
    refine ⟨if n = true then -(vmag s : Int) else (vmag s : Int), ?_⟩
    unfold I
    cases n
    · simp only [Bool.false_eq_true, if_false, Int.natAbs_natCast, hm]
      rw [decide_eq_false (by omega)]
    · simp only [if_true, Int.natAbs_neg, Int.natAbs_natCast, hm]
      congr 1
      have hne : vmag s ≠ 0 := fun h0 => by
        rw [h0] at hm
        split at h
        · cases h
        · rename_i h1
          exact h1 (hm.symm.trans mag_zero)
      simp
      omega
  · rintro ⟨a, h⟩
    unfold I at h
    injection h with h1 h2
    subst h1
    subst h2
    split
    · rename_i h0
      have := mag_eq_empty.1 h0
      simp
      omega
    · rename_i h0
      simp only [Bool.not_eq_true', decide_eq_false_iff_not]
      intro h1
      have hc := can_mag a.natAbs
      rw [bget] at h1
      cases hl : (mag a.natAbs).data.toList with
      | nil => rw [hl] at h1; cases h1
      | cons y r =>
        rw [hl] at h1
        simp only [List.getElem?_cons_zero, Option.some.injEq] at h1
        unfold Can Top at hc
        rw [hl] at hc
        exact hc y (by simp) h1
theorem icb_I (a : Int) : icb (I a) = true := icb_iff.2 ⟨a, rfl⟩
instance sp_ICheckR (x : api_Int) : SpecC Tryz.prog 92 [.agg (e_api_Int x)] (.int .i64 (if icb x = true then 0 else 5)) True := ⟨fun _ w => by
  refine fn_intro Tryz.func92 rfl Tryz.ntmps92 rfl ?_
  repeat (refine wkB ?_; try intro _)
  by_cases h : x.Mag = ByteArray.empty
  · have e : icb x = !x.Neg := by unfold icb; rw [if_pos h]
    have hd := decide_eq_true (show x.Mag = ⟨#[]⟩ from h)
    rw [e]
    simp only [hd]
    repeat (refine wkB ?_; try intro _)
    rcases hN : x.Neg with _ | _
    · repeat (refine wkB ?_; try intro _)
      simp only [hd, Bool.not_true]
      repeat (refine wkB ?_; try intro _)
      exact jx_ret_tmp rfl rfl (fun w hw => ret_ok hw)
    · repeat (refine wkB ?_; try intro _)
      exact jx_ret_tmp rfl rfl (fun w hw => ret_ok hw)
  · have e : icb x = !decide (x.Mag[0]? = some 0) := by unfold icb; rw [if_neg h]
    have hd := decide_eq_false (show ¬ x.Mag = ⟨#[]⟩ from h)
    rw [e]
    simp only [hd]
    repeat (refine wkB ?_; try intro _)
    simp only [hd, Bool.not_false]
    repeat (refine wkB ?_; try intro _)
    obtain ⟨u, hu⟩ : ∃ u, x.Mag[0]? = some u := by
      rw [bget]
      cases hl : x.Mag.data.toList with
      | nil =>
        refine absurd ?_ h
        have h2 : x.Mag.data = #[] := by rw [← Array.toArray_toList (xs := x.Mag.data), hl]
        cases hx : x.Mag with
        | mk d =>
          rw [hx] at h2
          simp only at h2
          subst h2
          rfl
      | cons y r => exact ⟨y, rfl⟩
    refine jq (wl_index_str rfl rfl (by omega) (show x.Mag[(0 : Int).toNat]? = some u from hu)) rfl rfl ?_
    repeat (refine wkB ?_; try intro _)
    have hd : decide (((u.toNat : Nat) : Int) = 0) = decide (x.Mag[0]? = some 0) := by
      rw [hu, decide_eq_decide]
      simp only [Option.some.injEq]
      constructor
      · intro h0
        exact UInt8.toNat_inj.1 (by simpa using h0)
      · intro h0
        subst h0
        rfl
    rw [hd]
    rcases hq : decide (x.Mag[0]? = some 0) with _ | _
    · repeat (refine wkB ?_; try intro _)
      exact jx_ret_tmp rfl rfl (fun w hw => ret_ok hw)
    · repeat (refine wkB ?_; try intro _)
      exact jx_ret_tmp rfl rfl (fun w hw => ret_ok hw)⟩
/-- Is a fraction in its canonical form? -/
def rcb (x : api_Rat) : Bool := icb x.Num && (icb x.Den && (decide (x.Den = I 0) || (!decide (Lib.compareInt (ival x.Den) 1 ≤ 0) && decide ((Int.gcd (ival x.Num) (ival x.Den) : Int) = 1))))
where ival (x : api_Int) : Int := if x.Neg = true then -(vmag x.Mag : Int) else vmag x.Mag
theorem ival_I (a : Int) : rcb.ival (I a) = a := by
  unfold rcb.ival I
  simp only [vmag_mag, decide_eq_true_eq]
  split <;> omega
theorem rcb_iff {x : api_Rat} : rcb x = true ↔ ∃ q : Rat, x = Q q := by
  obtain ⟨n, d⟩ := x
  unfold rcb
  simp only [Bool.and_eq_true, Bool.or_eq_true, Bool.not_eq_true', decide_eq_true_eq, decide_eq_false_iff_not]
  constructor
  · rintro ⟨h1, h2, h3⟩
    obtain ⟨a, rfl⟩ := icb_iff.1 h1
    obtain ⟨b, rfl⟩ := icb_iff.1 h2
    rw [ival_I, ival_I, I_inj] at h3
    rcases h3 with rfl | ⟨h3, h4⟩
    · exact ⟨(a : Rat), (Q_int a)⟩
    · have hb : 1 < b := by
        unfold Lib.compareInt at h3
        split at h3
        · omega
        · split at h3 <;> omega
      have hc : Nat.Coprime a.natAbs b.natAbs := by
        have : Int.gcd a b = 1 := by omega
        exact this
      refine ⟨⟨a, b.natAbs, by omega, hc⟩, ?_⟩
      unfold Q dn
      simp only
      rw [if_neg (by omega)]
      congr 2
      omega
  · rintro ⟨q, h⟩
    unfold Q at h
    injection h with h1 h2
    subst h1
    subst h2
    refine ⟨icb_I _, icb_I _, ?_⟩
    rw [ival_I, ival_I, I_inj]
    have hp := q.den_pos
    by_cases hd : q.den = 1
    · exact .inl (dn_zero.2 hd)
    · have e : dn q = q.den := by unfold dn; rw [if_neg hd]
      refine .inr ⟨?_, ?_⟩
      · rw [e]
        unfold Lib.compareInt
        rw [if_neg (by omega), if_pos (by omega)]
        omega
      · rw [e]
        have hc := q.reduced
        have h0 : Int.gcd q.num (q.den : Int) = 1 := hc
        omega
theorem rcb_Q (q : Rat) : rcb (Q q) = true := rcb_iff.2 ⟨q, rfl⟩
theorem rcb_mk {n d : api_Int} : rcb ⟨n, d⟩ = (icb n && (icb d && (decide (d = I 0) || (!decide (Lib.compareInt (rcb.ival d) 1 ≤ 0) && decide ((Int.gcd (rcb.ival n) (rcb.ival d) : Int) = 1))))) := rfl
instance sp_RCheckR (x : api_Rat) : SpecC Tryz.prog 49 [.agg (e_api_Rat x)] (.int .i64 (if rcb x = true then 0 else 5)) (x.Num.Mag.size ≤ LIM ∧ x.Den.Mag.size ≤ LIM) := ⟨fun hp w => by
  obtain ⟨p1, p2⟩ := hp
  refine fn_intro Tryz.func49 rfl Tryz.ntmps49 rfl ?_
  repeat (refine wkB ?_; try intro _)
  rcases hn : icb x.Num with _ | _
  · rw [show rcb x = false by unfold rcb; rw [hn]; rfl]
    repeat (refine wkB ?_; try intro _)
    exact jx_ret_tmp rfl rfl (fun w hw => ret_ok hw)
  repeat (refine wkB ?_; try intro _)
  rcases hd : icb x.Den with _ | _
  · rw [show rcb x = false by unfold rcb; rw [hn, hd]; rfl]
    repeat (refine wkB ?_; try intro _)
    exact jx_ret_tmp rfl rfl (fun w hw => ret_ok hw)
  obtain ⟨a, ha⟩ := icb_iff.1 hn
  obtain ⟨b, hb⟩ := icb_iff.1 hd
  obtain ⟨n, d⟩ := x
  simp only at ha hb p1 p2 hn hd ⊢
  subst ha
  subst hb
  rw [rcb_mk, hn, hd, ival_I, ival_I, Bool.true_and, Bool.true_and]
  have hz : decide (I b = I 0) = decide (b = 0) := by rw [decide_eq_decide]; exact I_inj
  rw [hz]
  repeat (refine wkB ?_; try intro _)
  by_cases hb : b = 0
  · simp only [decide_eq_true hb]
    repeat (refine wkB ?_; try intro _)
    exact jx_ret_tmp rfl rfl (fun w hw => ret_ok hw)
  · simp only [decide_eq_false hb]
    repeat (refine wkB ?_; try intro _)
    refine jD 14 14 (h := ?_)
    (repeat (refine wkH ?_))
    rcases hc : decide (Lib.compareInt b 1 ≤ 0) with _ | _
    · (repeat (first | refine wkH ?_ | (refine tC rfl rfl ?_ ?_; focus (first | exact trivial | exact ⟨p1, p2⟩))))
      refine jh_nil ?_
      refine jn_nil ?_
      repeat (refine wkB ?_; try intro _)
      rcases hg : decide (((Int.gcd a b : Nat) : Int) = 1) with _ | _
      · repeat (refine wkB ?_; try intro _)
        exact jx_ret_tmp rfl rfl (fun w hw => ret_ok hw)
      · repeat (refine wkB ?_; try intro _)
        exact jx_ret_tmp rfl rfl (fun w hw => ret_ok hw)
    · (repeat (refine wkH ?_))
      refine jh_nil ?_
      refine jn_nil ?_
      repeat (refine wkB ?_; try intro _)
      exact jx_ret_tmp rfl rfl (fun w hw => ret_ok hw)⟩
instance (priority := high) sp_RCheck (q : Rat) : SpecC Tryz.prog 49 [vQ q] (.int .i64 0) (M q ≤ LQ) := ⟨fun hp w => by
  have h := (sp_RCheckR (Q q)).out ⟨?_, ?_⟩ w
  · rw [rcb_Q] at h
    exact h
  · have := Nat.le_trans (M_num q) hp
    exact Nat.le_trans this (by decide)
  · show (mag (dn q).natAbs).size ≤ LIM
    have h1 := Nat.le_trans (M_den q) hp
    unfold dn
    split
    · decide
    · exact Nat.le_trans h1 (by decide)⟩
end Go.Vt
/- The moving point through samples, walked. Conditions: those that each statement names. -/
set_option linter.unusedSimpArgs false
set_option linter.unusedVariables false
set_option maxHeartbeats 2000000
set_option maxRecDepth 100000
namespace Go.Vt
open Go.RowKit Go.Proofs
abbrev SS := R_movingpoint_Sample
/-- The unit between two neighbours. -/
def sgU (pts : List SS) (i : Nat) : PU := ⟨⟨⟨(gi pts (i : Int)).T, 0, false⟩, ⟨(gi pts ((i + 1 : Nat) : Int)).T, 0, false⟩, decide ((1 : Int) < ((i + 1 : Nat) : Int)), false⟩, stl (gi pts (i : Int)) (gi pts ((i + 1 : Nat) : Int))⟩
def sgs (pts : List SS) : Nat → List PU
  | 0 => []
  | m + 1 => sgs pts m ++ [sgU pts m]
theorem sgs_len (pts : List SS) : ∀ m, (sgs pts m).length = m
  | 0 => rfl
  | m + 1 => by rw [sgs, List.length_append, sgs_len pts m]; rfl
theorem sgs_mem (pts : List SS) {u : PU} : ∀ m, u ∈ sgs pts m → ∃ i, i < m ∧ u = sgU pts i
  | 0, h => by cases h
  | m + 1, h => by
    rw [sgs] at h
    rcases List.mem_append.1 h with h1 | h1
    · obtain ⟨i, h3, h4⟩ := sgs_mem pts m h1
      exact ⟨i, by omega, h4⟩
    · rw [List.mem_singleton] at h1
      exact ⟨m, by omega, h1⟩
def one1 (p : SS) : PU := ⟨⟨⟨p.T, 0, false⟩, ⟨p.T, 0, false⟩, false, false⟩, ⟨p.P.X, 0, p.P.Y, 0⟩⟩
def frS (pts : List SS) : List PU := if pts.length = 1 then [one1 (gi pts 0)] else mNorm (sgs pts (pts.length - 1))
def frE (pts : List SS) : Int := if pts.length = 1 then 0 else nrmE (mpN toU (sgs pts (pts.length - 1)) (sgs pts (pts.length - 1)).length)
theorem mpN_mem {α β : Type} [Inhabited α] {f : α → β} {xs : List α} {y : β} : ∀ m, m ≤ xs.length → y ∈ mpN f xs m → ∃ x ∈ xs, y = f x
  | 0, _, h => by cases h
  | m + 1, hm, h => by
    rw [mpN] at h
    rcases List.mem_append.1 h with h1 | h1
    · exact mpN_mem m (by omega) h1
    · rw [List.mem_singleton] at h1
      exact ⟨_, gi_mem (by omega), h1⟩
theorem sgU_in {pts : List SS} (hB : Bnd pts) (i : Nat) : UIn (toU (sgU pts i)) := by
  obtain ⟨h1, h2, h3⟩ := hB (i : Int)
  obtain ⟨h4, h5, h6⟩ := hB ((i + 1 : Nat) : Int)
  have := MB.mk h1
  have := MB.mk h2
  have := MB.mk h3
  have := MB.mk h4
  have := MB.mk h5
  have := MB.mk h6
  exact ⟨⟨rfl, rfl, rfl, rfl, Nat.le_trans h1 (by decide), Nat.le_trans h4 (by decide)⟩, ⟨MB.lt (q := (stl (gi pts (i : Int)) (gi pts ((i + 1 : Nat) : Int))).X0) rfl, MB.lt (q := (stl (gi pts (i : Int)) (gi pts ((i + 1 : Nat) : Int))).X1) rfl, MB.lt (q := (stl (gi pts (i : Int)) (gi pts ((i + 1 : Nat) : Int))).Y0) rfl, MB.lt (q := (stl (gi pts (i : Int)) (gi pts ((i + 1 : Nat) : Int))).Y1) rfl⟩⟩
theorem sgs_in {pts : List SS} (hB : Bnd pts) (m : Nat) : ∀ u ∈ mpN toU (sgs pts m) (sgs pts m).length, UIn u := fun u hu => by
  obtain ⟨x, hx, rfl⟩ := mpN_mem _ (Nat.le_refl _) hu
  obtain ⟨i, -, rfl⟩ := sgs_mem pts m hx
  exact sgU_in hB i
end Go.Vt
/- The position of a moving point at a rational instant, walked. Conditions: those that each statement names. -/
set_option linter.unusedSimpArgs false
set_option linter.unusedVariables false
set_option maxHeartbeats 2000000
set_option maxRecDepth 100000
namespace Go.Vt
open Go.RowKit Go.Proofs
instance sp_xs (f : R_api_Line) : SpecC Tryz.prog 63 [vLn f] (vQd (lnX f)) True := ⟨fun _ w => by
  refine fn_intro Tryz.func63 rfl Tryz.ntmps63 rfl ?_
  repeat (refine wkB ?_; try intro _)
  exact wx_cell rfl rfl (fun w hw => ret_ok hw)⟩
instance sp_ys (f : R_api_Line) : SpecC Tryz.prog 64 [vLn f] (vQd (lnY f)) True := ⟨fun _ w => by
  refine fn_intro Tryz.func64 rfl Tryz.ntmps64 rfl ?_
  repeat (refine wkB ?_; try intro _)
  exact wx_cell rfl rfl (fun w hw => ret_ok hw)⟩
def atP (r : Option R_api_Line) (t : Rat) : R_api_Point := match r with | some f => pos f t | none => zR_api_Point
theorem AtR.mem {us : List UL} {t : Rat} {f : R_api_Line} (h : AtR us t (some f)) : ∃ u ∈ us, f = u.F := by
  rcases h.out with ⟨k, h1, -, -, -, h5⟩ | ⟨-, h2⟩
  · injection h5 with h5
    exact ⟨_, gi_mem (by omega), h5⟩
  · cases h2
theorem atRat_spec (v : Value) (us : List PU) (t : Rat) (c : Nat) (r : Option R_api_Line) (hk : Cut (mpN toU us us.length) t c) (hr : AtR (mpN toU us us.length) t r) (w : World) (hv : ArgS w v rP us) (hl : us.length ≤ 1048576) (htM : M t ≤ 8589934592) (hok : ∀ u ∈ mpN toU us us.length, UOk u) :
    Calls Tryz.prog 18 [v, vQ t].toArray w (Ret (.tuple #[vP (atP r t), .bool r.isSome]) w) := by
  have := ArgC.mk hv
  have : CtC (mpN toU us us.length) (⟨t, 0, false⟩ : R_api_Real).P c := ⟨hk⟩
  have : AtC' (mpN toU us us.length) (⟨t, 0, false⟩ : R_api_Real).P r := ⟨hr⟩
  have hml := mpN_len toU us us.length
  have htq : M t ≤ LQ := Nat.le_trans htM (by decide)
  refine fn_intro Tryz.func18 rfl Tryz.ntmps18 rfl ?_
  repeat (refine wkB ?_; try intro _)
  rename_i b3 b4
  refine j_cut (S := Nat) (fun _ => True) (fun b6 => [(3, .pointer (some ⟨b3, 0, none⟩)), (4, .pointer (some ⟨b4, 0, none⟩)), (6, .pointer (some ⟨b6, 0, none⟩)), (7, .bool r.isSome)]) (fun b6 => [⟨b6, e_api_Line (q_api_Line (r.getD zR_api_Line)), 66⟩, ⟨b4, e_api_Point (q_api_Point zR_api_Point), 45⟩, ⟨b3, e_api_Rat (Q t), 28⟩]) ?_ (fun b6 _ => ?_)
  · (refine j_tree (.v [0, 2] (.e2 1 (.v [3] (.e2 4 (.v [5, 6, 7] (.e1 8 (.e1 9 (.e1 10 (.fin))))) 8 (.e1 4 (.v [5, 6, 7] (.e1 9 (.e1 10 (.fin))))))) 8 (.e1 1 (.v [3] (.e1 4 (.v [5, 6, 7] (.e1 9 (.e1 10 (.fin))))))))) ([⟨b3, e_api_Rat (Q t), 28⟩]) (h := ?_); refine wkX ?_)
    repeat (first | (refine wkT ?_; try intro _) | (refine tC rfl rfl ?_ ?_; focus (first | exact trivial | exact hl | exact ⟨by omega, ⟨rfl, rfl⟩, htq, fun u hu => (hok u hu).i.mono (by decide)⟩)) | (refine uC rfl rfl ?_ ?_; focus (first | exact trivial | exact hl | exact ⟨by omega, ⟨rfl, rfl⟩, htq, fun u hu => (hok u hu).i.mono (by decide)⟩)) | (refine eN rfl rfl ?_ ?_; (focus (first | exact trivial | exact hl | exact ⟨by omega, ⟨rfl, rfl⟩, htq, fun u hu => (hok u hu).i.mono (by decide)⟩)); intro _; (try simp only [List.cons_append, List.nil_append, List.append_nil])))
    refine And.intro ?_ ?_
    · repeat (first | (refine wkT ?_; try intro _) | (refine tC rfl rfl ?_ ?_; focus (first | exact trivial | exact hl | exact ⟨by omega, ⟨rfl, rfl⟩, htq, fun u hu => (hok u hu).i.mono (by decide)⟩)) | (refine uC rfl rfl ?_ ?_; focus (first | exact trivial | exact hl | exact ⟨by omega, ⟨rfl, rfl⟩, htq, fun u hu => (hok u hu).i.mono (by decide)⟩)) | (refine eN rfl rfl ?_ ?_; (focus (first | exact trivial | exact hl | exact ⟨by omega, ⟨rfl, rfl⟩, htq, fun u hu => (hok u hu).i.mono (by decide)⟩)); intro _; (try simp only [List.cons_append, List.nil_append, List.append_nil])))
      refine And.intro ?_ ?_
      · repeat (first | (refine wkT ?_; try intro _) | (refine tC rfl rfl ?_ ?_; focus (first | exact trivial | exact hl | exact ⟨by omega, ⟨rfl, rfl⟩, htq, fun u hu => (hok u hu).i.mono (by decide)⟩)) | (refine uC rfl rfl ?_ ?_; focus (first | exact trivial | exact hl | exact ⟨by omega, ⟨rfl, rfl⟩, htq, fun u hu => (hok u hu).i.mono (by decide)⟩)) | (refine eN rfl rfl ?_ ?_; (focus (first | exact trivial | exact hl | exact ⟨by omega, ⟨rfl, rfl⟩, htq, fun u hu => (hok u hu).i.mono (by decide)⟩)); intro _; (try simp only [List.cons_append, List.nil_append, List.append_nil])))
        exact jx_mid _ trivial sbB suB
      · repeat (first | (refine wkT ?_; try intro _) | (refine tC rfl rfl ?_ ?_; focus (first | exact trivial | exact hl | exact ⟨by omega, ⟨rfl, rfl⟩, htq, fun u hu => (hok u hu).i.mono (by decide)⟩)) | (refine uC rfl rfl ?_ ?_; focus (first | exact trivial | exact hl | exact ⟨by omega, ⟨rfl, rfl⟩, htq, fun u hu => (hok u hu).i.mono (by decide)⟩)) | (refine eN rfl rfl ?_ ?_; (focus (first | exact trivial | exact hl | exact ⟨by omega, ⟨rfl, rfl⟩, htq, fun u hu => (hok u hu).i.mono (by decide)⟩)); intro _; (try simp only [List.cons_append, List.nil_append, List.append_nil])))
        exact jx_mid _ trivial sbB suB
    · repeat (first | (refine wkT ?_; try intro _) | (refine tC rfl rfl ?_ ?_; focus (first | exact trivial | exact hl | exact ⟨by omega, ⟨rfl, rfl⟩, htq, fun u hu => (hok u hu).i.mono (by decide)⟩)) | (refine uC rfl rfl ?_ ?_; focus (first | exact trivial | exact hl | exact ⟨by omega, ⟨rfl, rfl⟩, htq, fun u hu => (hok u hu).i.mono (by decide)⟩)) | (refine eN rfl rfl ?_ ?_; (focus (first | exact trivial | exact hl | exact ⟨by omega, ⟨rfl, rfl⟩, htq, fun u hu => (hok u hu).i.mono (by decide)⟩)); intro _; (try simp only [List.cons_append, List.nil_append, List.append_nil])))
      exact jx_mid _ trivial sbB suB
  rcases r with _ | f
  · repeat (refine wkB ?_; try intro _)
    exact jx_ret_two rfl (wr_cell rfl) (resv_tmp rfl) (fun w hw => ret_ok hw)
  · obtain ⟨u, hu, hfu⟩ := hr.mem
    have ho := (hok u hu).f
    rw [← hfu] at ho
    have hm0 : M 0 ≤ 34359738368 := Nat.le_trans mb_zero.out (by decide)
    simp only [Option.isSome_some, Option.getD_some, Bool.not_true]
    repeat (refine wkB ?_; try intro _)
    (refine jD 9 9 (h := ?_); (repeat (first | refine wkH ?_ | (refine tC rfl rfl ?_ ?_; focus (first | exact trivial | exact ⟨Nat.le_trans ho.x0 (by decide), Nat.le_trans ho.x1 (by decide), hm0, Nat.le_trans htM (by decide)⟩ | exact ⟨Nat.le_trans ho.y0 (by decide), Nat.le_trans ho.y1 (by decide), hm0, Nat.le_trans htM (by decide)⟩)))); refine jh_nil ?_; (repeat (refine wn_new ?_; intro _)); refine jn_nil ?_)
    repeat (refine wkB ?_; try intro _)
    exact jx_ret_two rfl (wr_cell rfl) (resv_tmp rfl) (fun w hw => ret_ok hw)
/-- What is found at an instant in a moving point. -/
class AtC2 (us : List PU) (t : Rat) (r : outParam (Option R_api_Line)) : Prop where
  cut : ∃ c, Cut (mpN toU us us.length) t c
  out : AtR (mpN toU us us.length) t r
instance sm_atRat (w0 : World) (L : List Blk) (v : Value) (us : List PU) (t : Rat) (r : Option R_api_Line) [h : LstC w0 L v PU rP us] [hr : AtC2 us t r] : SpecM Tryz.prog w0 L 18 [v, vQ t] (.tuple #[vP (atP r t), .bool r.isSome]) (us.length ≤ 1048576 ∧ M t ≤ 8589934592 ∧ ∀ u ∈ mpN toU us us.length, UOk u) := ⟨fun hp w hw => by
  obtain ⟨c, hc⟩ := hr.cut
  exact atRat_spec v us t c r hc hr.out w (h.out w hw) hp.1 hp.2.1 hp.2.2⟩
end Go.Vt
/- A cut behind the operations that are being walked. Conditions: none. -/
set_option linter.unusedSimpArgs false
set_option linter.unusedVariables false
set_option maxHeartbeats 2000000
namespace Go.Vt
open Go.RowKit
section
variable {P : Program} {w0 : World} {n : Nat} {ops : Array Oper} {L : List Blk} {E : Env} {Q Q' : Exit → Act → World → Prop}
theorem inBlock_mono {id : Nat} (hq : ∀ e a w, Q e a w → Q' e a w) : ∀ e a w, Exit.inBlock id Q e a w → Exit.inBlock id Q' e a w := fun e a w h => by
  cases e with
  | exit j =>
    simp only [Exit.inBlock] at h ⊢
    split
    · rename_i hj
      rw [if_pos hj] at h
      exact hq _ _ _ h
    · rename_i hj
      rw [if_neg hj] at h
      exact hq _ _ _ h
  | _ => exact hq _ _ _ h
theorem mid_then {S : Type} {I : S → Prop} {Es : S → Env} {Ls : S → List Blk} {y : Code} (h2 : ∀ s, I s → J P w0 n y Q (Es s) (Ls s)) : ∀ e a w, MidQ w0 n I Es Ls (fun _ _ => True) Q e a w → Then P y Q e a w := fun e a w hq => by
  cases e with
  | normal => obtain ⟨⟨s, hs, hr, ho⟩, _⟩ := hq; exact (h2 s hs).out a w hr ho
  | _ => exact hq
/-- A cut in a block. -/
theorem jb_cut {S : Type} {id : Nat} (I : S → Prop) (Es : S → Env) (Ls : S → List Blk) {x y : Code} (h1 : J P w0 n x (Exit.inBlock id (MidQ w0 n I Es Ls (fun _ _ => True) Q)) E L) (h2 : ∀ s, I s → J P w0 n y Q (Es s) (Ls s)) : J P w0 n x (Exit.inBlock id (Then P y Q)) E L := ⟨fun a w ha hw => wp_mono (h1.out a w ha hw) (inBlock_mono (mid_then h2))⟩
end
end Go.Vt
/- The instants that two intervals have in common; the part of a value during a period: walked. Conditions: those that each statement names. -/
set_option linter.unusedSimpArgs false
set_option linter.unusedVariables false
set_option maxHeartbeats 2000000
set_option maxRecDepth 100000
namespace Go.Vt
open Go.RowKit Go.Proofs
open Fv (va red)
def mtF (a b : R_api_Interval) : R_api_Real × Bool := if a.From.P < b.From.P then (b.From, b.OpenFrom) else if a.From.P = b.From.P then (a.From, a.OpenFrom || b.OpenFrom) else (a.From, a.OpenFrom)
def mtT (a b : R_api_Interval) : R_api_Real × Bool := if b.To.P < a.To.P then (b.To, b.OpenTo) else if a.To.P = b.To.P then (a.To, a.OpenTo || b.OpenTo) else (a.To, a.OpenTo)
/-- What two intervals have in common, and is there any? -/
def mt (a b : R_api_Interval) : R_api_Interval := ⟨(mtF a b).1, (mtT a b).1, (mtF a b).2, (mtT a b).2⟩
def mtO (a b : R_api_Interval) : Bool := decide ((mt a b).From.P < (mt a b).To.P) || (decide ((mt a b).From.P = (mt a b).To.P) && (!(mt a b).OpenFrom && !(mt a b).OpenTo))
theorem mtF_ok {K : Nat} {a b : R_api_Interval} (ha : IvOk K a) (hb : IvOk K b) : RtOk (mtF a b).1 ∧ M (mtF a b).1.P ≤ K := by
  unfold mtF
  split
  · exact ⟨hb.rf, hb.m1⟩
  · split <;> exact ⟨ha.rf, ha.m1⟩
theorem mtT_ok {K : Nat} {a b : R_api_Interval} (ha : IvOk K a) (hb : IvOk K b) : RtOk (mtT a b).1 ∧ M (mtT a b).1.P ≤ K := by
  unfold mtT
  split
  · exact ⟨hb.rt, hb.m2⟩
  · split <;> exact ⟨ha.rt, ha.m2⟩
theorem mt_ok {K : Nat} {a b : R_api_Interval} (ha : IvOk K a) (hb : IvOk K b) : IvOk K (mt a b) := by
  obtain ⟨⟨h1, h2⟩, h3⟩ := mtF_ok ha hb
  obtain ⟨⟨h4, h5⟩, h6⟩ := mtT_ok ha hb
  exact ⟨h1, h4, h2, h5, h3, h6⟩
set_option maxHeartbeats 1000000 in
instance sp_meet (a b : R_api_Interval) : SpecC Tryz.prog 151 [vIv a, vIv b] (.tuple #[vIv (mt a b), .bool (mtO a b)]) (IvOk BQ a ∧ IvOk BQ b) := ⟨fun hp w => by
  obtain ⟨ha, hb⟩ := hp
  have hm := mt_ok ha hb
  refine fn_intro Tryz.func151 rfl Tryz.ntmps151 rfl ?_
  repeat (first | (refine wkB ?_; try intro _) | (refine sC rfl rfl ?_ ?_; focus (exact ⟨⟨ha.r1, hb.r1⟩, Nat.le_trans ha.m1 (by decide), Nat.le_trans hb.m1 (by decide)⟩)) | (refine sN rfl rfl ?_ ?_; (focus (exact ⟨⟨ha.r1, hb.r1⟩, Nat.le_trans ha.m1 (by decide), Nat.le_trans hb.m1 (by decide)⟩)); intro _; (try simp only [List.cons_append, List.nil_append, List.append_nil])))
  rename_i b2 b3 b4 b6
  refine jb_cut (S := Unit) (fun _ => True) (fun _ => [(2, .pointer (some ⟨b2, 0, none⟩)), (3, .pointer (some ⟨b3, 0, none⟩)), (4, .pointer (some ⟨b4, 0, none⟩)), (6, .pointer (some ⟨b6, 0, none⟩))]) (fun _ => [⟨b6, e_api_Interval (q_api_Interval ⟨(mtF a b).1, a.To, (mtF a b).2, a.OpenTo⟩), 32⟩, ⟨b4, e_api_Interval (q_api_Interval zR_api_Interval), 32⟩, ⟨b3, e_api_Interval (q_api_Interval b), 32⟩, ⟨b2, e_api_Interval (q_api_Interval a), 32⟩]) ?_ (fun _ _ => ?_)
  · by_cases h1 : a.From.P < b.From.P
    · rw [show mtF a b = (b.From, b.OpenFrom) by unfold mtF; rw [if_pos h1]]
      simp only [decide_eq_true (cq_lt.2 h1)]
      repeat (refine wkB ?_; try intro _)
      (refine j_tree (.v [0, 1, 2, 3, 4] (.e1 5 (.v [6] (.e1 7 (.fin))))) ([⟨b3, e_api_Interval (q_api_Interval b), 32⟩]) (h := ?_); refine wkX ?_)
      repeat (refine wkT ?_; try intro _)
      repeat (refine wkB ?_; try intro _)
      exact jx_mid () trivial sbB slB
    · simp only [decide_eq_false (fun h => h1 (cq_lt.1 h))]
      repeat (refine wkB ?_; try intro _)
      by_cases h2 : a.From.P = b.From.P
      · rw [show mtF a b = (a.From, a.OpenFrom || b.OpenFrom) by unfold mtF; rw [if_neg h1, if_pos h2]]
        simp only [decide_eq_true (cq_eq.2 h2)]
        repeat (refine wkB ?_; try intro _)
        rcases h3 : a.OpenFrom with _ | _
        · repeat (refine wkB ?_; try intro _)
          exact jx_mid () trivial sbB slB
        · repeat (refine wkB ?_; try intro _)
          exact jx_mid () trivial sbB slB
      · rw [show mtF a b = (a.From, a.OpenFrom) by unfold mtF; rw [if_neg h1, if_neg h2]]
        simp only [decide_eq_false (fun h => h2 (cq_eq.1 h))]
        repeat (refine wkB ?_; try intro _)
        exact jx_mid () trivial sbB slB
  repeat (first | (refine wkB ?_; try intro _) | (refine sC rfl rfl ?_ ?_; focus (exact ⟨⟨ha.r2, hb.r2⟩, Nat.le_trans ha.m2 (by decide), Nat.le_trans hb.m2 (by decide)⟩)) | (refine sN rfl rfl ?_ ?_; (focus (exact ⟨⟨ha.r2, hb.r2⟩, Nat.le_trans ha.m2 (by decide), Nat.le_trans hb.m2 (by decide)⟩)); intro _; (try simp only [List.cons_append, List.nil_append, List.append_nil])))
  refine jb_cut (S := Unit) (fun _ => True) (fun _ => [(4, .pointer (some ⟨b4, 0, none⟩)), (6, .pointer (some ⟨b6, 0, none⟩))]) (fun _ => [⟨b6, e_api_Interval (q_api_Interval (mt a b)), 32⟩, ⟨b4, e_api_Interval (q_api_Interval zR_api_Interval), 32⟩]) ?_ (fun _ _ => ?_)
  · by_cases h1 : b.To.P < a.To.P
    · rw [show mt a b = ⟨(mtF a b).1, b.To, (mtF a b).2, b.OpenTo⟩ by unfold mt mtT; rw [if_pos h1]]
      simp only [decide_eq_true (cq_gt.2 h1)]
      repeat (refine wkB ?_; try intro _)
      (refine j_tree (.v [0, 1, 2, 3, 4] (.e1 5 (.v [6] (.e1 7 (.fin))))) ([⟨b3, e_api_Interval (q_api_Interval b), 32⟩]) (h := ?_); refine wkX ?_)
      repeat (refine wkT ?_; try intro _)
      repeat (refine wkB ?_; try intro _)
      exact jx_mid () trivial sbB slB
    · simp only [decide_eq_false (fun h => h1 (cq_gt.1 h))]
      repeat (refine wkB ?_; try intro _)
      by_cases h2 : a.To.P = b.To.P
      · rw [show mt a b = ⟨(mtF a b).1, a.To, (mtF a b).2, a.OpenTo || b.OpenTo⟩ by unfold mt mtT; rw [if_neg h1, if_pos h2]]
        simp only [decide_eq_true (cq_eq.2 h2)]
        repeat (refine wkB ?_; try intro _)
        rcases h3 : a.OpenTo with _ | _
        · repeat (refine wkB ?_; try intro _)
          exact jx_mid () trivial sbB slB
        · repeat (refine wkB ?_; try intro _)
          exact jx_mid () trivial sbB slB
      · rw [show mt a b = ⟨(mtF a b).1, a.To, (mtF a b).2, a.OpenTo⟩ by unfold mt mtT; rw [if_neg h1, if_neg h2]]
        simp only [decide_eq_false (fun h => h2 (cq_eq.1 h))]
        repeat (refine wkB ?_; try intro _)
        exact jx_mid () trivial sbB slB
  repeat (first | (refine wkB ?_; try intro _) | (refine sC rfl rfl ?_ ?_; focus (exact ⟨⟨hm.r1, hm.r2⟩, Nat.le_trans hm.m1 (by decide), Nat.le_trans hm.m2 (by decide)⟩)) | (refine sN rfl rfl ?_ ?_; (focus (exact ⟨⟨hm.r1, hm.r2⟩, Nat.le_trans hm.m1 (by decide), Nat.le_trans hm.m2 (by decide)⟩)); intro _; (try simp only [List.cons_append, List.nil_append, List.append_nil])))
  unfold mtO
  generalize mt a b = m at *
  have hl : decide (cq m.From.P m.To.P < 0) = decide (m.From.P < m.To.P) := by rw [decide_eq_decide]; exact cq_lt
  have he : decide (cq m.From.P m.To.P = 0) = decide (m.From.P = m.To.P) := by rw [decide_eq_decide]; exact cq_eq
  (refine j_tree (.v [0, 1, 2, 3, 4, 5, 6, 7, 8, 9, 10, 11, 12, 13, 14, 15, 16] (.e1 17 (.e1 18 (.fin)))) ([⟨b6, e_api_Interval (q_api_Interval m), 32⟩]) (h := ?_); refine wkX ?_)
  repeat (refine wkT ?_; try intro _)
  rw [hl]
  rcases h1 : decide (m.From.P < m.To.P) with _ | _
  · repeat (refine wkT ?_; try intro _)
    rw [he]
    rcases h2 : decide (m.From.P = m.To.P) with _ | _
    · repeat (refine wkT ?_; try intro _)
      repeat (refine wkB ?_; try intro _)
      exact jx_ret_two rfl (wr_cell rfl) (resv_tmp rfl) (fun w hw => ret_ok hw)
    · repeat (refine wkT ?_; try intro _)
      rcases h3 : m.OpenFrom with _ | _
      · repeat (refine wkT ?_; try intro _)
        repeat (refine wkB ?_; try intro _)
        exact jx_ret_two rfl (wr_cell rfl) (resv_tmp rfl) (fun w hw => ret_ok hw)
      · repeat (refine wkT ?_; try intro _)
        repeat (refine wkB ?_; try intro _)
        exact jx_ret_two rfl (wr_cell rfl) (resv_tmp rfl) (fun w hw => ret_ok hw)
  · repeat (refine wkT ?_; try intro _)
    repeat (refine wkB ?_; try intro _)
    exact jx_ret_two rfl (wr_cell rfl) (resv_tmp rfl) (fun w hw => ret_ok hw)⟩
end Go.Vt
/- The part of a value during a period, walked. Conditions: those that each statement names. -/
set_option linter.unusedSimpArgs false
set_option linter.unusedVariables false
set_option maxHeartbeats 2000000
set_option maxRecDepth 100000
namespace Go.Vt
open Go.RowKit Go.Proofs
open Fv (va red)
abbrev rI := r_api_Interval
/-- What a unit has in common with the first intervals of a list; the same for all units. -/
def ri (u : UL) (ds : List R_api_Interval) : Nat → List UL
  | 0 => []
  | k + 1 => ri u ds k ++ (if mtO u.In (gi ds (k : Int)) = true then [⟨mt u.In (gi ds (k : Int)), u.F⟩] else [])
def ro (us : List UL) (ds : List R_api_Interval) : Nat → List UL
  | 0 => []
  | m + 1 => ro us ds m ++ ri (gi us (m : Int)) ds ds.length
theorem ri_len (u : UL) (ds : List R_api_Interval) : ∀ k, (ri u ds k).length ≤ k
  | 0 => Nat.le_refl _
  | k + 1 => by
    have := ri_len u ds k
    rw [ri, List.length_append]
    split <;> simp <;> omega
theorem ro_len (us : List UL) (ds : List R_api_Interval) : ∀ m, (ro us ds m).length ≤ m * ds.length
  | 0 => by simp [ro]
  | m + 1 => by
    have := ro_len us ds m
    have := ri_len (gi us (m : Int)) ds ds.length
    rw [ro, List.length_append, Nat.add_mul, Nat.one_mul]
    omega
theorem pnorm_spec (v : Value) (us : List UL) (w : World) (hv : ArgS w v rU us) (hn : us = [] → v = .slice none 0 0) (hl : us.length ≤ 19) (hok : ∀ u ∈ us, UIn u) :
    Calls Tryz.prog 152 [vLines, v].toArray w (RetM (SlS rU 36 (nrmR us)) (fun s => vSl s) (fun s => mS 163 s) w) := by
  have hN : ∀ L, LstN w L v UL rU us := fun L => ⟨fun w' hw' => hv.to hw'.ext, hn⟩
  refine fn_intro Tryz.func152 rfl Tryz.ntmps152 rfl ?_
  repeat (first | (refine wkB ?_; try intro _) | (refine sC rfl rfl ?_ ?_; focus (exact ⟨hl, hok⟩)) | (refine sN rfl rfl ?_ ?_; (focus (exact ⟨hl, hok⟩)); intro _; (try simp only [List.cons_append, List.nil_append, List.append_nil])))
  rename_i s
  exact jx_ret_tmp rfl rfl (fun w hw => ⟨s, rfl, hw.sub suB⟩)
instance sr_pnorm (w0 : World) (L : List Blk) (v : Value) (us : List UL) [h : LstN w0 L v UL rU us] : SpecR Tryz.prog w0 L 152 [vLines, v] (SlS rU 36 (nrmR us)) (fun s => vSl s) (fun s => mS 163 s) (us.length ≤ 19 ∧ ∀ u ∈ us, UIn u) := ⟨fun hp w hw => pnorm_spec v us w (h.out w hw) h.nil hp.1 hp.2⟩
theorem restrict_spec (v v2 : Value) (us : List UL) (ds : List R_api_Interval) (w : World) (hv : ArgS w v rU us) (hd : ArgS w v2 rI ds) (hl : us.length ≤ 1024) (hl2 : ds.length ≤ 1024) (h19 : (ro us ds us.length).length ≤ 19) (hok : ∀ u ∈ us, IvOk BQ u.In) (hok2 : ∀ d ∈ ds, IvOk BQ d) (hin : ∀ u ∈ ro us ds us.length, UIn u) :
    Calls Tryz.prog 113 [vLines, v, v2].toArray w (RetM (SlS rU 36 (nrmR (ro us ds us.length))) (fun s => vSl s) (fun s => mS 163 s) w) := by
  refine fn_intro Tryz.func113 rfl Tryz.ntmps113 rfl ?_
  obtain ⟨p, cp, rfl⟩ := hv.form
  obtain ⟨p2, cp2, rfl⟩ := hd.form
  repeat (refine wkB ?_; try intro _)
  refine j_loop (S := (m : Nat) × SlS rU 36 (ro us ds m)) (fun s => s.1 ≤ us.length) (fun s => [(0, vLines), (2, .slice p2 ds.length cp2), (7, vSl s.2), (14, .slice p us.length cp), (15, .int .i64 us.length), (16, .int .i64 (s.1 : Nat))]) (fun s => mS 163 s.2) (fun s => us.length - s.1) ⟨0, SlS.no⟩ (Nat.zero_le _) sbB slB (fun s hm => ?_)
  obtain ⟨m, s⟩ := s
  simp only at hm ⊢
  repeat (refine wkB ?_; try intro _)
  refine j_cond rfl (fun h => ?_) (fun h => ?_)
  · have hlt : m < us.length := by have := of_decide_eq_true h; omega
    have hne : us ≠ [] := fun h0 => by rw [h0] at hlt; simp at hlt
    obtain ⟨bw, ow, cw, hvw, hcw, hrow⟩ := hv.blk (k := 35) hne []
    injection hvw with e1 e2 e3
    subst e1
    subst e3
    have hrow' : ∀ L, RowC w L bw ow UL rU us := fun L => ⟨fun w' hw' => hrow.out w' (hw'.sub (List.nil_sublist _))⟩
    have hro := ro_len us ds m
    have hmul : m * ds.length ≤ 1024 * 1024 := Nat.mul_le_mul (by omega) hl2
    repeat (refine wkB ?_; try intro _)
    rename_i b9
    refine j_permL (mS 163 s ++ [⟨b9, rU (gi us (m : Int)), 163⟩]) (List.perm_append_singleton _ _).symm ?_
    refine j_loop (S := (xs : List UL) × Nat × SlS rU 36 xs) (fun s => s.2.1 ≤ ds.length ∧ s.1 = ro us ds m ++ ri (gi us (m : Int)) ds s.2.1) (fun s => [(0, vLines), (2, .slice p2 ds.length cp2), (7, vSl s.2.2), (9, .pointer (some ⟨b9, 0, none⟩)), (14, .slice (some ⟨bw, ow, none⟩) us.length cp), (15, .int .i64 us.length), (16, .int .i64 (m : Nat)), (20, .slice p2 ds.length cp2), (21, .int .i64 ds.length), (22, .int .i64 (s.2.1 : Nat))]) (fun s => mS 163 s.2.2 ++ [⟨b9, rU (gi us (m : Int)), 163⟩]) (fun s => ds.length - s.2.1) ⟨ro us ds m, 0, s⟩ ⟨Nat.zero_le _, (List.append_nil _).symm⟩ sbB suB (fun s hk => ?_)
    obtain ⟨xs, k, s⟩ := s
    obtain ⟨hk, hxs⟩ := hk
    simp only at hk hxs ⊢
    have hxl : xs.length ≤ 1049600 := by
      have := ri_len (gi us (m : Int)) ds k
      rw [hxs, List.length_append]
      omega
    repeat (refine wkB ?_; try intro _)
    refine j_cond rfl (fun h => ?_) (fun h => ?_)
    · have hlt2 : k < ds.length := by have := of_decide_eq_true h; omega
      have hne2 : ds ≠ [] := fun h0 => by rw [h0] at hlt2; simp at hlt2
      obtain ⟨bd, od, cd, hvd, hcd, hrowd⟩ := hd.blk (k := 19) hne2 []
      injection hvd with e1 e2 e3
      subst e1
      subst e3
      have hrowd' : ∀ L, RowC w L bd od R_api_Interval rI ds := fun L => ⟨fun w' hw' => hrowd.out w' (hw'.sub (List.nil_sublist _))⟩
      have ho := hok _ (gi_mem (i := (m : Int)) (xs := us) (by omega))
      have ho2 := hok2 _ (gi_mem (i := (k : Int)) (xs := ds) (by omega))
      repeat (first | (refine wkB ?_; try intro _) | (refine sC rfl rfl ?_ ?_; focus (exact ⟨ho, ho2⟩)) | (refine sN rfl rfl ?_ ?_; (focus (exact ⟨ho, ho2⟩)); intro _; (try simp only [List.cons_append, List.nil_append, List.append_nil])))
      rcases hmo : mtO (gi us (m : Int)).In (gi ds (k : Int)) with _ | _
      · have e : xs = ro us ds m ++ ri (gi us (m : Int)) ds (k + 1) := by rw [ri, hmo, if_neg (by decide), List.append_nil]; exact hxs
        repeat (first | (refine wkB ?_; try intro _) | (refine sC rfl rfl ?_ ?_; focus (exact ⟨by omega, by omega⟩)) | (refine sN rfl rfl ?_ ?_; (focus (exact ⟨by omega, by omega⟩)); intro _; (try simp only [List.cons_append, List.nil_append, List.append_nil])))
        exact jx_loop ⟨xs, k + 1, s⟩ ⟨hlt2, e⟩ sbB suB (by show ds.length - (k + 1) < ds.length - k; omega)
      · have e : xs ++ [⟨mt (gi us (m : Int)).In (gi ds (k : Int)), (gi us (m : Int)).F⟩] = ro us ds m ++ ri (gi us (m : Int)) ds (k + 1) := by rw [ri, hmo, if_pos rfl, ← List.append_assoc, ← hxs]
        repeat (refine wkB ?_; try intro _)
        refine sU rfl rfl ?_ ?_ ?_ ?_
        · rfl
        · rfl
        · exact ⟨by decide, by omega, by omega⟩
        intro s'
        repeat (first | (refine wkB ?_; try intro _) | (refine sC rfl rfl ?_ ?_; focus (exact ⟨by omega, by omega⟩)) | (refine sN rfl rfl ?_ ?_; (focus (exact ⟨by omega, by omega⟩)); intro _; (try simp only [List.cons_append, List.nil_append, List.append_nil])))
        exact jx_loop ⟨_, k + 1, s'⟩ ⟨hlt2, e⟩ sbB suB (by show ds.length - (k + 1) < ds.length - k; omega)
    · have hge : k = ds.length := by have := of_decide_eq_false h; omega
      subst hge
      repeat (first | (refine wkB ?_; try intro _) | (refine sC rfl rfl ?_ ?_; focus (exact ⟨by omega, by omega⟩)) | (refine sN rfl rfl ?_ ?_; (focus (exact ⟨by omega, by omega⟩)); intro _; (try simp only [List.cons_append, List.nil_append, List.append_nil])))
      subst hxs
      exact jx_loop ⟨m + 1, s⟩ hlt sbB suB (by show us.length - (m + 1) < us.length - m; omega)
  · have hge : m = us.length := by have := of_decide_eq_false h; omega
    subst hge
    repeat (first | (refine wkB ?_; try intro _) | (refine sC rfl rfl ?_ ?_; focus (exact ⟨h19, hin⟩)) | (refine sN rfl rfl ?_ ?_; (focus (exact ⟨h19, hin⟩)); intro _; (try simp only [List.cons_append, List.nil_append, List.append_nil])))
    rename_i s2
    exact jx_ret_tmp rfl rfl (fun w hw => ⟨s2, rfl, hw.sub suB⟩)
end Go.Vt
/- What the moving point through samples says: plain. Conditions: those that each statement names. -/
set_option linter.unusedSimpArgs false
set_option linter.unusedVariables false
set_option maxHeartbeats 2000000
set_option maxRecDepth 100000
namespace Go.Vt
open Go.RowKit Go.Proofs
theorem nf_le {R : List UL} (h : NF (R.map absU)) {i j : Nat} (hij : i < j) (hj : j < R.length) : (absU (gi R (i : Int))).bfr (absU (gi R (j : Int))) := by
  have h1 := List.pairwise_iff_getElem.1 h.pw i j (by rw [List.length_map]; omega) (by rw [List.length_map]; omega) hij
  rw [List.getElem_map, List.getElem_map, ← gi_nat (by omega), ← gi_nat hj] at h1
  exact h1.bf
theorem nf_ok {R : List UL} (h : NF (R.map absU)) {i : Nat} (hi : i < R.length) : (absU (gi R (i : Int))).ok := h.ok _ (List.mem_map.2 ⟨_, gi_mem (by omega), rfl⟩)
theorem cut_ex {R : List UL} (h : NF (R.map absU)) (t : Rat) : ∃ c, Cut R t c := by
  have key : ∀ m, m ≤ R.length → ∃ c, c ≤ m ∧ (∀ j : Nat, j < c → (gi R (j : Int)).In.To.P < t) ∧ ∀ j : Nat, c ≤ j → j < m → t ≤ (gi R (j : Int)).In.To.P := fun m => by
    induction m with
    | zero => exact fun _ => ⟨0, Nat.le_refl _, fun j hj => by omega, fun j _ hj => by omega⟩
    | succ m ih =>
      intro hm
      obtain ⟨c, h1, h2, h3⟩ := ih (by omega)
      by_cases hc : c < m
      · refine ⟨c, by omega, h2, fun j h4 h5 => ?_⟩
        rcases (by omega : j < m ∨ j = m) with h6 | h6
        · exact h3 j h4 h6
        · subst h6
          have h7 := h3 c (Nat.le_refl _) hc
          have h8 := nf_le h hc (by omega)
          have h9 := nf_ok h (i := j) (by omega)
          unfold GU.bfr absU at h8
          unfold GU.ok absU at h9
          grind
      · have hcm : c = m := by omega
        subst hcm
        by_cases ht : t ≤ (gi R (c : Int)).In.To.P
        · exact ⟨c, by omega, h2, fun j h4 h5 => by rw [show j = c by omega]; exact ht⟩
        · refine ⟨c + 1, Nat.le_refl _, fun j hj => ?_, fun j h4 h5 => by omega⟩
          rcases (by omega : j < c ∨ j = c) with h6 | h6
          · exact h2 j h6
          · subst h6
            grind
  obtain ⟨c, h1, h2, h3⟩ := key R.length (Nat.le_refl _)
  exact ⟨c, h1, h2, h3⟩
theorem atr_ex {R : List UL} (h : NF (R.map absU)) (t : Rat) : ∃ r, AtR R t r ∧ ∀ v, Has (R.map absU) t v ↔ r.map (fun f => pos f t) = some v := by
  by_cases hk : ∃ k : Nat, k < R.length ∧ (absU (gi R (k : Int))).mem t
  · obtain ⟨k, h1, h2⟩ := hk
    refine ⟨some (gi R (k : Int)).F, ⟨.inl ⟨k, h1, h2, fun j hj hm => ?_, fun j hj => ?_, rfl⟩⟩, fun v => ?_⟩
    · exact (nf_le h hj h1).dis hm h2
    · rcases (by omega : j < k ∨ j = k) with h3 | h3
      · have h4 := nf_le h h3 h1
        have h5 := nf_ok h (i := j) (by omega)
        unfold GU.bfr absU at h4
        unfold GU.ok absU at h5
        unfold GU.mem absU at h2
        grind
      · subst h3
        unfold GU.mem absU at h2
        grind
    · have hm : absU (gi R (k : Int)) ∈ R.map absU := List.mem_map.2 ⟨_, gi_mem (by omega), rfl⟩
      simp only [Option.map_some, Option.some.injEq]
      constructor
      · intro h3
        exact h.fn hm h2 h3
      · intro h3
        exact ⟨_, hm, h2, h3⟩
  · refine ⟨none, ⟨.inr ⟨fun j hj hm => hk ⟨j, hj, hm⟩, rfl⟩⟩, fun v => ?_⟩
    simp only [Option.map_none, reduceCtorEq, iff_false]
    rintro ⟨u, hu, h1, h2⟩
    obtain ⟨x, hx, rfl⟩ := List.mem_map.1 hu
    obtain ⟨i, hi, rfl⟩ := List.getElem_of_mem hx
    exact hk ⟨i, hi, by rw [gi_nat hi]; exact h1⟩
theorem stl_pos {a b : SS} (h : a.T < b.T) (t : Rat) : pos (stl a b) t = ⟨a.P.X + (b.P.X - a.P.X) * ((t - a.T) / (b.T - a.T)), a.P.Y + (b.P.Y - a.P.Y) * ((t - a.T) / (b.T - a.T))⟩ := by
  have hne : ¬ b.T - a.T = 0 := by grind
  rw [btw_pos a b t h]
  unfold btw
  rw [if_neg hne]
theorem stl_a {a b : SS} (h : a.T < b.T) : pos (stl a b) a.T = a.P := by
  rw [stl_pos h]
  have : (a.T - a.T) / (b.T - a.T) = 0 := by rw [show a.T - a.T = 0 by grind, Rat.div_def, Rat.zero_mul]
  rw [this]
  cases a with
  | mk T P => cases P; simp only [R_api_Point.mk.injEq]; constructor <;> grind
theorem stl_b {a b : SS} (h : a.T < b.T) : pos (stl a b) b.T = b.P := by
  rw [stl_pos h]
  have : (b.T - a.T) / (b.T - a.T) = 1 := by rw [Rat.div_def]; exact Rat.mul_inv_cancel _ (by grind)
  rw [this]
  cases b with
  | mk T P => cases P; simp only [R_api_Point.mk.injEq]; constructor <;> grind
/-- The samples' times increase. -/
def Inc (pts : List SS) : Prop := ∀ i : Nat, i + 1 < pts.length → (gi pts (i : Int)).T < (gi pts ((i + 1 : Nat) : Int)).T
theorem Inc.lt {pts : List SS} (h : Inc pts) : ∀ {j i : Nat}, i < j → j < pts.length → (gi pts (i : Int)).T < (gi pts (j : Int)).T
  | 0, i, hij, _ => by omega
  | j + 1, i, hij, hj => by
    have h1 := h j hj
    rcases (by omega : i < j ∨ i = j) with h2 | h2
    · have := h.lt h2 (by omega)
      grind
    · subst h2; exact h1
theorem Inc.le {pts : List SS} (h : Inc pts) {i j : Nat} (hij : i ≤ j) (hj : j < pts.length) : (gi pts (i : Int)).T ≤ (gi pts (j : Int)).T := by
  rcases (by omega : i < j ∨ i = j) with h1 | h1
  · exact Rat.le_of_lt (h.lt h1 hj)
  · subst h1; exact Rat.le_refl
theorem sgs_gi (pts : List SS) : ∀ m (i : Nat), i < m → gi (sgs pts m) (i : Int) = sgU pts i
  | 0, i, h => by omega
  | m + 1, i, h => by
    have hl := sgs_len pts m
    rw [gi_nat (by rw [sgs_len]; exact h)]
    simp only [sgs]
    rcases (by omega : i < m ∨ i = m) with h1 | h1
    · rw [List.getElem_append_left (by omega), ← gi_nat (by omega)]
      exact sgs_gi pts m i h1
    · subst h1
      rw [List.getElem_append_right (by omega)]
      simp [hl]
/-- The straight ways as plain units. -/
def sgW (pts : List SS) (m : Nat) : List UL := mpN toU (sgs pts m) (sgs pts m).length
theorem sgW_map (pts : List SS) (m : Nat) : sgW pts m = (sgs pts m).map toU := mpN_all _ _
theorem sgW_len (pts : List SS) (m : Nat) : (sgW pts m).length = m := by rw [sgW_map, List.length_map, sgs_len]
theorem sgW_get {pts : List SS} {m i : Nat} (h : i < m) : gi (sgW pts m) (i : Int) = toU (sgU pts i) := by
  rw [gi_nat (by rw [sgW_len]; exact h)]
  simp only [sgW_map, List.getElem_map]
  rw [← gi_nat (by rw [sgs_len]; exact h), sgs_gi pts m i h]
theorem sgW_mem {pts : List SS} {m : Nat} {u : UL} (h : u ∈ sgW pts m) : ∃ i, i < m ∧ u = toU (sgU pts i) := by
  rw [sgW_map] at h
  obtain ⟨x, hx, rfl⟩ := List.mem_map.1 h
  obtain ⟨i, h1, rfl⟩ := sgs_mem pts m hx
  exact ⟨i, h1, rfl⟩
theorem sgW_val {pts : List SS} (hB : Bnd pts) (hi : Inc pts) {m : Nat} (hm : m + 1 ≤ pts.length) : UVal (sgW pts m) := by
  refine ⟨sgs_in hB m, fun u hu => ?_⟩
  obtain ⟨i, h1, rfl⟩ := sgW_mem hu
  exact .inl (hi i (by omega))
theorem sgW_pw {pts : List SS} (hB : Bnd pts) (hi : Inc pts) {m : Nat} (hm : m + 1 ≤ pts.length) : ((sgW pts m).map absU).Pairwise GU.bfr := by
  have hv := sgW_val hB hi hm
  refine pw_of_next (fun u hu => ?_) (fun i h => ?_)
  · obtain ⟨x, hx, rfl⟩ := List.mem_map.1 hu
    exact hv.v x hx
  · rw [List.length_map, sgW_len] at h
    rw [List.getElem_map, List.getElem_map, ← gi_nat (by rw [sgW_len]; omega), ← gi_nat (by rw [sgW_len]; exact h), sgW_get (by omega), sgW_get h]
    refine .inr ⟨rfl, .inr ?_⟩
    show decide ((1 : Int) < ((i + 1 + 1 : Nat) : Int)) = true
    exact decide_eq_true (by omega)
theorem sgW_has {pts : List SS} (hi : Inc pts) {m i : Nat} (hm : m + 1 ≤ pts.length) (h : i < m) {t : Rat} (h1 : (gi pts (i : Int)).T ≤ t) (h2 : t ≤ (gi pts ((i + 1 : Nat) : Int)).T) : Has ((sgW pts m).map absU) t (pos (stl (gi pts (i : Int)) (gi pts ((i + 1 : Nat) : Int))) t) := by
  have hmem : ∀ j, j < m → absU (toU (sgU pts j)) ∈ (sgW pts m).map absU := fun j hj => by
    rw [← sgW_get hj]
    exact List.mem_map.2 ⟨_, gi_mem (by rw [sgW_len]; omega), rfl⟩
  by_cases hlt : (gi pts (i : Int)).T < t ∨ i = 0
  · refine ⟨_, hmem i h, ⟨?_, ?_⟩, rfl⟩
    · rcases hlt with h3 | h3
      · exact .inl h3
      · subst h3
        rcases Classical.em ((gi pts ((0 : Nat) : Int)).T < t) with h4 | h4
        · exact .inl h4
        · refine .inr ⟨?_, rfl⟩
          show (gi pts ((0 : Nat) : Int)).T = t
          grind
    · rcases Classical.em (t < (gi pts ((i + 1 : Nat) : Int)).T) with h4 | h4
      · exact .inl h4
      · refine .inr ⟨?_, rfl⟩
        show t = (gi pts ((i + 1 : Nat) : Int)).T
        grind
  · have ht : t = (gi pts (i : Int)).T := by grind
    have hi0 : i ≠ 0 := fun h0 => hlt (.inr h0)
    obtain ⟨k, rfl⟩ : ∃ k, i = k + 1 := ⟨i - 1, by omega⟩
    have h3 := hi k (by omega)
    have h4 := hi (k + 1) (by omega)
    refine ⟨_, hmem k (by omega), ⟨.inl ?_, .inr ⟨ht, rfl⟩⟩, ?_⟩
    · show (gi pts (k : Int)).T < t
      rw [ht]; exact h3
    · show pos (stl (gi pts (k : Int)) (gi pts ((k + 1 : Nat) : Int))) t = _
      rw [ht, stl_b h3, stl_a h4]
theorem toU_ofU (us : List UL) : mpN toU (mpN ofU us us.length) (mpN ofU us us.length).length = us := by
  rw [mpN_all, mpN_all, List.map_map]
  have : ∀ u ∈ us, (toU ∘ ofU) u = id u := fun u _ => rfl
  rw [List.map_congr_left this, List.map_id]
theorem mNorm_U (us : List PU) : mpN toU (mNorm us) (mNorm us).length = nrmR (mpN toU us us.length) := toU_ofU _
/-- The moving point through samples: no error, and what it says. -/
theorem frS_law {pts : List SS} (hB : Bnd pts) (hi : Inc pts) (h2 : 2 ≤ pts.length) : frE pts = 0 ∧ NF ((mpN toU (frS pts) (frS pts).length).map absU) ∧ (∀ u ∈ mpN toU (frS pts) (frS pts).length, UOk u) ∧ ∀ t v, Has ((mpN toU (frS pts) (frS pts).length).map absU) t v ↔ Has ((sgW pts (pts.length - 1)).map absU) t v := by
  have hv := sgW_val hB hi (m := pts.length - 1) (by omega)
  have hp := sgW_pw hB hi (m := pts.length - 1) (by omega)
  have hd : ((sgW pts (pts.length - 1)).map absU).Pairwise Dis := hp.imp fun h => h.Dis
  have e1 : frS pts = mNorm (sgs pts (pts.length - 1)) := by unfold frS; rw [if_neg (by omega)]
  have e2 : frE pts = nrmE (sgW pts (pts.length - 1)) := by unfold frE; rw [if_neg (by omega)]; rfl
  have e3 : mpN toU (frS pts) (frS pts).length = nrmR (sgW pts (pts.length - 1)) := by rw [e1, mNorm_U]; rfl
  obtain ⟨n1, n2⟩ := nrm_nf hv hd
  rw [e3]
  exact ⟨by rw [e2]; exact (nrmE_0 hv).2 hd, n1, nrmR_ok hv.i, n2⟩
theorem d2_self (p : R_api_Point) : d2 p p = 0 := by unfold d2; grind
theorem dv_nonneg (pts : List SS) (i j : Nat) : ∀ n, 0 ≤ dv pts i j n
  | 0 => Rat.le_refl
  | n + 1 => by
    rw [dv, Rat.max_def]
    have := dv_nonneg pts i j n
    split <;> grind
theorem dv_ge {pts : List SS} {i j : Nat} : ∀ n m : Nat, m < n → d2 (gi pts ((i : Int) + 1 + m)).P (pos (stl (gi pts (i : Int)) (gi pts (j : Int))) (gi pts ((i : Int) + 1 + m)).T) ≤ dv pts i j n
  | 0, m, h => by omega
  | n + 1, m, h => by
    rw [dv]
    rcases (by omega : m < n ∨ m = n) with h1 | h1
    · have := dv_ge (pts := pts) (i := i) (j := j) n m h1
      rw [Rat.max_def]
      split <;> grind
    · subst h1
      rw [Rat.max_def]
      split <;> grind
theorem sq0 (d : Rat) : 0 ≤ d * d := by
  rcases Std.le_total (a := (0 : Rat)) (b := d) with h | h
  · exact Rat.mul_nonneg h h
  · have : 0 ≤ (-d) * (-d) := Rat.mul_nonneg (by grind) (by grind)
    grind
theorem conv1 {l x0 x1 y0 y1 d : Rat} (h0 : 0 ≤ l) (h1 : l ≤ 1) (ha : x0 * x0 + y0 * y0 ≤ d) (hb : x1 * x1 + y1 * y1 ≤ d) :
    ((1 - l) * x0 + l * x1) * ((1 - l) * x0 + l * x1) + ((1 - l) * y0 + l * y1) * ((1 - l) * y0 + l * y1) ≤ d := by
  have e1 : 0 ≤ l * (1 - l) * ((x0 - x1) * (x0 - x1) + (y0 - y1) * (y0 - y1)) := Rat.mul_nonneg (Rat.mul_nonneg h0 (by grind)) (by have := sq0 (x0 - x1); have := sq0 (y0 - y1); grind)
  have e2 : 0 ≤ (1 - l) * (d - (x0 * x0 + y0 * y0)) := Rat.mul_nonneg (by grind) (by grind)
  have e3 : 0 ≤ l * (d - (x1 * x1 + y1 * y1)) := Rat.mul_nonneg h0 (by grind)
  grind
/-- On each straight way of a run, it is not farther from a longer one than at the breakpoints. -/
theorem dev_law {pts : List SS} (hi : Inc pts) {f g i : Nat} (hfg : f < g) (hg : g < pts.length) (h1 : f ≤ i) (h2 : i < g) {t : Rat} (ht1 : (gi pts (i : Int)).T ≤ t) (ht2 : t ≤ (gi pts ((i + 1 : Nat) : Int)).T) :
    d2 (pos (stl (gi pts (i : Int)) (gi pts ((i + 1 : Nat) : Int))) t) (pos (stl (gi pts (f : Int)) (gi pts (g : Int))) t) ≤ dv pts f g (g - f - 1) := by
  have hfl := hi.lt hfg hg
  have hil := hi i (by omega)
  have ends : ∀ j : Nat, f ≤ j → j ≤ g → d2 (gi pts (j : Int)).P (pos (stl (gi pts (f : Int)) (gi pts (g : Int))) (gi pts (j : Int)).T) ≤ dv pts f g (g - f - 1) := fun j h3 h4 => by
    rcases (by omega : j = f ∨ j = g ∨ (f < j ∧ j < g)) with h5 | h5 | ⟨h5, h6⟩
    · subst h5
      rw [stl_a hfl, d2_self]
      exact dv_nonneg _ _ _ _
    · subst h5
      rw [stl_b hfl, d2_self]
      exact dv_nonneg _ _ _ _
    · have h7 := dv_ge (pts := pts) (i := f) (j := g) (g - f - 1) (j - f - 1) (by omega)
      rw [show (f : Int) + 1 + ((j - f - 1 : Nat) : Int) = (j : Int) by omega] at h7
      exact h7
  have ha := ends i h1 (by omega)
  have hb := ends (i + 1) (by omega) (by omega)
  have hD : ¬ (gi pts ((i + 1 : Nat) : Int)).T - (gi pts (i : Int)).T = 0 := by grind
  obtain ⟨l, hl⟩ : ∃ l, l = (t - (gi pts (i : Int)).T) / ((gi pts ((i + 1 : Nat) : Int)).T - (gi pts (i : Int)).T) := ⟨_, rfl⟩
  have hlt : t = (gi pts (i : Int)).T + l * ((gi pts ((i + 1 : Nat) : Int)).T - (gi pts (i : Int)).T) := by rw [hl]; grind
  have hpos : 0 < (gi pts ((i + 1 : Nat) : Int)).T - (gi pts (i : Int)).T := by grind
  have hl0 : 0 ≤ l := by
    rcases Classical.em (0 ≤ l) with h3 | h3
    · exact h3
    · exfalso
      have : 0 < (-l) * ((gi pts ((i + 1 : Nat) : Int)).T - (gi pts (i : Int)).T) := Rat.mul_pos (by grind) hpos
      grind
  have hl1 : l ≤ 1 := by
    rcases Classical.em (l ≤ 1) with h3 | h3
    · exact h3
    · exfalso
      have : 0 < (l - 1) * ((gi pts ((i + 1 : Nat) : Int)).T - (gi pts (i : Int)).T) := Rat.mul_pos (by grind) hpos
      grind
  rw [stl_pos hil, ← hl]
  generalize gi pts (i : Int) = a at *
  generalize gi pts ((i + 1 : Nat) : Int) = b at *
  generalize stl (gi pts (f : Int)) (gi pts (g : Int)) = L at *
  have hc := conv1 hl0 hl1 ha hb
  unfold d2 pos at *
  simp only at hc ⊢
  subst hlt
  have ex : a.P.X + (b.P.X - a.P.X) * l - (L.X0 + (a.T + l * (b.T - a.T)) * (L.X1 + (a.T + l * (b.T - a.T)) * 0)) = (1 - l) * (a.P.X - (L.X0 + a.T * (L.X1 + a.T * 0))) + l * (b.P.X - (L.X0 + b.T * (L.X1 + b.T * 0))) := by grind
  have ey : a.P.Y + (b.P.Y - a.P.Y) * l - (L.Y0 + (a.T + l * (b.T - a.T)) * (L.Y1 + (a.T + l * (b.T - a.T)) * 0)) = (1 - l) * (a.P.Y - (L.Y0 + a.T * (L.Y1 + a.T * 0))) + l * (b.P.Y - (L.Y0 + b.T * (L.Y1 + b.T * 0))) := by grind
  rw [ex, ey]
  exact hc
/-- The straight way at an instant between two breakpoints. -/
theorem way_at {pts : List SS} (hi : Inc pts) {f g : Nat} (hfg : f < g) (hg : g < pts.length) {t : Rat} (h1 : (gi pts (f : Int)).T ≤ t) (h2 : t ≤ (gi pts (g : Int)).T) : ∃ i, f ≤ i ∧ i < g ∧ (gi pts (i : Int)).T ≤ t ∧ t ≤ (gi pts ((i + 1 : Nat) : Int)).T := by
  have key : ∀ d, f + d + 1 ≤ g → t ≤ (gi pts ((f + d + 1 : Nat) : Int)).T → ∃ i, f ≤ i ∧ i < g ∧ (gi pts (i : Int)).T ≤ t ∧ t ≤ (gi pts ((i + 1 : Nat) : Int)).T := fun d => by
    induction d with
    | zero => exact fun h3 h4 => ⟨f, Nat.le_refl _, hfg, h1, h4⟩
    | succ d ih =>
      intro h3 h4
      by_cases h5 : t ≤ (gi pts ((f + d + 1 : Nat) : Int)).T
      · exact ih (by omega) h5
      · exact ⟨f + d + 1, by omega, by omega, by grind, h4⟩
  exact key (g - f - 1) (by omega) (by rw [show f + (g - f - 1) + 1 = g by omega]; exact h2)
end Go.Vt
/- What the part of a value during a period says: plain. Conditions: those that each statement names. -/
set_option linter.unusedSimpArgs false
set_option linter.unusedVariables false
set_option maxHeartbeats 2000000
set_option maxRecDepth 100000
namespace Go.Vt
open Go.RowKit Go.Proofs
open Fv (va red)
def memI (I : R_api_Interval) (t : Rat) : Prop := (I.From.P < t ∨ (I.From.P = t ∧ I.OpenFrom = false)) ∧ (t < I.To.P ∨ (t = I.To.P ∧ I.OpenTo = false))
def okI (I : R_api_Interval) : Prop := I.From.P < I.To.P ∨ (I.From.P = I.To.P ∧ I.OpenFrom = false ∧ I.OpenTo = false)
theorem memI_ok {I : R_api_Interval} {t : Rat} (h : memI I t) : okI I := by
  unfold memI okI at *
  grind
theorem mt_mem {a b : R_api_Interval} {t : Rat} : memI (mt a b) t ↔ memI a t ∧ memI b t := by
  unfold memI mt mtF mtT
  split <;> split <;> (try split) <;> (try split) <;> simp only [Bool.or_eq_false_iff] <;> grind
theorem mtO_iff {a b : R_api_Interval} : mtO a b = true ↔ okI (mt a b) := by
  unfold mtO okI
  simp
theorem has_map {us : List UL} {t : Rat} {v : R_api_Point} : Has (us.map absU) t v ↔ ∃ u ∈ us, memI u.In t ∧ pos u.F t = v := by
  unfold Has
  constructor
  · rintro ⟨x, hx, h1, h2⟩
    obtain ⟨u, hu, rfl⟩ := List.mem_map.1 hx
    exact ⟨u, hu, h1, h2⟩
  · rintro ⟨u, hu, h1, h2⟩
    exact ⟨_, List.mem_map.2 ⟨u, hu, rfl⟩, h1, h2⟩
theorem ri_mem {u x : UL} {ds : List R_api_Interval} : ∀ {k : Nat}, k ≤ ds.length → (x ∈ ri u ds k ↔ ∃ j : Nat, j < k ∧ mtO u.In (gi ds (j : Int)) = true ∧ x = ⟨mt u.In (gi ds (j : Int)), u.F⟩)
  | 0, _ => by simp [ri]
  | k + 1, hk => by
    rw [ri, List.mem_append, ri_mem (by omega)]
    constructor
    · rintro (⟨j, h1, h2⟩ | h1)
      · exact ⟨j, by omega, h2⟩
      · split at h1
        · rename_i hm
          rw [List.mem_singleton] at h1
          exact ⟨k, by omega, hm, h1⟩
        · cases h1
    · rintro ⟨j, h1, h2, h3⟩
      rcases (by omega : j < k ∨ j = k) with h4 | h4
      · exact .inl ⟨j, h4, h2, h3⟩
      · subst h4
        rw [if_pos h2]
        exact .inr (by simp [h3])
theorem ro_mem {us : List UL} {x : UL} {ds : List R_api_Interval} : ∀ {m : Nat}, m ≤ us.length → (x ∈ ro us ds m ↔ ∃ i : Nat, i < m ∧ x ∈ ri (gi us (i : Int)) ds ds.length)
  | 0, _ => by simp [ro]
  | m + 1, hm => by
    rw [ro, List.mem_append, ro_mem (by omega)]
    constructor
    · rintro (⟨i, h1, h2⟩ | h1)
      · exact ⟨i, by omega, h2⟩
      · exact ⟨m, by omega, h1⟩
    · rintro ⟨i, h1, h2⟩
      rcases (by omega : i < m ∨ i = m) with h4 | h4
      · exact .inl ⟨i, h4, h2⟩
      · subst h4; exact .inr h2
/-- The parts: each is of a unit and an interval. -/
theorem ro_iff {us : List UL} {x : UL} {ds : List R_api_Interval} : x ∈ ro us ds us.length ↔ ∃ u ∈ us, ∃ d ∈ ds, mtO u.In d = true ∧ x = ⟨mt u.In d, u.F⟩ := by
  rw [ro_mem (Nat.le_refl _)]
  constructor
  · rintro ⟨i, h1, h2⟩
    obtain ⟨j, h3, h4, h5⟩ := (ri_mem (Nat.le_refl _)).1 h2
    exact ⟨_, gi_mem (by omega), _, gi_mem (by omega), h4, h5⟩
  · rintro ⟨u, hu, d, hd, h1, h2⟩
    obtain ⟨i, hi, rfl⟩ := List.getElem_of_mem hu
    obtain ⟨j, hj, rfl⟩ := List.getElem_of_mem hd
    exact ⟨i, hi, (ri_mem (Nat.le_refl _)).2 ⟨j, hj, by rw [gi_nat hi, gi_nat hj]; exact h1, by rw [gi_nat hi, gi_nat hj]; exact h2⟩⟩
theorem ro_has {us : List UL} {ds : List R_api_Interval} {t : Rat} {v : R_api_Point} : Has ((ro us ds us.length).map absU) t v ↔ Has (us.map absU) t v ∧ ∃ d ∈ ds, memI d t := by
  rw [has_map, has_map]
  constructor
  · rintro ⟨x, hx, h1, h2⟩
    obtain ⟨u, hu, d, hd, h3, rfl⟩ := ro_iff.1 hx
    have h4 := mt_mem.1 h1
    exact ⟨⟨u, hu, h4.1, h2⟩, d, hd, h4.2⟩
  · rintro ⟨⟨u, hu, h1, h2⟩, d, hd, h3⟩
    have h4 := mt_mem.2 ⟨h1, h3⟩
    exact ⟨_, ro_iff.2 ⟨u, hu, d, hd, mtO_iff.2 (memI_ok h4), rfl⟩, h4, h2⟩
theorem ro_ok {us : List UL} {ds : List R_api_Interval} : ∀ u ∈ ro us ds us.length, (absU u).ok := fun x hx => by
  obtain ⟨u, hu, d, hd, h3, rfl⟩ := ro_iff.1 hx
  exact mtO_iff.1 h3
def DisI (a b : R_api_Interval) : Prop := ∀ t, ¬ (memI a t ∧ memI b t)
theorem ri_pw {u : UL} {ds : List R_api_Interval} (hd : ds.Pairwise DisI) : ∀ k, k ≤ ds.length → ((ri u ds k).map absU).Pairwise Dis
  | 0, _ => by simp [ri]
  | k + 1, hk => by
    rw [ri, List.map_append]
    refine List.pairwise_append.2 ⟨ri_pw hd k (by omega), ?_, fun x hx y hy => ?_⟩
    · split <;> simp
    · split at hy
      · simp only [List.map_cons, List.map_nil, List.mem_singleton] at hy
        subst hy
        obtain ⟨x', hx', rfl⟩ := List.mem_map.1 hx
        obtain ⟨j, h1, h2, rfl⟩ := (ri_mem (by omega)).1 hx'
        rintro t ⟨h3, h4⟩
        have h5 := List.pairwise_iff_getElem.1 hd j k (by omega) (by omega) h1
        exact h5 t ⟨by rw [← gi_nat (by omega)]; exact (mt_mem.1 h3).2, by rw [← gi_nat (by omega)]; exact (mt_mem.1 h4).2⟩
      · cases hy
theorem ro_pw {us : List UL} {ds : List R_api_Interval} (hu : (us.map absU).Pairwise Dis) (hd : ds.Pairwise DisI) : ∀ m, m ≤ us.length → ((ro us ds m).map absU).Pairwise Dis
  | 0, _ => by simp [ro]
  | m + 1, hm => by
    rw [ro, List.map_append]
    refine List.pairwise_append.2 ⟨ro_pw hu hd m (by omega), ri_pw hd _ (Nat.le_refl _), fun x hx y hy => ?_⟩
    obtain ⟨x', hx', rfl⟩ := List.mem_map.1 hx
    obtain ⟨y', hy', rfl⟩ := List.mem_map.1 hy
    obtain ⟨i, h1, h2⟩ := (ro_mem (by omega)).1 hx'
    obtain ⟨j, h3, h4, rfl⟩ := (ri_mem (Nat.le_refl _)).1 h2
    obtain ⟨j', h5, h6, rfl⟩ := (ri_mem (Nat.le_refl _)).1 hy'
    rintro t ⟨h7, h8⟩
    have h9 := List.pairwise_iff_getElem.1 hu i m (by rw [List.length_map]; omega) (by rw [List.length_map]; omega) h1
    rw [List.getElem_map, List.getElem_map, ← gi_nat (by omega), ← gi_nat (by omega)] at h9
    exact h9 t ⟨(mt_mem.1 h7).1, (mt_mem.1 h8).1⟩
structure UK (K : Nat) (u : UL) : Prop where
  i : IvOk K u.In
  f : LnOk K u.F
theorem UK.mono {K K' : Nat} {u : UL} (h : UK K u) (hk : K ≤ K') : UK K' u := ⟨h.i.mono hk, h.f.mono hk⟩
theorem UK.uin {K : Nat} {u : UL} (h : UK K u) (hk : K ≤ KN) : UIn u := ⟨h.i.mono hk, h.f.mono hk⟩
theorem lred_K {K : Nat} {f : R_api_Line} {t : Rat} (h : LnOk K f) (ht : M t ≤ K) : LnOk (4 * K + 4) (lred f t) := by
  have one : ∀ a b : Rat, M a ≤ K → M b ≤ K → M (a + t * (b + t * 0)) ≤ 4 * K + 4 := fun a b ha hb => by
    have h1 := M_add a (t * (b + t * 0))
    have h2 := M_mul t (b + t * 0)
    have h3 := M_add b (t * 0)
    have h4 := M_mul t 0
    have h5 : M 0 = 1 := by decide
    omega
  have h0 : M 0 ≤ 4 * K + 4 := by
    have h5 : M 0 = 1 := by decide
    omega
  exact ⟨one _ _ h.x0 h.x1, h0, one _ _ h.y0 h.y1, h0⟩
theorem nstp_K {K : Nat} {l : List UL} {i : Nat} {xs : List UL} {x : UL} (h : ∀ v ∈ xs, UK (4 * K + 4) v) (hx : UK K x) : ∀ v ∈ nstp l i xs x, UK (4 * K + 4) v := by
  have hx' := hx.mono (show K ≤ 4 * K + 4 by omega)
  have trn : ∀ {u : UL}, UK (4 * K + 4) u → ∀ v ∈ turn xs u, UK (4 * K + 4) v := fun hu v hv => by
    rcases List.mem_or_eq_of_mem_set hv with h1 | h1
    · exact h v h1
    · rw [h1]; exact hu
  unfold nstp
  split
  · split
    · rename_i hc
      have h0 : 0 < xs.length := by
        unfold cA at hc
        simp only [Bool.and_eq_true] at hc
        exact bef_len hc.1
      have hl := h _ (gi_mem (i := (xs.length : Int) - 1) (xs := xs) (by omega))
      exact trn ⟨⟨hl.i.r1, hx'.i.r2, hl.i.n1, hx'.i.n2, hl.i.m1, hx'.i.m2⟩, hl.f⟩
    · intro v hv
      rcases List.mem_append.1 hv with h1 | h1
      · exact h v h1
      · rw [List.mem_singleton] at h1
        subst h1
        split
        · exact ⟨hx'.i.at _ _, hx'.f⟩
        · exact hx'
  · split
    · rename_i hc
      have h0 : 0 < xs.length := by
        unfold cC at hc
        simp only [Bool.and_eq_true] at hc
        exact bef_len hc.1
      have hl := h _ (gi_mem (i := (xs.length : Int) - 1) (xs := xs) (by omega))
      exact trn ⟨hl.i.at _ _, hl.f⟩
    · split
      · exact h
      · intro v hv
        rcases List.mem_append.1 hv with h1 | h1
        · exact h v h1
        · rw [List.mem_singleton] at h1
          subst h1
          exact ⟨hx'.i, lred_K hx.f hx.i.m1⟩
theorem nrm_K {K : Nat} {l : List UL} (h : ∀ u ∈ l, UK K u) : ∀ m, m ≤ l.length → ∀ v ∈ nrm l m, UK (4 * K + 4) v
  | 0, _ => fun v hv => by cases hv
  | m + 1, hm => nstp_K (nrm_K h m (by omega)) (h _ (gi_mem (by omega)))
theorem atU_K {K : Nat} {u v : UL} (h : UK K u) (hv : v ∈ atU u) : UK K v := by
  unfold atU at hv
  rcases List.mem_append.1 hv with h1 | h1
  · split at h1
    · cases h1
    · rw [List.mem_singleton] at h1
      subst h1
      exact ⟨⟨h.i.r1, h.i.r1, h.i.n1, h.i.n1, h.i.m1, h.i.m1⟩, h.f⟩
  · split at h1
    · cases h1
    · rcases List.mem_cons.1 h1 with h2 | h2
      · subst h2
        exact ⟨h.i.at _ _, h.f⟩
      · split at h2
        · cases h2
        · rw [List.mem_singleton] at h2
          subst h2
          exact ⟨⟨h.i.r2, h.i.r2, h.i.n2, h.i.n2, h.i.m2, h.i.m2⟩, h.f⟩
theorem atm_K {K : Nat} {us : List UL} (h : ∀ u ∈ us, UK K u) : ∀ m, m ≤ us.length → ∀ v ∈ atm us m, UK K v
  | 0, _, v, hv => by cases hv
  | m + 1, hm, v, hv => by
    rw [atm] at hv
    rcases List.mem_append.1 hv with h1 | h1
    · exact atm_K h m (by omega) v h1
    · exact atU_K (h _ (gi_mem (by omega))) h1
theorem nrmR_K {K : Nat} {us : List UL} (h : ∀ u ∈ us, UK K u) : ∀ v ∈ nrmR us, UK (4 * K + 4) v := by
  unfold nrmR
  split
  · exact nrm_K (atm_K (fun u hu => h u (sor_mem hu)) _ (Nat.le_refl _)) _ (Nat.le_refl _)
  · intro v hv
    cases hv
theorem ro_K {K : Nat} {us : List UL} {ds : List R_api_Interval} (h : ∀ u ∈ us, UK K u) (hd : ∀ d ∈ ds, IvOk K d) : ∀ u ∈ ro us ds us.length, UK K u := fun x hx => by
  obtain ⟨u, hu, d, hd', h3, rfl⟩ := ro_iff.1 hx
  exact ⟨mt_ok (h u hu).i (hd d hd'), (h u hu).f⟩
end Go.Vt
/- The part of a moving point during a period; equal moving points: walked. Conditions: those that each statement names. -/
set_option linter.unusedSimpArgs false
set_option linter.unusedVariables false
set_option maxHeartbeats 2000000
set_option maxRecDepth 100000
namespace Go.Vt
open Go.RowKit Go.Proofs
instance sr_restrict (w0 : World) (L : List Blk) (v v2 : Value) (us : List UL) (ds : List R_api_Interval) [h : LstC w0 L v UL rU us] [h2 : LstC w0 L v2 R_api_Interval rI ds] : SpecR Tryz.prog w0 L 113 [vLines, v, v2] (SlS rU 36 (nrmR (ro us ds us.length))) (fun s => vSl s) (fun s => mS 163 s) ((us.length ≤ 1024 ∧ ds.length ≤ 1024 ∧ (ro us ds us.length).length ≤ 19) ∧ (∀ u ∈ us, IvOk BQ u.In) ∧ (∀ d ∈ ds, IvOk BQ d) ∧ ∀ u ∈ ro us ds us.length, UIn u) := ⟨fun hp w hw =>
  restrict_spec v v2 us ds w (h.out w hw) (h2.out w hw) hp.1.1 hp.1.2.1 hp.1.2.2 hp.2.1 hp.2.2.1 hp.2.2.2⟩
/-- The units of a moving point, restricted. -/
def mRes (us : List PU) (ds : List R_api_Interval) : List UL := ro (mpN toU us us.length) ds (mpN toU us us.length).length
structure ResOk (us : List PU) (ds : List R_api_Interval) : Prop where
  l1 : us.length ≤ 1024
  l2 : ds.length ≤ 1024
  l3 : (mRes us ds).length ≤ 19
  o1 : ∀ u ∈ mpN toU us us.length, IvOk BQ u.In
  o2 : ∀ d ∈ ds, IvOk BQ d
  o3 : ∀ u ∈ mRes us ds, UIn u
theorem mrestrict_spec (v v2 : Value) (us : List PU) (ds : List R_api_Interval) (w : World) (hv : ArgS w v rP us) (hd : ArgS w v2 rI ds) (hok : ResOk us ds) :
    Calls Tryz.prog 71 [v, v2].toArray w (RetM (SlS rP 36 (mpN ofU (nrmR (mRes us ds)) (nrmR (mRes us ds)).length)) (fun s => vSl s) (fun s => mS 68 s) w) := by
  have := ArgC.mk hv
  have := ArgC.mk hd
  have hml := mpN_len toU us us.length
  have hnl := nrmR_len (mRes us ds)
  have h3 := hok.l3
  have h1 := hok.l1
  refine fn_intro Tryz.func71 rfl Tryz.ntmps71 rfl ?_
  repeat (first | (refine wkB ?_; try intro _) | (refine sC rfl rfl ?_ ?_; focus (first | omega | exact (show (nrmR (mRes us ds)).length ≤ 1048576 by omega) | exact ⟨⟨by omega, hok.l2, hok.l3⟩, hok.o1, hok.o2, hok.o3⟩)) | (refine sN rfl rfl ?_ ?_; (focus (first | omega | exact (show (nrmR (mRes us ds)).length ≤ 1048576 by omega) | exact ⟨⟨by omega, hok.l2, hok.l3⟩, hok.o1, hok.o2, hok.o3⟩)); intro _; (try simp only [List.cons_append, List.nil_append, List.append_nil])))
  rename_i s1 s2 s3
  exact jx_ret_tmp rfl rfl (fun w hw => ⟨s3, rfl, hw.sub suB⟩)
instance sr_mrestrict (w0 : World) (L : List Blk) (v v2 : Value) (us : List PU) (ds : List R_api_Interval) [h : LstC w0 L v PU rP us] [h2 : LstC w0 L v2 R_api_Interval rI ds] : SpecR Tryz.prog w0 L 71 [v, v2] (SlS rP 36 (mpN ofU (nrmR (mRes us ds)) (nrmR (mRes us ds)).length)) (fun s => vSl s) (fun s => mS 68 s) (ResOk us ds) := ⟨fun hp w hw => mrestrict_spec v v2 us ds w (h.out w hw) (h2.out w hw) hp⟩
end Go.Vt
/- The moving point that runs make up, walked. Conditions: those that each statement names. -/
set_option linter.unusedSimpArgs false
set_option linter.unusedVariables false
set_option maxHeartbeats 2000000
set_option maxRecDepth 100000
namespace Go.Vt
open Go.RowKit Go.Proofs
/-- A run, and where its breakpoints lie. -/
structure RD where
  I : R_api_Interval
  b : Nat
  c : Nat
  pts : List SS
  sp : List Value
instance : Inhabited RD := ⟨⟨zR_api_Interval, 0, 0, [], []⟩⟩
abbrev rR := r_simplify_Run
def RD.hd (r : RD) : R_simplify_Run := ⟨r.I, ⟨some ⟨r.b, 0, none⟩, r.pts.length, r.c⟩⟩
theorem gi_map {α β : Type} [Inhabited α] [Inhabited β] {f : α → β} {xs : List α} {i : Nat} (h : i < xs.length) : gi (xs.map f) (i : Int) = f (gi xs (i : Int)) := by
  rw [gi_nat (by rw [List.length_map]; exact h), gi_nat h, List.getElem_map]
/-- The unit behind a breakpoint of a run. -/
def bsU (I : R_api_Interval) (pts : List SS) (i : Nat) : PU := ⟨⟨⟨(gi pts (i : Int)).T, 0, false⟩, ⟨(gi pts ((i + 1 : Nat) : Int)).T, 0, false⟩, if i = 0 then I.OpenFrom else true, if i + 2 = pts.length then I.OpenTo else false⟩, stl (gi pts (i : Int)) (gi pts ((i + 1 : Nat) : Int))⟩
def bs (I : R_api_Interval) (pts : List SS) : Nat → List PU
  | 0 => []
  | m + 1 => bs I pts m ++ [bsU I pts m]
def b1 (I : R_api_Interval) (pts : List SS) : List PU := if pts.length = 1 then [⟨I, ⟨(gi pts 0).P.X, 0, (gi pts 0).P.Y, 0⟩⟩] else bs I pts (pts.length - 1)
def bA (rs : List RD) : Nat → List PU
  | 0 => []
  | m + 1 => bA rs m ++ b1 (gi rs (m : Int)).I (gi rs (m : Int)).pts
theorem bs_len (I : R_api_Interval) (pts : List SS) : ∀ m, (bs I pts m).length = m
  | 0 => rfl
  | m + 1 => by rw [bs, List.length_append, bs_len I pts m]; rfl
theorem b1_len (I : R_api_Interval) (pts : List SS) : (b1 I pts).length ≤ pts.length := by
  unfold b1
  split
  · simp; omega
  · rw [bs_len]; omega
/-- The runs are short, their breakpoints lie in memory. -/
structure RdOk (w : World) (r : RD) : Prop where
  len : r.pts.length ≤ 1024
  bnd : Bnd r.pts
  mem : ∃ T fz, w.heap[r.b]? = some (.cells (row rS r.pts r.sp) T fz)
theorem bA_len {w : World} {rs : List RD} (h : ∀ r ∈ rs, RdOk w r) : ∀ m, m ≤ rs.length → (bA rs m).length ≤ m * 1024
  | 0, _ => by simp [bA]
  | m + 1, hm => by
    have h1 := bA_len h m (by omega)
    have h2 := (h _ (gi_mem (i := (m : Int)) (xs := rs) (by omega))).len
    have h3 := b1_len (gi rs (m : Int)).I (gi rs (m : Int)).pts
    rw [bA, List.length_append]
    omega
set_option maxHeartbeats 2000000 in
theorem build_spec (v : Value) (rs : List RD) (w : World) (hv : ArgS w v rR (rs.map RD.hd)) (hl : rs.length ≤ 64) (hr : ∀ r ∈ rs, RdOk w r) (h19 : (bA rs rs.length).length ≤ 19) (hin : ∀ u ∈ mpN toU (bA rs rs.length) (bA rs rs.length).length, UIn u) :
    Calls Tryz.prog 24 [v].toArray w (RetM (SlS rP 36 (mNorm (bA rs rs.length))) (fun s => .tuple #[vSl s, .int .i64 (nrmE (mpN toU (bA rs rs.length) (bA rs rs.length).length))]) (fun s => mS 68 s) w) := by
  refine fn_intro Tryz.func24 rfl Tryz.ntmps24 rfl ?_
  obtain ⟨p, cp, rfl⟩ := hv.form
  have hml : (rs.map RD.hd).length = rs.length := List.length_map _
  rw [hml]
  repeat (refine wkB ?_; try intro _)
  refine j_loop (S := (m : Nat) × SlS rP 36 (bA rs m)) (fun s => s.1 ≤ rs.length) (fun s => [(4, vSl s.2), (11, .slice p rs.length cp), (12, .int .i64 rs.length), (13, .int .i64 (s.1 : Nat))]) (fun s => mS 68 s.2) (fun s => rs.length - s.1) ⟨0, SlS.no⟩ (Nat.zero_le _) sbB slB (fun s hm => ?_)
  obtain ⟨m, s⟩ := s
  simp only at hm ⊢
  repeat (refine wkB ?_; try intro _)
  refine j_cond rfl (fun h => ?_) (fun h => ?_)
  · have hlt : m < rs.length := by have := of_decide_eq_true h; omega
    have hne : rs.map RD.hd ≠ [] := fun h0 => by rw [h0] at hml; simp at hml; omega
    obtain ⟨bw, ow, cw, hvw, hcw, hrow⟩ := hv.blk (k := 20) hne []
    injection hvw with e1 e2 e3
    subst e1
    subst e3
    have hrow' : ∀ L, RowC w L bw ow R_simplify_Run rR (rs.map RD.hd) := fun L => ⟨fun w' hw' => hrow.out w' (hw'.sub (List.nil_sublist _))⟩
    have hbl := bA_len hr m (by omega)
    have hrm := hr _ (gi_mem (i := (m : Int)) (xs := rs) (by omega))
    have hgm := gi_map (f := RD.hd) hlt
    have hbA : bA rs (m + 1) = bA rs m ++ b1 (gi rs (m : Int)).I (gi rs (m : Int)).pts := rfl
    repeat (refine wkB ?_; try intro _)
    simp only [hgm]
    generalize gi rs (m : Int) = r at *
    obtain ⟨I, b, c, pts, sp⟩ := r
    obtain ⟨rl, rb, T, rmem⟩ := hrm
    simp only at rl rb rmem hbA
    have := FoC.mk rmem
    dsimp only [RD.hd]
    rename_i b6
    have hb1 : b1 I pts = (if pts.length = 1 then [⟨I, ⟨(gi pts 0).P.X, 0, (gi pts 0).P.Y, 0⟩⟩] else []) ++ bs I pts (pts.length - 1) := by
      unfold b1
      split
      · rename_i h1
        rw [h1]
        rfl
      · rfl
    refine j_permL (mS 68 s ++ [⟨b6, cRun I b pts.length c, 35⟩]) (List.perm_append_singleton _ _).symm ?_
    have hgA : (pts.length : Int) = 1 ↔ pts.length = 1 := by omega
    refine j_cut (S := (xs : List PU) × SlS rP 36 xs) (fun s' => s'.1 = bA rs m ++ (if pts.length = 1 then [⟨I, ⟨(gi pts 0).P.X, 0, (gi pts 0).P.Y, 0⟩⟩] else [])) (fun s' => [(4, vSl s'.2), (6, .pointer (some ⟨b6, 0, none⟩)), (11, .slice (some ⟨bw, ow, none⟩) rs.length cp), (12, .int .i64 rs.length), (13, .int .i64 (m : Nat))]) (fun s' => mS 68 s'.2 ++ [⟨b6, cRun I b pts.length c, 35⟩]) ?_ (fun s' hs' => ?_)
    · refine j_cond rfl (fun h1 => ?_) (fun h1 => ?_)
      · have h1' : pts.length = 1 := by have := of_decide_eq_true h1; omega
        repeat (refine wkB ?_; try intro _)
        refine sU rfl rfl ?_ ?_ ?_ ?_
        · rfl
        · rfl
        · exact ⟨by decide, by omega, by omega⟩
        intro s'
        repeat (refine wkB ?_; try intro _)
        exact jx_mid ⟨_, s'⟩ (by rw [if_pos h1']) sbB suB
      · have h1' : ¬ pts.length = 1 := by have := of_decide_eq_false h1; omega
        refine j_skip ?_
        exact jx_mid ⟨bA rs m, s⟩ (by rw [if_neg h1', List.append_nil]) sbB suB
    · obtain ⟨xs, s1⟩ := s'
      simp only at hs' ⊢
      have hxl : xs.length ≤ (bA rs m).length + 1 := by
        rw [hs', List.length_append]
        split <;> simp
      repeat (refine wkB ?_; try intro _)
      refine j_loop (S := (ys : List PU) × Nat × SlS rP 36 ys) (fun t => t.1 = xs ++ bs I pts t.2.1 ∧ t.2.1 ≤ pts.length - 1) (fun t => [(4, vSl t.2.2), (6, .pointer (some ⟨b6, 0, none⟩)), (8, .int .i64 ((pts.length : Int) - 1)), (9, .int .i64 ((t.2.1 : Int) + 1)), (11, .slice (some ⟨bw, ow, none⟩) rs.length cp), (12, .int .i64 rs.length), (13, .int .i64 (m : Nat))]) (fun t => mS 68 t.2.2 ++ [⟨b6, cRun I b pts.length c, 35⟩]) (fun t => pts.length - 1 - t.2.1) ⟨xs, 0, s1⟩ ⟨by rw [bs, List.append_nil], Nat.zero_le _⟩ sbB suB (fun t ht => ?_)
      obtain ⟨ys, i, s2⟩ := t
      simp only at ht ⊢
      obtain ⟨hys, hi⟩ := ht
      have hyl : ys.length ≤ (bA rs m).length + 1 + i := by
        rw [hys, List.length_append, bs_len]
        omega
      repeat (refine wkB ?_; try intro _)
      refine j_cond rfl (fun h2 => ?_) (fun h2 => ?_)
      · have hi2 : i + 1 < pts.length := by have := of_decide_eq_true h2; omega
        repeat (refine wkB ?_; try intro _)
        (refine jD 16 17 (h := ?_); (repeat (refine wkH ?_)); refine jh_nil ?_; (repeat (refine wn_new ?_; intro _)); refine jn_nil ?_)
        repeat (refine wkB ?_; try intro _)
        rename_i b10
        have e1 : (i : Int) + 1 - 1 = i := by omega
        have e2 : (i : Int) + 1 = ((i + 1 : Nat) : Int) := by omega
        simp only [e1]
        refine j_cut (S := Bool) (fun o => o = if i = 0 then I.OpenFrom else true) (fun _ => [(4, vSl s2), (6, .pointer (some ⟨b6, 0, none⟩)), (8, .int .i64 ((pts.length : Int) - 1)), (9, .int .i64 ((i : Int) + 1)), (10, .pointer (some ⟨b10, 0, none⟩)), (11, .slice (some ⟨bw, ow, none⟩) rs.length cp), (12, .int .i64 rs.length), (13, .int .i64 (m : Nat))]) (fun o => ⟨b10, e_api_Interval (q_api_Interval ⟨⟨(gi pts (i : Int)).T, 0, false⟩, ⟨(gi pts ((i : Int) + 1)).T, 0, false⟩, o, false⟩), 32⟩ :: (mS 68 s2 ++ [⟨b6, cRun I b pts.length c, 35⟩])) ?_ (fun o ho => ?_)
        · refine j_cond rfl (fun h3 => ?_) (fun h3 => ?_)
          · have h3' : i = 0 := by have := of_decide_eq_true h3; omega
            repeat (refine wkB ?_; try intro _)
            exact jx_mid I.OpenFrom (by rw [if_pos h3']) sbB suB
          · have h3' : ¬ i = 0 := by have := of_decide_eq_false h3; omega
            refine j_skip ?_
            exact jx_mid true (by rw [if_neg h3']) sbB suB
        · repeat (refine wkB ?_; try intro _)
          refine j_cut (S := Bool) (fun o' => o' = if i + 2 = pts.length then I.OpenTo else false) (fun _ => [(4, vSl s2), (6, .pointer (some ⟨b6, 0, none⟩)), (8, .int .i64 ((pts.length : Int) - 1)), (9, .int .i64 ((i : Int) + 1)), (10, .pointer (some ⟨b10, 0, none⟩)), (11, .slice (some ⟨bw, ow, none⟩) rs.length cp), (12, .int .i64 rs.length), (13, .int .i64 (m : Nat))]) (fun o' => ⟨b10, e_api_Interval (q_api_Interval ⟨⟨(gi pts (i : Int)).T, 0, false⟩, ⟨(gi pts ((i : Int) + 1)).T, 0, false⟩, o, o'⟩), 32⟩ :: (mS 68 s2 ++ [⟨b6, cRun I b pts.length c, 35⟩])) ?_ (fun o' ho' => ?_)
          · refine j_cond rfl (fun h4 => ?_) (fun h4 => ?_)
            · have h4' : i + 2 = pts.length := by have := of_decide_eq_true h4; omega
              repeat (refine wkB ?_; try intro _)
              exact jx_mid I.OpenTo (by rw [if_pos h4']) sbB suB
            · have h4' : ¬ i + 2 = pts.length := by have := of_decide_eq_false h4; omega
              refine j_skip ?_
              exact jx_mid false (by rw [if_neg h4']) sbB suB
          · have hp : ∀ i : Int, M (gi pts i).T ≤ 34359738368 ∧ M (gi pts i).P.X ≤ 34359738368 ∧ M (gi pts i).P.Y ≤ 34359738368 := fun i => ⟨Nat.le_trans (rb i).1 (by decide), Nat.le_trans (rb i).2.1 (by decide), Nat.le_trans (rb i).2.2 (by decide)⟩
            have hu : bsU I pts i = ⟨⟨⟨(gi pts (i : Int)).T, 0, false⟩, ⟨(gi pts ((i : Int) + 1)).T, 0, false⟩, o, o'⟩, stl (gi pts (i : Int)) (gi pts ((i : Int) + 1))⟩ := by
              rw [ho, ho', e2]
              rfl
            (refine j_tree (.v [0, 1, 2, 3, 4, 5, 6, 7, 8, 9, 10, 11, 12, 13, 14] (.e1 15 (.e1 16 (.e1 17 (.fin))))) ([⟨b10, e_api_Interval (q_api_Interval ⟨⟨(gi pts (i : Int)).T, 0, false⟩, ⟨(gi pts ((i : Int) + 1)).T, 0, false⟩, o, o'⟩), 32⟩, ⟨b6, cRun I b pts.length c, 35⟩]) (h := ?_); refine wkX ?_)
            (repeat (refine wkH ?_))
            simp only [e1]
            repeat (first | (refine wkT ?_; try intro _) | (refine tC rfl rfl ?_ ?_; focus (exact ⟨hp _, hp _⟩)) | (refine uC rfl rfl ?_ ?_; focus (exact ⟨hp _, hp _⟩)) | (refine eN rfl rfl ?_ ?_; (focus (exact ⟨hp _, hp _⟩)); intro _; (try simp only [List.cons_append, List.nil_append, List.append_nil])))
            repeat (refine wkB ?_; try intro _)
            rw [← hu]
            refine eU rfl rfl ?_ ?_ ?_ ?_
            · rfl
            · rfl
            · exact ⟨by decide, by omega, by omega⟩
            intro s'
            repeat (refine wkT ?_; try intro _)
            repeat (refine wkB ?_; try intro _)
            exact jx_loop ⟨_, i + 1, s'⟩ ⟨by show ys ++ [bsU I pts i] = xs ++ (bs I pts i ++ [bsU I pts i]); rw [hys, List.append_assoc], by show i + 1 ≤ pts.length - 1; omega⟩ sbB suB (by show pts.length - 1 - (i + 1) < pts.length - 1 - i; omega)
      · have hge : i = pts.length - 1 := by have := of_decide_eq_false h2; omega
        subst hge
        have hbm : ys = bA rs (m + 1) := by rw [hbA, hb1, ← List.append_assoc, ← hs', hys]
        subst hbm
        repeat (refine wkB ?_; try intro _)
        exact jx_loop ⟨m + 1, s2⟩ (by show m + 1 ≤ rs.length; omega) sbB suB (by show rs.length - (m + 1) < rs.length - m; omega)
  · have hge : m = rs.length := by have := of_decide_eq_false h; omega
    subst hge
    repeat (first | (refine wkB ?_; try intro _) | (refine sC rfl rfl ?_ ?_; focus (exact ⟨h19, hin⟩)) | (refine sN rfl rfl ?_ ?_; (focus (exact ⟨h19, hin⟩)); intro _; (try simp only [List.cons_append, List.nil_append, List.append_nil])))
    exact jx_ret_two rfl (resv_tmp rfl) (resv_tmp rfl) (fun w hw => ⟨_, rfl, hw.sub suB⟩)
end Go.Vt
/- Plain mathematics: the program's table finds what the reference's search finds. Conditions: none. -/
set_option linter.unusedSimpArgs false
set_option linter.unusedVariables false
set_option maxHeartbeats 2000000
namespace Go.Vt
/-- 'k' is the least one of least cost among those that are enough, from 'a' on, below 'b'. -/
def Bst (ok : Nat → Bool) (c : Nat → Int) (a b k : Nat) : Prop := a ≤ k ∧ k < b ∧ ok k = true ∧ ∀ k', a ≤ k' → k' < b → ok k' = true → c k ≤ c k' ∧ (c k = c k' → k ≤ k')
theorem Bst.uniq {ok : Nat → Bool} {c : Nat → Int} {a b k j : Nat} (h : Bst ok c a b k) (g : Bst ok c a b j) : k = j := by
  obtain ⟨h1, h2, h3, h4⟩ := h
  obtain ⟨g1, g2, g3, g4⟩ := g
  have e1 := h4 j g1 g2 g3
  have e2 := g4 k h1 h2 h3
  have e3 : c k = c j := by omega
  have := e1.2 e3
  have := e2.2 e3.symm
  omega
variable {ok : Nat → Nat → Bool} {l i : Nat} {s : List Int × List Int}
theorem inn_best (h : WF l s) (hi : i < l) (h0 : gi s.1 (i : Int) = 0) : ∀ q, q ≤ l - i →
    (gi (inn ok l i q s).1 (i : Int) = 0 ∧ ∀ k, l - q < k → k ≤ l → ok i k = false) ∨
    ∃ k : Nat, gi (inn ok l i q s).1 (i : Int) = k ∧ gi (inn ok l i q s).2 (i : Int) = gi s.2 (k : Int) + 1 ∧ Bst (ok i) (fun k => gi s.2 (k : Int)) (l - q + 1) (l + 1) k
  | 0, _ => .inl ⟨h0, fun k h1 h2 => by omega⟩
  | q + 1, hq => by
    have hw := h.inn (ok := ok) hi q (by omega)
    obtain ⟨kq, hkq⟩ : ∃ kq, kq = l - q := ⟨_, rfl⟩
    have hik : i ≠ kq := by omega
    have hoth := inn_other (ok := ok) h hi hik q (by omega)
    have e1 : inn ok l i (q + 1) s = stp ok i kq (inn ok l i q s) := by rw [inn, ← hkq]
    have ih := inn_best h hi h0 q (by omega)
    rw [e1]
    generalize inn ok l i q s = t at *
    have hset : (gi t.1 (i : Int) = 0 ∨ gi t.2 (kq : Int) + 1 ≤ gi t.2 (i : Int)) ∧ ok i kq = true → gi (stp ok i kq t).1 (i : Int) = kq ∧ gi (stp ok i kq t).2 (i : Int) = gi s.2 (kq : Int) + 1 := fun hc => by
      unfold stp
      rw [if_pos hc]
      simp only [gi_set (show i < t.1.length by rw [hw.l1]; omega), gi_set (show i < t.2.length by rw [hw.l2]; omega), if_true]
      exact ⟨trivial, by rw [hoth.2]⟩
    have hkeep : ¬ ((gi t.1 (i : Int) = 0 ∨ gi t.2 (kq : Int) + 1 ≤ gi t.2 (i : Int)) ∧ ok i kq = true) → stp ok i kq t = t := fun hc => by
      unfold stp
      rw [if_neg hc]
    rcases ih with ⟨g1, g2⟩ | ⟨k, g1, g2, g3, g4, g5, g6⟩
    · cases hok : ok i kq with
      | false =>
        rw [hkeep (by rw [hok]; simp)]
        refine .inl ⟨g1, fun k h1 h2 => ?_⟩
        rcases (by omega : k = kq ∨ l - q < k) with rfl | h3
        · exact hok
        · exact g2 k h3 h2
      | true =>
        obtain ⟨e2, e3⟩ := hset ⟨.inl g1, hok⟩
        refine .inr ⟨kq, e2, e3, by omega, by omega, hok, fun k' h1 h2 h3 => ?_⟩
        rcases (by omega : k' = kq ∨ l - q < k') with rfl | h4
        · exact ⟨Int.le_refl _, fun _ => Nat.le_refl _⟩
        · rw [g2 k' h4 (by omega)] at h3
          cases h3
    · by_cases hc : gi t.2 (kq : Int) + 1 ≤ gi t.2 (i : Int) ∧ ok i kq = true
      · obtain ⟨e2, e3⟩ := hset ⟨.inr hc.1, hc.2⟩
        have h5 : gi s.2 (kq : Int) ≤ gi s.2 (k : Int) := by
          have := hc.1
          rw [hoth.2, g2] at this
          omega
        refine .inr ⟨kq, e2, e3, by omega, by omega, hc.2, fun k' h1 h2 h3 => ?_⟩
        rcases (by omega : k' = kq ∨ l - q + 1 ≤ k') with rfl | h4
        · exact ⟨Int.le_refl _, fun _ => Nat.le_refl _⟩
        · have h6 := (g6 k' h4 h2 h3).1
          exact ⟨by simp only at h6 ⊢; omega, fun _ => by omega⟩
      · rw [hkeep (fun h => hc ⟨h.1.resolve_left (by omega), h.2⟩)]
        refine .inr ⟨k, g1, g2, by omega, g4, g5, fun k' h1 h2 h3 => ?_⟩
        rcases (by omega : k' = kq ∨ l - q + 1 ≤ k') with rfl | h4
        · have h7 : ¬ gi t.2 (k' : Int) + 1 ≤ gi t.2 (i : Int) := fun h => hc ⟨h, h3⟩
          rw [hoth.2, g2] at h7
          exact ⟨by simp only; omega, fun h => by simp only at h; omega⟩
        · exact g6 k' h4 h2 h3
/-- What is done stays. -/
theorem ou_stay {m : Nat} {j : Nat} (hj : l - m ≤ j) (hm : m ≤ l) : ∀ d, m + d ≤ l → gi (ou ok l (m + d)).1 (j : Int) = gi (ou ok l m).1 (j : Int) ∧ gi (ou ok l (m + d)).2 (j : Int) = gi (ou ok l m).2 (j : Int)
  | 0, _ => ⟨rfl, rfl⟩
  | d + 1, hd => by
    have ih := ou_stay hj hm d (by omega)
    have hw := WF.ou (ok := ok) (l := l) (m + d) (by omega)
    have := inn_other (ok := ok) hw (show l - 1 - (m + d) < l by omega) (show l - 1 - (m + d) ≠ j by omega) (m + d + 1) (by omega)
    rw [show m + (d + 1) = (m + d) + 1 by omega, ou]
    exact ⟨this.1.trans ih.1, this.2.trans ih.2⟩
theorem ou_zero {j : Nat} : ∀ m, m ≤ l → j < l - m → gi (ou ok l m).1 (j : Int) = 0
  | 0, _, _ => by simp only [ou, gi_rep]
  | m + 1, hm, hj => by
    have hw := WF.ou (ok := ok) (l := l) m (by omega)
    rw [ou, (inn_other (ok := ok) hw (show l - 1 - m < l by omega) (show l - 1 - m ≠ j by omega) (m + 1) (by omega)).1]
    exact ou_zero m (by omega) (by omega)
/-- The table: the least next one of least cost. -/
theorem ou_best (hok : ∀ i, i < l → ok i (i + 1) = true) (hi : i < l) : ∃ k : Nat, gi (ou ok l l).1 (i : Int) = k ∧ gi (ou ok l l).2 (i : Int) = gi (ou ok l l).2 (k : Int) + 1 ∧ Bst (ok i) (fun k => gi (ou ok l l).2 (k : Int)) (i + 1) (l + 1) k := by
  obtain ⟨m, hm⟩ : ∃ m, l = i + 1 + m := ⟨l - i - 1, by omega⟩
  have hi' : i = l - 1 - m := by omega
  have hw := WF.ou (ok := ok) (l := l) m (by omega)
  have s1 := ou_stay (ok := ok) (l := l) (m := m + 1) (j := i) (by omega) (by omega) (l - (m + 1)) (by omega)
  rw [show m + 1 + (l - (m + 1)) = l by omega] at s1
  have s2 : ∀ k : Nat, i < k → gi (ou ok l l).2 (k : Int) = gi (ou ok l m).2 (k : Int) := fun k hk => by
    have := (ou_stay (ok := ok) (l := l) (m := m) (j := k) (by omega) (by omega) (l - m) (by omega)).2
    rwa [show m + (l - m) = l by omega] at this
  have hb := inn_best (ok := ok) hw hi (ou_zero m (by omega) (by omega)) (m + 1) (by omega)
  have e : ou ok l (m + 1) = inn ok l i (m + 1) (ou ok l m) := by rw [ou, ← hi']
  rw [← e] at hb
  rcases hb with ⟨_, h2⟩ | ⟨k, h1, h2, h3, h4, h5, h6⟩
  · have := h2 (i + 1) (by omega) (by omega)
    rw [hok i hi] at this
    cases this
  · have hik : i < k := by omega
    refine ⟨k, s1.1.trans h1, ?_, by omega, h4, h5, fun k' g1 g2 g3 => ?_⟩
    · rw [s1.2, h2, s2 k hik]
    · have := h6 k' (by omega) g2 g3
      simp only [s2 k hik, s2 k' (by omega)]
      exact this
end Go.Vt
/- The examples of the chapter, and the reference's best list. Conditions: those that each statement names. -/
set_option linter.unusedSimpArgs false
set_option linter.unusedVariables false
set_option maxHeartbeats 2000000
set_option maxRecDepth 100000
namespace Go.Vt
open Go.RowKit Go.Proofs
def zzP : List R_movingpoint_Sample := [⟨((0 : Int) : Rat), ⟨((0 : Int) : Rat), ((0 : Int) : Rat)⟩⟩, ⟨((1 : Int) : Rat), ⟨((1 : Int) : Rat), ((1 : Int) : Rat)⟩⟩, ⟨((2 : Int) : Rat), ⟨((2 : Int) : Rat), ((0 : Int) : Rat)⟩⟩, ⟨((3 : Int) : Rat), ⟨((3 : Int) : Rat), ((1 : Int) : Rat)⟩⟩, ⟨((4 : Int) : Rat), ⟨((4 : Int) : Rat), ((0 : Int) : Rat)⟩⟩]
abbrev liP : List R_movingpoint_Sample := [⟨((0 : Int) : Rat), ⟨((0 : Int) : Rat), ((0 : Int) : Rat)⟩⟩, ⟨((1 : Int) : Rat), ⟨((1 : Int) : Rat), ((0 : Int) : Rat)⟩⟩, ⟨((2 : Int) : Rat), ⟨((4 : Int) : Rat), ((0 : Int) : Rat)⟩⟩]
theorem kn_a : keptL (okd zzP ((((1 : Int) : Rat)) * ((1 : Int) : Rat))) (5 - 1) = [0, 4] := by decide +kernel
theorem kn_b : keptL (okd zzP (Rat.divInt 1 2 * Rat.divInt 1 2)) (5 - 1) = [0, 1, 2, 3, 4] := by decide +kernel
theorem kn_d : dv liP 0 2 1 = ((1 : Int) : Rat) := by decide +kernel
instance sr_zigzag (w0 : World) (L : List Blk) : SpecR Tryz.prog w0 L 40 [] Nat (fun b => vRun ⟨⟨0, 0, false⟩, ⟨((4 : Int) : Rat), 0, false⟩, false, false⟩ b 5 5) (fun b => [⟨b, row rS zzP [], 47⟩]) True := ⟨fun _ w hw => by
  refine fn_intro Tryz.func40 rfl Tryz.ntmps40 rfl ?_
  repeat (first | (refine wkB ?_; try intro _) | (refine sC rfl rfl ?_ ?_; focus (first | exact ⟨by omega, by omega⟩ | exact ⟨⟨by omega, by omega⟩, ⟨by omega, by omega⟩, ⟨by omega, by omega⟩⟩)) | (refine sN rfl rfl ?_ ?_; (focus (first | exact ⟨by omega, by omega⟩ | exact ⟨⟨by omega, by omega⟩, ⟨by omega, by omega⟩, ⟨by omega, by omega⟩⟩)); intro _; (try simp only [List.cons_append, List.nil_append, List.append_nil])))
  rename_i b0 bN
  exact wx_cell rfl rfl (fun w hw => ⟨bN, rfl, hw.sub slB⟩)⟩
instance sm_dev2 (w0 : World) (L : List Blk) (I : R_api_Interval) (b n c : Nat) (i j : Int) (pts : List R_movingpoint_Sample) (sp : List Value) (T : TypeId) [h : AtC w0 L b (row r_movingpoint_Sample pts sp) T] : SpecM Tryz.prog w0 L 11 [vRun I b n c, .int .i64 i, .int .i64 j] (.tuple #[vQ (dv pts i.toNat j.toNat (j.toNat - i.toNat - 1)), .int .i64 0]) ((pts.length = n ∧ n ≤ c ∧ n ≤ 1099511627776 ∧ Bnd pts) ∧ 0 ≤ i ∧ i < j ∧ j < n) := ⟨fun hp w hw => by
  obtain ⟨g1, g2, g3, g4⟩ := hp
  have := FoC.mk (h.out w hw)
  refine fn_intro Tryz.func11 rfl Tryz.ntmps11 rfl ?_
  have e1 : ¬ j = 0 := by omega
  have e2 : ¬ i < 0 := by omega
  have e3 : ¬ j ≤ i := by omega
  have e4 : ¬ (n : Int) ≤ j := by omega
  repeat (refine wkB ?_; try intro _)
  by_cases hi : i = 0
  · simp only [decide_eq_true hi]
    repeat (refine wkB ?_; try intro _)
    simp only [decide_eq_false e1]
    repeat (refine wkB ?_; try intro _)
    simp only [decide_eq_false e2]
    repeat (refine wkB ?_; try intro _)
    simp only [decide_eq_false e3]
    repeat (refine wkB ?_; try intro _)
    simp only [decide_eq_false e4]
    repeat (first | (refine wkB ?_; try intro _) | (refine sC rfl rfl ?_ ?_; focus (exact ⟨g1, g2, g3, g4⟩)) | (refine sN rfl rfl ?_ ?_; (focus (exact ⟨g1, g2, g3, g4⟩)); intro _; (try simp only [List.cons_append, List.nil_append, List.append_nil])))
    exact jx_ret_two rfl (wr_cell rfl) (resv_tmp rfl) (fun w hw => ret_ok hw)
  · simp only [decide_eq_false hi]
    repeat (refine wkB ?_; try intro _)
    simp only [decide_eq_false e2]
    repeat (refine wkB ?_; try intro _)
    simp only [decide_eq_false e3]
    repeat (refine wkB ?_; try intro _)
    simp only [decide_eq_false e4]
    repeat (first | (refine wkB ?_; try intro _) | (refine sC rfl rfl ?_ ?_; focus (exact ⟨g1, g2, g3, g4⟩)) | (refine sN rfl rfl ?_ ?_; (focus (exact ⟨g1, g2, g3, g4⟩)); intro _; (try simp only [List.cons_append, List.nil_append, List.append_nil])))
    exact jx_ret_two rfl (wr_cell rfl) (resv_tmp rfl) (fun w hw => ret_ok hw)⟩
instance (priority := low) sm_same' (w0 : World) (L : List Blk) (a b ca cb n m : Nat) (xs ys : List Int) (spx spy : List Value) (Tx Ty : TypeId) [h1 : AtC w0 L a (row (eI .i64) xs spx) Tx] [h2 : AtC w0 L b (row (eI .i64) ys spy) Ty] : SpecM Tryz.prog w0 L 43 [.slice (some ⟨a, 0, none⟩) n ca, .slice (some ⟨b, 0, none⟩) m cb] (.bool (decide (xs = ys))) ((n = xs.length ∧ m = ys.length) ∧ n ≤ 1099511627776) := ⟨fun hp w hw => by
  obtain ⟨⟨rfl, rfl⟩, hp⟩ := hp
  exact same_spec a b ca cb xs ys spx spy Tx Ty hp w (h1.out w hw) (h2.out w hw)⟩
theorem bnd_of {pts : List R_movingpoint_Sample} (h : ∀ x ∈ pts, M x.T ≤ PB ∧ M x.P.X ≤ PB ∧ M x.P.Y ≤ PB) : Bnd pts := fun i => by
  by_cases hi : i.toNat < pts.length
  · rw [gi_eq hi]
    exact h _ (List.getElem_mem hi)
  · have : gi pts i = default := by unfold gi; simp only [List.getD_eq_getElem?_getD, List.getElem?_eq_none (by omega : pts.length ≤ i.toNat)]; rfl
    rw [this]
    exact ⟨by decide +kernel, by decide +kernel, by decide +kernel⟩
theorem bnd_zz : Bnd zzP := bnd_of (by decide +kernel)
theorem bnd_li : Bnd liP := bnd_of (by decide +kernel)
set_option maxHeartbeats 2000000 in
/-- The chapter's examples hold. -/
instance sm_known : SpecC Tryz.prog 9 [] (.bool true) True := ⟨fun _ w => by
  refine fn_intro Tryz.func9 rfl Tryz.ntmps9 rfl ?_
  have r1 : RunOk zzP 5 5 := ⟨rfl, Nat.le_refl _, by decide, bnd_zz⟩
  have r2 : RunOk liP 3 3 := ⟨rfl, Nat.le_refl _, by decide, bnd_li⟩
  repeat (first | (refine wkB ?_; try intro _) | (refine sC rfl rfl ?_ ?_; focus (first | exact trivial | exact ⟨by omega, by omega⟩ | exact ⟨⟨by omega, by omega⟩, ⟨by omega, by omega⟩⟩ | exact ⟨⟨by omega, by omega⟩, ⟨by omega, by omega⟩, ⟨by omega, by omega⟩⟩ | exact ⟨r1, by decide, by decide +kernel, by decide +kernel⟩ | exact ⟨r2, by decide, by decide, by decide⟩)) | (refine sN rfl rfl ?_ ?_; (focus (first | exact trivial | exact ⟨by omega, by omega⟩ | exact ⟨⟨by omega, by omega⟩, ⟨by omega, by omega⟩⟩ | exact ⟨⟨by omega, by omega⟩, ⟨by omega, by omega⟩, ⟨by omega, by omega⟩⟩ | exact ⟨r1, by decide, by decide +kernel, by decide +kernel⟩ | exact ⟨r2, by decide, by decide, by decide⟩)); intro _; (try simp only [List.cons_append, List.nil_append, List.append_nil])))
  rename_i bh bz sa
  obtain ⟨⟨ba, ca, spa⟩, ha⟩ := sa
  simp only [kn_a] at ha ⊢
  (refine j_late3 [1] [0, 2] [3, 4, 5, 6, 7] ([⟨ba, row (eI .i64) [0, 4] spa, 3⟩, ⟨bh, e_api_Rat (Q (Rat.divInt 1 2)), 28⟩]) (h := ?_); refine wkI ?_)
  (repeat (first | refine wkH ?_ | (refine tC rfl rfl ?_ ?_; focus (first | exact trivial | exact ⟨by omega, by omega⟩ | exact ⟨⟨by omega, by omega⟩, ⟨by omega, by omega⟩⟩ | exact ⟨⟨by omega, by omega⟩, ⟨by omega, by omega⟩, ⟨by omega, by omega⟩⟩ | exact ⟨r1, by decide, by decide +kernel, by decide +kernel⟩ | exact ⟨r2, by decide, by decide, by decide⟩))))
  refine jh_nil ?_
  refine eN rfl rfl trivial ?_
  intro bz2
  simp only [List.cons_append, List.nil_append]
  refine eN rfl rfl ⟨r1, by decide, by decide +kernel, by decide +kernel⟩ ?_
  intro sb
  simp only [List.cons_append, List.nil_append]
  refine je_nil ?_
  (repeat (first | refine wkH ?_ | (refine tC rfl rfl ?_ ?_; focus (first | exact trivial | exact ⟨by omega, by omega⟩ | exact ⟨⟨by omega, by omega⟩, ⟨by omega, by omega⟩⟩ | exact ⟨⟨by omega, by omega⟩, ⟨by omega, by omega⟩, ⟨by omega, by omega⟩⟩ | exact ⟨r1, by decide, by decide +kernel, by decide +kernel⟩ | exact ⟨r2, by decide, by decide, by decide⟩))))
  refine jh_nil ?_
  obtain ⟨⟨bb, cb, spb⟩, hb⟩ := sb
  simp only [kn_b] at hb ⊢
  repeat (first | (refine wkB ?_; try intro _) | (refine sC rfl rfl ?_ ?_; focus (first | exact trivial | exact ⟨by omega, by omega⟩ | exact ⟨⟨by omega, by omega⟩, ⟨by omega, by omega⟩⟩ | exact ⟨⟨by omega, by omega⟩, ⟨by omega, by omega⟩, ⟨by omega, by omega⟩⟩ | exact ⟨r1, by decide, by decide +kernel, by decide +kernel⟩ | exact ⟨r2, by decide, by decide, by decide⟩)) | (refine sN rfl rfl ?_ ?_; (focus (first | exact trivial | exact ⟨by omega, by omega⟩ | exact ⟨⟨by omega, by omega⟩, ⟨by omega, by omega⟩⟩ | exact ⟨⟨by omega, by omega⟩, ⟨by omega, by omega⟩, ⟨by omega, by omega⟩⟩ | exact ⟨r1, by decide, by decide +kernel, by decide +kernel⟩ | exact ⟨r2, by decide, by decide, by decide⟩)); intro _; (try simp only [List.cons_append, List.nil_append, List.append_nil])))
  rename_i bp bq br
  rw [show dv _ (Int.toNat 0) (Int.toNat 2) (Int.toNat 2 - Int.toNat 0 - 1) = ((1 : Int) : Rat) from kn_d]
  (refine j_phases [([0, 1, 2, 3], [4, 5, 6, 7, 8, 9, 10, 11]), ([12], [13, 14, 15, 16, 17, 18, 19, 20]), ([21], [22, 23, 24, 25])] ([⟨br, e_api_Rat (Q ((1 : Int) : Rat)), 28⟩, ⟨bb, row (eI .i64) [0, 1, 2, 3, 4] spb, 3⟩, ⟨ba, row (eI .i64) [0, 4] spa, 3⟩]) (h := ?_); refine wkP ?_)
  (repeat (first | refine wkH ?_ | (refine tC rfl rfl ?_ ?_; focus (first | exact trivial | exact ⟨by omega, by omega⟩ | exact ⟨⟨by omega, by omega⟩, ⟨by omega, by omega⟩⟩ | exact ⟨⟨by omega, by omega⟩, ⟨by omega, by omega⟩, ⟨by omega, by omega⟩⟩ | exact ⟨r1, by decide, by decide +kernel, by decide +kernel⟩ | exact ⟨r2, by decide, by decide, by decide⟩))))
  simp only [decide_eq_true (show (0 : Int) = 0 from rfl)]
  (repeat (first | refine wkH ?_ | (refine tC rfl rfl ?_ ?_; focus (first | exact trivial | exact ⟨by omega, by omega⟩))))
  repeat (first | (refine wkT ?_; try intro _) | (refine tC rfl rfl ?_ ?_; focus (first | exact trivial | exact ⟨by omega, by omega⟩ | exact ⟨⟨rfl, rfl⟩, by decide⟩)) | (refine uC rfl rfl ?_ ?_; focus (first | exact trivial | exact ⟨by omega, by omega⟩ | exact ⟨⟨rfl, rfl⟩, by decide⟩)) | (refine eN rfl rfl ?_ ?_; (focus (first | exact trivial | exact ⟨by omega, by omega⟩ | exact ⟨⟨rfl, rfl⟩, by decide⟩)); intro _; (try simp only [List.cons_append, List.nil_append, List.append_nil])))
  repeat (refine wkB ?_; try intro _)
  exact jx_ret_tmp rfl rfl (fun w hw => by rw [decide_eq_true (show ((1 : Int) : Rat) = ((1 : Int) : Rat) from rfl)]; exact ret_ok hw)⟩
end Go.Vt
/- Facts about the decoded run. Conditions: those that each statement names. -/
set_option linter.unusedSimpArgs false
set_option linter.unusedVariables false
set_option maxHeartbeats 2000000
set_option maxRecDepth 100000
namespace Go.Vt
open Go.RowKit Go.Proofs
theorem M_small {n : Int} (h : 0 ≤ n ∧ n < 256) : M (n : Rat) ≤ 1 := by
  rw [M_int]
  have := mg_small (n := n) (k := 1) (by omega)
  omega
theorem dst_M (n : Int) : M (dst n) ≤ 1 := M_divInt (mg_small (by omega)) (by decide) (Nat.le_refl _)
theorem dst_nonneg (n : Int) : 0 ≤ dst n := by
  unfold dst
  rw [Rat.divInt_eq_div]
  have h1 : (0 : Rat) ≤ ((n % 128 : Int) : Rat) := by exact_mod_cast (by omega : 0 ≤ n % 128)
  have : ((4 : Int) : Rat) = 4 := rfl
  rw [this]
  grind
end Go.Vt
/- SimplifyDeviates, walked. Conditions: those that each statement names. -/
set_option linter.unusedSimpArgs false
set_option linter.unusedVariables false
set_option maxHeartbeats 2000000
set_option maxRecDepth 100000
namespace Go.Vt
open Go.RowKit Go.Proofs
end Go.Vt
/- A slice appended onto a slice, either of which may be none. Conditions: those that each statement names. -/
set_option linter.unusedSimpArgs false
set_option linter.unusedVariables false
set_option maxHeartbeats 2000000
set_option maxRecDepth 100000
namespace Go.Vt
open Go.RowKit Go.Proofs
theorem SlS.like {α : Type} {enc : α → Array Value} {k : Nat} {xs ys : List α} (s : SlS enc k xs) (h : ys = xs) : ∃ s' : SlS enc k ys, vSl s' = vSl s ∧ ∀ T, mS T s' = mS T s := by
  subst h
  exact ⟨s, rfl, fun _ => rfl⟩
section
variable {P : Program} {w0 : World} {n : Nat} {ops : Array Oper} {L L1 L2 : List Blk} {E : Env}
variable {Q : Exit → Act → World → Prop} {rest : List Oper}
variable {ty : TypeId} {pos : String} {aft : Array Edge} {gd : Option (Nat × Bool)} {t : Tmp} {x y : Operand}
variable {α : Type} {enc : α → Array Value} {S T T2 : TypeId} {k B : Nat} {xs ys : List α} {z : Value} {zc : Array Value} {s : SlS enc k xs} {u : SlS enc k ys}
variable [hx : IsC (evl E x) (vSl s)] [hy : IsC (evl E y) (vSl u)] [hd : OwnS T s L L1] [h2 : OwnS T2 u L L2] [hT : UndC P S (.slice T)] [hz : ZeroC P T z zc] [he : EncC enc k] [hk : SizeC P T k] [hB : BytesC P T B]
include hx hy hd h2 hT hz he hk hB
end
end Go.Vt
/- The same moving point by the other road, walked. Conditions: those that each statement names. -/
set_option linter.unusedSimpArgs false
set_option linter.unusedVariables false
set_option maxHeartbeats 2000000
set_option maxRecDepth 100000
namespace Go.Vt
open Go.RowKit Go.Proofs
/-- The units through a run's samples, during its period. -/
def bu (r : RD) : List PU := mpN ofU (nrmR (mRes (frS r.pts) [r.I])) (nrmR (mRes (frS r.pts) [r.I])).length
def buA (rs : List RD) : Nat → List PU
  | 0 => []
  | m + 1 => buA rs m ++ bu (gi rs (m : Int))
structure BuOk (w : World) (r : RD) : Prop where
  l1 : 1 ≤ r.pts.length
  l2 : r.pts.length ≤ 19
  bnd : Bnd r.pts
  inc : Inc r.pts
  res : ResOk (frS r.pts) [r.I]
  cap : (bu r).length ≤ 1024
  mem : ∃ T fz, w.heap[r.b]? = some (.cells (row rS r.pts r.sp) T fz)
end Go.Vt
/- A normal form has at most as many units as what it was made of. Conditions: those that each statement names. -/
set_option linter.unusedSimpArgs false
set_option linter.unusedVariables false
set_option maxHeartbeats 2000000
set_option linter.unusedSectionVars false
namespace Go.Vt
open Fv (va red)
section
variable {T F V : Type} [LE T] [LT T] [Std.LawfulOrderLT T] [Std.IsLinearOrder T] [Dns T] [Fv F T V] [DecidableEq T]
def Upw (xs : List (GU T F)) : Prop := ∀ u ∈ xs, u.a ≤ u.b
theorem Upw.snoc {xs : List (GU T F)} {u : GU T F} (h : Upw xs) (hu : u.a ≤ u.b) : Upw (xs ++ [u]) := fun w hw => by
  rcases List.mem_append.1 hw with h1 | h1
  · exact h w h1
  · rw [List.mem_singleton] at h1
    exact h1 ▸ hu
theorem Upw.init {xs : List (GU T F)} {u : GU T F} (h : Upw (xs ++ [u])) : Upw xs ∧ u.a ≤ u.b := ⟨fun w hw => h w (List.mem_append_left _ hw), h u (List.mem_append_right _ (.head _))⟩
theorem stp_upw {pv nx : Option (GU T F)} {xs xs' : List (GU T F)} {x : GU T F} (h : Stp pv nx xs x xs') (hx : x.a ≤ x.b) (hu : Upw xs) : Upw xs' ∧ xs'.length ≤ xs.length + 1 := by
  cases h with
  | ext h1 h2 h3 h4 h5 =>
    obtain ⟨h6, h7⟩ := hu.init
    exact ⟨h6.snoc (by simp only; grind), by simp⟩
  | appO h1 h2 h3 h4 => exact ⟨hu.snoc hx, by simp⟩
  | appN h1 h2 h3 => exact ⟨hu.snoc hx, by simp⟩
  | clo h1 h2 h3 h4 =>
    obtain ⟨h6, h7⟩ := hu.init
    exact ⟨h6.snoc h7, by simp⟩
  | lft h1 h2 h3 => exact ⟨hu, by simp⟩
  | rdc h1 h2 h3 => exact ⟨hu.snoc hx, by simp⟩
/-- An instant that the next part can take. -/
theorem stp_fst {pv : Option (GU T F)} {xs xs' : List (GU T F)} {x n : GU T F} (h : Stp pv (some n) xs x xs') (hi : x.a = x.b) (hn : n.a = x.a) (hf : n.f = x.f) (hu : Upw xs) : Upw xs' ∧ xs'.length ≤ xs.length := by
  cases h with
  | ext h1 => exact absurd hi h1
  | appO h1 => exact absurd hi h1
  | appN h1 => exact absurd hi h1
  | clo h1 h2 h3 h4 =>
    obtain ⟨h6, h7⟩ := hu.init
    exact ⟨h6.snoc h7, by simp⟩
  | lft h1 h2 h3 => exact ⟨hu, by simp⟩
  | rdc h1 h2 h3 => exact absurd ⟨n, rfl, hn, by rw [hf]⟩ h3
/-- A part that is long. -/
theorem stp_mid {pv nx : Option (GU T F)} {xs xs' : List (GU T F)} {x : GU T F} (h : Stp pv nx xs x xs') (hx : x.a < x.b) (hu : Upw xs) : Upw xs' ∧ xs'.length ≤ xs.length + 1 ∧ ∃ ys w, xs' = ys ++ [w] ∧ w.b = x.b ∧ w.f = x.f ∧ w.a ≠ w.b := by
  refine ⟨(stp_upw h (by grind) hu).1, (stp_upw h (by grind) hu).2, ?_⟩
  cases h with
  | ext h1 h2 h3 h4 h5 =>
    obtain ⟨h6, h7⟩ := hu.init
    exact ⟨_, _, rfl, rfl, h5, by simp only; grind⟩
  | appO h1 h2 h3 h4 => exact ⟨_, _, rfl, rfl, rfl, h1⟩
  | appN h1 h2 h3 => exact ⟨_, _, rfl, rfl, rfl, h1⟩
  | clo h1 => grind
  | lft h1 => grind
  | rdc h1 => grind
/-- An instant that the part before takes. -/
theorem stp_lst {pv nx : Option (GU T F)} {ys xs' : List (GU T F)} {x w : GU T F} (h : Stp pv nx (ys ++ [w]) x xs') (hi : x.a = x.b) (hb : w.b = x.a) (hf : w.f = x.f) (hl : w.a ≠ w.b) (hu : Upw (ys ++ [w])) : Upw xs' ∧ xs'.length ≤ (ys ++ [w]).length := by
  refine ⟨(stp_upw h (by grind) hu).1, ?_⟩
  generalize hz : ys ++ [w] = zs at *
  cases h with
  | ext h1 => exact absurd hi h1
  | appO h1 => exact absurd hi h1
  | appN h1 => exact absurd hi h1
  | clo h1 h2 h3 h4 => simp
  | lft h1 h2 h3 => exact Nat.le_refl _
  | rdc h1 h2 h3 => exact absurd (by rw [hf]) (h2 ys w hz.symm hb hl)
theorem mk_len : ∀ (us : List (GU T F)), (∀ u ∈ us, u.ok) → ∀ (pv : Option (GU T F)) (xs out : List (GU T F)), Upw xs → Mk pv xs (partsL us) out → out.length ≤ xs.length + us.length
  | [], _, pv, xs, out, _, h => by
    simp only [partsL, List.flatMap_nil] at h
    cases h with
    | nil => exact Nat.le_refl _
  | u :: us, hok, pv, xs, out, hu, h => by
    have hk := hok u (.head _)
    have hks : ∀ u ∈ us, u.ok := fun w hw => hok w (.tail _ hw)
    rw [partsL_cons] at h
    have go : ∀ (pv : Option (GU T F)) (zs : List (GU T F)), Upw zs → zs.length ≤ xs.length + 1 → Mk pv zs (partsL us) out → out.length ≤ xs.length + (u :: us).length := fun pv zs hz hl hm => by
      have := mk_len us hks pv zs out hz hm
      rw [List.length_cons]
      omega
    unfold GU.parts at h
    by_cases he : u.a = u.b
    · have ho : u.oa = false := by unfold GU.ok at hk; grind
      simp only [ho, he, if_true, Bool.false_eq_true, if_false, List.append_nil, List.cons_append, List.nil_append] at h
      cases h with
      | cons hs hm =>
        have h1 := stp_upw hs (by simp only; grind) hu
        exact go _ _ h1.1 h1.2 hm
    · have hlt : u.a < u.b := by unfold GU.ok at hk; grind
      have mid : ∀ (pv : Option (GU T F)) (zs : List (GU T F)), Upw zs → zs.length ≤ xs.length → Mk pv zs ((⟨u.a, u.b, true, true, u.f⟩ :: if u.ob = true then [] else [⟨u.b, u.b, false, false, u.f⟩]) ++ partsL us) out → out.length ≤ xs.length + (u :: us).length := fun pv zs hz hl hm => by
        rcases hb : u.ob with _ | _
        · simp only [hb, Bool.false_eq_true, if_false, List.cons_append, List.nil_append] at hm
          cases hm with
          | cons hs hm =>
            obtain ⟨h1, h2, ys, w, hw, h3, h4, h5⟩ := stp_mid hs hlt hz
            subst hw
            cases hm with
            | cons hs hm =>
              have h6 := stp_lst hs rfl h3 h4 h5 h1
              exact go _ _ h6.1 (by omega) hm
        · simp only [hb, if_true, List.cons_append, List.nil_append] at hm
          cases hm with
          | cons hs hm =>
            obtain ⟨h1, h2, _⟩ := stp_mid hs hlt hz
            exact go _ _ h1 (by omega) hm
      rcases ho : u.oa with _ | _
      · simp only [ho, he, Bool.false_eq_true, if_false, List.cons_append, List.nil_append] at h
        cases h with
        | cons hs hm =>
          simp only [List.head?_cons] at hs
          have h1 := stp_fst hs rfl rfl rfl hu
          exact mid _ _ h1.1 h1.2 (by simpa using hm)
      · simp only [ho, he, if_true, if_false, List.nil_append] at h
        exact mid _ _ hu (Nat.le_refl _) h
end
theorem nrmR_few {us : List UL} (h : UVal us) : (nrmR us).length ≤ us.length := by
  have hs := h.sor
  have hok : ∀ u ∈ (Go.Vt.sor us).map absU, u.ok := fun u hu => by
    obtain ⟨w, hw, rfl⟩ := List.mem_map.1 hu
    exact hs.v w hw
  have hall := atm_ok hs.i (Go.Vt.sor us).length (Nat.le_refl _)
  have hmk := mk_nrm hall _ 0 (Nat.zero_add _)
  have hparts : (atm (Go.Vt.sor us) (Go.Vt.sor us).length).map absU = partsL ((Go.Vt.sor us).map absU) := by
    have := atm_abs (fun u hu => (hs.i u hu).i) (Go.Vt.sor us).length (Nat.le_refl _)
    rw [List.take_length] at this
    exact this
  rw [List.drop_zero, hparts] at hmk
  have hl := mk_len _ hok _ _ _ (fun u hu => by cases hu) hmk
  have hp := (sor_perm us).length_eq
  simp only [nrm, List.map_nil, List.length_nil, Nat.zero_add, List.length_map] at hl
  unfold nrmR
  split
  · unfold allU
    omega
  · exact Nat.zero_le _
end Go.Vt
/- Runs made into moving points by two roads: plain. Conditions: those that each statement names. -/
set_option linter.unusedSimpArgs false
set_option linter.unusedVariables false
set_option maxHeartbeats 2000000
set_option maxRecDepth 100000
namespace Go.Vt
open Go.RowKit Go.Proofs
open Fv (va red)
/-- A run as the program makes them, its times moved or not. -/
structure RLn (N : Nat) (r : RD) : Prop where
  fr : r.I.From = ⟨(gi r.pts 0).T, 0, false⟩
  to : r.I.To = ⟨(gi r.pts ((r.pts.length - 1 : Nat) : Int)).T, 0, false⟩
  fl : r.pts.length = 1 → r.I.OpenFrom = false ∧ r.I.OpenTo = false
  B : Bnd r.pts
  i : Inc r.pts
  l1 : 1 ≤ r.pts.length
  l2 : r.pts.length ≤ N
  nb : N ≤ 13
abbrev K0 : Nat := 6291460
abbrev K1 : Nat := 4 * K0 + 4
abbrev K2 : Nat := 4 * K1 + 4
theorem stl_K {pts : List SS} (hB : Bnd pts) (i : Nat) : LnOk K0 (stl (gi pts (i : Int)) (gi pts ((i + 1 : Nat) : Int))) := by
  obtain ⟨h1, h2, h3⟩ := hB (i : Int)
  obtain ⟨h4, h5, h6⟩ := hB ((i + 1 : Nat) : Int)
  have := MB.mk h1
  have := MB.mk h2
  have := MB.mk h3
  have := MB.mk h4
  have := MB.mk h5
  have := MB.mk h6
  exact ⟨MB.lt (q := (stl (gi pts (i : Int)) (gi pts ((i + 1 : Nat) : Int))).X0) rfl, MB.lt (q := (stl (gi pts (i : Int)) (gi pts ((i + 1 : Nat) : Int))).X1) rfl, MB.lt (q := (stl (gi pts (i : Int)) (gi pts ((i + 1 : Nat) : Int))).Y0) rfl, MB.lt (q := (stl (gi pts (i : Int)) (gi pts ((i + 1 : Nat) : Int))).Y1) rfl⟩
theorem K_one : K0 ≤ K1 ∧ K1 ≤ KN ∧ K0 ≤ KN ∧ K2 ≤ KN ∧ PB ≤ K0 ∧ KN ≤ BQ := by decide
theorem sgU_K {pts : List SS} (hB : Bnd pts) (i : Nat) : UK K0 (toU (sgU pts i)) :=
  ⟨⟨rfl, rfl, rfl, rfl, Nat.le_trans (hB (i : Int)).1 K_one.2.2.2.2.1, Nat.le_trans (hB ((i + 1 : Nat) : Int)).1 K_one.2.2.2.2.1⟩, stl_K hB i⟩
theorem bsU_K {I : R_api_Interval} {pts : List SS} (hB : Bnd pts) (i : Nat) : UK K0 (toU (bsU I pts i)) :=
  ⟨⟨rfl, rfl, rfl, rfl, Nat.le_trans (hB (i : Int)).1 K_one.2.2.2.2.1, Nat.le_trans (hB ((i + 1 : Nat) : Int)).1 K_one.2.2.2.2.1⟩, stl_K hB i⟩
def bW (I : R_api_Interval) (pts : List SS) (m : Nat) : List UL := (bs I pts m).map toU
theorem bW_succ (I : R_api_Interval) (pts : List SS) (m : Nat) : bW I pts (m + 1) = bW I pts m ++ [toU (bsU I pts m)] := by
  show ((bs I pts m ++ [bsU I pts m]).map toU) = _
  rw [List.map_append]
  rfl
theorem bW_mem {I : R_api_Interval} {pts : List SS} {u : UL} : ∀ {m : Nat}, u ∈ bW I pts m ↔ ∃ i, i < m ∧ u = toU (bsU I pts i)
  | 0 => by
    constructor
    · intro h; cases h
    · rintro ⟨i, h, -⟩; omega
  | m + 1 => by
    rw [bW_succ, List.mem_append, bW_mem, List.mem_singleton]
    constructor
    · rintro (⟨i, h1, h2⟩ | h)
      · exact ⟨i, by omega, h2⟩
      · exact ⟨m, by omega, h⟩
    · rintro ⟨i, h1, h2⟩
      rcases (by omega : i < m ∨ i = m) with h3 | h3
      · exact .inl ⟨i, h3, h2⟩
      · exact .inr (h3 ▸ h2)
theorem sgW_mem' {pts : List SS} {m : Nat} {u : UL} : u ∈ sgW pts m ↔ ∃ i, i < m ∧ u = toU (sgU pts i) := by
  refine ⟨sgW_mem, ?_⟩
  rintro ⟨i, h, rfl⟩
  rw [← sgW_get h]
  exact gi_mem (by rw [sgW_len]; omega)
theorem bsU_mem {N : Nat} {r : RD} (h : RLn N r) {i : Nat} (hi : i + 1 < r.pts.length) (t : Rat) : memI (bsU r.I r.pts i).In t ↔ memI (sgU r.pts i).In t ∧ memI r.I t := by
  have e1 : r.I.From.P = (gi r.pts ((0 : Nat) : Int)).T := by rw [h.fr]; rfl
  have e2 : r.I.To.P = (gi r.pts ((r.pts.length - 1 : Nat) : Int)).T := by rw [h.to]
  have k1 := h.i i hi
  have k2 : 0 < i → (gi r.pts ((0 : Nat) : Int)).T < (gi r.pts (i : Int)).T := fun h0 => h.i.lt h0 (by omega)
  have k3 : i + 2 < r.pts.length → (gi r.pts ((i + 1 : Nat) : Int)).T < (gi r.pts ((r.pts.length - 1 : Nat) : Int)).T := fun h0 => h.i.lt (by omega) (by omega)
  unfold memI bsU sgU
  simp only [e1, e2]
  rcases (by omega : i = 0 ∨ 0 < i) with h0 | h0
  · subst h0
    rcases (by omega : 0 + 2 = r.pts.length ∨ 0 + 2 < r.pts.length) with h4 | h4
    · rw [if_pos rfl, if_pos h4, show r.pts.length - 1 = 0 + 1 by omega]
      have : decide ((1 : Int) < ((0 + 1 : Nat) : Int)) = false := by decide
      rw [this]
      grind
    · have := k3 h4
      rw [if_pos rfl, if_neg (by omega)]
      have : decide ((1 : Int) < ((0 + 1 : Nat) : Int)) = false := by decide
      rw [this]
      grind
  · have := k2 h0
    have e3 : decide ((1 : Int) < ((i + 1 : Nat) : Int)) = true := decide_eq_true (by omega)
    rw [e3, if_neg (by omega)]
    rcases (by omega : i + 2 = r.pts.length ∨ i + 2 < r.pts.length) with h4 | h4
    · rw [if_pos h4, show r.pts.length - 1 = i + 1 by omega]
      grind
    · have := k3 h4
      rw [if_neg (by omega)]
      grind
theorem bsU_bfr {N : Nat} {r : RD} (h : RLn N r) {i m : Nat} (him : i < m) (hm : m + 1 < r.pts.length) : (absU (toU (bsU r.I r.pts i))).bfr (absU (toU (bsU r.I r.pts m))) := by
  rcases (by omega : i + 1 = m ∨ i + 1 < m) with h1 | h1
  · subst h1
    exact .inr ⟨rfl, .inr (by show (if i + 1 = 0 then r.I.OpenFrom else true) = true; rw [if_neg (by omega)])⟩
  · exact .inl (h.i.lt h1 (by omega))
theorem bsU_lt {N : Nat} {r : RD} (h : RLn N r) {i : Nat} (hi : i + 1 < r.pts.length) : (absU (toU (bsU r.I r.pts i))).a < (absU (toU (bsU r.I r.pts i))).b := h.i i hi
theorem bW_pw {N : Nat} {r : RD} (h : RLn N r) : ∀ m, m + 1 ≤ r.pts.length → ((bW r.I r.pts m).map absU).Pairwise Dis
  | 0, _ => List.Pairwise.nil
  | m + 1, hm => by
    rw [bW_succ, List.map_append, List.pairwise_append]
    refine ⟨bW_pw h m (by omega), List.pairwise_singleton _ _, fun u hu w hw => ?_⟩
    obtain ⟨x, hx, rfl⟩ := List.mem_map.1 hu
    obtain ⟨i, h1, rfl⟩ := bW_mem.1 hx
    obtain rfl := List.mem_singleton.1 hw
    exact (bsU_bfr h h1 (by omega)).Dis
theorem bW_has {N : Nat} {r : RD} (h : RLn N r) {m : Nat} (hm : m + 1 ≤ r.pts.length) {t : Rat} {v : R_api_Point} : Has ((bW r.I r.pts m).map absU) t v ↔ Has ((sgW r.pts m).map absU) t v ∧ memI r.I t := by
  rw [has_map, has_map]
  constructor
  · rintro ⟨u, hu, h1, h2⟩
    obtain ⟨i, h3, rfl⟩ := bW_mem.1 hu
    obtain ⟨h4, h5⟩ := (bsU_mem h (by omega) t).1 h1
    exact ⟨⟨_, sgW_mem'.2 ⟨i, h3, rfl⟩, h4, h2⟩, h5⟩
  · rintro ⟨⟨u, hu, h1, h2⟩, h5⟩
    obtain ⟨i, h3, rfl⟩ := sgW_mem'.1 hu
    exact ⟨_, bW_mem.2 ⟨i, h3, rfl⟩, (bsU_mem h (by omega) t).2 ⟨h1, h5⟩, h2⟩
def frW (pts : List SS) : List UL := mpN toU (frS pts) (frS pts).length
theorem frW_one {pts : List SS} (h : pts.length = 1) : frW pts = [toU (one1 (gi pts 0))] := by
  unfold frW
  rw [mpN_all]
  have : frS pts = [one1 (gi pts 0)] := by unfold frS; rw [if_pos h]
  rw [this]
  rfl
theorem one_K {pts : List SS} (hB : Bnd pts) : UK K0 (toU (one1 (gi pts 0))) := by
  have h0 : M 0 ≤ K0 := by decide
  have h1 := K_one.2.2.2.2.1
  exact ⟨⟨rfl, rfl, rfl, rfl, Nat.le_trans (hB 0).1 h1, Nat.le_trans (hB 0).1 h1⟩, ⟨Nat.le_trans (hB 0).2.1 h1, h0, Nat.le_trans (hB 0).2.2 h1, h0⟩⟩
/-- The units of the first road. -/
def b1W (r : RD) : List UL := (b1 r.I r.pts).map toU
theorem RLn.one {N : Nat} {r : RD} (h : RLn N r) (h1 : r.pts.length = 1) : b1W r = frW r.pts ∧ r.I = (one1 (gi r.pts 0)).In := by
  have e1 : r.I = (one1 (gi r.pts 0)).In := by
    obtain ⟨f1, f2⟩ := h.fl h1
    have f3 := h.fr
    have f4 := h.to
    rw [h1] at f4
    cases hI : r.I with
    | mk a b c d =>
      rw [hI] at f1 f2 f3 f4
      simp only at f1 f2 f3 f4
      rw [f1, f2, f3, f4]
      rfl
  refine ⟨?_, e1⟩
  rw [frW_one h1]
  unfold b1W b1
  rw [if_pos h1, e1]
  rfl
theorem RLn.two {r : RD} (h1 : ¬ r.pts.length = 1) : b1W r = bW r.I r.pts (r.pts.length - 1) := by
  unfold b1W b1 bW
  rw [if_neg h1]
theorem RLn.iv {N : Nat} {r : RD} (h : RLn N r) : IvOk K0 r.I := by
  have h1 := K_one.2.2.2.2.1
  exact ⟨by rw [h.fr], by rw [h.to], by rw [h.fr], by rw [h.to], by rw [h.fr]; exact Nat.le_trans (h.B _).1 h1, by rw [h.to]; exact Nat.le_trans (h.B _).1 h1⟩
/-- What a list of units is, that the normal form asks for. -/
structure Fit (K : Nat) (A : List UL) : Prop where
  k : ∀ u ∈ A, UK K u
  o : ∀ u ∈ A, (absU u).ok
  p : (A.map absU).Pairwise Dis
theorem Fit.val {K : Nat} {A : List UL} (h : Fit K A) (hk : K ≤ KN) : UVal A := ⟨fun u hu => (h.k u hu).uin hk, h.o⟩
theorem one_fit {pts : List SS} (hB : Bnd pts) : Fit K0 [toU (one1 (gi pts 0))] :=
  ⟨fun u hu => List.mem_singleton.1 hu ▸ one_K hB, fun u hu => List.mem_singleton.1 hu ▸ .inr ⟨rfl, rfl, rfl⟩, List.pairwise_singleton _ _⟩
theorem b1_fit {N : Nat} {r : RD} (h : RLn N r) : Fit K0 (b1W r) := by
  by_cases h1 : r.pts.length = 1
  · rw [(h.one h1).1, frW_one h1]
    exact one_fit h.B
  · rw [RLn.two h1]
    have := h.l1
    refine ⟨fun u hu => ?_, fun u hu => ?_, bW_pw h _ (by omega)⟩
    · obtain ⟨i, h3, rfl⟩ := bW_mem.1 hu
      exact bsU_K h.B i
    · obtain ⟨i, h3, rfl⟩ := bW_mem.1 hu
      exact .inl (bsU_lt h (by omega))
theorem fr_fit {N : Nat} {r : RD} (h : RLn N r) : Fit K1 (frW r.pts) := by
  by_cases h1 : r.pts.length = 1
  · rw [frW_one h1]
    obtain ⟨k, o, p⟩ := one_fit h.B
    exact ⟨fun u hu => (k u hu).mono K_one.1, o, p⟩
  · have := h.l1
    have e : frW r.pts = nrmR (sgW r.pts (r.pts.length - 1)) := by
      unfold frW frS
      rw [if_neg h1, mNorm_U]
      rfl
    obtain ⟨-, n1, -, -⟩ := frS_law h.B h.i (by omega)
    rw [e]
    refine ⟨nrmR_K (fun u hu => ?_), fun u hu => ?_, ?_⟩
    · obtain ⟨i, h3, rfl⟩ := sgW_mem'.1 hu
      exact sgU_K h.B i
    · rw [← e] at hu
      exact n1.ok _ (List.mem_map.2 ⟨u, hu, rfl⟩)
    · rw [← e]
      exact n1.pw.imp fun k => k.bf.Dis
theorem b1_has {N : Nat} {r : RD} (h : RLn N r) {t : Rat} {v : R_api_Point} : Has ((b1W r).map absU) t v ↔ Has ((frW r.pts).map absU) t v ∧ memI r.I t := by
  by_cases h1 : r.pts.length = 1
  · obtain ⟨e1, e2⟩ := h.one h1
    rw [e1]
    refine ⟨fun k => ⟨k, ?_⟩, fun k => k.1⟩
    rw [frW_one h1, has_map] at k
    obtain ⟨u, hu, k1, k2⟩ := k
    rw [List.mem_singleton.1 hu] at k1
    rw [e2]
    exact k1
  · have := h.l1
    rw [RLn.two h1, bW_has h (by omega)]
    obtain ⟨-, -, -, n4⟩ := frS_law h.B h.i (by omega)
    exact and_congr (n4 t v).symm Iff.rfl
/-- The units of the second road. -/
def mrW (r : RD) : List UL := mRes (frS r.pts) [r.I]
theorem mr_fit {N : Nat} {r : RD} (h : RLn N r) : Fit K1 (mrW r) := by
  obtain ⟨k, o, p⟩ := fr_fit h
  refine ⟨ro_K k (fun d hd => ?_), ro_ok, ro_pw p (List.pairwise_singleton _ _) _ (Nat.le_refl _)⟩
  rw [List.mem_singleton.1 hd]
  exact ⟨h.iv.r1, h.iv.r2, h.iv.n1, h.iv.n2, Nat.le_trans h.iv.m1 K_one.1, Nat.le_trans h.iv.m2 K_one.1⟩
theorem mr_has {N : Nat} {r : RD} (h : RLn N r) {t : Rat} {v : R_api_Point} : Has ((mrW r).map absU) t v ↔ Has ((b1W r).map absU) t v := by
  rw [b1_has h]
  refine (ro_has (us := frW r.pts) (ds := [r.I])).trans (and_congr Iff.rfl ?_)
  simp
def buW (r : RD) : List UL := mpN toU (bu r) (bu r).length
theorem buW_eq (r : RD) : buW r = nrmR (mrW r) := toU_ofU _
theorem bu_nf {N : Nat} {r : RD} (h : RLn N r) : NF ((buW r).map absU) ∧ ∀ t v, Has ((buW r).map absU) t v ↔ Has ((b1W r).map absU) t v := by
  rw [buW_eq]
  have hf := mr_fit h
  obtain ⟨n1, n2⟩ := nrm_nf (hf.val K_one.2.1) hf.p
  exact ⟨n1, fun t v => (n2 t v).trans (mr_has h)⟩
theorem bu_fit {N : Nat} {r : RD} (h : RLn N r) : Fit K2 (buW r) := by
  obtain ⟨n1, -⟩ := bu_nf h
  refine ⟨?_, fun u hu => n1.ok _ (List.mem_map.2 ⟨u, hu, rfl⟩), n1.pw.imp fun k => k.bf.Dis⟩
  rw [buW_eq]
  exact nrmR_K (mr_fit h).k
theorem frW_len {N : Nat} {r : RD} (h : RLn N r) : (frW r.pts).length ≤ 18 := by
  by_cases h1 : r.pts.length = 1
  · rw [frW_one h1]; exact Nat.le_of_ble_eq_true rfl
  · have e : frW r.pts = nrmR (sgW r.pts (r.pts.length - 1)) := by
      unfold frW frS
      rw [if_neg h1, mNorm_U]
      rfl
    have hl1 := h.l1
    have h2 := nrmR_few (sgW_val h.B h.i (m := r.pts.length - 1) (by omega))
    have h3 := sgW_len r.pts (r.pts.length - 1)
    have := h.l2
    have := h.nb
    rw [e]
    omega
theorem mr_len {N : Nat} {r : RD} (h : RLn N r) : (mrW r).length ≤ 18 := by
  have h1 := ro_len (frW r.pts) [r.I] (frW r.pts).length
  have h2 := frW_len h
  have : (mrW r).length ≤ (frW r.pts).length * 1 := h1
  omega
theorem b1W_len {N : Nat} {r : RD} (h : RLn N r) : (b1W r).length = (if r.pts.length = 1 then 1 else r.pts.length - 1) ∧ (b1W r).length ≤ 13 := by
  have := h.l1
  have := h.l2
  have := h.nb
  have e : (b1W r).length = (if r.pts.length = 1 then 1 else r.pts.length - 1) := by
    unfold b1W b1
    rw [List.length_map]
    split
    · rfl
    · rw [bs_len]
  refine ⟨e, ?_⟩
  rw [e]
  split <;> omega
theorem RLn.res {N : Nat} {r : RD} (h : RLn N r) : ResOk (frS r.pts) [r.I] := by
  have hb := K_one
  have hm := fr_fit h
  have hk : ∀ {K : Nat} {I : R_api_Interval}, IvOk K I → K ≤ KN → IvOk BQ I := fun g k => ⟨g.r1, g.r2, g.n1, g.n2, Nat.le_trans g.m1 (Nat.le_trans k hb.2.2.2.2.2), Nat.le_trans g.m2 (Nat.le_trans k hb.2.2.2.2.2)⟩
  have hl : (frS r.pts).length = (frW r.pts).length := (mpN_len _ _ _).symm
  have h18 := frW_len h
  refine ⟨by omega, Nat.le_of_ble_eq_true rfl, Nat.le_trans (mr_len h) (by decide), fun u hu => hk (hm.k u hu).i hb.2.1, fun d hd => ?_, fun u hu => ((mr_fit h).k u hu).uin hb.2.1⟩
  rw [List.mem_singleton.1 hd]
  exact hk h.iv hb.2.2.1
theorem dis_app {A B : List (GU Rat R_api_Line)} : (A ++ B).Pairwise Dis ↔ A.Pairwise Dis ∧ B.Pairwise Dis ∧ ∀ t, ¬ ((∃ v, Has A t v) ∧ ∃ v, Has B t v) := by
  rw [List.pairwise_append]
  refine and_congr Iff.rfl (and_congr Iff.rfl ?_)
  constructor
  · rintro h t ⟨⟨v, u, hu, h1, -⟩, v', w, hw, h2, -⟩
    exact h u hu w hw t ⟨h1, h2⟩
  · intro h u hu w hw t ⟨h1, h2⟩
    exact h t ⟨⟨_, u, hu, h1, rfl⟩, _, w, hw, h2, rfl⟩
def bAW (rs : List RD) (m : Nat) : List UL := (bA rs m).map toU
def buAW (rs : List RD) (m : Nat) : List UL := (buA rs m).map toU
theorem bAW_succ (rs : List RD) (m : Nat) : bAW rs (m + 1) = bAW rs m ++ b1W (gi rs (m : Int)) := by
  show ((bA rs m ++ b1 _ _).map toU) = _
  rw [List.map_append]
  rfl
theorem buAW_succ (rs : List RD) (m : Nat) : buAW rs (m + 1) = buAW rs m ++ buW (gi rs (m : Int)) := by
  show ((buA rs m ++ bu _).map toU) = _
  rw [List.map_append]
  unfold buW
  rw [mpN_all]
  rfl
theorem roads {N : Nat} {rs : List RD} (h : ∀ r ∈ rs, RLn N r) : ∀ m, m ≤ rs.length → ((∀ u ∈ bAW rs m, UK K0 u ∧ (absU u).ok) ∧ (∀ u ∈ buAW rs m, UK K2 u ∧ (absU u).ok)) ∧ (∀ t v, Has ((buAW rs m).map absU) t v ↔ Has ((bAW rs m).map absU) t v) ∧ (((buAW rs m).map absU).Pairwise Dis ↔ ((bAW rs m).map absU).Pairwise Dis)
  | 0, _ => by
    refine ⟨⟨fun u hu => ?_, fun u hu => ?_⟩, fun t v => Iff.rfl, Iff.rfl⟩
    · cases hu
    · cases hu
  | m + 1, hm => by
    obtain ⟨⟨g1, g2⟩, g3, g4⟩ := roads h m (by omega)
    have hr := h _ (gi_mem (i := (m : Int)) (xs := rs) (by omega))
    have f1 := b1_fit hr
    have f2 := bu_fit hr
    obtain ⟨-, n2⟩ := bu_nf hr
    rw [bAW_succ, buAW_succ]
    refine ⟨⟨fun u hu => ?_, fun u hu => ?_⟩, fun t v => ?_, ?_⟩
    · rcases List.mem_append.1 hu with k | k
      · exact g1 u k
      · exact ⟨f1.k u k, f1.o u k⟩
    · rcases List.mem_append.1 hu with k | k
      · exact g2 u k
      · exact ⟨f2.k u k, f2.o u k⟩
    · rw [List.map_append, List.map_append, has_app, has_app, g3, n2]
    · rw [List.map_append, List.map_append, dis_app, dis_app, g4]
      refine and_congr Iff.rfl (and_congr ⟨fun _ => f1.p, fun _ => f2.p⟩ ?_)
      simp only [g3, n2]
end Go.Vt
/- A region that draws its order: values anywhere, effects in one of many orders; a cut that turns the list of blocks. Conditions: the closed check 'tqA'. -/
set_option linter.unusedSimpArgs false
set_option linter.unusedVariables false
set_option maxHeartbeats 2000000
set_option linter.unusedSectionVars false
namespace Go.Vt
open Go.RowKit
section
variable {P : Program} {w0 : World} {n : Nat} {ops : Array Oper} {L L' Lw : List Blk} {E : Env}
variable {Q : Exit → Act → World → Prop} {v : Value}
inductive Tq where
  | fin
  | v (hs : List Nat) (t : Tq)
  | no
  | br (i : Nat) (t : Tq) (u : Tq)
def Tq.ch : Tq → Bool
  | .no => true
  | .br _ _ _ => true
  | _ => false
end
class SbpC (A L : List Blk) : Prop where
  out : ∃ L', L.Perm (A ++ L')
instance sbpNil (L : List Blk) : SbpC [] L := ⟨L, .refl _⟩
instance sbpCons (b : Nat) (cs : Array Value) (T : TypeId) (A L L1 : List Blk) [h : DelC b L cs T L1] [k : SbpC A L1] : SbpC (⟨b, cs, T⟩ :: A) L := ⟨by
  obtain ⟨L', hp⟩ := k.out
  exact ⟨L', h.out.trans (hp.cons _)⟩⟩
theorem jx_midP {w0 : World} {n : Nat} {Q : Exit → Act → World → Prop} {E : Env} {L : List Blk} {S : Type} {I : S → Prop} {Es : S → Env} {Ls : S → List Blk} (s : S) (hs : I s) (hE : Sub E (Es s)) (hL : SbpC (Ls s) L) : JX w0 n .normal (MidQ w0 n I Es Ls (fun _ _ => True) Q) E L := ⟨fun a w ha hw => by
  obtain ⟨L', hp⟩ := hL.out
  exact (jx_mid (L := Ls s ++ L') s hs hE (List.sublist_append_left _ _)).out a w ha (hw.perm hp)⟩
end Go.Vt
/- Trajectories of cars, walked: the parts. Conditions: those that each statement names. -/
set_option linter.unusedSimpArgs false
set_option linter.unusedVariables false
set_option maxHeartbeats 2000000
set_option maxRecDepth 100000
namespace Go.Vt
open Go.RowKit Go.Proofs
instance sp_toInt (k : Nat) : SpecC Tryz.prog 118 [vI (k : Int)] (.tuple #[.int .i64 (k : Int), .bool true]) (k ≤ 1048576) := ⟨fun hp w => by
  have e : vI (k : Int) = .agg (e_api_Int ⟨false, mag k⟩) := by
    show Value.agg (e_api_Int ⟨decide ((k : Int) < 0), mag (k : Int).natAbs⟩) = _
    rw [decide_eq_false (by omega)]
    rfl
  have h1 : sm k = true := decide_eq_true (by omega)
  have h2 : lo k = k := lo_sm h1
  rw [e]
  refine fn_intro Tryz.func118 rfl Tryz.ntmps118 rfl ?_
  repeat (refine wkB ?_; try intro _)
  simp only [h1, h2, Bool.not_true, Bool.not_false]
  repeat (refine wkB ?_; try intro _)
  simp only [decide_eq_true (show (k : Int) ≤ 9223372036854775807 by omega)]
  repeat (refine wkB ?_; try intro _)
  exact jx_ret_two rfl (resv_tmp rfl) (resv_tmp rfl) (fun w hw => ret_ok hw)⟩
def smp (t x y : Int) : SS := ⟨(t : Rat), ⟨(x : Rat), (y : Rat)⟩⟩
instance sp_smp15 (t x y : Int) : SpecC Tryz.prog 117 [.int .i64 t, .int .i64 x, .int .i64 y] (vS (smp t x y)) ((-9223372036854775808 ≤ t ∧ t ≤ 9223372036854775807) ∧ (-9223372036854775808 ≤ x ∧ x ≤ 9223372036854775807) ∧ (-9223372036854775808 ≤ y ∧ y ≤ 9223372036854775807)) := ⟨fun hp w => by
  obtain ⟨h1, h2, h3⟩ := hp
  refine fn_intro Tryz.func117 rfl Tryz.ntmps117 rfl ?_
  repeat (refine wkB ?_; try intro _)
  exact wx_cell rfl rfl (fun w hw => ret_ok hw)⟩
instance sp_through (a b : R_movingpoint_Sample) : SpecC Tryz.prog 119 [vS a, vS b] (vLn (stl a b)) ((M a.T ≤ 34359738368 ∧ M a.P.X ≤ 34359738368 ∧ M a.P.Y ≤ 34359738368) ∧ (M b.T ≤ 34359738368 ∧ M b.P.X ≤ 34359738368 ∧ M b.P.Y ≤ 34359738368)) := ⟨fun hp w => by
  obtain ⟨⟨h1, h2, h3⟩, h4, h5, h6⟩ := hp
  refine fn_intro Tryz.func119 rfl Tryz.ntmps119 rfl ?_
  repeat (first | (refine wkB ?_; try intro _) | (refine sC rfl rfl ?_ ?_; focus (exact ⟨by assumption, by assumption, by assumption, by assumption⟩)) | (refine sN rfl rfl ?_ ?_; (focus (exact ⟨by assumption, by assumption, by assumption, by assumption⟩)); intro _; (try simp only [List.cons_append, List.nil_append, List.append_nil])))
  exact wx_cell rfl rfl (fun w hw => ret_ok hw)⟩
def stil (p : R_api_Point) : R_api_Line := ⟨p.X, 0, p.Y, 0⟩
instance sp_still (p : R_api_Point) : SpecC Tryz.prog 120 [vP p] (vLn (stil p)) True := ⟨fun hp w => by
  refine fn_intro Tryz.func120 rfl Tryz.ntmps120 rfl ?_
  repeat (refine wkB ?_; try intro _)
  exact wx_cell rfl rfl (fun w hw => ret_ok hw)⟩
theorem units15_spec (v : Value) (us : List PU) (w : World) (hv : ArgS w v rP us) (hl : us.length ≤ 1048576) :
    Calls Tryz.prog 157 [v].toArray w (RetM (SlS rU 36 (mpN toU us us.length)) (fun s => vSl s) (fun s => mS 163 s) w) := by
  refine fn_intro Tryz.func157 rfl Tryz.ntmps157 rfl ?_
  obtain ⟨p, cp, rfl⟩ := hv.form
  repeat (refine wkB ?_; try intro _)
  refine j_loop (S := (m : Nat) × SlS rU 36 (mpN toU us m)) (fun s => s.1 ≤ us.length) (fun s => [(0, .slice p us.length cp), (3, vSl s.2), (4, .int .i64 (s.1 : Nat))]) (fun s => mS 163 s.2) (fun s => us.length - s.1) ⟨0, SlS.no⟩
    (Nat.zero_le _) sbB slB (fun s hm => ?_)
  obtain ⟨m, s⟩ := s
  simp only at hm ⊢
  repeat (refine wkB ?_; try intro _)
  refine j_cond rfl (fun h => ?_) (fun h => ?_)
  · have hlt : m < us.length := by have := of_decide_eq_true h; omega
    have hne : us ≠ [] := fun h0 => by rw [h0] at hlt; simp at hlt
    obtain ⟨bw, ow, cw, hvw, hcw, hrow⟩ := hv.blk (k := 35) hne []
    injection hvw with e1 e2 e3
    subst e1
    subst e3
    have hrow' : ∀ L, RowC w L bw ow PU rP us := fun L => ⟨fun w' hw' => hrow.out w' (hw'.sub (List.nil_sublist _))⟩
    have hml := mpN_len toU us m
    repeat (refine wkB ?_; try intro _)
    (refine j_tree (.v [0, 1, 2, 3, 4, 5, 6, 7, 8, 9, 10, 11] (.e1 12 (.e1 13 (.e1 14 (.fin))))) ([]) (h := ?_); refine wkX ?_)
    (repeat (refine wkH ?_))
    repeat (refine wkT ?_; try intro _)
    refine eU rfl rfl ?_ ?_ ?_ ?_
    · rfl
    · rfl
    · exact ⟨by decide, by omega, by omega⟩
    intro s'
    repeat (refine wkT ?_; try intro _)
    repeat (first | (refine wkB ?_; try intro _) | (refine sC rfl rfl ?_ ?_; focus (exact ⟨by omega, by omega⟩)) | (refine sN rfl rfl ?_ ?_; (focus (exact ⟨by omega, by omega⟩)); intro _; (try simp only [List.cons_append, List.nil_append, List.append_nil])))
    exact jx_loop ⟨m + 1, s'⟩ hlt sbB suB (by show us.length - (m + 1) < us.length - m; omega)
  · have hge : m = us.length := by have := of_decide_eq_false h; omega
    subst hge
    repeat (refine wkB ?_; try intro _)
    exact jx_ret_tmp rfl rfl (fun w hw => ⟨s, rfl, hw.sub sbl⟩)
theorem points15_spec (v : Value) (us : List UL) (w : World) (hv : ArgS w v rU us) (hl : us.length ≤ 1048576) :
    Calls Tryz.prog 158 [v].toArray w (RetM (SlS rP 36 (mpN ofU us us.length)) (fun s => vSl s) (fun s => mS 68 s) w) := by
  refine fn_intro Tryz.func158 rfl Tryz.ntmps158 rfl ?_
  obtain ⟨p, cp, rfl⟩ := hv.form
  repeat (refine wkB ?_; try intro _)
  refine j_loop (S := (m : Nat) × SlS rP 36 (mpN ofU us m)) (fun s => s.1 ≤ us.length) (fun s => [(0, .slice p us.length cp), (3, vSl s.2), (4, .int .i64 (s.1 : Nat))]) (fun s => mS 68 s.2) (fun s => us.length - s.1) ⟨0, SlS.no⟩
    (Nat.zero_le _) sbB slB (fun s hm => ?_)
  obtain ⟨m, s⟩ := s
  simp only at hm ⊢
  repeat (refine wkB ?_; try intro _)
  refine j_cond rfl (fun h => ?_) (fun h => ?_)
  · have hlt : m < us.length := by have := of_decide_eq_true h; omega
    have hne : us ≠ [] := fun h0 => by rw [h0] at hlt; simp at hlt
    obtain ⟨bw, ow, cw, hvw, hcw, hrow⟩ := hv.blk (k := 35) hne []
    injection hvw with e1 e2 e3
    subst e1
    subst e3
    have hrow' : ∀ L, RowC w L bw ow UL rU us := fun L => ⟨fun w' hw' => hrow.out w' (hw'.sub (List.nil_sublist _))⟩
    have hml := mpN_len ofU us m
    repeat (refine wkB ?_; try intro _)
    (refine j_tree (.v [0, 1, 2, 3, 4, 5, 6, 7, 8, 9, 10, 11] (.e1 12 (.e1 13 (.e1 14 (.fin))))) ([]) (h := ?_); refine wkX ?_)
    (repeat (refine wkH ?_))
    repeat (refine wkT ?_; try intro _)
    refine eU rfl rfl ?_ ?_ ?_ ?_
    · rfl
    · rfl
    · exact ⟨by decide, by omega, by omega⟩
    intro s'
    repeat (refine wkT ?_; try intro _)
    repeat (first | (refine wkB ?_; try intro _) | (refine sC rfl rfl ?_ ?_; focus (exact ⟨by omega, by omega⟩)) | (refine sN rfl rfl ?_ ?_; (focus (exact ⟨by omega, by omega⟩)); intro _; (try simp only [List.cons_append, List.nil_append, List.append_nil])))
    exact jx_loop ⟨m + 1, s'⟩ hlt sbB suB (by show us.length - (m + 1) < us.length - m; omega)
  · have hge : m = us.length := by have := of_decide_eq_false h; omega
    subst hge
    repeat (refine wkB ?_; try intro _)
    exact jx_ret_tmp rfl rfl (fun w hw => ⟨s, rfl, hw.sub sbl⟩)
instance sr_units15 (w0 : World) (L : List Blk) (v : Value) (us : List PU) [h : LstC w0 L v PU rP us] : SpecR Tryz.prog w0 L 157 [v] (SlS rU 36 (mpN toU us us.length)) (fun s => vSl s) (fun s => mS 163 s) (us.length ≤ 1048576) := ⟨fun hp w hw => units15_spec v us w (h.out w hw) hp⟩
instance sr_points15 (w0 : World) (L : List Blk) (v : Value) (us : List UL) [h : LstC w0 L v UL rU us] : SpecR Tryz.prog w0 L 158 [v] (SlS rP 36 (mpN ofU us us.length)) (fun s => vSl s) (fun s => mS 68 s) (us.length ≤ 1048576) := ⟨fun hp w hw => points15_spec v us w (h.out w hw) hp⟩
theorem normal15_spec (v : Value) (us : List PU) (w : World) (hv : ArgS w v rP us) (hl : us.length ≤ 19) (hok : ∀ u ∈ mpN toU us us.length, UIn u) :
    Calls Tryz.prog 121 [v].toArray w (RetM (SlS rP 36 (mNorm us)) (fun s => .tuple #[vSl s, .int .i64 (nrmE (mpN toU us us.length))]) (fun s => mS 68 s) w) := by
  have := ArgC.mk hv
  have hml := mpN_len toU us us.length
  have hnl := nrmR_len (mpN toU us us.length)
  refine fn_intro Tryz.func121 rfl Tryz.ntmps121 rfl ?_
  repeat (first | (refine wkB ?_; try intro _) | (refine sC rfl rfl ?_ ?_; focus (first | exact trivial | omega | exact ⟨by omega, hok⟩)) | (refine sN rfl rfl ?_ ?_; (focus (first | exact trivial | omega | exact ⟨by omega, hok⟩)); intro _; (try simp only [List.cons_append, List.nil_append, List.append_nil])))
  rename_i s1 s2 s3
  exact jx_ret_two rfl (resv_tmp rfl) (resv_tmp rfl) (fun w hw => ⟨s3, rfl, hw.sub suB⟩)
instance sr_normal15 (w0 : World) (L : List Blk) (v : Value) (us : List PU) [h : LstC w0 L v PU rP us] : SpecR Tryz.prog w0 L 121 [v] (SlS rP 36 (mNorm us)) (fun s => .tuple #[vSl s, .int .i64 (nrmE (mpN toU us us.length))]) (fun s => mS 68 s) (us.length ≤ 19 ∧ ∀ u ∈ mpN toU us us.length, UIn u) := ⟨fun hp w hw => normal15_spec v us w (h.out w hw) hp.1 hp.2⟩
end Go.Vt
/- Trajectories of cars, walked. Conditions: those that each statement names. -/
set_option linter.unusedSimpArgs false
set_option linter.unusedVariables false
set_option maxHeartbeats 2000000
set_option maxRecDepth 100000
namespace Go.Vt
open Go.RowKit Go.Proofs
instance sbpOwn {α : Type} {enc : α → Array Value} {k : Nat} {xs : List α} (T : TypeId) (s : SlS enc k xs) (A L L1 : List Blk) [h : OwnS T s L L1] [g : SbpC A L1] : SbpC (mS T s ++ A) L := ⟨by
  obtain ⟨L', hp⟩ := g.out
  exact ⟨L', h.out.trans (by rw [List.append_assoc]; exact hp.append_left _)⟩⟩
abbrev Stp15 := viatorlaw15_Step
structure TjS where
  out : List PU
  t : Int
  x : Int
  y : Int
  al : Bool
def tjF (p : TjS) (s : Stp15) : SS := if s.Kind % 8 = 1 then smp p.t (s.Y % 64) (s.X % 64) else smp p.t p.x p.y
def tjU (p : TjS) (s : Stp15) : PU := ⟨⟨⟨((p.t : Int) : Rat), 0, false⟩, ⟨((p.t + 1 + s.Time % 8 : Int) : Rat), 0, false⟩, decide ((0 : Int) < p.out.length) && !p.al, false⟩, stl (tjF p s) (smp (p.t + 1 + s.Time % 8) (s.X % 64) (s.Y % 64))⟩
/-- What is known behind so many steps. -/
def tj (T X Y : Int) (ss : List Stp15) : Nat → TjS
  | 0 => ⟨[], T % 16, X % 64, Y % 64, true⟩
  | m + 1 => ⟨if (gi ss (m : Int)).Kind % 8 = 0 then (tj T X Y ss m).out else (tj T X Y ss m).out ++ [tjU (tj T X Y ss m) (gi ss (m : Int))], (tj T X Y ss m).t + 1 + (gi ss (m : Int)).Time % 8, (gi ss (m : Int)).X % 64, (gi ss (m : Int)).Y % 64, decide ((gi ss (m : Int)).Kind % 8 = 0)⟩
structure StOk (s : Stp15) : Prop where
  t : 0 ≤ s.Time ∧ s.Time ≤ 255
  x : 0 ≤ s.X ∧ s.X ≤ 255
  y : 0 ≤ s.Y ∧ s.Y ≤ 255
  k : 0 ≤ s.Kind ∧ s.Kind ≤ 255
theorem tj_bnd {T X Y : Int} (hT : 0 ≤ T ∧ 0 ≤ X ∧ 0 ≤ Y) {ss : List Stp15} (h : ∀ s ∈ ss, StOk s) : ∀ m, m ≤ ss.length → (0 ≤ (tj T X Y ss m).t ∧ (tj T X Y ss m).t ≤ 15 + 8 * m) ∧ (0 ≤ (tj T X Y ss m).x ∧ (tj T X Y ss m).x < 64) ∧ (0 ≤ (tj T X Y ss m).y ∧ (tj T X Y ss m).y < 64) ∧ (tj T X Y ss m).out.length ≤ m
  | 0, _ => by
    show (0 ≤ T % 16 ∧ T % 16 ≤ 15 + 8 * (0 : Nat)) ∧ (0 ≤ X % 64 ∧ X % 64 < 64) ∧ (0 ≤ Y % 64 ∧ Y % 64 < 64) ∧ 0 ≤ 0
    omega
  | m + 1, hm => by
    obtain ⟨h1, h2, h3, h4⟩ := tj_bnd hT h m (by omega)
    have hs := h _ (gi_mem (i := (m : Int)) (xs := ss) (by omega))
    have := hs.t
    have := hs.x
    have := hs.y
    rw [tj]
    simp only
    refine ⟨by omega, by omega, by omega, ?_⟩
    split
    · omega
    · rw [List.length_append]; simp; omega
/-- The units of a car. -/
def tjR (c : viatorlaw15_Car) (ss : List Stp15) : List PU := if (tj c.Time c.X c.Y ss ss.length).al = true then (tj c.Time c.X c.Y ss ss.length).out ++ [⟨⟨⟨((tj c.Time c.X c.Y ss ss.length).t : Rat), 0, false⟩, ⟨((tj c.Time c.X c.Y ss ss.length).t : Rat), 0, false⟩, false, false⟩, stil ⟨((tj c.Time c.X c.Y ss ss.length).x : Rat), ((tj c.Time c.X c.Y ss ss.length).y : Rat)⟩⟩] else (tj c.Time c.X c.Y ss ss.length).out
theorem smp_M {t x y : Int} (h1 : 0 ≤ t ∧ t < 256) (h2 : 0 ≤ x ∧ x < 256) (h3 : 0 ≤ y ∧ y < 256) : M (smp t x y).T ≤ 1 ∧ M (smp t x y).P.X ≤ 1 ∧ M (smp t x y).P.Y ≤ 1 := ⟨M_small h1, M_small h2, M_small h3⟩
theorem stl_K1 {a b : SS} (ha : M a.T ≤ 1 ∧ M a.P.X ≤ 1 ∧ M a.P.Y ≤ 1) (hb : M b.T ≤ 1 ∧ M b.P.X ≤ 1 ∧ M b.P.Y ≤ 1) : LnOk K0 (stl a b) := by
  have := MB.mk ha.1
  have := MB.mk ha.2.1
  have := MB.mk ha.2.2
  have := MB.mk hb.1
  have := MB.mk hb.2.1
  have := MB.mk hb.2.2
  exact ⟨MB.lt (q := (stl a b).X0) rfl, MB.lt (q := (stl a b).X1) rfl, MB.lt (q := (stl a b).Y0) rfl, MB.lt (q := (stl a b).Y1) rfl⟩
theorem tj_K {T X Y : Int} (hT : 0 ≤ T ∧ 0 ≤ X ∧ 0 ≤ Y) {ss : List Stp15} (h : ∀ s ∈ ss, StOk s) : ∀ m, m ≤ ss.length → m ≤ 6 → ∀ u ∈ (tj T X Y ss m).out, UK K0 (toU u)
  | 0, _, _ => fun u hu => by cases hu
  | m + 1, hm, h6 => by
    have ih := tj_K hT h m (by omega) (by omega)
    obtain ⟨h1, h2, h3, h4⟩ := tj_bnd hT h m (by omega)
    have hs := h _ (gi_mem (i := (m : Int)) (xs := ss) (by omega))
    obtain ⟨g1, g2, g3, g4⟩ := hs
    rw [tj]
    generalize tj T X Y ss m = q at *
    generalize gi ss (m : Int) = st at *
    simp only
    split
    · exact ih
    · intro u hu
      rcases List.mem_append.1 hu with k | k
      · exact ih u k
      · rw [List.mem_singleton] at k
        subst k
        have e1 : M ((q.t : Int) : Rat) ≤ K0 := Nat.le_trans (M_small (by omega)) (by decide)
        have e2 : M ((q.t + 1 + st.Time % 8 : Int) : Rat) ≤ K0 := Nat.le_trans (M_small (by omega)) (by decide)
        refine ⟨⟨rfl, rfl, rfl, rfl, e1, e2⟩, stl_K1 ?_ (smp_M (by omega) (by omega) (by omega))⟩
        unfold tjF
        split
        · exact smp_M (by omega) (by omega) (by omega)
        · exact smp_M (by omega) (by omega) (by omega)
theorem tjR_K {c : viatorlaw15_Car} (hT : 0 ≤ c.Time ∧ 0 ≤ c.X ∧ 0 ≤ c.Y) {ss : List Stp15} (h : ∀ s ∈ ss, StOk s) (h6 : ss.length ≤ 6) : (∀ u ∈ tjR c ss, UK K0 (toU u)) ∧ (tjR c ss).length ≤ 7 := by
  have hk := tj_K hT h ss.length (Nat.le_refl _) h6
  obtain ⟨h1, h2, h3, h4⟩ := tj_bnd hT h ss.length (Nat.le_refl _)
  unfold tjR
  split
  · refine ⟨fun u hu => ?_, by rw [List.length_append]; simp; omega⟩
    rcases List.mem_append.1 hu with k | k
    · exact hk u k
    · rw [List.mem_singleton] at k
      subst k
      have e1 : ∀ n : Int, 0 ≤ n ∧ n < 256 → M ((n : Int) : Rat) ≤ K0 := fun n hn => Nat.le_trans (M_small hn) (by decide)
      have e0 : M 0 ≤ K0 := by decide
      exact ⟨⟨rfl, rfl, rfl, rfl, e1 _ (by omega), e1 _ (by omega)⟩, ⟨e1 _ (by omega), e0, e1 _ (by omega), e0⟩⟩
  · exact ⟨hk, by omega⟩
set_option maxHeartbeats 2000000 in
theorem trajec_spec (c : viatorlaw15_Car) (ss : List Stp15) (w : World) (hT : (0 ≤ c.Time ∧ c.Time ≤ 255) ∧ (0 ≤ c.X ∧ c.X ≤ 255) ∧ (0 ≤ c.Y ∧ c.Y ≤ 255)) (hv : ArgS w (.slice c.Steps.a c.Steps.len c.Steps.cap) e_viatorlaw15_Step ss) (hcl : c.Steps.len = ss.length) (h6 : ss.length ≤ 6) (hss : ∀ s ∈ ss, StOk s) :
    Calls Tryz.prog 80 [.agg (e_viatorlaw15_Car c)].toArray w (RetM (SlS rP 36 (mNorm (tjR c ss))) (fun s => vSl s) (fun s => mS 68 s) w) := by
  have hK := tjR_K (c := c) ⟨hT.1.1, hT.2.1.1, hT.2.2.1⟩ hss h6
  refine fn_intro Tryz.func80 rfl Tryz.ntmps80 rfl ?_
  repeat (first | (refine wkB ?_; try intro _) | (refine sC rfl rfl ?_ ?_; focus (exact ⟨by omega, by omega, by omega⟩)) | (refine sN rfl rfl ?_ ?_; (focus (exact ⟨by omega, by omega, by omega⟩)); intro _; (try simp only [List.cons_append, List.nil_append, List.append_nil])))
  rename_i b' b4
  refine j_loop (S := (q : TjS) × Nat × SlS rP 36 q.out) (fun s => s.1 = tj c.Time c.X c.Y ss s.2.1 ∧ s.2.1 ≤ ss.length) (fun s => [(1, .pointer (some ⟨b', 0, none⟩)), (3, vSl s.2.2), (4, .pointer (some ⟨b4, 0, none⟩)), (5, .bool s.1.al), (6, .int .i64 (s.2.1 : Nat))])
    (fun s => mS 68 s.2.2 ++ [⟨b4, e_movingpoint_Sample (q_movingpoint_Sample (smp s.1.t s.1.x s.1.y)), 47⟩, ⟨b', e_viatorlaw15_Car c, 78⟩]) (fun s => ss.length - s.2.1) ⟨tj c.Time c.X c.Y ss 0, 0, SlS.no⟩ ⟨rfl, Nat.zero_le _⟩ sbB slB (fun s hs => ?_)
  obtain ⟨q, m, s⟩ := s
  obtain ⟨hq, hm⟩ := hs
  simp only at hq hm s ⊢
  have hb := tj_bnd ⟨hT.1.1, hT.2.1.1, hT.2.2.1⟩ hss m hm
  rw [← hq] at hb
  repeat (refine wkB ?_; try intro _)
  by_cases hlt : m < ss.length
  · simp only [hcl, decide_eq_true (show (m : Int) < (ss.length : Int) by omega)]
    repeat (refine wkB ?_; try intro _)
    refine j_cond rfl (fun _ => ?_) (fun h => ?_)
    · have hne : ss ≠ [] := fun h0 => by rw [h0] at hlt; simp at hlt
      obtain ⟨bw, ow, cw, hvw, hcw, hrow⟩ := hv.blk (k := 3) hne []
      injection hvw with e1 e2 e3
      have hrow' : ∀ L, RowC w L bw ow Stp15 e_viatorlaw15_Step ss := fun L => ⟨fun w' hw' => hrow.out w' (hw'.sub (List.nil_sublist _))⟩
      simp only [e1]
      repeat (refine wkB ?_; try intro _)
      simp only [e1, hcl]
      have hsm := hss _ (gi_mem (i := (m : Int)) (xs := ss) (by omega))
      obtain ⟨st, hst⟩ : ∃ st, st = gi ss (m : Int) := ⟨_, rfl⟩
      obtain ⟨out, t, x, y, al⟩ := q
      simp only at hb s ⊢
      obtain ⟨k, rfl⟩ : ∃ k : Nat, t = (k : Int) := ⟨t.toNat, by omega⟩
      have ⟨g1, g2, g3, g4⟩ := hsm
      repeat (refine wkB ?_; try intro _)
      simp only [← hst] at g1 g2 g3 g4 ⊢
      simp only [show (smp (k : Int) x y).T.num = (k : Int) from Rat.num_intCast _]
      repeat (first | (refine wkB ?_; try intro _) | (refine sC rfl rfl ?_ ?_; focus (first | exact (show k ≤ 1048576 by omega) | exact ⟨by omega, by omega, by omega⟩)) | (refine sN rfl rfl ?_ ?_; (focus (first | exact (show k ≤ 1048576 by omega) | exact ⟨by omega, by omega, by omega⟩)); intro _; (try simp only [List.cons_append, List.nil_append, List.append_nil])))
      rename_i b7 b10 b11
      obtain ⟨nx, hnx⟩ : ∃ nx, nx = smp ((k : Int) + 1 + st.Time % 8) (st.X % 64) (st.Y % 64) := ⟨_, rfl⟩
      obtain ⟨fr, hfr⟩ : ∃ fr, fr = tjF ⟨out, k, x, y, al⟩ st := ⟨_, rfl⟩
      simp only [← hnx]
      refine j_cut (S := Unit) (fun _ => True) (fun _ => [(1, .pointer (some ⟨b', 0, none⟩)), (3, vSl s), (4, .pointer (some ⟨b4, 0, none⟩)), (5, .bool al), (6, .int .i64 (m : Nat)), (7, .pointer (some ⟨b7, 0, none⟩)), (10, .pointer (some ⟨b10, 0, none⟩)), (11, .pointer (some ⟨b11, 0, none⟩))])
        (fun _ => ⟨b11, e_movingpoint_Sample (q_movingpoint_Sample fr), 47⟩ :: ⟨b10, e_movingpoint_Sample (q_movingpoint_Sample nx), 47⟩ :: ⟨b7, e_viatorlaw15_Step st, 174⟩ :: (mS 68 s ++ [⟨b4, e_movingpoint_Sample (q_movingpoint_Sample (smp (k : Int) x y)), 47⟩, ⟨b', e_viatorlaw15_Car c, 78⟩])) ?_ (fun _ _ => ?_)
      · refine j_cond rfl (fun h1 => ?_) (fun h1 => ?_)
        · have e : fr = smp k (st.Y % 64) (st.X % 64) := by rw [hfr]; exact if_pos (of_decide_eq_true h1)
          rw [e]
          repeat (first | (refine wkB ?_; try intro _) | (refine sC rfl rfl ?_ ?_; focus (exact ⟨by omega, by omega, by omega⟩)) | (refine sN rfl rfl ?_ ?_; (focus (exact ⟨by omega, by omega, by omega⟩)); intro _; (try simp only [List.cons_append, List.nil_append, List.append_nil])))
          exact jx_mid () trivial sbB suB
        · have e : fr = smp k x y := by rw [hfr]; exact if_neg (of_decide_eq_false h1)
          rw [e]
          refine j_skip ?_
          exact jx_mid () trivial sbB suB
      · have hfb : (M fr.T ≤ 34359738368 ∧ M fr.P.X ≤ 34359738368 ∧ M fr.P.Y ≤ 34359738368) ∧ (M nx.T ≤ 34359738368 ∧ M nx.P.X ≤ 34359738368 ∧ M nx.P.Y ≤ 34359738368) := by
          have hs : ∀ n : Int, 0 ≤ n ∧ n < 256 → M (n : Rat) ≤ 34359738368 := fun n hn => Nat.le_trans (M_small hn) (by decide)
          have hk63 : k ≤ 63 := by omega
          refine ⟨?_, by rw [hnx]; exact ⟨hs ((k : Int) + 1 + st.Time % 8) (by omega), hs (st.X % 64) (by omega), hs (st.Y % 64) (by omega)⟩⟩
          rw [hfr]
          unfold tjF
          split
          · exact ⟨hs (k : Int) (by omega), hs (st.Y % 64) (by omega), hs (st.X % 64) (by omega)⟩
          · exact ⟨hs (k : Int) (by omega), hs x (by omega), hs y (by omega)⟩
        have hft : fr.T = ((k : Int) : Rat) := by rw [hfr]; unfold tjF; split <;> rfl
        repeat (refine wkB ?_; try intro _)
        refine j_cut (S := (ys : List PU) × SlS rP 36 ys) (fun r => r.1 = if st.Kind % 8 = 0 then out else out ++ [tjU ⟨out, k, x, y, al⟩ st]) (fun r => [(1, .pointer (some ⟨b', 0, none⟩)), (3, vSl r.2), (4, .pointer (some ⟨b4, 0, none⟩)), (6, .int .i64 (m : Nat)), (7, .pointer (some ⟨b7, 0, none⟩)), (10, .pointer (some ⟨b10, 0, none⟩))])
          (fun r => mS 68 r.2 ++ [⟨b10, e_movingpoint_Sample (q_movingpoint_Sample nx), 47⟩, ⟨b7, e_viatorlaw15_Step st, 174⟩, ⟨b4, e_movingpoint_Sample (q_movingpoint_Sample (smp (k : Int) x y)), 47⟩, ⟨b', e_viatorlaw15_Car c, 78⟩]) ?_ (fun r hr => ?_)
        · by_cases hk0 : st.Kind % 8 = 0
          · simp only [decide_eq_true hk0, Bool.not_true]
            refine j_else rfl ?_
            refine j_skip ?_
            exact jx_midP ⟨out, s⟩ (by rw [if_pos hk0]) sbB inferInstance
          · simp only [decide_eq_false hk0, Bool.not_false]
            refine j_if rfl ?_
            refine j_seq ?_
            refine j_cut (S := Nat) (fun _ => True) (fun b12 => [(1, .pointer (some ⟨b', 0, none⟩)), (3, vSl s), (4, .pointer (some ⟨b4, 0, none⟩)), (6, .int .i64 (m : Nat)), (7, .pointer (some ⟨b7, 0, none⟩)), (10, .pointer (some ⟨b10, 0, none⟩)), (11, .pointer (some ⟨b11, 0, none⟩)), (12, .pointer (some ⟨b12, 0, none⟩))])
              (fun b12 => ⟨b12, e_api_Interval (q_api_Interval ⟨⟨fr.T, 0, false⟩, ⟨nx.T, 0, false⟩, decide ((0 : Int) < out.length) && !al, false⟩), 32⟩ :: ⟨b11, e_movingpoint_Sample (q_movingpoint_Sample fr), 47⟩ :: ⟨b10, e_movingpoint_Sample (q_movingpoint_Sample nx), 47⟩ :: ⟨b7, e_viatorlaw15_Step st, 174⟩ :: (mS 68 s ++ [⟨b4, e_movingpoint_Sample (q_movingpoint_Sample (smp (k : Int) x y)), 47⟩, ⟨b', e_viatorlaw15_Car c, 78⟩])) ?_ (fun b12 _ => ?_)
            · refine jD 14 15 (h := ?_)
              (repeat (refine wkH ?_))
              rcases hlo : decide ((0 : Int) < (out.length : Int)) with _ | _
              · (repeat (refine wkH ?_))
                refine jh_nil ?_
                (repeat (refine wn_new ?_; intro _))
                refine jn_nil ?_
                repeat (refine wkB ?_; try intro _)
                exact jx_mid _ trivial sbB suB
              · (repeat (refine wkH ?_))
                refine jh_nil ?_
                (repeat (refine wn_new ?_; intro _))
                refine jn_nil ?_
                repeat (refine wkB ?_; try intro _)
                exact jx_mid _ trivial sbB suB
            · have hu : tjU ⟨out, k, x, y, al⟩ st = ⟨⟨⟨fr.T, 0, false⟩, ⟨nx.T, 0, false⟩, decide ((0 : Int) < out.length) && !al, false⟩, stl fr nx⟩ := by
                rw [hft, hnx, hfr]
                rfl
              (refine j_tree (.v [0, 1, 2, 3, 4, 5] (.e1 6 (.e1 7 (.e1 8 (.fin))))) ([⟨b12, e_api_Interval (q_api_Interval ⟨⟨fr.T, 0, false⟩, ⟨nx.T, 0, false⟩, decide ((0 : Int) < out.length) && !al, false⟩), 32⟩, ⟨b11, e_movingpoint_Sample (q_movingpoint_Sample fr), 47⟩, ⟨b10, e_movingpoint_Sample (q_movingpoint_Sample nx), 47⟩]) (h := ?_); refine wkX ?_)
              (repeat (first | refine wkH ?_ | (refine tC rfl rfl ?_ ?_; focus (exact hfb))))
              repeat (first | (refine wkT ?_; try intro _) | (refine tC rfl rfl ?_ ?_; focus (exact hfb)) | (refine uC rfl rfl ?_ ?_; focus (exact hfb)) | (refine eN rfl rfl ?_ ?_; (focus (exact hfb)); intro _; (try simp only [List.cons_append, List.nil_append, List.append_nil])))
              rw [← hu]
              refine eU rfl rfl ?_ ?_ ?_ ?_
              · rfl
              · rfl
              · exact ⟨by decide, by omega, by omega⟩
              intro s'
              repeat (refine wkT ?_; try intro _)
              exact jx_mid ⟨_, s'⟩ (by rw [if_neg hk0]) sbB suB
        · obtain ⟨ys, sy⟩ := r
          simp only at hr ⊢
          have hnext : (⟨ys, (k : Int) + 1 + st.Time % 8, st.X % 64, st.Y % 64, decide (st.Kind % 8 = 0)⟩ : TjS) = tj c.Time c.X c.Y ss (m + 1) := by
            rw [tj, ← hq, ← hst, hr]
          repeat (refine wkB ?_; try intro _)
          rw [hnx]
          repeat (first | (refine wkB ?_; try intro _) | (refine sC rfl rfl ?_ ?_; focus (exact ⟨by omega, by omega⟩)) | (refine sN rfl rfl ?_ ?_; (focus (exact ⟨by omega, by omega⟩)); intro _; (try simp only [List.cons_append, List.nil_append, List.append_nil])))
          exact jx_loop ⟨⟨ys, (k : Int) + 1 + st.Time % 8, st.X % 64, st.Y % 64, decide (st.Kind % 8 = 0)⟩, m + 1, sy⟩ ⟨hnext, hlt⟩ sbB suB (by show ss.length - (m + 1) < ss.length - m; omega)
    · have := of_decide_eq_false h; omega
  · simp only [hcl, decide_eq_false (show ¬ (m : Int) < (ss.length : Int) by omega)]
    repeat (refine wkB ?_; try intro _)
    have hge : m = ss.length := by omega
    subst hge
    obtain ⟨out, t, x, y, al⟩ := q
    simp only at hb s ⊢
    refine j_cut (S := (ys : List PU) × SlS rP 36 ys) (fun r => r.1 = if al = true then out ++ [⟨⟨⟨(t : Rat), 0, false⟩, ⟨(t : Rat), 0, false⟩, false, false⟩, stil ⟨(x : Rat), (y : Rat)⟩⟩] else out) (fun r => [(3, vSl r.2)]) (fun r => mS 68 r.2) ?_ (fun r hr => ?_)
    · cases al with
      | false =>
        refine j_else rfl ?_
        refine j_skip ?_
        exact jx_mid ⟨out, s⟩ rfl sbB suB
      | true =>
        refine j_if rfl ?_
        repeat (refine wkB ?_; try intro _)
        rename_i b13
        (refine j_tree (.v [0, 1, 2, 3, 4, 5, 6, 7] (.e1 8 (.e1 9 (.e1 10 (.fin))))) ([⟨b13, e_api_Real (q_api_Real ⟨(smp t x y).T, 0, false⟩), 30⟩, ⟨b4, e_movingpoint_Sample (q_movingpoint_Sample (smp t x y)), 47⟩]) (h := ?_); refine wkX ?_)
        (repeat (refine wkH ?_))
        repeat (refine wkT ?_; try intro _)
        refine eU rfl rfl ?_ ?_ ?_ ?_
        · rfl
        · rfl
        · exact ⟨by decide, by omega, by omega⟩
        intro s'
        repeat (refine wkT ?_; try intro _)
        exact jx_mid ⟨_, s'⟩ rfl sbB suB
    · obtain ⟨ys, sy⟩ := r
      have hr' : ys = tjR c ss := by
        unfold tjR
        rw [← hq]
        exact hr
      subst hr'
      simp only
      have hlen := hK.2
      have hin : ∀ u ∈ mpN toU (tjR c ss) (tjR c ss).length, UIn u := fun u hu => by
        rw [mpN_all] at hu
        obtain ⟨x, hx, rfl⟩ := List.mem_map.1 hu
        exact (hK.1 x hx).uin K_one.2.2.1
      repeat (first | (refine wkB ?_; try intro _) | (refine sC rfl rfl ?_ ?_; focus (exact ⟨by omega, hin⟩)) | (refine sN rfl rfl ?_ ?_; (focus (exact ⟨by omega, hin⟩)); intro _; (try simp only [List.cons_append, List.nil_append, List.append_nil])))
      exact jx_ret_tmp rfl rfl (fun w hw => ⟨_, rfl, hw.sub suB⟩)
end Go.Vt
/- Borders of periods, walked. Conditions: those that each statement names. -/
set_option linter.unusedSimpArgs false
set_option linter.unusedVariables false
set_option maxHeartbeats 2000000
set_option maxRecDepth 100000
namespace Go.Vt
open Go.RowKit Go.Proofs
abbrev Bd := R_period_border
abbrev vBd (b : Bd) : Value := .agg (e_period_border (q_period_border b))
def bdF (i : R_api_Interval) : Bd := ⟨i.From, i.OpenFrom⟩
def bdL (i : R_api_Interval) : Bd := ⟨i.To, !i.OpenTo⟩
def bdB (a b : Bd) : R_api_Interval := ⟨a.at_, b.at_, a.behind, !b.behind⟩
/-- The order of borders. -/
def cmpB (a b : Bd) : Int := if cq a.at_.P b.at_.P ≠ 0 then cq a.at_.P b.at_.P else if a.behind = b.behind then 0 else if b.behind = true then -1 else 1
structure BdOk (b : Bd) : Prop where
  r : b.at_.R = 0
  n : b.at_.Neg = false
  m : M b.at_.P ≤ LQ
instance sp_first (i : R_api_Interval) : SpecC Tryz.prog 125 [vIv i] (vBd (bdF i)) True := ⟨fun hp w => by
  refine fn_intro Tryz.func125 rfl Tryz.ntmps125 rfl ?_
  repeat (refine wkB ?_; try intro _)
  exact wx_cell rfl rfl (fun w hw => ret_ok hw)⟩
instance sp_last (i : R_api_Interval) : SpecC Tryz.prog 126 [vIv i] (vBd (bdL i)) True := ⟨fun hp w => by
  refine fn_intro Tryz.func126 rfl Tryz.ntmps126 rfl ?_
  repeat (refine wkB ?_; try intro _)
  exact wx_cell rfl rfl (fun w hw => ret_ok hw)⟩
instance sp_betweenB (a b : Bd) : SpecC Tryz.prog 161 [vBd a, vBd b] (vIv (bdB a b)) True := ⟨fun hp w => by
  refine fn_intro Tryz.func161 rfl Tryz.ntmps161 rfl ?_
  repeat (refine wkB ?_; try intro _)
  exact wx_cell rfl rfl (fun w hw => ret_ok hw)⟩
instance sp_cmpB (a b : Bd) : SpecC Tryz.prog 124 [vBd a, vBd b] (.int .i64 (cmpB a b)) (BdOk a ∧ BdOk b) := ⟨fun hp w => by
  obtain ⟨⟨a1, a2, a3⟩, b1', b2, b3⟩ := hp
  refine fn_intro Tryz.func124 rfl Tryz.ntmps124 rfl ?_
  repeat (first | (refine wkB ?_; try intro _) | (refine sC rfl rfl ?_ ?_; focus (exact ⟨⟨a1, b1'⟩, a3, b3⟩)) | (refine sN rfl rfl ?_ ?_; (focus (exact ⟨⟨a1, b1'⟩, a3, b3⟩)); intro _; (try simp only [List.cons_append, List.nil_append, List.append_nil])))
  unfold cmpB
  by_cases h1 : cq a.at_.P b.at_.P = 0
  · simp only [h1, decide_true, Bool.not_true]
    repeat (refine wkB ?_; try intro _)
    rw [if_neg (by simp)]
    rcases ha : a.behind with _ | _ <;> rcases hb : b.behind with _ | _
    · repeat (refine wkB ?_; try intro _)
      exact jx_ret_tmp rfl rfl (fun w hw => ret_ok hw)
    · repeat (refine wkB ?_; try intro _)
      simp only [hb]
      repeat (refine wkB ?_; try intro _)
      exact jx_ret_tmp rfl rfl (fun w hw => ret_ok hw)
    · repeat (refine wkB ?_; try intro _)
      simp only [hb]
      repeat (refine wkB ?_; try intro _)
      exact jx_ret_tmp rfl rfl (fun w hw => ret_ok hw)
    · repeat (refine wkB ?_; try intro _)
      exact jx_ret_tmp rfl rfl (fun w hw => ret_ok hw)
  · simp only [decide_eq_false h1, Bool.not_false]
    rw [if_pos h1]
    repeat (refine wkB ?_; try intro _)
    exact jx_ret_tmp rfl rfl (fun w hw => ret_ok hw)⟩
/-- A closed period, or none. -/
def closL (a b : Rat) : List R_api_Interval := if cmpB ⟨⟨a, 0, false⟩, false⟩ ⟨⟨b, 0, false⟩, true⟩ ≥ 0 then [] else [⟨⟨a, 0, false⟩, ⟨b, 0, false⟩, false, false⟩]
theorem closed_spec (a b : Rat) (ha : M a ≤ LQ) (hb : M b ≤ LQ) (w : World) :
    Calls Tryz.prog 82 [vQ a, vQ b].toArray w (RetM (SlS rI 20 (closL a b)) (fun s => vSl s) (fun s => mS 32 s) w) := by
  refine fn_intro Tryz.func82 rfl Tryz.ntmps82 rfl ?_
  repeat (refine wkB ?_; try intro _)
  (refine jD 5 6 (h := ?_); (repeat (refine wkH ?_)); refine jh_nil ?_; (repeat (refine wn_new ?_; intro _)); refine jn_nil ?_)
  repeat (refine wkB ?_; try intro _)
  rename_i b2 b3 b5
  have hok : BdOk (bdF ⟨⟨a, 0, false⟩, ⟨b, 0, false⟩, false, false⟩) ∧ BdOk (bdL ⟨⟨a, 0, false⟩, ⟨b, 0, false⟩, false, false⟩) := ⟨⟨rfl, rfl, ha⟩, ⟨rfl, rfl, hb⟩⟩
  (refine jD 6 6 (h := ?_); (repeat (first | refine wkH ?_ | (refine tC rfl rfl ?_ ?_; focus (first | exact trivial | exact hok)))); refine jh_nil ?_; (repeat (refine wn_new ?_; intro _)); refine jn_nil ?_)
  repeat (refine wkB ?_; try intro _)
  refine j_cond rfl (fun h => ?_) (fun h => ?_)
  · have h' := of_decide_eq_true h
    have e : closL a b = [] := if_pos h'
    repeat (refine wkB ?_; try intro _)
    refine jx_ret_tmp rfl rfl (fun w hw => ?_)
    rw [e]
    exact ⟨SlS.no, rfl, hw.sub (List.nil_sublist _)⟩
  · have h' := of_decide_eq_false h
    have e : closL a b = [⟨⟨a, 0, false⟩, ⟨b, 0, false⟩, false, false⟩] := if_neg h'
    repeat (refine wkB ?_; try intro _)
    rename_i b18
    obtain ⟨s', hv', hm'⟩ := SlS.put (enc := rI) (k := 20) (b := b18) (sp := []) (c := 1) (ys := closL a b) 32 (by rw [e]; rfl) ⟨Nat.le_refl _, rfl⟩ Nat.one_pos
    refine jx_ret_tmp (v := vSl s') rfl (by rw [hv']; rfl) (fun w hw => ⟨s', rfl, ?_⟩)
    dsimp only
    rw [hm', e]
    exact hw.sub slB
instance sr_closed (w0 : World) (L : List Blk) (a b : Rat) : SpecR Tryz.prog w0 L 82 [vQ a, vQ b] (SlS rI 20 (closL a b)) (fun s => vSl s) (fun s => mS 32 s) (M a ≤ LQ ∧ M b ≤ LQ) := ⟨fun hp w _ => closed_spec a b hp.1 hp.2 w⟩
def ivU (u : UL) : R_api_Interval := u.In
theorem intervals_spec (v : Value) (us : List UL) (w : World) (hv : ArgS w v rU us) (hl : us.length ≤ 1048576) :
    Calls Tryz.prog 129 [v].toArray w (RetM (SlS rI 20 (mpN ivU us us.length)) (fun s => vSl s) (fun s => mS 32 s) w) := by
  refine fn_intro Tryz.func129 rfl Tryz.ntmps129 rfl ?_
  obtain ⟨p, cp, rfl⟩ := hv.form
  repeat (refine wkB ?_; try intro _)
  refine j_loop (S := (m : Nat) × SlS rI 20 (mpN ivU us m)) (fun s => s.1 ≤ us.length) (fun s => [(3, vSl s.2), (6, .slice p us.length cp), (7, .int .i64 us.length), (8, .int .i64 (s.1 : Nat))]) (fun s => mS 32 s.2) (fun s => us.length - s.1) ⟨0, SlS.no⟩
    (Nat.zero_le _) sbB slB (fun s hm => ?_)
  obtain ⟨m, s⟩ := s
  simp only at hm ⊢
  repeat (refine wkB ?_; try intro _)
  refine j_cond rfl (fun h => ?_) (fun h => ?_)
  · have hlt : m < us.length := by have := of_decide_eq_true h; omega
    have hne : us ≠ [] := fun h0 => by rw [h0] at hlt; simp at hlt
    obtain ⟨bw, ow, cw, hvw, hcw, hrow⟩ := hv.blk (k := 35) hne []
    injection hvw with e1 e2 e3
    subst e1
    subst e3
    have hrow' : ∀ L, RowC w L bw ow UL rU us := fun L => ⟨fun w' hw' => hrow.out w' (hw'.sub (List.nil_sublist _))⟩
    have hml := mpN_len ivU us m
    repeat (refine wkB ?_; try intro _)
    refine sU rfl rfl ?_ ?_ ?_ ?_
    · rfl
    · rfl
    · exact ⟨by decide, by omega, by omega⟩
    intro s'
    repeat (first | (refine wkB ?_; try intro _) | (refine sC rfl rfl ?_ ?_; focus (exact ⟨by omega, by omega⟩)) | (refine sN rfl rfl ?_ ?_; (focus (exact ⟨by omega, by omega⟩)); intro _; (try simp only [List.cons_append, List.nil_append, List.append_nil])))
    exact jx_loop ⟨m + 1, s'⟩ hlt sbB suB (by show us.length - (m + 1) < us.length - m; omega)
  · have hge : m = us.length := by have := of_decide_eq_false h; omega
    subst hge
    repeat (refine wkB ?_; try intro _)
    exact jx_ret_tmp rfl rfl (fun w hw => ⟨s, rfl, hw.sub sbl⟩)
instance sr_intervals (w0 : World) (L : List Blk) (v : Value) (us : List UL) [h : LstC w0 L v UL rU us] : SpecR Tryz.prog w0 L 129 [v] (SlS rI 20 (mpN ivU us us.length)) (fun s => vSl s) (fun s => mS 32 s) (us.length ≤ 1048576) := ⟨fun hp w hw => intervals_spec v us w (h.out w hw) hp⟩
end Go.Vt
/- Events of periods: what loads and stores give; their order, walked. Conditions: those that each statement names. -/
set_option linter.unusedSimpArgs false
set_option linter.unusedVariables false
set_option maxHeartbeats 2000000
set_option maxRecDepth 100000
namespace Go.Vt
open Go.RowKit Go.Proofs
/-- A border, and by how much the numbers of intervals change there. -/
structure Ev where
  b : Bd
  n0 : Int
  n1 : Int
instance : Inhabited Ev := ⟨⟨zR_period_border, 0, 0⟩⟩
def eEv (x : Ev) : Array Value := e_period_border (q_period_border x.b) ++ #[.int .i64 x.n0, .int .i64 x.n1]
abbrev vEv (x : Ev) : Value := .agg (eEv x)
instance cs_Ev (x : Ev) : CsC (eEv x) 12 := ⟨by kernel_rfl, by kernel_rfl⟩
instance enc_Ev : EncC eEv 12 := ⟨fun _ => CsC.size, fun _ => CsC.one⟩
instance zero_Ev : ZeroC Tryz.prog 233 (vEv ⟨zR_period_border, 0, 0⟩) (eEv ⟨zR_period_border, 0, 0⟩) := ⟨by kernel_rfl, by kernel_rfl⟩
instance size_Ev : SizeC Tryz.prog 233 12 := ⟨by kernel_rfl⟩
instance fa_Ev0 : FaC Tryz.prog 233 0 0 := ⟨fun b o w => by kernel_rfl⟩
instance fo_Ev0 : FaO Tryz.prog 233 0 0 0 := ⟨fun b w => by kernel_rfl⟩
instance fo_Ev1 : FaO Tryz.prog 233 1 0 10 := ⟨fun b w => by kernel_rfl⟩
instance ld_Ev (x : Ev) : LdC Tryz.prog 233 (eEv x) 0 (vEv x) := ⟨ldv_agg 12 (by kernel_rfl) (by kernel_rfl) (by kernel_rfl)⟩
instance ld_EvB (x : Ev) : LdC Tryz.prog 181 (eEv x) 0 (vBd x.b) := ⟨ldv_agg 10 (by kernel_rfl) (by kernel_rfl) (by kernel_rfl)⟩
instance bd_Ev (b : Bd) : BdC Tryz.prog 233 [(0, vBd b)] (vEv ⟨b, 0, 0⟩) := ⟨fun w => by kernel_rfl⟩
instance st_Ev0 (x : Ev) (v : Int) : StC Tryz.prog 3 (eEv x) (10 + Int.toNat 0 * 1) (.int .i64 v) (eEv ⟨x.b, v, x.n1⟩) := ⟨by kernel_rfl, by kernel_rfl, by kernel_rfl, by kernel_rfl⟩
instance st_Ev1 (x : Ev) (v : Int) : StC Tryz.prog 3 (eEv x) (10 + Int.toNat 1 * 1) (.int .i64 v) (eEv ⟨x.b, x.n0, v⟩) := ⟨by kernel_rfl, by kernel_rfl, by kernel_rfl, by kernel_rfl⟩
instance sp_cmpEv (x y : Ev) : SpecC Tryz.prog 160 [vEv x, vEv y] (.int .i64 (cmpB x.b y.b)) (BdOk x.b ∧ BdOk y.b) := ⟨fun hp w => by
  refine fn_intro Tryz.func160 rfl Tryz.ntmps160 rfl ?_
  repeat (first | (refine wkB ?_; try intro _) | (refine sC rfl rfl ?_ ?_; focus (exact hp)) | (refine sN rfl rfl ?_ ?_; (focus (exact hp)); intro _; (try simp only [List.cons_append, List.nil_append, List.append_nil])))
  exact jx_ret_tmp rfl rfl (fun w hw => ret_ok hw)⟩
end Go.Vt
/- Sorting events, walked. Conditions: those that each statement names. -/
set_option linter.unusedSimpArgs false
set_option linter.unusedVariables false
set_option maxHeartbeats 2000000
set_option maxRecDepth 100000
namespace Go.Vt
open Go.RowKit Go.Proofs
abbrev cmpE (x y : Ev) : Int := cmpB x.b y.b
/-- Two neighbours change places. -/
def swpE (xs : List Ev) (j : Nat) : List Ev := (xs.set (j + 1) (gi xs (j : Int))).set j (gi xs ((j + 1 : Nat) : Int))
/-- An element goes down as long as it is less than the one ahead of it. -/
def dwnE (xs : List Ev) : Nat → List Ev
  | 0 => xs
  | j + 1 => if cmpE (gi xs ((j + 1 : Nat) : Int)) (gi xs (j : Int)) < 0 then dwnE (swpE xs j) j else xs
/-- The first elements are in order. -/
def srtE (xs : List Ev) : Nat → List Ev
  | 0 => xs
  | i + 1 => dwnE (srtE xs i) (i + 1)
theorem swp_lenE (xs : List Ev) (j : Nat) : (swpE xs j).length = xs.length := by simp [swpE]
theorem swp_memE {xs : List Ev} {j : Nat} (h : j + 1 < xs.length) {u : Ev} (hu : u ∈ swpE xs j) : u ∈ xs := by
  unfold swpE at hu
  rcases List.mem_or_eq_of_mem_set hu with h1 | h1
  · rcases List.mem_or_eq_of_mem_set h1 with h2 | h2
    · exact h2
    · rw [h2, gi_nat (by omega)]
      exact List.getElem_mem _
  · rw [h1, gi_nat h]
    exact List.getElem_mem _
theorem dwn_lenE : ∀ (j : Nat) (xs : List Ev), (dwnE xs j).length = xs.length
  | 0, _ => rfl
  | j + 1, xs => by
    rw [dwnE]
    split
    · rw [dwn_lenE j, swp_lenE]
    · rfl
theorem dwn_memE : ∀ (j : Nat) (xs : List Ev), j < xs.length → ∀ u ∈ dwnE xs j, u ∈ xs
  | 0, _, _, _, h => h
  | j + 1, xs, hj, u, h => by
    rw [dwnE] at h
    split at h
    · exact swp_memE hj (dwn_memE j _ (by rw [swp_lenE]; omega) u h)
    · exact h
theorem srt_lenE (xs : List Ev) : ∀ i, (srtE xs i).length = xs.length
  | 0 => rfl
  | i + 1 => by rw [srtE, dwn_lenE, srt_lenE xs i]
theorem srt_memE (xs : List Ev) : ∀ i, i < xs.length → ∀ u ∈ srtE xs i, u ∈ xs
  | 0, _, _, h => h
  | i + 1, hi, u, h => by
    rw [srtE] at h
    exact srt_memE xs i (by omega) u (dwn_memE _ _ (by rw [srt_lenE]; exact hi) u h)
theorem ins_specE (w0 w : World) (L1 : List Blk) (b c n : Nat) (xs : List Ev) (sp : List Value) (T : TypeId) (hn : xs.length = n) (hl : n ≤ 1048576) (hok : ∀ u ∈ xs, BdOk u.b) (hw : Own w0 (⟨b, row eEv xs sp, T⟩ :: L1) w) :
    Calls Tryz.prog 193 [.slice (some ⟨b, 0, none⟩) n c, .int .i64 0, .int .i64 n, vFn 160].toArray w (RetX w0 Unit (fun _ => .tuple #[]) (fun _ => ⟨b, row eEv (srtE xs (n - 1)) sp, T⟩ :: L1)) := by
  refine fn_introL Tryz.func193 rfl Tryz.ntmps193 rfl hw ?_
  repeat (refine wkB ?_; try intro _)
  refine j_loop (S := Nat) (fun m => m ≤ n - 1) (fun m => [(0, .slice (some ⟨b, 0, none⟩) n c), (1, .int .i64 0), (2, .int .i64 n), (3, vFn 160), (8, .int .i64 ((m + 1 : Nat)))]) (fun m => ⟨b, row eEv (srtE xs m) sp, T⟩ :: L1) (fun m => n - 1 - m) 0 (Nat.zero_le _) sbB slB (fun m hm => ?_)
  have hsl := srt_lenE xs m
  repeat (refine wkB ?_; try intro _)
  refine j_cond rfl (fun h => ?_) (fun h => ?_)
  · have hlt : m + 1 < n := by have := of_decide_eq_true h; omega
    have hmem := srt_memE xs m (by omega)
    repeat (refine wkB ?_; try intro _)
    refine j_loop (S := Nat × List Ev) (fun s => dwnE s.2 s.1 = srtE xs (m + 1) ∧ s.2.length = n ∧ s.1 ≤ m + 1 ∧ ∀ u ∈ s.2, BdOk u.b) (fun s => [(0, .slice (some ⟨b, 0, none⟩) n c), (1, .int .i64 0), (2, .int .i64 n), (3, vFn 160), (8, .int .i64 ((m + 1 : Nat))), (9, .int .i64 ((s.1 : Nat)))]) (fun s => ⟨b, row eEv s.2 sp, T⟩ :: L1) (fun s => s.1) (m + 1, srtE xs m)
      ⟨rfl, by show (srtE xs m).length = n; omega, Nat.le_refl _, fun u hu => hok u (hmem u hu)⟩ sbB slB (fun s hs => ?_)
    obtain ⟨j, ys⟩ := s
    obtain ⟨g1, g2, g3, g4⟩ := hs
    simp only at g1 g2 g3 g4 ⊢
    repeat (refine wkB ?_; try intro _)
    rcases j with _ | j
    · (refine jD 17 17 (h := ?_); (repeat (refine wkH ?_)); refine jh_nil ?_; (repeat (refine wn_new ?_; intro _)); refine jn_nil ?_)
      repeat (refine wkB ?_; try intro _)
      exact jx_loop (m + 1) (by omega) sbB (by rw [← g1]; exact List.Sublist.refl _) (by omega)
    · have hj1 : ((j : Int)).toNat < ys.length := by omega
      have hj2 : (((j + 1 : Nat) : Int)).toNat < ys.length := by omega
      have e1 : ((j + 1 : Nat) : Int) - 1 = (j : Int) := by omega
      have o1 := g4 _ (by rw [gi_nat (show j < ys.length by omega)]; exact List.getElem_mem _ : gi ys (j : Int) ∈ ys)
      have o2 := g4 _ (by rw [gi_nat (show j + 1 < ys.length by omega)]; exact List.getElem_mem _ : gi ys ((j + 1 : Nat) : Int) ∈ ys)
      rw [dwnE] at g1
      refine jD 17 17 (h := ?_)
      (repeat (refine wkH ?_))
      simp only [decide_eq_true (show (0 : Int) < ((j + 1 : Nat) : Int) by omega), e1]
      (repeat (refine wkH ?_))
      simp only [e1]
      (repeat (first | refine wkH ?_ | (refine tC rfl rfl ?_ ?_; focus (exact ⟨o2, o1⟩))))
      refine jh_nil ?_
      refine jn_nil ?_
      repeat (refine wkB ?_; try intro _)
      by_cases hc : cmpE (gi ys ((j + 1 : Nat) : Int)) (gi ys (j : Int)) < 0
      · rw [if_pos hc] at g1
        simp only [decide_eq_true hc]
        repeat (refine wkB ?_; try intro _)
        (refine j_seg [(true, [0, 1, 2, 3, 4, 5, 6, 7, 8]), (false, [9]), (true, [10, 11, 12]), (false, [13]), (true, [14])] [15, 16, 17] (h := ?_); refine wkS ?_)
        (repeat (refine wkH ?_))
        simp only [e1]
        refine jh_nil ?_
        refine eR rfl ?_ ?_
        · omega
        refine uS rfl rfl ?_ ?_
        · omega
        refine eR rfl ?_ ?_
        · rw [List.length_set]; omega
        refine je_nil ?_
        simp only [Int.toNat_natCast]
        repeat (first | (refine wkB ?_; try intro _) | (refine sC rfl rfl ?_ ?_; focus (exact ⟨by omega, by omega⟩)) | (refine sN rfl rfl ?_ ?_; (focus (exact ⟨by omega, by omega⟩)); intro _; (try simp only [List.cons_append, List.nil_append, List.append_nil])))
        simp only [e1]
        exact jx_loop (j, swpE ys j) ⟨g1, by rw [swp_lenE]; exact g2, by omega, fun u hu => g4 u (swp_memE (by omega) hu)⟩ sbB slB (by show j < j + 1; omega)
      · rw [if_neg hc] at g1
        simp only [decide_eq_false hc]
        repeat (first | (refine wkB ?_; try intro _) | (refine sC rfl rfl ?_ ?_; focus (exact ⟨by omega, by omega⟩)) | (refine sN rfl rfl ?_ ?_; (focus (exact ⟨by omega, by omega⟩)); intro _; (try simp only [List.cons_append, List.nil_append, List.append_nil])))
        exact jx_loop (m + 1) (by omega) sbB (by rw [← g1]; exact List.Sublist.refl _) (by omega)
  · have hge : m = n - 1 := by have := of_decide_eq_false h; omega
    subst hge
    repeat (refine wkB ?_; try intro _)
    exact jx_end0 rfl (fun w hw => ⟨(), rfl, hw⟩)
abbrev SrtSE (xs : List Ev) (s : SlS eEv 12 xs) : Type := { s' : SlS eEv 12 (srtE xs (xs.length - 1)) // vSl s' = vSl s }
theorem insS_specE (w0 w : World) (L L1 : List Blk) (xs : List Ev) (s : SlS eEv 12 xs) (T : TypeId) [hd : OwnS T s L L1] (hl : xs.length ≤ 1048576) (hok : ∀ u ∈ xs, BdOk u.b) (hw : Own w0 L w) :
    Calls Tryz.prog 193 [vSl s, .int .i64 0, .int .i64 xs.length, vFn 160].toArray w (RetX w0 (SrtSE xs s) (fun _ => .tuple #[]) (fun s' => mS T s'.1 ++ L1)) := by
  have hw1 := hw.perm hd.out
  rcases s.cases T with ⟨rfl, hv, hm⟩ | ⟨b, c, sp, h1, hv, hm, hne⟩
  · suffices h : Calls Tryz.prog 193 [.slice none 0 0, .int .i64 0, .int .i64 (([] : List Ev).length : Nat), vFn 160].toArray w (RetX w0 (SrtSE [] s) (fun _ => .tuple #[]) (fun s' => mS T s'.1 ++ L1)) by
      rw [← hv] at h
      exact h
    refine fn_introL Tryz.func193 rfl Tryz.ntmps193 rfl hw1 ?_
    repeat (refine wkB ?_; try intro _)
    refine j_loop (S := Unit) (fun _ => True) (fun _ => [(2, .int .i64 (([] : List Ev).length : Nat)), (8, .int .i64 1)]) (fun _ => mS T s ++ L1) (fun _ => 0) () trivial sbB slB (fun _ _ => ?_)
    repeat (refine wkB ?_; try intro _)
    simp only [decide_eq_false (show ¬ (1 : Int) < ((([] : List Ev).length : Nat) : Int) by simp)]
    repeat (refine wkB ?_; try intro _)
    exact jx_end0 rfl (fun w hw => ⟨⟨s, rfl⟩, rfl, hw⟩)
  · suffices h : Calls Tryz.prog 193 [.slice (some ⟨b, 0, none⟩) xs.length c, .int .i64 0, .int .i64 xs.length, vFn 160].toArray w (RetX w0 (SrtSE xs s) (fun _ => .tuple #[]) (fun s' => mS T s'.1 ++ L1)) by
      rw [← hv] at h
      exact h
    rw [hm] at hw1
    have hsl := srt_lenE xs (xs.length - 1)
    refine (ins_specE w0 w L1 b c xs.length xs sp T rfl hl hok hw1).mono fun e w' ⟨_, he, hw'⟩ => ?_
    exact ⟨⟨SlS.at_ b c sp (by rw [hsl]; exact h1) (fun h0 => hne (List.length_eq_zero_iff.1 (by rw [h0, List.length_nil] at hsl; exact hsl.symm))), by rw [hv]; show Value.slice _ (srtE xs (xs.length - 1)).length c = _; rw [hsl]⟩, he, hw'⟩
instance sx_insE (w0 : World) (L L1 : List Blk) (xs : List Ev) (s : SlS eEv 12 xs) (T : TypeId) [hd : OwnS T s L L1] : SpecX Tryz.prog w0 L 193 [vSl s, .int .i64 0, .int .i64 xs.length, vFn 160] (SrtSE xs s) (fun _ => .tuple #[]) (fun s' => mS T s'.1 ++ L1) (xs.length ≤ 1048576 ∧ ∀ u ∈ xs, BdOk u.b) := ⟨fun hp w hw => insS_specE w0 w L L1 xs s T hp.1 hp.2 hw⟩
end Go.Vt
/- Events that are in order stay so, walked. Conditions: those that each statement names. -/
set_option linter.unusedSimpArgs false
set_option linter.unusedVariables false
set_option maxHeartbeats 2000000
set_option maxRecDepth 100000
namespace Go.Vt
open Go.RowKit Go.Proofs
/-- No event is less than one ahead of it. -/
def OrdE (xs : List Ev) : Prop := ∀ p q : Nat, p < q → q < xs.length → ¬ cmpE (gi xs (q : Int)) (gi xs (p : Int)) < 0
theorem srt_same {xs : List Ev} (h : OrdE xs) : ∀ i, i ≤ xs.length - 1 → srtE xs i = xs
  | 0, _ => rfl
  | i + 1, hi => by
    rw [srtE, srt_same h i (by omega), dwnE, if_neg (h i (i + 1) (by omega) (by omega))]
/-- What is asked of events in order. -/
structure OkE (xs : List Ev) (n : Nat) : Prop where
  l : xs.length = n
  n : n ≤ 1048576
  k : ∀ u ∈ xs, BdOk u.b
  o : OrdE xs
theorem OkE.two {xs : List Ev} {n : Nat} (h : OkE xs n) {i j : Int} (hi : 0 ≤ i ∧ i < n) (hj : 0 ≤ j ∧ j < n) : BdOk (gi xs i).b ∧ BdOk (gi xs j).b := by
  have := h.l
  exact ⟨h.k _ (gi_mem (by omega)), h.k _ (gi_mem (by omega))⟩
theorem OkE.ge {xs : List Ev} {n : Nat} (h : OkE xs n) {i j : Int} (hi : 0 ≤ i ∧ i < j) (hj : j < n) : ¬ cmpE (gi xs j) (gi xs i) < 0 := by
  have := h.l
  have h1 := h.o i.toNat j.toNat (by omega) (by omega)
  rw [show ((j.toNat : Nat) : Int) = j by omega, show ((i.toNat : Nat) : Int) = i by omega] at h1
  exact h1
section
variable (w0 : World) (L : List Blk) (b c n : Nat) (xs : List Ev) (sp : List Value) (T : TypeId)
instance sm_order2 (i j : Int) (bs : Nat) [h : AtC w0 L b (row eEv xs sp) T] : SpecM Tryz.prog w0 L 220 [.slice (some ⟨b, 0, none⟩) n c, .int .i64 i, .int .i64 j, .pointer (some ⟨bs, 0, none⟩), vFn 160] (.tuple #[.int .i64 i, .int .i64 j]) (OkE xs n ∧ (0 ≤ i ∧ i < j) ∧ j < n) := ⟨fun hp w hw => by
  obtain ⟨hk, hi, hj⟩ := hp
  have hl := hk.l
  have := FoC.mk (h.out w hw)
  have h2 := hk.two (i := j) (j := i) ⟨by omega, hj⟩ ⟨hi.1, by omega⟩
  have h3 := hk.ge hi hj
  refine fn_intro Tryz.func220 rfl Tryz.ntmps220 rfl ?_
  repeat (refine wkB ?_; try intro _)
  (refine j_tree (.v [0, 1, 2, 3, 4, 5, 6, 7, 8, 9, 10] (.fin)) ([]) (h := ?_); refine wkX ?_)
  (repeat (first | refine wkH ?_ | (refine tC rfl rfl ?_ ?_; focus (exact h2))))
  repeat (refine wkT ?_; try intro _)
  simp only [decide_eq_false h3]
  repeat (refine wkB ?_; try intro _)
  exact jx_ret_two rfl (resv_tmp rfl) (resv_tmp rfl) (fun w hw => ret_ok hw)⟩
instance sm_median (i j k : Int) (bs : Nat) [h : AtC w0 L b (row eEv xs sp) T] : SpecM Tryz.prog w0 L 213 [.slice (some ⟨b, 0, none⟩) n c, .int .i64 i, .int .i64 j, .int .i64 k, .pointer (some ⟨bs, 0, none⟩), vFn 160] (.int .i64 j) (OkE xs n ∧ (0 ≤ i ∧ i < j) ∧ j < k ∧ k < n) := ⟨fun hp w hw => by
  obtain ⟨hk, hi, hj, hn⟩ := hp
  have := FoC.mk (h.out w hw)
  have q1 : OkE xs n ∧ (0 ≤ i ∧ i < j) ∧ j < n := ⟨hk, hi, by omega⟩
  have q2 : OkE xs n ∧ (0 ≤ j ∧ j < k) ∧ k < n := ⟨hk, ⟨by omega, hj⟩, hn⟩
  refine fn_intro Tryz.func213 rfl Tryz.ntmps213 rfl ?_
  repeat (first | (refine wkB ?_; try intro _) | (refine sC rfl rfl ?_ ?_; focus (first | exact q1 | exact q2)) | (refine sN rfl rfl ?_ ?_; (focus (first | exact q1 | exact q2)); intro _; (try simp only [List.cons_append, List.nil_append, List.append_nil])))
  exact jx_ret_tmp rfl rfl (fun w hw => ret_ok hw)⟩
instance sm_pivot [h : AtC w0 L b (row eEv xs sp) T] : SpecM Tryz.prog w0 L 196 [.slice (some ⟨b, 0, none⟩) n c, .int .i64 0, .int .i64 n, vFn 160] (.tuple #[.int .i64 (0 + ((n : Int) - 0) / 4 * 2), .int .i64 1]) (OkE xs n ∧ 12 < n ∧ n < 50) := ⟨fun hp w hw => by
  obtain ⟨hk, h1, h2⟩ := hp
  have := FoC.mk (h.out w hw)
  have q : OkE xs n ∧ (0 ≤ 0 + ((n : Int) - 0) / 4 * 1 ∧ 0 + ((n : Int) - 0) / 4 * 1 < 0 + ((n : Int) - 0) / 4 * 2) ∧ 0 + ((n : Int) - 0) / 4 * 2 < 0 + ((n : Int) - 0) / 4 * 3 ∧ 0 + ((n : Int) - 0) / 4 * 3 < n := ⟨hk, by omega, by omega, by omega⟩
  refine fn_intro Tryz.func196 rfl Tryz.ntmps196 rfl ?_
  repeat (refine wkB ?_; try intro _)
  simp only [decide_eq_true (show (8 : Int) ≤ (n : Int) - 0 by omega)]
  repeat (refine wkB ?_; try intro _)
  simp only [decide_eq_false (show ¬ (50 : Int) ≤ (n : Int) - 0 by omega)]
  repeat (first | (refine wkB ?_; try intro _) | (refine sC rfl rfl ?_ ?_; focus (exact q)) | (refine sN rfl rfl ?_ ?_; (focus (exact q)); intro _; (try simp only [List.cons_append, List.nil_append, List.append_nil])))
  simp only [decide_eq_true (show (0 : Int) = 0 from rfl)]
  repeat (refine wkB ?_; try intro _)
  exact jx_ret_two rfl (resv_tmp rfl) (resv_tmp rfl) (fun w hw => ret_ok hw)⟩
instance sm_partial [h : AtC w0 L b (row eEv xs sp) T] : SpecM Tryz.prog w0 L 198 [.slice (some ⟨b, 0, none⟩) n c, .int .i64 0, .int .i64 n, vFn 160] (.bool true) (OkE xs n ∧ 12 < n ∧ n < 50) := ⟨fun hp w hw => by
  obtain ⟨hk, h1, h2⟩ := hp
  have hl := hk.l
  have := FoC.mk (h.out w hw)
  refine fn_intro Tryz.func198 rfl Tryz.ntmps198 rfl ?_
  repeat (refine wkB ?_; try intro _)
  refine j_loop (S := Unit) (fun _ => True) (fun _ => [(0, .slice (some ⟨b, 0, none⟩) n c), (1, .int .i64 0), (2, .int .i64 n), (3, vFn 160), (9, .int .i64 1), (10, .int .i64 0)]) (fun _ => []) (fun _ => 0) () trivial sbB slB (fun _ _ => ?_)
  repeat (refine wkB ?_; try intro _)
  simp only [decide_eq_true (show (0 : Int) < 5 by decide)]
  repeat (refine wkB ?_; try intro _)
  refine j_loop (S := Nat) (fun m => m + 1 ≤ n) (fun m => [(0, .slice (some ⟨b, 0, none⟩) n c), (1, .int .i64 0), (2, .int .i64 n), (3, vFn 160), (9, .int .i64 ((m + 1 : Nat) : Int))]) (fun _ => []) (fun m => n - m) 0 (by omega) sbB slB (fun m hm => ?_)
  by_cases hc : m + 1 < n
  · have e1 : ((m + 1 : Nat) : Int) - 1 = (m : Int) := by omega
    have q2 := hk.two (i := ((m + 1 : Nat) : Int)) (j := (m : Int)) ⟨by omega, by omega⟩ ⟨by omega, by omega⟩
    have q3 := hk.ge (i := (m : Int)) (j := ((m + 1 : Nat) : Int)) ⟨by omega, by omega⟩ (by omega)
    repeat (refine wkB ?_; try intro _)
    (refine j_tree (.v [0, 1, 2, 3, 4, 5, 6, 7, 8, 9, 10, 11, 12, 13, 14, 15, 16, 17] (.fin)) ([]) (h := ?_); refine wkX ?_)
    (repeat (refine wkH ?_))
    simp only [decide_eq_true (show ((m + 1 : Nat) : Int) < (n : Int) by omega)]
    (repeat (refine wkH ?_))
    simp only [e1]
    (repeat (first | refine wkH ?_ | (refine tC rfl rfl ?_ ?_; focus (exact q2))))
    simp only [decide_eq_false q3, Bool.not_false]
    (repeat (refine wkH ?_))
    repeat (refine wkT ?_; try intro _)
    repeat (first | (refine wkB ?_; try intro _) | (refine sC rfl rfl ?_ ?_; focus (exact ⟨by omega, by omega⟩)) | (refine sN rfl rfl ?_ ?_; (focus (exact ⟨by omega, by omega⟩)); intro _; (try simp only [List.cons_append, List.nil_append, List.append_nil])))
    exact jx_loop (m + 1) hc sbB slB (by omega)
  · have hn : m + 1 = n := by omega
    subst hn
    repeat (refine wkB ?_; try intro _)
    (refine j_tree (.v [0, 1, 2, 3, 4, 5, 6, 7, 8, 9, 10, 11, 12, 13, 14, 15, 16, 17] (.fin)) ([]) (h := ?_); refine wkX ?_)
    (repeat (refine wkH ?_))
    simp only [decide_eq_false (show ¬ ((m + 1 : Nat) : Int) < ((m + 1 : Nat) : Int) by omega)]
    (repeat (refine wkH ?_))
    repeat (refine wkT ?_; try intro _)
    repeat (refine wkB ?_; try intro _)
    simp only [decide_eq_true (show ((m + 1 : Nat) : Int) = ((m + 1 : Nat) : Int) from rfl)]
    repeat (refine wkB ?_; try intro _)
    exact jx_ret_tmp rfl rfl (fun w hw => ret_ok hw)⟩
end
end Go.Vt
/- The sort of few events, walked. Conditions: those that each statement names. -/
set_option linter.unusedSimpArgs false
set_option linter.unusedVariables false
set_option maxHeartbeats 2000000
set_option maxRecDepth 100000
namespace Go.Vt
open Go.RowKit Go.Proofs
theorem pdqE_spec (w0 w : World) (L L1 : List Blk) (xs : List Ev) (s : SlS eEv 12 xs) (T : TypeId) (lim : Int) [hd : OwnS T s L L1] (hl : xs.length ≤ 12) (hok : ∀ u ∈ xs, BdOk u.b) (hw : Own w0 L w) :
    Calls Tryz.prog 180 [vSl s, .int .i64 0, .int .i64 xs.length, .int .i64 lim, vFn 160].toArray w (RetX w0 (SrtSE xs s) (fun _ => .tuple #[]) (fun s' => mS T s'.1 ++ L1)) := by
  refine fn_introL Tryz.func180 rfl Tryz.ntmps180 rfl hw ?_
  repeat (refine wkB ?_; try intro _)
  refine j_loop (S := Unit) (fun _ => True) (fun _ => [(0, vSl s), (1, .int .i64 0), (2, .int .i64 xs.length), (3, .int .i64 lim), (4, vFn 160), (10, .bool true), (11, .bool true)]) (fun _ => L) (fun _ => 0) () trivial sbB slB (fun _ _ => ?_)
  repeat (refine wkB ?_; try intro _)
  simp only [decide_eq_true (show (xs.length : Int) - 0 ≤ 12 by omega)]
  repeat (refine wkB ?_; try intro _)
  refine sZ rfl rfl ?_ ?_
  · exact ⟨by omega, hok⟩
  intro s'
  repeat (refine wkB ?_; try intro _)
  exact jx_ret0 rfl (fun w hw => ⟨s', rfl, hw⟩)
theorem pdqO_spec (w0 : World) (L : List Blk) (b c n : Nat) (xs : List Ev) (sp : List Value) (T : TypeId) (lim : Int) [h : AtC w0 L b (row eEv xs sp) T] (hk : OkE xs n) (h1 : 12 < n) (h2 : n < 50) (h3 : 1 ≤ lim) (w : World) (hw : Own w0 L w) :
    Calls Tryz.prog 180 [.slice (some ⟨b, 0, none⟩) n c, .int .i64 0, .int .i64 n, .int .i64 lim, vFn 160].toArray w (Ret (.tuple #[]) w) := by
  have := FoC.mk (h.out w hw)
  have hn := hk.n
  refine fn_intro Tryz.func180 rfl Tryz.ntmps180 rfl ?_
  repeat (refine wkB ?_; try intro _)
  refine j_loop (S := Unit) (fun _ => True) (fun _ => [(0, .slice (some ⟨b, 0, none⟩) n c), (1, .int .i64 0), (2, .int .i64 n), (3, .int .i64 lim), (4, vFn 160), (10, .bool true), (11, .bool true)]) (fun _ => []) (fun _ => 0) () trivial sbB slB (fun _ _ => ?_)
  repeat (refine wkB ?_; try intro _)
  simp only [decide_eq_false (show ¬ (n : Int) - 0 ≤ 12 by omega)]
  repeat (refine wkB ?_; try intro _)
  simp only [decide_eq_false (show ¬ lim = 0 by omega)]
  repeat (first | (refine wkB ?_; try intro _) | (refine sC rfl rfl ?_ ?_; focus (exact ⟨hk, h1, h2⟩)) | (refine sN rfl rfl ?_ ?_; (focus (exact ⟨hk, h1, h2⟩)); intro _; (try simp only [List.cons_append, List.nil_append, List.append_nil])))
  simp only [decide_eq_false (show ¬ (1 : Int) = 2 by decide)]
  repeat (first | (refine wkB ?_; try intro _) | (refine sC rfl rfl ?_ ?_; focus (exact ⟨hk, h1, h2⟩)) | (refine sN rfl rfl ?_ ?_; (focus (exact ⟨hk, h1, h2⟩)); intro _; (try simp only [List.cons_append, List.nil_append, List.append_nil])))
  try simp only [decide_eq_true (show (1 : Int) = 1 from rfl)]
  repeat (first | (refine wkB ?_; try intro _) | (refine sC rfl rfl ?_ ?_; focus (exact ⟨hk, h1, h2⟩)) | (refine sN rfl rfl ?_ ?_; (focus (exact ⟨hk, h1, h2⟩)); intro _; (try simp only [List.cons_append, List.nil_append, List.append_nil])))
  exact jx_ret0 rfl (fun w hw => ret_ok hw)
instance sx_pdqE (w0 : World) (L L1 : List Blk) (xs : List Ev) (s : SlS eEv 12 xs) (T : TypeId) (lim : Int) [hd : OwnS T s L L1] : SpecX Tryz.prog w0 L 180 [vSl s, .int .i64 0, .int .i64 xs.length, .int .i64 lim, vFn 160] (SrtSE xs s) (fun _ => .tuple #[]) (fun s' => mS T s'.1 ++ L1) ((xs.length ≤ 12 ∨ (OrdE xs ∧ xs.length < 50 ∧ 1 ≤ lim)) ∧ ∀ u ∈ xs, BdOk u.b) := ⟨fun hp w hw => by
  obtain ⟨hp1, hp2⟩ := hp
  by_cases h12 : xs.length ≤ 12
  · exact pdqE_spec w0 w L L1 xs s T lim h12 hp2 hw
  · obtain ⟨ho, h50, hlim⟩ := hp1.resolve_left h12
    have hw1 := hw.perm hd.out
    rcases s.cases T with ⟨h0, -, -⟩ | ⟨b, c, sp, hc, hv, hm, hne⟩
    · rw [h0] at h12; simp at h12
    · have hk : OkE xs xs.length := ⟨rfl, by omega, hp2, ho⟩
      obtain ⟨s', e1, e2⟩ := SlS.turn T (srt_same ho (xs.length - 1) (Nat.le_refl _)).symm s
      have hA : AtC w0 (⟨b, row eEv xs sp, T⟩ :: L1) b (row eEv xs sp) T := inferInstance
      rw [hm] at hw1
      have key := pdqO_spec w0 (⟨b, row eEv xs sp, T⟩ :: L1) b c xs.length xs sp T lim hk (by omega) h50 hlim w hw1
      rw [← hv] at key
      refine key.mono fun e w' ⟨he, hx⟩ => ⟨⟨s', e1⟩, he, ?_⟩
      show Own w0 (mS T s' ++ L1) w'
      rw [e2, hm]
      exact hw1.to hx⟩
instance sp_bitsLen (x : Nat) : SpecC Tryz.prog 181 [.int .u64 (x : Int)] (.int .i64 (Lib.bitLen x)) ((x : Int) ≤ 18446744073709551615) := ⟨fun hp w => (Tryz.bits_Len x w (by omega) hp).mono fun e w' ⟨h1, h2⟩ => by
  subst h2
  exact ⟨h1, Ext.refl _⟩⟩
theorem sortE_spec (w0 w : World) (L L1 : List Blk) (xs : List Ev) (s : SlS eEv 12 xs) (T : TypeId) [hd : OwnS T s L L1] (hl : xs.length ≤ 12 ∨ (OrdE xs ∧ xs.length < 50)) (hok : ∀ u ∈ xs, BdOk u.b) (hw : Own w0 L w) :
    Calls Tryz.prog 159 [vSl s, vFn 160].toArray w (RetX w0 (SrtSE xs s) (fun _ => .tuple #[]) (fun s' => mS T s'.1 ++ L1)) := by
  refine fn_introL Tryz.func159 rfl Tryz.ntmps159 rfl hw ?_
  repeat (first | (refine wkB ?_; try intro _) | (refine sC rfl rfl ?_ ?_; focus (omega)) | (refine sN rfl rfl ?_ ?_; (focus (omega)); intro _; (try simp only [List.cons_append, List.nil_append, List.append_nil])))
  refine sZ rfl rfl ?_ ?_
  · by_cases h0 : xs.length ≤ 12
    · exact ⟨.inl h0, hok⟩
    · obtain ⟨k1, k2⟩ := hl.resolve_left h0
      refine ⟨.inr ⟨k1, k2, ?_⟩, hok⟩
      have := Lib.bitLen_half xs.length (by omega) (by omega)
      omega
  intro s'
  repeat (refine wkB ?_; try intro _)
  exact jx_end0 rfl (fun w hw => ⟨s', rfl, hw⟩)
instance sx_sortE (w0 : World) (L L1 : List Blk) (xs : List Ev) (s : SlS eEv 12 xs) (T : TypeId) [hd : OwnS T s L L1] : SpecX Tryz.prog w0 L 159 [vSl s, vFn 160] (SrtSE xs s) (fun _ => .tuple #[]) (fun s' => mS T s'.1 ++ L1) ((xs.length ≤ 12 ∨ (OrdE xs ∧ xs.length < 50)) ∧ ∀ u ∈ xs, BdOk u.b) := ⟨fun hp w hw => sortE_spec w0 w L L1 xs s T hp.1 hp.2 hw⟩
end Go.Vt
/- Sweeping over the borders of two periods, walked. Conditions: those that each statement names. -/
set_option linter.unusedSimpArgs false
set_option linter.unusedVariables false
set_option maxHeartbeats 2000000
set_option maxRecDepth 100000
namespace Go.Vt
open Go.RowKit Go.Proofs
def eSlc (x : Sl) : Array Value := #[.slice x.a x.len x.cap]
instance : Inhabited Sl := ⟨⟨none, 0, 0⟩⟩
instance enc_Slc : EncC eSlc 1 := ⟨fun _ => rfl, fun x => by simp [eSlc, Value.oneCell']⟩
instance ld_Slc (x : Sl) : LdC Tryz.prog 87 (eSlc x) 0 (.slice x.a x.len x.cap) := ⟨ldv_one (by kernel_rfl) (by kernel_rfl)⟩
instance bs_Slc (a a' : Option Addr) (l l' c c' : Nat) : BsC Tryz.prog 230 2 [(0, .slice a l c), (1, .slice a' l' c')] (row eSlc [⟨a, l, c⟩, ⟨a', l', c'⟩] []) 87 := ⟨fun w => by kernel_rfl⟩
/-- The events of some intervals of the first, of the second period. -/
def evA (is : List R_api_Interval) : Nat → List Ev
  | 0 => []
  | m + 1 => evA is m ++ [⟨bdF (gi is (m : Int)), 1, 0⟩, ⟨bdL (gi is (m : Int)), -1, 0⟩]
def evB (is : List R_api_Interval) : Nat → List Ev
  | 0 => []
  | m + 1 => evB is m ++ [⟨bdF (gi is (m : Int)), 0, 1⟩, ⟨bdL (gi is (m : Int)), 0, -1⟩]
def kpM (a b : Bool) : Bool := a && !b
def kpU (a b : Bool) : Bool := a || b
/-- What is known behind so many events: the numbers of intervals, where the last one began, whether one is open, what has been found. -/
structure SwS where
  n0 : Int
  n1 : Int
  fr : Bd
  on : Bool
  out : List R_api_Interval
def sws (kp : Bool → Bool → Bool) (l : List Ev) : Nat → SwS
  | 0 => ⟨0, 0, zR_period_border, false, []⟩
  | m + 1 =>
    let p := sws kp l m
    let x := gi l (m : Int)
    let n0 := p.n0 + x.n0
    let n1 := p.n1 + x.n1
    if m + 1 < l.length ∧ cmpB x.b (gi l ((m + 1 : Nat) : Int)).b = 0 then ⟨n0, n1, p.fr, p.on, p.out⟩
    else
      let now := kp (decide (0 < n0)) (decide (0 < n1))
      ⟨n0, n1, if now && !p.on then x.b else p.fr, now, if now && !p.on then p.out else if !now && p.on then p.out ++ [bdB p.fr x.b] else p.out⟩
theorem evA_len (is : List R_api_Interval) : ∀ m, (evA is m).length = 2 * m
  | 0 => rfl
  | m + 1 => by rw [evA, List.length_append, evA_len is m]; simp; omega
theorem evB_len (is : List R_api_Interval) : ∀ m, (evB is m).length = 2 * m
  | 0 => rfl
  | m + 1 => by rw [evB, List.length_append, evB_len is m]; simp; omega
end Go.Vt
