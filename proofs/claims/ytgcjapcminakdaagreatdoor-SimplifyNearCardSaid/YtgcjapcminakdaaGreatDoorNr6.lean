/- SimplifyNear holds for every input that the card takes. Conditions: none. (part 6 of 6.) Conditions: those that each statement names. -/
import Derived.Test.YtgcjapcminakdaaGreatDoorNr5
/- Runs with the kept breakpoints: plain. Conditions: those that each statement names. -/
set_option linter.unusedSimpArgs false
set_option linter.unusedVariables false
set_option maxHeartbeats 2000000
set_option maxRecDepth 100000
namespace Go.Vt
open Go.RowKit Go.Proofs
open Fv (va red)
structure RLp (I : R_api_Interval) (P : List SS) : Prop where
  fr : I.From = ⟨(gi P 0).T, 0, false⟩
  to : I.To = ⟨(gi P ((P.length - 1 : Nat) : Int)).T, 0, false⟩
  fl : P.length = 1 → I.OpenFrom = false ∧ I.OpenTo = false
  i : Inc P
  l1 : 1 ≤ P.length
theorem one_RLp {l : List PU} (h : PNf l) {m : Nat} (hm : m < l.length) : RLp (rnI (gi l (m : Int)) (gi l (m : Int)).In) (rnP (gi l (m : Int)) [smq (gi l (m : Int)).F (gi l (m : Int)).In.From]) := by
  have hg := h.g hm
  have hk := h.ok hm
  have h1 := rt_is hg.1
  have h2 := rt_is hg.2
  generalize gi l (m : Int) = u at *
  unfold GU.ok at hk
  simp only [absP, absU, toU] at hk
  unfold rnP
  by_cases he : u.In.From = u.In.To
  · rw [if_pos he]
    have he' : u.In.From.P = u.In.To.P := by rw [he]
    have hc : u.In.OpenFrom = false ∧ u.In.OpenTo = false := by
      rcases hk with k | k
      · rw [he'] at k; exact absurd k (by grind)
      · exact k.2
    refine ⟨h1, ?_, fun _ => hc, fun i hi => by simp at hi, Nat.le_refl _⟩
    show u.In.To = ⟨(smq u.F u.In.From).T, 0, false⟩
    rw [← he]
    exact h1
  · rw [if_neg he]
    have hlt : u.In.From.P < u.In.To.P := by
      rcases hk with k | k
      · exact k
      · exact absurd (rt_of hg.1 hg.2 k.1) he
    refine ⟨h1, h2, fun k => by simp at k, fun i hi => ?_, by simp⟩
    have hi' : i + 1 < 2 := by simpa using hi
    have : i = 0 := by omega
    subst this
    exact hlt
theorem rn_RLp {l : List PU} (h : PNf l) : ∀ m, m ≤ l.length → ((∀ p ∈ (rn (fstU l) l m).dn, RLp p.1 p.2) ∧ (0 < m → RLp (rn (fstU l) l m).I (rn (fstU l) l m).P))
  | 0, _ => ⟨(fun p hp => by cases hp), (fun k => absurd k (by omega))⟩
  | m + 1, hm => by
    obtain ⟨h1, h2⟩ := rn_RLp h m (by omega)
    have iv := rn_inv h m (by omega)
    have hD : ∀ p ∈ rnD (rn (fstU l) l m), RLp p.1 p.2 := fun p hp => by
      unfold rnD at hp
      split at hp
      · exact h1 p hp
      · rename_i hne
        rcases List.mem_append.1 hp with k | k
        · exact h1 p k
        · rw [List.mem_singleton.1 k]
          rcases Nat.eq_zero_or_pos m with h0 | h0
          · subst h0
            exact absurd rfl hne
          · exact h2 h0
    rw [rn]
    by_cases hc : fstU l m = true
    · rw [if_pos hc]
      exact ⟨hD, fun _ => one_RLp h (by omega)⟩
    · rw [if_neg hc]
      have hc' : 0 < m ∧ trn (gi l ((m - 1 : Nat) : Int)) (gi l (m : Int)) = true := by
        unfold fstU at hc
        simp only [Bool.or_eq_true, decide_eq_true_eq, Bool.not_eq_true', not_or] at hc
        exact ⟨by omega, by simpa using hc.2⟩
      obtain ⟨m0, ht⟩ := hc'
      obtain ⟨s1, s2, s3, s4, s5, s6⟩ := trn_spec h (i := m - 1) (j := m) (by omega) (by omega) ht
      have hg := h.g (i := m) (by omega)
      have p1 := iv.p m0
      have p3 := iv.la m0
      have q := h2 m0
      refine ⟨h1, fun _ => ?_⟩
      generalize rn (fstU l) l m = st at *
      have hne : ¬ (gi l (m : Int)).In.From = (gi l (m : Int)).In.To := fun k => by rw [k] at s5; exact absurd s5 (by grind)
      have hP : rnP (gi l (m : Int)) st.P = st.P ++ [smq (gi l (m : Int)).F (gi l (m : Int)).In.To] := if_neg hne
      show RLp (rnI (gi l (m : Int)) st.I) (rnP (gi l (m : Int)) st.P)
      rw [hP]
      have hlen : (st.P ++ [smq (gi l (m : Int)).F (gi l (m : Int)).In.To]).length = st.P.length + 1 := by simp
      have hg0 : gi (st.P ++ [smq (gi l (m : Int)).F (gi l (m : Int)).In.To]) ((0 : Nat) : Int) = gi st.P ((0 : Nat) : Int) := gi_app (by omega)
      refine ⟨?_, ?_, fun k => by rw [hlen] at k; omega, fun i hi => ?_, by rw [hlen]; omega⟩
      · show st.I.From = ⟨(gi (st.P ++ [smq (gi l (m : Int)).F (gi l (m : Int)).In.To]) ((0 : Nat) : Int)).T, 0, false⟩
        rw [hg0]
        exact q.fr
      · rw [hlen, Nat.add_sub_cancel, gi_snoc]
        exact rt_is hg.2
      · rw [hlen] at hi
        rcases (by omega : i + 1 < st.P.length ∨ i + 1 = st.P.length) with k | k
        · rw [gi_app (by omega), gi_app k]
          exact q.i i k
        · rw [gi_app (by omega), k, gi_snoc]
          rw [show i = st.P.length - 1 by omega, p3]
          show (gi l ((m - 1 : Nat) : Int)).In.To.P < (gi l (m : Int)).In.To.P
          rw [s1]
          exact s5
theorem rns_RLp {l : List PU} (h : PNf l) : ∀ p ∈ rns (fstU l) l, RLp p.1 p.2 := fun p hp => by
  obtain ⟨h1, h2⟩ := rn_RLp h l.length (Nat.le_refl _)
  unfold rns rnD at hp
  split at hp
  · exact h1 p hp
  · rename_i hne
    rcases List.mem_append.1 hp with k | k
    · exact h1 p k
    · rw [List.mem_singleton.1 k]
      rcases Nat.eq_zero_or_pos l.length with h0 | h0
      · rw [h0] at hne
        exact absurd rfl hne
      · exact h2 h0
/-- A run, wherever it lies. -/
abbrev rdO (p : R_api_Interval × List SS) : RD := ⟨p.1, 0, 0, p.2, []⟩
theorem RLp.ln {I : R_api_Interval} {P : List SS} (h : RLp I P) (hB : Bnd P) (hl : P.length ≤ 13) (b c : Nat) (sp : List Value) : RLn 13 ⟨I, b, c, P, sp⟩ := ⟨h.fr, h.to, h.fl, hB, h.i, h.l1, hl, Nat.le_refl _⟩
def Stpp (ok : Nat → Nat → Bool) (l : Nat) (a b : Int) : Prop := ∃ i k : Nat, a = i ∧ b = k ∧ i < k ∧ k ≤ l ∧ ok i k = true
structure KWay (ok : Nat → Nat → Bool) (l : Nat) (ks : List Int) : Prop where
  n : 1 ≤ ks.length ∧ ks.length ≤ l + 1
  h : gi ks 0 = 0
  t : gi ks ((ks.length - 1 : Nat) : Int) = l
  s : ∀ m : Nat, m + 1 < ks.length → Stpp ok l (gi ks (m : Int)) (gi ks ((m + 1 : Nat) : Int))
theorem gi_cons {α : Type} [Inhabited α] (x : α) (xs : List α) (m : Nat) : gi (x :: xs) ((m + 1 : Nat) : Int) = gi xs (m : Int) := by
  unfold gi
  rw [show ((m + 1 : Nat) : Int).toNat = m + 1 by omega, show ((m : Nat) : Int).toNat = m by omega]
  rfl
theorem chn_way {ok : Nat → Nat → Bool} {l : Nat} (hok : ∀ i, i < l → ok i (i + 1) = true) : ∀ (f i : Nat), i ≤ l → l - i ≤ f →
    ((i : Int) :: chn (ou ok l l).1 l f (i : Int)).length ≤ l - i + 1 ∧ gi ((i : Int) :: chn (ou ok l l).1 l f (i : Int)) ((((i : Int) :: chn (ou ok l l).1 l f (i : Int)).length - 1 : Nat) : Int) = l ∧ ∀ m : Nat, m + 1 < ((i : Int) :: chn (ou ok l l).1 l f (i : Int)).length → Stpp ok l (gi ((i : Int) :: chn (ou ok l l).1 l f (i : Int)) (m : Int)) (gi ((i : Int) :: chn (ou ok l l).1 l f (i : Int)) ((m + 1 : Nat) : Int))
  | 0, i, hi, hf => by
    have : i = l := by omega
    subst this
    exact ⟨by simp [chn], rfl, fun m hm => by simp [chn] at hm⟩
  | f + 1, i, hi, hf => by
    by_cases hl : (i : Int) < l
    · have hl' : i < l := by omega
      obtain ⟨k, k1, k2, k3, k4, k5, k6⟩ := ou_best (ok := ok) (l := l) hok hl'
      have hc : chn (ou ok l l).1 l (f + 1) (i : Int) = (k : Int) :: chn (ou ok l l).1 l f (k : Int) := by
        rw [chn, if_pos hl, k1]
      obtain ⟨g1, g2, g3⟩ := chn_way hok f k (by omega) (by omega)
      rw [hc]
      generalize hq : (k : Int) :: chn (ou ok l l).1 l f (k : Int) = q at *
      have hq0 : 0 < q.length := by rw [← hq]; simp
      refine ⟨by rw [List.length_cons]; omega, ?_, fun m hm => ?_⟩
      · rw [List.length_cons, show q.length + 1 - 1 = (q.length - 1) + 1 by omega, gi_cons]
        exact g2
      · rcases m with _ | m
        · rw [gi_cons]
          refine ⟨i, k, rfl, ?_, by omega, by omega, k5⟩
          rw [← hq]
          rfl
        · rw [gi_cons, gi_cons]
          rw [List.length_cons] at hm
          exact g3 m (by omega)
    · have : i = l := by omega
      subst this
      have hc : chn (ou ok i i).1 i (f + 1) (i : Int) = [] := by rw [chn, if_neg hl]
      rw [hc]
      exact ⟨by simp, rfl, fun m hm => by simp at hm⟩
theorem kept_way {ok : Nat → Nat → Bool} {l : Nat} (hok : ∀ i, i < l → ok i (i + 1) = true) : KWay ok l (keptL ok l) := by
  obtain ⟨h1, h2, h3⟩ := chn_way hok l 0 (Nat.zero_le _) (by omega)
  unfold keptL
  exact ⟨⟨by simp, by have : ((0 : Nat) : Int) = 0 := rfl; rw [this] at h1; omega⟩, rfl, h2, h3⟩
theorem KWay.rgt {ok : Nat → Nat → Bool} {l : Nat} {ks : List Int} (h : KWay ok l ks) : Go.Vt.rgt (l + 1) ks = true := by
  have h1 := h.n
  have hir : ∀ m, m ≤ ks.length - 1 → ir ks m = true := fun m => by
    induction m with
    | zero => exact fun _ => rfl
    | succ m ih =>
      intro hm
      obtain ⟨i, k, a, b, c, -⟩ := h.s m (by omega)
      rw [ir, ih (by omega), decide_eq_true (by omega)]
      rfl
  unfold Go.Vt.rgt
  have ht := h.t
  rw [show ((ks.length - 1 : Nat) : Int) = (ks.length : Int) - 1 by omega] at ht
  rw [decide_eq_true (show ks ≠ [] by intro k; rw [k] at h1; simp at h1), decide_eq_true h.h, decide_eq_true (by omega), hir _ (Nat.le_refl _)]
  rfl
theorem kp_gi (pts : List SS) (ks : List Int) : ∀ (m j : Nat), j < m → gi (kp pts ks m) (j : Int) = gi pts (gi ks (j : Int))
  | 0, j, h => absurd h (by omega)
  | m + 1, j, h => by
    rw [kp]
    rcases (by omega : j < m ∨ j = m) with k | k
    · rw [gi_app (by rw [kp_len]; exact k), kp_gi pts ks m j k]
    · subst k
      have := gi_snoc (kp pts ks j) (gi pts (gi ks (j : Int)))
      rw [kp_len] at this
      exact this
/-- The run with its kept breakpoints. -/
def kpP (mo : Rat) (P : List SS) : List SS := kp P (keptL (okd P mo) (P.length - 1)) (keptL (okd P mo) (P.length - 1)).length
def kpR (mo : Rat) (p : R_api_Interval × List SS) : R_api_Interval × List SS := (p.1, kpP mo p.2)
section
variable {I : R_api_Interval} {P : List SS} {d : Rat}
theorem kp_way : KWay (okd P (d * d)) (P.length - 1) (keptL (okd P (d * d)) (P.length - 1)) := kept_way fun i _ => okd_next i
theorem kpP_len : (kpP (d * d) P).length = (keptL (okd P (d * d)) (P.length - 1)).length := kp_len _ _ _
theorem RLp.kp (h : RLp I P) : RLp I (kpP (d * d) P) := by
  have hl1 := h.l1
  have hi := h.i
  have hw := kp_way (P := P) (d := d)
  have hn := hw.n
  have hkl := kpP_len (P := P) (d := d)
  have g : ∀ j : Nat, j < (keptL (okd P (d * d)) (P.length - 1)).length → gi (kpP (d * d) P) (j : Int) = gi P (gi (keptL (okd P (d * d)) (P.length - 1)) (j : Int)) := fun j hj => kp_gi _ _ _ _ hj
  refine ⟨?_, ?_, fun k => ?_, fun i hi' => ?_, by omega⟩
  · have := g 0 (by omega)
    rw [show ((0 : Nat) : Int) = 0 from rfl, hw.h] at this
    rw [this]
    exact h.fr
  · rw [hkl, g _ (by omega), hw.t]
    exact h.to
  · rw [hkl] at k
    have ht := hw.t
    rw [k] at ht
    have h0 := hw.h
    rw [show ((1 - 1 : Nat) : Int) = 0 from rfl, h0] at ht
    exact h.fl (by omega)
  · rw [hkl] at hi'
    obtain ⟨a, b, e1, e2, e3, e4, -⟩ := hw.s i hi'
    rw [g i (by omega), g (i + 1) hi', e1, e2]
    exact hi.lt e3 (by omega)
theorem kpP_of (h : RLp I P) : ∀ s ∈ kpP (d * d) P, s ∈ P := fun s hs => by
  have hw := kp_way (P := P) (d := d)
  have hl1 := h.l1
  have hn := hw.n
  have hkl := kpP_len (P := P) (d := d)
  obtain ⟨j, hj, rfl⟩ := List.getElem_of_mem hs
  have hj' : j < (keptL (okd P (d * d)) (P.length - 1)).length := by omega
  rw [← gi_nat hj]
  have : gi (kpP (d * d) P) (j : Int) = gi P (gi (keptL (okd P (d * d)) (P.length - 1)) (j : Int)) := kp_gi _ _ _ _ hj'
  rw [this]
  rcases j with _ | j
  · rw [show ((0 : Nat) : Int) = 0 from rfl, hw.h]
    exact gi_mem (i := ((0 : Nat) : Int)) (by omega)
  · obtain ⟨a, b, e1, e2, e3, e4, -⟩ := hw.s j hj'
    rw [e2]
    exact gi_mem (by omega)
end
section
variable {N : Nat} {r : RD}
theorem b1_at (h : RLn N r) {i : Nat} (hi : i + 1 < r.pts.length) {t : Rat} (h1 : (gi r.pts (i : Int)).T ≤ t) (h2 : t ≤ (gi r.pts ((i + 1 : Nat) : Int)).T) (hm : memI r.I t) : Has ((b1W r).map absU) t (pos (stl (gi r.pts (i : Int)) (gi r.pts ((i + 1 : Nat) : Int))) t) := by
  rw [b1_has h]
  obtain ⟨-, -, -, n4⟩ := frS_law h.B h.i (by omega)
  exact ⟨(n4 _ _).2 (sgW_has h.i (m := r.pts.length - 1) (by omega) (by omega) h1 h2), hm⟩
theorem b1_way (h : RLn N r) (h2 : 2 ≤ r.pts.length) {t : Rat} {v : R_api_Point} (hv : Has ((b1W r).map absU) t v) : ∃ i : Nat, i + 1 < r.pts.length ∧ (gi r.pts (i : Int)).T ≤ t ∧ t ≤ (gi r.pts ((i + 1 : Nat) : Int)).T ∧ v = pos (stl (gi r.pts (i : Int)) (gi r.pts ((i + 1 : Nat) : Int))) t := by
  rw [b1_has h] at hv
  obtain ⟨-, -, -, n4⟩ := frS_law h.B h.i h2
  have h3 := (n4 _ _).1 hv.1
  rw [has_map] at h3
  obtain ⟨u, hu, k1, k2⟩ := h3
  obtain ⟨i, hi, rfl⟩ := sgW_mem hu
  refine ⟨i, by omega, ?_, ?_, k2.symm⟩
  · have := k1.1
    unfold toU sgU at this
    simp only at this
    grind
  · have := k1.2
    unfold toU sgU at this
    simp only at this
    grind
theorem b1_one (h : RLn N r) (h1 : r.pts.length = 1) {t : Rat} {v : R_api_Point} : Has ((b1W r).map absU) t v ↔ memI r.I t ∧ v = (gi r.pts 0).P := by
  obtain ⟨e1, e2⟩ := h.one h1
  rw [e1, frW_one h1, has_map, e2]
  have hp : ∀ t, pos (one1 (gi r.pts 0)).F t = (gi r.pts 0).P := fun t => by
    unfold pos one1
    simp only [Rat.mul_zero, Rat.add_zero]
  constructor
  · rintro ⟨u, hu, k1, k2⟩
    rw [List.mem_singleton] at hu
    subst hu
    exact ⟨k1, k2.symm.trans (hp t)⟩
  · rintro ⟨k1, k2⟩
    exact ⟨_, .head _, k1, (hp t).trans k2.symm⟩
/-- It is somewhere just during its period. -/
theorem b1_dom (h : RLn N r) {t : Rat} : (∃ v, Has ((b1W r).map absU) t v) ↔ memI r.I t := by
  constructor
  · rintro ⟨v, hv⟩
    exact (b1_has h |>.1 hv).2
  · intro hm
    by_cases h1 : r.pts.length = 1
    · exact ⟨_, (b1_one h h1).2 ⟨hm, rfl⟩⟩
    · have hl := h.l1
      have f1 := h.fr
      have f2 := h.to
      obtain ⟨m1, m2⟩ := hm
      obtain ⟨i, a, b, c, e⟩ := way_at h.i (f := 0) (g := r.pts.length - 1) (by omega) (by omega) (t := t) (by
        have : r.I.From.P = (gi r.pts ((0 : Nat) : Int)).T := by rw [f1]; rfl
        grind) (by
        have : r.I.To.P = (gi r.pts ((r.pts.length - 1 : Nat) : Int)).T := by rw [f2]
        grind)
      exact ⟨_, b1_at h (by omega) c e ⟨m1, m2⟩⟩
end
theorem poly_uniq {pts : List SS} (hi : Inc pts) {i j : Nat} (h1 : i + 1 < pts.length) (h2 : j + 1 < pts.length) {t : Rat} (a1 : (gi pts (i : Int)).T ≤ t) (a2 : t ≤ (gi pts ((i + 1 : Nat) : Int)).T) (b1 : (gi pts (j : Int)).T ≤ t) (b2 : t ≤ (gi pts ((j + 1 : Nat) : Int)).T) :
    pos (stl (gi pts (i : Int)) (gi pts ((i + 1 : Nat) : Int))) t = pos (stl (gi pts (j : Int)) (gi pts ((j + 1 : Nat) : Int))) t := by
  have key : ∀ i j : Nat, i < j → j + 1 < pts.length → t ≤ (gi pts ((i + 1 : Nat) : Int)).T → (gi pts (j : Int)).T ≤ t → pos (stl (gi pts (i : Int)) (gi pts ((i + 1 : Nat) : Int))) t = pos (stl (gi pts (j : Int)) (gi pts ((j + 1 : Nat) : Int))) t := fun i j hij hj c1 c2 => by
    have hle := hi.le (show i + 1 ≤ j by omega) (by omega)
    have hji : j = i + 1 := by
      rcases (by omega : i + 1 < j ∨ j = i + 1) with k | k
      · have := hi.lt k (by omega)
        grind
      · exact k
    subst hji
    have ht : t = (gi pts ((i + 1 : Nat) : Int)).T := by grind
    rw [ht, stl_b (hi i (by omega)), stl_a (hi (i + 1) hj)]
  rcases Nat.lt_trichotomy i j with k | k | k
  · exact key i j k h2 a2 b1
  · subst k; rfl
  · exact (key j i k h1 b2 a1).symm
/-- The run with its kept breakpoints is near. -/
theorem near_run {I : R_api_Interval} {P : List SS} {d : Rat} (h : RLp I P) (hB : Bnd P) (hl : P.length ≤ 13) (hB' : Bnd (kpP (d * d) P)) {t : Rat} {v v' : R_api_Point} (hv : Has ((b1W (rdO (I, P))).map absU) t v) (hv' : Has ((b1W (rdO (I, kpP (d * d) P))).map absU) t v') : d2 v v' ≤ d * d := by
  have hk := h.kp (d := d)
  have hw := kp_way (P := P) (d := d)
  have hn := hw.n
  have hkl := kpP_len (P := P) (d := d)
  have hl1 := h.l1
  have r1 := h.ln hB hl 0 0 []
  have r2 := hk.ln hB' (by omega) 0 0 []
  have g : ∀ j : Nat, j < (keptL (okd P (d * d)) (P.length - 1)).length → gi (kpP (d * d) P) (j : Int) = gi P (gi (keptL (okd P (d * d)) (P.length - 1)) (j : Int)) := fun j hj => kp_gi _ _ _ _ hj
  by_cases h1 : P.length = 1
  · have hk1 : (kpP (d * d) P).length = 1 := by omega
    have e1 := ((b1_one r1 h1).1 hv).2
    have e2 := ((b1_one r2 hk1).1 hv').2
    have g0 := g 0 (by omega)
    rw [show ((0 : Nat) : Int) = 0 from rfl, hw.h] at g0
    simp only at e1 e2
    rw [e1, e2, g0, d2_self]
    exact sq0 d
  · have h2 : 2 ≤ (kpP (d * d) P).length := by
      rcases (by omega : (kpP (d * d) P).length = 1 ∨ 2 ≤ (kpP (d * d) P).length) with k | k
      · have ht := hw.t
        rw [show (keptL (okd P (d * d)) (P.length - 1)).length = 1 by omega, show ((1 - 1 : Nat) : Int) = 0 from rfl, hw.h] at ht
        omega
      · exact k
    obtain ⟨i, i1, i2, i3, i4⟩ := b1_way r1 (by show 2 ≤ P.length; omega) hv
    obtain ⟨j, j1, j2, j3, j4⟩ := b1_way r2 h2 hv'
    simp only at i1 i2 i3 i4 j1 j2 j3 j4
    obtain ⟨a, b, e1, e2, e3, e4, e5⟩ := hw.s j (by omega)
    rw [g j (by omega), g (j + 1) (by omega), e1, e2] at j4
    rw [g j (by omega), e1] at j2
    rw [g (j + 1) (by omega), e2] at j3
    obtain ⟨q, q1, q2, q3, q4⟩ := way_at h.i e3 (by omega) j2 j3
    have hd := dev_law h.i e3 (by omega) q1 q2 q3 q4
    rw [i4, j4, poly_uniq h.i i1 (by omega) i2 i3 q3 q4]
    unfold okd at e5
    exact Rat.le_trans hd (of_decide_eq_true e5)
def b1sW (ps : List (R_api_Interval × List SS)) : List UL := (b1s ps).map toU
theorem b1sW_cons (p : R_api_Interval × List SS) (ps : List (R_api_Interval × List SS)) : b1sW (p :: ps) = b1W (rdO p) ++ b1sW ps := by
  unfold b1sW b1W b1s
  rw [List.flatMap_cons, List.map_append]
theorem has_app' {A B : List UL} {t : Rat} {v : R_api_Point} : Has ((A ++ B).map absU) t v ↔ Has (A.map absU) t v ∨ Has (B.map absU) t v := by
  rw [has_map, has_map, has_map]
  constructor
  · rintro ⟨u, hu, k⟩
    rcases List.mem_append.1 hu with h | h
    · exact .inl ⟨u, h, k⟩
    · exact .inr ⟨u, h, k⟩
  · rintro (⟨u, hu, k⟩ | ⟨u, hu, k⟩)
    · exact ⟨u, List.mem_append_left _ hu, k⟩
    · exact ⟨u, List.mem_append_right _ hu, k⟩
/-- What is asked of each run. -/
structure RGd (d : Rat) (p : R_api_Interval × List SS) : Prop where
  r : RLp p.1 p.2
  B : Bnd p.2
  l : p.2.length ≤ 13
theorem RGd.B' {d : Rat} {p : R_api_Interval × List SS} (h : RGd d p) : Bnd (kpP (d * d) p.2) := bnd_of fun s hs => by
  have hm := kpP_of h.r s hs
  obtain ⟨i, hi, rfl⟩ := List.getElem_of_mem hm
  have := h.B (i : Int)
  rw [gi_nat hi] at this
  exact this
theorem RGd.l' {d : Rat} {p : R_api_Interval × List SS} (h : RGd d p) : (kpP (d * d) p.2).length ≤ p.2.length := by
  have hw := kp_way (P := p.2) (d := d)
  have hn := hw.n
  have := h.r.l1
  rw [kpP_len]
  omega
theorem RGd.ln {d : Rat} {p : R_api_Interval × List SS} (h : RGd d p) : RLn 13 (rdO p) := h.r.ln h.B h.l 0 0 []
theorem RGd.ln' {d : Rat} {p : R_api_Interval × List SS} (h : RGd d p) : RLn 13 (rdO (kpR (d * d) p)) := h.r.kp.ln h.B' (by have := h.l'; have := h.l; omega) 0 0 []
/-- The kept runs are apart just as the runs are, as long at most, and near. -/
theorem kept_all {d : Rat} : ∀ ps : List (R_api_Interval × List SS), (∀ p ∈ ps, RGd d p) → ((b1sW ps).map absU).Pairwise Dis →
    ((b1sW (ps.map (kpR (d * d)))).map absU).Pairwise Dis ∧ (b1s (ps.map (kpR (d * d)))).length ≤ (b1s ps).length ∧ (∀ u ∈ b1sW (ps.map (kpR (d * d))), UK K0 u ∧ (absU u).ok) ∧
    (∀ t, (∃ v, Has ((b1sW (ps.map (kpR (d * d)))).map absU) t v) ↔ ∃ v, Has ((b1sW ps).map absU) t v) ∧
    ∀ t v v', Has ((b1sW ps).map absU) t v → Has ((b1sW (ps.map (kpR (d * d)))).map absU) t v' → d2 v v' ≤ d * d
  | [], _, _ => ⟨List.Pairwise.nil, Nat.le_refl _, (fun u hu => by cases hu), fun t => Iff.rfl, fun t v v' h => by
    rw [has_map] at h
    obtain ⟨u, hu, _⟩ := h
    cases hu⟩
  | p :: ps, hp, hd => by
    have h1 := hp p (.head _)
    rw [b1sW_cons, List.map_append, dis_app] at hd
    obtain ⟨d1, d2', d3⟩ := hd
    obtain ⟨i1, i2, i3, i4, i5⟩ := kept_all ps (fun q hq => hp q (.tail _ hq)) d2'
    have l1 := b1W_len h1.ln
    have l2 := b1W_len h1.ln'
    have f := b1_fit h1.ln'
    have hdom : ∀ t, (∃ v, Has ((b1W (rdO (kpR (d * d) p))).map absU) t v) ↔ ∃ v, Has ((b1W (rdO p)).map absU) t v := fun t => (b1_dom h1.ln').trans (b1_dom h1.ln).symm
    have hx : ∀ t, ¬ ((∃ v, Has ((b1W (rdO (kpR (d * d) p))).map absU) t v) ∧ ∃ v, Has ((b1sW (ps.map (kpR (d * d)))).map absU) t v) := fun t ht => d3 t ⟨(hdom t).1 ht.1, (i4 t).1 ht.2⟩
    rw [List.map_cons, b1sW_cons, b1sW_cons]
    refine ⟨?_, ?_, fun u hu => ?_, fun t => ?_, fun t v v' hv hv' => ?_⟩
    · rw [List.map_append, dis_app]
      exact ⟨f.p, i1, hx⟩
    · have e1 : ∀ (q : R_api_Interval × List SS) qs, (b1s (q :: qs)).length = (b1W (rdO q)).length + (b1s qs).length := fun q qs => by
        unfold b1s b1W
        rw [List.flatMap_cons, List.length_append, List.length_map]
      rw [e1, e1, l1.1, l2.1]
      have := h1.l' (d := d)
      have := h1.r.l1
      have := (h1.r.kp (d := d)).l1
      show (if (kpP (d * d) p.2).length = 1 then 1 else (kpP (d * d) p.2).length - 1) + _ ≤ (if p.2.length = 1 then 1 else p.2.length - 1) + _
      split <;> split <;> omega
    · rcases List.mem_append.1 hu with k | k
      · exact ⟨f.k u k, f.o u k⟩
      · exact i3 u k
    · simp only [has_app', exists_or]
      exact or_congr (hdom t) (i4 t)
    · rw [has_app'] at hv hv'
      rcases hv with hv | hv <;> rcases hv' with hv' | hv'
      · exact near_run h1.r h1.B h1.l h1.B' hv hv'
      · exact absurd ⟨(hdom t).2 ⟨_, hv⟩, _, hv'⟩ (hx t)
      · exact absurd ⟨⟨_, hv'⟩, (i4 t).2 ⟨_, hv⟩⟩ (hx t)
      · exact i5 t v v' hv hv'
end Go.Vt
/- Simplify and the reference's simplified moving point, walked. Conditions: those that each statement names. -/
set_option linter.unusedSimpArgs false
set_option linter.unusedVariables false
set_option maxHeartbeats 2000000
set_option maxRecDepth 100000
namespace Go.Vt
open Go.RowKit Go.Proofs
class OwnD (ds : List RD) (L : List Blk) (L1 : outParam (List Blk)) : Prop where
  out : L.Perm (dnB ds ++ L1)
section
variable {ds : List RD}
instance (priority := high) odHere (L : List Blk) : OwnD ds (dnB ds ++ L) L := ⟨.refl _⟩
instance (priority := low) odCons (e : Blk) (L L1 : List Blk) [h : OwnD ds L L1] : OwnD ds (e :: L) (e :: L1) := ⟨(h.out.cons e).trans List.perm_middle.symm⟩
instance (priority := low) odSkip (X L L1 : List Blk) [h : OwnD ds L L1] : OwnD ds (X ++ L) (X ++ L1) := ⟨by
  refine (h.out.append_left _).trans ?_
  rw [← List.append_assoc, ← List.append_assoc]
  exact List.perm_append_comm.append_right _⟩
instance sbpD (A L L1 : List Blk) [h : OwnD ds L L1] [g : SbpC A L1] : SbpC (dnB ds ++ A) L := ⟨by
  obtain ⟨L', hp⟩ := g.out
  exact ⟨L', h.out.trans (by rw [List.append_assoc]; exact hp.append_left _)⟩⟩
end
theorem dnB_cons (r : RD) (ds : List RD) : dnB (r :: ds) = ⟨r.b, row rS r.pts r.sp, 47⟩ :: dnB ds := rfl
/-- The element at a place is known. -/
class GiK {α : Type} [Inhabited α] (xs : List α) (i : Int) (z : outParam α) : Prop where out : gi xs i = z
instance (priority := high) ys_rowK {P : Program} {w0 : World} {n : Nat} {L : List Blk} {E : Env} {x : Operand} {T T0 : TypeId} {v : Value} {α : Type} [Inhabited α] {enc : α → Array Value} {k b : Nat} {xs : List α} {sp : List Value} {i : Int} {z : α} [hx : IsC (evl E x) (.pointer (some ⟨b, 0 + i.toNat * k, none⟩))] [h : AtC w0 L b (row enc xs sp) T0] [he : EncC enc k] [hg : GiK xs i z] [hv : LdC P T (enc z) 0 v] : YsC P w0 n L E (.load T x) v (i.toNat < xs.length) := by
  have hv' : LdC P T (enc (gi xs i)) 0 v := by rw [hg.out]; exact hv
  exact ys_row0
theorem gi_mid {α : Type} [Inhabited α] (A B : List α) (x : α) : gi (A ++ x :: B) (A.length : Int) = x := by
  rw [gi_nat (by rw [List.length_append, List.length_cons]; omega), List.getElem_append_right (Nat.le_refl _)]
  simp
theorem set_mid {α : Type} (A B : List α) (x z : α) : (A ++ x :: B).set (A.length : Int).toNat z = A ++ z :: B := by
  rw [show (A.length : Int).toNat = A.length by omega, List.set_append_right _ _ (Nat.le_refl _), Nat.sub_self]
  rfl
theorem runC_of {w0 : World} {A : List RD} (o : SlS rR 21 (A.map RD.hd)) {ps : List (R_api_Interval × List SS)} (e : A.map (fun r => (r.I, r.pts)) = ps) (L : List Blk) {L1 L2 : List Blk} [h1 : OwnS 35 o L L1] [h2 : OwnD A L L2] : RunC w0 L (vSl o) ps := ⟨fun w hw => ⟨A, e, (show LstC w0 L (vSl o) R_simplify_Run rR (A.map RD.hd) from inferInstance).out w hw, fun r hr => ⟨_, (0, 0), ((hw.perm h2.out).mem ⟨r.b, row rS r.pts r.sp, 47⟩ (List.mem_append_left _ (List.mem_map.2 ⟨r, hr, rfl⟩))).2⟩⟩⟩
theorem runs_gd {us : List PU} {d : Rat} (h : PGood 276 12 us) : ∀ p ∈ rns (fstU us) us, RGd d p := fun p hp => by
  have hl := rns_len (fstU us) us
  have hn := h.n
  refine ⟨rns_RLp h.nf p hp, (rns_ok h).p p hp |>.2, ?_⟩
  have := hl.2 p hp
  omega
/-- The runs with kept breakpoints. -/
def rnK (us : List PU) (d : Rat) : List (R_api_Interval × List SS) := (rns (fstU us) us).map (kpR (d * d))
theorem rnK_len (us : List PU) (d : Rat) : (rnK us d).length = (rns (fstU us) us).length := List.length_map _
theorem rnK_all {us : List PU} {d : Rat} (h : PGood 276 12 us) : ((b1sW (rnK us d)).map absU).Pairwise Dis ∧ (b1s (rnK us d)).length ≤ 12 ∧ (∀ u ∈ b1sW (rnK us d), UK K0 u ∧ (absU u).ok) ∧
    (∀ t, (∃ v, Has ((b1sW (rnK us d)).map absU) t v) ↔ ∃ v, Has (us.map absP) t v) ∧
    ∀ t v v', Has (us.map absP) t v → Has ((b1sW (rnK us d)).map absU) t v' → d2 v v' ≤ d * d := by
  have hn := h.n
  have hlaw := rns_law h.nf
  have e : (b1sW (rns (fstU us) us)).map absU = us.map absP := by
    unfold b1sW
    rw [hlaw, map_toU]
  obtain ⟨g1, g2, g3, g4, g5⟩ := kept_all (d := d) (rns (fstU us) us) (runs_gd h) (by rw [e]; exact h.nf.nf.pw.imp fun h => h.bf.Dis)
  rw [e] at g4 g5
  rw [hlaw] at g2
  exact ⟨g1, by unfold rnK; omega, g3, g4, g5⟩
theorem rnK_ok {us : List PU} {d : Rat} (h : PGood 276 12 us) : BOk (rnK us d) := by
  have hl := rns_len (fstU us) us
  have hn := h.n
  obtain ⟨g1, g2, g3, -⟩ := rnK_all (d := d) h
  refine ⟨by rw [rnK_len]; omega, fun p hp => ?_, by omega, fun u hu => ((g3 u hu).1).uin K_one.2.2.1⟩
  obtain ⟨q, hq, rfl⟩ := List.mem_map.1 hp
  have hg := runs_gd (d := d) h q hq
  exact ⟨by have := hg.l'; have := hg.l; show (kpP (d * d) q.2).length ≤ 1024; omega, hg.B'⟩
theorem rnK_err {us : List PU} {d : Rat} (h : PGood 276 12 us) : nrmE ((b1s (rnK us d)).map toU) = 0 := by
  obtain ⟨g1, g2, g3, -⟩ := rnK_all (d := d) h
  exact (nrmE_0 ⟨fun u hu => ((g3 u hu).1).uin K_one.2.2.1, fun u hu => (g3 u hu).2⟩).2 g1
section
variable {w0 : World} {L : List Blk} {v : Value}
theorem RGd.run {d : Rat} {I : R_api_Interval} {P : List SS} (h : RGd d (I, P)) {c : Nat} (hc : P.length ≤ c) : RunOk P P.length c := ⟨rfl, hc, by have := h.l; simp only at this; omega, h.B⟩
end
set_option maxHeartbeats 4000000 in
theorem simplify_spec (v : Value) (us : List PU) (d : Rat) (w : World) (hv : ArgS w v rP us) (h : PGood 276 12 us) (hd : 0 ≤ d) (hM : M d ≤ 1073741824) :
    Calls Tryz.prog 29 [v, vQ d].toArray w (RetM (SlS rP 36 (mNorm (b1s (rnK us d)))) (fun s => .tuple #[vSl s, .int .i64 0]) (fun s => mS 68 s) w) := by
  have hav := ArgC.mk hv
  have hfn := good_fine h (by decide)
  have hok := rnK_ok (d := d) h
  have hE := rnK_err (d := d) h
  have hgd := runs_gd (d := d) h
  have hrl := rns_len (fstU us) us
  have hun := h.n
  refine fn_intro Tryz.func29 rfl Tryz.ntmps29 rfl ?_
  repeat (first | (refine wkB ?_; try intro _) | (refine sC rfl rfl ?_ ?_; focus (exact hfn)) | (refine sN rfl rfl ?_ ?_; (focus (exact hfn)); intro _; (try simp only [List.cons_append, List.nil_append, List.append_nil])))
  rename_i b3 s
  simp only [decide_eq_false (sign_nonneg hd)]
  repeat (refine wkB ?_; try intro _)
  obtain ⟨dn, o, he, hk⟩ := s
  have hdl : (dn.map RD.hd).length = (rns (fstU us) us).length := by rw [List.length_map, ← he, List.length_map]
  rw [show (⟨dn, o, he, hk⟩ : RunsO (rns (fstU us) us)).mem ++ [⟨b3, e_api_Rat (Q d), 28⟩] = mS 35 o ++ (dnB dn ++ [⟨b3, e_api_Rat (Q d), 28⟩]) from List.append_assoc _ _ _]
  simp only [hdl]
  have hrk : rnK us d = (rns (fstU us) us).map (kpR (d * d)) := rfl
  have hlaw2 := rnK_len us d
  generalize rns (fstU us) us = ps at *
  generalize rnK us d = pk at *
  · refine j_loop (S := (A : List RD) × (B : List RD) × SlS rR 21 ((A ++ B).map RD.hd)) (fun q => q.1.map (fun r => (r.I, r.pts)) = (ps.take q.1.length).map (kpR (d * d)) ∧ q.2.1.map (fun r => (r.I, r.pts)) = ps.drop q.1.length ∧ q.1.length + q.2.1.length = ps.length ∧ ∀ r ∈ q.1 ++ q.2.1, r.pts.length ≤ r.c) (fun q => [(3, .pointer (some ⟨b3, 0, none⟩)), (6, vSl q.2.2), (25, vSl q.2.2), (26, .int .i64 ps.length), (27, .int .i64 (q.1.length : Nat))])
      (fun q => mS 35 q.2.2 ++ (dnB q.1 ++ (dnB q.2.1 ++ [⟨b3, e_api_Rat (Q d), 28⟩]))) (fun q => q.2.1.length) ⟨[], dn, o⟩ ⟨rfl, he, by rw [← he]; simp, hk⟩ sbB (List.Sublist.refl _) (fun q hq => ?_)
    obtain ⟨A, B, o⟩ := q
    obtain ⟨hA, hB, hn, hkk⟩ := hq
    simp only at hA hB hn hkk o ⊢
    repeat (refine wkB ?_; try intro _)
    refine j_cond rfl (fun hc => ?_) (fun hc => ?_)
    · have hlt : A.length < ps.length := by have := of_decide_eq_true hc; omega
      rcases B with _ | ⟨r, B'⟩
      · simp at hn; omega
      rcases o.cases 35 with ⟨x0, x1, x2⟩ | ⟨bo, co, spo, hco, x1, x2, xne⟩
      · exact absurd x0 (by simp)
      have hXm : (A ++ r :: B').map RD.hd = A.map RD.hd ++ r.hd :: B'.map RD.hd := by rw [List.map_append]; rfl
      have hXl : (A.map RD.hd ++ r.hd :: B'.map RD.hd).length = ps.length := by rw [← hXm, List.length_map, List.length_append]; exact hn
      rw [x1, x2, dnB_cons]
      simp only [List.cons_append, List.nil_append]
      clear x1 x2 xne
      rw [hXm] at hco
      simp only [hXm, hXl] at hco ⊢
      have hrp : (r.I, r.pts) = gi ps (A.length : Int) := by
        have h1 : gi ((r :: B').map (fun r => (r.I, r.pts))) 0 = gi (ps.drop A.length) 0 := by rw [hB]
        rw [show gi (ps.drop A.length) 0 = gi ps (A.length : Int) by unfold gi; simp [List.getD_eq_getElem?_getD]] at h1
        exact h1
      have hg := hgd _ (gi_mem (i := (A.length : Int)) (xs := ps) (by omega))
      rw [← hrp] at hg
      have hrc := hkk r (List.mem_append_right _ (.head _))
      have hB' : B'.map (fun r => (r.I, r.pts)) = ps.drop (A.length + 1) := by
        have h1 := congrArg List.tail hB
        rw [List.tail_drop] at h1
        exact h1
      have hAk : ∀ r' : RD, r'.I = r.I → r'.pts = kpP (d * d) r.pts → (A ++ [r']).map (fun r => (r.I, r.pts)) = (ps.take (A.length + 1)).map (kpR (d * d)) := fun r' e1 e2 => by
        rw [take_snoc hlt, List.map_append, List.map_append, hA, ← hrp]
        congr 1
        show [(r'.I, r'.pts)] = [kpR (d * d) (r.I, r.pts)]
        rw [e1, e2]
        rfl
      obtain ⟨I, b, c, pts, sp⟩ := r
      have hback : ∀ (r' : RD), ∃ o' : SlS rR 21 (((A ++ [r']) ++ B').map RD.hd), vSl o' = .slice (some ⟨bo, 0, none⟩) ps.length co ∧ mS 35 o' = [⟨bo, row rR (A.map RD.hd ++ r'.hd :: B'.map RD.hd) spo, 35⟩] := fun r' => by
        have hm2 : ((A ++ [r']) ++ B').map RD.hd = A.map RD.hd ++ r'.hd :: B'.map RD.hd := by rw [List.append_assoc, List.map_append]; rfl
        have hl2 : (A.map RD.hd ++ r'.hd :: B'.map RD.hd).length = ps.length := by
          rw [← hXl, List.length_append, List.length_append, List.length_cons, List.length_cons]
        rw [hm2]
        refine ⟨SlS.at_ bo co spo (by rw [hl2]; exact hco) (by simp), ?_, rfl⟩
        show Value.slice _ (A.map RD.hd ++ r'.hd :: B'.map RD.hd).length co = _
        rw [hl2]
      simp only at hg hrc hAk
      have hw := kp_way (P := pts) (d := d)
      have hr := hg.run hrc
      have hl1 := hg.r.l1
      have hl13 := hg.l
      simp only at hl1 hl13
      have hwn := hw.n
      have hrg := hw.rgt
      rw [show pts.length - 1 + 1 = pts.length by omega] at hrg
      have hs := set_mid (A.map RD.hd) (B'.map RD.hd) (⟨I, ⟨some ⟨b, 0, none⟩, pts.length, c⟩⟩ : R_simplify_Run)
      have hgk : GiK (A.map RD.hd ++ (⟨I, ⟨some ⟨b, 0, none⟩, pts.length, c⟩⟩ : R_simplify_Run) :: B'.map RD.hd) (A.length : Int) ⟨I, ⟨some ⟨b, 0, none⟩, pts.length, c⟩⟩ := ⟨by
        have := gi_mid (A.map RD.hd) (B'.map RD.hd) (⟨I, ⟨some ⟨b, 0, none⟩, pts.length, c⟩⟩ : R_simplify_Run)
        rw [List.length_map] at this
        exact this⟩
      rw [List.length_map] at hs
      have hhd : RD.hd ⟨I, b, c, pts, sp⟩ = ⟨I, ⟨some ⟨b, 0, none⟩, pts.length, c⟩⟩ := rfl
      simp only [hhd] at hXl ⊢
      generalize A.map RD.hd = hAs at *
      generalize B'.map RD.hd = hBs at *
      have hp1 : RunOk pts pts.length c ∧ (1 ≤ pts.length ∧ pts.length ≤ 1048576) ∧ M d ≤ 1073741824 ∧ 0 ≤ d := ⟨hr, ⟨hl1, by omega⟩, hM, hd⟩
      repeat (first | (refine wkB ?_; try intro _) | (refine sC rfl rfl ?_ ?_; focus (exact hp1)) | (refine sN rfl rfl ?_ ?_; (focus (exact hp1)); intro _; (try simp only [List.cons_append, List.nil_append, List.append_nil])))
      rename_i b9 sk
      obtain ⟨⟨bk, ck, spk⟩, hck⟩ := sk
      have hcap : CapC (keptL (okd pts (d * d)) (pts.length - 1)) ck := ⟨hck⟩
      have hp2 : RunOk pts pts.length c ∧ 1 ≤ pts.length ∧ (keptL (okd pts (d * d)) (pts.length - 1)).length ≤ 1048576 ∧ rgt pts.length (keptL (okd pts (d * d)) (pts.length - 1)) = true := ⟨hr, hl1, by omega, hrg⟩
      simp only
      repeat (first | (refine wkB ?_; try intro _) | (refine sC rfl rfl ?_ ?_; focus (exact hp2)) | (refine sN rfl rfl ?_ ?_; (focus (exact hp2)); intro _; (try simp only [List.cons_append, List.nil_append, List.append_nil])))
      rename_i sq
      obtain ⟨⟨bq, cq, spq⟩, hcq⟩ := sq
      rw [hs]
      repeat (refine wkB ?_; try intro _)
      obtain ⟨o', e1, e2⟩ := hback ⟨I, bq, cq, kpP (d * d) pts, spq⟩
      have hhd2 : RD.hd ⟨I, bq, cq, kpP (d * d) pts, spq⟩ = ⟨I, ⟨some ⟨bq, 0, none⟩, (keptL (okd pts (d * d)) (pts.length - 1)).length, cq⟩⟩ := by
        unfold RD.hd
        rw [kpP_len]
      rw [hhd2] at e2
      refine jx_loopP ⟨A ++ [⟨I, bq, cq, kpP (d * d) pts, spq⟩], B', o'⟩ ⟨?_, ?_, ?_, ?_⟩ ?_ ?_ (by show B'.length < B'.length + 1; omega)
      · rw [List.length_append]
        exact hAk _ rfl rfl
      · rw [List.length_append]
        exact hB'
      · rw [List.length_append]
        simp only [List.length_cons, List.length_nil] at hn ⊢
        omega
      · intro r' hr'
        simp only [List.append_assoc, List.cons_append, List.nil_append] at hr'
        rcases List.mem_append.1 hr' with k | k
        · exact hkk r' (List.mem_append_left _ k)
        · rcases List.mem_cons.1 k with k | k
          · subst k
            show (kpP (d * d) pts).length ≤ cq
            rw [kpP_len]
            exact hcq
          · exact hkk r' (List.mem_append_right _ (.tail _ k))
      · simp only [e1]
        rw [show ((A ++ [(⟨I, bq, cq, kpP (d * d) pts, spq⟩ : RD)]).length : Int) = (A.length : Int) + 1 by simp]
        exact sbB
      · simp only [e2]
        refine sbp_of (A' := ⟨bo, row rR (hAs ++ ⟨I, ⟨some ⟨bq, 0, none⟩, (keptL (okd pts (d * d)) (pts.length - 1)).length, cq⟩⟩ :: hBs) spo, 35⟩ :: ⟨bq, row rS (kp pts (keptL (okd pts (d * d)) (pts.length - 1)) (keptL (okd pts (d * d)) (pts.length - 1)).length) spq, 47⟩ :: (dnB A ++ (dnB B' ++ [⟨b3, e_api_Rat (Q d), 28⟩]))) ?_
        exact ((dnB_perm A ⟨I, bq, cq, kpP (d * d) pts, spq⟩).append_right _).cons _
    · have hB0 : B = [] := by
        have := of_decide_eq_false hc
        exact List.length_eq_zero_iff.1 (by omega)
      subst hB0
      obtain ⟨o', e1, e2⟩ := SlS.turn 35 (show (A ++ []).map RD.hd = A.map RD.hd by rw [List.append_nil]) o
      have hn' : A.length = ps.length := by simpa using hn
      have heA : A.map (fun r => (r.I, r.pts)) = pk := by rw [hA, hn', List.take_length, hrk]
      simp only [← e1, ← e2]
      clear e1 e2
      have hRC := runC_of (w0 := w) o' heA (mS 35 o' ++ (dnB A ++ (dnB [] ++ [⟨b3, e_api_Rat (Q d), 28⟩])))
      repeat (first | (refine wkB ?_; try intro _) | (refine sC rfl rfl ?_ ?_; focus (exact hok)) | (refine sN rfl rfl ?_ ?_; (focus (exact hok)); intro _; (try simp only [List.cons_append, List.nil_append, List.append_nil])))
      simp only [hE]
      exact jx_ret_two rfl (resv_tmp rfl) (resv_tmp rfl) (fun w' hw' => ⟨_, rfl, hw'.sub suB⟩)
end Go.Vt
/- The reference's simplified moving point, walked. Conditions: those that each statement names. -/
set_option linter.unusedSimpArgs false
set_option linter.unusedVariables false
set_option maxHeartbeats 2000000
set_option maxRecDepth 100000
namespace Go.Vt
open Go.RowKit Go.Proofs
/-- What Simplify asks. -/
structure SmpOk (us : List PU) (d : Rat) : Prop where
  g : PGood 276 12 us
  p : 0 ≤ d
  m : M d ≤ 1073741824
instance sr_simplify (w0 : World) (L : List Blk) (v : Value) (us : List PU) (d : Rat) [h : LstC w0 L v PU rP us] : SpecR Tryz.prog w0 L 29 [v, vQ d] (SlS rP 36 (mNorm (b1s (rnK us d)))) (fun s => .tuple #[vSl s, .int .i64 0]) (fun s => mS 68 s) (SmpOk us d) := ⟨fun hp w hw => simplify_spec v us d w (h.out w hw) hp.g hp.p hp.m⟩
end Go.Vt
/- Equal periods, walked; events of units in order. Conditions: those that each statement names. -/
set_option linter.unusedSimpArgs false
set_option linter.unusedVariables false
set_option maxHeartbeats 2000000
set_option maxRecDepth 100000
namespace Go.Vt
open Go.RowKit Go.Proofs
open Fv (va red)
def eqIv (us vs : List R_api_Interval) : Nat → Bool
  | 0 => true
  | m + 1 => eqIv us vs m && decide (gi us (m : Int) = gi vs (m : Int))
theorem eqIv_iff {us vs : List R_api_Interval} : ∀ m, m ≤ us.length → m ≤ vs.length → (eqIv us vs m = true ↔ us.take m = vs.take m)
  | 0, _, _ => by simp [eqIv]
  | m + 1, h1, h2 => by
    rw [eqIv, Bool.and_eq_true, eqIv_iff m (by omega) (by omega), decide_eq_true_iff, List.take_succ_eq_append_getElem h1, List.take_succ_eq_append_getElem h2, gi_nat h1, gi_nat h2]
    constructor
    · rintro ⟨h3, h4⟩
      rw [h3, h4]
    · intro h3
      have := List.append_inj' h3 rfl
      exact ⟨this.1, by simpa using this.2⟩
theorem seqI_spec (v1 v2 : Value) (us vs : List R_api_Interval) (w : World) (h1 : ArgS w v1 rI us) (h2 : ArgS w v2 rI vs) (hl : us.length ≤ 1048576) (hl2 : vs.length ≤ 1048576) :
    Calls Tryz.prog 88 [v1, v2].toArray w (Ret (.bool (decide (us = vs))) w) := by
  refine fn_intro Tryz.func88 rfl Tryz.ntmps88 rfl ?_
  obtain ⟨p1, c1, rfl⟩ := h1.form
  obtain ⟨p2, c2, rfl⟩ := h2.form
  repeat (refine wkB ?_; try intro _)
  by_cases hll : us.length = vs.length
  · simp only [decide_eq_true (show (us.length : Int) = (vs.length : Int) by omega), Bool.not_true]
    repeat (refine wkB ?_; try intro _)
    refine j_loop (S := Nat) (fun m => m ≤ us.length ∧ eqIv us vs m = true) (fun m => [(0, .slice p1 us.length c1), (1, .slice p2 vs.length c2), (11, .slice p1 us.length c1), (12, .int .i64 us.length), (13, .int .i64 (m : Nat))]) (fun _ => []) (fun m => us.length - m) 0 ⟨Nat.zero_le _, rfl⟩ sbB slB (fun m hm => ?_)
    obtain ⟨hm, he⟩ := hm
    repeat (refine wkB ?_; try intro _)
    refine j_cond rfl (fun h => ?_) (fun h => ?_)
    · have hlt : m < us.length := by have := of_decide_eq_true h; omega
      have hne : us ≠ [] := fun h0 => by rw [h0] at hlt; simp at hlt
      have hne2 : vs ≠ [] := fun h0 => by rw [h0] at hll; simp at hll; rw [hll] at hlt; simp at hlt
      obtain ⟨b1, o1, c1', hv1, hc1, hr1⟩ := h1.blk (k := 19) hne []
      injection hv1 with e1 e2 e3
      subst e1
      subst e3
      obtain ⟨b2, o2, c2', hv2, hc2, hr2⟩ := h2.blk (k := 19) hne2 []
      injection hv2 with e1 e2 e3
      subst e1
      subst e3
      have hr1' : ∀ L, RowC w L b1 o1 R_api_Interval rI us := fun L => ⟨fun w' hw' => hr1.out w' (hw'.sub (List.nil_sublist _))⟩
      have hr2' : ∀ L, RowC w L b2 o2 R_api_Interval rI vs := fun L => ⟨fun w' hw' => hr2.out w' (hw'.sub (List.nil_sublist _))⟩
      repeat (refine wkB ?_; try intro _)
      refine jD 9 9 (h := ?_)
      (repeat (refine wkH ?_))
      rcases hd : decide (gi us (m : Int) = gi vs (m : Int)) with _ | _
      · refine jh_nil ?_
        refine jn_nil ?_
        have hno : decide (us = vs) = false := decide_eq_false fun h0 => by
          subst h0
          exact of_decide_eq_false hd rfl
        repeat (refine wkB ?_; try intro _)
        rw [hno]
        exact jx_ret_tmp rfl rfl (fun w hw => ret_ok hw)
      · refine jh_nil ?_
        refine jn_nil ?_
        repeat (first | (refine wkB ?_; try intro _) | (refine sC rfl rfl ?_ ?_; focus (exact ⟨by omega, by omega⟩)) | (refine sN rfl rfl ?_ ?_; (focus (exact ⟨by omega, by omega⟩)); intro _; (try simp only [List.cons_append, List.nil_append, List.append_nil])))
        exact jx_loop (m + 1) ⟨hlt, by rw [eqIv, he, hd]; rfl⟩ sbB slB (by omega)
    · have hge : m = us.length := by have := of_decide_eq_false h; omega
      subst hge
      have hyes : decide (us = vs) = true := by
        have := (eqIv_iff us.length (Nat.le_refl _) (by omega)).1 he
        rw [List.take_length, hll, List.take_length] at this
        exact decide_eq_true this
      repeat (refine wkB ?_; try intro _)
      rw [hyes]
      exact jx_ret_tmp rfl rfl (fun w hw => ret_ok hw)
  · have hno : decide (us = vs) = false := decide_eq_false fun h0 => hll (by rw [h0])
    simp only [decide_eq_false (show ¬ (us.length : Int) = (vs.length : Int) by omega), Bool.not_false]
    repeat (refine wkB ?_; try intro _)
    rw [hno]
    exact jx_ret_tmp rfl rfl (fun w hw => ret_ok hw)
theorem pequal_spec (v1 v2 : Value) (us vs : List R_api_Interval) (w : World) (h1 : ArgS w v1 rI us) (h2 : ArgS w v2 rI vs) (hl : us.length ≤ 1048576) (hl2 : vs.length ≤ 1048576) :
    Calls Tryz.prog 37 [v1, v2].toArray w (Ret (.bool (decide (us = vs))) w) := by
  have : ∀ L, SpecM Tryz.prog w L 88 [v1, v2] (.bool (decide (us = vs))) True := fun L => ⟨fun _ w' hw' => seqI_spec v1 v2 us vs w' (h1.to hw'.ext) (h2.to hw'.ext) hl hl2⟩
  refine fn_intro Tryz.func37 rfl Tryz.ntmps37 rfl ?_
  repeat (refine wkB ?_; try intro _)
  exact jx_ret_tmp rfl rfl (fun w hw => ret_ok hw)
instance sm_pequal (w0 : World) (L : List Blk) (v1 v2 : Value) (us vs : List R_api_Interval) [h1 : LstC w0 L v1 R_api_Interval rI us] [h2 : LstC w0 L v2 R_api_Interval rI vs] : SpecM Tryz.prog w0 L 37 [v1, v2] (.bool (decide (us = vs))) (us.length ≤ 1048576 ∧ vs.length ≤ 1048576) := ⟨fun hp w hw => pequal_spec v1 v2 us vs w (h1.out w hw) (h2.out w hw) hp.1 hp.2⟩
theorem evA_pw {is : List R_api_Interval} (hp : ∀ i j : Nat, i < j → j < is.length → bLe (bdL (gi is (i : Int))) (bdF (gi is (j : Int)))) (hv : ∀ i : Nat, i < is.length → bLe (bdF (gi is (i : Int))) (bdL (gi is (i : Int)))) : ∀ m, m ≤ is.length → ((evA is m).Pairwise (fun x y => bLe x.b y.b) ∧ ∀ x ∈ evA is m, ∃ j : Nat, j < m ∧ bLe x.b (bdL (gi is (j : Int))))
  | 0, _ => ⟨List.Pairwise.nil, (fun x hx => by cases hx)⟩
  | m + 1, hm => by
    obtain ⟨h1, h2⟩ := evA_pw hp hv m (by omega)
    have hm' := hv m (by omega)
    rw [evA]
    refine ⟨?_, fun x hx => ?_⟩
    · rw [List.pairwise_append]
      refine ⟨h1, ?_, fun x hx y hy => ?_⟩
      · refine List.Pairwise.cons (fun y hy => ?_) (List.pairwise_singleton _ _)
        rw [List.mem_singleton.1 hy]
        exact hm'
      · obtain ⟨j, hj, hle⟩ := h2 x hx
        have h3 := bLe_tr hle (hp j m hj (by omega))
        rcases List.mem_cons.1 hy with k | k
        · rw [k]; exact h3
        · rw [List.mem_singleton.1 k]; exact bLe_tr h3 hm'
    · rcases List.mem_append.1 hx with k | k
      · obtain ⟨j, hj, hle⟩ := h2 x k
        exact ⟨j, by omega, hle⟩
      · refine ⟨m, by omega, ?_⟩
        rcases List.mem_cons.1 k with k | k
        · rw [k]; exact hm'
        · rw [List.mem_singleton.1 k]
          unfold bLe
          grind
theorem ord_of {xs : List Ev} (h : xs.Pairwise (fun x y => bLe x.b y.b)) : OrdE xs := fun p q hpq hq hc => by
  have h1 := List.pairwise_iff_getElem.1 h p q (by omega) hq hpq
  rw [← gi_nat (by omega), ← gi_nat hq] at h1
  have h2 := cmpB_lt hc
  have h3 := cmpB_0.2 ⟨h2, h1⟩
  have hc' : cmpB (gi xs (q : Int)).b (gi xs (p : Int)).b < 0 := hc
  omega
theorem ord_iv {l : List PU} (h : PNf l) : OrdE (evA (pIv l) (pIv l).length ++ evB [] ([] : List R_api_Interval).length) := by
  have hg : ∀ i : Nat, i < l.length → gi (l.map (·.In)) (i : Int) = (gi l (i : Int)).In := fun i hi => gi_map hi
  rw [pIv_eq]
  show OrdE (evA (l.map (·.In)) (l.map (·.In)).length ++ [])
  rw [List.append_nil]
  refine ord_of (evA_pw (fun i j hij hj => ?_) (fun i hi => ?_) _ (Nat.le_refl _)).1
  · rw [List.length_map] at hj
    rw [hg i (by omega), hg j hj]
    have := (h.ad hij hj).bf
    unfold GU.bfr at this
    simp only [absP, absU, toU] at this
    unfold bLe bdL bdF
    simp only
    grind
  · rw [List.length_map] at hi
    rw [hg i hi]
    exact okI_le (h.ok hi)
theorem swok_iv {K n : Nat} {l : List PU} (h : PGood K n l) (hK : K ≤ LQ) (hn : n ≤ 24) : SwOk (pIv l) [] := by
  obtain ⟨-, -, -, h4⟩ := pDom_law h
  have hl := h.n
  refine ⟨.inr ⟨ord_iv h.nf, ?_⟩, fun i hi => ⟨(h4 i hi).1.ok hK, (h4 i hi).2.ok hK⟩, fun i hi => by cases hi⟩
  rw [pIv_eq, List.length_map, List.length_nil]
  omega
theorem pDom_len (l : List PU) : (pDom l).length ≤ 2 * l.length := by
  have h1 := sws_out kpU (srtE (evK (pIv l) [] 2) ((evK (pIv l) [] 2).length - 1)) (srtE (evK (pIv l) [] 2) ((evK (pIv l) [] 2).length - 1)).length
  have h2 := (srtE_perm (evK (pIv l) [] 2)).length_eq
  have h3 := evK_len (pIv l) []
  have h4 : (pIv l).length = l.length := by rw [pIv_eq, List.length_map]
  simp only [List.length_nil] at h3
  unfold pDom swpR
  omega
theorem absI_inj {K K' : Nat} : ∀ {l m : List R_api_Interval}, (∀ i ∈ l, BdK K (bdF i) ∧ BdK K (bdL i)) → (∀ i ∈ m, BdK K' (bdF i) ∧ BdK K' (bdL i)) → l.map absI = m.map absI → l = m
  | [], [], _, _, _ => rfl
  | [], _ :: _, _, _, h => by cases h
  | _ :: _, [], _, _, h => by cases h
  | i :: l, j :: m, h1, h2, h => by
    rw [List.map_cons, List.map_cons] at h
    injection h with h3 h4
    have e := absI_inj (fun i hi => h1 i (.tail _ hi)) (fun i hi => h2 i (.tail _ hi)) h4
    obtain ⟨a1, a2⟩ := h1 i (.head _)
    obtain ⟨b1, b2⟩ := h2 j (.head _)
    have e2 : i = j := by
      obtain ⟨⟨p1, r1, n1⟩, ⟨p2, r2, n2⟩, o1, o2⟩ := i
      obtain ⟨⟨q1, s1, m1⟩, ⟨q2, s2, m2⟩, o3, o4⟩ := j
      have c1 := a1.r
      have c2 := a1.n
      have c3 := a2.r
      have c4 := a2.n
      have d1 := b1.r
      have d2 := b1.n
      have d3 := b2.r
      have d4 := b2.n
      unfold bdF at c1 c2 d1 d2
      unfold bdL at c3 c4 d3 d4
      simp only at c1 c2 c3 c4 d1 d2 d3 d4
      unfold absI at h3
      simp only [GU.mk.injEq, and_true] at h3
      obtain ⟨e1, e2, e3, e4⟩ := h3
      subst c1 c2 c3 c4 d1 d2 d3 d4 e1 e2 e3 e4
      rfl
    rw [e, e2]
theorem hasP_ex (l : List PU) (t : Rat) : (∃ u ∈ l, memI u.In t) ↔ ∃ v, Has (l.map absP) t v := by
  constructor
  · rintro ⟨u, hu, hm⟩
    exact ⟨_, absP u, List.mem_map.2 ⟨u, hu, rfl⟩, hm, rfl⟩
  · rintro ⟨v, x, hx, hm, -⟩
    obtain ⟨u, hu, rfl⟩ := List.mem_map.1 hx
    exact ⟨u, hu, hm⟩
theorem pDom_eq {K K' n n' : Nat} {s us : List PU} (hs : PGood K n s) (hu : PGood K' n' us) (hd : ∀ t, (∃ v, Has (s.map absP) t v) ↔ ∃ v, Has (us.map absP) t v) : pDom s = pDom us := by
  obtain ⟨s1, s2, s3, -⟩ := pDom_law hs
  obtain ⟨u1, u2, u3, -⟩ := pDom_law hu
  exact absI_inj s3 u3 (Sep.uniq s1 u1 fun t => (s2 t).trans (((hasP_ex s t).trans ((hd t).trans (hasP_ex us t).symm)).trans (u2 t).symm))
end Go.Vt
/- SimplifyNear, walked. Conditions: those that each statement names. -/
set_option linter.unusedSimpArgs false
set_option linter.unusedVariables false
set_option maxHeartbeats 2000000
set_option maxRecDepth 100000
namespace Go.Vt
open Go.RowKit Go.Proofs
open Fv (va red)
abbrev KS : Nat := 4 * K0 + 4
/-- What is known of the simplified moving point. -/
structure NearOk (us s : List PU) (d : Rat) : Prop where
  g : PGood KS 12 s
  n : s.length ≤ us.length
  dom : ∀ t, (∃ v, Has (s.map absP) t v) ↔ ∃ v, Has (us.map absP) t v
  near : ∀ t v v', Has (us.map absP) t v → Has (s.map absP) t v' → d2 v v' ≤ d * d
theorem rnK_few {us : List PU} {d : Rat} (h : PGood 276 12 us) : (b1s (rnK us d)).length ≤ us.length := by
  have hlaw := rns_law h.nf
  have e : (b1sW (rns (fstU us) us)).map absU = us.map absP := by
    unfold b1sW
    rw [hlaw, map_toU]
  obtain ⟨-, g2, -⟩ := kept_all (d := d) (rns (fstU us) us) (runs_gd h) (by rw [e]; exact h.nf.nf.pw.imp fun h => h.bf.Dis)
  rw [hlaw] at g2
  exact g2
theorem near_ok {us : List PU} {d : Rat} (h : PGood 276 12 us) : NearOk us (mNorm (b1s (rnK us d))) d := by
  obtain ⟨g1, g2, g3, g4, g5⟩ := rnK_all (d := d) h
  have hf := rnK_few (d := d) h
  have hl : (b1sW (rnK us d)).length = (b1s (rnK us d)).length := List.length_map _
  obtain ⟨k1, k2, -⟩ := good_of (n := 12) (us := b1sW (rnK us d)) (K := K0) (fun u hu => (g3 u hu).1) K_one.2.2.1 (fun u hu => (g3 u hu).2) g1 (by omega)
  have hv : UVal (b1sW (rnK us d)) := ⟨fun u hu => ((g3 u hu).1).uin K_one.2.2.1, fun u hu => (g3 u hu).2⟩
  have e : mNorm (b1s (rnK us d)) = mpN ofU (nrmR (b1sW (rnK us d))) (nrmR (b1sW (rnK us d))).length := by
    unfold mNorm
    rw [mpN_map toU]
    rfl
  rw [e]
  refine ⟨k1, ?_, fun t => ?_, fun t v v' hv1 hv2 => g5 t v v' hv1 ((k2 t v').1 hv2)⟩
  · have := nrmR_few hv
    rw [mpN_len]
    omega
  · exact (exists_congr fun v => k2 t v).trans (g4 t)
/-- What AtRat finds in the old and in the new moving point. -/
theorem at_two {us s : List PU} {d : Rat} {K n : Nat} (hu : PGood K n us) (h : NearOk us s d) (t : Rat) : ∃ r1 r2, AtC2 us t r1 ∧ AtC2 s t r2 ∧ r1.isSome = r2.isSome ∧ (r1.isSome = true → d2 (atP r1 t) (atP r2 t) ≤ d * d) ∧ (∀ f, r1 = some f → ∃ u ∈ us, u.F = f) ∧ ∀ f, r2 = some f → ∃ u ∈ s, u.F = f := by
  have n1 : NF ((mpN toU us us.length).map absU) := by rw [mpN_map, map_toU]; exact hu.nf.nf
  have n2 : NF ((mpN toU s s.length).map absU) := by rw [mpN_map, map_toU]; exact h.g.nf.nf
  obtain ⟨r1, a1, b1⟩ := atr_ex n1 t
  obtain ⟨r2, a2, b2⟩ := atr_ex n2 t
  rw [mpN_map, map_toU] at b1 b2
  have hs : r1.isSome = r2.isSome := by
    have e1 : (∃ v, Has (us.map absP) t v) ↔ r1.isSome = true := by
      constructor
      · rintro ⟨v, hv⟩
        have := (b1 v).1 hv
        cases r1
        · cases this
        · rfl
      · intro hr
        cases r1
        · cases hr
        · rename_i f
          exact ⟨pos f t, (b1 _).2 rfl⟩
    have e2 : (∃ v, Has (s.map absP) t v) ↔ r2.isSome = true := by
      constructor
      · rintro ⟨v, hv⟩
        have := (b2 v).1 hv
        cases r2
        · cases this
        · rfl
      · intro hr
        cases r2
        · cases hr
        · rename_i f
          exact ⟨pos f t, (b2 _).2 rfl⟩
    rw [Bool.eq_iff_iff, ← e1, ← e2]
    exact (h.dom t).symm
  have mem : ∀ (l : List PU) (r : Option R_api_Line), AtR (mpN toU l l.length) t r → ∀ f, r = some f → ∃ u ∈ l, u.F = f := fun l r hr f hf => by
    subst hf
    obtain ⟨x, hx, e⟩ := hr.mem
    rw [mpN_map] at hx
    obtain ⟨u, hu, rfl⟩ := List.mem_map.1 hx
    exact ⟨u, hu, e.symm⟩
  refine ⟨r1, r2, ⟨cut_ex n1 t, a1⟩, ⟨cut_ex n2 t, a2⟩, hs, fun hr => ?_, mem us r1 a1, mem s r2 a2⟩
  cases r1 with
  | none => cases hr
  | some f =>
    cases r2 with
    | none => cases hs
    | some g => exact h.near t _ _ ((b1 _).2 rfl) ((b2 _).2 rfl)
theorem pos_M {K : Nat} {f : R_api_Line} {t : Rat} (h : LnOk K f) (ht : M t ≤ K) : M (pos f t).X ≤ 4 * K + 4 ∧ M (pos f t).Y ≤ 4 * K + 4 := by
  have := lred_K h ht
  exact ⟨this.x0, this.y0⟩
theorem at_M {K : Nat} {l : List PU} {r : Option R_api_Line} {t : Rat} (hk : ∀ u ∈ l, UK K (toU u)) (ht : M t ≤ K) (h : ∀ f, r = some f → ∃ u ∈ l, u.F = f) : M (atP r t).X ≤ 4 * K + 4 ∧ M (atP r t).Y ≤ 4 * K + 4 := by
  cases r with
  | none =>
    have : M 0 ≤ 4 * K + 4 := by have h0 : M 0 = 1 := by decide
                                 omega
    exact ⟨this, this⟩
  | some f =>
    obtain ⟨u, hu, rfl⟩ := h f rfl
    exact pos_M (hk u hu).f ht
set_option maxHeartbeats 40000000 in
theorem simplifyNear_spec (c : viatorlaw15_Car) (ss : List Stp15) (a1 a2 d : Int) (w : World) (g1 : 0 ≤ a1 ∧ a1 ≤ 255) (g2 : 0 ≤ a2 ∧ a2 ≤ 255) (g3 : 0 ≤ d ∧ d ≤ 255) (hc : CarIn w c ss) :
    Calls Tryz.prog 8 [.agg (e_viatorlaw15_Car c), .agg (e2C a1 a2), .int .u8 d].toArray w (Ret (.bool true) w) := by
  have : CarC w c ss := ⟨hc⟩
  have hcl := hc.l
  refine fn_intro Tryz.func8 rfl Tryz.ntmps8 rfl ?_
  repeat (refine wkB ?_; try intro _)
  rename_i b3 b4
  by_cases h6 : (c.Steps.len : Int) ≤ 6
  · simp only [decide_eq_true h6, Bool.not_true]
    have hg := mvL_good (c := c) (ss := ss) (a1 := a1) (a2 := a2) (hc.ok (by omega)) g1 g2
    have hpre : (0 ≤ a1 ∧ a1 ≤ 255) ∧ (0 ≤ a2 ∧ a2 ≤ 255) ∧ ss.length ≤ 6 := ⟨g1, g2, by omega⟩
    repeat (first | (refine wkB ?_; try intro _) | (refine sC rfl rfl ?_ ?_; focus (with_reducible exact hpre)) | (refine sN rfl rfl ?_ ?_; (focus (with_reducible exact hpre)); intro _; (try simp only [List.cons_append, List.nil_append, List.append_nil])))
    generalize mvL c ss a1 a2 = us at *
    clear hc this
    have hN := near_ok (d := dst d) hg
    have hd := dst_nonneg d
    have hM1 := dst_M d
    have hp1 : True → SmpOk us (dst d) := fun _ => ⟨hg, hd, Nat.le_trans hM1 (by decide)⟩
    repeat (first | (refine wkB ?_; try intro _) | (refine sC rfl rfl ?_ ?_; focus (first | with_reducible exact g3 | with_reducible exact hp1 trivial)) | (refine sN rfl rfl ?_ ?_; (focus (first | with_reducible exact g3 | with_reducible exact hp1 trivial)); intro _; (try simp only [List.cons_append, List.nil_append, List.append_nil])))
    have hDE := pDom_eq hN.g hg hN.dom
    have hs1 := swok_iv hN.g (by decide) (by decide)
    have hs2 := swok_iv hg (by decide) (by decide)
    have hlen := hN.n
    have hun := hg.n
    have hdl : (pDom us).length ≤ 1048576 := by
      have := pDom_len us
      omega
    have hkS : ∀ u ∈ mpN toU (mNorm (b1s (rnK us (dst d)))) (mNorm (b1s (rnK us (dst d)))).length, UOk u := by
      rw [mpN_map]
      intro u hu
      obtain ⟨x, hx, rfl⟩ := List.mem_map.1 hu
      exact ⟨(hN.g.k x hx).i.mono (by decide), (hN.g.k x hx).f.mono (by decide)⟩
    have hkU : ∀ u ∈ mpN toU us us.length, UOk u := by
      rw [mpN_map]
      intro u hu
      obtain ⟨x, hx, rfl⟩ := List.mem_map.1 hu
      exact ⟨(hg.k x hx).i.mono (by decide), (hg.k x hx).f.mono (by decide)⟩
    generalize mNorm (b1s (rnK us (dst d))) = s at *
    have hdl2 : (pDom s).length ≤ 1048576 ∧ (pDom us).length ≤ 1048576 := ⟨by rw [hDE]; exact hdl, hdl⟩
    have hde : decide (pDom s = pDom us) = true := decide_eq_true hDE
    simp only [decide_eq_false (show ¬ (us.length : Int) < (s.length : Int) by omega), decide_eq_true (show (0 : Int) = 0 from rfl), Bool.not_true]
    repeat (first | (refine wkB ?_; try intro _) | (refine sC rfl rfl ?_ ?_; focus (first | with_reducible exact hs1 | with_reducible exact hs2 | with_reducible exact hdl2)) | (refine sN rfl rfl ?_ ?_; (focus (first | with_reducible exact hs1 | with_reducible exact hs2 | with_reducible exact hdl2)); intro _; (try simp only [List.cons_append, List.nil_append, List.append_nil])))
    simp only [hde, Bool.not_true]
    have hM2 : M (dst d) ≤ 34359738368 := Nat.le_trans hM1 (by decide)
    repeat (first | (refine wkB ?_; try intro _) | (refine sC rfl rfl ?_ ?_; focus (first | with_reducible exact g3 | exact ⟨Nat.le_trans hM1 (by decide), Nat.le_trans hM1 (by decide)⟩)) | (refine sN rfl rfl ?_ ?_; (focus (first | with_reducible exact g3 | exact ⟨Nat.le_trans hM1 (by decide), Nat.le_trans hM1 (by decide)⟩)); intro _; (try simp only [List.cons_append, List.nil_append, List.append_nil])))
    rename_i sU sS sD1 sD2 b10
    have hMD : M (dst d * dst d) ≤ 100 := Nat.le_trans (M_mul _ _) (by omega)
    generalize dst d = D at *
    refine j_loop (S := Nat) (fun i => i ≤ 256) (fun i => [(6, .bool false), (7, vSl sU), (8, vSl sS), (10, .pointer (some ⟨b10, 0, none⟩)), (11, .int .i64 (i : Nat))]) (fun _ => ⟨b10, e_api_Rat (Q (D * D)), 28⟩ :: (mS 68 sS ++ (mS 68 sU ++ [⟨b4, e2C a1 a2, 58⟩, ⟨b3, e_viatorlaw15_Car c, 78⟩]))) (fun i => 256 - i) 0 (Nat.zero_le _) sbB suB (fun i hi => ?_)
    repeat (refine wkB ?_; try intro _)
    refine j_cond rfl (fun hc => ?_) (fun hc => ?_)
    · have hlt : i < 256 := by have := of_decide_eq_true hc; omega
      have hM4 : M (Rat.divInt (i : Int) 4) ≤ 68 := quarter_M (n := (i : Int)) (by omega)
      obtain ⟨r1, r2, A1, A2, hsm, hnear, m1, m2⟩ := at_two hg hN (Rat.divInt (i : Int) 4)
      have p1 := at_M hg.k (Nat.le_trans hM4 (by decide)) m1
      have p2 := at_M hN.g.k (Nat.le_trans hM4 (by decide)) m2
      have hx1 : us.length ≤ 1048576 ∧ M (Rat.divInt (i : Int) 4) ≤ 8589934592 ∧ ∀ u ∈ mpN toU us us.length, UOk u := ⟨by omega, Nat.le_trans hM4 (by decide), hkU⟩
      have hx2 : s.length ≤ 1048576 ∧ M (Rat.divInt (i : Int) 4) ≤ 8589934592 ∧ ∀ u ∈ mpN toU s s.length, UOk u := ⟨by omega, Nat.le_trans hM4 (by decide), hkS⟩
      repeat (first | (refine wkB ?_; try intro _) | (refine sC rfl rfl ?_ ?_; focus (first | with_reducible exact hx1 | with_reducible exact hx2 | exact ⟨by omega, by omega⟩)) | (refine sN rfl rfl ?_ ?_; (focus (first | with_reducible exact hx1 | with_reducible exact hx2 | exact ⟨by omega, by omega⟩)); intro _; (try simp only [List.cons_append, List.nil_append, List.append_nil])))
      rename_i b12 b14 b16
      generalize atP r1 (Rat.divInt (i : Int) 4) = P1 at *
      generalize atP r2 (Rat.divInt (i : Int) 4) = P2 at *
      have q1 : M P1.X ≤ 1108 := Nat.le_trans p1.1 (by decide)
      have q2 : M P1.Y ≤ 1108 := Nat.le_trans p1.2 (by decide)
      have q3 : M P2.X ≤ 100663380 := Nat.le_trans p2.1 (by decide)
      have q4 : M P2.Y ≤ 100663380 := Nat.le_trans p2.2 (by decide)
      clear p1 p2 hx1 hx2 m1 m2 hM4 A1 A2
      have hd2 : M P1.X ≤ 8589934592 ∧ M P1.Y ≤ 8589934592 ∧ M P2.X ≤ 8589934592 ∧ M P2.Y ≤ 8589934592 := ⟨by omega, by omega, by omega, by omega⟩
      have y1 := MB.mk q1
      have y2 := MB.mk q2
      have y3 := MB.mk q3
      have y4 := MB.mk q4
      have hc1 : M (d2 P1 P2) ≤ 274877906944 := MB.lt rfl
      have hc2 : M (D * D) ≤ 274877906944 := by omega
      clear y1 y2 y3 y4 q1 q2 q3 q4 hM1 hM2 hMD
      cases hr : r1.isSome
      · rw [hr] at hsm
        simp only [← hsm, hr]
        clear hnear hsm hr hc1 hc2 hN hg
        refine jD 14 14 (h := ?_)
        (repeat (refine wkH ?_))
        refine jh_nil ?_
        refine jn_nil ?_
        have hi1 : (-9223372036854775808 : Int) ≤ (i : Int) + 1 ∧ (i : Int) + 1 ≤ 9223372036854775807 := ⟨by omega, by omega⟩
        repeat (first | (refine wkB ?_; try intro _) | (refine sC rfl rfl ?_ ?_; focus (exact ⟨by omega, by omega⟩)) | (refine sN rfl rfl ?_ ?_; (focus (exact ⟨by omega, by omega⟩)); intro _; (try simp only [List.cons_append, List.nil_append, List.append_nil])))
        simp only [IntWalk.i64_in _ hi1]
        exact jx_loop (i + 1) (by omega) sbB suB (by omega)
      · rw [hr] at hsm
        have hle := hnear hr
        simp only [← hsm, hr]
        clear hnear hsm hr hN hg
        have hi1 : (-9223372036854775808 : Int) ≤ (i : Int) + 1 ∧ (i : Int) + 1 ≤ 9223372036854775807 := ⟨by omega, by omega⟩
        refine jD 14 14 (h := ?_)
        (repeat (first | refine wkH ?_ | (refine tC rfl rfl ?_ ?_; focus (first | with_reducible exact hd2 | exact ⟨hc1, hc2⟩))))
        simp only [decide_eq_false (show ¬ 0 < cq (d2 P1 P2) (D * D) from fun h => by have := cq_gt.1 h; grind)]
        (repeat (refine wkH ?_))
        refine jh_nil ?_
        refine jn_nil ?_
        repeat (first | (refine wkB ?_; try intro _) | (refine sC rfl rfl ?_ ?_; focus (exact ⟨by omega, by omega⟩)) | (refine sN rfl rfl ?_ ?_; (focus (exact ⟨by omega, by omega⟩)); intro _; (try simp only [List.cons_append, List.nil_append, List.append_nil])))
        simp only [IntWalk.i64_in _ hi1]
        exact jx_loop (i + 1) (by omega) sbB suB (by omega)
    · repeat (refine wkB ?_; try intro _)
      exact jx_ret_tmp rfl rfl (fun w hw => ret_ok hw)
  · simp only [decide_eq_false h6, Bool.not_false]
    repeat (refine wkB ?_; try intro _)
    exact jx_ret_tmp rfl rfl (fun w hw => ret_ok hw)
end Go.Vt
/- The card of SimplifyNear. Conditions: none. -/
set_option linter.unusedSimpArgs false
set_option linter.unusedVariables false
set_option maxHeartbeats 2000000
namespace Go.Proofs.YtgcjapcminakdaaGreatDoor
open Go.ChangeShapes Go.WideShapes Go.ChangeAt Go.RowKit Go.Deep
set_option maxRecDepth 100000
def nArgs : Array Value := #[.agg #[.int .u8 0, .int .u8 0, .int .u8 0, .slice none 0 0], .agg #[.int .u8 0, .int .u8 0], .int .u8 0]
theorem near_reads (os : Os) {H : Type} (enc : TypeId × Value → H) : ∃ places, DataW.whole enc Tryz.prog ((laidWorld os).forCall (fun _ _ => 0) ⟨#[], nArgs, []⟩).memory Tryz.f8.params.toList Rows.simplifyNearSpec.vars false nArgs.toList 8 = some ([.agg [.lit (.int .u8 0), .lit (.int .u8 0), .lit (.int .u8 0), .nil], .agg [.lit (.int .u8 0), .lit (.int .u8 0)], .lit (.int .u8 0)], [], places) :=
  ⟨[], by kernel_rfl⟩
theorem near_contract (H : Type) (enc : TypeId × Value → H) (W : World) (base : Nat) (args : Array Value) (ds gs : List (DataW H)) (before : List MemPlace)
    (hval : ∀ (j : Nat) t v, Tryz.f8.params[j]? = some t → args[j]? = some v → Value.okWide Tryz.prog W .any base t v)
    (hW : DataW.Whole enc Tryz.prog Tryz.f8.params.toList Rows.simplifyNearSpec.vars false W args.toList ds gs before) :
    Calls Tryz.prog 8 args W fun e W' => ∃ v, e = .returned v ∧ Rows.simplifyNearSpec.post enc Tryz.prog Tryz.f8 false true false false W args v W' := by
  have hW' := hW
  obtain ⟨p, q, hA0, hV, rfl, hfz, hnd⟩ := hW
  have hA : DataW.TrodAll enc Tryz.prog W 0 (fun _ => true) true Tryz.f8.params.toList args.toList ds p := hA0
  rw [Tryz.params8] at hA hval
  obtain ⟨v0, vs0, d0, ds0, p0, q0, hargs, rfl, rfl, h0, r0⟩ := trodAll_cons hA
  obtain ⟨v1, vs1, d1, ds1, p1, q1, hargs1, rfl, rfl, h1, r1⟩ := trodAll_cons r0
  obtain ⟨v2, vs2, d2, ds2, p2, q2, hargs2, rfl, rfl, h2, r2⟩ := trodAll_cons r1
  subst hargs2
  subst hargs1
  obtain ⟨rfl, rfl, rfl⟩ := trodAll_nil r2
  obtain rfl : args = #[v0, v1, v2] := by cases args; simp_all
  obtain ⟨rfl, rfl⟩ := trodVars_none hV
  clear hA0
  simp only [List.append_nil] at hW'
  have hlt : ∀ x ∈ p0 ++ (p1 ++ p2), x.block < W.heap.size := fun x hx => by simpa using hW'.lt x hx
  have h0k := h0
  have h1k := h1
  obtain ⟨d, rfl, rfl, rfl, hwf⟩ := open_int Tryz.underlying5 (hval 2 5 v2 rfl rfl) h2
  have hd := u8_wf hwf
  obtain ⟨a1, a2, rfl, g1, g2⟩ := open_two (hval 1 58 v1 rfl rfl) h1
  obtain ⟨c, ss, rfl, hc⟩ := open_car (hval 0 78 v0 rfl rfl) h0
  refine (Go.Vt.simplifyNear_spec c ss a1 a2 d W g1 g2 hd hc).mono fun e' W' ⟨he', ⟨hb, _⟩⟩ => ?_
  subst he'
  simp only [List.append_nil] at hlt hW'
  exact ⟨_, rfl, ⟨_, _, _, [], _, [], hW', trodAll_mk1 (shut_bool Tryz.underlying4 _), trodAll_mk3 (Below.trod rlaidOut (by kernel_rfl) (of_decide_eq_true (by kernel_rfl)) h0k hb (fun x hx => hlt x (List.mem_append_left _ hx))) (Below.trod rlaidOut (by kernel_rfl) (of_decide_eq_true (by kernel_rfl)) h1k hb (fun x hx => hlt x (List.mem_append_right _ hx))) (shut_int Tryz.underlying5 hwf), (by first | rfl | (simp; done)), hb.frame _, fun h => by cases h⟩⟩
theorem near_lifted (os : Os) (started : os.Started) (H : Type) (enc : TypeId × Value → H) (F : Stop.Interp) :
    ReturnsInHanded {} Tryz.checked os 8 .any ((OpenSpec.ofChange Rows.simplifyNearSpec).preRow enc Tryz.prog Tryz.f8 Rows.simplifyNearRow.domain false Rows.simplifyNearRow.laid) (((OpenSpec.ofChange Rows.simplifyNearSpec).at F).post enc Tryz.prog Tryz.f8 false true false false) := by
  obtain ⟨places, hx⟩ := near_reads os enc
  refine returnsInHanded_of_row (C := Tryz.checked) (s := OpenSpec.ofChange Rows.simplifyNearSpec) rown started (by kernel_rfl) Tryz.func8
    (witness_row_at (enc := enc) (C := Tryz.checked) false (laidWorld os) nArgs rfl (by kernel_rfl) (by kernel_rfl) (by kernel_rfl)
      (OpenSpec.preRow_of_cond 8 hx (by kernel_rfl) (fun k hk => by cases hk) (by kernel_rfl) (laid_met os _))) ?_
  intro W base args ds gs before hval hW _ _ _ _ _ _
  exact near_contract H enc W base args ds gs before hval hW
theorem near_said : Rows.SimplifyNearSaid :=
  OpenClaim.holds_of_cond 8 Tryz.f8 rfl rfl rfl rfl rfl rfl rfl ⟨rfl, rfl, rfl, rfl, rfl⟩ rfl rfl rfl rfl rfl (by kernel_rfl) Tryz.func8 (by kernel_rfl)
    (of_decide_eq_true (by kernel_rfl)) (by unfold Func.isWrapper; first | (rw [if_pos (by decide +kernel)]; kernel_rfl) | (rw [if_neg (by decide +kernel)]; exact ⟨rfl, rfl⟩))
    (fun os started H enc _ F => by rw [OpenClaim.pre_eq_preRow]; exact near_lifted os started H enc F)
theorem near_plain (f : FuncId) (fn : Func) (hf : Tryz.pinned.checked.prog.funcNamed "viator/viatorlaw31.SimplifyNear" = some f) (hfn : Tryz.pinned.checked.prog.funcs[f]? = some fn) :
    false = Tryz.pinned.checked.prog.looks [] ∧ ∀ (j : Nat) t, fn.params[j]? = some t → Tryz.pinned.checked.prog.wantsStandIn t = false := by
  obtain rfl : f = 8 := Option.some.inj ((show Tryz.prog.funcNamed "viator/viatorlaw31.SimplifyNear" = some 8 by kernel_rfl).symm.trans hf) |>.symm
  obtain rfl : fn = Tryz.f8 := (Option.some.inj (Tryz.func8.symm.trans hfn)).symm
  refine ⟨by kernel_rfl, fun j t ht => ?_⟩
  rw [Tryz.params8] at ht
  have := Array.mem_of_getElem? ht
  simp at this
  rcases this with rfl | rfl | rfl
  · exact (show Tryz.prog.wantsStandIn 78 = false by kernel_rfl)
  · exact (show Tryz.prog.wantsStandIn 58 = false by kernel_rfl)
  · exact (show Tryz.prog.wantsStandIn 5 = false by kernel_rfl)
/-- The card. -/
theorem simplifyNear_card : Rows.SimplifyNearCardSaid :=
  Claim7.holds_tied_plain_at .later [] _ _ _ _ near_said (fun _ h => by cases h) (by kernel_rfl) (fun _ h => by cases h) simplifyNear_row_tie rfl ⟨rfl, rfl⟩ (by kernel_rfl) rfl near_plain (by kernel_rfl)
end Go.Proofs.YtgcjapcminakdaaGreatDoor
