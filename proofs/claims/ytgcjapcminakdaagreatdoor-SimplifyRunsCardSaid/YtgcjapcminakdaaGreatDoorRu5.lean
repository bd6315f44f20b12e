/- SimplifyRuns holds for every input that the card takes. Conditions: none. (part 5 of 5.) Conditions: those that each statement names. -/
import Derived.RangeFuncNested
import Derived.OrdersIn
import Derived.RangeFuncBox
import Derived.Test.YtgcjapcminakdaaGreatDoorRu4
/- The moving point of a car without a part: plain. Conditions: those that each statement names. -/
set_option linter.unusedSimpArgs false
set_option linter.unusedVariables false
set_option maxHeartbeats 2000000
set_option maxRecDepth 100000
namespace Go.Vt
open Go.RowKit Go.Proofs
open Fv (va red)
theorem tj_few {T X Y : Int} {ss : List Stp15} : ∀ m, (tj T X Y ss m).out.length + (if (tj T X Y ss m).al = true then 1 else 0) ≤ max 1 m ∧ ((tj T X Y ss m).al = false → 0 < m)
  | 0 => by
    rw [tj]
    exact ⟨by simp, fun h => (by cases h)⟩
  | m + 1 => by
    obtain ⟨h1, h2⟩ := tj_few (T := T) (X := X) (Y := Y) (ss := ss) m
    rw [tj]
    generalize tj T X Y ss m = p at *
    refine ⟨?_, fun _ => by omega⟩
    simp only
    by_cases hk : (gi ss (m : Int)).Kind % 8 = 0
    · rw [if_pos hk, decide_eq_true hk, if_pos rfl]
      rcases ha : p.al with _ | _ <;> rw [ha] at h1 h2
      · have := h2 rfl
        simp only [Bool.false_eq_true, if_false] at h1
        omega
      · simp only [if_true] at h1
        omega
    · rw [if_neg hk, decide_eq_false hk, List.length_append, List.length_singleton]
      simp only [Bool.false_eq_true, if_false]
      rcases ha : p.al with _ | _ <;> rw [ha] at h1 h2
      · have := h2 rfl
        simp only [Bool.false_eq_true, if_false] at h1
        omega
      · simp only [if_true] at h1
        omega
theorem tjR_few {c : viatorlaw15_Car} {ss : List Stp15} (h6 : ss.length ≤ 6) : (tjR c ss).length ≤ 6 := by
  obtain ⟨h1, h2⟩ := tj_few (T := c.Time) (X := c.X) (Y := c.Y) (ss := ss) ss.length
  unfold tjR
  split
  · rename_i ha
    rw [ha] at h1
    simp only [if_true] at h1
    rw [List.length_append, List.length_singleton]
    omega
  · omega
structure TjP (p : TjS) : Prop where
  o : ∀ u ∈ p.out, okI u.In
  w : p.out.Pairwise (fun u v => (absP u).bfr (absP v))
  e : ∀ u ∈ p.out, u.In.To.P ≤ (p.t : Rat)
  l : p.al = true → ∀ u ∈ p.out, u.In.To.P < (p.t : Rat)
theorem tj_apart {T X Y : Int} {ss : List Stp15} (h : ∀ s ∈ ss, StOk s) : ∀ m, m ≤ ss.length → TjP (tj T X Y ss m)
  | 0, _ => ⟨fun u hu => (by cases hu), List.Pairwise.nil, fun u hu => (by cases hu), fun _ u hu => (by cases hu)⟩
  | m + 1, hm => by
    obtain ⟨h1, h2, h3, h4⟩ := tj_apart (T := T) (X := X) (Y := Y) h m (by omega)
    have hs := (h _ (gi_mem (i := (m : Int)) (xs := ss) (by omega))).t
    rw [tj]
    generalize tj T X Y ss m = p at *
    generalize gi ss (m : Int) = s at *
    have hc : ((p.t : Int) : Rat) < ((p.t + 1 + s.Time % 8 : Int) : Rat) := Rat.intCast_lt_intCast.2 (by omega)
    by_cases hk : s.Kind % 8 = 0
    · simp only [hk, if_true, decide_true]
      exact ⟨h1, h2, fun u hu => by have := h3 u hu; grind, fun _ u hu => by have := h3 u hu; grind⟩
    · simp only [hk, if_false, decide_false]
      refine ⟨fun u hu => ?_, ?_, fun u hu => ?_, fun k => (by cases k)⟩
      · rcases List.mem_append.1 hu with k | k
        · exact h1 u k
        · rw [List.mem_singleton.1 k]
          exact .inl hc
      · rw [List.pairwise_append]
        refine ⟨h2, List.pairwise_singleton _ _, fun u hu v hv => ?_⟩
        rw [List.mem_singleton.1 hv]
        have h5 := h3 u hu
        have h6 : 0 < p.out.length := List.length_pos_of_mem hu
        by_cases h7 : u.In.To.P < (p.t : Rat)
        · exact .inl h7
        · refine .inr ⟨show u.In.To.P = (p.t : Rat) by grind, .inr ?_⟩
          show (decide ((0 : Int) < p.out.length) && !p.al) = true
          rw [decide_eq_true (by omega), Bool.true_and]
          rcases ha : p.al with _ | _
          · rfl
          · exact absurd (h4 ha u hu) h7
      · rcases List.mem_append.1 hu with k | k
        · have := h3 u k
          simp only
          grind
        · rw [List.mem_singleton.1 k]
          exact Rat.le_refl
theorem tjR_apart {c : viatorlaw15_Car} {ss : List Stp15} (h : ∀ s ∈ ss, StOk s) : (∀ u ∈ tjR c ss, okI u.In) ∧ (tjR c ss).Pairwise (fun u v => (absP u).bfr (absP v)) := by
  obtain ⟨h1, h2, h3, h4⟩ := tj_apart (T := c.Time) (X := c.X) (Y := c.Y) h ss.length (Nat.le_refl _)
  unfold tjR
  split
  · rename_i ha
    constructor
    · intro u hu
      rcases List.mem_append.1 hu with k | k
      · exact h1 u k
      · rw [List.mem_singleton.1 k]
        exact .inr ⟨rfl, rfl, rfl⟩
    · rw [List.pairwise_append]
      refine ⟨h2, List.pairwise_singleton _ _, fun u hu v hv => ?_⟩
      rw [List.mem_singleton.1 hv]
      exact .inl (h4 ha u hu)
  · exact ⟨h1, h2⟩
theorem stl_16 {a b : SS} (ha : M a.T ≤ 1 ∧ M a.P.X ≤ 1 ∧ M a.P.Y ≤ 1) (hb : M b.T ≤ 1 ∧ M b.P.X ≤ 1 ∧ M b.P.Y ≤ 1) : LnOk 16 (stl a b) := by
  have := MB.mk ha.1
  have := MB.mk ha.2.1
  have := MB.mk ha.2.2
  have := MB.mk hb.1
  have := MB.mk hb.2.1
  have := MB.mk hb.2.2
  exact ⟨MB.lt (q := (stl a b).X0) rfl, MB.lt (q := (stl a b).X1) rfl, MB.lt (q := (stl a b).Y0) rfl, MB.lt (q := (stl a b).Y1) rfl⟩
theorem tj_16 {T X Y : Int} (hT : 0 ≤ T ∧ 0 ≤ X ∧ 0 ≤ Y) {ss : List Stp15} (h : ∀ s ∈ ss, StOk s) : ∀ m, m ≤ ss.length → m ≤ 6 → ∀ u ∈ (tj T X Y ss m).out, UK 16 (toU u)
  | 0, _, _ => fun u hu => by cases hu
  | m + 1, hm, h6 => by
    have ih := tj_16 hT h m (by omega) (by omega)
    obtain ⟨h1, h2, h3, h4⟩ := tj_bnd hT h m (by omega)
    have hs := h _ (gi_mem (i := (m : Int)) (xs := ss) (by omega))
    obtain ⟨g1, g2, g3, g4⟩ := hs
    rw [tj]
    generalize tj T X Y ss m = q at *
    generalize gi ss (m : Int) = st at *
    simp only
    split
    · exact ih
    · intro u hu
      rcases List.mem_append.1 hu with k | k
      · exact ih u k
      · rw [List.mem_singleton] at k
        subst k
        have e1 : M ((q.t : Int) : Rat) ≤ 16 := Nat.le_trans (M_small (by omega)) (by decide)
        have e2 : M ((q.t + 1 + st.Time % 8 : Int) : Rat) ≤ 16 := Nat.le_trans (M_small (by omega)) (by decide)
        refine ⟨⟨rfl, rfl, rfl, rfl, e1, e2⟩, stl_16 ?_ (smp_M (by omega) (by omega) (by omega))⟩
        unfold tjF
        split
        · exact smp_M (by omega) (by omega) (by omega)
        · exact smp_M (by omega) (by omega) (by omega)
theorem tjR_16 {c : viatorlaw15_Car} (hT : 0 ≤ c.Time ∧ 0 ≤ c.X ∧ 0 ≤ c.Y) {ss : List Stp15} (h : ∀ s ∈ ss, StOk s) (h6 : ss.length ≤ 6) : ∀ u ∈ tjR c ss, UK 16 (toU u) := by
  have hk := tj_16 hT h ss.length (Nat.le_refl _) h6
  obtain ⟨h1, h2, h3, h4⟩ := tj_bnd hT h ss.length (Nat.le_refl _)
  unfold tjR
  split
  · intro u hu
    rcases List.mem_append.1 hu with k | k
    · exact hk u k
    · rw [List.mem_singleton] at k
      subst k
      have e1 : ∀ n : Int, 0 ≤ n ∧ n < 256 → M ((n : Int) : Rat) ≤ 16 := fun n hn => Nat.le_trans (M_small hn) (by decide)
      have e0 : M 0 ≤ 16 := by decide
      exact ⟨⟨rfl, rfl, rfl, rfl, e1 _ (by omega), e1 _ (by omega)⟩, ⟨e1 _ (by omega), e0, e1 _ (by omega), e0⟩⟩
  · exact hk
structure PGood (K n : Nat) (l : List PU) : Prop where
  nf : PNf l
  k : ∀ u ∈ l, UK K (toU u)
  n : l.length ≤ n
theorem mpN_map {α β : Type} [Inhabited α] (f : α → β) (xs : List α) : mpN f xs xs.length = xs.map f := by
  rw [mpN_take f xs _ (Nat.le_refl _), List.take_length]
theorem map_ofU (r : List UL) : (r.map ofU).map absP = r.map absU := by
  rw [List.map_map]
  rfl
theorem map_toU (r : List PU) : (r.map toU).map absU = r.map absP := by
  rw [List.map_map]
  rfl
theorem good_of {K n : Nat} {us : List UL} (hk : ∀ u ∈ us, UK K u) (hK : K ≤ KN) (ho : ∀ u ∈ us, (absU u).ok) (hd : (us.map absU).Pairwise Dis) (hn : us.length ≤ n) :
    PGood (4 * K + 4) n (mpN ofU (nrmR us) (nrmR us).length) ∧ (∀ t v, Has ((mpN ofU (nrmR us) (nrmR us).length).map absP) t v ↔ Has (us.map absU) t v) ∧ nrmE us = 0 := by
  have hv : UVal us := ⟨fun u hu => (hk u hu).uin hK, ho⟩
  obtain ⟨h1, h2⟩ := nrm_nf hv hd
  have h3 := nrmR_K hk
  have h4 := nrmR_few hv
  rw [mpN_map]
  refine ⟨⟨⟨by rw [map_ofU]; exact h1, fun u hu => ?_⟩, fun u hu => ?_, by rw [List.length_map]; omega⟩, fun t v => by rw [map_ofU]; exact h2 t v, (nrmE_0 hv).2 hd⟩
  · obtain ⟨w, hw, rfl⟩ := List.mem_map.1 hu
    exact ⟨(h3 w hw).i.rf, (h3 w hw).i.rt⟩
  · obtain ⟨w, hw, rfl⟩ := List.mem_map.1 hu
    exact h3 w hw
/-- The moving point of a car. -/
def carL (c : viatorlaw15_Car) (ss : List Stp15) : List PU := mNorm (tjR c ss)
structure CarOk (c : viatorlaw15_Car) (ss : List Stp15) : Prop where
  t : 0 ≤ c.Time ∧ 0 ≤ c.X ∧ 0 ≤ c.Y
  s : ∀ s ∈ ss, StOk s
  n : ss.length ≤ 6
theorem carL_good {c : viatorlaw15_Car} {ss : List Stp15} (h : CarOk c ss) : PGood 68 6 (carL c ss) ∧ ∀ t, (∃ u ∈ carL c ss, memI u.In t) ↔ ∃ u ∈ tjR c ss, memI u.In t := by
  have h1 := tjR_apart (c := c) h.s
  have h2 := tjR_16 h.t h.s h.n
  have h3 := tjR_few (c := c) h.n
  have hk : ∀ u ∈ (tjR c ss).map toU, UK 16 u := fun u hu => by
    obtain ⟨w, hw, rfl⟩ := List.mem_map.1 hu
    exact h2 w hw
  have ho : ∀ u ∈ (tjR c ss).map toU, (absU u).ok := fun u hu => by
    obtain ⟨w, hw, rfl⟩ := List.mem_map.1 hu
    exact h1.1 w hw
  have hd : (((tjR c ss).map toU).map absU).Pairwise Dis := by
    rw [map_toU, List.pairwise_map]
    exact h1.2.imp fun h => h.Dis
  obtain ⟨g1, g2, g3⟩ := good_of (n := 6) hk (by decide) ho hd (by rw [List.length_map]; exact h3)
  unfold carL mNorm
  rw [mpN_map toU]
  refine ⟨g1, fun t => ?_⟩
  have e : ∀ (l : List PU), (∃ u ∈ l, memI u.In t) ↔ ∃ v, Has (l.map absP) t v := fun l => by
    constructor
    · rintro ⟨u, hu, hm⟩
      exact ⟨_, absP u, List.mem_map.2 ⟨u, hu, rfl⟩, hm, rfl⟩
    · rintro ⟨v, x, hx, hm, -⟩
      obtain ⟨u, hu, rfl⟩ := List.mem_map.1 hx
      exact ⟨u, hu, hm⟩
  rw [e, e, ← map_toU (tjR c ss)]
  exact exists_congr fun v => g2 t v
theorem closL_mem {a b t : Rat} : (∃ i ∈ closL a b, memI i t) ↔ a ≤ t ∧ t ≤ b := by
  unfold closL
  split
  · rename_i h
    have h1 := cmpB_ge (a := ⟨⟨a, 0, false⟩, false⟩) (b := ⟨⟨b, 0, false⟩, true⟩) (by omega)
    have h2 : b < a := by
      unfold bLe at h1
      simp at h1
      exact h1
    constructor
    · rintro ⟨i, hi, -⟩
      cases hi
    · intro h3
      grind
  · constructor
    · rintro ⟨i, hi, hm⟩
      rw [List.mem_singleton.1 hi] at hm
      unfold memI at hm
      simp only [and_true] at hm
      grind
    · intro h3
      refine ⟨_, .head _, ?_⟩
      unfold memI
      simp only [and_true]
      grind
theorem closL_len (a b : Rat) : (closL a b).length ≤ 1 := by
  unfold closL
  split <;> simp
theorem closL_ok {a b : Rat} : ∀ i ∈ closL a b, bLe (bdF i) (bdL i) := fun i hi => by
  unfold closL at hi
  split at hi
  · cases hi
  · rename_i h
    rw [List.mem_singleton.1 hi]
    exact cmpB_lt (a := ⟨⟨a, 0, false⟩, false⟩) (b := ⟨⟨b, 0, false⟩, true⟩) (by omega)
structure BdK (K : Nat) (b : Bd) : Prop where
  r : b.at_.R = 0
  n : b.at_.Neg = false
  m : M b.at_.P ≤ K
theorem BdK.ok {K : Nat} {b : Bd} (h : BdK K b) (hk : K ≤ LQ) : BdOk b := ⟨h.r, h.n, Nat.le_trans h.m hk⟩
theorem BdK.iv {K : Nat} {i : R_api_Interval} (h : BdK K (bdF i)) (h' : BdK K (bdL i)) : IvOk K i := ⟨h.r, h'.r, h.n, h'.n, h.m, h'.m⟩
theorem IvOk.bd {K : Nat} {i : R_api_Interval} (h : IvOk K i) : BdK K (bdF i) ∧ BdK K (bdL i) := ⟨⟨h.r1, h.n1, h.m1⟩, ⟨h.r2, h.n2, h.m2⟩⟩
theorem closL_bd {a b : Rat} {K : Nat} (ha : M a ≤ K) (hb : M b ≤ K) : ∀ i ∈ closL a b, BdK K (bdF i) ∧ BdK K (bdL i) := fun i hi => by
  unfold closL at hi
  split at hi
  · cases hi
  · rw [List.mem_singleton.1 hi]
    exact ⟨⟨rfl, rfl, ha⟩, ⟨rfl, rfl, hb⟩⟩
/-- The instants of a moving point. -/
def pIv (l : List PU) : List R_api_Interval := mpN ivU (mpN toU l l.length) (mpN toU l l.length).length
def pDom (l : List PU) : List R_api_Interval := swpR kpU (pIv l) []
theorem pIv_eq (l : List PU) : pIv l = l.map (·.In) := by
  unfold pIv
  rw [mpN_map ivU, mpN_map toU, List.map_map]
  rfl
theorem ex_map {l : List PU} {t : Rat} : (∃ i ∈ l.map (·.In), memI i t) ↔ ∃ u ∈ l, memI u.In t := by
  constructor
  · rintro ⟨i, hi, hm⟩
    obtain ⟨u, hu, rfl⟩ := List.mem_map.1 hi
    exact ⟨u, hu, hm⟩
  · rintro ⟨u, hu, hm⟩
    exact ⟨_, List.mem_map.2 ⟨u, hu, rfl⟩, hm⟩
theorem pDom_law {K n : Nat} {l : List PU} (h : PGood K n l) : Sep (pDom l) ∧ (∀ t, (∃ i ∈ pDom l, memI i t) ↔ ∃ u ∈ l, memI u.In t) ∧ (∀ i ∈ pDom l, BdK K (bdF i) ∧ BdK K (bdL i)) ∧ ∀ i ∈ pIv l, BdK K (bdF i) ∧ BdK K (bdL i) := by
  have h1 : ∀ i ∈ l.map (·.In), bLe (bdF i) (bdL i) := fun i hi => by
    obtain ⟨u, hu, rfl⟩ := List.mem_map.1 hi
    exact okI_le (h.nf.nf.ok _ (List.mem_map.2 ⟨u, hu, rfl⟩))
  have h2 : ∀ i ∈ l.map (·.In), BdK K (bdF i) ∧ BdK K (bdL i) := fun i hi => by
    obtain ⟨u, hu, rfl⟩ := List.mem_map.1 hi
    exact (h.k u hu).i.bd
  have h0 : ∀ i ∈ ([] : List R_api_Interval), BdK K (bdF i) ∧ BdK K (bdL i) := fun i hi => (by cases hi)
  obtain ⟨e1, e2, e3⟩ := swpR_law (kp := kpU) rfl h1 (js := []) (fun i hi => (by cases hi))
  unfold pDom
  rw [pIv_eq]
  refine ⟨⟨e2, e3⟩, fun t => ?_, swpR_bd kpU h2 h0, h2⟩
  refine (e1 t).trans ?_
  unfold kpU
  simp only [Bool.or_eq_true, decide_eq_true_eq]
  rw [ex_map]
  exact ⟨fun h => h.resolve_right (fun ⟨i, hi, _⟩ => by cases hi), .inl⟩
theorem evK_len (is js : List R_api_Interval) : (evK is js 2).length = 2 * is.length + 2 * js.length := by rw [evK2, List.length_append, evA_len, evB_len]
/-- The moving point without what lies between two instants. -/
def movM (l : List PU) (a b : Rat) : List R_api_Interval := swpR kpM (pDom l) (closL a b)
def movL (l : List PU) (a b : Rat) : List PU := mpN ofU (nrmR (mRes l (movM l a b))) (nrmR (mRes l (movM l a b))).length
theorem mtO_pt {a b : R_api_Interval} (h : mtO a b = true) : ∃ t, memI a t ∧ memI b t := by
  obtain ⟨t, ht⟩ := GU.ok.pt (u := absU ⟨mt a b, ⟨0, 0, 0, 0⟩⟩) (mtO_iff.1 h)
  exact ⟨t, mt_mem.1 ht⟩
section
variable {D M : List R_api_Interval} {a b : Rat} (hM : Sep M) (hs : ∀ t, (∃ d ∈ M, memI d t) ↔ (∃ d ∈ D, memI d t) ∧ ¬ (a ≤ t ∧ t ≤ b))
include hM hs
theorem ri_few {u : UL} (hU : ∀ t, memI u.In t → ∃ d ∈ D, memI d t) : ∀ k, k ≤ M.length → (ri u M k).length ≤ 2 ∧ (0 < (ri u M k).length → ∃ j : Nat, j < k ∧ mtO u.In (gi M (j : Int)) = true) ∧ (1 < (ri u M k).length → ∃ i j : Nat, i < j ∧ j < k ∧ mtO u.In (gi M (i : Int)) = true ∧ mtO u.In (gi M (j : Int)) = true)
  | 0, _ => by simp [ri]
  | k + 1, hk => by
    obtain ⟨h1, h2, h3⟩ := ri_few hU k (by omega)
    rw [ri]
    by_cases hm : mtO u.In (gi M (k : Int)) = true
    · rw [if_pos hm]
      have hlt : (ri u M k).length < 2 := by
        rcases Nat.lt_or_ge (ri u M k).length 2 with h | h
        · exact h
        · obtain ⟨i, j, hij, hj, a1, a2⟩ := h3 (by omega)
          obtain ⟨t1, b1⟩ := mtO_pt a1
          obtain ⟨t2, b2⟩ := mtO_pt a2
          obtain ⟨t3, b3⟩ := mtO_pt hm
          exact (no_three hM hs hU hij hj (by omega) b1 b2 b3).elim
      rw [List.length_append, List.length_singleton]
      refine ⟨by omega, fun _ => ⟨k, by omega, hm⟩, fun h => ?_⟩
      obtain ⟨j, hj, a⟩ := h2 (by omega)
      exact ⟨j, k, hj, by omega, a, hm⟩
    · rw [if_neg hm, List.append_nil]
      exact ⟨h1, fun h => let ⟨j, hj, a⟩ := h2 h; ⟨j, by omega, a⟩, fun h => let ⟨i, j, hij, hj, a⟩ := h3 h; ⟨i, j, hij, by omega, a⟩⟩
theorem ro_few {us : List UL} (hU : ∀ u ∈ us, ∀ t, memI u.In t → ∃ d ∈ D, memI d t) : ∀ m, m ≤ us.length → (ro us M m).length ≤ 2 * m
  | 0, _ => by simp [ro]
  | m + 1, hm => by
    have h1 := ro_few hU m (by omega)
    have h2 := (ri_few hM hs (hU _ (gi_mem (xs := us) (i := (m : Int)) (by omega))) M.length (Nat.le_refl _)).1
    rw [ro, List.length_append]
    omega
end
structure MovOk (l : List PU) (a b : Rat) : Prop where
  l1 : 2 * (pDom l).length + 2 * (closL a b).length ≤ 12
  b1 : ∀ i ∈ pDom l, BdOk (bdF i) ∧ BdOk (bdL i)
  b2 : ∀ i ∈ closL a b, BdOk (bdF i) ∧ BdOk (bdL i)
  l2 : 2 * (pIv l).length + 2 * 0 ≤ 12
  b3 : ∀ i ∈ pIv l, BdOk (bdF i) ∧ BdOk (bdL i)
  r : ResOk l (movM l a b)
  g : PGood 276 12 (movL l a b)
theorem mov_law {c : viatorlaw15_Car} {ss : List Stp15} (h : CarOk c ss) {a b : Rat} (ha : Go.Vt.M a ≤ 68) (hb : Go.Vt.M b ≤ 68) : MovOk (carL c ss) a b := by
  obtain ⟨hg, ht⟩ := carL_good h
  obtain ⟨d1, d2, d3⟩ := djR_law (c := c) h.s
  have hn := h.n
  generalize carL c ss = l at *
  obtain ⟨p1, p2, p3, p4⟩ := pDom_law hg
  have hDl : (pDom l).length ≤ 4 := by
    have := p1.len d2 (fun t => by rw [p2 t, ht t, d3 t])
    rw [this, List.length_map]
    omega
  have hcl := closL_len a b
  have c1 := closL_bd ha hb
  obtain ⟨m1, m2, m3⟩ := swpR_law (kp := kpM) rfl (is := pDom l) (js := closL a b) (fun i hi => (p1.v i hi).le) closL_ok
  have mS : Sep (movM l a b) := ⟨m2, m3⟩
  have mH : ∀ t, (∃ d ∈ movM l a b, memI d t) ↔ (∃ d ∈ pDom l, memI d t) ∧ ¬ (a ≤ t ∧ t ≤ b) := fun t => by
    unfold movM
    refine (m1 t).trans ?_
    unfold kpM
    simp only [Bool.and_eq_true, Bool.not_eq_true', decide_eq_true_eq, decide_eq_false_iff_not]
    rw [closL_mem]
  have mB := swpR_bd (Pb := BdK 68) kpM (fun i hi => p3 i hi) c1
  have mI : ∀ d ∈ movM l a b, IvOk 68 d := fun d hd => (mB d hd).1.iv (mB d hd).2
  have mL : (movM l a b).length ≤ 12 := by
    have h1 := sws_out kpM (srtE (evK (pDom l) (closL a b) 2) ((evK (pDom l) (closL a b) 2).length - 1)) (srtE (evK (pDom l) (closL a b) 2) ((evK (pDom l) (closL a b) 2).length - 1)).length
    have h2 := (srtE_perm (evK (pDom l) (closL a b) 2)).length_eq
    have h3 := evK_len (pDom l) (closL a b)
    unfold movM swpR
    omega
  have hlK : ∀ u ∈ l.map toU, UK 68 u := fun u hu => by
    obtain ⟨w, hw, rfl⟩ := List.mem_map.1 hu
    exact hg.k w hw
  have hrU : ∀ u ∈ l.map toU, ∀ t, memI u.In t → ∃ d ∈ pDom l, memI d t := fun u hu t hm => by
    obtain ⟨w, hw, rfl⟩ := List.mem_map.1 hu
    exact (p2 t).2 ⟨w, hw, hm⟩
  have hres : mRes l (movM l a b) = ro (l.map toU) (movM l a b) (l.map toU).length := by
    unfold mRes
    rw [mpN_map toU]
  have hrl : (mRes l (movM l a b)).length ≤ 12 := by
    have := ro_few mS mH hrU (l.map toU).length (Nat.le_refl _)
    have := hg.n
    rw [hres]
    rw [List.length_map] at *
    omega
  have hrK : ∀ u ∈ mRes l (movM l a b), UK 68 u := by
    rw [hres]
    exact ro_K hlK mI
  have hok : ResOk l (movM l a b) := by
    refine ⟨by have := hg.n; omega, by omega, by omega, fun u hu => ?_, fun d hd => (mI d hd).mono (by decide), fun u hu => (hrK u hu).uin (by decide)⟩
    rw [mpN_map toU] at hu
    exact (hlK u hu).i.mono (by decide)
  refine ⟨by omega, fun i hi => ⟨(p3 i hi).1.ok (by decide), (p3 i hi).2.ok (by decide)⟩, fun i hi => ⟨(c1 i hi).1.ok (by decide), (c1 i hi).2.ok (by decide)⟩, ?_, fun i hi => ⟨(p4 i hi).1.ok (by decide), (p4 i hi).2.ok (by decide)⟩, hok, ?_⟩
  · rw [pIv_eq, List.length_map]
    have := hg.n
    omega
  · refine (good_of (K := 68) (n := 12) hrK (by decide) ?_ ?_ hrl).1
    · rw [hres]
      exact ro_ok
    · rw [hres]
      refine ro_pw ?_ ?_ _ (Nat.le_refl _)
      · rw [map_toU]
        exact hg.nf.nf.pw.imp fun h => h.bf.Dis
      · exact mS.p.imp fun {i j} hb t ht => (memI_at.1 ht.1).2 (bAt_le hb.le (memI_at.1 ht.2).1)
end Go.Vt
/- Union and difference of periods; the instants of a moving point: walked. Conditions: those that each statement names. -/
set_option linter.unusedSimpArgs false
set_option linter.unusedVariables false
set_option maxHeartbeats 2000000
set_option maxRecDepth 100000
namespace Go.Vt
open Go.RowKit Go.Proofs
instance sp_union1 (a b : Bool) : SpecC Tryz.prog 182 [.bool a, .bool b] (.bool (kpU a b)) True := ⟨fun _ w => by
  refine fn_intro Tryz.func182 rfl Tryz.ntmps182 rfl ?_
  rcases a with _ | _
  · repeat (refine wkB ?_; try intro _)
    exact jx_ret_tmp rfl rfl (fun w hw => ret_ok hw)
  · repeat (refine wkB ?_; try intro _)
    exact jx_ret_tmp rfl rfl (fun w hw => ret_ok hw)⟩
instance sp_minus1 (a b : Bool) : SpecC Tryz.prog 123 [.bool a, .bool b] (.bool (kpM a b)) True := ⟨fun _ w => by
  refine fn_intro Tryz.func123 rfl Tryz.ntmps123 rfl ?_
  rcases a with _ | _
  · repeat (refine wkB ?_; try intro _)
    exact jx_ret_tmp rfl rfl (fun w hw => ret_ok hw)
  · repeat (refine wkB ?_; try intro _)
    exact jx_ret_tmp rfl rfl (fun w hw => ret_ok hw)⟩
/-- Two periods that a sweep takes. -/
structure SwOk (is js : List R_api_Interval) : Prop where
  l : 2 * is.length + 2 * js.length ≤ 12
  a : ∀ i ∈ is, BdOk (bdF i) ∧ BdOk (bdL i)
  b : ∀ i ∈ js, BdOk (bdF i) ∧ BdOk (bdL i)
theorem union_spec (v1 v2 : Value) (is js : List R_api_Interval) (w : World) (hv1 : ArgS w v1 rI is) (hv2 : ArgS w v2 rI js) (h : SwOk is js) :
    Calls Tryz.prog 163 [v1, v2].toArray w (RetM (SlS rI 20 (swpR kpU is js)) (fun s => vSl s) (fun s => mS 32 s) w) := by
  have := ArgC.mk hv1
  have := ArgC.mk hv2
  refine fn_intro Tryz.func163 rfl Tryz.ntmps163 rfl ?_
  repeat (first | (refine wkB ?_; try intro _) | (refine sC rfl rfl ?_ ?_; focus (exact ⟨h.l, h.a, h.b⟩)) | (refine sN rfl rfl ?_ ?_; (focus (exact ⟨h.l, h.a, h.b⟩)); intro _; (try simp only [List.cons_append, List.nil_append, List.append_nil])))
  rename_i s
  exact jx_ret_tmp rfl rfl (fun w hw => ⟨s, rfl, hw.sub suB⟩)
instance sr_union (w0 : World) (L : List Blk) (v1 v2 : Value) (is js : List R_api_Interval) [h1 : LstC w0 L v1 R_api_Interval rI is] [h2 : LstC w0 L v2 R_api_Interval rI js] : SpecR Tryz.prog w0 L 163 [v1, v2] (SlS rI 20 (swpR kpU is js)) (fun s => vSl s) (fun s => mS 32 s) (SwOk is js) := ⟨fun hp w hw => union_spec v1 v2 is js w (h1.out w hw) (h2.out w hw) hp⟩
theorem minus_spec (v1 v2 : Value) (is js : List R_api_Interval) (w : World) (hv1 : ArgS w v1 rI is) (hv2 : ArgS w v2 rI js) (h : SwOk is js) :
    Calls Tryz.prog 81 [v1, v2].toArray w (RetM (SlS rI 20 (swpR kpM is js)) (fun s => vSl s) (fun s => mS 32 s) w) := by
  have := ArgC.mk hv1
  have := ArgC.mk hv2
  refine fn_intro Tryz.func81 rfl Tryz.ntmps81 rfl ?_
  repeat (first | (refine wkB ?_; try intro _) | (refine sC rfl rfl ?_ ?_; focus (exact ⟨h.l, h.a, h.b⟩)) | (refine sN rfl rfl ?_ ?_; (focus (exact ⟨h.l, h.a, h.b⟩)); intro _; (try simp only [List.cons_append, List.nil_append, List.append_nil])))
  rename_i s
  exact jx_ret_tmp rfl rfl (fun w hw => ⟨s, rfl, hw.sub suB⟩)
instance sr_minus (w0 : World) (L : List Blk) (v1 v2 : Value) (is js : List R_api_Interval) [h1 : LstC w0 L v1 R_api_Interval rI is] [h2 : LstC w0 L v2 R_api_Interval rI js] : SpecR Tryz.prog w0 L 81 [v1, v2] (SlS rI 20 (swpR kpM is js)) (fun s => vSl s) (fun s => mS 32 s) (SwOk is js) := ⟨fun hp w hw => minus_spec v1 v2 is js w (h1.out w hw) (h2.out w hw) hp⟩
theorem perN_spec (v1 : Value) (is : List R_api_Interval) (w : World) (hv1 : ArgS w v1 rI is) (h : SwOk is []) :
    Calls Tryz.prog 128 [v1].toArray w (RetM (SlS rI 20 (swpR kpU is [])) (fun s => vSl s) (fun s => mS 32 s) w) := by
  have := ArgC.mk hv1
  have hn : ∀ L, LstC w L (.slice none 0 0) R_api_Interval rI [] := fun L => ⟨fun _ _ => ⟨.inl ⟨rfl, rfl⟩⟩⟩
  refine fn_intro Tryz.func128 rfl Tryz.ntmps128 rfl ?_
  repeat (first | (refine wkB ?_; try intro _) | (refine sC rfl rfl ?_ ?_; focus (exact h)) | (refine sN rfl rfl ?_ ?_; (focus (exact h)); intro _; (try simp only [List.cons_append, List.nil_append, List.append_nil])))
  rename_i s
  exact jx_ret_tmp rfl rfl (fun w hw => ⟨s, rfl, hw.sub suB⟩)
instance sr_perN (w0 : World) (L : List Blk) (v1 : Value) (is : List R_api_Interval) [h1 : LstC w0 L v1 R_api_Interval rI is] : SpecR Tryz.prog w0 L 128 [v1] (SlS rI 20 (swpR kpU is [])) (fun s => vSl s) (fun s => mS 32 s) (SwOk is []) := ⟨fun hp w hw => perN_spec v1 is w (h1.out w hw) hp⟩
theorem pdom_spec (v : Value) (us : List UL) (w : World) (hv : ArgS w v rU us) (h : SwOk (mpN ivU us us.length) []) :
    Calls Tryz.prog 89 [v].toArray w (RetM (SlS rI 20 (swpR kpU (mpN ivU us us.length) [])) (fun s => vSl s) (fun s => mS 32 s) w) := by
  have := ArgC.mk hv
  have hl := h.l
  have hml := mpN_len ivU us us.length
  simp only [List.length_nil] at hl
  refine fn_intro Tryz.func89 rfl Tryz.ntmps89 rfl ?_
  repeat (first | (refine wkB ?_; try intro _) | (refine sC rfl rfl ?_ ?_; focus (first | exact (show us.length ≤ 1048576 by omega) | exact h)) | (refine sN rfl rfl ?_ ?_; (focus (first | exact (show us.length ≤ 1048576 by omega) | exact h)); intro _; (try simp only [List.cons_append, List.nil_append, List.append_nil])))
  rename_i s1 s2
  exact jx_ret_tmp rfl rfl (fun w hw => ⟨s2, rfl, hw.sub suB⟩)
instance sr_pdom (w0 : World) (L : List Blk) (v : Value) (us : List UL) [h : LstC w0 L v UL rU us] : SpecR Tryz.prog w0 L 89 [v] (SlS rI 20 (swpR kpU (mpN ivU us us.length) [])) (fun s => vSl s) (fun s => mS 32 s) (SwOk (mpN ivU us us.length) []) := ⟨fun hp w hw => pdom_spec v us w (h.out w hw) hp⟩
theorem mdom_spec (v : Value) (us : List PU) (w : World) (hv : ArgS w v rP us) (h : SwOk (pIv us) []) :
    Calls Tryz.prog 38 [v].toArray w (RetM (SlS rI 20 (pDom us)) (fun s => vSl s) (fun s => mS 32 s) w) := by
  have := ArgC.mk hv
  have hl := h.l
  have hml := mpN_len toU us us.length
  have hml2 := mpN_len ivU (mpN toU us us.length) (mpN toU us us.length).length
  unfold pIv at hl
  simp only [List.length_nil] at hl
  refine fn_intro Tryz.func38 rfl Tryz.ntmps38 rfl ?_
  repeat (first | (refine wkB ?_; try intro _) | (refine sC rfl rfl ?_ ?_; focus (first | exact (show us.length ≤ 1048576 by omega) | exact h)) | (refine sN rfl rfl ?_ ?_; (focus (first | exact (show us.length ≤ 1048576 by omega) | exact h)); intro _; (try simp only [List.cons_append, List.nil_append, List.append_nil])))
  rename_i s1 s2
  exact jx_ret_tmp rfl rfl (fun w hw => ⟨s2, rfl, hw.sub suB⟩)
instance sr_mdom (w0 : World) (L : List Blk) (v : Value) (us : List PU) [h : LstC w0 L v PU rP us] : SpecR Tryz.prog w0 L 38 [v] (SlS rI 20 (pDom us)) (fun s => vSl s) (fun s => mS 32 s) (SwOk (pIv us) []) := ⟨fun hp w hw => mdom_spec v us w (h.out w hw) hp⟩
end Go.Vt
/- Are instants, intervals, units valid? Walked where they are. Conditions: those that each statement names. -/
set_option linter.unusedSimpArgs false
set_option linter.unusedVariables false
set_option maxHeartbeats 2000000
set_option maxRecDepth 100000
namespace Go.Vt
open Go.RowKit Go.Proofs
theorem zero_sign : (0 : Rat).num.sign = 0 := by decide
instance sp_RealCheck0 (x : R_api_Real) : SpecC Tryz.prog 175 [vR x] (.int .i64 0) (x.R = 0 ∧ x.Neg = false ∧ M x.P ≤ LQ) := ⟨fun hp w => by
  obtain ⟨p, r, n⟩ := x
  obtain ⟨h1, h2, h3⟩ := hp
  simp only at h1 h2 h3
  subst h1
  subst h2
  have h0 : M 0 ≤ LQ := by decide
  refine fn_intro Tryz.func175 rfl Tryz.ntmps175 rfl ?_
  repeat (refine wkB ?_; try intro _)
  simp only [zero_sign]
  repeat (refine wkB ?_; try intro _)
  exact jx_ret_tmp rfl rfl (fun w hw => ret_ok hw)⟩
instance sp_CheckIv (i : R_api_Interval) : SpecC Tryz.prog 153 [vIv i] (.int .i64 0) (IvOk LQ i ∧ okI i) := ⟨fun hp w => by
  obtain ⟨h1, h2⟩ := hp
  have hlt := okI_bd.1 h2
  have hn : ¬ 0 ≤ cmpB (bdF i) (bdL i) := fun h => (bLt_le.1 hlt) (cmpB_ge (by omega))
  refine fn_intro Tryz.func153 rfl Tryz.ntmps153 rfl ?_
  repeat (first | (refine wkB ?_; try intro _) | (refine sC rfl rfl ?_ ?_; focus (first | exact ⟨h1.r1, h1.n1, h1.m1⟩ | exact ⟨h1.r2, h1.n2, h1.m2⟩)) | (refine sN rfl rfl ?_ ?_; (focus (first | exact ⟨h1.r1, h1.n1, h1.m1⟩ | exact ⟨h1.r2, h1.n2, h1.m2⟩)); intro _; (try simp only [List.cons_append, List.nil_append, List.append_nil])))
  (refine jD 6 6 (h := ?_); (repeat (first | refine wkH ?_ | (refine tC rfl rfl ?_ ?_; focus (first | exact trivial | exact ⟨⟨h1.r1, h1.n1, h1.m1⟩, ⟨h1.r2, h1.n2, h1.m2⟩⟩)))); refine jh_nil ?_; (repeat (refine wn_new ?_; intro _)); refine jn_nil ?_)
  simp only [decide_eq_false hn]
  repeat (refine wkB ?_; try intro _)
  exact jx_ret_tmp rfl rfl (fun w hw => ret_ok hw)⟩
abbrev ln4 (f : R_api_Line) : Nat → Rat
  | 0 => f.X0
  | 1 => f.X1
  | 2 => f.Y0
  | _ => f.Y1
abbrev e4Q (f : R_api_Line) : Array Value := e_api_Line (q_api_Line f)
instance bd_four (a b c d : Rat) : BdC Tryz.prog 331 [(0, vQ a), (1, vQ b), (2, vQ c), (3, vQ d)] (.agg (e4Q ⟨a, b, c, d⟩)) := ⟨fun w => by kernel_rfl⟩
theorem run_index4 (f : R_api_Line) (w : World) : ∀ m : Nat, m < 4 → (Instr.index 331 (.agg (e4Q f)) (.int .i64 (m : Int))).run Tryz.prog w = .ok (vQ (ln4 f m)) w
  | 0, _ => by kernel_rfl
  | 1, _ => by kernel_rfl
  | 2, _ => by kernel_rfl
  | 3, _ => by kernel_rfl
  | m + 4, h => by omega
theorem lcheck_spec (f : R_api_Line) (z : Array Value) (w : World) (h : LnOk LQ f) : Calls Tryz.prog 257 [.agg z, vLn f].toArray w (Ret (.int .i64 0) w) := by
  obtain ⟨h1, h2, h3, h4⟩ := h
  refine fn_intro Tryz.func257 rfl Tryz.ntmps257 rfl ?_
  repeat (refine wkB ?_; try intro _)
  rename_i b3 b2
  refine j_loop (S := Nat) (fun m => m ≤ 4) (fun m => [(16, .agg (e4Q f)), (17, .int .i64 (m : Nat))]) (fun _ => []) (fun m => 4 - m) 0 (by omega) sbB slB (fun m hm => ?_)
  repeat (refine wkB ?_; try intro _)
  refine j_cond rfl (fun h => ?_) (fun h => ?_)
  · have hlt : m < 4 := by have := of_decide_eq_true h; omega
    have hM : M (ln4 f m) ≤ LQ := by
      rcases (by omega : m = 0 ∨ m = 1 ∨ m = 2 ∨ m = 3) with rfl | rfl | rfl | rfl
      · exact h1
      · exact h2
      · exact h3
      · exact h4
    have : ∀ (L : List Blk) (E : Env) [IsC (evl E (.tmp 16)) (.agg (e4Q f))] [IsC (evl E (.tmp 17)) (.int .i64 (m : Int))], YlC Tryz.prog w 26 L E (.index 331 (.tmp 16) (.tmp 17)) (vQ (ln4 f m)) := fun L E _ _ => ⟨fun _ _ _ _ _ => yl_index isE isE fun w => run_index4 f w m hlt⟩
    repeat (first | (refine wkB ?_; try intro _) | (refine sC rfl rfl ?_ ?_; focus (exact hM)) | (refine sN rfl rfl ?_ ?_; (focus (exact hM)); intro _; (try simp only [List.cons_append, List.nil_append, List.append_nil])))
    exact jx_loop (m + 1) hlt sbB slB (by omega)
  · repeat (refine wkB ?_; try intro _)
    exact jx_ret_tmp rfl rfl (fun w hw => ret_ok hw)
instance sp_LCheck (f : R_api_Line) (z : Array Value) : SpecC Tryz.prog 257 [.agg z, vLn f] (.int .i64 0) (LnOk LQ f) := ⟨fun h w => lcheck_spec f z w h⟩
instance meth_Check : MethC Tryz.prog 152 (.agg #[]) "Check" 257 (.agg #[]) := ⟨fun w => by kernel_rfl⟩
instance ld_rules : LdC Tryz.prog 190 #[vLines] 0 vLines := ⟨ldv_one (by kernel_rfl) rfl⟩
instance al_boxL {E : Env} {T : TypeId} {x : Operand} {d : TypeId} {v : Value} [h : IsC (evl E x) (.iface d v)] : AlC Tryz.prog E (.box T x) #[.iface d v] T := ⟨fun hg hd h => jo_box isE hg hd h⟩
theorem eq1_spec (x y : UL) (b : Nat) (w : World) (hb : ∃ T fz, w.heap[b]? = some (.cells #[vLines] T fz)) : Calls Tryz.prog 177 [vUL x, vUL y, .pointer (some ⟨b, 0, none⟩)].toArray w (Ret (.bool (decide (x = y))) w) := by
  obtain ⟨T, hb⟩ := hb
  have := FoC.mk hb
  refine fn_intro Tryz.func177 rfl Tryz.ntmps177 rfl ?_
  repeat (refine wkB ?_; try intro _)
  by_cases h : x.In = y.In
  · simp only [decide_eq_true h]
    repeat (refine wkB ?_; try intro _)
    have e : decide (x.F = y.F) = decide (x = y) := by
      rw [decide_eq_decide]
      obtain ⟨I, F⟩ := x
      obtain ⟨I', F'⟩ := y
      simp only at h
      subst h
      simp
    rw [e]
    exact jx_ret_tmp rfl rfl (fun w hw => ret_ok hw)
  · simp only [decide_eq_false h]
    repeat (refine wkB ?_; try intro _)
    rw [decide_eq_false (show ¬ x = y from fun e => h (by rw [e]))]
    exact jx_ret_tmp rfl rfl (fun w hw => ret_ok hw)
instance sm_eq1 (w0 : World) (L : List Blk) (x y : UL) (b : Nat) (T : TypeId) [h : AtC w0 L b #[vLines] T] : SpecM Tryz.prog w0 L 177 [vUL x, vUL y, .pointer (some ⟨b, 0, none⟩)] (.bool (decide (x = y))) True := ⟨fun _ w hw => eq1_spec x y b w ⟨T, h.out w hw⟩⟩
theorem eqf_spec (v1 v2 : Value) (us : List UL) (b : Nat) (w : World) (h1 : ArgS w v1 rU us) (h2 : ArgS w v2 rU us) (hb : ∃ T fz, w.heap[b]? = some (.cells #[vLines] T fz)) (hl : us.length ≤ 1048576) :
    Calls Tryz.prog 176 [v1, v2, .func (.func 177) #[] [.pointer (some ⟨b, 0, none⟩)].toArray].toArray w (Ret (.bool true) w) := by
  obtain ⟨T, hb⟩ := hb
  have := FoC.mk hb
  refine fn_intro Tryz.func176 rfl Tryz.ntmps176 rfl ?_
  obtain ⟨p1, c1, rfl⟩ := h1.form
  obtain ⟨p2, c2, rfl⟩ := h2.form
  repeat (refine wkB ?_; try intro _)
  simp only [decide_eq_true (rfl : (us.length : Int) = (us.length : Int)), Bool.not_true]
  repeat (refine wkB ?_; try intro _)
  refine j_loop (S := Nat) (fun m => m ≤ us.length) (fun m => [(1, .slice p2 us.length c2), (2, .func (.func 177) #[] [.pointer (some ⟨b, 0, none⟩)].toArray), (15, .slice p1 us.length c1), (16, .int .i64 us.length), (17, .int .i64 (m : Nat))]) (fun _ => []) (fun m => us.length - m) 0 (Nat.zero_le _) sbB slB (fun m hm => ?_)
  repeat (refine wkB ?_; try intro _)
  refine j_cond rfl (fun h => ?_) (fun h => ?_)
  · have hlt : m < us.length := by have := of_decide_eq_true h; omega
    have hne : us ≠ [] := fun h0 => by rw [h0] at hlt; simp at hlt
    obtain ⟨b1, o1, c1', hv1, hc1, hr1⟩ := h1.blk (k := 35) hne []
    injection hv1 with e1 e2 e3
    subst e1
    subst e3
    obtain ⟨b2, o2, c2', hv2, hc2, hr2⟩ := h2.blk (k := 35) hne []
    injection hv2 with e1 e2 e3
    subst e1
    subst e3
    have hr1' : ∀ L, RowC w L b1 o1 UL rU us := fun L => ⟨fun w' hw' => hr1.out w' (hw'.sub (List.nil_sublist _))⟩
    have hr2' : ∀ L, RowC w L b2 o2 UL rU us := fun L => ⟨fun w' hw' => hr2.out w' (hw'.sub (List.nil_sublist _))⟩
    repeat (refine wkB ?_; try intro _)
    simp only [decide_eq_true (rfl : gi us (m : Int) = gi us (m : Int)), Bool.not_true]
    repeat (refine wkB ?_; try intro _)
    exact jx_loop (m + 1) hlt sbB slB (by omega)
  · repeat (refine wkB ?_; try intro _)
    exact jx_ret_tmp rfl rfl (fun w hw => ret_ok hw)
instance sm_eqf (w0 : World) (L : List Blk) (v1 v2 : Value) (us : List UL) (b : Nat) (T : TypeId) [h1 : LstC w0 L v1 UL rU us] [h2 : LstC w0 L v2 UL rU us] [h : AtC w0 L b #[vLines] T] : SpecM Tryz.prog w0 L 176 [v1, v2, .func (.func 177) #[] [.pointer (some ⟨b, 0, none⟩)].toArray] (.bool true) (us.length ≤ 1048576) := ⟨fun hp w hw => eqf_spec v1 v2 us b w (h1.out w hw) (h2.out w hw) ⟨T, h.out w hw⟩ hp⟩
theorem peq_spec (v1 v2 : Value) (us : List UL) (w : World) (h1 : ArgS w v1 rU us) (h2 : ArgS w v2 rU us) (hl : us.length ≤ 1048576) :
    Calls Tryz.prog 154 [vLines, v1, v2].toArray w (Ret (.bool true) w) := by
  have := ArgC.mk h1
  have := ArgC.mk h2
  refine fn_intro Tryz.func154 rfl Tryz.ntmps154 rfl ?_
  repeat (first | (refine wkB ?_; try intro _) | (refine sC rfl rfl ?_ ?_; focus (exact hl)) | (refine sN rfl rfl ?_ ?_; (focus (exact hl)); intro _; (try simp only [List.cons_append, List.nil_append, List.append_nil])))
  exact jx_ret_tmp rfl rfl (fun w hw => ret_ok hw)
instance sm_peq (w0 : World) (L : List Blk) (v1 v2 : Value) (us : List UL) [h1 : LstC w0 L v1 UL rU us] [h2 : LstC w0 L v2 UL rU us] : SpecM Tryz.prog w0 L 154 [vLines, v1, v2] (.bool true) (us.length ≤ 1048576) := ⟨fun hp w hw => peq_spec v1 v2 us w (h1.out w hw) (h2.out w hw) hp⟩
/-- A moving point in normal form is its own normal form. -/
theorem nrm_same {us : List UL} (h : NF (us.map absU)) (hk : ∀ u ∈ us, UIn u) : nrmR us = us ∧ nrmE us = 0 ∧ ∀ i, i + 1 < us.length → aprt (gi us (i : Int)).In (gi us ((i + 1 : Nat) : Int)).In = true := by
  have hd : (us.map absU).Pairwise Dis := h.pw.imp fun h => h.bf.Dis
  have hv : UVal us := ⟨hk, fun u hu => h.ok _ (List.mem_map.2 ⟨u, hu, rfl⟩)⟩
  obtain ⟨h1, h2⟩ := nrm_nf hv hd
  refine ⟨absL_inj (fun u hu => (nrmR_ok hk u hu).i) (fun u hu => (hk u hu).i) (NF.uniq h1 h h2), (nrmE_0 hv).2 hd, fun i hi => ?_⟩
  exact aprt_iff.2 (nf_le h (i := i) (j := i + 1) (by omega) hi)
theorem pcheck_spec (v : Value) (us : List UL) (w : World) (hv : ArgS w v rU us) (hnil : us = [] → v = .slice none 0 0) (h : NF (us.map absU)) (hk : ∀ u ∈ us, UIn u) (hl : us.length ≤ 19) :
    Calls Tryz.prog 114 [vLines, v].toArray w (Ret (.int .i64 0) w) := by
  obtain ⟨n1, n2, n3⟩ := nrm_same h hk
  have := ArgC.mk hv
  obtain ⟨p, cp, rfl⟩ := hv.form
  have : ∀ L, LstN w L (.slice p us.length cp) UL rU us := fun L => ⟨fun w' hw' => hv.to hw'.ext, hnil⟩
  refine fn_intro Tryz.func114 rfl Tryz.ntmps114 rfl ?_
  repeat (refine wkB ?_; try intro _)
  simp only [decide_eq_false (show ¬ (256 : Int) < us.length by omega)]
  repeat (refine wkB ?_; try intro _)
  refine j_loop (S := Nat) (fun m => m ≤ us.length) (fun m => [(0, vLines), (1, .slice p us.length cp), (14, .slice p us.length cp), (15, .int .i64 us.length), (16, .int .i64 (m : Nat))]) (fun _ => []) (fun m => us.length - m) 0 (Nat.zero_le _) sbB slB (fun m hm => ?_)
  repeat (refine wkB ?_; try intro _)
  refine j_cond rfl (fun hc => ?_) (fun hc => ?_)
  · have hlt : m < us.length := by have := of_decide_eq_true hc; omega
    have hne : us ≠ [] := fun h0 => by rw [h0] at hlt; simp at hlt
    obtain ⟨b1, o1, c1', hv1, hc1, hr1⟩ := hv.blk (k := 35) hne []
    injection hv1 with e1 e2 e3
    subst e1
    subst e3
    have hr1' : ∀ L, RowC w L b1 o1 UL rU us := fun L => ⟨fun w' hw' => hr1.out w' (hw'.sub (List.nil_sublist _))⟩
    have hu := hk _ (gi_mem (i := (m : Int)) (xs := us) (by omega))
    have ho := h.ok _ (List.mem_map.2 ⟨_, gi_mem (i := (m : Int)) (xs := us) (by omega), rfl⟩)
    have p1 : IvOk LQ (gi us (m : Int)).In ∧ okI (gi us (m : Int)).In := ⟨hu.i.mono (by decide), ho⟩
    have p2 : LnOk LQ (gi us (m : Int)).F := hu.f.mono (by decide)
    repeat (first | (refine wkB ?_; try intro _) | (refine sC rfl rfl ?_ ?_; focus (first | exact p1 | exact p2)) | (refine sN rfl rfl ?_ ?_; (focus (first | exact p1 | exact p2)); intro _; (try simp only [List.cons_append, List.nil_append, List.append_nil])))
    rename_i b6
    rcases Nat.eq_zero_or_pos m with h0 | h0
    · subst h0
      refine jD 14 14 (h := ?_)
      (repeat (refine wkH ?_))
      simp only [decide_eq_false (show ¬ (0 : Int) < ((0 : Nat) : Int) by decide)]
      (repeat (refine wkH ?_))
      refine jh_nil ?_
      refine jn_nil ?_
      repeat (refine wkB ?_; try intro _)
      exact jx_loop 1 hlt sbB slB (by omega)
    · have hu0 := hk _ (gi_mem (i := (m : Int) - 1) (xs := us) (by omega))
      have ha : aprt (gi us ((m : Int) - 1)).In (gi us (m : Int)).In = true := by
        have := n3 (m - 1) (by omega)
        rw [show ((m - 1 : Nat) : Int) = (m : Int) - 1 by omega, show ((m - 1 + 1 : Nat) : Int) = (m : Int) by omega] at this
        exact this
      refine jD 14 14 (h := ?_)
      (repeat (refine wkH ?_))
      simp only [decide_eq_true (show (0 : Int) < (m : Int) by omega)]
      (repeat (first | refine wkH ?_ | (refine tC rfl rfl ?_ ?_; focus (exact ⟨⟨hu0.i.r2, hu.i.r1⟩, Nat.le_trans hu0.i.m2 (by decide), Nat.le_trans hu.i.m1 (by decide)⟩))))
      simp only [ha, Bool.not_true]
      (repeat (refine wkH ?_))
      refine jh_nil ?_
      refine jn_nil ?_
      repeat (refine wkB ?_; try intro _)
      exact jx_loop (m + 1) hlt sbB slB (by omega)
  · repeat (first | (refine wkB ?_; try intro _) | (refine sC rfl rfl ?_ ?_; focus (first | exact ⟨hl, hk⟩)) | (refine sN rfl rfl ?_ ?_; (focus (first | exact ⟨hl, hk⟩)); intro _; (try simp only [List.cons_append, List.nil_append, List.append_nil])))
    rename_i s
    obtain ⟨s', e1, e2⟩ := SlS.turn 163 n1 s
    simp only [← e1, ← e2, n2, decide_eq_true (rfl : (0 : Int) = 0), Bool.not_true]
    repeat (first | (refine wkB ?_; try intro _) | (refine sC rfl rfl ?_ ?_; focus (exact (show us.length ≤ 1048576 by omega))) | (refine sN rfl rfl ?_ ?_; (focus (exact (show us.length ≤ 1048576 by omega))); intro _; (try simp only [List.cons_append, List.nil_append, List.append_nil])))
    exact jx_ret_tmp rfl rfl (fun w hw => ret_ok hw)
instance sm_pcheck (w0 : World) (L : List Blk) (v : Value) (us : List UL) [h : LstN w0 L v UL rU us] : SpecM Tryz.prog w0 L 114 [vLines, v] (.int .i64 0) (NF (us.map absU) ∧ (∀ u ∈ us, UIn u) ∧ us.length ≤ 19) := ⟨fun hp w hw => pcheck_spec v us w (h.out w hw) h.nil hp.1 hp.2.1 hp.2.2⟩
/-- A moving point in normal form, short enough. -/
structure PFine (us : List PU) : Prop where
  nf : NF (us.map absP)
  k : ∀ u ∈ us, UIn (toU u)
  l : us.length ≤ 19
theorem mcheck_spec (v : Value) (us : List PU) (w : World) (hv : ArgS w v rP us) (h : PFine us) : Calls Tryz.prog 73 [v].toArray w (Ret (.int .i64 0) w) := by
  have hl := h.l
  have hml := mpN_map toU us
  have p1 : NF ((mpN toU us us.length).map absU) ∧ (∀ u ∈ mpN toU us us.length, UIn u) ∧ (mpN toU us us.length).length ≤ 19 := by
    rw [hml, map_toU, List.length_map]
    refine ⟨h.nf, fun u hu => ?_, hl⟩
    obtain ⟨x, hx, rfl⟩ := List.mem_map.1 hu
    exact h.k x hx
  have := ArgC.mk hv
  refine fn_intro Tryz.func73 rfl Tryz.ntmps73 rfl ?_
  repeat (first | (refine wkB ?_; try intro _) | (refine sC rfl rfl ?_ ?_; focus (first | exact trivial | exact (show us.length ≤ 1048576 by omega) | exact p1)) | (refine sN rfl rfl ?_ ?_; (focus (first | exact trivial | exact (show us.length ≤ 1048576 by omega) | exact p1)); intro _; (try simp only [List.cons_append, List.nil_append, List.append_nil])))
  exact jx_ret_tmp rfl rfl (fun w hw => ret_ok hw)
instance sm_mcheck (w0 : World) (L : List Blk) (v : Value) (us : List PU) [h : LstC w0 L v PU rP us] : SpecM Tryz.prog w0 L 73 [v] (.int .i64 0) (PFine us) := ⟨fun hp w hw => mcheck_spec v us w (h.out w hw) hp⟩
set_option maxHeartbeats 2000000 in
theorem scheck_spec (v : Value) (us : List PU) (w : World) (hv : ArgS w v rP us) (h : PFine us) : Calls Tryz.prog 31 [v].toArray w (Ret (.int .i64 0) w) := by
  have hl := h.l
  have := ArgC.mk hv
  obtain ⟨p, cp, rfl⟩ := hv.form
  refine fn_intro Tryz.func31 rfl Tryz.ntmps31 rfl ?_
  repeat (first | (refine wkB ?_; try intro _) | (refine sC rfl rfl ?_ ?_; focus (exact h)) | (refine sN rfl rfl ?_ ?_; (focus (exact h)); intro _; (try simp only [List.cons_append, List.nil_append, List.append_nil])))
  simp only [decide_eq_true (rfl : (0 : Int) = 0), Bool.not_true]
  repeat (refine wkB ?_; try intro _)
  refine j_loop (S := Nat) (fun m => m ≤ us.length) (fun m => [(15, .slice p us.length cp), (16, .int .i64 us.length), (17, .int .i64 (m : Nat))]) (fun _ => []) (fun m => us.length - m) 0 (Nat.zero_le _) sbB slB (fun m hm => ?_)
  repeat (refine wkB ?_; try intro _)
  refine j_cond rfl (fun hc => ?_) (fun hc => ?_)
  · have hlt : m < us.length := by have := of_decide_eq_true hc; omega
    have hne : us ≠ [] := fun h0 => by rw [h0] at hlt; simp at hlt
    obtain ⟨b1, o1, c1', hv1, hc1, hr1⟩ := hv.blk (k := 35) hne []
    injection hv1 with e1 e2 e3
    subst e1
    subst e3
    have hr1' : ∀ L, RowC w L b1 o1 PU rP us := fun L => ⟨fun w' hw' => hr1.out w' (hw'.sub (List.nil_sublist _))⟩
    have hu := (h.k _ (gi_mem (i := (m : Int)) (xs := us) (by omega))).i
    have q1 : decide ((gi us (m : Int)).In.From.R = 0) = true := decide_eq_true hu.r1
    have q2 : decide ((gi us (m : Int)).In.To.R = 0) = true := decide_eq_true hu.r2
    repeat (refine wkB ?_; try intro _)
    simp only [q1, q2, Bool.not_true]
    repeat (refine wkB ?_; try intro _)
    exact jx_loop (m + 1) hlt sbB slB (by omega)
  · repeat (refine wkB ?_; try intro _)
    exact jx_ret_tmp rfl rfl (fun w hw => ret_ok hw)
instance sm_scheck (w0 : World) (L : List Blk) (v : Value) (us : List PU) [h : LstC w0 L v PU rP us] : SpecM Tryz.prog w0 L 31 [v] (.int .i64 0) (PFine us) := ⟨fun hp w hw => scheck_spec v us w (h.out w hw) hp⟩
set_option maxHeartbeats 2000000 in
theorem rcheck_spec (v : Value) (us : List PU) (w : World) (hv : ArgS w v rP us) (h : PFine us) : Calls Tryz.prog 27 [v].toArray w (Ret (.int .i64 0) w) := by
  have hl := h.l
  have := ArgC.mk hv
  obtain ⟨p, cp, rfl⟩ := hv.form
  refine fn_intro Tryz.func27 rfl Tryz.ntmps27 rfl ?_
  repeat (first | (refine wkB ?_; try intro _) | (refine sC rfl rfl ?_ ?_; focus (exact h)) | (refine sN rfl rfl ?_ ?_; (focus (exact h)); intro _; (try simp only [List.cons_append, List.nil_append, List.append_nil])))
  simp only [decide_eq_true (rfl : (0 : Int) = 0), Bool.not_true]
  repeat (refine wkB ?_; try intro _)
  refine j_loop (S := Nat) (fun m => m ≤ us.length) (fun m => [(0, .slice p us.length cp), (4, .int .i64 (m : Nat))]) (fun _ => []) (fun m => us.length - m) 0 (Nat.zero_le _) sbB slB (fun m hm => ?_)
  repeat (refine wkB ?_; try intro _)
  refine j_cond rfl (fun hc => ?_) (fun hc => ?_)
  · have hlt : m < us.length := by have := of_decide_eq_true hc; omega
    have hne : us ≠ [] := fun h0 => by rw [h0] at hlt; simp at hlt
    obtain ⟨b1, o1, c1', hv1, hc1, hr1⟩ := hv.blk (k := 35) hne []
    injection hv1 with e1 e2 e3
    subst e1
    subst e3
    have hr1' : ∀ L, RowC w L b1 o1 PU rP us := fun L => ⟨fun w' hw' => hr1.out w' (hw'.sub (List.nil_sublist _))⟩
    have hu := (h.k _ (gi_mem (i := (m : Int)) (xs := us) (by omega))).i
    have q1 : decide ((gi us (m : Int)).In.From.R = 0) = true := decide_eq_true hu.r1
    have q2 : decide ((gi us (m : Int)).In.To.R = 0) = true := decide_eq_true hu.r2
    repeat (refine wkB ?_; try intro _)
    simp only [q1, q2, Bool.not_true]
    repeat (refine wkB ?_; try intro _)
    exact jx_loop (m + 1) hlt sbB slB (by omega)
  · repeat (refine wkB ?_; try intro _)
    exact jx_ret_tmp rfl rfl (fun w hw => ret_ok hw)
instance sm_rcheck (w0 : World) (L : List Blk) (v : Value) (us : List PU) [h : LstC w0 L v PU rP us] : SpecM Tryz.prog w0 L 27 [v] (.int .i64 0) (PFine us) := ⟨fun hp w hw => rcheck_spec v us w (h.out w hw) hp⟩
end Go.Vt
/- The moving point of a car without a part, walked. Conditions: those that each statement names. -/
set_option linter.unusedSimpArgs false
set_option linter.unusedVariables false
set_option maxHeartbeats 2000000
set_option maxRecDepth 100000
namespace Go.Vt
open Go.RowKit Go.Proofs
/-- Two small numbers. -/
abbrev e2C (a b : Int) : Array Value := row (eI .u8) [a, b] []
instance (priority := high) ys_e2C {w0 : World} {n : Nat} {L : List Blk} {E : Env} {T T0 : TypeId} {x : Operand} {b : Nat} {i a1 a2 : Int} [IsC (evl E x) (.pointer (some ⟨b, 0 + i.toNat * 1, none⟩))] [h : AtC w0 L b (row (eI .u8) [a1, a2] []) T0] [hv : LdC Tryz.prog T (eI .u8 (gi [a1, a2] i)) 0 (.int .u8 (gi [a1, a2] i))] : YsC Tryz.prog w0 n L E (.load T x) (.int .u8 (gi [a1, a2] i)) (0 ≤ i ∧ i < 2) := ⟨fun hi => ys_row0.out (by show i.toNat < 2; omega)⟩
/-- A car that came in. -/
structure CarIn (w : World) (c : viatorlaw15_Car) (ss : List Stp15) : Prop where
  t : (0 ≤ c.Time ∧ c.Time ≤ 255) ∧ (0 ≤ c.X ∧ c.X ≤ 255) ∧ (0 ≤ c.Y ∧ c.Y ≤ 255)
  v : ArgS w (.slice c.Steps.a c.Steps.len c.Steps.cap) e_viatorlaw15_Step ss
  l : c.Steps.len = ss.length
  s : ∀ s ∈ ss, StOk s
theorem CarIn.ok {w : World} {c : viatorlaw15_Car} {ss : List Stp15} (h : CarIn w c ss) (h6 : ss.length ≤ 6) : CarOk c ss := ⟨⟨h.t.1.1, h.t.2.1.1, h.t.2.2.1⟩, h.s, h6⟩
class CarC (w0 : World) (c : viatorlaw15_Car) (ss : outParam (List Stp15)) : Prop where
  out : CarIn w0 c ss
instance sr_trajec (w0 : World) (L : List Blk) (c : viatorlaw15_Car) (ss : List Stp15) [h : CarC w0 c ss] : SpecR Tryz.prog w0 L 80 [.agg (e_viatorlaw15_Car c)] (SlS rP 36 (carL c ss)) (fun s => vSl s) (fun s => mS 68 s) (ss.length ≤ 6) := ⟨fun h6 w hw => trajec_spec c ss w h.out.t (h.out.v.to hw.ext) h.out.l h6 h.out.s⟩
instance sp_short (c : viatorlaw15_Car) : SpecC Tryz.prog 32 [.agg (e_viatorlaw15_Car c)] (.bool (decide ((c.Steps.len : Int) ≤ 6))) True := ⟨fun _ w => by
  refine fn_intro Tryz.func32 rfl Tryz.ntmps32 rfl ?_
  repeat (refine wkB ?_; try intro _)
  exact jx_ret_tmp rfl rfl (fun w hw => ret_ok hw)⟩
/-- The moving point. -/
def mvL (c : viatorlaw15_Car) (ss : List Stp15) (a1 a2 : Int) : List PU := if a1 % 3 = 0 then carL c ss else movL (carL c ss) (Rat.divInt a1 4) (Rat.divInt (a1 + a2) 4)
theorem quarter_M {n : Int} (h : 0 ≤ n ∧ n ≤ 510) : M (Rat.divInt n 4) ≤ 68 := M_divInt (Nat.le_trans (mg_small (k := 2) (by omega)) (by decide)) (by decide) (by decide)
theorem MovOk.s1 {l : List PU} {a b : Rat} (hm : MovOk l a b) : SwOk (pIv l) [] := ⟨hm.l2, hm.b3, fun i hi => (by cases hi)⟩
theorem MovOk.s2 {l : List PU} {a b : Rat} (hm : MovOk l a b) : SwOk (pDom l) (closL a b) := ⟨hm.l1, hm.b1, hm.b2⟩
theorem MovOk.s3 {l : List PU} {a b : Rat} (hm : MovOk l a b) : ResOk l (swpR kpM (pDom l) (closL a b)) := hm.r
theorem pq {a b : Rat} (m1 : M a ≤ 68) (m2 : M b ≤ 68) : M a ≤ LQ ∧ M b ≤ LQ := ⟨Nat.le_trans m1 (by decide), Nat.le_trans m2 (by decide)⟩
set_option maxHeartbeats 2000000 in
theorem moving_spec (c : viatorlaw15_Car) (ss : List Stp15) (a1 a2 : Int) (w : World) (g1 : 0 ≤ a1 ∧ a1 ≤ 255) (g2 : 0 ≤ a2 ∧ a2 ≤ 255) (hc : CarIn w c ss) (h6 : ss.length ≤ 6) :
    Calls Tryz.prog 33 [.agg (e_viatorlaw15_Car c), .agg (e2C a1 a2)].toArray w (RetM (SlS rP 36 (mvL c ss a1 a2)) (fun s => vSl s) (fun s => mS 68 s) w) := by
  have : CarC w c ss := ⟨hc⟩
  have hm := mov_law (hc.ok h6) (quarter_M (n := a1) (by omega)) (quarter_M (n := a1 + a2) (by omega))
  refine fn_intro Tryz.func33 rfl Tryz.ntmps33 rfl ?_
  have q0 : gi [a1, a2] 0 = a1 := rfl
  have q1 : gi [a1, a2] 1 = a2 := rfl
  repeat (first | (refine wkB ?_; try intro _) | (refine sC rfl rfl ?_ ?_; focus (exact h6)) | (refine sN rfl rfl ?_ ?_; (focus (exact h6)); intro _; (try simp only [List.cons_append, List.nil_append, List.append_nil])))
  simp only [q0]
  repeat (refine wkB ?_; try intro _)
  rename_i b2 b3 s
  by_cases h3 : a1 % 3 = 0
  · simp only [decide_eq_true h3]
    repeat (refine wkB ?_; try intro _)
    obtain ⟨s', e1, e2⟩ := SlS.turn 68 (show carL c ss = mvL c ss a1 a2 from (if_pos h3).symm) s
    simp only [← e1, ← e2]
    exact jx_ret_tmp rfl rfl (fun w hw => ⟨s', rfl, hw.sub suB⟩)
  · simp only [decide_eq_false h3]
    have m1 := quarter_M (n := a1) (by omega)
    have m2 := quarter_M (n := a1 + a2) (by omega)
    repeat (first | (refine wkB ?_; try intro _) | (refine sC rfl rfl ?_ ?_; focus (exact ⟨by omega, by omega⟩)) | (refine sN rfl rfl ?_ ?_; (focus (exact ⟨by omega, by omega⟩)); intro _; (try simp only [List.cons_append, List.nil_append, List.append_nil])))
    simp only [q0]
    repeat (first | (refine wkB ?_; try intro _) | (refine sC rfl rfl ?_ ?_; focus (exact ⟨by omega, by omega⟩)) | (refine sN rfl rfl ?_ ?_; (focus (exact ⟨by omega, by omega⟩)); intro _; (try simp only [List.cons_append, List.nil_append, List.append_nil])))
    simp only [q0, q1]
    repeat (first | (refine wkB ?_; try intro _) | (refine sC rfl rfl ?_ ?_; focus (exact ⟨by omega, by omega⟩)) | (refine sN rfl rfl ?_ ?_; (focus (exact ⟨by omega, by omega⟩)); intro _; (try simp only [List.cons_append, List.nil_append, List.append_nil])))
    rename_i b6 b8
    (refine j_tree (.v [0, 1, 3, 4] (.e1 2 (.e1 5 (.e1 6 (.e1 7 (.e1 8 (.fin))))))) ([⟨b8, e_api_Rat (Q (Rat.divInt (a1 + a2) 4)), 28⟩, ⟨b6, e_api_Rat (Q (Rat.divInt a1 4)), 28⟩]) (h := ?_); refine wkX ?_)
    (repeat (refine wkH ?_))
    repeat (first | (refine wkT ?_; try intro _) | (refine tC rfl rfl ?_ ?_; focus (first | with_reducible exact hm.s1 | with_reducible exact hm.s2 | with_reducible exact hm.s3 | with_reducible exact pq m1 m2)) | (refine uC rfl rfl ?_ ?_; focus (first | with_reducible exact hm.s1 | with_reducible exact hm.s2 | with_reducible exact hm.s3 | with_reducible exact pq m1 m2)) | (refine eN rfl rfl ?_ ?_; (focus (first | with_reducible exact hm.s1 | with_reducible exact hm.s2 | with_reducible exact hm.s3 | with_reducible exact pq m1 m2)); intro _; (try simp only [List.cons_append, List.nil_append, List.append_nil])))
    repeat (refine wkB ?_; try intro _)
    rename_i s5 s6 s7 s8
    have hml : mpN ofU (nrmR (mRes (carL c ss) (swpR kpM (pDom (carL c ss)) (closL (Rat.divInt a1 4) (Rat.divInt (a1 + a2) 4))))) (nrmR (mRes (carL c ss) (swpR kpM (pDom (carL c ss)) (closL (Rat.divInt a1 4) (Rat.divInt (a1 + a2) 4))))).length = mvL c ss a1 a2 := (if_neg h3).symm
    obtain ⟨s', e1, e2⟩ := SlS.turn 68 hml s8
    simp only [← e1, ← e2]
    clear hml e1 e2
    exact jx_ret_tmp rfl rfl (fun w hw => ⟨s', rfl, hw.sub suB⟩)
instance sr_moving (w0 : World) (L : List Blk) (c : viatorlaw15_Car) (ss : List Stp15) (a1 a2 : Int) [h : CarC w0 c ss] : SpecR Tryz.prog w0 L 33 [.agg (e_viatorlaw15_Car c), .agg (e2C a1 a2)] (SlS rP 36 (mvL c ss a1 a2)) (fun s => vSl s) (fun s => mS 68 s) ((0 ≤ a1 ∧ a1 ≤ 255) ∧ (0 ≤ a2 ∧ a2 ≤ 255) ∧ ss.length ≤ 6) := ⟨fun hp w hw => moving_spec c ss a1 a2 w hp.1 hp.2.1 ⟨h.out.t, h.out.v.to hw.ext, h.out.l, h.out.s⟩ hp.2.2⟩
/-- What is known of it. -/
theorem mvL_good {c : viatorlaw15_Car} {ss : List Stp15} {a1 a2 : Int} (h : CarOk c ss) (g1 : 0 ≤ a1 ∧ a1 ≤ 255) (g2 : 0 ≤ a2 ∧ a2 ≤ 255) : PGood 276 12 (mvL c ss a1 a2) := by
  unfold mvL
  split
  · obtain ⟨⟨h1, h2, h3⟩, -⟩ := carL_good h
    exact ⟨h1, fun u hu => (h2 u hu).mono (by decide), by omega⟩
  · exact (mov_law h (quarter_M (n := a1) (by omega)) (quarter_M (n := a1 + a2) (by omega))).g
end Go.Vt
/- What the rows over cars share: the reading of a car and of two small numbers. Conditions: none. -/
set_option linter.unusedSimpArgs false
set_option linter.unusedVariables false
set_option maxHeartbeats 2000000
namespace Go.Proofs.YtgcjapcminakdaaGreatDoor
open Go.ChangeShapes Go.WideShapes Go.ChangeAt Go.RowKit Go.Deep Go.Vt
set_option maxRecDepth 100000
theorem bunder58 : Tryz.prog.underlying 58 = some (.array 2 5) := by kernel_rfl
theorem runder76 : Tryz.prog.underlying 76 = some (.slice 174) := by kernel_rfl
theorem rcells174 : Tryz.prog.cellsOf 174 = 4 := by kernel_rfl
theorem rcells76 : Tryz.prog.cellsOf 76 = 1 := by kernel_rfl
theorem runder174 : ∃ f0 f1 f2 f3, Tryz.prog.underlying 174 = some (.struct #[f0, f1, f2, f3]) ∧ f0.type = 5 ∧ f1.type = 5 ∧ f2.type = 5 ∧ f3.type = 5 ∧ f0.offset = 0 ∧ f1.offset = 1 ∧ f2.offset = 2 ∧ f3.offset = 3 := ⟨_, _, _, _, Tryz.underlying174, rfl, rfl, rfl, rfl, rfl, rfl, rfl, rfl⟩
theorem runder78 : ∃ f0 f1 f2 f3, Tryz.prog.underlying 78 = some (.struct #[f0, f1, f2, f3]) ∧ f0.type = 5 ∧ f1.type = 5 ∧ f2.type = 5 ∧ f3.type = 76 ∧ f0.offset = 0 ∧ f1.offset = 1 ∧ f2.offset = 2 ∧ f3.offset = 3 := ⟨_, _, _, _, Tryz.underlying78, rfl, rfl, rfl, rfl, rfl, rfl, rfl, rfl⟩
theorem trod_pair {H : Type} {enc : TypeId × Value → H} {P : Program} {W : World} {base fuel : Nat} {sp : Nat → Bool} {held : Bool} {t e : TypeId} {a b : Value} {x : DataW H × List MemPlace} (ht : P.underlying t = some (.array 2 e)) (hc : P.cellsOf e = 1) (h : DataW.trod enc P W base sp held fuel t [a, b] = some x) :
    ∃ y z k, DataW.trod enc P W base sp held k e [a] = some y ∧ DataW.trod enc P W base sp held k e [b] = some z := by
  match fuel with
  | 0 => simp [DataW.trod] at h
  | k + 1 =>
    unfold DataW.trod at h
    rw [ht] at h
    simp [show List.range 2 = [0, 1] from rfl, hc] at h
    obtain ⟨-, h⟩ := h
    rcases ha : DataW.trod enc P W base sp held k e [a] with _ | y
    · simp [ha] at h
    · rcases hb : DataW.trod enc P W base sp held k e [b] with _ | z
      · simp [ha, hb] at h
      · exact ⟨y, z, k, ha, hb⟩
theorem open_two {H : Type} {enc : TypeId × Value → H} {W : World} {base b0 : Nat} {r : Reach} {held : Bool} {v : Value} {d : DataW H} {p : List MemPlace} (hv : Value.okWide Tryz.prog W r b0 58 v) (h : DataW.Trod enc Tryz.prog W base (fun _ => true) held 58 v d p) :
    ∃ a1 a2 : Int, v = .agg (Go.Vt.e2C a1 a2) ∧ (0 ≤ a1 ∧ a1 ≤ 255) ∧ (0 ≤ a2 ∧ a2 ≤ 255) := by
  simp only [Value.okWide, bunder58] at hv
  obtain ⟨cs, rfl, hs, _⟩ := hv
  have h3 : cs.size = 2 := by rw [hs]; kernel_rfl
  obtain ⟨fuel, hf⟩ := h
  match cs, h3 with
  | ⟨[c0, c1]⟩, _ =>
    simp only [Value.cells] at hf
    obtain ⟨y0, y1, n, g0, g1⟩ := trod_pair bunder58 (by kernel_rfl) hf
    obtain ⟨n0, p0, _, q0⟩ := DataW.trod_int Tryz.underlying5 g0
    obtain ⟨n1, p1, _, q1⟩ := DataW.trod_int Tryz.underlying5 g1
    simp only [List.cons.injEq, and_true] at p0 p1
    subst p0; subst p1
    exact ⟨n0, n1, rfl, u8_wf q0, u8_wf q1⟩
/-- The steps of a car that reads. -/
theorem open_steps {H : Type} {enc : TypeId × Value → H} {W : World} {base : Nat} {held : Bool} {fuel : Nat} {v : Value} {x : DataW H × List MemPlace} (h : DataW.trod enc Tryz.prog W base (fun _ => true) held fuel 76 [v] = some x) :
    ∃ (a0 : Option Addr) (l0 c0 : Nat) (ws : List Stp15), v = .slice a0 l0 c0 ∧ ArgS W (.slice a0 l0 c0) e_viatorlaw15_Step ws ∧ (∀ s ∈ ws, StOk s) ∧ l0 = ws.length := by
  rcases open_slice runder76 h with ⟨h0, _⟩ | ⟨a, len, cap, m, n, D, Pl, hcs, hb, hl, hm, hmm, hx, hc⟩
  · simp at h0
    subst h0
    exact ⟨none, 0, 0, [], rfl, ⟨.inl ⟨rfl, rfl⟩⟩, (fun s hs => by cases hs), rfl⟩
  · simp at hcs
    subst hcs
    obtain ⟨f0, f1, f2, f3, he, t0, t1, t2, t3, o0, o1, o2, o3⟩ := runder174
    have each : ∀ i, i < m → ∃ q : Int × Int × Int × Int, W.cell? (a.add (i * 4)) = some (.int .u8 q.1) ∧ W.cell? (a.add (i * 4 + 1)) = some (.int .u8 q.2.1) ∧ W.cell? (a.add (i * 4 + 2)) = some (.int .u8 q.2.2.1) ∧ W.cell? (a.add (i * 4 + 3)) = some (.int .u8 q.2.2.2) ∧ (0 ≤ q.1 ∧ q.1 ≤ 255) ∧ (0 ≤ q.2.1 ∧ q.2.1 ≤ 255) ∧ (0 ≤ q.2.2.1 ∧ q.2.2.1 ≤ 255) ∧ (0 ≤ q.2.2.2 ∧ q.2.2.2 ≤ 255) := by
      intro i hi
      obtain ⟨cs', h1, h2⟩ := hc i hi
      rw [rcells174] at h1
      obtain ⟨_, hlen, hcell⟩ := World.cells?_some h1
      obtain ⟨xs, k, hk, hxy, _, hxl, hf⟩ := DataW.trod_struct he h2
      match xs, hxl, cs', hlen with
      | [y0, y1, y2, y3], _, [v0, v1, v2, v3], _ =>
        have g0 := hf 0 f0 rfl
        have g1 := hf 1 f1 rfl
        have g2 := hf 2 f2 rfl
        have g3 := hf 3 f3 rfl
        simp [o0, o1, o2, o3, t0, t1, t2, t3, rcells5] at g0 g1 g2 g3
        have e0 := hcell 0 (by omega)
        have e1 := hcell 1 (by omega)
        have e2 := hcell 2 (by omega)
        have e3 := hcell 3 (by omega)
        rw [add_add] at e0 e1 e2 e3
        obtain ⟨n0, p0, _, q0⟩ := DataW.trod_int runder5 g0
        obtain ⟨n1, p1, _, q1⟩ := DataW.trod_int runder5 g1
        obtain ⟨n2, p2, _, q2⟩ := DataW.trod_int runder5 g2
        obtain ⟨n3, p3, _, q3⟩ := DataW.trod_int runder5 g3
        simp only [List.cons.injEq, and_true] at p0 p1 p2 p3
        subst p0; subst p1; subst p2; subst p3
        exact ⟨(n0, n1, n2, n3), by simpa using e0, by simpa using e1, by simpa using e2, by simpa using e3, u8_wf q0, u8_wf q1, u8_wf q2, u8_wf q3⟩
    obtain ⟨q, hq⟩ := choose_lt each
    have hlm : len ≤ m := by rw [hmm]; simpa using hl
    refine ⟨some a, len, cap, (List.range len).map fun i => ⟨(q i).1, (q i).2.1, (q i).2.2.1, (q i).2.2.2⟩, rfl, ⟨.inr ⟨a, cap, by simp, by simpa using hl, fun i f k u hi hk hu => ?_⟩⟩, fun s hs => ?_, ?_⟩
    · simp only [List.length_map, List.length_range] at hi
      obtain rfl : k = 4 := by rw [← hk default]; rfl
      have hqi := hq i (by omega)
      simp only [List.getElem_map, List.getElem_range, e_viatorlaw15_Step] at hu
      match f, hu with
      | 0, hu => simp at hu; subst hu; exact hqi.1
      | 1, hu => simp at hu; subst hu; exact hqi.2.1
      | 2, hu => simp at hu; subst hu; exact hqi.2.2.1
      | 3, hu => simp at hu; subst hu; exact hqi.2.2.2.1
      | f + 4, hu => simp at hu
    · obtain ⟨i, hi, rfl⟩ := List.mem_map.1 hs
      have hqi := (hq i (by have := List.mem_range.1 hi; omega)).2.2.2.2
      exact ⟨hqi.1, hqi.2.1, hqi.2.2.1, hqi.2.2.2⟩
    · simp
/-- A car that reads. -/
theorem open_car {H : Type} {enc : TypeId × Value → H} {W : World} {base b0 : Nat} {r : Reach} {held : Bool} {v : Value} {d : DataW H} {p : List MemPlace} (hv : Value.okWide Tryz.prog W r b0 78 v) (h : DataW.Trod enc Tryz.prog W base (fun _ => true) held 78 v d p) :
    ∃ (c : viatorlaw15_Car) (ss : List Stp15), v = .agg (e_viatorlaw15_Car c) ∧ CarIn W c ss := by
  obtain ⟨f0, f1, f2, f3, he, t0, t1, t2, t3, o0, o1, o2, o3⟩ := runder78
  simp only [Value.okWide, he] at hv
  obtain ⟨cs, rfl, hs, _⟩ := hv
  have h3 : cs.size = 4 := by rw [hs]; kernel_rfl
  obtain ⟨fuel, hf⟩ := h
  obtain ⟨xs, k, hk, hxy, _, hxl, hg⟩ := DataW.trod_struct he hf
  match cs, h3, xs, hxl with
  | ⟨[c0, c1, c2, c3]⟩, _, [y0, y1, y2, y3], _ =>
    have g0 := hg 0 f0 rfl
    have g1 := hg 1 f1 rfl
    have g2 := hg 2 f2 rfl
    have g3 := hg 3 f3 rfl
    simp [Value.cells, o0, o1, o2, o3, t0, t1, t2, t3, rcells5, rcells76] at g0 g1 g2 g3
    obtain ⟨n0, p0, _, q0⟩ := DataW.trod_int runder5 g0
    obtain ⟨n1, p1, _, q1⟩ := DataW.trod_int runder5 g1
    obtain ⟨n2, p2, _, q2⟩ := DataW.trod_int runder5 g2
    simp only [List.cons.injEq, and_true] at p0 p1 p2
    subst p0; subst p1; subst p2
    obtain ⟨a0, l0, c0, ws, rfl, w1, w2, w3⟩ := open_steps g3
    exact ⟨⟨n0, n1, n2, ⟨a0, l0, c0⟩⟩, ws, rfl, ⟨u8_wf q0, u8_wf q1, u8_wf q2⟩, w1, w3, w2⟩
end Go.Proofs.YtgcjapcminakdaaGreatDoor
/- The reference's samples and turns, walked. Conditions: those that each statement names. -/
set_option linter.unusedSimpArgs false
set_option linter.unusedVariables false
set_option maxHeartbeats 2000000
set_option maxRecDepth 100000
namespace Go.Vt
open Go.RowKit Go.Proofs
/-- A line and an instant are short. -/
structure SmOk (f : R_api_Line) (t : R_api_Real) : Prop where
  t : M t.P ≤ 8589934592
  f : LnOk BQ f
theorem SmOk.four {f : R_api_Line} {t : R_api_Real} (h : SmOk f t) : (M f.X0 ≤ 34359738368 ∧ M f.X1 ≤ 34359738368 ∧ M 0 ≤ 34359738368 ∧ M t.P ≤ 34359738368) ∧ M f.Y0 ≤ 34359738368 ∧ M f.Y1 ≤ 34359738368 ∧ M 0 ≤ 34359738368 ∧ M t.P ≤ 34359738368 := ⟨⟨Nat.le_trans h.f.x0 (by decide), Nat.le_trans h.f.x1 (by decide), Nat.le_trans mb_zero.out (by decide), Nat.le_trans h.t (by decide)⟩, Nat.le_trans h.f.y0 (by decide), Nat.le_trans h.f.y1 (by decide), Nat.le_trans mb_zero.out (by decide), Nat.le_trans h.t (by decide)⟩
instance sp_smp31 (f : R_api_Line) (t : R_api_Real) : SpecC Tryz.prog 85 [vLn f, vR t] (vS (smq f t)) (SmOk f t) := ⟨fun hp w => by
  obtain ⟨q1, q2⟩ := hp.four
  refine fn_intro Tryz.func85 rfl Tryz.ntmps85 rfl ?_
  repeat (refine wkB ?_; try intro _)
  (refine j_drawL [0, 1, 2, 3, 4, 5, 6, 7, 8, 9] [10, 11] [12, 13] (_) (h := ?_); refine wkI ?_)
  (repeat (refine wkH ?_))
  repeat (refine wkT ?_; try intro _)
  repeat (refine wkB ?_; try intro _)
  (refine jD 12 12 (h := ?_); (repeat (first | refine wkH ?_ | (refine tC rfl rfl ?_ ?_; focus (first | exact trivial | exact q1 | exact q2)))); refine jh_nil ?_; (repeat (refine wn_new ?_; intro _)); refine jn_nil ?_)
  repeat (refine wkB ?_; try intro _)
  exact wx_cell rfl rfl (fun w hw => ret_ok hw)⟩
theorem smq_same {a b : PU} (h : a.In.To = b.In.From) : decide (smq a.F a.In.To = smq b.F b.In.From) = smL a.F b.F b.In.From.P := by
  rw [Bool.eq_iff_iff, decide_eq_true_eq, smL_iff, h]
  unfold smq
  simp only [R_movingpoint_Sample.mk.injEq, true_and]
  exact Iff.rfl
instance sp_turn31 (a b : PU) : SpecC Tryz.prog 84 [vPU a, vPU b] (.bool (trn a b)) (UK BQ (toU a) ∧ UK BQ (toU b)) := ⟨fun hp w => by
  obtain ⟨ha, hb⟩ := hp
  have s1 : SmOk a.F a.In.To := ⟨ha.i.m2, ha.f⟩
  have s2 : SmOk b.F b.In.From := ⟨hb.i.m1, hb.f⟩
  refine fn_intro Tryz.func84 rfl Tryz.ntmps84 rfl ?_
  repeat (refine wkB ?_; try intro _)
  have ht : trn a b = (decide (a.In.To = b.In.From) && ((!a.In.OpenTo || !b.In.OpenFrom) && smL a.F b.F b.In.From.P)) := rfl
  by_cases h1 : a.In.To = b.In.From
  · rw [decide_eq_true h1, Bool.true_and] at ht
    rcases h2 : a.In.OpenTo with _ | _
    · simp only [h2, Bool.not_false, Bool.true_or, Bool.true_and] at ht
      (refine j_tree (.v [0, 1, 2, 3, 4, 5, 6, 7, 8, 9, 10, 11, 12, 13, 14, 15, 16, 17, 18, 19, 20, 21, 22, 23, 24, 25, 26, 27, 28, 29, 30, 31, 32, 33] (.e1 34 (.fin))) (_) (h := ?_); refine wkX ?_)
      (repeat (refine wkH ?_))
      simp only [decide_eq_true h1]
      (repeat (refine wkH ?_))
      simp only [h2, Bool.not_false]
      (repeat (first | refine wkH ?_ | (refine tC rfl rfl ?_ ?_; focus (first | exact s1 | exact s2))))
      repeat (refine wkT ?_; try intro _)
      rw [smq_same h1, ← ht]
      repeat (refine wkB ?_; try intro _)
      exact jx_ret_tmp rfl rfl (fun w hw => ret_ok hw)
    · rcases h3 : b.In.OpenFrom with _ | _
      · simp only [h2, h3, Bool.not_false, Bool.not_true, Bool.or_true, Bool.true_and] at ht
        (refine j_tree (.v [0, 1, 2, 3, 4, 5, 6, 7, 8, 9, 10, 11, 12, 13, 14, 15, 16, 17, 18, 19, 20, 21, 22, 23, 24, 25, 26, 27, 28, 29, 30, 31, 32, 33] (.e1 34 (.fin))) (_) (h := ?_); refine wkX ?_)
        (repeat (refine wkH ?_))
        simp only [decide_eq_true h1]
        (repeat (refine wkH ?_))
        simp only [h2, Bool.not_true]
        (repeat (refine wkH ?_))
        simp only [h3, Bool.not_false]
        (repeat (first | refine wkH ?_ | (refine tC rfl rfl ?_ ?_; focus (first | exact s1 | exact s2))))
        repeat (refine wkT ?_; try intro _)
        rw [smq_same h1, ← ht]
        repeat (refine wkB ?_; try intro _)
        exact jx_ret_tmp rfl rfl (fun w hw => ret_ok hw)
      · simp only [h2, h3, Bool.not_true, Bool.or_false, Bool.false_and] at ht
        (refine j_tree (.v [0, 1, 2, 3, 4, 5, 6, 7, 8, 9, 10, 11, 12, 13, 14, 15, 16, 17, 18, 19, 20, 21, 22, 23, 24, 25, 26, 27, 28, 29, 30, 31, 32, 33] (.e1 34 (.fin))) (_) (h := ?_); refine wkX ?_)
        (repeat (refine wkH ?_))
        simp only [decide_eq_true h1]
        (repeat (refine wkH ?_))
        simp only [h2, Bool.not_true]
        (repeat (refine wkH ?_))
        simp only [h3, Bool.not_true]
        (repeat (refine wkH ?_))
        repeat (refine wkT ?_; try intro _)
        repeat (refine wkB ?_; try intro _)
        rw [ht]
        exact jx_ret_tmp rfl rfl (fun w hw => ret_ok hw)
  · rw [decide_eq_false h1, Bool.false_and] at ht
    (refine j_tree (.v [0, 1, 2, 3, 4, 5, 6, 7, 8, 9, 10, 11, 12, 13, 14, 15, 16, 17, 18, 19, 20, 21, 22, 23, 24, 25, 26, 27, 28, 29, 30, 31, 32, 33] (.e1 34 (.fin))) (_) (h := ?_); refine wkX ?_)
    (repeat (refine wkH ?_))
    simp only [decide_eq_false h1]
    (repeat (refine wkH ?_))
    repeat (refine wkT ?_; try intro _)
    repeat (refine wkB ?_; try intro _)
    rw [ht]
    exact jx_ret_tmp rfl rfl (fun w hw => ret_ok hw)⟩
end Go.Vt
/- The end of a run, walked. Conditions: those that each statement names. -/
set_option linter.unusedSimpArgs false
set_option linter.unusedVariables false
set_option maxHeartbeats 2000000
set_option maxRecDepth 100000
namespace Go.Vt
open Go.RowKit Go.Proofs
/-- The header of a slice of the call's own. -/
def hS {α : Type} {enc : α → Array Value} {k : Nat} {xs : List α} (s : SlS enc k xs) : Sl := match s.s with
  | none => ⟨none, 0, 0⟩
  | some t => ⟨some ⟨t.1, 0, none⟩, xs.length, t.2.1⟩
theorem hS_v {α : Type} {enc : α → Array Value} {k : Nat} {xs : List α} (s : SlS enc k xs) : Value.slice (hS s).a (hS s).len (hS s).cap = vSl s := by
  obtain ⟨s, h1, h2⟩ := s
  cases s <;> rfl
abbrev cRn (I : R_api_Interval) (h : Sl) : Array Value := e_simplify_Run (q_simplify_Run ⟨I, h⟩)
section
variable {α : Type} {enc : α → Array Value} {k : Nat} {xs : List α}
instance (priority := 30000) ld_hS (I : R_api_Interval) (s : SlS enc k xs) : LdC Tryz.prog 33 (e_simplify_Run (q_simplify_Run ⟨I, hS s⟩)) 20 (vSl s) := hS_v s ▸ rl_35_33_20 ⟨I, hS s⟩
instance (priority := 30000) st_hS (I : R_api_Interval) (h : Sl) (s : SlS enc k xs) : StC Tryz.prog 33 (e_simplify_Run (q_simplify_Run ⟨I, h⟩)) 20 (vSl s) (e_simplify_Run (q_simplify_Run ⟨I, hS s⟩)) := hS_v s ▸ st_35_1 ⟨I, h⟩ (hS s).a (hS s).len (hS s).cap
end
/-- The runs that have ended, and the run that ends now. -/
def endL {P : List SS} (hds : List R_simplify_Run) (I : R_api_Interval) (s : SlS rS 12 P) : List R_simplify_Run := if P = [] then hds else hds ++ [⟨I, hS s⟩]
theorem end_spec (w0 w : World) (L2 : List Blk) (b8 b9 : Nat) (hds : List R_simplify_Run) (o : SlS rR 21 hds) (I : R_api_Interval) (P : List SS) (s : SlS rS 12 P) (hl : hds.length ≤ 1048576) (hP : P.length ≤ 1048576) (hw : Own w0 (mS 35 o ++ ⟨b9, cRn I (hS s), 35⟩ :: ⟨b8, #[vSl o], 62⟩ :: L2) w) :
    Calls Tryz.prog 76 [.pointer (some ⟨b9, 0, none⟩), .pointer (some ⟨b8, 0, none⟩)].toArray w (RetX w0 (SlS rR 21 (endL hds I s)) (fun _ => .tuple #[]) (fun o' => mS 35 o' ++ ⟨b9, cRn zR_api_Interval ⟨none, 0, 0⟩, 35⟩ :: ⟨b8, #[vSl o'], 62⟩ :: L2)) := by
  refine fn_introL Tryz.func76 rfl Tryz.ntmps76 rfl hw ?_
  repeat (refine wkB ?_; try intro _)
  by_cases h0 : P = []
  · have e : hds = endL hds I s := (if_pos h0).symm
    refine j_cond rfl (fun h => ?_) (fun h => ?_)
    · have := of_decide_eq_true h
      rw [h0] at this
      simp at this
    · refine j_skip ?_
      refine jx_then ?_
      repeat (refine wkB ?_; try intro _)
      obtain ⟨o', e1, e2⟩ := SlS.turn 35 e o
      simp only [← e1, ← e2]
      exact jx_end0 rfl (fun w hw => ⟨o', rfl, hw⟩)
  · have hp : 0 < P.length := List.length_pos_iff.2 h0
    have e : hds ++ [⟨I, hS s⟩] = endL hds I s := (if_neg h0).symm
    refine j_cond rfl (fun h => ?_) (fun h => ?_)
    · repeat (refine wkB ?_; try intro _)
      refine sU rfl rfl ?_ ?_ ?_ ?_
      · rfl
      · rfl
      · exact ⟨by decide, by omega, by omega⟩
      intro o1
      repeat (refine wkB ?_; try intro _)
      obtain ⟨o', e1, e2⟩ := SlS.turn 35 e o1
      simp only [← e1, ← e2]
      exact jx_end0 rfl (fun w hw => ⟨o', rfl, hw.sub suB⟩)
    · have := of_decide_eq_false h
      omega
instance sx_end (w0 : World) (L L1 L2 L3 : List Blk) (b8 b9 : Nat) {hds : List R_simplify_Run} (o : SlS rR 21 hds) (I : R_api_Interval) {P : List SS} (s : SlS rS 12 P) [h1 : DelC b9 L (cRn I (hS s)) 35 L1] [h2 : DelC b8 L1 #[vSl o] 62 L2] [h3 : OwnS 35 o L2 L3] : SpecX Tryz.prog w0 L 76 [.pointer (some ⟨b9, 0, none⟩), .pointer (some ⟨b8, 0, none⟩)] (SlS rR 21 (endL hds I s)) (fun _ => .tuple #[]) (fun o' => mS 35 o' ++ ⟨b9, cRn zR_api_Interval ⟨none, 0, 0⟩, 35⟩ :: ⟨b8, #[vSl o'], 62⟩ :: L3) (hds.length ≤ 1048576 ∧ P.length ≤ 1048576) := ⟨fun hp w hw =>
  end_spec w0 w L3 b8 b9 hds o I P s hp.1 hp.2 (hw.perm (h1.out.trans ((h2.out.cons _).trans ((((h3.out.cons _).cons _)).trans (((List.perm_middle (l₁ := mS 35 o)).symm.cons _).trans (List.perm_middle (l₁ := mS 35 o)).symm)))))⟩
end Go.Vt
/- Runs in memory: the blocks of their points; a part of an element is stored. Conditions: those that each statement names. -/
set_option linter.unusedSimpArgs false
set_option linter.unusedVariables false
set_option maxHeartbeats 2000000
set_option maxRecDepth 100000
namespace Go.Vt
open Go.RowKit Go.Proofs
/-- The blocks of runs that have ended. -/
def dnB (dn : List RD) : List Blk := dn.map fun r => ⟨r.b, row rS r.pts r.sp, 47⟩
/-- The runs that the program returns. -/
theorem hS_eq {α : Type} {enc : α → Array Value} {k : Nat} {xs : List α} {s : SlS enc k xs} {a : Option Addr} {l c : Nat} (h : vSl s = .slice a l c) : hS s = ⟨a, l, c⟩ := by
  rw [← hS_v] at h
  cases hq : hS s with
  | mk a' l' c' =>
    rw [hq] at h
    injection h with h1 h2 h3
    simp only at h1 h2 h3
    subst h1
    subst h2
    subst h3
    rfl
structure RunsO (ps : List (R_api_Interval × List SS)) where
  dn : List RD
  o : SlS rR 21 (dn.map RD.hd)
  e : dn.map (fun r => (r.I, r.pts)) = ps
def RunsO.mem {ps : List (R_api_Interval × List SS)} (r : RunsO ps) : List Blk := mS 35 r.o ++ dnB r.dn
theorem Own.rebase {w w1 w2 : World} {L : List Blk} (h : Own w1 L w2) (hb : Below w.heap.size w w1) : Own w L w2 := ⟨⟨hb.trans (h.ext.bel.mono hb.size), trivial⟩, fun e he => ⟨Nat.le_trans hb.size (h.mem e he).1, (h.mem e he).2⟩, h.nd⟩
instance (priority := low) sbpSkip (e : Blk) (A L : List Blk) [h : SbpC A L] : SbpC A (e :: L) := ⟨by
  obtain ⟨L', hp⟩ := h.out
  exact ⟨e :: L', (hp.cons e).trans List.perm_middle.symm⟩⟩
instance (priority := high) sbpSelf (dn : List RD) : SbpC (dnB dn) (dnB dn) := ⟨[], by rw [List.append_nil]⟩
theorem sbp_of {A A' L : List Blk} (p : A.Perm A') [h : SbpC A' L] : SbpC A L := ⟨by
  obtain ⟨L', hp⟩ := h.out
  exact ⟨L', hp.trans (p.symm.append_right _)⟩⟩
/-- The order of the blocks does not matter where a loop goes on. -/
theorem jx_loopP {w0 : World} {n : Nat} {Q : Exit → Act → World → Prop} {E : Env} {L : List Blk} {S : Type} {I : S → Prop} {Es : S → Env} {Ls : S → List Blk} {mu : S → Nat} {s : S} (t : S) (ht : I t) (hE : Sub E (Es t)) (hL : SbpC (Ls t) L) (hmu : mu t < mu s) : JX w0 n .normal (LoopQ w0 n I Es Ls mu s Q) E L := ⟨fun a w ha hw => by
  obtain ⟨L', hp⟩ := hL.out
  exact (jx_loop (L := Ls t) t ht hE (List.Sublist.refl _) hmu).out a w ha ((hw.perm hp).sub (List.sublist_append_left _ _))⟩
section
variable {P : Program} {w0 : World} {n : Nat} {ops : Array Oper} {L L' Lw : List Blk} {E : Env} {K : Env → List Blk → Prop}
variable {rest : List Oper} {ty : TypeId} {pos : String} {aft : Array Edge} {gd : Option (Nat × Bool)} {x y : Operand} {T T0 : TypeId}
variable {α : Type} [Inhabited α] {enc : α → Array Value} {k b f : Nat} {xs : List α} {sp : List Value} {i : Int}
/-- A part of an element is turned, in the tail. -/
theorem eRF {u : Value} {cs1 : Array Value} [hx : IsC (evl E x) (.pointer (some ⟨b, 0 + i.toNat * k + f, none⟩))] [hy : IsC (evl E y) u] [MemC b L (row enc xs sp) T0] [he : EncC enc k] [hs : StC P T (enc (gi xs i)) f u cs1] (z : α) (hz : cs1 = enc z) [hU : UpdC b (row enc (xs.set i.toNat z) sp) L (row enc xs sp) T0 L'] [hw : SblC Lw L']
    (hg : guardB ops E gd = some true) (s : i.toNat < xs.length) (h : JE P w0 n ops Lw K rest E L') : JE P w0 n ops Lw K (⟨none, .store T x y, ty, pos, aft, gd⟩ :: rest) E L := by
  have h1 := he.size (gi xs i)
  have hfit := Nat.le_of_ble_eq_true hs.fit
  have hle := Nat.mul_le_mul_right k (show i.toNat + 1 ≤ xs.length from s)
  rw [Nat.add_mul] at hle
  refine je_store (u := u) u.cells.size isE isE hU.out hs.size rfl (by rw [row_size (k := k)]; exact Nat.ble_eq_true_of_le (by omega)) hs.one ?_ hg hw.out h
  rw [Nat.zero_add]
  refine spl_rowF xs sp i.toNat f z u.cells.toList s (by simp only [Array.length_toList]; omega) ?_
  rw [← gi_eq s, hs.out, hz]
end
theorem set_lastI {α : Type} (ys : List α) (y z : α) : (ys ++ [y]).set (((ys.length + 1 : Nat) : Int) - 1).toNat z = ys ++ [z] := by
  rw [show (((ys.length + 1 : Nat) : Int) - 1).toNat = ys.length by omega, List.set_append_right _ _ (Nat.le_refl _), Nat.sub_self]
  rfl
theorem gi_lastI {α : Type} [Inhabited α] (ys : List α) (y : α) : gi (ys ++ [y]) (((ys.length + 1 : Nat) : Int) - 1) = y := by
  rw [show (((ys.length + 1 : Nat) : Int) - 1) = (ys.length : Int) by omega, gi_snoc]
theorem dnB_snoc (ds : List RD) (r : RD) : dnB (ds ++ [r]) = dnB ds ++ [⟨r.b, row rS r.pts r.sp, 47⟩] := by
  unfold dnB
  rw [List.map_append]
  rfl
theorem dnB_perm (ds : List RD) (r : RD) : (dnB (ds ++ [r])).Perm (⟨r.b, row rS r.pts r.sp, 47⟩ :: dnB ds) := by
  rw [dnB_snoc]
  exact List.perm_append_comm
end Go.Vt
/- Codes within a range over a function, under the program logic: the same rules inside a fence, in a round or none; the call of yield. Conditions: those that each rule names. -/
set_option linter.unusedSimpArgs false
set_option linter.unusedVariables false
set_option maxHeartbeats 2000000
set_option linter.unusedSectionVars false
namespace Go.Vt
open Go.RowKit
/-- The fence around all functions; 'r': the round in which the code stands. -/
def Fr (r : Option Nat) : Fence := { Fence.wide with round := r }
section
variable {P : Program} {w0 : World} {n : Nat} {ops : Array Oper} {L : List Blk} {E : Env} {Q : Exit → Act → World → Prop} {r : Option Nat} {N : Nat}
def noDef (o : Oper) : Bool := match o.op with
  | .defer _ => false
  | _ => true
theorem noDef_ne {o : Oper} (h : noDef o = true) (c : Call) : o.op ≠ .defer c := fun e => by
  unfold noDef at h
  rw [e] at h
  cases h
theorem callsI {f : FuncId} {args : Array Value} {w : World} {R : Ending → World → Prop} (h : Calls P f args w R) : CallsIn (Fr r) N P f args w R := (callsIn_wide (n := N)).2 h
theorem callsO {f : FuncId} {args : Array Value} {w : World} {R : Ending → World → Prop} (h : CallsIn (Fr r) N P f args w R) : Calls P f args w R := (callsIn_wide (n := N)).1 h
/-- No way out lets the program outgrow its memory. -/
def NoOut (Q : Exit → Act → World → Prop) : Prop := ∀ a w, ¬ Q .outgrown a w
theorem upon_in {o : Oper} {a : Act} {K : Act → World → Prop} {res : Result Next} (h : o.upon P a K Q res) : o.uponIn (Fr r) N P a K Q res := by
  cases res with
  | ok x w' =>
    cases x <;> simp only [Oper.upon] at h <;> simp only [Oper.uponIn]
    case value => exact h
    case skip => exact h
    case defer => exact h
    case enter => exact ⟨(fun hd => by cases hd), callsI h⟩
    case row => exact ⟨(fun hd => by cases hd), fun c cs _ => let ⟨v, w', r, s⟩ := h c cs; ⟨v, w', r, stepsIn_wide.2 s⟩⟩
  | halt x w' => cases x <;> simp only [Oper.upon] at h <;> simp only [Oper.uponIn] <;> exact h
theorem wpI_of {o : Oper} {a : Act} {w : World} {K : Act → World → Prop} (hd : noDef o = true) (h : o.wp P a w K Q) : o.wpIn (Fr r) N P a w K Q := by
  refine ⟨fun f _ => trivial, ?_⟩
  rw [Oper.semAt_eq _ _ _ (noDef_ne hd)]
  exact upon_in h
theorem wpListI_of (hQ : NoOut Q) : ∀ (l : List Oper) (a : Act) (w : World), l.all noDef = true → wpList P ops Q l a w → wpListIn (Fr r) N P ops Q l a w
  | [], _, _, _, h => h
  | o :: l, a, w, hd, h => by
    simp only [List.all_cons, Bool.and_eq_true] at hd
    simp only [wpList] at h
    simp only [wpListIn]
    split at h
    · rename_i hw
      rw [if_pos hw]
      rcases h with h | ⟨_, a0, w0, h⟩
      · exact Oper.wpIn_mono (fun a w h => wpListI_of hQ l a w hd.2 h) (wpI_of hd.1 h)
      · exact (hQ _ _ h).elim
    · rename_i hw
      rw [if_neg hw]
      exact ⟨fun f _ => trivial, wpListI_of hQ l _ _ hd.2 h⟩
/-- Lists of operations, codes: from what is known on. -/
structure JOI (r : Option Nat) (N : Nat) (P : Program) (w0 : World) (n : Nat) (ops : Array Oper) (Q : Exit → Act → World → Prop) (l : List Oper) (E : Env) (L : List Blk) : Prop where
  out : ∀ a w, Rep n E a → Own w0 L w → wpListIn (Fr r) N P ops Q l a w
structure JI (r : Option Nat) (N : Nat) (P : Program) (w0 : World) (n : Nat) (c : Code) (Q : Exit → Act → World → Prop) (E : Env) (L : List Blk) : Prop where
  out : ∀ a w, Rep n E a → Own w0 L w → c.wpIn (Fr r) N P Q a w
theorem joi_of {l : List Oper} (hQ : NoOut Q) (hd : l.all noDef = true) (h : JO P w0 n ops Q l E L) : JOI r N P w0 n ops Q l E L := ⟨fun a w ha hw => wpListI_of hQ l a w hd (h.out a w ha hw)⟩
def ThenI (r : Option Nat) (N : Nat) (P : Program) (c : Code) (Q : Exit → Act → World → Prop) : Exit → Act → World → Prop := Exit.then (c.wpIn (Fr r) N P Q) Q
theorem ji_region {l : List Oper} {id : Nat} (h : JOI r N P w0 n l.toArray Q l E L) : JI r N P w0 n (.region id l.toArray false) Q E L := ⟨fun a w ha hw => wpIn_region_lit (h.out a w ha hw)⟩
theorem ji_seq {x y : Code} (h : JI r N P w0 n x (ThenI r N P y Q) E L) : JI r N P w0 n (.seq x y) Q E L := ⟨fun a w ha hw => wpIn_seq (h.out a w ha hw)⟩
theorem ji_skip (h : JX w0 n .normal Q E L) : JI r N P w0 n .skip Q E L := ⟨fun a w ha hw => wpIn_skip (h.out a w ha hw)⟩
theorem ji_ret (h : JX w0 n .ret Q E L) : JI r N P w0 n .ret Q E L := ⟨fun a w ha hw => wpIn_ret (h.out a w ha hw)⟩
theorem ji_exit {id : Nat} (h : JX w0 n (.exit id) Q E L) : JI r N P w0 n (.exit id) Q E L := ⟨fun a w ha hw => wpIn_exit (h.out a w ha hw)⟩
theorem ji_block {id : Nat} {c : Code} (h : JI r N P w0 n c (Exit.inBlock id Q) E L) : JI r N P w0 n (.block id c) Q E L := ⟨fun a w ha hw => wpIn_block (h.out a w ha hw)⟩
theorem ji_cond {c : Operand} {x y : Code} {t : Bool} (hc : Env.ev E c = some (.bool t)) (ht : t = true → JI r N P w0 n x Q E L) (hf : t = false → JI r N P w0 n y Q E L) : JI r N P w0 n (.cond c x y) Q E L := ⟨fun a w ha hw => by
  cases t with
  | true => exact wpIn_cond_true (ha.ev hc) ((ht rfl).out a w ha hw)
  | false => exact wpIn_cond_false (ha.ev hc) ((hf rfl).out a w ha hw)⟩
theorem jxi_then {y : Code} (h : JI r N P w0 n y Q E L) : JX w0 n .normal (ThenI r N P y Q) E L := ⟨h.out⟩
theorem jxi_then_ret {y : Code} (h : JX w0 n .ret Q E L) : JX w0 n .ret (ThenI r N P y Q) E L := ⟨h.out⟩
theorem jxi_then_exit {y : Code} {id : Nat} (h : JX w0 n (.exit id) Q E L) : JX w0 n (.exit id) (ThenI r N P y Q) E L := ⟨h.out⟩
/-- Where the ways meet. -/
theorem ji_cut {S : Type} (I : S → Prop) (Es : S → Env) (Ls : S → List Blk) {x y : Code} (h1 : JI r N P w0 n x (MidQ w0 n I Es Ls (fun _ _ => True) Q) E L) (h2 : ∀ s, I s → JI r N P w0 n y Q (Es s) (Ls s)) : JI r N P w0 n x (ThenI r N P y Q) E L := ⟨fun a w ha hw => by
  refine wpIn_mono (h1.out a w ha hw) fun e a' w' hq => ?_
  cases e with
  | normal => obtain ⟨⟨s, hs, hr, ho⟩, _⟩ := hq; exact (h2 s hs).out a' w' hr ho
  | _ => exact hq⟩
/-- A code outside every round, walked as everywhere, whatever comes behind it. -/
theorem ji_of {c : Code} (h : J P w0 n c Q E L) : JI none N P w0 n c Q E L := ⟨fun a w ha hw => wpIn_wide.2 (h.out a w ha hw)⟩
/-- What a round of a loop must come to, each from a world of its own. -/
def LoopI {S : Type} (n : Nat) (I : S → World → Prop) (Es : S → Env) (mu : S → Nat) (s : S) (Q : Exit → Act → World → Prop) : Exit → Act → World → Prop
  | .normal, a, w => ∃ t, I t w ∧ Rep n (Es t) a ∧ mu t < mu s
  | e, a, w => Q e a w
theorem ji_loop {S : Type} (I : S → World → Prop) (Es : S → Env) (mu : S → Nat) (s0 : S) {c : Code} (h0 : ∀ w, Own w0 L w → I s0 w) (hE : Sub E (Es s0))
    (round : ∀ s w1, I s w1 → JI r N P w1 n c (LoopI n I Es mu s Q) (Es s) []) : JI r N P w0 n (.loop c) Q E L := by
  refine ⟨fun a w ha hw => ?_⟩
  have hmin : ∀ (a : Act) (w : World), (∃ s, I s w ∧ Rep n (Es s) a) → ∃ s, (I s w ∧ Rep n (Es s) a) ∧ ∀ t, (I t w ∧ Rep n (Es t) a) → mu s ≤ mu t := by
    intro a w ⟨s, hs⟩
    obtain ⟨k, ⟨t, ht, hk⟩, hm⟩ := least (fun k => ∃ t, (I t w ∧ Rep n (Es t) a) ∧ mu t = k) (mu s) ⟨s, hs, rfl⟩
    exact ⟨t, ht, fun t' ht' => by rw [hk]; exact hm _ ⟨t', ht', rfl⟩⟩
  classical
  let pick : Act → World → Nat := fun a w => if h : ∃ s, I s w ∧ Rep n (Es s) a then mu (Classical.choose (hmin a w h)) else 0
  refine wpIn_loop (fun a w => ∃ s, I s w ∧ Rep n (Es s) a) pick ⟨s0, h0 w hw, ha.sub hE⟩ fun a' w' hI => ?_
  have hsp := Classical.choose_spec (hmin a' w' hI)
  have hr := (round _ _ hsp.1.1).out a' w' hsp.1.2 (Own.start w')
  refine wpIn_mono hr fun e a2 w2 hq => ?_
  cases e with
  | normal =>
    obtain ⟨t, ht, hr2, hlt⟩ := hq
    refine ⟨⟨t, ht, hr2⟩, ?_⟩
    have hex : ∃ s, I s w2 ∧ Rep n (Es s) a2 := ⟨t, ht, hr2⟩
    have h2 := (Classical.choose_spec (hmin a2 w2 hex)).2 t ⟨ht, hr2⟩
    simp only [pick, dif_pos hex, dif_pos hI]
    omega
  | _ => exact hq
theorem jxi_loop {S : Type} {I : S → World → Prop} {Es : S → Env} {mu : S → Nat} {s : S} (t : S) (ht : ∀ w, Own w0 L w → I t w) (hE : Sub E (Es t)) (hmu : mu t < mu s) : JX w0 n .normal (LoopI n I Es mu s Q) E L :=
  ⟨fun _ w ha hw => ⟨t, ht w hw, ha.sub hE, hmu⟩⟩
theorem jxi_loop_ret {S : Type} {I : S → World → Prop} {Es : S → Env} {mu : S → Nat} {s : S} (h : JX w0 n .ret Q E L) : JX w0 n .ret (LoopI n I Es mu s Q) E L := ⟨h.out⟩
theorem jxi_loop_exit {S : Type} {I : S → World → Prop} {Es : S → Env} {mu : S → Nat} {s : S} {id : Nat} (h : JX w0 n (.exit id) Q E L) : JX w0 n (.exit id) (LoopI n I Es mu s Q) E L := ⟨h.out⟩
theorem joi_yield {l : Nat} {args : Array Value} {o : Oper} {rest : List Oper} {R : Ending → World → Prop} (hg : guardB ops E o.guard = some true) (hd : dstOk n o.dst = true) (hdef : noDef o = true)
    (hr : ∀ a w, Rep n E a → (execOp a.eval o).run P w = (Instr.yield l args).run P w)
    (hY : ∀ w, Own w0 L w → YieldAt (Fr r) (N - 1) P l args w R)
    (h : ∀ e w', R e w' → ∃ v, e = .returned v ∧ JOI r N P w' n ops Q rest (Env.put E o.dst v) []) : JOI r N P w0 n ops Q (o :: rest) E L := by
  refine ⟨fun a w ha hw => ?_⟩
  obtain ⟨fn, tmps, assign, body, hy, hR⟩ := hY w hw
  refine wpListIn_step fun K hK => ?_
  rw [if_pos (guardB_spec ha hg)]
  refine ⟨fun f _ => trivial, ?_⟩
  rw [Oper.semAt_eq _ _ _ (noDef_ne hdef), hr a w ha, hy]
  refine ⟨(fun hd => by cases hd), hR.mono fun e w' he => ?_⟩
  obtain ⟨v, rfl, hj⟩ := h e w' he
  exact hK _ _ (hj.out _ _ (ha.put _ _ hd) (Own.start w'))
theorem run_callY {l : Nat} {g : Operand} {xs : List Operand} {vs : List Value} {ats : Array TypeId} {a : Act} {w : World} {d : Option Tmp} {ty : TypeId} {pos : String} {aft : Array Edge} {gd : Option (Nat × Bool)} (ha : Rep n E a) (hg : Env.ev E g = some (.func (.yield l) #[] #[])) (hl : Env.evs E xs = some vs) :
    (execOp a.eval ⟨d, .call ⟨.value g, xs.toArray, ats⟩, ty, pos, aft, gd⟩).run P w = (Instr.yield l vs.toArray).run P w := by
  have h1 : xs.toArray.map a.eval = vs.toArray := by rw [← ha.evs xs vs hl]; simp
  simp only [execOp, resolve, h1, ha.ev hg, Deferred.ofValue, Sem.run_bind, Sem.run_pure, Result.andThen, invoke]
  rw [show (#[] ++ vs.toArray : Array Value) = vs.toArray from Array.empty_append]
theorem joi_nil (h : JX w0 n .normal Q E L) : JOI r N P w0 n ops Q [] E L := ⟨fun a w ha hw => wpListIn_nil (h.out a w ha hw)⟩
theorem anyI_of_wpH {k g : Nat} {F : Array Bool → Act → Prop} (hdef : ops.toList.all noDef = true)
    (hF : ∀ listed a w, F listed a → Own w0 L w → wpAnyIn (Fr r) N P .any ops Q g listed a w) :
    ∀ (f : Nat) (listed : Array Bool) (a : Act) (w : World), Own w0 L w → wpH P w0 L ops k k F f listed a → wpAnyIn (Fr r) N P .any ops Q (f + g) listed a w
  | 0, listed, a, w, hw, h => by
    rw [Nat.zero_add]
    exact hF _ _ _ h hw
  | f + 1, listed, a, w, hw, h => by
    obtain ⟨h1, h2⟩ := h
    rw [show f + 1 + g = (f + g) + 1 by omega]
    refine ⟨fun h0 => (h1 h0).elim, fun i hi => ?_⟩
    obtain ⟨hik, ho⟩ := h2 i hi
    unfold hOp at ho
    unfold wpOpIn
    cases hoi : ops[i]? with
    | none => rw [hoi] at ho; exact ho.elim
    | some o =>
      rw [hoi] at ho
      simp only [if_pos hik] at ho
      obtain ⟨v, hy, hk⟩ := ho
      have hdo : noDef o = true := List.all_eq_true.1 hdef o (by
        have := Array.mem_of_getElem? hoi
        exact Array.mem_toList_iff.2 this)
      simp only
      rcases hy with ⟨hwt, hc⟩ | ⟨hwt, hv⟩
      · rw [if_pos hwt]
        refine wpI_of hdo (wp_of_calm (hc w hw) fun w' hx => ?_)
        exact anyI_of_wpH hdef hF f _ _ w' (hw.to hx) hk
      · rw [if_neg (by rw [hwt]; simp)]
        subst hv
        exact ⟨fun f _ => trivial, anyI_of_wpH hdef hF f _ _ w hw hk⟩
theorem wpAnyIn_of_seq : ∀ (l : List Oper) (k : Nat) (listed : Array Bool) (a : Act) (w : World), (∀ j, l[j]? = ops[k + j]?) →
    Region.seqB .any ops l.length k listed = true → wpListIn (Fr r) N P ops Q l a w → wpAnyIn (Fr r) N P .any ops Q l.length listed a w
  | [], _, _, _, _, _, hB, h => ⟨by simpa [Region.seqB] using hB, h⟩
  | o :: l, k, listed, a, w, hl, hB, h => by
    have h0 : ops[k]? = some o := by simpa using (hl 0).symm
    simp only [List.length_cons, Region.seqB, Bool.and_eq_true, decide_eq_true_eq] at hB
    refine ⟨fun h1 => (by rw [hB.1] at h1; cases h1), fun i hi => ?_⟩
    rw [hB.1] at hi
    have hik : i = k := by simpa using hi
    subst hik
    have hw : wpOpIn (Fr r) N P ops Q i (wpListIn (Fr r) N P ops Q l) a w := by unfold wpOpIn; simp only [h0]; exact h
    exact wpOpIn_mono (fun a' w' h' => wpAnyIn_of_seq l (i + 1) _ a' w' (fun j => by have := hl (j + 1); simpa [Nat.add_assoc, Nat.add_comm 1 j] using this) hB.2 h') hw
theorem ji_draw {id : Nat} {l : List Oper} (k : Nat) (hm : P.follows .mixedOrders = true) (hdef : l.all noDef = true) (hB : headB P n l.toArray k k = true)
    (h : JH P w0 n L l.toArray (fun E' => JOI r N P w0 n l.toArray Q (l.drop k) E' L) (l.take k) E) : JI r N P w0 n (.region id l.toArray true) Q E L := by
  refine ⟨fun a w ha hw => ?_⟩
  simp only [headB, Bool.and_eq_true, Bool.or_eq_true, decide_eq_true_eq] at hB
  obtain ⟨⟨⟨⟨hsel, hmk⟩, htl⟩, hdB⟩, hlex⟩ := hB
  have hks : k ≤ l.toArray.size := by rcases htl with h | h <;> omega
  have hjk : ∀ i, i < k → ∀ listed, HeadInv .any l.toArray k listed → listed.getD i true = false → ∀ j ∈ Region.ready .any l.toArray listed, j < k := by
    intro i hik listed inv hun j hj
    rcases htl with h | ⟨⟨hlt, hs⟩, hc⟩
    · obtain ⟨_, o, ho, _⟩ := mem_ready.1 hj
      rw [h]
      exact (Array.getElem?_eq_some_iff.1 ho).1
    · rcases Nat.lt_or_ge j k with h | h
      · exact h
      · exact absurd hj (tail_waits hs hc hlt inv _ i rfl hik hun j h)
  have hw' : Own w0 L w.drew := hw.to (Ext.drew w)
  have inv0 : HeadInv .any l.toArray k (Array.replicate l.toArray.size false) :=
    ⟨by simp, fun j oj _ hl => (by rw [getD_replicate_false] at hl; cases hl), fun t _ ht => getD_in (by simpa using ht) (getD_replicate_false _ _)⟩
  have H : wpH P w0 L l.toArray k k (fun listed' a' => Region.seqB .any l.toArray (l.toArray.size - k) k listed' = true ∧ allListed listed' k ∧ ∀ w, Own w0 L w → wpListIn (Fr r) N P l.toArray Q (l.drop k) a' w) k (Array.replicate l.toArray.size false) a := by
    refine wpH_lex hsel (Nat.le_refl _) hks hjk k 0 _ a (by omega) inv0 (fun j hj => by omega) hlex ?_
    rw [if_pos (Nat.zero_le k)]
    have hdk : (l.take k).drop k = [] := List.drop_eq_nil_of_le (by simp; omega)
    show AH P w0 L l.toArray (AN _ ((l.take k).drop k)) ((l.take k).drop 0) a
    rw [List.drop_zero, hdk]
    exact ah_of_jh (n := n) (fun E' a' ha' hK w hw => hK.out a' w ha' hw) _ _ _ ha h
  refine wpIn_region_any hm ?_
  have := anyI_of_wpH (Q := Q) (r := r) (N := N) (g := l.toArray.size - k) (by simpa using hdef) (fun listed a' w' hF hw1 => by
    obtain ⟨hseq, hall, hb⟩ := hF
    have hdl : (l.drop k).length = l.toArray.size - k := by simp
    have := wpAnyIn_of_seq (P := P) (r := r) (N := N) (ops := l.toArray) (Q := Q) (l.drop k) k listed a' w' (fun j => by simp [List.getElem?_drop]) (by rw [hdl]; exact hseq) (hb w' hw1)
    rwa [hdl] at this) k _ a w.drew hw' H
  rw [show k + (l.toArray.size - k) = l.toArray.size by omega] at this
  exact this
theorem fnI_intro {f : FuncId} {fn : Func} {c : Code} {l : List Value} {w : World} {R : Ending → World → Prop} (hf : P.funcs[f]? = some fn) (hb : fn.body = some c) (hn : fn.ntmps = n) (hl : Nat.ble l.length n = true) [hE : EnvC l E]
    (h : JI none N P w n c (bodyPost P fn R) E []) : CallsIn (Fr none) N P f l.toArray w R := by
  rw [← hE.out] at h
  have hl' : l.length ≤ n := Nat.le_of_ble_eq_true hl
  refine callsIn_of_wp hf hb trivial (h.out _ _ ⟨by simp [hn]; omega, rfl, fun k v hk => ?_⟩ (Own.start w))
  obtain ⟨_, h2⟩ := find_envOf l 0 k v hk
  have hlt : k < l.length := by
    rcases Nat.lt_or_ge k l.length with h' | h'
    · exact h'
    · simp [List.getElem?_eq_none h'] at h2
  simp only [Nat.sub_zero] at h2
  rw [Array.getElem?_append_left (by simpa using hlt)]
  simpa using h2
theorem fnM_intro {f : FuncId} {fn : Func} {c : Code} {l : List Value} {w : World} {R : Ending → World → Prop} (hf : P.funcs[f]? = some fn) (hb : fn.body = some c) (hn : fn.ntmps = n) (hl : Nat.ble l.length n = true) [hE : EnvC l E]
    (h : JI none N P w n c (bodyPostM (Fr none) N P fn R) E []) : Calls P f l.toArray w R := by
  rw [← hE.out] at h
  have hl' : l.length ≤ n := Nat.le_of_ble_eq_true hl
  refine callsO (r := none) (N := N) (callsIn_of_wp_marks hf hb trivial (h.out _ _ ⟨by simp [hn]; omega, rfl, fun k v hk => ?_⟩ (Own.start w)))
  obtain ⟨_, h2⟩ := find_envOf l 0 k v hk
  have hlt : k < l.length := by
    rcases Nat.lt_or_ge k l.length with h' | h'
    · exact h'
    · simp [List.getElem?_eq_none h'] at h2
  simp only [Nat.sub_zero] at h2
  rw [Array.getElem?_append_left (by simpa using hlt)]
  simpa using h2
end
end Go.Vt
/- The instants at which units meet: the iterator, walked. Conditions: those that each statement names. -/
set_option linter.unusedSimpArgs false
set_option linter.unusedVariables false
set_option maxHeartbeats 2000000
set_option maxRecDepth 100000
namespace Go.Vt
open Go.RowKit Go.Proofs
/-- Do two units that meet belong together? -/
def mtgB (a b : PU) : Bool := (!a.In.OpenTo || !b.In.OpenFrom) && smL a.F b.F b.In.From.P
/-- The meetings of the first units: the instant, and whether it is a turn. -/
def mtg (us : List PU) : Nat → List (R_api_Real × Bool)
  | 0 => []
  | m + 1 => if 0 < m ∧ (gi us ((m : Int) - 1)).In.To = (gi us (m : Int)).In.From then mtg us m ++ [((gi us (m : Int)).In.From, mtgB (gi us ((m : Int) - 1)) (gi us (m : Int)))] else mtg us m
theorem mtg_len (us : List PU) : ∀ m, (mtg us m).length ≤ m
  | 0 => Nat.le_refl _
  | m + 1 => by
    have := mtg_len us m
    rw [mtg]
    split
    · rw [List.length_append, List.length_singleton]; omega
    · omega
/-- The units can be compared. -/
structure MtOk (us : List PU) : Prop where
  l : us.length ≤ 1048576
  f : ∀ u ∈ us, UK BQ (toU u)
theorem MtOk.g {us : List PU} (h : MtOk us) {i : Nat} (hi : i < us.length) : UK BQ (toU (gi us (i : Int))) := h.f _ (gi_mem (by omega))
theorem grown_of {w w' : World} (h : Ext w w') : w.grownBy w' none := ⟨h.bel.os, h.bel.tape, h.bel.output, h.bel.size, fun k hk _ => h.bel.block k hk⟩
/-- What a round that goes on keeps: what the caller had, and the box of the list. -/
def KpM (wc : World) (B : Nat) (A A' : World) : Prop := Below wc.heap.size A A' ∧ ∀ o, A.heap[B]? = some o → A'.heap[B]? = some o
set_option maxHeartbeats 4000000 in
theorem meet_stops (v : Value) (us : List PU) (wc w0 : World) (B N : Nat) (hwc : Below wc.heap.size wc w0) (hB : w0.heap[B]? = some (.cells #[v] 41 (0, 0))) (hv : ArgS wc v rP us) (hok : MtOk us) :
    SeqStopsK (Fr none) N Tryz.prog 178 #[.pointer (some ⟨B, 0, none⟩)] (fun x : R_api_Real × Bool => #[vR x.1, .bool x.2]) (KpM wc B) (fun ys => ys = mtg us us.length) (fun _ => True) (us.length + 1) w0 := by
  intro l Jp Jx W hW hJ hJx hY h0
  have hmt : ∀ {i : Nat}, i < us.length → UK BQ (toU (gi us (i : Int))) := fun h => hok.g h
  have hul := hok.l
  obtain ⟨p, cp, rfl⟩ := hv.form
  have hgo := fnI_intro (N := N) (P := Tryz.prog) (l := [Value.func (.yield l) #[] #[], Value.pointer (some ⟨B, 0, none⟩)]) (w := W) (R := fun e W' => (∃ v, e = Ending.returned v) ∧ ((∃ xs, xs = mtg us us.length ∧ Jp xs W') ∨ ∃ pre, True ∧ Jx pre W')) Tryz.func178 rfl Tryz.ntmps178 rfl
  refine hgo ?_
  clear hgo
  refine ji_seq ?_
  refine ji_of ?_
  repeat (refine wkB ?_; try intro _)
  refine jxi_then ?_
  refine ji_block ?_
  refine ji_loop (S := Nat) (fun i W1 => 1 ≤ i ∧ i ≤ max 1 us.length ∧ Jp (mtg us i) W1 ∧ Below wc.heap.size wc W1 ∧ W1.heap[B]? = some (.cells #[.slice p us.length cp] 41 (0, 0))) (fun i => [(0, .func (.yield l) #[] #[]), (1, .pointer (some ⟨B, 0, none⟩)), (3, .int .i64 (i : Nat))]) (fun i => us.length + 1 - i) 1 (fun w hw => ⟨Nat.le_refl _, by omega, hJ _ W w none h0 (grown_of hw.ext) (fun r e => by cases e), hwc.trans ((hW.trans (hw.ext.bel.mono hW.size)).mono hwc.size), by rw [hw.ext.block _ (Nat.lt_of_lt_of_le (lt_of_block hB) hW.size), hW.block _ (lt_of_block hB)]; exact hB⟩) sbB (fun i W1 hI => ?_)
  obtain ⟨h1, hi, hJp, hB0, hB1⟩ := hI
  have hx : Ext wc W1 := ⟨hB0, trivial⟩
  have hv1 := hv.to hx
  have := FoC.mk ⟨(0, 0), hB1⟩
  have step : ∀ w, Ext W1 w → Jp (mtg us i) w ∧ Below wc.heap.size wc w ∧ w.heap[B]? = some (.cells #[.slice p us.length cp] 41 (0, 0)) := fun w hw => ⟨hJ _ W1 w none hJp (grown_of hw) (fun r e => by cases e), hB0.trans (hw.bel.mono hB0.size), by rw [hw.block _ (lt_of_block hB1)]; exact hB1⟩
  refine ji_seq ?_
  refine ji_seq ?_
  refine ji_of ?_
  repeat (refine wkB ?_; try intro _)
  refine jxi_then ?_
  refine ji_cond rfl (fun h => ?_) (fun h => ?_)
  · have hlt : i < us.length := by have := of_decide_eq_true h; omega
    have hne : us ≠ [] := fun h0 => by rw [h0] at hlt; simp at hlt
    obtain ⟨bw, ow, cw, hvw, hcw, hrow⟩ := hv1.blk (k := 35) hne []
    injection hvw with e1 e2 e3
    subst e1
    subst e3
    have hrow' : ∀ L, RowC W1 L bw ow PU rP us := fun L => ⟨fun w' hw' => hrow.out w' (hw'.sub (List.nil_sublist _))⟩
    refine ji_skip ?_
    refine jxi_then ?_
    refine ji_seq ?_
    refine ji_block ?_
    refine ji_seq ?_
    refine ji_of ?_
    (refine j_drawL [0, 1, 2, 3, 4, 5, 6, 7, 8] [9, 10] [11, 12] ([]) (h := ?_); refine wkI ?_)
    (repeat (first | refine wkH ?_ | (refine tC rfl rfl ?_ ?_; focus (exact ⟨by omega, by omega⟩))))
    repeat (first | (refine wkT ?_; try intro _) | (refine tC rfl rfl ?_ ?_; focus (exact ⟨by omega, by omega⟩)) | (refine uC rfl rfl ?_ ?_; focus (exact ⟨by omega, by omega⟩)) | (refine eN rfl rfl ?_ ?_; (focus (exact ⟨by omega, by omega⟩)); intro _; (try simp only [List.cons_append, List.nil_append, List.append_nil])))
    refine jxi_then ?_
    refine ji_seq ?_
    refine ji_of ?_
    repeat (refine wkB ?_; try intro _)
    refine jxi_then ?_
    refine ji_seq ?_
    refine ji_seq ?_
    refine ji_of ?_
    repeat (refine wkB ?_; try intro _)
    refine jxi_then ?_
    rename_i b4 b5 b6
    generalize hA : gi us ((i : Int) - 1) = A at *
    generalize hC : gi us (i : Int) = C at *
    have hsucc : mtg us (i + 1) = if A.In.To = C.In.From then mtg us i ++ [(C.In.From, mtgB A C)] else mtg us i := by
      rw [mtg, hA, hC]
      by_cases hq : A.In.To = C.In.From
      · rw [if_pos ⟨by omega, hq⟩, if_pos hq]
      · rw [if_neg (fun h => hq h.2), if_neg hq]
    have hAk := hmt (i := i - 1) (by omega)
    rw [show ((i - 1 : Nat) : Int) = (i : Int) - 1 by omega, hA] at hAk
    have hCk := hmt (i := i) hlt
    rw [hC] at hCk
    by_cases hq : A.In.To = C.In.From
    · rw [if_pos hq] at hsucc
      refine ji_cond rfl (fun h2 => absurd hq (by simpa using h2)) (fun _ => ?_)
      refine ji_skip ?_
      refine jxi_then ?_
      refine ji_seq ?_
      refine ji_cut (S := Bool) (fun b => b = (!A.In.OpenTo || !C.In.OpenFrom)) (fun b => [(0, .func (.yield l) #[] #[]), (1, .pointer (some ⟨B, 0, none⟩)), (3, .int .i64 (i : Nat)), (4, .pointer (some ⟨b4, 0, none⟩)), (5, .pointer (some ⟨b5, 0, none⟩)), (6, .pointer (some ⟨b6, 0, none⟩)), (7, .bool b)]) (fun _ => [⟨b6, e_api_Real (q_api_Real C.In.From), 30⟩, ⟨b5, e_api_PointUnit (q_api_PointUnit C), 68⟩, ⟨b4, e_api_PointUnit (q_api_PointUnit A), 68⟩]) ?_ (fun bl hbl => ?_)
      · refine ji_of ?_
        rcases ho : A.In.OpenTo with _ | _
        · repeat (refine wkB ?_; try intro _)
          simp only [ho]
          repeat (refine wkB ?_; try intro _)
          exact jx_mid true (by simp) sbB slB
        · repeat (refine wkB ?_; try intro _)
          simp only [ho]
          repeat (refine wkB ?_; try intro _)
          exact jx_mid (!C.In.OpenFrom) (by simp) sbB slB
      · refine ji_seq ?_
        have hm : mtgB A C = (bl && smL A.F C.F C.In.From.P) := by rw [hbl]; rfl
        rw [hm] at hsucc
        have hcr : C.In.From.R = 0 := hCk.i.r1
        rcases bl with _ | _
        · rw [Bool.false_and] at hsucc
          refine ji_draw 12 (by kernel_rfl) (by kernel_rfl) (by kernel_rfl) ?_
          (repeat (first | refine wkH ?_ | (refine tC rfl rfl ?_ ?_; focus (exact ⟨hcr, ⟨⟨hAk.f.x0, hAk.f.x1⟩, hAk.f.y0, hAk.f.y1⟩, ⟨⟨hCk.f.x0, hCk.f.x1⟩, hCk.f.y0, hCk.f.y1⟩, hCk.i.m1⟩))))
          refine jh_nil ?_
          refine joi_yield (l := l) (args := #[vR C.In.From, .bool false]) (R := fun e W' => (e = .returned (.bool true) ∧ Jp (mtg us (i + 1)) W' ∧ KpM wc B W1 W') ∨ (e = .returned (.bool false) ∧ Jx (mtg us (i + 1)) W')) rfl rfl rfl (fun a w ha => run_callY ha rfl rfl) (fun w hw => ?_) ?_
          · obtain ⟨fn, tmps, asg, bd, y1, y2⟩ := hY (mtg us i) (C.In.From, false) w (step w hw.ext).1 (by have := mtg_len us i; omega)
            refine ⟨fn, tmps, asg, bd, y1, y2.mono fun e W' h => ?_⟩
            rw [hsucc]
            rcases h with ⟨e1, e2, e3⟩ | ⟨e1, e2⟩
            · exact .inl ⟨e1, e2, (hw.ext.bel.mono hB0.size).trans e3.1, fun o ho => e3.2 o (by rw [hw.ext.block _ (lt_of_block ho)]; exact ho)⟩
            · exact .inr ⟨e1, e2⟩
          · rintro e W' (⟨rfl, hJ', hk⟩ | ⟨rfl, hx'⟩)
            · refine ⟨_, rfl, ?_⟩
              refine joi_of (fun _ _ h => by obtain ⟨⟨v, hv⟩, _⟩ := h; cases hv) rfl ?_
              show JO Tryz.prog W' 55 _ _ [_] ((53, .bool true) :: _) []
              repeat (refine wkB ?_; try intro _)
              refine jxi_then ?_
              refine ji_cond rfl (fun h => by cases h) (fun _ => ?_)
              refine ji_skip ?_
              refine jx_block ?_
              refine jxi_then ?_
              refine ji_of ?_
              repeat (refine wkB ?_; try intro _)
              exact jxi_loop (i + 1) (fun w hw => ⟨by omega, by omega, hJ _ W' w none hJ' (grown_of hw.ext) (fun r e => by cases e), (hB0.trans hk.1).trans (hw.ext.bel.mono (Nat.le_trans hB0.size hk.1.size)), by rw [hw.ext.block _ (lt_of_block (hk.2 _ hB1))]; exact hk.2 _ hB1⟩) sbB (by omega)
            · refine ⟨_, rfl, ?_⟩
              refine joi_of (fun _ _ h => by obtain ⟨⟨v, hv⟩, _⟩ := h; cases hv) rfl ?_
              show JO Tryz.prog W' 55 _ _ [_] ((53, .bool false) :: _) []
              repeat (refine wkB ?_; try intro _)
              refine jxi_then ?_
              refine ji_cond rfl (fun _ => ?_) (fun h => by cases h)
              refine ji_ret ?_
              refine jx_block_ret ?_
              refine jxi_then_ret ?_
              refine jxi_loop_ret ?_
              refine jx_block_ret ?_
              exact jx_ret0 rfl (fun w hw => ⟨⟨_, rfl⟩, .inr ⟨_, trivial, hJx _ W' w none hx' (grown_of hw.ext) (fun r e => by cases e)⟩⟩)
        · rw [Bool.true_and] at hsucc
          refine ji_draw 12 (by kernel_rfl) (by kernel_rfl) (by kernel_rfl) ?_
          (repeat (first | refine wkH ?_ | (refine tC rfl rfl ?_ ?_; focus (exact ⟨hcr, ⟨⟨hAk.f.x0, hAk.f.x1⟩, hAk.f.y0, hAk.f.y1⟩, ⟨⟨hCk.f.x0, hCk.f.x1⟩, hCk.f.y0, hCk.f.y1⟩, hCk.i.m1⟩))))
          refine jh_nil ?_
          refine joi_yield (l := l) (args := #[vR C.In.From, .bool (smL A.F C.F C.In.From.P)]) (R := fun e W' => (e = .returned (.bool true) ∧ Jp (mtg us (i + 1)) W' ∧ KpM wc B W1 W') ∨ (e = .returned (.bool false) ∧ Jx (mtg us (i + 1)) W')) rfl rfl rfl (fun a w ha => run_callY ha rfl rfl) (fun w hw => ?_) ?_
          · obtain ⟨fn, tmps, asg, bd, y1, y2⟩ := hY (mtg us i) (C.In.From, (smL A.F C.F C.In.From.P)) w (step w hw.ext).1 (by have := mtg_len us i; omega)
            refine ⟨fn, tmps, asg, bd, y1, y2.mono fun e W' h => ?_⟩
            rw [hsucc]
            rcases h with ⟨e1, e2, e3⟩ | ⟨e1, e2⟩
            · exact .inl ⟨e1, e2, (hw.ext.bel.mono hB0.size).trans e3.1, fun o ho => e3.2 o (by rw [hw.ext.block _ (lt_of_block ho)]; exact ho)⟩
            · exact .inr ⟨e1, e2⟩
          · rintro e W' (⟨rfl, hJ', hk⟩ | ⟨rfl, hx'⟩)
            · refine ⟨_, rfl, ?_⟩
              refine joi_of (fun _ _ h => by obtain ⟨⟨v, hv⟩, _⟩ := h; cases hv) rfl ?_
              show JO Tryz.prog W' 55 _ _ [_] ((53, .bool true) :: _) []
              repeat (refine wkB ?_; try intro _)
              refine jxi_then ?_
              refine ji_cond rfl (fun h => by cases h) (fun _ => ?_)
              refine ji_skip ?_
              refine jx_block ?_
              refine jxi_then ?_
              refine ji_of ?_
              repeat (refine wkB ?_; try intro _)
              exact jxi_loop (i + 1) (fun w hw => ⟨by omega, by omega, hJ _ W' w none hJ' (grown_of hw.ext) (fun r e => by cases e), (hB0.trans hk.1).trans (hw.ext.bel.mono (Nat.le_trans hB0.size hk.1.size)), by rw [hw.ext.block _ (lt_of_block (hk.2 _ hB1))]; exact hk.2 _ hB1⟩) sbB (by omega)
            · refine ⟨_, rfl, ?_⟩
              refine joi_of (fun _ _ h => by obtain ⟨⟨v, hv⟩, _⟩ := h; cases hv) rfl ?_
              show JO Tryz.prog W' 55 _ _ [_] ((53, .bool false) :: _) []
              repeat (refine wkB ?_; try intro _)
              refine jxi_then ?_
              refine ji_cond rfl (fun _ => ?_) (fun h => by cases h)
              refine ji_ret ?_
              refine jx_block_ret ?_
              refine jxi_then_ret ?_
              refine jxi_loop_ret ?_
              refine jx_block_ret ?_
              exact jx_ret0 rfl (fun w hw => ⟨⟨_, rfl⟩, .inr ⟨_, trivial, hJx _ W' w none hx' (grown_of hw.ext) (fun r e => by cases e)⟩⟩)
    · rw [if_neg hq] at hsucc
      refine ji_cond rfl (fun _ => ?_) (fun h2 => absurd (by simpa using h2) hq)
      refine ji_exit ?_
      refine jxi_then_exit ?_
      refine jx_block_here ?_
      refine jxi_then ?_
      refine ji_of ?_
      repeat (refine wkB ?_; try intro _)
      exact jxi_loop (i + 1) (fun w hw => ⟨by omega, by omega, by rw [hsucc]; exact (step w hw.ext).1, (step w hw.ext).2.1, (step w hw.ext).2.2⟩) sbB (by omega)
  · refine ji_exit ?_
    refine jxi_then_exit ?_
    refine jxi_loop_exit ?_
    refine jx_block_here ?_
    have hge : i = max 1 us.length := by have := of_decide_eq_false h; omega
    have hfin : mtg us i = mtg us us.length := by
      rcases Nat.eq_zero_or_pos us.length with h0 | h0
      · rw [hge, h0]
        rfl
      · rw [hge, Nat.max_eq_right h0]
    exact jx_end0 rfl (fun w hw => ⟨⟨_, rfl⟩, .inl ⟨_, rfl, by rw [← hfin]; exact (step w hw.ext).1⟩⟩)
end Go.Vt
/- The instants at which units meet at a turn, walked. Conditions: those that each statement names. -/
set_option linter.unusedSimpArgs false
set_option linter.unusedVariables false
set_option maxHeartbeats 2000000
set_option maxRecDepth 100000
namespace Go.Vt
open Go.RowKit Go.Proofs
section
variable {P : Program} {w0 : World} {n : Nat} {ops : Array Oper} {L : List Blk} {E : Env} {Q : Exit → Act → World → Prop} {rest : List Oper} {r : Option Nat} {N : Nat}
variable {ty : TypeId} {pos : String} {aft : Array Edge} {gd : Option (Nat × Bool)} {t : Tmp} {x y : Operand}
instance al_boxS {T : TypeId} {x : Operand} {p : Option Addr} {m c : Nat} [h : IsC (evl E x) (.slice p m c)] : AlC P E (.box T x) #[.slice p m c] T := ⟨fun hg hd h => jo_box isE hg hd h⟩
instance al_boxB {T : TypeId} {x : Operand} {b : Bool} [h : IsC (evl E x) (.bool b)] : AlC P E (.box T x) #[.bool b] T := ⟨fun hg hd h => jo_box isE hg hd h⟩
/-- The same behind a loop over an iterator, where the frame has a deferred call. -/
theorem listI_q {o : Oper} {v : Value} {a : Act} {ds : List Deferred} {w : World} (hy : Yl P w0 n L E o v) (ha : Rep n E a) (hw : Own w0 L w) (hg : guardB ops E o.guard = some true) (hn : noDef o = true)
    (h : ∀ w', Ext w w' → wpListIn (Fr r) N P ops Q rest { a.put o.dst v with defers := ds } w') : wpListIn (Fr r) N P ops Q (o :: rest) { a with defers := ds } w := by
  refine wpListIn_step fun K hK => ?_
  rw [if_pos (guardB_spec (a := a) ha hg)]
  refine wpI_of hn (wp_of_calm (a := { a with defers := ds }) (hy.out a w ha hw) fun w' hx => hK _ _ ?_)
  have e : ({ a with defers := ds } : Act).put o.dst v = { a.put o.dst v with defers := ds } := by
    cases o.dst <;> rfl
  rw [e]
  exact h w' hx
theorem upon_mid {Q' : Exit → Act → World → Prop} {o : Oper} {a : Act} {K : Act → World → Prop} {res : Result Next} (hQQ : ∀ e a w, e ≠ .normal → Q' e a w → Q e a w) (h : o.upon P a K Q' res) : o.uponIn (Fr r) N P a K Q res := by
  cases res with
  | ok x w' =>
    cases x <;> simp only [Oper.upon] at h <;> simp only [Oper.uponIn]
    case value => exact h
    case skip => exact h
    case defer => exact h
    case enter =>
      refine ⟨(fun hd => by cases hd), callsI (h.mono fun e w'' he => ?_)⟩
      cases e with
      | returned v => exact he
      | panicked ch => exact hQQ _ _ _ (fun h => by cases h) he
      | outgrown => obtain ⟨a0, w0, h0⟩ := he; exact ⟨a0, w0, hQQ _ _ _ (fun h => by cases h) h0⟩
    case row => exact ⟨(fun hd => by cases hd), fun c cs _ => let ⟨v, w', r, s⟩ := h c cs; ⟨v, w', r, stepsIn_wide.2 s⟩⟩
  | halt x w' =>
    cases x <;> simp only [Oper.upon] at h <;> simp only [Oper.uponIn]
    all_goals first | exact h | exact hQQ _ _ _ (fun h => by cases h) h
/-- What the first operations come to, walked as everywhere. -/
def MidL (r : Option Nat) (N : Nat) (P : Program) (ops : Array Oper) (Q : Exit → Act → World → Prop) (l2 : List Oper) : Exit → Act → World → Prop := fun e a w => e = .normal ∧ wpListIn (Fr r) N P ops Q l2 a w
theorem listI_split {l2 : List Oper} : ∀ (l1 : List Oper) (a : Act) (w : World), l1.all noDef = true → wpList P ops (MidL r N P ops Q l2) l1 a w → wpListIn (Fr r) N P ops Q (l1 ++ l2) a w
  | [], _, _, _, h => h.2
  | o :: l, a, w, hd, h => by
    simp only [List.all_cons, Bool.and_eq_true] at hd
    simp only [wpList] at h
    simp only [List.cons_append, wpListIn]
    split at h
    · rename_i hw
      rw [if_pos hw]
      rcases h with h | ⟨_, a0, w0, h, _⟩
      · refine ⟨fun f _ => trivial, ?_⟩
        rw [Oper.semAt_eq _ _ _ (noDef_ne hd.1)]
        have h2 : o.wpIn (Fr r) N P a w (wpListIn (Fr r) N P ops Q (l ++ l2)) Q := Oper.wpIn_mono (fun a w h => listI_split l a w hd.2 h) ⟨fun f _ => trivial, by
          rw [Oper.semAt_eq _ _ _ (noDef_ne hd.1)]
          exact upon_mid (fun e a w he hq => absurd hq.1 he) h⟩
        have h3 := h2.2
        rw [Oper.semAt_eq _ _ _ (noDef_ne hd.1)] at h3
        exact h3
      · cases h
    · rename_i hw
      rw [if_neg hw]
      exact ⟨fun f _ => trivial, listI_split l _ _ hd.2 h⟩
theorem jx_midL {l2 : List Oper} (h : ∀ a w, Rep n E a → Own w0 L w → wpListIn (Fr r) N P ops Q l2 a w) : JX w0 n .normal (MidL r N P ops Q l2) E L := ⟨fun a w ha hw => ⟨rfl, h a w ha hw⟩⟩
/-- An append onto a slice that owns its row: what else changes is said. -/
theorem listI_app {S T : TypeId} {a : Act} {w : World} {v : Value} {b2 m c2 k size bytes base : Nat} {xs news : List Value} {z : Value} {zc : Array Value} [hT : UndC P S (.slice T)] [hz : ZeroC P T z zc] [hk : SizeC P T size] [hB : BytesC P T bytes] (ha : Rep n E a) (hx : Env.ev E x = some v) (hy : Env.ev E y = some (.slice (some ⟨b2, 0, none⟩) m c2))
    (h6 : zc.size = size) (h7 : 0 < size) (hown : w.ownsRow base T size v k xs) (hn : news.length = m * size) (hc : ∀ j u, news[j]? = some u → w.cell? ((⟨b2, 0, none⟩ : Addr).add j) = some u) (h1 : ∀ u ∈ news, u.oneCell' = true) (hm : k + m ≤ maxLen) (hb : (k + m) * bytes ≤ 140737488355328) (hbs : base ≤ w.heap.size)
    (h : ∀ v' w', w'.ownsRow base T size v' (k + m) (xs ++ news) → w.grownBy w' v.ownBlock → wpListIn (Fr r) N P ops Q rest (a.put (some t) v') w') : wpListIn (Fr r) N P ops Q (⟨some t, .call ⟨.builtin .append, #[x, y], #[S, S]⟩, ty, pos, aft, none⟩ :: rest) a w := by
  obtain ⟨i, hi, h4⟩ := info_some hk.out
  obtain ⟨i', hi', h5⟩ := info_some hB.out
  obtain rfl : i' = i := Option.some.inj (hi'.symm.trans hi)
  have hz' : i'.zero = some z := by simpa [hi] using hz.out
  obtain ⟨v', w', hr, h8, h9, _⟩ := run_append_own (P := P) w base S ty T i' z size bytes hT.out hi hz' h4 h5 (by rw [hz.cells]; exact h6) h7 v k xs hown ⟨b2, 0, none⟩ m c2 news hn hc h1 hm hb hbs
  refine wpListIn_step fun K hK => ?_
  rw [if_pos (show Region.wanted _ _ = true from rfl)]
  refine ⟨fun f _ => trivial, ?_⟩
  rw [Oper.semAt_eq _ _ _ (fun c e => by cases e), run_appop ha hx hy hr]
  exact hK _ _ (h v' w' h8 h9)
theorem listI_store {T T0 : TypeId} {a : Act} {w : World} {b : Nat} {u u0 : Value} (ha : Rep n E a) (hx : Env.ev E x = some (.pointer (some ⟨b, 0, none⟩))) (hy : Env.ev E y = some u) (hb : w.heap[b]? = some (.cells #[u0] T0 (0, 0))) (hk : (P.info? T).map (·.size) = some 1) (hu : u.cells = #[u]) (h1 : u.oneCell' = true)
    (h : wpListIn (Fr r) N P ops Q rest (a.put none undef) (w.setCell ⟨b, 0, none⟩ u)) : wpListIn (Fr r) N P ops Q (⟨none, .store T x y, ty, pos, aft, none⟩ :: rest) a w := by
  refine wpListIn_step fun K hK => ?_
  rw [if_pos (show Region.wanted _ _ = true from rfl)]
  refine ⟨fun f _ => trivial, ?_⟩
  have hc : w.cell? ⟨b, 0, none⟩ = some u0 := by rw [cell_block hb]; rfl
  have hf : w.frozen? ⟨b, 0, none⟩ = false := frozen_of_row _ _ _ _ _ hb
  have hr : (execOp a.eval ⟨none, .store T x y, ty, pos, aft, none⟩).run P w = .ok .skip (w.setCell ⟨b, 0, none⟩ u) := by
    simp [execOp, ha.ev hx, ha.ev hy, Instr.storeAt, Instr.sureAddr, storeVar, run_sizeOf hk, hu, storeCells, Sem.run_bind, addr_add, run_store P w _ u _ h1, hc, hf, Result.andThen]
  rw [Oper.semAt_eq _ _ _ (fun c e => by cases e), hr]
  exact hK _ _ h
end
theorem meetings_spec (p : Option Addr) (n c : Nat) (w : World) :
    Calls Tryz.prog 155 [.slice p n c].toArray w (RetM Nat (fun b => .func (.func 178) #[] [.pointer (some ⟨b, 0, none⟩)].toArray) (fun b => [⟨b, #[.slice p n c], 41⟩]) w) := by
  refine fn_intro Tryz.func155 rfl Tryz.ntmps155 rfl ?_
  repeat (refine wkB ?_; try intro _)
  rename_i b
  exact jx_ret_tmp rfl rfl (fun w hw => ⟨b, rfl, hw⟩)
instance sr_meetings (w0 : World) (L : List Blk) (p : Option Addr) (n c : Nat) : SpecR Tryz.prog w0 L 155 [.slice p n c] Nat (fun b => .func (.func 178) #[] [.pointer (some ⟨b, 0, none⟩)].toArray) (fun b => [⟨b, #[.slice p n c], 41⟩]) True := ⟨fun _ w _ => meetings_spec p n c w⟩
/-- The instants of the meetings that are turns, or that are not, each once. -/
def insF (tu : Bool) (pre : List (R_api_Real × Bool)) : List R_api_Real := pre.foldl (fun out x => if x.2 = tu ∧ ¬ out.getLast? = some x.1 then out ++ [x.1] else out) []
theorem insF_snoc (tu : Bool) (pre : List (R_api_Real × Bool)) (x : R_api_Real × Bool) : insF tu (pre ++ [x]) = if x.2 = tu ∧ ¬ (insF tu pre).getLast? = some x.1 then insF tu pre ++ [x.1] else insF tu pre := by
  unfold insF
  rw [List.foldl_append]
  rfl
theorem insF_len (tu : Bool) (l : List (R_api_Real × Bool)) : (insF tu l).length ≤ l.length := by
  have : ∀ (l : List (R_api_Real × Bool)) (a : List R_api_Real), (l.foldl (fun out x => if x.2 = tu ∧ ¬ out.getLast? = some x.1 then out ++ [x.1] else out) a).length ≤ a.length + l.length := by
    intro l
    induction l with
    | nil => intro a; simp
    | cons x l ih =>
      intro a
      rw [List.foldl_cons]
      refine Nat.le_trans (ih _) ?_
      split <;> simp <;> omega
  have h := this l []
  rw [List.length_nil, Nat.zero_add] at h
  exact h
theorem insF_tns (us : List PU) : ∀ m, insF true (mtg us m) = tns us m
  | 0 => rfl
  | m + 1 => by
    have ih := insF_tns us m
    rw [mtg, tns]
    have e1 : ((m : Int) - 1) = ((m - 1 : Nat) : Int) ∨ m = 0 := by omega
    rcases e1 with e1 | e1
    · rw [e1]
      have et : trn (gi us ((m - 1 : Nat) : Int)) (gi us (m : Int)) = (decide ((gi us ((m - 1 : Nat) : Int)).In.To = (gi us (m : Int)).In.From) && mtgB (gi us ((m - 1 : Nat) : Int)) (gi us (m : Int))) := rfl
      rw [et]
      by_cases h0 : 0 < m ∧ (gi us ((m - 1 : Nat) : Int)).In.To = (gi us (m : Int)).In.From
      · rw [if_pos h0, insF_snoc, ih, decide_eq_true h0.2, Bool.true_and]
        simp only [h0.1, true_and]
      · rw [if_neg h0, ih, if_neg]
        rintro ⟨h1, h2, -⟩
        simp only [Bool.and_eq_true, decide_eq_true_eq] at h2
        exact h0 ⟨h1, h2.1⟩
    · subst e1
      simp [ih]
/-- A slice that owns its row, as a slice of the call's own. -/
theorem sls_of {α : Type} {enc : α → Array Value} {k base : Nat} {T : TypeId} {W : World} {v : Value} {xs : List α} (hnil : xs = [] → v = .slice none 0 0) (h : W.ownsRow base T k v xs.length (rowL enc xs)) :
    ∃ s : SlS enc k xs, v = vSl s ∧ ((mS T s).map (·.b)).Nodup ∧ ∀ e ∈ mS T s, base ≤ e.b ∧ W.heap[e.b]? = some (.cells e.cs e.T (0, 0)) := by
  obtain ⟨hl, h⟩ := h
  rcases h with ⟨rfl, h0⟩ | ⟨g, cap, cur, rfl, hb, hg, hn, hm, hs, ht⟩
  · have : xs = [] := List.length_eq_zero_iff.1 h0
    subst this
    exact ⟨SlS.no, rfl, List.nodup_nil, fun e he => (by cases he)⟩
  · by_cases h0 : xs = []
    · subst h0
      cases hnil rfl
    · refine ⟨SlS.at_ g cap (cur.toList.drop (xs.length * k)) ⟨hn, by rw [List.length_drop, Array.length_toList, hs, Nat.sub_mul]⟩ h0, rfl, by simp [mS, mO, SlS.at_], fun e he => ?_⟩
      have e1 : e = ⟨g, row enc xs (cur.toList.drop (xs.length * k)), T⟩ := by
        simpa [mS, mO, SlS.at_] using he
      subst e1
      refine ⟨hb, ?_⟩
      rw [hg]
      have : cur = row enc xs (cur.toList.drop (xs.length * k)) := by
        unfold row
        apply Array.ext'
        rw [List.toList_toArray, ← ht, List.take_append_drop]
      rw [← this]
abbrev rRe := r_api_Real
/-- The instants so far, the boxes that the loop reads. -/
def InsI (w : World) (b3 b5 bm : Nat) (tu : Bool) (v : Value) (pre : List (R_api_Real × Bool)) (W : World) : Prop :=
  ((∃ v', Boxed W b5 128 v' ∧ W.ownsRow w.heap.size 30 9 v' (insF tu pre).length (rowL rRe (insF tu pre)) ∧ (insF tu pre = [] → v' = .slice none 0 0)) ∧ Below w.heap.size w W) ∧ (Boxed W b3 4 (.bool tu) ∧ Boxed W bm 41 v)
theorem insI_own {w : World} {b3 b5 bm : Nat} {tu : Bool} {v : Value} {B : Nat} (hB : w.heap.size ≤ B) : OwnFrom B (InsI w b3 b5 bm tu v) :=
  OwnFrom.and (OwnFrom.and (Own.from (holdsRow_own w.heap.size b5 128 30 9 (fun pre => (insF tu pre).length) (fun pre => rowL rRe (insF tu pre)) (fun pre v' => insF tu pre = [] → v' = .slice none 0 0)) _) (ownFrom_below (Nat.le_refl _) hB)) (OwnFrom.and (Own.from (boxed_own b3 4 (fun _ => .bool tu)) _) (Own.from (boxed_own bm 41 (fun _ => v)) _))
def InsA (b3 b5 : Nat) (x : R_api_Real × Bool) (a' : Act) (W : World) : Prop :=
  ∃ bx, W.heap[bx]? = some (.cells (e_api_Real (q_api_Real x.1)) 30 (0, 0)) ∧ Rep 35 [(3, .pointer (some ⟨b3, 0, none⟩)), (5, .pointer (some ⟨b5, 0, none⟩)), (6, .pointer (some ⟨bx, 0, none⟩)), (7, .bool x.2)] a'
theorem boxed_to {W W' : World} {B : Nat} {t : TypeId} {v : Value} (h : Boxed W B t v) (hx : Ext W W') : Boxed W' B t v := (hx.block B (lt_of_block h)).trans h
/-- One instant more. -/
theorem ins_step {w W w3 w4 : World} {b3 b5 bm B : Nat} {tu : Bool} {v v' v2 : Value} {pre : List (R_api_Real × Bool)} {x : R_api_Real × Bool} (hw : w.heap.size ≤ W.heap.size) (hi : InsI w b3 b5 bm tu v pre W) (h5 : Boxed W b5 128 v') (hrow : W.ownsRow w.heap.size 30 9 v' (insF tu pre).length (rowL rRe (insF tu pre)))
    (hx : Ext W w3) (hown : w4.ownsRow w.heap.size 30 9 v2 ((insF tu pre).length + 1) (rowL rRe (insF tu pre) ++ rowL rRe [x.1])) (hg : w3.grownBy w4 v'.ownBlock) (hn : insF tu (pre ++ [x]) = insF tu pre ++ [x.1]) (hb5 : w.heap.size ≤ b5) (h35 : b3 ≠ b5) (hm5 : bm ≠ b5) :
    Boxed w4 b5 128 v' ∧ KeepsFrom B W (w4.setCell ⟨b5, 0, none⟩ v2) ∧ KpM w bm W (w4.setCell ⟨b5, 0, none⟩ v2) ∧ InsI w b3 b5 bm tu v (pre ++ [x]) (w4.setCell ⟨b5, 0, none⟩ v2) := by
  obtain ⟨⟨-, hBe⟩, h3, hm⟩ := hi
  have hrow3 : w3.ownsRow w.heap.size 30 9 v' (insF tu pre).length (rowL rRe (insF tu pre)) := hrow.kept (grown_of hx) (by cases v' with
    | slice p n c => cases p with
      | none => exact .inl rfl
      | some p => exact .inr (fun h => by cases h)
    | _ => exact .inl rfl)
  have q5 := Boxed.kept (boxed_to h5 hx) hg (Boxed.not_row (boxed_to h5 hx) (by decide) hrow3)
  have q3 := Boxed.kept (boxed_to h3 hx) hg (Boxed.not_row (boxed_to h3 hx) (by decide) hrow3)
  have qm := Boxed.kept (boxed_to hm hx) hg (Boxed.not_row (boxed_to hm hx) (by decide) hrow3)
  have own : ∀ j, v'.ownBlock = some j → w.heap.size ≤ j ∧ ∃ cs T, w3.heap[j]? = some (.cells cs T (0, 0)) := fun j hj => by
    rcases hrow3.2 with ⟨rfl, _⟩ | ⟨g, cap, cur, rfl, hb, hgb, _⟩
    · cases hj
    · obtain rfl : g = j := by simpa [Value.ownBlock] using hj
      exact ⟨hb, _, _, hgb⟩
  have qmb := Boxed.other qm hm5 v2
  refine ⟨q5, ⟨Nat.le_trans hx.size (Nat.le_trans hg.size (grownBy_setCell' w4 b5 v2).size), fun k o _ hk ho => ?_⟩, ⟨?_, fun o ho => ?_⟩, ⟨⟨⟨v2, Boxed.set v2 q5, ?_, fun h => ?_⟩, ?_⟩, Boxed.other q3 h35 v2, qmb⟩⟩
  · have e3 : w3.heap[k]? = some o := (hx.block k (lt_of_block hk)).trans hk
    have e4 : w4.heap[k]? = some o := (hg.block k (lt_of_block e3) (fun e => by obtain ⟨-, cs, T, hc⟩ := own k e.symm; rw [e3] at hc; cases hc; cases ho)).trans e3
    refine ((grownBy_setCell' w4 b5 v2).block k (lt_of_block e4) (fun e => ?_)).trans e4
    obtain rfl : k = b5 := by simpa using e
    rw [show w4.heap[k]? = _ from q5] at e4
    cases e4
    cases ho
  · exact ((hx.bel.mono hw).grown hg (Nat.le_trans hw hx.size) (fun j e => (own j e).1)).setCell (p := ⟨b5, 0, none⟩) hb5 v2
  · rw [show W.heap[bm]? = _ from hm] at ho
    cases ho
    exact qmb
  · have e := hown.kept (grownBy_setCell' w4 b5 v2) (.inr (Boxed.not_row q5 (by decide) hown).symm)
    rw [hn, List.length_append, List.length_singleton, rowL_append]
    exact e
  · rw [hn] at h
    simp at h
  · exact hBe.trans (((hx.bel.mono hw).grown hg (Nat.le_trans hw hx.size) (fun j e => (own j e).1)).setCell (p := ⟨b5, 0, none⟩) hb5 v2)
set_option maxHeartbeats 4000000 in
theorem instants_spec (v : Value) (us : List PU) (tu : Bool) (w : World) (hv : ArgS w v rP us) (hok : MtOk us) :
    Calls Tryz.prog 115 [v, .bool tu].toArray w (RetM (SlS rRe 9 (insF tu (mtg us us.length))) (fun s => vSl s) (fun s => mS 30 s) w) := by
  have hul := hok.l
  obtain ⟨p, cp, rfl⟩ := hv.form
  have hgo := fnM_intro (N := 5) (P := Tryz.prog) (l := [Value.slice p us.length cp, Value.bool tu]) (w := w) (R := RetM (SlS rRe 9 (insF tu (mtg us us.length))) (fun s => vSl s) (fun s => mS 30 s) w) Tryz.func115 rfl Tryz.ntmps115 rfl
  refine hgo ?_
  clear hgo
  refine ji_seq ?_
  refine ji_of ?_
  repeat (refine wkB ?_; try intro _)
  refine jxi_then ?_
  refine ji_seq ?_
  refine ji_of ?_
  repeat (refine wkB ?_; try intro _)
  refine jxi_then ?_
  refine ji_seq ?_
  refine ji_seq ?_
  refine ji_of ?_
  repeat (refine wkB ?_; try intro _)
  refine jxi_then ?_
  refine ji_block ?_
  rename_i b3 b5 bm
  refine ⟨fun a w1 ha hw1 => ?_⟩
  have hbm := hw1.mem _ (.head _)
  have hb5 := hw1.mem _ (.tail _ (.head _))
  have hb3 := hw1.mem _ (.tail _ (.tail _ (.head _)))
  have hnd := hw1.nd
  simp only [List.map_cons, List.map_nil, List.nodup_cons, List.mem_cons, List.not_mem_nil, or_false, not_or] at hnd
  have hwd := hw1.ext.size
  have hbl : bm < w1.heap.size := lt_of_block hbm.2
  refine wpIn_rangeFunc_ownH (F := Fr none) (n := 5) (P := Tryz.prog) (w0 := w1) (N := us.length + 1) (α := R_api_Real × Bool) (encs := fun x => #[vR x.1, .bool x.2]) (S := fun ys => ys = mtg us us.length) (Sp := fun _ => True) (Kp := KpM w bm) rfl (by omega) (gf := 178) (lb := #[.pointer (some ⟨bm, 0, none⟩)]) (ha.ev (x := .tmp 9) rfl) trivial (fun args w => run_callFunc (by kernel_rfl) args w)
    (meet_stops (.slice p us.length cp) us w w1 bm 4 hw1.ext.bel hbm.2 hv hok) (fun h k => ⟨h.1.trans k.1, fun o ho => k.2 o (h.2 o ho)⟩) (fun W l o o' hl h hc hk => ⟨belowK_b (w := w1) hwd W l o o' hl h hc hk, fun o2 h2 => (World.putObj_heap_other (by omega)).trans h2⟩) (Below.refl _ _) (fun _ => rfl)
    (InsI w b3 b5 bm tu (.slice p us.length cp)) (fun _ _ _ => False) (insI_own hwd) (fun _ _ _ _ _ hs _ _ => hs) ⟨⟨⟨_, hb5.2, World.ownsRow_nil _ _ _ _, fun _ => rfl⟩, hw1.ext.bel⟩, hb3.2, hbm.2⟩
    (InsA b3 b5) (fun x a' s X Y row ⟨bx, hc, hr⟩ hg hrow => ⟨bx, (hg.block bx (lt_of_block hc) (fun e => by obtain ⟨-, o, ho, hn⟩ := hrow bx e.symm; rw [hc] at ho; cases ho; cases hn)).trans hc, hr⟩) ?assign ?body ?done ?stop
  case stop =>
    rintro D c pre W _ _ h _
    exact h.elim
  case assign =>
    intro l pre x W K hi hK
    have hact : ∀ a0 : Act, a0.defers = [] → ({ tmps := ((#[10, 11] : Array Tmp).zip #[vR x.1, .bool x.2]).foldl (fun t (p, v) => t.setIfInBounds p v) a0.tmps, defers := [] } : Act) = (a0.put (some 10) (vR x.1)).put (some 11) (.bool x.2) := fun a0 h => by
      cases a0
      simp only at h
      subst h
      simp [Act.put]
    rw [hact a ha.defers]
    have hrep := (ha.put (some 10) (vR x.1) rfl).put (some 11) (.bool x.2) rfl
    refine JI.out (r := some l) (N := 3) (P := Tryz.prog) (w0 := W) (n := 35) (E := [(11, .bool x.2), (10, vR x.1), (3, .pointer (some ⟨b3, 0, none⟩)), (5, .pointer (some ⟨b5, 0, none⟩))]) (L := []) ?_ _ W (hrep.sub sbB) (Own.start W)
    refine ji_seq ?_
    refine ji_region ?_
    refine joi_of (fun _ _ h => h) rfl ?_
    repeat (refine wkB ?_; try intro _)
    refine jxi_then ?_
    refine ji_region ?_
    refine joi_of (fun _ _ h => h) rfl ?_
    repeat (refine wkB ?_; try intro _)
    rename_i b6
    refine ⟨fun a' W' ha' hw' => hK a' W' ⟨hw'.ext.size, fun k o _ hk _ => (hw'.ext.block k (lt_of_block hk)).trans hk⟩ ⟨hw'.ext.bel.mono hi.1.2.size, fun o ho => (hw'.ext.block _ (lt_of_block ho)).trans ho⟩ (insI_own (Nat.le_refl _) _ W W' none hi (grown_of hw'.ext) (fun r e => by cases e)) ⟨b6, (hw'.mem _ (.head _)).2, ha'.sub sbB⟩⟩
  case body =>
    rintro l pre ⟨t, q⟩ a' W hlw hr hi ⟨bx, hbx, hra⟩ hlt
    have hi0 := hi
    obtain ⟨⟨⟨v', hv', hrow, hnil⟩, hBe⟩, hb3', hbm'⟩ := hi
    have f3 := FoC.mk ⟨(0, 0), hb3'⟩
    have f5 := FoC.mk ⟨(0, 0), hv'⟩
    have fx := FoC.mk ⟨(0, 0), hbx⟩
    have keep : ∀ w2, Ext W w2 → KeepsFrom w1.heap.size W w2 ∧ KpM w bm W w2 ∧ InsI w b3 b5 bm tu (.slice p us.length cp) pre w2 := fun w2 hx => ⟨⟨hx.size, fun k o _ hk _ => (hx.block k (lt_of_block hk)).trans hk⟩, ⟨hx.bel.mono hBe.size, fun o ho => (hx.block _ (lt_of_block ho)).trans ho⟩, insI_own (Nat.le_refl _) _ W w2 none hi0 (grown_of hx) (fun r e => by cases e)⟩
    have stay : ∀ w2, Ext W w2 → insF tu (pre ++ [(t, q)]) = insF tu pre → KeepsFrom w1.heap.size W w2 ∧ KpM w bm W w2 ∧ InsI w b3 b5 bm tu (.slice p us.length cp) (pre ++ [(t, q)]) w2 := fun w2 hx he => by
      obtain ⟨k1, k2, k3⟩ := keep w2 hx
      refine ⟨k1, k2, ?_⟩
      unfold InsI at k3 ⊢
      rw [he]
      exact k3
    have hsn := insF_snoc tu pre (t, q)
    refine JI.out (r := some l) (N := 3) (P := Tryz.prog) (w0 := W) (n := 35) (E := [(3, .pointer (some ⟨b3, 0, none⟩)), (5, .pointer (some ⟨b5, 0, none⟩)), (6, .pointer (some ⟨bx, 0, none⟩)), (7, .bool q)]) (L := []) ?_ _ W hra (Own.start W)
    refine ji_block ?_
    refine ji_seq ?_
    obtain ⟨s, hs1, hs2, hs3⟩ := sls_of hnil hrow
    by_cases hq : q = tu
    · subst hq
      have hbq : (q == q) = true := by cases q <;> rfl
      rcases s.cases 30 with ⟨x0, x1, x2⟩ | ⟨bs, cs, sp, hc1, x1, x2, xne⟩
      · rw [x1] at hs1
        subst hs1
        rw [if_pos ⟨rfl, by rw [x0]; simp⟩] at hsn
        have hll : (insF q pre).length ≤ 1048577 := by rw [x0]; simp
        refine ji_draw 18 (by kernel_rfl) (by kernel_rfl) (by kernel_rfl) ?_
        (repeat (refine wkH ?_))
        simp only [hbq]
        (repeat (refine wkH ?_))
        simp only [decide_eq_true (show (0 : Int) = 0 from rfl)]
        (repeat (refine wkH ?_))
        refine jh_nil ?_
        refine joi_nil ?_
        refine jxi_then ?_
        refine ji_cond rfl (fun _ => ?_) (fun h => by cases h)
        refine ji_region ?_
        refine ⟨fun a2 w2 ha2 hw2 => ?_⟩
        refine listI_split [_, _, _] a2 w2 rfl (JO.out (w0 := W) (n := 35) (L := []) ?_ a2 w2 ha2 hw2)
        repeat (refine wkB ?_; try intro _)
        refine jx_midL (fun a3 w3 ha3 hw3 => ?_)
        have hbn := (hw3.mem _ (.head _)).2
        refine listI_app (size := 9) (k := (insF q pre).length) (m := 1) (base := w.heap.size) (xs := rowL rRe (insF q pre)) (news := rowL rRe [t]) ha3 rfl rfl rfl (by decide) (hrow.kept (grown_of hw3.ext) (by first | exact .inl rfl | exact .inr (fun h => by cases h))) (rowL_len (k := 9) [t]) (fun j u hu => by rw [addr_add, cell_block hbn, Nat.zero_add]; simpa [row] using hu) (row_one [t]) (by simp only [maxLen]; omega) ?_ (Nat.le_trans hBe.size hw3.ext.size) (fun v2 w4 hown hgrow => ?_)
        · omega
        · obtain ⟨g', cap', hv2⟩ := ownsRow_succ hown
          subst hv2
          obtain ⟨q5, k1, k2, k3⟩ := ins_step (x := (t, q)) (B := w1.heap.size) hBe.size hi0 hv' hrow hw3.ext hown hgrow hsn hb5.1 (fun e => hnd.2.1 e.symm) hnd.1.1
          refine listI_store (b := b5) (ha3.put (some 33) _ rfl) rfl rfl q5 (by kernel_rfl) rfl rfl ?_
          exact wpListIn_nil ⟨k1, k2, k3⟩
      · rw [x1] at hs1
        subst hs1
        have hmem := hs3 ⟨bs, row rRe (insF q pre) sp, 30⟩ (by rw [x2]; exact .head _)
        have fr := FoC.mk ⟨(0, 0), hmem.2⟩
        have hlp : 0 < (insF q pre).length := List.length_pos_iff.2 xne
        have hll : (insF q pre).length ≤ 1048577 := by
          have := insF_len q pre
          omega
        refine ji_draw 18 (by kernel_rfl) (by kernel_rfl) (by kernel_rfl) ?_
        (repeat (refine wkH ?_))
        simp only [hbq]
        (repeat (refine wkH ?_))
        simp only [decide_eq_false (show ¬ ((insF q pre).length : Int) = 0 by omega)]
        (repeat (refine wkH ?_))
        have hgl : (insF q pre).getLast? = some (gi (insF q pre) (((insF q pre).length : Int) - 1)) := by
          rw [List.getLast?_eq_getElem?, show ((insF q pre).length : Int) - 1 = (((insF q pre).length - 1 : Nat) : Int) by omega, gi_nat (by omega)]
          exact List.getElem?_eq_getElem (by omega)
        rw [hgl] at hsn
        by_cases hl : gi (insF q pre) (((insF q pre).length : Int) - 1) = t
        · rw [if_neg (fun h => h.2 (by rw [hl]))] at hsn
          simp only [decide_eq_true hl, Bool.not_true]
          refine jh_nil ?_
          refine joi_nil ?_
          refine jxi_then ?_
          refine ji_cond rfl (fun h => by cases h) (fun _ => ?_)
          refine ji_skip ?_
          refine jx_block ?_
          exact ⟨fun a2 w2 ha2 hw2 => stay w2 hw2.ext hsn⟩
        · rw [if_pos ⟨rfl, fun h => hl (Option.some.inj h)⟩] at hsn
          simp only [decide_eq_false hl, Bool.not_false]
          refine jh_nil ?_
          refine joi_nil ?_
          refine jxi_then ?_
          refine ji_cond rfl (fun _ => ?_) (fun h => by cases h)
          refine ji_region ?_
          refine ⟨fun a2 w2 ha2 hw2 => ?_⟩
          refine listI_split [_, _, _] a2 w2 rfl (JO.out (w0 := W) (n := 35) (L := []) ?_ a2 w2 ha2 hw2)
          repeat (refine wkB ?_; try intro _)
          refine jx_midL (fun a3 w3 ha3 hw3 => ?_)
          have hbn := (hw3.mem _ (.head _)).2
          refine listI_app (size := 9) (k := (insF q pre).length) (m := 1) (base := w.heap.size) (xs := rowL rRe (insF q pre)) (news := rowL rRe [t]) ha3 rfl rfl rfl (by decide) (hrow.kept (grown_of hw3.ext) (by first | exact .inl rfl | exact .inr (fun h => by cases h))) (rowL_len (k := 9) [t]) (fun j u hu => by rw [addr_add, cell_block hbn, Nat.zero_add]; simpa [row] using hu) (row_one [t]) (by simp only [maxLen]; omega) ?_ (Nat.le_trans hBe.size hw3.ext.size) (fun v2 w4 hown hgrow => ?_)
          · omega
          · obtain ⟨g', cap', hv2⟩ := ownsRow_succ hown
            subst hv2
            obtain ⟨q5, k1, k2, k3⟩ := ins_step (x := (t, q)) (B := w1.heap.size) hBe.size hi0 hv' hrow hw3.ext hown hgrow hsn hb5.1 (fun e => hnd.2.1 e.symm) hnd.1.1
            refine listI_store (b := b5) (ha3.put (some 33) _ rfl) rfl rfl q5 (by kernel_rfl) rfl rfl ?_
            exact wpListIn_nil ⟨k1, k2, k3⟩
    · rw [if_neg (fun h => hq h.1)] at hsn
      have hbq : (q == tu) = false := by cases q <;> cases tu <;> first | rfl | exact absurd rfl hq
      refine ji_draw 18 (by kernel_rfl) (by kernel_rfl) (by kernel_rfl) ?_
      (repeat (refine wkH ?_))
      simp only [hbq]
      (repeat (refine wkH ?_))
      refine jh_nil ?_
      refine joi_nil ?_
      refine jxi_then ?_
      refine ji_cond rfl (fun h => by cases h) (fun _ => ?_)
      refine ji_skip ?_
      refine jx_block ?_
      exact ⟨fun a2 w2 ha2 hw2 => stay w2 hw2.ext hsn⟩
  case done =>
    rintro D ys W hD rfl hi hK
    obtain ⟨⟨⟨v', hv', hrow, hnil⟩, hBe⟩, hb3', hbm'⟩ := hi
    obtain ⟨s, hs1, hs2, hs3⟩ := sls_of hnil hrow
    obtain ⟨o, m, c, hvs⟩ : ∃ o m c, v' = .slice o m c := by
      rcases hrow.2 with ⟨h, _⟩ | ⟨g, cap, _, h, _⟩
      · exact ⟨_, _, _, h⟩
      · exact ⟨_, _, _, h⟩
    have f5 := FoC.mk ⟨(0, 0), hv'⟩
    rw [hvs] at f5 hs1
    have hra : Rep 35 [(5, .pointer (some ⟨b5, 0, none⟩))] a := ha.sub sbB
    have hl : YlC Tryz.prog W 35 [] [(5, .pointer (some ⟨b5, 0, none⟩))] (.load 128 (.tmp 5)) (.slice o m c) := inferInstance
    show Code.wpIn (Fr none) 5 _ _ _ _ W
    refine wpIn_seq (wpIn_region_lit ?_)
    refine listI_q (a := a) (L := []) (w0 := W) (hl.out _ _ _ _ _) hra (Own.start W) rfl rfl (fun W2 hx2 => ?_)
    refine listI_q (a := a.put (some 34) (.slice o m c)) (L := []) (w0 := W2) (E := Env.put [(5, .pointer (some ⟨b5, 0, none⟩))] (some 34) (.slice o m c)) (yl_assign rfl) (hra.put (some 34) _ rfl) (Own.start W2) rfl rfl (fun W3 hx3 => ?_)
    refine wpListIn_nil ?_
    have hx := hx2.tr hx3
    have hK3 : W3.heap[D]? = some (.deferred (some [])) := (hx.block D (lt_of_block hK)).trans hK
    have hr4 : ((a.put (some 34) (.slice o m c)).put (some 4) (.slice o m c)).tmps[4]? = some (.slice o m c) := ((hra.put (some 34) _ rfl).put (some 4) (.slice o m c) rfl).val 4 _ rfl
    refine wpIn_ret ?_
    refine ⟨by simp, .inl ⟨_, _, rfl, run_takeDeferred hK3, ?_⟩⟩
    rw [ha.defers]
    refine ⟨.slice o m c, ?_, s, by rw [hs1], ⟨⟨?_, trivial⟩, fun e he => ?_, hs2⟩⟩
    · rw [results_tmp rfl]
      show Result.ok (Array.getD _ 4 undef) _ = _
      rw [Array.getD_eq_getD_getElem?, hr4]
      rfl
    · exact (hBe.trans (hx.bel.mono hBe.size)).trans (belowK_b (w := w1) hwd W3 D _ _ hD hK3 rfl rfl)
    · obtain ⟨h1, h2⟩ := hs3 e he
      have h3 := (hx.block _ (lt_of_block h2)).trans h2
      refine ⟨h1, (World.putObj_heap_other (fun hd => ?_)).trans h3⟩
      rw [hd, hK3] at h3
      cases h3
instance sr_instants (w0 : World) (L : List Blk) (v : Value) (us : List PU) (tu : Bool) [h : LstC w0 L v PU rP us] : SpecR Tryz.prog w0 L 115 [v, .bool tu] (SlS rRe 9 (insF tu (mtg us us.length))) (fun s => vSl s) (fun s => mS 30 s) (MtOk us) := ⟨fun hp w hw => instants_spec v us tu w (h.out w hw) hp⟩
theorem turns_spec (v : Value) (us : List PU) (w : World) (hv : ArgS w v rP us) (hok : MtOk us) :
    Calls Tryz.prog 75 [v].toArray w (RetM (SlS rRe 9 (tns us us.length)) (fun s => vSl s) (fun s => mS 30 s) w) := by
  have := ArgC.mk hv
  rw [← insF_tns]
  refine fn_intro Tryz.func75 rfl Tryz.ntmps75 rfl ?_
  repeat (first | (refine wkB ?_; try intro _) | (refine sC rfl rfl ?_ ?_; focus (exact hok)) | (refine sN rfl rfl ?_ ?_; (focus (exact hok)); intro _; (try simp only [List.cons_append, List.nil_append, List.append_nil])))
  rename_i s
  exact jx_ret_tmp rfl rfl (fun w hw => ⟨s, rfl, hw.sub suB⟩)
instance sr_turns (w0 : World) (L : List Blk) (v : Value) (us : List PU) [h : LstC w0 L v PU rP us] : SpecR Tryz.prog w0 L 75 [v] (SlS rRe 9 (tns us us.length)) (fun s => vSl s) (fun s => mS 30 s) (MtOk us) := ⟨fun hp w hw => turns_spec v us w (h.out w hw) hp⟩
end Go.Vt
/- A map from instants: what it holds, how it is read and written. Conditions: those that each statement names. -/
set_option linter.unusedSimpArgs false
set_option linter.unusedVariables false
set_option maxHeartbeats 2000000
set_option maxRecDepth 100000
namespace Go.Vt
open Go.RowKit Go.Proofs
/-- The entries are 'true' at these instants. -/
def EnR (l : List MapEntry) (ys : List R_api_Real) : Prop := l.map (fun e => (e.key, e.val)) = ys.map (fun y => (vR y, Value.bool true))
/-- The map holds 'true' at these instants, and nothing else. -/
def MapR (w : World) (b : Nat) (S : List R_api_Real) : Prop := ∃ es clock ys, w.heap[b]? = some (.map es clock) ∧ EnR es.toList ys ∧ ∀ x, x ∈ ys ↔ x ∈ S
theorem MapR.lt {w : World} {b : Nat} {S : List R_api_Real} (h : MapR w b S) : b < w.heap.size := by
  obtain ⟨es, c, ys, h, _⟩ := h
  exact lt_of_block h
theorem MapR.to {w w' : World} {b : Nat} {S : List R_api_Real} (h : MapR w b S) (hx : Ext w w') : MapR w' b S := by
  have hl := h.lt
  obtain ⟨es, c, ys, h1, h2, h3⟩ := h
  exact ⟨es, c, ys, (hx.block b hl).trans h1, h2, h3⟩
theorem MapR.new (w : World) : MapR (w.alloc (.map #[] 0)) w.heap.size [] := ⟨#[], 0, [], World.alloc_heap_new w _, rfl, fun x => Iff.rfl⟩
theorem run_checkKey (e : Bool) (x : R_api_Real) (w : World) : (Instr.checkKey e 10000 30 (vR x)).run Tryz.prog w = .ok () w := by
  kernel_rfl
theorem run_eqR (x y : R_api_Real) (w : World) : (Op.equal 30 (vR x) (vR y)).run Tryz.prog w = .ok (decide (x = y)) w := by
  have h := (inferInstance : BinC Tryz.prog .eql 30 (.agg (e_api_Real (q_api_Real x))) (.agg (e_api_Real (q_api_Real y))) (.bool (decide (x = y)))).run w
  simp only [binOp, Sem.run_bind] at h
  cases hq : (Op.equal 30 (vR x) (vR y)).run Tryz.prog w with
  | ok r w' =>
    rw [hq] at h
    simp only [Result.andThen, Sem.run_pure, Result.ok.injEq, Value.bool.injEq] at h
    rw [h.1, h.2]
  | halt e w' =>
    rw [hq] at h
    cases h
theorem run_und {T : TypeId} {d : TypeDesc} (h : Tryz.prog.underlying T = some d) (w : World) : (underlying T).run Tryz.prog w = .ok d w := by
  simp [underlying, Sem.run, h]
theorem und_R : ∃ fs, Tryz.prog.underlying 30 = some (.struct fs) := ⟨_, Tryz.underlying30⟩
theorem und_M : Tryz.prog.underlying 127 = some (.map 30 4) := by kernel_rfl
/-- The key is found where it is first, or nowhere. -/
theorem run_ask (x : R_api_Real) (w : World) : ∀ (l : List MapEntry) (ys : List R_api_Real) (i : Nat), EnR l ys →
    (∃ j, j < l.length ∧ ys[j]? = some x ∧ (Instr.findAsking 30 (vR x) l i).run Tryz.prog w = .ok (some (i + j, .bool true)) w) ∨ (x ∉ ys ∧ (Instr.findAsking 30 (vR x) l i).run Tryz.prog w = .ok none w)
  | [], [], i, _ => .inr ⟨by simp, by simp [Instr.findAsking]⟩
  | [], _ :: _, _, h => by simp [EnR] at h
  | _ :: _, [], _, h => by simp [EnR] at h
  | e :: l, y :: ys, i, h => by
    simp only [EnR, List.map_cons, List.cons.injEq, Prod.mk.injEq] at h
    obtain ⟨⟨h1, h2⟩, h3⟩ := h
    by_cases hy : x = y
    · refine .inl ⟨0, by simp, by simp [hy], ?_⟩
      simp only [Instr.findAsking, h1, h2, Sem.run_bind, run_eqR, Result.andThen, decide_eq_true hy, if_true, Sem.run_pure, Nat.add_zero]
    · have e1 : (Instr.findAsking 30 (vR x) (e :: l) i).run Tryz.prog w = (Instr.findAsking 30 (vR x) l (i + 1)).run Tryz.prog w := by
        simp only [Instr.findAsking, h1, Sem.run_bind, run_eqR, Result.andThen, decide_eq_false hy, Bool.false_eq_true, if_false]
      rw [e1]
      rcases run_ask x w l ys (i + 1) h3 with ⟨j, j1, j2, j3⟩ | ⟨j1, j2⟩
      · exact .inl ⟨j + 1, by simp; omega, by simpa using j2, by rw [j3, show i + 1 + j = i + (j + 1) by omega]⟩
      · exact .inr ⟨by simp [hy, j1], j2⟩
theorem run_findKey (x : R_api_Real) (w : World) (l : List MapEntry) : (Instr.findKey 30 (vR x) l).run Tryz.prog w = (Instr.findAsking 30 (vR x) l 0).run Tryz.prog w := by
  obtain ⟨fs, hf⟩ := und_R
  unfold Instr.findKey
  simp only [Sem.run_bind, run_und hf, Result.andThen]
  cases l with
  | nil => simp [Instr.findNow, Instr.findAsking]
  | cons e l => rfl
theorem run_lookR {w : World} {b : Nat} {S : List R_api_Real} (h : MapR w b S) (x : R_api_Real) : (Instr.lookup 127 (.map (some b)) (vR x) false).run Tryz.prog w = .ok (.bool (decide (x ∈ S))) w := by
  obtain ⟨es, c, ys, h1, h2, h3⟩ := h
  have hg : (getObj b).run Tryz.prog w = .ok (.map es c) w := by simp [getObj, Sem.run, h1]
  unfold Instr.lookup
  simp only [Sem.run_bind, run_und und_M, Result.andThen, hg, Sem.run_pure, run_checkKey, run_findKey]
  rcases run_ask x w es.toList ys 0 h2 with ⟨j, j1, j2, j3⟩ | ⟨j1, j2⟩
  · rw [j3]
    have hm : x ∈ S := (h3 x).1 (List.mem_of_getElem? j2)
    simp [hm]
  · rw [j2]
    have hm : ¬ x ∈ S := fun hm => j1 ((h3 x).2 hm)
    have hz : (zeroValue 4).run Tryz.prog w = .ok (.bool false) w := by kernel_rfl
    simp [hm, hz, Sem.run_bind, Result.andThen]
theorem zip_same (n : Nat) : ∀ l : List Value, (∀ v ∈ l, Instr.sameBits n v v = true) → (l.zip l).all (fun p => Instr.sameBits n p.1 p.2) = true
  | [], _ => rfl
  | v :: l, h => by
    rw [List.zip_cons_cons, List.all_cons, h v (.head _), zip_same n l fun u hu => h u (.tail _ hu)]
    rfl
theorem same_R (x : R_api_Real) : Instr.sameBits 10000 (vR x) (vR x) = true := by
  have h : ∀ v ∈ (e_api_Real (q_api_Real x)).toList, Instr.sameBits 9999 v v = true := fun v hv => by
    have hv' : v ∈ [Value.bool (I x.P.num).Neg, .string (I x.P.num).Mag, .bool (I (dn x.P)).Neg, .string (I (dn x.P)).Mag, .bool (I x.R.num).Neg, .string (I x.R.num).Mag, .bool (I (dn x.R)).Neg, .string (I (dn x.R)).Mag, .bool x.Neg] := hv
    simp only [List.mem_cons, List.not_mem_nil, or_false] at hv'
    rcases hv' with rfl | rfl | rfl | rfl | rfl | rfl | rfl | rfl | rfl <;> simp [Instr.sameBits, beq_decB]
  show ((e_api_Real (q_api_Real x)).size == (e_api_Real (q_api_Real x)).size && ((e_api_Real (q_api_Real x)).toList.zip (e_api_Real (q_api_Real x)).toList).all (fun p => Instr.sameBits 9999 p.1 p.2)) = true
  rw [zip_same 9999 _ h]
  rfl
theorem run_updR {w : World} {b : Nat} {S : List R_api_Real} (h : MapR w b S) (x : R_api_Real) : ∃ w', (Instr.mapUpdate 127 (.map (some b)) (vR x) (.bool true)).run Tryz.prog w = .ok () w' ∧ MapR w' b (S ++ [x]) ∧ w.grownBy w' (some b) := by
  have hlt := h.lt
  obtain ⟨es, c, ys, h1, h2, h3⟩ := h
  have hg : (getObj b).run Tryz.prog w = .ok (.map es c) w := by simp [getObj, Sem.run, h1]
  have hs : ∀ es' c', (setObj b (.map es' c')).run Tryz.prog w = .ok () { w with heap := w.heap.setIfInBounds b (.map es' c') } := fun es' c' => by simp [setObj, Sem.run, h1]
  have hgr : ∀ o, w.grownBy { w with heap := w.heap.setIfInBounds b o } (some b) := fun o => ⟨rfl, rfl, rfl, by simp, fun k _ hk => Array.getElem?_setIfInBounds_ne (fun e => hk (by rw [e]))⟩
  have hnw : ∀ o, ({ w with heap := w.heap.setIfInBounds b o } : World).heap[b]? = some o := fun o => by simp [hlt]
  unfold Instr.mapUpdate
  simp only [Sem.run_bind, run_und und_M, Result.andThen, hg, run_checkKey, run_findKey]
  rcases run_ask x w es.toList ys 0 h2 with ⟨j, j1, j2, j3⟩ | ⟨j1, j2⟩
  · rw [j3]
    have hj : j < es.size := by simpa using j1
    have hkey : es[j].key = vR x := by
      have := congrArg (fun l => l[j]?) h2
      simp only [List.getElem?_map, j2] at this
      simp [hj] at this
      exact this.1
    have hk : (Instr.keyThatStays (vR x) (vR x)).run Tryz.prog w = .ok (vR x) w := by
      unfold Instr.keyThatStays
      rw [if_pos (same_R x)]
      rfl
    simp only [Nat.zero_add]
    refine ⟨{ w with heap := w.heap.setIfInBounds b (.map (es.modify j fun e => { e with key := vR x, val := .bool true }) c) }, ?_, ⟨_, _, ys, hnw _, ?_, fun y => ?_⟩, hgr _⟩
    · simp [hj, hkey, hk, hs, Sem.run_bind, Result.andThen]
    · have e1 : (es.modify j fun e => { e with key := vR x, val := .bool true }).toList.map (fun e => (e.key, e.val)) = es.toList.map (fun e => (e.key, e.val)) := by
        apply List.ext_getElem
        · simp
        · intro i i1 i2
          have hi : i < es.size := by simpa using i2
          have hv : es[j].val = .bool true := by
            have := congrArg (fun l => l[j]?) h2
            simp only [List.getElem?_map, j2] at this
            simp [hj] at this
            exact this.2
          simp only [List.getElem_map, Array.getElem_toList, Array.getElem_modify]
          split
          · rename_i e
            subst e
            rw [hkey, hv]
          · rfl
      exact e1.trans h2
    · rw [h3 y, List.mem_append, List.mem_singleton]
      have hm : x ∈ S := (h3 x).1 (List.mem_of_getElem? j2)
      exact ⟨.inl, fun h => h.elim id (fun e => e ▸ hm)⟩
  · rw [j2]
    refine ⟨_, hs _ _, ⟨_, _, ys ++ [x], hnw _, ?_, fun y => ?_⟩, hgr _⟩
    · simp only [EnR, Array.toList_push, List.map_append, List.map_cons, List.map_nil]
      rw [show es.toList.map (fun e => (e.key, e.val)) = _ from h2]
    · rw [List.mem_append, List.mem_append, h3 y]
end Go.Vt
/- The runs of a moving point, walked. Conditions: those that each statement names. -/
set_option linter.unusedSimpArgs false
set_option linter.unusedVariables false
set_option maxHeartbeats 2000000
set_option maxRecDepth 100000
namespace Go.Vt
open Go.RowKit Go.Proofs
section
variable {P : Program} {w0 : World} {n : Nat} {ops : Array Oper} {L : List Blk} {E : Env} {Q : Exit → Act → World → Prop} {rest : List Oper} {N : Nat}
variable {ty : TypeId} {pos : String} {aft : Array Edge} {gd : Option (Nat × Bool)} {t : Tmp} {x y z : Operand}
/-- A map is made: what comes behind it begins in a world of its own. -/
theorem joi_make {T : TypeId} {r : Option Nat} (hg : guardB ops E gd = some true) (hd : Nat.blt t n = true) (h : ∀ w, Own w0 L w → JOI r N P (w.alloc (.map #[] 0)) n ops Q rest ((t, .map (some w.heap.size)) :: E) []) : JOI r N P w0 n ops Q (⟨some t, .makeMap T none, ty, pos, aft, gd⟩ :: rest) E L := by
  refine ⟨fun a w ha hw => ?_⟩
  refine wpListIn_step fun K hK => ?_
  rw [if_pos (guardB_spec ha hg)]
  refine ⟨fun f _ => trivial, ?_⟩
  rw [Oper.semAt_eq _ _ _ (fun c e => by cases e)]
  exact hK _ _ ((h w hw).out _ _ (ha.put (some t) _ hd) (Own.start _))
end
/-- The map is written. -/
theorem joi_upd {w0 : World} {n : Nat} {ops : Array Oper} {L : List Blk} {E : Env} {Q : Exit → Act → World → Prop} {rest : List Oper} {N : Nat} {ty : TypeId} {pos : String} {aft : Array Edge} {gd : Option (Nat × Bool)} {x y z : Operand} {r : Option Nat} {b : Nat} {S : List R_api_Real} {k : R_api_Real} (hg : guardB ops E gd = some true) (hx : Env.ev E x = some (.map (some b))) (hy : Env.ev E y = some (vR k)) (hz : Env.ev E z = some (.bool true)) (hm : MapR w0 b S)
    (h : ∀ w w', Own w0 L w → MapR w' b (S ++ [k]) → w.grownBy w' (some b) → JOI r N Tryz.prog w' n ops Q rest E []) : JOI r N Tryz.prog w0 n ops Q (⟨none, .mapUpdate 127 x y z, ty, pos, aft, gd⟩ :: rest) E L := by
  refine ⟨fun a w ha hw => ?_⟩
  obtain ⟨w', h1, h2, h3⟩ := run_updR (hm.to hw.ext) k
  refine wpListIn_step fun K hK => ?_
  rw [if_pos (guardB_spec ha hg)]
  refine ⟨fun f _ => trivial, ?_⟩
  rw [Oper.semAt_eq _ _ _ (fun c e => by cases e)]
  have hr : (execOp a.eval ⟨none, .mapUpdate 127 x y z, ty, pos, aft, gd⟩).run Tryz.prog w = .ok .skip w' := by
    simp only [execOp, ha.ev hx, ha.ev hy, ha.ev hz, Sem.run_bind, h1, Result.andThen, Sem.run_pure]
  rw [hr]
  exact hK _ _ ((h w w' hw h2 h3).out _ _ ha (Own.start _))
class MapC (w0 : World) (b : Nat) (S : outParam (List R_api_Real)) : Prop where
  out : MapR w0 b S
instance yl_lookR {w0 : World} {n : Nat} {L : List Blk} {E : Env} {x y : Operand} {b : Nat} {S : List R_api_Real} {k : R_api_Real} [hm : MapC w0 b S] [hx : IsC (evl E x) (.map (some b))] [hy : IsC (evl E y) (vR k)] : YlC Tryz.prog w0 n L E (.lookup 127 x y false) (.bool (decide (k ∈ S))) := ⟨fun d ty pos aft gd =>
  ⟨fun a w ha hw => by
    have h1 := run_lookR (hm.out.to hw.ext) k
    exact calm_run (s := Instr.lookup 127 (.map (some b)) (vR k) false) (by simp only [execOp, ha.ev (isE (x := x)), ha.ev (isE (x := y))]) h1 (Ext.refl _)⟩⟩
/-- Where the condition of the program holds. -/
def cP (us : List PU) (i : Nat) : Bool := decide (i = 0) || (!decide ((gi us ((i - 1 : Nat) : Int)).In.To = (gi us (i : Int)).In.From) || !decide ((gi us (i : Int)).In.From ∈ tns us us.length))
/-- The run that has ended goes to the others. -/
theorem ended {D : List (R_api_Interval × List SS)} {I : R_api_Interval} {P : List SS} {dn : List RD} (h : dn.map (fun r => (r.I, r.pts)) = D) (s : SlS rS 12 P) : ∃ dn' : List RD, dn'.map (fun r => (r.I, r.pts)) = rnD ⟨D, I, P⟩ ∧ endL (dn.map RD.hd) I s = dn'.map RD.hd ∧ (mS 47 s ++ dnB dn).Perm (dnB dn') := by
  rcases s.cases 47 with ⟨x0, x1, x2⟩ | ⟨b, c, sp, hc, x1, x2, xne⟩
  · refine ⟨dn, by rw [h]; exact (if_pos x0).symm, if_pos x0, ?_⟩
    rw [x2]
    exact .refl _
  · refine ⟨dn ++ [⟨I, b, c, P, sp⟩], ?_, ?_, ?_⟩
    · rw [List.map_append, h]
      exact (if_neg xne).symm
    · rw [List.map_append]
      unfold endL
      rw [if_neg xne, hS_eq x1]
      rfl
    · rw [x2]
      unfold dnB
      rw [List.map_append]
      exact List.perm_append_comm
set_option maxHeartbeats 4000000 in
theorem runs_spec (v : Value) (us : List PU) (w : World) (hv : ArgS w v rP us) (h : PFine us) :
    Calls Tryz.prog 28 [v].toArray w (RetM (RunsO (rns (cP us) us)) (fun s => .tuple #[vSl s.o, .int .i64 0]) (fun s => s.mem) w) := by
  have hul := h.l
  have hok : MtOk us := ⟨by omega, fun u hu => ⟨(h.k u hu).i.mono (by decide), (h.k u hu).f.mono (by decide)⟩⟩
  have hav := ArgC.mk hv
  obtain ⟨p, cp, rfl⟩ := hv.form
  have hgo := fnI_intro (N := 5) (P := Tryz.prog) (l := [Value.slice p us.length cp]) (w := w) (R := RetM (RunsO (rns (cP us) us)) (fun s => .tuple #[vSl s.o, .int .i64 0]) (fun s => s.mem) w) Tryz.func28 rfl Tryz.ntmps28 rfl
  refine callsO (hgo ?_)
  clear hgo
  refine ji_seq ?_
  refine ji_of ?_
  repeat (refine wkB ?_; try intro _)
  refine jxi_then ?_
  refine ji_seq ?_
  refine ji_seq ?_
  refine ji_of ?_
  repeat (first | (refine wkB ?_; try intro _) | (refine sC rfl rfl ?_ ?_; focus (exact h)) | (refine sN rfl rfl ?_ ?_; (focus (exact h)); intro _; (try simp only [List.cons_append, List.nil_append, List.append_nil])))
  refine jxi_then ?_
  refine ji_seq ?_
  refine ji_of ?_
  repeat (refine wkB ?_; try intro _)
  refine jxi_then ?_
  refine ji_cond rfl (fun h => by cases h) (fun _ => ?_)
  refine ji_skip ?_
  refine jxi_then ?_
  refine ji_seq ?_
  refine ji_region ?_
  refine joi_make rfl rfl (fun w1 hw1 => ?_)
  have hM0 := MapR.new w1
  have hB0 : Below w.heap.size w (w1.alloc (.map #[] 0)) := hw1.ext.bel.trans ((Ext.alloc w1 (.map #[] 0)).bel.mono hw1.ext.size)
  have hbw : w.heap.size ≤ w1.heap.size := hw1.ext.size
  generalize w1.alloc (.map #[] 0) = W0 at *
  generalize w1.heap.size = b at *
  have hav0 := ArgC.mk (hv.to ⟨hB0, trivial⟩)
  refine joi_of (fun _ _ h => by obtain ⟨s, h, _⟩ := h; cases h) rfl ?_
  repeat (refine wkB ?_; try intro _)
  refine jxi_then ?_
  refine ji_seq ?_
  refine ji_seq ?_
  refine ji_of ?_
  repeat (first | (refine wkB ?_; try intro _) | (refine sC rfl rfl ?_ ?_; focus (exact hok)) | (refine sN rfl rfl ?_ ?_; (focus (exact hok)); intro _; (try simp only [List.cons_append, List.nil_append, List.append_nil])))
  rename_i s
  refine jxi_then ?_
  refine ji_block ?_
  have htl := tns_len us us.length
  have hcP : ∀ i, cP us i = (decide (i = 0) || (!decide ((gi us ((i - 1 : Nat) : Int)).In.To = (gi us (i : Int)).In.From) || !decide ((gi us (i : Int)).In.From ∈ tns us us.length))) := fun i => rfl
  generalize tns us us.length = T at *
  refine ji_loop (S := Nat) (fun k W1 => k ≤ T.length ∧ MapR W1 b (T.take k) ∧ Below w.heap.size w W1 ∧ ∀ e ∈ mS 30 s, W1.heap[e.b]? = some (.cells e.cs e.T (0, 0))) (fun k => [(0, .slice p us.length cp), (5, .map (some b)), (20, vSl s), (21, .int .i64 T.length), (22, .int .i64 (k : Nat))]) (fun k => T.length - k) 0 (fun w2 hw2 => ?_) sbB (fun k W1 hI => ?_)
  · refine ⟨Nat.zero_le _, hM0.to hw2.ext, hB0.trans (hw2.ext.bel.mono hB0.size), fun e he => (hw2.mem e ?_).2⟩
    first | exact he | exact List.mem_append_left _ he
  obtain ⟨hk, hM, hB1, hS⟩ := hI
  have hx : Ext w W1 := ⟨hB1, trivial⟩
  refine ji_seq ?_
  refine ji_of ?_
  repeat (refine wkB ?_; try intro _)
  refine jxi_then ?_
  refine ji_seq ?_
  refine ji_cond rfl (fun hc => ?_) (fun hc => ?_)
  · have hlt : k < T.length := by have := of_decide_eq_true hc; omega
    refine ji_skip ?_
    refine jxi_then ?_
    rcases s.cases 30 with ⟨x0, x1, x2⟩ | ⟨bt, ct, sp, hc1, x1, x2, xne⟩
    · rw [x0] at hlt
      simp at hlt
    have hbt : W1.heap[bt]? = some (.cells (row rRe T sp) 30 (0, 0)) := hS _ (by rw [x2]; exact .head _)
    have fT := FoC.mk ⟨(0, 0), hbt⟩
    simp only [x1]
    refine ji_seq ?_
    refine ji_block ?_
    refine ji_seq ?_
    refine ji_of ?_
    repeat (refine wkB ?_; try intro _)
    refine jxi_then ?_
    refine ji_region ?_
    refine ⟨fun a2 w2 ha2 hw2 => listI_split [_, _] a2 w2 rfl (JO.out ?_ a2 w2 ha2 hw2)⟩
    repeat (refine wkB ?_; try intro _)
    refine jx_midL (fun a3 w3 ha3 hw3 => (joi_upd rfl rfl rfl rfl hM (fun w4 w5 hw4 hM5 hg => ?_)).out a3 w3 ha3 hw3)
    refine joi_nil ?_
    refine jx_block ?_
    refine jxi_then ?_
    refine ji_of ?_
    repeat (refine wkB ?_; try intro _)
    have hbb : w.heap.size ≤ b := hbw
    refine jxi_loop (k + 1) (fun w6 hw6 => ⟨hlt, ?_, ?_, fun e he => ?_⟩) sbB (by omega)
    · rw [take_snoc hlt]
      exact hM5.to hw6.ext
    · exact ((hB1.trans (hw4.ext.bel.mono hB1.size)).grown hg (Nat.le_trans hB1.size hw4.ext.size) (fun j e => by cases e; exact hbb)).trans (hw6.ext.bel.mono (Nat.le_trans hB1.size (Nat.le_trans hw4.ext.size hg.size)))
    · have e0 := hS e he
      have e1 := (hw4.ext.block _ (lt_of_block e0)).trans e0
      have e2 : w5.heap[e.b]? = some (.cells e.cs e.T (0, 0)) := (hg.block _ (lt_of_block e1) (fun hbe => by
        obtain ⟨es, c, ys, hmb, _⟩ := hM
        have hmb' := (hw4.ext.block _ (lt_of_block hmb)).trans hmb
        rw [show e.b = b by simpa using hbe, hmb'] at e1
        cases e1)).trans e1
      exact (hw6.ext.block _ (lt_of_block e2)).trans e2
  · have hge : k = T.length := by have := of_decide_eq_false hc; omega
    rw [hge, List.take_length] at hM
    refine ji_exit ?_
    refine jxi_then_exit ?_
    refine jxi_loop_exit ?_
    refine jx_block_here ?_
    refine jxi_then ?_
    have hmap : MapC W1 b T := ⟨hM⟩
    have hav1 := ArgC.mk (hv.to hx)
    have hv1 := hv.to hx
    refine ji_of ?_
    repeat (refine wkB ?_; try intro _)
    rename_i b8 b9
    clear hM0 hB0 hav0 hS hc
    refine j_loop (S := (m : Nat) × (dn : List RD) × SlS rR 21 (dn.map RD.hd) × SlS rS 12 (rn (cP us) us m).P) (fun q => q.1 ≤ us.length ∧ q.2.1.map (fun r => (r.I, r.pts)) = (rn (cP us) us q.1).dn) (fun q => [(0, .slice p us.length cp), (5, .map (some b)), (8, .pointer (some ⟨b8, 0, none⟩)), (9, .pointer (some ⟨b9, 0, none⟩)), (10, .func (.func 76) #[] [.pointer (some ⟨b9, 0, none⟩), .pointer (some ⟨b8, 0, none⟩)].toArray), (30, .slice p us.length cp), (31, .int .i64 us.length), (32, .int .i64 (q.1 : Nat))])
      (fun q => mS 35 q.2.2.1 ++ (⟨b9, cRn (rn (cP us) us q.1).I (hS q.2.2.2), 35⟩ :: ⟨b8, #[vSl q.2.2.1], 62⟩ :: (mS 47 q.2.2.2 ++ dnB q.2.1))) (fun q => us.length - q.1) ⟨0, [], SlS.no, SlS.no⟩ ⟨Nat.zero_le _, rfl⟩ sbB suB (fun q hq => ?_)
    obtain ⟨m, dn, o, s2⟩ := q
    obtain ⟨hm, hdn⟩ := hq
    simp only at hm hdn o s2 ⊢
    have hrl := rn_len (cP us) us m
    have hdl : dn.length ≤ m := by
      have := congrArg List.length hdn
      rw [List.length_map] at this
      omega
    repeat (refine wkB ?_; try intro _)
    refine j_cond rfl (fun hc => ?_) (fun hc => ?_)
    · have hlt : m < us.length := by have := of_decide_eq_true hc; omega
      have hne : us ≠ [] := fun h0 => by rw [h0] at hlt; simp at hlt
      obtain ⟨bw, ow, cw, hvw, hcw, hrow⟩ := hv1.blk (k := 35) hne []
      injection hvw with e1 e2 e3
      subst e1
      subst e3
      have hrow' : ∀ L, RowC W1 L bw ow PU rP us := fun L => ⟨fun w' hw' => hrow.out w' (hw'.sub (List.nil_sublist _))⟩
      have hA := h.k _ (gi_mem (i := (m : Int)) (xs := us) (by omega))
      have hrn : rn (cP us) us (m + 1) = if cP us m = true then ⟨rnD (rn (cP us) us m), rnI (gi us (m : Int)) (gi us (m : Int)).In, rnP (gi us (m : Int)) [smq (gi us (m : Int)).F (gi us (m : Int)).In.From]⟩ else ⟨(rn (cP us) us m).dn, rnI (gi us (m : Int)) (rn (cP us) us m).I, rnP (gi us (m : Int)) (rn (cP us) us m).P⟩ := rfl
      have hcm := hcP m
      repeat (refine wkB ?_; try intro _)
      rename_i b12
      generalize gi us (m : Int) = A at *
      have p1 : A.In.From.R = 0 ∧ M A.In.From.P ≤ 34359738368 ∧ M A.F.X0 ≤ 34359738368 ∧ M A.F.X1 ≤ 34359738368 ∧ M A.F.Y0 ≤ 34359738368 ∧ M A.F.Y1 ≤ 34359738368 := ⟨hA.i.r1, Nat.le_trans hA.i.m1 (by decide), Nat.le_trans hA.f.x0 (by decide), Nat.le_trans hA.f.x1 (by decide), Nat.le_trans hA.f.y0 (by decide), Nat.le_trans hA.f.y1 (by decide)⟩
      have p2 : A.In.To.R = 0 ∧ M A.In.To.P ≤ 34359738368 ∧ M A.F.X0 ≤ 34359738368 ∧ M A.F.X1 ≤ 34359738368 ∧ M A.F.Y0 ≤ 34359738368 ∧ M A.F.Y1 ≤ 34359738368 := ⟨hA.i.r2, Nat.le_trans hA.i.m2 (by decide), Nat.le_trans hA.f.x0 (by decide), Nat.le_trans hA.f.x1 (by decide), Nat.le_trans hA.f.y0 (by decide), Nat.le_trans hA.f.y1 (by decide)⟩
      refine j_cut (S := Bool) (fun f => f = cP us m) (fun f => [(0, .slice (some ⟨bw, ow, none⟩) us.length cp), (5, .map (some b)), (8, .pointer (some ⟨b8, 0, none⟩)), (9, .pointer (some ⟨b9, 0, none⟩)), (10, .func (.func 76) #[] [.pointer (some ⟨b9, 0, none⟩), .pointer (some ⟨b8, 0, none⟩)].toArray), (12, .pointer (some ⟨b12, 0, none⟩)), (30, .slice (some ⟨bw, ow, none⟩) us.length cp), (31, .int .i64 us.length), (32, .int .i64 (m : Nat)), (59, .bool f)]) (fun _ => ⟨b12, e_api_PointUnit (q_api_PointUnit A), 68⟩ :: (mS 35 o ++ (⟨b9, cRn (rn (cP us) us m).I (hS s2), 35⟩ :: ⟨b8, #[vSl o], 62⟩ :: (mS 47 s2 ++ dnB dn)))) ?_ (fun f hf => ?_)
      · rcases Nat.eq_zero_or_pos m with h0 | h0
        · subst h0
          refine jD 23 23 (h := ?_)
          (repeat (refine wkH ?_))
          simp only [decide_eq_true (show ((0 : Nat) : Int) = 0 from rfl)]
          (repeat (refine wkH ?_))
          refine jh_nil ?_
          refine jn_nil ?_
          repeat (refine wkB ?_; try intro _)
          exact jx_mid true (by rw [hcm]; rfl) sbB suB
        · have e0 : decide (m = 0) = false := decide_eq_false (by omega)
          rw [show ((m - 1 : Nat) : Int) = (m : Int) - 1 by omega, e0, Bool.false_or] at hcm
          refine jD 23 23 (h := ?_)
          (repeat (refine wkH ?_))
          simp only [decide_eq_false (show ¬ (m : Int) = 0 by omega)]
          (repeat (first | refine wkH ?_ | (refine tC rfl rfl ?_ ?_; focus (exact ⟨by omega, by omega⟩))))
          by_cases h1 : (gi us ((m : Int) - 1)).In.To = A.In.From
          · rw [decide_eq_true h1, Bool.not_true, Bool.false_or] at hcm
            simp only [decide_eq_true h1, Bool.not_true]
            (repeat (refine wkH ?_))
            refine jh_nil ?_
            refine jn_nil ?_
            repeat (refine wkB ?_; try intro _)
            exact jx_mid (!decide (A.In.From ∈ T)) hcm.symm sbB suB
          · rw [decide_eq_false h1, Bool.not_false, Bool.true_or] at hcm
            simp only [decide_eq_false h1, Bool.not_false]
            (repeat (refine wkH ?_))
            refine jh_nil ?_
            refine jn_nil ?_
            repeat (refine wkB ?_; try intro _)
            exact jx_mid true hcm.symm sbB suB
      refine j_cut (S := (dn' : List RD) × (_ : R_api_Interval) × (P' : List SS) × SlS rR 21 (dn'.map RD.hd) × SlS rS 12 P') (fun q => q.1.map (fun r => (r.I, r.pts)) = (if f = true then rnD (rn (cP us) us m) else (rn (cP us) us m).dn) ∧ q.2.1 = (if f = true then A.In else (rn (cP us) us m).I) ∧ q.2.2.1 = (if f = true then [smq A.F A.In.From] else (rn (cP us) us m).P)) (fun _ => [(0, .slice (some ⟨bw, ow, none⟩) us.length cp), (5, .map (some b)), (8, .pointer (some ⟨b8, 0, none⟩)), (9, .pointer (some ⟨b9, 0, none⟩)), (10, .func (.func 76) #[] [.pointer (some ⟨b9, 0, none⟩), .pointer (some ⟨b8, 0, none⟩)].toArray), (12, .pointer (some ⟨b12, 0, none⟩)), (30, .slice (some ⟨bw, ow, none⟩) us.length cp), (31, .int .i64 us.length), (32, .int .i64 (m : Nat))])
        (fun q => ⟨b12, e_api_PointUnit (q_api_PointUnit A), 68⟩ :: (mS 35 q.2.2.2.1 ++ (⟨b9, cRn q.2.1 (hS q.2.2.2.2), 35⟩ :: ⟨b8, #[vSl q.2.2.2.1], 62⟩ :: (mS 47 q.2.2.2.2 ++ dnB q.1)))) ?_ (fun q hq => ?_)
      · rcases f with _ | _
        · refine j_cond rfl (fun h => by cases h) (fun _ => ?_)
          refine j_skip ?_
          exact jx_mid ⟨dn, _, _, o, s2⟩ ⟨hdn, rfl, rfl⟩ sbB suB
        · refine j_cond rfl (fun _ => ?_) (fun h => by cases h)
          obtain ⟨dn', hdn', hmap', hblk⟩ := ended hdn s2
          refine j_permL (⟨b12, e_api_PointUnit (q_api_PointUnit A), 68⟩ :: (mS 35 o ++ (⟨b9, cRn (rn (cP us) us m).I (hS s2), 35⟩ :: ⟨b8, #[vSl o], 62⟩ :: dnB dn'))) ((((hblk.cons _).cons _).append_left _).cons _) ?_
          repeat (refine wkB ?_; try intro _)
          refine sY rfl rfl ?_ ?_
          · exact ⟨by rw [List.length_map]; omega, by omega⟩
          intro o1
          obtain ⟨o', e1, e2⟩ := SlS.turn 35 hmap' o1
          simp only [← e1, ← e2]
          repeat (refine wkB ?_; try intro _)
          (refine j_tree (.v [0, 1, 2, 3, 4, 5, 6, 7] (.e1 8 (.v [9] (.e1 10 (.fin))))) ([⟨b12, e_api_PointUnit (q_api_PointUnit A), 68⟩]) (h := ?_); refine wkX ?_)
          (repeat (first | refine wkH ?_ | (refine tC rfl rfl ?_ ?_; focus (exact p1))))
          repeat (first | (refine wkT ?_; try intro _) | (refine tC rfl rfl ?_ ?_; focus (exact p1)) | (refine uC rfl rfl ?_ ?_; focus (exact p1)) | (refine eN rfl rfl ?_ ?_; (focus (exact p1)); intro _; (try simp only [List.cons_append, List.nil_append, List.append_nil])))
          rename_i bN
          obtain ⟨s', hv', hm'⟩ := SlS.put (enc := rS) (k := 12) (b := bN) (sp := []) (c := 1) (ys := [smq A.F A.In.From]) 47 rfl ⟨Nat.le_refl _, rfl⟩ Nat.zero_lt_one
          have hh := hS_eq hv'
          refine jx_midP ⟨dn', A.In, [smq A.F A.In.From], o', s'⟩ ⟨hdn'.trans (if_pos trivial).symm, (if_pos trivial).symm, (if_pos trivial).symm⟩ sbB ?_
          simp only [hh, hm', List.cons_append, List.nil_append]
          simp only [smq]
          infer_instance
      · obtain ⟨dn2, I2, P2, o2, s3⟩ := q
        obtain ⟨q1, q2, q3⟩ := hq
        simp only at q1 q2 q3 o2 s3 ⊢
        have hr2 : rn (cP us) us (m + 1) = ⟨dn2.map (fun r => (r.I, r.pts)), rnI A I2, rnP A P2⟩ := by
          rw [hrn, q1, q2, q3, ← hf]
          cases f <;> rfl
        have hP2 : P2.length ≤ 64 := by
          rw [q3]
          split
          · simp
          · omega
        repeat (refine wkB ?_; try intro _)
        (refine j_tree (.v [0, 1, 2, 3, 4, 5, 6, 7] (.e1 8 (.v [9, 10] (.e1 11 (.fin))))) ([⟨b12, e_api_PointUnit (q_api_PointUnit A), 68⟩]) (h := ?_); refine wkX ?_)
        repeat' (first | (with_reducible refine And.intro ?_ ?_) | (with_reducible exact True.intro) | (refine wkT ?_; try intro _) | fail)
        refine jx_then ?_
        refine j_forget (E' := [(0, .slice (some ⟨bw, ow, none⟩) us.length cp), (5, .map (some b)), (8, .pointer (some ⟨b8, 0, none⟩)), (9, .pointer (some ⟨b9, 0, none⟩)), (10, .func (.func 76) #[] [.pointer (some ⟨b9, 0, none⟩), .pointer (some ⟨b8, 0, none⟩)].toArray), (12, .pointer (some ⟨b12, 0, none⟩)), (30, .slice (some ⟨bw, ow, none⟩) us.length cp), (31, .int .i64 us.length), (32, .int .i64 (m : Nat))]) (L' := ⟨b12, e_api_PointUnit (q_api_PointUnit A), 68⟩ :: (mS 35 o2 ++ (⟨b9, cRn (rnI A I2) (hS s3), 35⟩ :: ⟨b8, #[vSl o2], 62⟩ :: (mS 47 s3 ++ dnB dn2)))) sbB (List.Sublist.refl _) ?_
        have hI1 : (rn (cP us) us (m + 1)).I = rnI A I2 := by rw [hr2]
        have hD1 : dn2.map (fun r => (r.I, r.pts)) = (rn (cP us) us (m + 1)).dn := by rw [hr2]
        repeat (refine wkB ?_; try intro _)
        by_cases heq : A.In.From = A.In.To
        · simp only [decide_eq_true heq, Bool.not_true]
          repeat (refine wkB ?_; try intro _)
          have hP1 : P2 = (rn (cP us) us (m + 1)).P := by rw [hr2]; exact (if_pos heq).symm
          obtain ⟨s4, e1, e2⟩ := SlS.turn 47 hP1 s3
          have e3 : hS s4 = hS s3 := hS_eq (e1.trans (hS_v s3).symm)
          exact jx_loop ⟨m + 1, dn2, o2, s4⟩ ⟨hlt, hD1⟩ sbB (by
            show List.Sublist (mS 35 o2 ++ (⟨b9, cRn (rn (cP us) us (m + 1)).I (hS s4), 35⟩ :: ⟨b8, #[vSl o2], 62⟩ :: (mS 47 s4 ++ dnB dn2))) _
            rw [hI1, e3, e2]
            exact List.Sublist.cons _ (List.Sublist.refl _)) (by show us.length - (m + 1) < us.length - m; omega)
        · simp only [decide_eq_false heq, Bool.not_false]
          repeat (refine wkB ?_; try intro _)
          (refine j_tree (.v [0, 2, 3, 4, 5, 6, 7] (.e2 1 (.e1 8 (.e1 9 (.v [10] (.e1 11 (.fin))))) 8 (.e1 1 (.e1 9 (.v [10] (.e1 11 (.fin))))))) ([⟨b12, e_api_PointUnit (q_api_PointUnit A), 68⟩]) (h := ?_); refine wkX ?_)
          (repeat (first | refine wkH ?_ | (refine tC rfl rfl ?_ ?_; focus (exact p2))))
          repeat (first | (refine wkT ?_; try intro _) | (refine tC rfl rfl ?_ ?_; focus (exact p2)) | (refine uC rfl rfl ?_ ?_; focus (exact p2)) | (refine eN rfl rfl ?_ ?_; (focus (exact p2)); intro _; (try simp only [List.cons_append, List.nil_append, List.append_nil])))
          have hP1 : P2 ++ [(⟨A.In.To.P, pos A.F A.In.To.P⟩ : SS)] = (rn (cP us) us (m + 1)).P := by rw [hr2]; exact (if_neg heq).symm
          refine And.intro ?_ ?_
          all_goals
            repeat (refine wkT ?_; try intro _)
            refine eU rfl rfl ?_ ?_ ?_ ?_
            · rfl
            · rfl
            · exact ⟨by decide, by omega, by omega⟩
            intro s4
            repeat (refine wkT ?_; try intro _)
            obtain ⟨s5, e1, e2⟩ := SlS.turn 47 hP1 s4
            have e3 : hS s5 = hS s4 := hS_eq (e1.trans (hS_v s4).symm)
            repeat (refine wkB ?_; try intro _)
            refine jx_loopP ⟨m + 1, dn2, o2, s5⟩ ⟨hlt, hD1⟩ sbB ?_ (by show us.length - (m + 1) < us.length - m; omega)
            simp only [hI1, e3, e2]
            infer_instance
    · have hge : m = us.length := by have := of_decide_eq_false hc; omega
      obtain ⟨dn', hdn', hmap', hblk⟩ := ended (I := (rn (cP us) us m).I) hdn s2
      have hps : dn'.map (fun r => (r.I, r.pts)) = rns (cP us) us := by rw [hdn', hge]; rfl
      refine j_permL (mS 35 o ++ (⟨b9, cRn (rn (cP us) us m).I (hS s2), 35⟩ :: ⟨b8, #[vSl o], 62⟩ :: dnB dn')) ((((hblk.cons _).cons _).append_left _)) ?_
      repeat (refine wkB ?_; try intro _)
      refine sY rfl rfl ?_ ?_
      · exact ⟨by rw [List.length_map]; omega, by omega⟩
      intro o1
      obtain ⟨o', e1, e2⟩ := SlS.turn 35 hmap' o1
      simp only [← e1, ← e2]
      repeat (refine wkB ?_; try intro _)
      exact jx_ret_two rfl (resv_tmp rfl) (resv_tmp rfl) (fun w' hw' => ⟨⟨dn', o', hps⟩, rfl, (hw'.sub suB).rebase hB1⟩)
end Go.Vt
/- The reference's runs, walked. Conditions: those that each statement names. -/
set_option linter.unusedSimpArgs false
set_option linter.unusedVariables false
set_option maxHeartbeats 2000000
set_option maxRecDepth 100000
namespace Go.Vt
open Go.RowKit Go.Proofs
/-- A run in memory has room for what its header says. -/
def RdC (r : RD) : Prop := r.pts.length ≤ r.c ∧ r.sp.length = (r.c - r.pts.length) * 12 ∧ r.pts ≠ []
theorem fst_zero {us : List PU} : fstU us 0 = true := rfl
theorem fst_pos {us : List PU} {m : Nat} (h : 0 < m) : fstU us m = !trn (gi us ((m - 1 : Nat) : Int)) (gi us (m : Int)) := by
  unfold fstU
  rw [decide_eq_false (by omega), Bool.false_or]
/-- What one more unit does to the runs. -/
theorem rn_step {us : List PU} {m : Nat} (hn : PNf us) (hm : m ≤ us.length) {all : List (R_api_Interval × List SS)} (h : all = if fstU us m = true then rnD (rn (fstU us) us m) ++ [((gi us (m : Int)).In, [smq (gi us (m : Int)).F (gi us (m : Int)).In.From])] else rnD (rn (fstU us) us m)) :
    ∃ D I P, all = D ++ [(I, P)] ∧ P ≠ [] ∧ P.length ≤ m + 2 ∧ rnD (rn (fstU us) us (m + 1)) = D ++ [(rnI (gi us (m : Int)) I, rnP (gi us (m : Int)) P)] := by
  have hr : rn (fstU us) us (m + 1) = if fstU us m = true then ⟨rnD (rn (fstU us) us m), rnI (gi us (m : Int)) (gi us (m : Int)).In, rnP (gi us (m : Int)) [smq (gi us (m : Int)).F (gi us (m : Int)).In.From]⟩ else ⟨(rn (fstU us) us m).dn, rnI (gi us (m : Int)) (rn (fstU us) us m).I, rnP (gi us (m : Int)) (rn (fstU us) us m).P⟩ := rfl
  rcases hf : fstU us m with _ | _
  · rw [hf] at h hr
    simp only [Bool.false_eq_true, if_false] at h hr
    have h0 : 0 < m := by
      rcases Nat.eq_zero_or_pos m with h0 | h0
      · subst h0; rw [fst_zero] at hf; cases hf
      · exact h0
    have hp := (rn_inv hn m hm).p h0
    have hl := rnP_len (gi us (m : Int)) (rn (fstU us) us m).P
    have hq := (rn_len (fstU us) us m).2.2.1
    refine ⟨(rn (fstU us) us m).dn, (rn (fstU us) us m).I, (rn (fstU us) us m).P, ?_, ?_, by omega, ?_⟩
    · rw [h]; exact rnD_ne hp
    · intro h1; rw [h1] at hp; simp at hp
    · rw [hr]; exact rnD_ne (s := ⟨(rn (fstU us) us m).dn, rnI (gi us (m : Int)) (rn (fstU us) us m).I, rnP (gi us (m : Int)) (rn (fstU us) us m).P⟩) (by show 1 ≤ (rnP _ _).length; omega)
  · rw [hf] at h hr
    simp only [if_true] at h hr
    have hl := rnP_len (gi us (m : Int)) [smq (gi us (m : Int)).F (gi us (m : Int)).In.From]
    refine ⟨_, _, _, h, by simp, by simp, ?_⟩
    rw [hr]
    exact rnD_ne (s := ⟨rnD (rn (fstU us) us m), rnI (gi us (m : Int)) (gi us (m : Int)).In, rnP (gi us (m : Int)) [smq (gi us (m : Int)).F (gi us (m : Int)).In.From]⟩) hl.1
theorem snoc_of {α β : Type} {f : α → β} {xs : List α} {D : List β} {p : β} (h : xs.map f = D ++ [p]) : ∃ ys y, xs = ys ++ [y] ∧ ys.map f = D ∧ f y = p := by
  have hne : xs ≠ [] := fun h0 => by rw [h0] at h; simp at h
  refine ⟨xs.dropLast, xs.getLast hne, (List.dropLast_concat_getLast hne).symm, ?_⟩
  rw [← List.dropLast_concat_getLast hne, List.map_append] at h
  have := List.append_inj' h rfl
  exact ⟨this.1, by simpa using this.2⟩
set_option maxHeartbeats 4000000 in
theorem rruns_spec (v : Value) (us : List PU) (w : World) (hv : ArgS w v rP us) (h : PFine us) :
    Calls Tryz.prog 35 [v].toArray w (RetM (RunsO (rns (fstU us) us)) (fun s => vSl s.o) (fun s => s.mem) w) := by
  have hul := h.l
  have hK : ∀ u ∈ us, UK BQ (toU u) := fun u hu => ⟨(h.k u hu).i.mono (by decide), (h.k u hu).f.mono (by decide)⟩
  have hnf : PNf us := ⟨h.nf, fun u hu => ⟨⟨(h.k u hu).i.r1, (h.k u hu).i.n1⟩, ⟨(h.k u hu).i.r2, (h.k u hu).i.n2⟩⟩⟩
  have hav := ArgC.mk hv
  obtain ⟨p, cp, rfl⟩ := hv.form
  refine fn_intro Tryz.func35 rfl Tryz.ntmps35 rfl ?_
  repeat (refine wkB ?_; try intro _)
  refine j_loop (S := (m : Nat) × (dn : List RD) × SlS rR 21 (dn.map RD.hd)) (fun q => q.1 ≤ us.length ∧ q.2.1.map (fun r => (r.I, r.pts)) = rnD (rn (fstU us) us q.1) ∧ ∀ r ∈ q.2.1, RdC r) (fun q => [(0, .slice p us.length cp), (3, vSl q.2.2), (4, .int .i64 (q.1 : Nat))])
    (fun q => mS 35 q.2.2 ++ dnB q.2.1) (fun q => us.length - q.1) ⟨0, [], SlS.no⟩ ⟨Nat.zero_le _, rfl, fun r hr => by cases hr⟩ sbB suB (fun q hq => ?_)
  obtain ⟨m, dn, o⟩ := q
  obtain ⟨hm, hdn, hrd⟩ := hq
  simp only at hm hdn hrd o ⊢
  have hrl := rn_len (fstU us) us m
  have hdl : dn.length ≤ m := by
    have := congrArg List.length hdn
    rw [List.length_map] at this
    omega
  repeat (refine wkB ?_; try intro _)
  refine j_cond rfl (fun hc => ?_) (fun hc => ?_)
  · have hlt : m < us.length := by have := of_decide_eq_true hc; omega
    have hne : us ≠ [] := fun h0 => by rw [h0] at hlt; simp at hlt
    obtain ⟨bw, ow, cw, hvw, hcw, hrow⟩ := hv.blk (k := 35) hne []
    injection hvw with e1 e2 e3
    subst e1
    subst e3
    have hrow' : ∀ L, RowC w L bw ow PU rP us := fun L => ⟨fun w' hw' => hrow.out w' (hw'.sub (List.nil_sublist _))⟩
    have hA := hK _ (gi_mem (i := (m : Int)) (xs := us) (by omega))
    repeat (refine wkB ?_; try intro _)
    refine j_cut (S := Bool) (fun f => f = fstU us m) (fun f => [(0, .slice (some ⟨bw, ow, none⟩) us.length cp), (3, vSl o), (4, .int .i64 (m : Nat)), (5, .bool f)]) (fun _ => mS 35 o ++ dnB dn) ?_ (fun f hf => ?_)
    · rcases Nat.eq_zero_or_pos m with h0 | h0
      · subst h0
        refine jD 16 16 (h := ?_)
        (repeat (refine wkH ?_))
        simp only [decide_eq_true (show ((0 : Nat) : Int) = 0 from rfl)]
        (repeat (refine wkH ?_))
        refine jh_nil ?_
        refine jn_nil ?_
        repeat (refine wkB ?_; try intro _)
        exact jx_mid true rfl sbB suB
      · have hB := hK _ (gi_mem (i := (m : Int) - 1) (xs := us) (by omega))
        have hfp := fst_pos (us := us) h0
        rw [show ((m - 1 : Nat) : Int) = (m : Int) - 1 by omega] at hfp
        refine jD 16 16 (h := ?_)
        (repeat (refine wkH ?_))
        simp only [decide_eq_false (show ¬ (m : Int) = 0 by omega)]
        (repeat (first | refine wkH ?_ | (refine tC rfl rfl ?_ ?_; focus (first | exact ⟨by omega, by omega⟩ | exact ⟨hB, hA⟩))))
        rw [← hfp]
        refine jh_nil ?_
        refine jn_nil ?_
        repeat (refine wkB ?_; try intro _)
        exact jx_mid (fstU us m) rfl sbB suB
    have hp1 : ∀ t : R_api_Real, t = (gi us (m : Int)).In.From ∨ t = (gi us (m : Int)).In.To → SmOk (gi us (m : Int)).F t := fun t ht => by
      rcases ht with rfl | rfl
      · exact ⟨hA.i.m1, hA.f⟩
      · exact ⟨hA.i.m2, hA.f⟩
    have q1 := hp1 _ (.inl rfl)
    have q2 := hp1 _ (.inr rfl)
    repeat (refine wkB ?_; try intro _)
    refine j_cut (S := (all : List RD) × SlS rR 21 (all.map RD.hd)) (fun q => q.1.map (fun r => (r.I, r.pts)) = (if f = true then rnD (rn (fstU us) us m) ++ [((gi us (m : Int)).In, [smq (gi us (m : Int)).F (gi us (m : Int)).In.From])] else rnD (rn (fstU us) us m)) ∧ ∀ r ∈ q.1, RdC r) (fun q => [(0, .slice (some ⟨bw, ow, none⟩) us.length cp), (3, vSl q.2), (4, .int .i64 (m : Nat))]) (fun q => mS 35 q.2 ++ dnB q.1) ?_ (fun q hq => ?_)
    · rcases f with _ | _
      · refine j_cond rfl (fun h => by cases h) (fun _ => ?_)
        refine j_skip ?_
        exact jx_mid ⟨dn, o⟩ ⟨hdn, hrd⟩ sbB suB
      · refine j_cond rfl (fun _ => ?_) (fun h => by cases h)
        clear hp1 hrl hc hav
        (refine j_tree (.v [0, 1, 2, 3, 4, 5, 6, 7, 8, 9, 10, 11, 12, 13, 14, 15, 16, 17] (.e1 18 (.v [19] (.e1 20 (.e1 21 (.e1 22 (.fin))))))) ([]) (h := ?_); refine wkX ?_)
        (repeat (first | refine wkH ?_ | (refine tC rfl rfl ?_ ?_; focus (exact q1))))
        repeat (first | (refine wkT ?_; try intro _) | (refine tC rfl rfl ?_ ?_; focus (exact q1)) | (refine uC rfl rfl ?_ ?_; focus (exact q1)) | (refine eN rfl rfl ?_ ?_; (focus (exact q1)); intro _; (try simp only [List.cons_append, List.nil_append, List.append_nil])))
        rename_i bN bL
        refine eU rfl rfl ?_ ?_ ?_ ?_
        · rfl
        · rfl
        · exact ⟨by decide, by rw [List.length_map]; omega, by rw [List.length_map]; omega⟩
        intro o1
        obtain ⟨o', e1, e2⟩ := SlS.turn 35 (show dn.map RD.hd ++ [⟨(gi us (m : Int)).In, ⟨some ⟨bN, 0, none⟩, 1, 1⟩⟩] = (dn ++ [(⟨(gi us (m : Int)).In, bN, 1, [smq (gi us (m : Int)).F (gi us (m : Int)).In.From], []⟩ : RD)]).map RD.hd by rw [List.map_append]; rfl) o1
        simp only [← e1, ← e2]
        repeat (refine wkT ?_; try intro _)
        refine jx_midP ⟨dn ++ [⟨(gi us (m : Int)).In, bN, 1, [smq (gi us (m : Int)).F (gi us (m : Int)).In.From], []⟩], o'⟩ ⟨?_, ?_⟩ sbB ?_
        · rw [List.map_append, hdn]
          exact (if_pos trivial).symm
        · intro r hr
          rcases List.mem_append.1 hr with k | k
          · exact hrd r k
          · rw [List.mem_singleton] at k
            subst k
            exact ⟨Nat.le_refl _, rfl, by simp⟩
        · exact sbp_of ((dnB_perm dn _).append_left _)
    · obtain ⟨all, o2⟩ := q
      obtain ⟨hall, hrd2⟩ := hq
      simp only at hall hrd2 o2 ⊢
      rw [hf] at hall
      obtain ⟨D, I0, P0, e4, e5, hpl, e6⟩ := rn_step hnf hm hall
      obtain ⟨ys, r, rfl, e7, e8⟩ := snoc_of e4
      obtain ⟨I, b, c, pts, sp⟩ := r
      injection e8 with e9 e10
      simp only at e9 e10
      subst e9
      subst e10
      have hr := hrd2 _ (List.mem_append_right _ (.head _))
      have hys : ys.length ≤ m := by
        have h1 := congrArg List.length e7
        have h2 := congrArg List.length e6
        have h3 := (rn_len (fstU us) us (m + 1)).1
        rw [List.length_map] at h1
        rw [List.length_append, List.length_singleton] at h2
        omega
      rcases o2.cases 35 with ⟨x0, x1, x2⟩ | ⟨bo, co, spo, hco, x1, x2, xne⟩
      · exact absurd x0 (by simp)
      rw [x1, x2]
      clear x1 x2 xne o2 hp1 hall hdn hrl
      have hmap : (ys ++ [(⟨I, b, c, pts, sp⟩ : RD)]).map RD.hd = ys.map RD.hd ++ [⟨I, ⟨some ⟨b, 0, none⟩, pts.length, c⟩⟩] := by rw [List.map_append]; rfl
      simp only [hmap] at hco ⊢
      have hhl : (ys.map RD.hd).length ≤ m := by rw [List.length_map]; exact hys
      have hback : ∀ (r' : RD) (sx : List Value) (hx : (ys.map RD.hd ++ [r'.hd]).length ≤ co ∧ sx.length = (co - (ys.map RD.hd ++ [r'.hd]).length) * 21), ∃ o' : SlS rR 21 ((ys ++ [r']).map RD.hd), vSl o' = .slice (some ⟨bo, 0, none⟩) ((ys.map RD.hd).length + 1) co ∧ mS 35 o' = [⟨bo, row rR (ys.map RD.hd ++ [r'.hd]) sx, 35⟩] := fun r' sx hx => by
        have hm2 : (ys ++ [r']).map RD.hd = ys.map RD.hd ++ [r'.hd] := by rw [List.map_append]; rfl
        rw [hm2]
        refine ⟨SlS.at_ bo co sx hx (by simp), ?_, rfl⟩
        show Value.slice _ (ys.map RD.hd ++ [r'.hd]).length co = _
        rw [List.length_append, List.length_singleton]
      rw [List.length_append, List.length_singleton] at hco
      simp only [List.length_append, List.length_singleton]
      refine j_permL ([⟨bo, row rR (ys.map RD.hd ++ [⟨I, ⟨some ⟨b, 0, none⟩, pts.length, c⟩⟩]) spo, 35⟩] ++ ⟨b, row rS pts sp, 47⟩ :: dnB ys) ((dnB_perm ys ⟨I, b, c, pts, sp⟩).append_left _) ?_
      rw [List.cons_append, List.nil_append]
      generalize ys.map RD.hd = hs at *
      have hgi := fun x : R_simplify_Run => gi_lastI hs x
      have hset := fun x y : R_simplify_Run => set_lastI hs x y
      have hsl : ∀ x : R_simplify_Run, (((hs.length + 1 : Nat) : Int) - 1).toNat < (hs ++ [x]).length := fun x => by rw [List.length_append, List.length_singleton]; omega
      repeat (refine wkB ?_; try intro _)
      (refine j_tree (.v [0, 1, 2, 3, 4, 5, 6, 7, 8, 9, 10, 11, 12, 13, 14, 15, 16] (.e1 17 (.v [18, 19, 20] (.e1 21 (.fin))))) ([]) (h := ?_); refine wkX ?_)
      (repeat (refine wkH ?_))
      repeat (refine wkT ?_; try intro _)
      refine eRF (i := ((hs.length + 1 : Nat) : Int) - 1) (f := 9) (⟨⟨I.From, (gi us (m : Int)).In.To, I.OpenFrom, I.OpenTo⟩, ⟨some ⟨b, 0, none⟩, pts.length, c⟩⟩ : R_simplify_Run) ?_ rfl ?_ ?_
      · first | (rw [hgi]; done) | (rw [hgi]; rfl)
      · exact hsl _
      rw [hset]
      repeat (refine wkT ?_; try intro _)
      refine eRF (i := ((hs.length + 1 : Nat) : Int) - 1) (f := 19) (⟨rnI (gi us (m : Int)) I, ⟨some ⟨b, 0, none⟩, pts.length, c⟩⟩ : R_simplify_Run) ?_ rfl ?_ ?_
      · first | (rw [hgi]; done) | (rw [hgi]; rfl)
      · exact hsl _
      rw [hset]
      repeat (refine wkT ?_; try intro _)
      refine jx_then ?_
      refine j_forget (E' := [(0, .slice (some ⟨bw, ow, none⟩) us.length cp), (3, .slice (some ⟨bo, 0, none⟩) (hs.length + 1) co), (4, .int .i64 (m : Nat)), (6, .pointer (some ⟨bo, 0 + (((hs.length + 1 : Nat) : Int) - 1).toNat * 21, none⟩))]) (L' := ⟨bo, row rR (hs ++ [⟨rnI (gi us (m : Int)) I, ⟨some ⟨b, 0, none⟩, pts.length, c⟩⟩]) spo, 35⟩ :: ⟨b, row rS pts sp, 47⟩ :: dnB ys) sbB (List.Sublist.refl _) ?_
      refine j_seq ?_
      (refine j_tree (.v [0, 1, 2, 3, 4, 5, 6, 7, 8, 9, 10, 11, 12] (.fin)) ([]) (h := ?_); refine wkX ?_)
      (repeat (refine wkH ?_))
      repeat (refine wkT ?_; try intro _)
      by_cases heq : (gi us (m : Int)).In.From = (gi us (m : Int)).In.To
      · simp only [decide_eq_true heq, Bool.not_true]
        repeat (refine wkB ?_; try intro _)
        obtain ⟨o3, v3, b3⟩ := hback ⟨rnI (gi us (m : Int)) I, b, c, pts, sp⟩ spo (by rw [List.length_append, List.length_singleton]; exact hco)
        refine jx_loopP ⟨m + 1, ys ++ [⟨rnI (gi us (m : Int)) I, b, c, pts, sp⟩], o3⟩ ⟨hlt, ?_, ?_⟩ ?_ ?_ (by show us.length - (m + 1) < us.length - m; omega)
        · rw [List.map_append, e7, e6]
          have : rnP (gi us (m : Int)) pts = pts := if_pos heq
          rw [this]
          rfl
        · intro r' hr'
          rcases List.mem_append.1 hr' with k | k
          · exact hrd2 _ (List.mem_append_left _ k)
          · rw [List.mem_singleton] at k
            subst k
            exact hr
        · simp only [v3]
          exact sbB
        · simp only [b3]
          exact sbp_of (A' := ⟨bo, row rR (hs ++ [⟨rnI (gi us (m : Int)) I, ⟨some ⟨b, 0, none⟩, pts.length, c⟩⟩]) spo, 35⟩ :: ⟨b, row rS pts sp, 47⟩ :: dnB ys) ((dnB_perm ys _).append_left [_])
      · simp only [decide_eq_false heq, Bool.not_false]
        repeat (refine wkB ?_; try intro _)
        (refine j_tree (.v [0, 1, 2, 3, 5, 6, 7, 8, 9, 10, 11, 12, 13, 14, 15, 16] (.e2 4 (.e1 17 (.e1 18 (.v [19, 20] (.e1 21 (.fin))))) 17 (.e1 4 (.e1 18 (.v [19, 20] (.e1 21 (.fin))))))) ([]) (h := ?_); refine wkX ?_)
        (repeat (first | refine wkH ?_ | (refine tC rfl rfl ?_ ?_; focus (exact q2))))
        refine And.intro ?_ ?_
        all_goals
          repeat (first | (refine wkT ?_; try intro _) | (refine tC rfl rfl ?_ ?_; focus (exact q2)) | (refine uC rfl rfl ?_ ?_; focus (exact q2)) | (refine eN rfl rfl ?_ ?_; (focus (exact q2)); intro _; (try simp only [List.cons_append, List.nil_append, List.append_nil])))
          refine uS rfl rfl (hsl _) ?_
          simp only [hgi]
          repeat (first | (refine wkT ?_; try intro _) | (refine tC rfl rfl ?_ ?_; focus (exact q2)) | (refine uC rfl rfl ?_ ?_; focus (exact q2)) | (refine eN rfl rfl ?_ ?_; (focus (exact q2)); intro _; (try simp only [List.cons_append, List.nil_append, List.append_nil])))
          refine eP rfl rfl ?_ ?_ ?_ ?_ ?_
          · rfl
          · exact ⟨hr.1, hr.2.1⟩
          · rfl
          · exact ⟨by omega, by omega⟩
          intro b' c' sp' g1 g2
          repeat (refine wkT ?_; try intro _)
          refine eRF (i := ((hs.length + 1 : Nat) : Int) - 1) (f := 20) (⟨rnI (gi us (m : Int)) I, ⟨some ⟨b', 0, none⟩, pts.length + 1, c'⟩⟩ : R_simplify_Run) ?_ rfl ?_ ?_
          · first | (rw [hgi]; done) | (rw [hgi]; rfl)
          · exact hsl _
          rw [hset]
          repeat (refine wkT ?_; try intro _)
          repeat (refine wkB ?_; try intro _)
          have hp3 : (pts ++ [smq (gi us (m : Int)).F (gi us (m : Int)).In.To]).length = pts.length + 1 := by simp
          obtain ⟨o3, v3, b3⟩ := hback ⟨rnI (gi us (m : Int)) I, b', c', pts ++ [smq (gi us (m : Int)).F (gi us (m : Int)).In.To], sp'⟩ spo (by rw [List.length_append, List.length_singleton]; exact hco)
          refine jx_loopP ⟨m + 1, ys ++ [⟨rnI (gi us (m : Int)) I, b', c', pts ++ [smq (gi us (m : Int)).F (gi us (m : Int)).In.To], sp'⟩], o3⟩ ⟨hlt, ?_, ?_⟩ ?_ ?_ (by show us.length - (m + 1) < us.length - m; omega)
          · rw [List.map_append, e7, e6]
            have : rnP (gi us (m : Int)) pts = pts ++ [smq (gi us (m : Int)).F (gi us (m : Int)).In.To] := if_neg heq
            rw [this]
            rfl
          · intro r' hr'
            rcases List.mem_append.1 hr' with k | k
            · exact hrd2 _ (List.mem_append_left _ k)
            · rw [List.mem_singleton] at k
              subst k
              exact ⟨by rw [hp3]; exact g1, by rw [hp3]; exact g2, by simp⟩
          · simp only [v3]
            exact sbB
          · simp only [b3]
            unfold RD.hd
            simp only [hp3]
            exact sbp_of (A' := ⟨bo, row rR (hs ++ [⟨rnI (gi us (m : Int)) I, ⟨some ⟨b', 0, none⟩, pts.length + 1, c'⟩⟩]) spo, 35⟩ :: ⟨b', row rS (pts ++ [smq (gi us (m : Int)).F (gi us (m : Int)).In.To]) sp', 47⟩ :: dnB ys) ((dnB_perm ys _).append_left [_])
  · have hge : m = us.length := by have := of_decide_eq_false hc; omega
    repeat (refine wkB ?_; try intro _)
    exact jx_ret_tmp rfl rfl (fun w' hw' => ⟨⟨dn, o, by rw [hdn, hge]; rfl⟩, rfl, hw'.sub suB⟩)
end Go.Vt
/- SimplifyRuns, walked. Conditions: those that each statement names. -/
set_option linter.unusedSimpArgs false
set_option linter.unusedVariables false
set_option maxHeartbeats 2000000
set_option maxRecDepth 100000
namespace Go.Vt
open Go.RowKit Go.Proofs
open Fv (va red)
structure RunA (w : World) (v : Value) (ps : List (R_api_Interval × List SS)) : Prop where
  ex : ∃ rs : List RD, rs.map (fun r => (r.I, r.pts)) = ps ∧ ArgS w v rR (rs.map RD.hd) ∧ ∀ r ∈ rs, ∃ T fz, w.heap[r.b]? = some (.cells (row rS r.pts r.sp) T fz)
class RunC (w0 : World) (L : List Blk) (v : Value) (ps : outParam (List (R_api_Interval × List SS))) : Prop where
  out : ∀ w, Own w0 L w → RunA w v ps
/-- The blocks of runs are among those of the call. -/
class RmC {ps : List (R_api_Interval × List SS)} (s : RunsO ps) (L : List Blk) : Prop where out : s.mem.Sublist L
section
variable {ps : List (R_api_Interval × List SS)} {s : RunsO ps}
instance (priority := high) rmHere (B : List Blk) : RmC s (s.mem ++ B) := ⟨List.sublist_append_left _ _⟩
instance (priority := low) rmSkip (X B : List Blk) [h : RmC s B] : RmC s (X ++ B) := ⟨h.out.trans (List.sublist_append_right _ _)⟩
instance runC (w0 : World) (L : List Blk) [h : RmC s L] : RunC w0 L (vSl s.o) ps := ⟨fun w hw => ⟨s.dn, s.e, by
    have hL : LstC w0 s.mem (vSl s.o) R_simplify_Run rR (s.dn.map RD.hd) := by
      unfold RunsO.mem
      infer_instance
    exact hL.out w (hw.sub h.out), fun r hr => ⟨_, (0, 0), ((hw.sub h.out).mem ⟨r.b, row rS r.pts r.sp, 47⟩ (List.mem_append_right _ (List.mem_map.2 ⟨r, hr, rfl⟩))).2⟩⟩⟩
end
instance (priority := low) osRuns {α : Type} {enc : α → Array Value} {k : Nat} {xs : List α} {ps : List (R_api_Interval × List SS)} (T : TypeId) (s : SlS enc k xs) (r : RunsO ps) (L L1 : List Blk) [h : OwnS T s L L1] : OwnS T s (r.mem ++ L) (r.mem ++ L1) := ⟨by
  refine (h.out.append_left _).trans ?_
  rw [← List.append_assoc, ← List.append_assoc]
  exact List.perm_append_comm.append_right _⟩
theorem sameRunZ_spec (I : R_api_Interval) (b1 b2 c1 c2 n : Nat) (ps : List R_movingpoint_Sample) (sp1 sp2 : List Value) (T1 T2 : TypeId) (hn : ps.length = n) (hl : n ≤ 1099511627776) (w : World) (hw1 : ∃ fz, w.heap[b1]? = some (.cells (row rS ps sp1) T1 fz)) (hw2 : ∃ fz, w.heap[b2]? = some (.cells (row rS ps sp2) T2 fz)) :
    Calls Tryz.prog 83 [vRun I b1 n c1, vRun I b2 n c2].toArray w (Ret (.bool true) w) := by
  have := FoC.mk hw1
  have := FoC.mk hw2
  refine fn_intro Tryz.func83 rfl Tryz.ntmps83 rfl ?_
  repeat (refine wkB ?_; try intro _)
  simp only [decide_eq_true (rfl : I = I), Bool.not_true]
  repeat (refine wkB ?_; try intro _)
  simp only [decide_eq_true (rfl : (n : Int) = (n : Int)), Bool.not_true]
  repeat (refine wkB ?_; try intro _)
  rename_i b2' b3'
  refine j_loop (S := Nat) (fun m => m ≤ n) (fun m => [(2, .pointer (some ⟨b2', 0, none⟩)), (3, .pointer (some ⟨b3', 0, none⟩)), (5, .int .i64 (m : Nat))]) (fun _ => [⟨b3', cRun I b2 n c2, 35⟩, ⟨b2', cRun I b1 n c1, 35⟩]) (fun m => n - m) 0 (Nat.zero_le _) sbB slB (fun m hm => ?_)
  repeat (refine wkB ?_; try intro _)
  refine j_cond rfl (fun h => ?_) (fun h => ?_)
  · have hlt : m < n := by have := of_decide_eq_true h; omega
    have hlp : (m : Int).toNat < ps.length := by omega
    repeat (refine wkB ?_; try intro _)
    (refine j_phases [([0, 1, 2, 3, 4, 5, 6, 7, 8, 9, 10], [])] ([⟨b3', cRun I b2 n c2, 35⟩, ⟨b2', cRun I b1 n c1, 35⟩]) (h := ?_); refine wkP ?_)
    (repeat (first | refine wkH ?_ | (refine tC rfl rfl ?_ ?_; focus (exact ⟨by omega, by omega⟩))))
    repeat (refine wkT ?_; try intro _)
    simp only [decide_eq_true (rfl : gi ps (m : Int) = gi ps (m : Int)), Bool.not_true]
    repeat (first | (refine wkB ?_; try intro _) | (refine sC rfl rfl ?_ ?_; focus (exact ⟨by omega, by omega⟩)) | (refine sN rfl rfl ?_ ?_; (focus (exact ⟨by omega, by omega⟩)); intro _; (try simp only [List.cons_append, List.nil_append, List.append_nil])))
    exact jx_loop (m + 1) (by omega) sbB slB (by omega)
  · repeat (refine wkB ?_; try intro _)
    exact jx_ret_tmp rfl rfl (fun w hw => ret_ok hw)
/-- Two headers of one run. -/
def Twin (w : World) (x y : R_simplify_Run) : Prop := ∃ r r' : RD, x = r.hd ∧ y = r'.hd ∧ r.I = r'.I ∧ r.pts = r'.pts ∧ r.pts.length ≤ 1048576 ∧ (∃ T fz, w.heap[r.b]? = some (.cells (row rS r.pts r.sp) T fz)) ∧ ∃ T fz, w.heap[r'.b]? = some (.cells (row rS r'.pts r'.sp) T fz)
class TwinC (w0 : World) (x y : R_simplify_Run) : Prop where
  out : Twin w0 x y
instance sm_twin (w0 : World) (L : List Blk) (x y : R_simplify_Run) [h : TwinC w0 x y] : SpecM Tryz.prog w0 L 83 [.agg (e_simplify_Run (q_simplify_Run x)), .agg (e_simplify_Run (q_simplify_Run y))] (.bool true) True := ⟨fun _ w hw => by
  obtain ⟨r, r', rfl, rfl, h1, h2, h3, ⟨T, fz, h4⟩, T', fz', h5⟩ := h.out
  obtain ⟨I, b, c, pts, sp⟩ := r
  obtain ⟨I', b', c', pts', sp'⟩ := r'
  simp only at h1 h2 h3 h4 h5
  subst h1
  subst h2
  exact sameRunZ_spec I b b' c c' pts.length pts sp sp' T T' rfl (by omega) w ⟨fz, (hw.ext.block _ (lt_of_block h4)).trans h4⟩ ⟨fz', (hw.ext.block _ (lt_of_block h5)).trans h5⟩⟩
theorem sameRuns_spec (v1 v2 : Value) (ps : List (R_api_Interval × List SS)) (w : World) (h1 : RunA w v1 ps) (h2 : RunA w v2 ps) (hl : ps.length ≤ 1048576) (hp : ∀ p ∈ ps, p.2.length ≤ 1048576) :
    Calls Tryz.prog 34 [v1, v2].toArray w (Ret (.bool true) w) := by
  obtain ⟨rs, e1, a1, m1⟩ := h1.ex
  obtain ⟨rs', e2, a2, m2⟩ := h2.ex
  have hn : (rs.map RD.hd).length = ps.length := by rw [List.length_map, ← e1, List.length_map]
  have hn' : (rs'.map RD.hd).length = ps.length := by rw [List.length_map, ← e2, List.length_map]
  have hr : rs.length = ps.length := by rw [← e1, List.length_map]
  have hr' : rs'.length = ps.length := by rw [← e2, List.length_map]
  have A1 := a1
  have A2 := a2
  have hav1 := ArgC.mk a1
  have hav2 := ArgC.mk a2
  obtain ⟨p, cp, rfl⟩ := a1.form
  obtain ⟨q, cq, rfl⟩ := a2.form
  refine fn_intro Tryz.func34 rfl Tryz.ntmps34 rfl ?_
  repeat (refine wkB ?_; try intro _)
  simp only [hn, hn', decide_eq_true (rfl : ((ps.length : Nat) : Int) = ((ps.length : Nat) : Int)), Bool.not_true]
  repeat (refine wkB ?_; try intro _)
  refine j_loop (S := Nat) (fun m => m ≤ ps.length) (fun m => [(0, .slice p ps.length cp), (1, .slice q ps.length cq), (5, .int .i64 (m : Nat))]) (fun _ => []) (fun m => ps.length - m) 0 (Nat.zero_le _) sbB slB (fun m hm => ?_)
  repeat (refine wkB ?_; try intro _)
  refine j_cond rfl (fun h => ?_) (fun h => ?_)
  · have hlt : m < ps.length := by have := of_decide_eq_true h; omega
    obtain ⟨bw, ow, cw, hvw, hcw, hrow⟩ := A1.blk (k := 20) (fun h0 => by rw [h0] at hn; simp at hn; omega) []
    obtain ⟨bw', ow', cw', hvw', hcw', hrow2⟩ := A2.blk (k := 20) (fun h0 => by rw [h0] at hn'; simp at hn'; omega) []
    rw [hn] at hvw
    rw [hn'] at hvw'
    injection hvw with x1 x2 x3
    injection hvw' with y1 y2 y3
    subst x1
    subst x3
    subst y1
    subst y3
    have tw : TwinC w (gi (rs.map RD.hd) (m : Int)) (gi (rs'.map RD.hd) (m : Int)) := by
      refine ⟨gi rs (m : Int), gi rs' (m : Int), gi_map (by omega), gi_map (by omega), ?_, ?_, ?_, m1 _ (gi_mem (by omega)), m2 _ (gi_mem (by omega))⟩
      all_goals
        have k1 : (fun r : RD => (r.I, r.pts)) (gi rs (m : Int)) = gi ps (m : Int) := by rw [← e1, gi_map (by omega)]
        have k2 : (fun r : RD => (r.I, r.pts)) (gi rs' (m : Int)) = gi ps (m : Int) := by rw [← e2, gi_map (by omega)]
        simp only at k1 k2
      · exact congrArg Prod.fst (k1.trans k2.symm)
      · exact congrArg Prod.snd (k1.trans k2.symm)
      · have := hp _ (gi_mem (i := (m : Int)) (xs := ps) (by omega))
        rw [← k1] at this
        exact this
    repeat (refine wkB ?_; try intro _)
    (refine j_tree (.v [0, 1, 2, 3, 4, 5, 6, 7, 8, 9] (.fin)) ([]) (h := ?_); refine wkX ?_)
    (repeat (first | refine wkH ?_ | (refine tC rfl rfl ?_ ?_; focus (exact ⟨by omega, by omega⟩))))
    repeat (refine wkT ?_; try intro _)
    repeat (first | (refine wkB ?_; try intro _) | (refine sC rfl rfl ?_ ?_; focus (exact ⟨by omega, by omega⟩)) | (refine sN rfl rfl ?_ ?_; (focus (exact ⟨by omega, by omega⟩)); intro _; (try simp only [List.cons_append, List.nil_append, List.append_nil])))
    exact jx_loop (m + 1) hlt sbB slB (by omega)
  · repeat (refine wkB ?_; try intro _)
    exact jx_ret_tmp rfl rfl (fun w hw => ret_ok hw)
instance sm_sameRuns (w0 : World) (L : List Blk) (v1 v2 : Value) (ps : List (R_api_Interval × List SS)) [h1 : RunC w0 L v1 ps] [h2 : RunC w0 L v2 ps] : SpecM Tryz.prog w0 L 34 [v1, v2] (.bool true) (ps.length ≤ 1048576 ∧ ∀ p ∈ ps, p.2.length ≤ 1048576) := ⟨fun hp w hw => sameRuns_spec v1 v2 ps w (h1.out w hw) (h2.out w hw) hp.1 hp.2⟩
structure BOk (ps : List (R_api_Interval × List SS)) : Prop where
  l : ps.length ≤ 64
  p : ∀ p ∈ ps, p.2.length ≤ 1024 ∧ Bnd p.2
  n : (b1s ps).length ≤ 19
  u : ∀ u ∈ (b1s ps).map toU, UIn u
theorem buildR_spec (v : Value) (ps : List (R_api_Interval × List SS)) (w : World) (h : RunA w v ps) (hp : BOk ps) :
    Calls Tryz.prog 24 [v].toArray w (RetM (SlS rP 36 (mNorm (b1s ps))) (fun s => .tuple #[vSl s, .int .i64 (nrmE ((b1s ps).map toU))]) (fun s => mS 68 s) w) := by
  obtain ⟨rs, e1, a1, m1⟩ := h.ex
  have hb : bA rs rs.length = b1s ps := by rw [bA_b1s rs.length (Nat.le_refl _), List.take_length, e1]
  have hr : rs.length = ps.length := by rw [← e1, List.length_map]
  have key := build_spec v rs w a1 (by have := hp.l; omega) (fun r hr => by
    have hm : (r.I, r.pts) ∈ ps := by rw [← e1]; exact List.mem_map.2 ⟨r, hr, rfl⟩
    exact ⟨(hp.p _ hm).1, (hp.p _ hm).2, m1 r hr⟩) (by rw [hb]; exact hp.n) (by rw [hb, mpN_map]; exact hp.u)
  rw [hb, mpN_map toU] at key
  exact key
instance sr_buildR (w0 : World) (L : List Blk) (v : Value) (ps : List (R_api_Interval × List SS)) [h : RunC w0 L v ps] : SpecR Tryz.prog w0 L 24 [v] (SlS rP 36 (mNorm (b1s ps))) (fun s => .tuple #[vSl s, .int .i64 (nrmE ((b1s ps).map toU))]) (fun s => mS 68 s) (BOk ps) := ⟨fun hp w hw => buildR_spec v ps w (h.out w hw) hp⟩
theorem rns_same {us : List PU} (h : PNf us) : rns (cP us) us = rns (fstU us) us := by
  unfold rns
  rw [rn_congr (c := cP us) (d := fstU us) us.length (fun j hj => first_iff h hj)]
theorem PFine.pn {us : List PU} (h : PFine us) : PNf us := ⟨h.nf, fun u hu => ⟨⟨(h.k u hu).i.r1, (h.k u hu).i.n1⟩, ⟨(h.k u hu).i.r2, (h.k u hu).i.n2⟩⟩⟩
instance sr_runs (w0 : World) (L : List Blk) (v : Value) (us : List PU) [h : LstC w0 L v PU rP us] : SpecR Tryz.prog w0 L 28 [v] (RunsO (rns (fstU us) us)) (fun s => .tuple #[vSl s.o, .int .i64 0]) (fun s => s.mem) (PFine us) := ⟨fun hp w hw => by
  have key := runs_spec v us w (h.out w hw) hp
  rw [rns_same hp.pn] at key
  exact key⟩
instance sr_rruns (w0 : World) (L : List Blk) (v : Value) (us : List PU) [h : LstC w0 L v PU rP us] : SpecR Tryz.prog w0 L 35 [v] (RunsO (rns (fstU us) us)) (fun s => vSl s.o) (fun s => s.mem) (PFine us) := ⟨fun hp w hw => rruns_spec v us w (h.out w hw) hp⟩
/-- Each breakpoint of a run is the place of a unit at one of its ends. -/
def OfU (l : List PU) (s : SS) : Prop := ∃ u ∈ l, s = smq u.F u.In.From ∨ s = smq u.F u.In.To
theorem rn_of {c : Nat → Bool} {l : List PU} : ∀ m, m ≤ l.length → ((∀ p ∈ (rn c l m).dn, ∀ s ∈ p.2, OfU l s) ∧ ∀ s ∈ (rn c l m).P, OfU l s)
  | 0, _ => ⟨(fun p hp => by cases hp), (fun s hs => by cases hs)⟩
  | m + 1, hm => by
    obtain ⟨h1, h2⟩ := rn_of (c := c) (l := l) m (by omega)
    have hu : gi l (m : Int) ∈ l := gi_mem (by omega)
    have hP : ∀ P : List SS, (∀ s ∈ P, OfU l s) → ∀ s ∈ rnP (gi l (m : Int)) P, OfU l s := fun P hP s hs => by
      unfold rnP at hs
      split at hs
      · exact hP s hs
      · rcases List.mem_append.1 hs with k | k
        · exact hP s k
        · exact ⟨_, hu, .inr (List.mem_singleton.1 k)⟩
    have hD : ∀ p ∈ rnD (rn c l m), ∀ s ∈ p.2, OfU l s := fun p hp => by
      unfold rnD at hp
      split at hp
      · exact h1 p hp
      · rcases List.mem_append.1 hp with k | k
        · exact h1 p k
        · rw [List.mem_singleton.1 k]
          exact h2
    rw [rn]
    split
    · exact ⟨hD, hP _ fun s hs => ⟨_, hu, .inl (List.mem_singleton.1 hs)⟩⟩
    · exact ⟨h1, hP _ h2⟩
theorem rns_of {c : Nat → Bool} {l : List PU} : ∀ p ∈ rns c l, ∀ s ∈ p.2, OfU l s := fun p hp => by
  obtain ⟨h1, h2⟩ := rn_of (c := c) (l := l) l.length (Nat.le_refl _)
  unfold rns rnD at hp
  split at hp
  · exact h1 p hp
  · rcases List.mem_append.1 hp with k | k
    · exact h1 p k
    · rw [List.mem_singleton.1 k]
      exact h2
theorem rns_len (c : Nat → Bool) (l : List PU) : (rns c l).length ≤ l.length ∧ ∀ p ∈ rns c l, p.2.length ≤ l.length + 1 := by
  obtain ⟨h1, h2, h3, h4⟩ := rn_len c l l.length
  refine ⟨h1, fun p hp => ?_⟩
  unfold rns rnD at hp
  split at hp
  · exact h4 p hp
  · rcases List.mem_append.1 hp with k | k
    · exact h4 p k
    · rw [List.mem_singleton.1 k]
      exact h3
theorem good_fine {n : Nat} {us : List PU} (h : PGood 276 n us) (hn : n ≤ 19) : PFine us := ⟨h.nf.nf, fun u hu => (h.k u hu).uin (by decide), Nat.le_trans h.n hn⟩
theorem smq_K {u : PU} (h : UK 276 (toU u)) {t : R_api_Real} (ht : M t.P ≤ 276) : M (smq u.F t).T ≤ PB ∧ M (smq u.F t).P.X ≤ PB ∧ M (smq u.F t).P.Y ≤ PB := by
  have h1 := lred_K h.f ht
  exact ⟨Nat.le_trans ht (by decide), Nat.le_trans h1.x0 (by decide), Nat.le_trans h1.y0 (by decide)⟩
theorem rns_ok {us : List PU} (h : PGood 276 12 us) : BOk (rns (fstU us) us) := by
  have hl := rns_len (fstU us) us
  have hn := h.n
  have hf := good_fine h (by decide)
  refine ⟨by omega, fun p hp => ⟨by have := hl.2 p hp; omega, bnd_of fun s hs => ?_⟩, by rw [rns_law h.nf]; omega, fun u hu => ?_⟩
  · obtain ⟨u, hu, k | k⟩ := rns_of p hp s hs
    · rw [k]; exact smq_K (h.k u hu) (h.k u hu).i.m1
    · rw [k]; exact smq_K (h.k u hu) (h.k u hu).i.m2
  · rw [rns_law h.nf] at hu
    obtain ⟨x, hx, rfl⟩ := List.mem_map.1 hu
    exact hf.k x hx
theorem mNorm_same {us : List PU} (h : PFine us) : mNorm us = us ∧ nrmE (us.map toU) = 0 := by
  have h1 := nrm_same (us := us.map toU) (by rw [map_toU]; exact h.nf) (fun u hu => by
    obtain ⟨x, hx, rfl⟩ := List.mem_map.1 hu
    exact h.k x hx)
  refine ⟨?_, h1.2.1⟩
  unfold mNorm
  rw [mpN_map toU, h1.1, mpN_map ofU, List.map_map]
  exact List.map_id'' (fun _ => rfl) us
instance ld_e2C (a b : Int) : LdC Tryz.prog 58 (e2C a b) 0 (.agg (e2C a b)) := ⟨ldv_agg 2 (by kernel_rfl) (by kernel_rfl) (by kernel_rfl)⟩
set_option maxHeartbeats 4000000 in
theorem simplifyRuns_spec (c : viatorlaw15_Car) (ss : List Stp15) (a1 a2 : Int) (w : World) (g1 : 0 ≤ a1 ∧ a1 ≤ 255) (g2 : 0 ≤ a2 ∧ a2 ≤ 255) (hc : CarIn w c ss) :
    Calls Tryz.prog 6 [.agg (e_viatorlaw15_Car c), .agg (e2C a1 a2)].toArray w (Ret (.bool true) w) := by
  have : CarC w c ss := ⟨hc⟩
  have hcl := hc.l
  refine fn_intro Tryz.func6 rfl Tryz.ntmps6 rfl ?_
  repeat (refine wkB ?_; try intro _)
  rename_i b2 b3
  by_cases h6 : (c.Steps.len : Int) ≤ 6
  · simp only [decide_eq_true h6, Bool.not_true]
    have hg := mvL_good (c := c) (ss := ss) (a1 := a1) (a2 := a2) (hc.ok (by omega)) g1 g2
    have hok := rns_ok hg
    have hfn := good_fine hg (by decide)
    have hl := rns_len (fstU (mvL c ss a1 a2)) (mvL c ss a1 a2)
    have hlaw := rns_law hg.nf
    have hsm := mNorm_same hfn
    have hn := hg.n
    have hl2 : (rns (fstU (mvL c ss a1 a2)) (mvL c ss a1 a2)).length ≤ 1048576 ∧ ∀ p ∈ rns (fstU (mvL c ss a1 a2)) (mvL c ss a1 a2), p.2.length ≤ 1048576 := ⟨by omega, fun p hp => by have := hl.2 p hp; omega⟩
    have hl3 : (mNorm (b1s (rns (fstU (mvL c ss a1 a2)) (mvL c ss a1 a2)))).length ≤ 1048576 ∧ (mvL c ss a1 a2).length ≤ 1048576 := ⟨by rw [hlaw, hsm.1]; omega, by omega⟩
    have hpre : (0 ≤ a1 ∧ a1 ≤ 255) ∧ (0 ≤ a2 ∧ a2 ≤ 255) ∧ ss.length ≤ 6 := ⟨g1, g2, by omega⟩
    have hE : nrmE ((b1s (rns (fstU (mvL c ss a1 a2)) (mvL c ss a1 a2))).map toU) = 0 := by rw [hlaw]; exact hsm.2
    have hS : decide (mNorm (b1s (rns (fstU (mvL c ss a1 a2)) (mvL c ss a1 a2))) = mvL c ss a1 a2) = true := decide_eq_true (by rw [hlaw]; exact hsm.1)
    repeat (first | (refine wkB ?_; try intro _) | (refine sC rfl rfl ?_ ?_; focus (first | exact hpre | exact hfn | exact hok | exact hl2 | exact hl3)) | (refine sN rfl rfl ?_ ?_; (focus (first | exact hpre | exact hfn | exact hok | exact hl2 | exact hl3)); intro _; (try simp only [List.cons_append, List.nil_append, List.append_nil])))
    simp only [hE]
    repeat (first | (refine wkB ?_; try intro _) | (refine sC rfl rfl ?_ ?_; focus (first | exact hpre | exact hfn | exact hok | exact hl2 | exact hl3)) | (refine sN rfl rfl ?_ ?_; (focus (first | exact hpre | exact hfn | exact hok | exact hl2 | exact hl3)); intro _; (try simp only [List.cons_append, List.nil_append, List.append_nil])))
    simp only [hS]
    repeat (refine wkB ?_; try intro _)
    exact jx_ret_tmp rfl rfl (fun w hw => ret_ok hw)
  · simp only [decide_eq_false h6, Bool.not_false]
    repeat (refine wkB ?_; try intro _)
    exact jx_ret_tmp rfl rfl (fun w hw => ret_ok hw)
end Go.Vt
/- The card of SimplifyRuns. Conditions: none. -/
set_option linter.unusedSimpArgs false
set_option linter.unusedVariables false
set_option maxHeartbeats 2000000
namespace Go.Proofs.YtgcjapcminakdaaGreatDoor
open Go.ChangeShapes Go.WideShapes Go.ChangeAt Go.RowKit Go.Deep
set_option maxRecDepth 100000
def rArgs : Array Value := #[.agg #[.int .u8 0, .int .u8 0, .int .u8 0, .slice none 0 0], .agg #[.int .u8 0, .int .u8 0]]
theorem runs_reads (os : Os) {H : Type} (enc : TypeId × Value → H) : ∃ places, DataW.whole enc Tryz.prog ((laidWorld os).forCall (fun _ _ => 0) ⟨#[], rArgs, []⟩).memory Tryz.f6.params.toList Rows.simplifyRunsSpec.vars false rArgs.toList 8 = some ([.agg [.lit (.int .u8 0), .lit (.int .u8 0), .lit (.int .u8 0), .nil], .agg [.lit (.int .u8 0), .lit (.int .u8 0)]], [], places) :=
  ⟨[], by kernel_rfl⟩
theorem runs_contract (H : Type) (enc : TypeId × Value → H) (W : World) (base : Nat) (args : Array Value) (ds gs : List (DataW H)) (before : List MemPlace)
    (hval : ∀ (j : Nat) t v, Tryz.f6.params[j]? = some t → args[j]? = some v → Value.okWide Tryz.prog W .any base t v)
    (hW : DataW.Whole enc Tryz.prog Tryz.f6.params.toList Rows.simplifyRunsSpec.vars false W args.toList ds gs before) :
    Calls Tryz.prog 6 args W fun e W' => ∃ v, e = .returned v ∧ Rows.simplifyRunsSpec.post enc Tryz.prog Tryz.f6 false true false false W args v W' := by
  have hW' := hW
  obtain ⟨p, q, hA0, hV, rfl, hfz, hnd⟩ := hW
  have hA : DataW.TrodAll enc Tryz.prog W 0 (fun _ => true) true Tryz.f6.params.toList args.toList ds p := hA0
  rw [Tryz.params6] at hA hval
  obtain ⟨v0, vs0, d0, ds0, p0, q0, hargs, rfl, rfl, h0, r0⟩ := trodAll_cons hA
  obtain ⟨v1, vs1, d1, ds1, p1, q1, hargs1, rfl, rfl, h1, r1⟩ := trodAll_cons r0
  subst hargs1
  obtain ⟨rfl, rfl, rfl⟩ := trodAll_nil r1
  obtain rfl : args = #[v0, v1] := by cases args; simp_all
  obtain ⟨rfl, rfl⟩ := trodVars_none hV
  clear hA0
  simp only [List.append_nil] at hW'
  have hlt : ∀ x ∈ p0 ++ p1, x.block < W.heap.size := fun x hx => by simpa using hW'.lt x hx
  have h0k := h0
  have h1k := h1
  obtain ⟨a1, a2, rfl, g1, g2⟩ := open_two (hval 1 58 v1 rfl rfl) h1
  obtain ⟨c, ss, rfl, hc⟩ := open_car (hval 0 78 v0 rfl rfl) h0
  refine (Go.Vt.simplifyRuns_spec c ss a1 a2 W g1 g2 hc).mono fun e' W' ⟨he', ⟨hb, _⟩⟩ => ?_
  subst he'
  exact ⟨_, rfl, ⟨_, _, _, [], _, [], hW', trodAll_mk1 (shut_bool Tryz.underlying4 _), trodAll_mk2 (Below.trod rlaidOut (by kernel_rfl) (of_decide_eq_true (by kernel_rfl)) h0k hb (fun x hx => hlt x (List.mem_append_left _ hx))) (Below.trod rlaidOut (by kernel_rfl) (of_decide_eq_true (by kernel_rfl)) h1k hb (fun x hx => hlt x (List.mem_append_right _ hx))), (by first | rfl | (simp; done)), hb.frame _, fun h => by cases h⟩⟩
theorem runs_lifted (os : Os) (started : os.Started) (H : Type) (enc : TypeId × Value → H) (F : Stop.Interp) :
    ReturnsInHanded {} Tryz.checked os 6 .any ((OpenSpec.ofChange Rows.simplifyRunsSpec).preRow enc Tryz.prog Tryz.f6 Rows.simplifyRunsRow.domain false Rows.simplifyRunsRow.laid) (((OpenSpec.ofChange Rows.simplifyRunsSpec).at F).post enc Tryz.prog Tryz.f6 false true false false) := by
  obtain ⟨places, hx⟩ := runs_reads os enc
  refine returnsInHanded_of_row (C := Tryz.checked) (s := OpenSpec.ofChange Rows.simplifyRunsSpec) rown started (by kernel_rfl) Tryz.func6
    (witness_row_at (enc := enc) (C := Tryz.checked) false (laidWorld os) rArgs rfl (by kernel_rfl) (by kernel_rfl) (by kernel_rfl)
      (OpenSpec.preRow_of_cond 8 hx (by kernel_rfl) (fun k hk => by cases hk) (by kernel_rfl) (laid_met os _))) ?_
  intro W base args ds gs before hval hW _ _ _ _ _ _
  exact runs_contract H enc W base args ds gs before hval hW
theorem runs_said : Rows.SimplifyRunsSaid :=
  OpenClaim.holds_of_cond 6 Tryz.f6 rfl rfl rfl rfl rfl rfl rfl ⟨rfl, rfl, rfl, rfl, rfl⟩ rfl rfl rfl rfl rfl (by kernel_rfl) Tryz.func6 (by kernel_rfl)
    (of_decide_eq_true (by kernel_rfl)) (by unfold Func.isWrapper; first | (rw [if_pos (by decide +kernel)]; kernel_rfl) | (rw [if_neg (by decide +kernel)]; exact ⟨rfl, rfl⟩))
    (fun os started H enc _ F => by rw [OpenClaim.pre_eq_preRow]; exact runs_lifted os started H enc F)
theorem runs_plain (f : FuncId) (fn : Func) (hf : Tryz.pinned.checked.prog.funcNamed "viator/viatorlaw31.SimplifyRuns" = some f) (hfn : Tryz.pinned.checked.prog.funcs[f]? = some fn) :
    false = Tryz.pinned.checked.prog.looks [] ∧ ∀ (j : Nat) t, fn.params[j]? = some t → Tryz.pinned.checked.prog.wantsStandIn t = false := by
  obtain rfl : f = 6 := Option.some.inj ((show Tryz.prog.funcNamed "viator/viatorlaw31.SimplifyRuns" = some 6 by kernel_rfl).symm.trans hf) |>.symm
  obtain rfl : fn = Tryz.f6 := (Option.some.inj (Tryz.func6.symm.trans hfn)).symm
  refine ⟨by kernel_rfl, fun j t ht => ?_⟩
  rw [Tryz.params6] at ht
  have := Array.mem_of_getElem? ht
  simp at this
  rcases this with rfl | rfl
  · exact (show Tryz.prog.wantsStandIn 78 = false by kernel_rfl)
  · exact (show Tryz.prog.wantsStandIn 58 = false by kernel_rfl)
/-- The card. -/
theorem simplifyRuns_card : Rows.SimplifyRunsCardSaid :=
  Claim7.holds_tied_plain_at .later [] _ _ _ _ runs_said (fun _ h => by cases h) (by kernel_rfl) (fun _ h => by cases h) simplifyRuns_row_tie rfl ⟨rfl, rfl⟩ (by kernel_rfl) rfl runs_plain (by kernel_rfl)
end Go.Proofs.YtgcjapcminakdaaGreatDoor
