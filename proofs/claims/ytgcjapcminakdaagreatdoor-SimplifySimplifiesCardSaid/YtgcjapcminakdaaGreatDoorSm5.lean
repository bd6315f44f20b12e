/- SimplifySimplifies holds for every input that the card takes. Conditions: none. (part 5 of 6.) Conditions: those that each statement names. -/
import Derived.RangeFuncNested
import Derived.OrdersIn
import Derived.Test.YtgcjapcminakdaaGreatDoorSm4
/- Runs made into moving points by two roads: plain. Conditions: those that each statement names. -/
set_option linter.unusedSimpArgs false
set_option linter.unusedVariables false
set_option maxHeartbeats 2000000
set_option maxRecDepth 100000
namespace Go.Vt
open Go.RowKit Go.Proofs
open Fv (va red)
/-- A run as the program makes them, its times moved or not. -/
structure RLn (N : Nat) (r : RD) : Prop where
  fr : r.I.From = ⟨(gi r.pts 0).T, 0, false⟩
  to : r.I.To = ⟨(gi r.pts ((r.pts.length - 1 : Nat) : Int)).T, 0, false⟩
  fl : r.pts.length = 1 → r.I.OpenFrom = false ∧ r.I.OpenTo = false
  B : Bnd r.pts
  i : Inc r.pts
  l1 : 1 ≤ r.pts.length
  l2 : r.pts.length ≤ N
  nb : N ≤ 13
abbrev K0 : Nat := 6291460
abbrev K1 : Nat := 4 * K0 + 4
abbrev K2 : Nat := 4 * K1 + 4
theorem stl_K {pts : List SS} (hB : Bnd pts) (i : Nat) : LnOk K0 (stl (gi pts (i : Int)) (gi pts ((i + 1 : Nat) : Int))) := by
  obtain ⟨h1, h2, h3⟩ := hB (i : Int)
  obtain ⟨h4, h5, h6⟩ := hB ((i + 1 : Nat) : Int)
  have := MB.mk h1
  have := MB.mk h2
  have := MB.mk h3
  have := MB.mk h4
  have := MB.mk h5
  have := MB.mk h6
  exact ⟨MB.lt (q := (stl (gi pts (i : Int)) (gi pts ((i + 1 : Nat) : Int))).X0) rfl, MB.lt (q := (stl (gi pts (i : Int)) (gi pts ((i + 1 : Nat) : Int))).X1) rfl, MB.lt (q := (stl (gi pts (i : Int)) (gi pts ((i + 1 : Nat) : Int))).Y0) rfl, MB.lt (q := (stl (gi pts (i : Int)) (gi pts ((i + 1 : Nat) : Int))).Y1) rfl⟩
theorem K_one : K0 ≤ K1 ∧ K1 ≤ KN ∧ K0 ≤ KN ∧ K2 ≤ KN ∧ PB ≤ K0 ∧ KN ≤ BQ := by decide
theorem sgU_K {pts : List SS} (hB : Bnd pts) (i : Nat) : UK K0 (toU (sgU pts i)) :=
  ⟨⟨rfl, rfl, rfl, rfl, Nat.le_trans (hB (i : Int)).1 K_one.2.2.2.2.1, Nat.le_trans (hB ((i + 1 : Nat) : Int)).1 K_one.2.2.2.2.1⟩, stl_K hB i⟩
theorem bsU_K {I : R_api_Interval} {pts : List SS} (hB : Bnd pts) (i : Nat) : UK K0 (toU (bsU I pts i)) :=
  ⟨⟨rfl, rfl, rfl, rfl, Nat.le_trans (hB (i : Int)).1 K_one.2.2.2.2.1, Nat.le_trans (hB ((i + 1 : Nat) : Int)).1 K_one.2.2.2.2.1⟩, stl_K hB i⟩
def bW (I : R_api_Interval) (pts : List SS) (m : Nat) : List UL := (bs I pts m).map toU
theorem bW_succ (I : R_api_Interval) (pts : List SS) (m : Nat) : bW I pts (m + 1) = bW I pts m ++ [toU (bsU I pts m)] := by
  show ((bs I pts m ++ [bsU I pts m]).map toU) = _
  rw [List.map_append]
  rfl
theorem bW_mem {I : R_api_Interval} {pts : List SS} {u : UL} : ∀ {m : Nat}, u ∈ bW I pts m ↔ ∃ i, i < m ∧ u = toU (bsU I pts i)
  | 0 => by
    constructor
    · intro h; cases h
    · rintro ⟨i, h, -⟩; omega
  | m + 1 => by
    rw [bW_succ, List.mem_append, bW_mem, List.mem_singleton]
    constructor
    · rintro (⟨i, h1, h2⟩ | h)
      · exact ⟨i, by omega, h2⟩
      · exact ⟨m, by omega, h⟩
    · rintro ⟨i, h1, h2⟩
      rcases (by omega : i < m ∨ i = m) with h3 | h3
      · exact .inl ⟨i, h3, h2⟩
      · exact .inr (h3 ▸ h2)
theorem sgW_mem' {pts : List SS} {m : Nat} {u : UL} : u ∈ sgW pts m ↔ ∃ i, i < m ∧ u = toU (sgU pts i) := by
  refine ⟨sgW_mem, ?_⟩
  rintro ⟨i, h, rfl⟩
  rw [← sgW_get h]
  exact gi_mem (by rw [sgW_len]; omega)
theorem bsU_mem {N : Nat} {r : RD} (h : RLn N r) {i : Nat} (hi : i + 1 < r.pts.length) (t : Rat) : memI (bsU r.I r.pts i).In t ↔ memI (sgU r.pts i).In t ∧ memI r.I t := by
  have e1 : r.I.From.P = (gi r.pts ((0 : Nat) : Int)).T := by rw [h.fr]; rfl
  have e2 : r.I.To.P = (gi r.pts ((r.pts.length - 1 : Nat) : Int)).T := by rw [h.to]
  have k1 := h.i i hi
  have k2 : 0 < i → (gi r.pts ((0 : Nat) : Int)).T < (gi r.pts (i : Int)).T := fun h0 => h.i.lt h0 (by omega)
  have k3 : i + 2 < r.pts.length → (gi r.pts ((i + 1 : Nat) : Int)).T < (gi r.pts ((r.pts.length - 1 : Nat) : Int)).T := fun h0 => h.i.lt (by omega) (by omega)
  unfold memI bsU sgU
  simp only [e1, e2]
  rcases (by omega : i = 0 ∨ 0 < i) with h0 | h0
  · subst h0
    rcases (by omega : 0 + 2 = r.pts.length ∨ 0 + 2 < r.pts.length) with h4 | h4
    · rw [if_pos rfl, if_pos h4, show r.pts.length - 1 = 0 + 1 by omega]
      have : decide ((1 : Int) < ((0 + 1 : Nat) : Int)) = false := by decide
      rw [this]
      grind
    · have := k3 h4
      rw [if_pos rfl, if_neg (by omega)]
      have : decide ((1 : Int) < ((0 + 1 : Nat) : Int)) = false := by decide
      rw [this]
      grind
  · have := k2 h0
    have e3 : decide ((1 : Int) < ((i + 1 : Nat) : Int)) = true := decide_eq_true (by omega)
    rw [e3, if_neg (by omega)]
    rcases (by omega : i + 2 = r.pts.length ∨ i + 2 < r.pts.length) with h4 | h4
    · rw [if_pos h4, show r.pts.length - 1 = i + 1 by omega]
      grind
    · have := k3 h4
      rw [if_neg (by omega)]
      grind
theorem bsU_bfr {N : Nat} {r : RD} (h : RLn N r) {i m : Nat} (him : i < m) (hm : m + 1 < r.pts.length) : (absU (toU (bsU r.I r.pts i))).bfr (absU (toU (bsU r.I r.pts m))) := by
  rcases (by omega : i + 1 = m ∨ i + 1 < m) with h1 | h1
  · subst h1
    exact .inr ⟨rfl, .inr (by show (if i + 1 = 0 then r.I.OpenFrom else true) = true; rw [if_neg (by omega)])⟩
  · exact .inl (h.i.lt h1 (by omega))
theorem bsU_lt {N : Nat} {r : RD} (h : RLn N r) {i : Nat} (hi : i + 1 < r.pts.length) : (absU (toU (bsU r.I r.pts i))).a < (absU (toU (bsU r.I r.pts i))).b := h.i i hi
theorem bW_pw {N : Nat} {r : RD} (h : RLn N r) : ∀ m, m + 1 ≤ r.pts.length → ((bW r.I r.pts m).map absU).Pairwise Dis
  | 0, _ => List.Pairwise.nil
  | m + 1, hm => by
    rw [bW_succ, List.map_append, List.pairwise_append]
    refine ⟨bW_pw h m (by omega), List.pairwise_singleton _ _, fun u hu w hw => ?_⟩
    obtain ⟨x, hx, rfl⟩ := List.mem_map.1 hu
    obtain ⟨i, h1, rfl⟩ := bW_mem.1 hx
    obtain rfl := List.mem_singleton.1 hw
    exact (bsU_bfr h h1 (by omega)).Dis
theorem bW_has {N : Nat} {r : RD} (h : RLn N r) {m : Nat} (hm : m + 1 ≤ r.pts.length) {t : Rat} {v : R_api_Point} : Has ((bW r.I r.pts m).map absU) t v ↔ Has ((sgW r.pts m).map absU) t v ∧ memI r.I t := by
  rw [has_map, has_map]
  constructor
  · rintro ⟨u, hu, h1, h2⟩
    obtain ⟨i, h3, rfl⟩ := bW_mem.1 hu
    obtain ⟨h4, h5⟩ := (bsU_mem h (by omega) t).1 h1
    exact ⟨⟨_, sgW_mem'.2 ⟨i, h3, rfl⟩, h4, h2⟩, h5⟩
  · rintro ⟨⟨u, hu, h1, h2⟩, h5⟩
    obtain ⟨i, h3, rfl⟩ := sgW_mem'.1 hu
    exact ⟨_, bW_mem.2 ⟨i, h3, rfl⟩, (bsU_mem h (by omega) t).2 ⟨h1, h5⟩, h2⟩
/-- Units that go on from one another have a normal form that is no longer. -/
theorem bW_short {N : Nat} {r : RD} (h : RLn N r) : ∀ m, m + 2 ≤ r.pts.length → ∃ (ys : List (GU Rat R_api_Line)) (u : GU Rat R_api_Line), NF (ys ++ [u]) ∧ (∀ t v, Has (ys ++ [u]) t v ↔ Has ((bW r.I r.pts (m + 1)).map absU) t v) ∧ ys.length ≤ m ∧ u.b = (gi r.pts ((m + 1 : Nat) : Int)).T ∧ (m + 2 < r.pts.length → u.ob = false) ∧ u.a < u.b
  | 0, hm => by
    refine ⟨[], absU (toU (bsU r.I r.pts 0)), NF.one (.inl (bsU_lt h (by omega))) (fun k => ?_), fun t v => Iff.rfl, Nat.le_refl _, rfl, fun k => ?_, bsU_lt h (by omega)⟩
    · have := bsU_lt h (i := 0) (by omega)
      rw [k] at this
      exact absurd this (by grind)
    · show (if 0 + 2 = r.pts.length then r.I.OpenTo else false) = false
      rw [if_neg (by omega)]
  | m + 1, hm => by
    obtain ⟨ys, u, h1, h2, h3, h4, h5, h6⟩ := bW_short h m (by omega)
    have h7 := h5 (by omega)
    obtain ⟨x, hx⟩ : ∃ x, x = absU (toU (bsU r.I r.pts (m + 1))) := ⟨_, rfl⟩
    have x1 : x.a = u.b := by rw [hx, h4]; rfl
    have x2 : x.a < x.b := by rw [hx]; exact bsU_lt h (by omega)
    have x3 : x.oa = true := by rw [hx]; show (if m + 1 = 0 then r.I.OpenFrom else true) = true; rw [if_neg (by omega)]
    have x4 : x.b = (gi r.pts ((m + 1 + 1 : Nat) : Int)).T := by rw [hx]; rfl
    have x5 : m + 1 + 2 < r.pts.length → x.ob = false := fun k => by rw [hx]; show (if m + 1 + 2 = r.pts.length then r.I.OpenTo else false) = false; rw [if_neg (by omega)]
    have x6 : ∀ t v, Has ((bW r.I r.pts (m + 1 + 1)).map absU) t v ↔ Has (ys ++ [u]) t v ∨ (x.mem t ∧ va x.f t = v) := fun t v => by
      rw [bW_succ, List.map_append, has_app, h2, hx]
      exact or_congr Iff.rfl has_one
    by_cases hf : u.f = x.f
    · refine ⟨ys, ⟨u.a, x.b, u.oa, x.ob, u.f⟩, NF.last h1 rfl rfl rfl (by show u.a < x.b; grind), fun t v => ?_, by omega, x4, x5, by show u.a < x.b; grind⟩
      rw [x6, has_last, has_last, or_assoc]
      refine or_congr Iff.rfl ?_
      show GU.mem ⟨u.a, x.b, u.oa, x.ob, u.f⟩ t ∧ va u.f t = v ↔ _
      rw [← hf, ← or_and_right]
      refine and_congr ?_ Iff.rfl
      unfold GU.mem
      simp only
      grind
    · refine ⟨ys ++ [u], x, NF.snoc h1 (.inl x2) (fun k => ?_) ⟨.inr ⟨x1.symm, .inr x3⟩, fun _ _ _ => hf, fun _ k => ?_, fun _ k => ?_⟩, fun t v => ?_, by rw [List.length_append]; simpa using h3, x4, x5, x2⟩
      · rw [k] at x2; exact absurd x2 (by grind)
      · rw [x3] at k; cases k
      · rw [k] at h6; exact absurd h6 (by grind)
      · rw [x6, has_last]
def frW (pts : List SS) : List UL := mpN toU (frS pts) (frS pts).length
theorem frW_one {pts : List SS} (h : pts.length = 1) : frW pts = [toU (one1 (gi pts 0))] := by
  unfold frW
  rw [mpN_all]
  have : frS pts = [one1 (gi pts 0)] := by unfold frS; rw [if_pos h]
  rw [this]
  rfl
theorem one_K {pts : List SS} (hB : Bnd pts) : UK K0 (toU (one1 (gi pts 0))) := by
  have h0 : M 0 ≤ K0 := by decide
  have h1 := K_one.2.2.2.2.1
  exact ⟨⟨rfl, rfl, rfl, rfl, Nat.le_trans (hB 0).1 h1, Nat.le_trans (hB 0).1 h1⟩, ⟨Nat.le_trans (hB 0).2.1 h1, h0, Nat.le_trans (hB 0).2.2 h1, h0⟩⟩
/-- The units of the first road. -/
def b1W (r : RD) : List UL := (b1 r.I r.pts).map toU
theorem RLn.one {N : Nat} {r : RD} (h : RLn N r) (h1 : r.pts.length = 1) : b1W r = frW r.pts ∧ r.I = (one1 (gi r.pts 0)).In := by
  have e1 : r.I = (one1 (gi r.pts 0)).In := by
    obtain ⟨f1, f2⟩ := h.fl h1
    have f3 := h.fr
    have f4 := h.to
    rw [h1] at f4
    cases hI : r.I with
    | mk a b c d =>
      rw [hI] at f1 f2 f3 f4
      simp only at f1 f2 f3 f4
      rw [f1, f2, f3, f4]
      rfl
  refine ⟨?_, e1⟩
  rw [frW_one h1]
  unfold b1W b1
  rw [if_pos h1, e1]
  rfl
theorem RLn.two {r : RD} (h1 : ¬ r.pts.length = 1) : b1W r = bW r.I r.pts (r.pts.length - 1) := by
  unfold b1W b1 bW
  rw [if_neg h1]
theorem RLn.iv {N : Nat} {r : RD} (h : RLn N r) : IvOk K0 r.I := by
  have h1 := K_one.2.2.2.2.1
  exact ⟨by rw [h.fr], by rw [h.to], by rw [h.fr], by rw [h.to], by rw [h.fr]; exact Nat.le_trans (h.B _).1 h1, by rw [h.to]; exact Nat.le_trans (h.B _).1 h1⟩
/-- What a list of units is, that the normal form asks for. -/
structure Fit (K : Nat) (A : List UL) : Prop where
  k : ∀ u ∈ A, UK K u
  o : ∀ u ∈ A, (absU u).ok
  p : (A.map absU).Pairwise Dis
theorem Fit.val {K : Nat} {A : List UL} (h : Fit K A) (hk : K ≤ KN) : UVal A := ⟨fun u hu => (h.k u hu).uin hk, h.o⟩
theorem one_fit {pts : List SS} (hB : Bnd pts) : Fit K0 [toU (one1 (gi pts 0))] :=
  ⟨fun u hu => List.mem_singleton.1 hu ▸ one_K hB, fun u hu => List.mem_singleton.1 hu ▸ .inr ⟨rfl, rfl, rfl⟩, List.pairwise_singleton _ _⟩
theorem b1_fit {N : Nat} {r : RD} (h : RLn N r) : Fit K0 (b1W r) := by
  by_cases h1 : r.pts.length = 1
  · rw [(h.one h1).1, frW_one h1]
    exact one_fit h.B
  · rw [RLn.two h1]
    have := h.l1
    refine ⟨fun u hu => ?_, fun u hu => ?_, bW_pw h _ (by omega)⟩
    · obtain ⟨i, h3, rfl⟩ := bW_mem.1 hu
      exact bsU_K h.B i
    · obtain ⟨i, h3, rfl⟩ := bW_mem.1 hu
      exact .inl (bsU_lt h (by omega))
theorem fr_fit {N : Nat} {r : RD} (h : RLn N r) : Fit K1 (frW r.pts) := by
  by_cases h1 : r.pts.length = 1
  · rw [frW_one h1]
    obtain ⟨k, o, p⟩ := one_fit h.B
    exact ⟨fun u hu => (k u hu).mono K_one.1, o, p⟩
  · have := h.l1
    have e : frW r.pts = nrmR (sgW r.pts (r.pts.length - 1)) := by
      unfold frW frS
      rw [if_neg h1, mNorm_U]
      rfl
    obtain ⟨-, n1, -, -⟩ := frS_law h.B h.i (by omega)
    rw [e]
    refine ⟨nrmR_K (fun u hu => ?_), fun u hu => ?_, ?_⟩
    · obtain ⟨i, h3, rfl⟩ := sgW_mem'.1 hu
      exact sgU_K h.B i
    · rw [← e] at hu
      exact n1.ok _ (List.mem_map.2 ⟨u, hu, rfl⟩)
    · rw [← e]
      exact n1.pw.imp fun k => k.bf.Dis
theorem b1_has {N : Nat} {r : RD} (h : RLn N r) {t : Rat} {v : R_api_Point} : Has ((b1W r).map absU) t v ↔ Has ((frW r.pts).map absU) t v ∧ memI r.I t := by
  by_cases h1 : r.pts.length = 1
  · obtain ⟨e1, e2⟩ := h.one h1
    rw [e1]
    refine ⟨fun k => ⟨k, ?_⟩, fun k => k.1⟩
    rw [frW_one h1, has_map] at k
    obtain ⟨u, hu, k1, k2⟩ := k
    rw [List.mem_singleton.1 hu] at k1
    rw [e2]
    exact k1
  · have := h.l1
    rw [RLn.two h1, bW_has h (by omega)]
    obtain ⟨-, -, -, n4⟩ := frS_law h.B h.i (by omega)
    exact and_congr (n4 t v).symm Iff.rfl
/-- The units of the second road. -/
def mrW (r : RD) : List UL := mRes (frS r.pts) [r.I]
theorem mr_fit {N : Nat} {r : RD} (h : RLn N r) : Fit K1 (mrW r) := by
  obtain ⟨k, o, p⟩ := fr_fit h
  refine ⟨ro_K k (fun d hd => ?_), ro_ok, ro_pw p (List.pairwise_singleton _ _) _ (Nat.le_refl _)⟩
  rw [List.mem_singleton.1 hd]
  exact ⟨h.iv.r1, h.iv.r2, h.iv.n1, h.iv.n2, Nat.le_trans h.iv.m1 K_one.1, Nat.le_trans h.iv.m2 K_one.1⟩
theorem mr_has {N : Nat} {r : RD} (h : RLn N r) {t : Rat} {v : R_api_Point} : Has ((mrW r).map absU) t v ↔ Has ((b1W r).map absU) t v := by
  rw [b1_has h]
  refine (ro_has (us := frW r.pts) (ds := [r.I])).trans (and_congr Iff.rfl ?_)
  simp
def buW (r : RD) : List UL := mpN toU (bu r) (bu r).length
theorem buW_eq (r : RD) : buW r = nrmR (mrW r) := toU_ofU _
theorem bu_nf {N : Nat} {r : RD} (h : RLn N r) : NF ((buW r).map absU) ∧ ∀ t v, Has ((buW r).map absU) t v ↔ Has ((b1W r).map absU) t v := by
  rw [buW_eq]
  have hf := mr_fit h
  obtain ⟨n1, n2⟩ := nrm_nf (hf.val K_one.2.1) hf.p
  exact ⟨n1, fun t v => (n2 t v).trans (mr_has h)⟩
theorem bu_fit {N : Nat} {r : RD} (h : RLn N r) : Fit K2 (buW r) := by
  obtain ⟨n1, -⟩ := bu_nf h
  refine ⟨?_, fun u hu => n1.ok _ (List.mem_map.2 ⟨u, hu, rfl⟩), n1.pw.imp fun k => k.bf.Dis⟩
  rw [buW_eq]
  exact nrmR_K (mr_fit h).k
theorem frW_len {N : Nat} {r : RD} (h : RLn N r) : (frW r.pts).length ≤ 18 := by
  by_cases h1 : r.pts.length = 1
  · rw [frW_one h1]; exact Nat.le_of_ble_eq_true rfl
  · have e : frW r.pts = nrmR (sgW r.pts (r.pts.length - 1)) := by
      unfold frW frS
      rw [if_neg h1, mNorm_U]
      rfl
    have hl1 := h.l1
    have h2 := nrmR_few (sgW_val h.B h.i (m := r.pts.length - 1) (by omega))
    have h3 := sgW_len r.pts (r.pts.length - 1)
    have := h.l2
    have := h.nb
    rw [e]
    omega
theorem mr_len {N : Nat} {r : RD} (h : RLn N r) : (mrW r).length ≤ 18 := by
  have h1 := ro_len (frW r.pts) [r.I] (frW r.pts).length
  have h2 := frW_len h
  have : (mrW r).length ≤ (frW r.pts).length * 1 := h1
  omega
theorem b1W_len {N : Nat} {r : RD} (h : RLn N r) : (b1W r).length = (if r.pts.length = 1 then 1 else r.pts.length - 1) ∧ (b1W r).length ≤ 13 := by
  have := h.l1
  have := h.l2
  have := h.nb
  have e : (b1W r).length = (if r.pts.length = 1 then 1 else r.pts.length - 1) := by
    unfold b1W b1
    rw [List.length_map]
    split
    · rfl
    · rw [bs_len]
  refine ⟨e, ?_⟩
  rw [e]
  split <;> omega
theorem bu_len {N : Nat} {r : RD} (h : RLn N r) : (bu r).length ≤ (b1W r).length := by
  have e : (bu r).length = (buW r).length := (mpN_len _ _ _).symm
  rw [e, (b1W_len h).1]
  obtain ⟨n1, n2⟩ := bu_nf h
  by_cases h1 : r.pts.length = 1
  · rw [buW_eq, if_pos h1]
    have h2 := nrmR_few ((mr_fit h).val K_one.2.1)
    have h3 : (mrW r).length ≤ (frW r.pts).length * 1 := ro_len (frW r.pts) [r.I] (frW r.pts).length
    rw [frW_one h1] at h3
    simp only [List.length_singleton] at h3
    omega
  · have := h.l1
    rw [if_neg h1]
    obtain ⟨ys, u, m1, m2, m3, -⟩ := bW_short h (r.pts.length - 2) (by omega)
    have e2 : (buW r).map absU = ys ++ [u] := NF.uniq n1 m1 fun t v => by
      rw [n2, m2, RLn.two h1, show r.pts.length - 2 + 1 = r.pts.length - 1 by omega]
    have e3 := congrArg List.length e2
    rw [List.length_map, List.length_append, List.length_singleton] at e3
    omega
theorem RLn.res {N : Nat} {r : RD} (h : RLn N r) : ResOk (frS r.pts) [r.I] := by
  have hb := K_one
  have hm := fr_fit h
  have hk : ∀ {K : Nat} {I : R_api_Interval}, IvOk K I → K ≤ KN → IvOk BQ I := fun g k => ⟨g.r1, g.r2, g.n1, g.n2, Nat.le_trans g.m1 (Nat.le_trans k hb.2.2.2.2.2), Nat.le_trans g.m2 (Nat.le_trans k hb.2.2.2.2.2)⟩
  have hl : (frS r.pts).length = (frW r.pts).length := (mpN_len _ _ _).symm
  have h18 := frW_len h
  refine ⟨by omega, Nat.le_of_ble_eq_true rfl, Nat.le_trans (mr_len h) (by decide), fun u hu => hk (hm.k u hu).i hb.2.1, fun d hd => ?_, fun u hu => ((mr_fit h).k u hu).uin hb.2.1⟩
  rw [List.mem_singleton.1 hd]
  exact hk h.iv hb.2.2.1
theorem dis_app {A B : List (GU Rat R_api_Line)} : (A ++ B).Pairwise Dis ↔ A.Pairwise Dis ∧ B.Pairwise Dis ∧ ∀ t, ¬ ((∃ v, Has A t v) ∧ ∃ v, Has B t v) := by
  rw [List.pairwise_append]
  refine and_congr Iff.rfl (and_congr Iff.rfl ?_)
  constructor
  · rintro h t ⟨⟨v, u, hu, h1, -⟩, v', w, hw, h2, -⟩
    exact h u hu w hw t ⟨h1, h2⟩
  · intro h u hu w hw t ⟨h1, h2⟩
    exact h t ⟨⟨_, u, hu, h1, rfl⟩, _, w, hw, h2, rfl⟩
def bAW (rs : List RD) (m : Nat) : List UL := (bA rs m).map toU
def buAW (rs : List RD) (m : Nat) : List UL := (buA rs m).map toU
theorem bAW_succ (rs : List RD) (m : Nat) : bAW rs (m + 1) = bAW rs m ++ b1W (gi rs (m : Int)) := by
  show ((bA rs m ++ b1 _ _).map toU) = _
  rw [List.map_append]
  rfl
theorem buAW_succ (rs : List RD) (m : Nat) : buAW rs (m + 1) = buAW rs m ++ buW (gi rs (m : Int)) := by
  show ((buA rs m ++ bu _).map toU) = _
  rw [List.map_append]
  unfold buW
  rw [mpN_all]
  rfl
theorem roads {N : Nat} {rs : List RD} (h : ∀ r ∈ rs, RLn N r) : ∀ m, m ≤ rs.length → ((∀ u ∈ bAW rs m, UK K0 u ∧ (absU u).ok) ∧ (∀ u ∈ buAW rs m, UK K2 u ∧ (absU u).ok)) ∧ (∀ t v, Has ((buAW rs m).map absU) t v ↔ Has ((bAW rs m).map absU) t v) ∧ (((buAW rs m).map absU).Pairwise Dis ↔ ((bAW rs m).map absU).Pairwise Dis)
  | 0, _ => by
    refine ⟨⟨fun u hu => ?_, fun u hu => ?_⟩, fun t v => Iff.rfl, Iff.rfl⟩
    · cases hu
    · cases hu
  | m + 1, hm => by
    obtain ⟨⟨g1, g2⟩, g3, g4⟩ := roads h m (by omega)
    have hr := h _ (gi_mem (i := (m : Int)) (xs := rs) (by omega))
    have f1 := b1_fit hr
    have f2 := bu_fit hr
    obtain ⟨-, n2⟩ := bu_nf hr
    rw [bAW_succ, buAW_succ]
    refine ⟨⟨fun u hu => ?_, fun u hu => ?_⟩, fun t v => ?_, ?_⟩
    · rcases List.mem_append.1 hu with k | k
      · exact g1 u k
      · exact ⟨f1.k u k, f1.o u k⟩
    · rcases List.mem_append.1 hu with k | k
      · exact g2 u k
      · exact ⟨f2.k u k, f2.o u k⟩
    · rw [List.map_append, List.map_append, has_app, has_app, g3, n2]
    · rw [List.map_append, List.map_append, dis_app, dis_app, g4]
      refine and_congr Iff.rfl (and_congr ⟨fun _ => f1.p, fun _ => f2.p⟩ ?_)
      simp only [g3, n2]
/-- Both roads end at the same place. -/
theorem roads_meet {N : Nat} {rs : List RD} (h : ∀ r ∈ rs, RLn N r) : mNorm (bA rs rs.length) = mNorm (buA rs rs.length) ∧ nrmE (mpN toU (bA rs rs.length) (bA rs rs.length).length) = nrmE (mpN toU (buA rs rs.length) (buA rs rs.length).length) ∧ (∀ u ∈ mpN toU (bA rs rs.length) (bA rs rs.length).length, UIn u) ∧ ∀ u ∈ mpN toU (buA rs rs.length) (buA rs rs.length).length, UIn u := by
  obtain ⟨⟨g1, g2⟩, g3, g4⟩ := roads h rs.length (Nat.le_refl _)
  have hb := K_one
  unfold mNorm
  rw [mpN_all toU, mpN_all toU]
  have v1 : UVal (bAW rs rs.length) := ⟨fun u hu => (g1 u hu).1.uin hb.2.2.1, fun u hu => (g1 u hu).2⟩
  have v2 : UVal (buAW rs rs.length) := ⟨fun u hu => (g2 u hu).1.uin hb.2.2.2.1, fun u hu => (g2 u hu).2⟩
  suffices hs : nrmR (bAW rs rs.length) = nrmR (buAW rs rs.length) ∧ nrmE (bAW rs rs.length) = nrmE (buAW rs rs.length) by
    refine ⟨?_, hs.2, v1.i, v2.i⟩
    show mpN ofU (nrmR (bAW rs rs.length)) (nrmR (bAW rs rs.length)).length = mpN ofU (nrmR (buAW rs rs.length)) (nrmR (buAW rs rs.length)).length
    rw [hs.1]
  by_cases hd : ((bAW rs rs.length).map absU).Pairwise Dis
  · obtain ⟨a1, a2⟩ := nrm_nf v1 hd
    obtain ⟨c1, c2⟩ := nrm_nf v2 (g4.2 hd)
    refine ⟨absL_inj (fun u hu => (nrmR_ok v1.i u hu).i) (fun u hu => (nrmR_ok v2.i u hu).i) (NF.uniq a1 c1 fun t v => by rw [a2, c2, g3]), ?_⟩
    rw [(nrmE_0 v1).2 hd, (nrmE_0 v2).2 (g4.2 hd)]
  · have e1 := (nrmE_01 (bAW rs rs.length)).resolve_left fun k => hd ((nrmE_0 v1).1 k)
    have e2 := (nrmE_01 (buAW rs rs.length)).resolve_left fun k => hd (g4.1 ((nrmE_0 v2).1 k))
    exact ⟨by rw [e1.2, e2.2], by rw [e1.1, e2.1]⟩
theorem buA_bA {N : Nat} {rs : List RD} (h : ∀ r ∈ rs, RLn N r) : ∀ m, m ≤ rs.length → (buA rs m).length ≤ (bA rs m).length
  | 0, _ => by simp [bA, buA]
  | m + 1, hm => by
    have h1 := buA_bA h m (by omega)
    have h5 := bu_len (h _ (gi_mem (i := (m : Int)) (xs := rs) (by omega)))
    unfold b1W at h5
    rw [List.length_map] at h5
    rw [bA, buA, List.length_append, List.length_append]
    omega
end Go.Vt
/- A region that draws its order: values anywhere, effects in one of many orders; a cut that turns the list of blocks. Conditions: the closed check 'tqA'. -/
set_option linter.unusedSimpArgs false
set_option linter.unusedVariables false
set_option maxHeartbeats 2000000
set_option linter.unusedSectionVars false
namespace Go.Vt
open Go.RowKit
section
variable {P : Program} {w0 : World} {n : Nat} {ops : Array Oper} {L L' Lw : List Blk} {E : Env}
variable {Q : Exit → Act → World → Prop} {v : Value}
inductive Tq where
  | fin
  | v (hs : List Nat) (t : Tq)
  | no
  | br (i : Nat) (t : Tq) (u : Tq)
def Tq.ch : Tq → Bool
  | .no => true
  | .br _ _ _ => true
  | _ => false
end
class SbpC (A L : List Blk) : Prop where
  out : ∃ L', L.Perm (A ++ L')
instance sbpNil (L : List Blk) : SbpC [] L := ⟨L, .refl _⟩
instance sbpCons (b : Nat) (cs : Array Value) (T : TypeId) (A L L1 : List Blk) [h : DelC b L cs T L1] [k : SbpC A L1] : SbpC (⟨b, cs, T⟩ :: A) L := ⟨by
  obtain ⟨L', hp⟩ := k.out
  exact ⟨L', h.out.trans (hp.cons _)⟩⟩
theorem jx_midP {w0 : World} {n : Nat} {Q : Exit → Act → World → Prop} {E : Env} {L : List Blk} {S : Type} {I : S → Prop} {Es : S → Env} {Ls : S → List Blk} (s : S) (hs : I s) (hE : Sub E (Es s)) (hL : SbpC (Ls s) L) : JX w0 n .normal (MidQ w0 n I Es Ls (fun _ _ => True) Q) E L := ⟨fun a w ha hw => by
  obtain ⟨L', hp⟩ := hL.out
  exact (jx_mid (L := Ls s ++ L') s hs hE (List.sublist_append_left _ _)).out a w ha (hw.perm hp)⟩
end Go.Vt
/- Trajectories of cars, walked: the parts. Conditions: those that each statement names. -/
set_option linter.unusedSimpArgs false
set_option linter.unusedVariables false
set_option maxHeartbeats 2000000
set_option maxRecDepth 100000
namespace Go.Vt
open Go.RowKit Go.Proofs
instance sp_toInt (k : Nat) : SpecC Tryz.prog 118 [vI (k : Int)] (.tuple #[.int .i64 (k : Int), .bool true]) (k ≤ 1048576) := ⟨fun hp w => by
  have e : vI (k : Int) = .agg (e_api_Int ⟨false, mag k⟩) := by
    show Value.agg (e_api_Int ⟨decide ((k : Int) < 0), mag (k : Int).natAbs⟩) = _
    rw [decide_eq_false (by omega)]
    rfl
  have h1 : sm k = true := decide_eq_true (by omega)
  have h2 : lo k = k := lo_sm h1
  rw [e]
  refine fn_intro Tryz.func118 rfl Tryz.ntmps118 rfl ?_
  repeat (refine wkB ?_; try intro _)
  simp only [h1, h2, Bool.not_true, Bool.not_false]
  repeat (refine wkB ?_; try intro _)
  simp only [decide_eq_true (show (k : Int) ≤ 9223372036854775807 by omega)]
  repeat (refine wkB ?_; try intro _)
  exact jx_ret_two rfl (resv_tmp rfl) (resv_tmp rfl) (fun w hw => ret_ok hw)⟩
def smp (t x y : Int) : SS := ⟨(t : Rat), ⟨(x : Rat), (y : Rat)⟩⟩
instance sp_smp15 (t x y : Int) : SpecC Tryz.prog 117 [.int .i64 t, .int .i64 x, .int .i64 y] (vS (smp t x y)) ((-9223372036854775808 ≤ t ∧ t ≤ 9223372036854775807) ∧ (-9223372036854775808 ≤ x ∧ x ≤ 9223372036854775807) ∧ (-9223372036854775808 ≤ y ∧ y ≤ 9223372036854775807)) := ⟨fun hp w => by
  obtain ⟨h1, h2, h3⟩ := hp
  refine fn_intro Tryz.func117 rfl Tryz.ntmps117 rfl ?_
  repeat (refine wkB ?_; try intro _)
  exact wx_cell rfl rfl (fun w hw => ret_ok hw)⟩
instance sp_through (a b : R_movingpoint_Sample) : SpecC Tryz.prog 119 [vS a, vS b] (vLn (stl a b)) ((M a.T ≤ 34359738368 ∧ M a.P.X ≤ 34359738368 ∧ M a.P.Y ≤ 34359738368) ∧ (M b.T ≤ 34359738368 ∧ M b.P.X ≤ 34359738368 ∧ M b.P.Y ≤ 34359738368)) := ⟨fun hp w => by
  obtain ⟨⟨h1, h2, h3⟩, h4, h5, h6⟩ := hp
  refine fn_intro Tryz.func119 rfl Tryz.ntmps119 rfl ?_
  repeat (first | (refine wkB ?_; try intro _) | (refine sC rfl rfl ?_ ?_; focus (exact ⟨by assumption, by assumption, by assumption, by assumption⟩)) | (refine sN rfl rfl ?_ ?_; (focus (exact ⟨by assumption, by assumption, by assumption, by assumption⟩)); intro _; (try simp only [List.cons_append, List.nil_append, List.append_nil])))
  exact wx_cell rfl rfl (fun w hw => ret_ok hw)⟩
def stil (p : R_api_Point) : R_api_Line := ⟨p.X, 0, p.Y, 0⟩
instance sp_still (p : R_api_Point) : SpecC Tryz.prog 120 [vP p] (vLn (stil p)) True := ⟨fun hp w => by
  refine fn_intro Tryz.func120 rfl Tryz.ntmps120 rfl ?_
  repeat (refine wkB ?_; try intro _)
  exact wx_cell rfl rfl (fun w hw => ret_ok hw)⟩
theorem units15_spec (v : Value) (us : List PU) (w : World) (hv : ArgS w v rP us) (hl : us.length ≤ 1048576) :
    Calls Tryz.prog 157 [v].toArray w (RetM (SlS rU 36 (mpN toU us us.length)) (fun s => vSl s) (fun s => mS 163 s) w) := by
  refine fn_intro Tryz.func157 rfl Tryz.ntmps157 rfl ?_
  obtain ⟨p, cp, rfl⟩ := hv.form
  repeat (refine wkB ?_; try intro _)
  refine j_loop (S := (m : Nat) × SlS rU 36 (mpN toU us m)) (fun s => s.1 ≤ us.length) (fun s => [(0, .slice p us.length cp), (3, vSl s.2), (4, .int .i64 (s.1 : Nat))]) (fun s => mS 163 s.2) (fun s => us.length - s.1) ⟨0, SlS.no⟩
    (Nat.zero_le _) sbB slB (fun s hm => ?_)
  obtain ⟨m, s⟩ := s
  simp only at hm ⊢
  repeat (refine wkB ?_; try intro _)
  refine j_cond rfl (fun h => ?_) (fun h => ?_)
  · have hlt : m < us.length := by have := of_decide_eq_true h; omega
    have hne : us ≠ [] := fun h0 => by rw [h0] at hlt; simp at hlt
    obtain ⟨bw, ow, cw, hvw, hcw, hrow⟩ := hv.blk (k := 35) hne []
    injection hvw with e1 e2 e3
    subst e1
    subst e3
    have hrow' : ∀ L, RowC w L bw ow PU rP us := fun L => ⟨fun w' hw' => hrow.out w' (hw'.sub (List.nil_sublist _))⟩
    have hml := mpN_len toU us m
    repeat (refine wkB ?_; try intro _)
    (refine j_tree (.v [0, 1, 2, 3, 4, 5, 6, 7, 8, 9, 10, 11] (.e1 12 (.e1 13 (.e1 14 (.fin))))) ([]) (h := ?_); refine wkX ?_)
    (repeat (refine wkH ?_))
    repeat (refine wkT ?_; try intro _)
    refine eU rfl rfl ?_ ?_ ?_ ?_
    · rfl
    · rfl
    · exact ⟨by decide, by omega, by omega⟩
    intro s'
    repeat (refine wkT ?_; try intro _)
    repeat (first | (refine wkB ?_; try intro _) | (refine sC rfl rfl ?_ ?_; focus (exact ⟨by omega, by omega⟩)) | (refine sN rfl rfl ?_ ?_; (focus (exact ⟨by omega, by omega⟩)); intro _; (try simp only [List.cons_append, List.nil_append, List.append_nil])))
    exact jx_loop ⟨m + 1, s'⟩ hlt sbB suB (by show us.length - (m + 1) < us.length - m; omega)
  · have hge : m = us.length := by have := of_decide_eq_false h; omega
    subst hge
    repeat (refine wkB ?_; try intro _)
    exact jx_ret_tmp rfl rfl (fun w hw => ⟨s, rfl, hw.sub sbl⟩)
theorem points15_spec (v : Value) (us : List UL) (w : World) (hv : ArgS w v rU us) (hl : us.length ≤ 1048576) :
    Calls Tryz.prog 158 [v].toArray w (RetM (SlS rP 36 (mpN ofU us us.length)) (fun s => vSl s) (fun s => mS 68 s) w) := by
  refine fn_intro Tryz.func158 rfl Tryz.ntmps158 rfl ?_
  obtain ⟨p, cp, rfl⟩ := hv.form
  repeat (refine wkB ?_; try intro _)
  refine j_loop (S := (m : Nat) × SlS rP 36 (mpN ofU us m)) (fun s => s.1 ≤ us.length) (fun s => [(0, .slice p us.length cp), (3, vSl s.2), (4, .int .i64 (s.1 : Nat))]) (fun s => mS 68 s.2) (fun s => us.length - s.1) ⟨0, SlS.no⟩
    (Nat.zero_le _) sbB slB (fun s hm => ?_)
  obtain ⟨m, s⟩ := s
  simp only at hm ⊢
  repeat (refine wkB ?_; try intro _)
  refine j_cond rfl (fun h => ?_) (fun h => ?_)
  · have hlt : m < us.length := by have := of_decide_eq_true h; omega
    have hne : us ≠ [] := fun h0 => by rw [h0] at hlt; simp at hlt
    obtain ⟨bw, ow, cw, hvw, hcw, hrow⟩ := hv.blk (k := 35) hne []
    injection hvw with e1 e2 e3
    subst e1
    subst e3
    have hrow' : ∀ L, RowC w L bw ow UL rU us := fun L => ⟨fun w' hw' => hrow.out w' (hw'.sub (List.nil_sublist _))⟩
    have hml := mpN_len ofU us m
    repeat (refine wkB ?_; try intro _)
    (refine j_tree (.v [0, 1, 2, 3, 4, 5, 6, 7, 8, 9, 10, 11] (.e1 12 (.e1 13 (.e1 14 (.fin))))) ([]) (h := ?_); refine wkX ?_)
    (repeat (refine wkH ?_))
    repeat (refine wkT ?_; try intro _)
    refine eU rfl rfl ?_ ?_ ?_ ?_
    · rfl
    · rfl
    · exact ⟨by decide, by omega, by omega⟩
    intro s'
    repeat (refine wkT ?_; try intro _)
    repeat (first | (refine wkB ?_; try intro _) | (refine sC rfl rfl ?_ ?_; focus (exact ⟨by omega, by omega⟩)) | (refine sN rfl rfl ?_ ?_; (focus (exact ⟨by omega, by omega⟩)); intro _; (try simp only [List.cons_append, List.nil_append, List.append_nil])))
    exact jx_loop ⟨m + 1, s'⟩ hlt sbB suB (by show us.length - (m + 1) < us.length - m; omega)
  · have hge : m = us.length := by have := of_decide_eq_false h; omega
    subst hge
    repeat (refine wkB ?_; try intro _)
    exact jx_ret_tmp rfl rfl (fun w hw => ⟨s, rfl, hw.sub sbl⟩)
instance sr_units15 (w0 : World) (L : List Blk) (v : Value) (us : List PU) [h : LstC w0 L v PU rP us] : SpecR Tryz.prog w0 L 157 [v] (SlS rU 36 (mpN toU us us.length)) (fun s => vSl s) (fun s => mS 163 s) (us.length ≤ 1048576) := ⟨fun hp w hw => units15_spec v us w (h.out w hw) hp⟩
instance sr_points15 (w0 : World) (L : List Blk) (v : Value) (us : List UL) [h : LstC w0 L v UL rU us] : SpecR Tryz.prog w0 L 158 [v] (SlS rP 36 (mpN ofU us us.length)) (fun s => vSl s) (fun s => mS 68 s) (us.length ≤ 1048576) := ⟨fun hp w hw => points15_spec v us w (h.out w hw) hp⟩
theorem normal15_spec (v : Value) (us : List PU) (w : World) (hv : ArgS w v rP us) (hl : us.length ≤ 19) (hok : ∀ u ∈ mpN toU us us.length, UIn u) :
    Calls Tryz.prog 121 [v].toArray w (RetM (SlS rP 36 (mNorm us)) (fun s => .tuple #[vSl s, .int .i64 (nrmE (mpN toU us us.length))]) (fun s => mS 68 s) w) := by
  have := ArgC.mk hv
  have hml := mpN_len toU us us.length
  have hnl := nrmR_len (mpN toU us us.length)
  refine fn_intro Tryz.func121 rfl Tryz.ntmps121 rfl ?_
  repeat (first | (refine wkB ?_; try intro _) | (refine sC rfl rfl ?_ ?_; focus (first | exact trivial | omega | exact ⟨by omega, hok⟩)) | (refine sN rfl rfl ?_ ?_; (focus (first | exact trivial | omega | exact ⟨by omega, hok⟩)); intro _; (try simp only [List.cons_append, List.nil_append, List.append_nil])))
  rename_i s1 s2 s3
  exact jx_ret_two rfl (resv_tmp rfl) (resv_tmp rfl) (fun w hw => ⟨s3, rfl, hw.sub suB⟩)
instance sr_normal15 (w0 : World) (L : List Blk) (v : Value) (us : List PU) [h : LstC w0 L v PU rP us] : SpecR Tryz.prog w0 L 121 [v] (SlS rP 36 (mNorm us)) (fun s => .tuple #[vSl s, .int .i64 (nrmE (mpN toU us us.length))]) (fun s => mS 68 s) (us.length ≤ 19 ∧ ∀ u ∈ mpN toU us us.length, UIn u) := ⟨fun hp w hw => normal15_spec v us w (h.out w hw) hp.1 hp.2⟩
end Go.Vt
/- Trajectories of cars, walked. Conditions: those that each statement names. -/
set_option linter.unusedSimpArgs false
set_option linter.unusedVariables false
set_option maxHeartbeats 2000000
set_option maxRecDepth 100000
namespace Go.Vt
open Go.RowKit Go.Proofs
instance sbpOwn {α : Type} {enc : α → Array Value} {k : Nat} {xs : List α} (T : TypeId) (s : SlS enc k xs) (A L L1 : List Blk) [h : OwnS T s L L1] [g : SbpC A L1] : SbpC (mS T s ++ A) L := ⟨by
  obtain ⟨L', hp⟩ := g.out
  exact ⟨L', h.out.trans (by rw [List.append_assoc]; exact hp.append_left _)⟩⟩
abbrev Stp15 := viatorlaw15_Step
structure TjS where
  out : List PU
  t : Int
  x : Int
  y : Int
  al : Bool
def tjF (p : TjS) (s : Stp15) : SS := if s.Kind % 8 = 1 then smp p.t (s.Y % 64) (s.X % 64) else smp p.t p.x p.y
def tjU (p : TjS) (s : Stp15) : PU := ⟨⟨⟨((p.t : Int) : Rat), 0, false⟩, ⟨((p.t + 1 + s.Time % 8 : Int) : Rat), 0, false⟩, decide ((0 : Int) < p.out.length) && !p.al, false⟩, stl (tjF p s) (smp (p.t + 1 + s.Time % 8) (s.X % 64) (s.Y % 64))⟩
/-- What is known behind so many steps. -/
def tj (T X Y : Int) (ss : List Stp15) : Nat → TjS
  | 0 => ⟨[], T % 16, X % 64, Y % 64, true⟩
  | m + 1 => ⟨if (gi ss (m : Int)).Kind % 8 = 0 then (tj T X Y ss m).out else (tj T X Y ss m).out ++ [tjU (tj T X Y ss m) (gi ss (m : Int))], (tj T X Y ss m).t + 1 + (gi ss (m : Int)).Time % 8, (gi ss (m : Int)).X % 64, (gi ss (m : Int)).Y % 64, decide ((gi ss (m : Int)).Kind % 8 = 0)⟩
structure StOk (s : Stp15) : Prop where
  t : 0 ≤ s.Time ∧ s.Time ≤ 255
  x : 0 ≤ s.X ∧ s.X ≤ 255
  y : 0 ≤ s.Y ∧ s.Y ≤ 255
  k : 0 ≤ s.Kind ∧ s.Kind ≤ 255
theorem tj_bnd {T X Y : Int} (hT : 0 ≤ T ∧ 0 ≤ X ∧ 0 ≤ Y) {ss : List Stp15} (h : ∀ s ∈ ss, StOk s) : ∀ m, m ≤ ss.length → (0 ≤ (tj T X Y ss m).t ∧ (tj T X Y ss m).t ≤ 15 + 8 * m) ∧ (0 ≤ (tj T X Y ss m).x ∧ (tj T X Y ss m).x < 64) ∧ (0 ≤ (tj T X Y ss m).y ∧ (tj T X Y ss m).y < 64) ∧ (tj T X Y ss m).out.length ≤ m
  | 0, _ => by
    show (0 ≤ T % 16 ∧ T % 16 ≤ 15 + 8 * (0 : Nat)) ∧ (0 ≤ X % 64 ∧ X % 64 < 64) ∧ (0 ≤ Y % 64 ∧ Y % 64 < 64) ∧ 0 ≤ 0
    omega
  | m + 1, hm => by
    obtain ⟨h1, h2, h3, h4⟩ := tj_bnd hT h m (by omega)
    have hs := h _ (gi_mem (i := (m : Int)) (xs := ss) (by omega))
    have := hs.t
    have := hs.x
    have := hs.y
    rw [tj]
    simp only
    refine ⟨by omega, by omega, by omega, ?_⟩
    split
    · omega
    · rw [List.length_append]; simp; omega
/-- The units of a car. -/
def tjR (c : viatorlaw15_Car) (ss : List Stp15) : List PU := if (tj c.Time c.X c.Y ss ss.length).al = true then (tj c.Time c.X c.Y ss ss.length).out ++ [⟨⟨⟨((tj c.Time c.X c.Y ss ss.length).t : Rat), 0, false⟩, ⟨((tj c.Time c.X c.Y ss ss.length).t : Rat), 0, false⟩, false, false⟩, stil ⟨((tj c.Time c.X c.Y ss ss.length).x : Rat), ((tj c.Time c.X c.Y ss ss.length).y : Rat)⟩⟩] else (tj c.Time c.X c.Y ss ss.length).out
theorem smp_M {t x y : Int} (h1 : 0 ≤ t ∧ t < 256) (h2 : 0 ≤ x ∧ x < 256) (h3 : 0 ≤ y ∧ y < 256) : M (smp t x y).T ≤ 1 ∧ M (smp t x y).P.X ≤ 1 ∧ M (smp t x y).P.Y ≤ 1 := ⟨M_small h1, M_small h2, M_small h3⟩
theorem stl_K1 {a b : SS} (ha : M a.T ≤ 1 ∧ M a.P.X ≤ 1 ∧ M a.P.Y ≤ 1) (hb : M b.T ≤ 1 ∧ M b.P.X ≤ 1 ∧ M b.P.Y ≤ 1) : LnOk K0 (stl a b) := by
  have := MB.mk ha.1
  have := MB.mk ha.2.1
  have := MB.mk ha.2.2
  have := MB.mk hb.1
  have := MB.mk hb.2.1
  have := MB.mk hb.2.2
  exact ⟨MB.lt (q := (stl a b).X0) rfl, MB.lt (q := (stl a b).X1) rfl, MB.lt (q := (stl a b).Y0) rfl, MB.lt (q := (stl a b).Y1) rfl⟩
theorem tj_K {T X Y : Int} (hT : 0 ≤ T ∧ 0 ≤ X ∧ 0 ≤ Y) {ss : List Stp15} (h : ∀ s ∈ ss, StOk s) : ∀ m, m ≤ ss.length → m ≤ 6 → ∀ u ∈ (tj T X Y ss m).out, UK K0 (toU u)
  | 0, _, _ => fun u hu => by cases hu
  | m + 1, hm, h6 => by
    have ih := tj_K hT h m (by omega) (by omega)
    obtain ⟨h1, h2, h3, h4⟩ := tj_bnd hT h m (by omega)
    have hs := h _ (gi_mem (i := (m : Int)) (xs := ss) (by omega))
    obtain ⟨g1, g2, g3, g4⟩ := hs
    rw [tj]
    generalize tj T X Y ss m = q at *
    generalize gi ss (m : Int) = st at *
    simp only
    split
    · exact ih
    · intro u hu
      rcases List.mem_append.1 hu with k | k
      · exact ih u k
      · rw [List.mem_singleton] at k
        subst k
        have e1 : M ((q.t : Int) : Rat) ≤ K0 := Nat.le_trans (M_small (by omega)) (by decide)
        have e2 : M ((q.t + 1 + st.Time % 8 : Int) : Rat) ≤ K0 := Nat.le_trans (M_small (by omega)) (by decide)
        refine ⟨⟨rfl, rfl, rfl, rfl, e1, e2⟩, stl_K1 ?_ (smp_M (by omega) (by omega) (by omega))⟩
        unfold tjF
        split
        · exact smp_M (by omega) (by omega) (by omega)
        · exact smp_M (by omega) (by omega) (by omega)
theorem tjR_K {c : viatorlaw15_Car} (hT : 0 ≤ c.Time ∧ 0 ≤ c.X ∧ 0 ≤ c.Y) {ss : List Stp15} (h : ∀ s ∈ ss, StOk s) (h6 : ss.length ≤ 6) : (∀ u ∈ tjR c ss, UK K0 (toU u)) ∧ (tjR c ss).length ≤ 7 := by
  have hk := tj_K hT h ss.length (Nat.le_refl _) h6
  obtain ⟨h1, h2, h3, h4⟩ := tj_bnd hT h ss.length (Nat.le_refl _)
  unfold tjR
  split
  · refine ⟨fun u hu => ?_, by rw [List.length_append]; simp; omega⟩
    rcases List.mem_append.1 hu with k | k
    · exact hk u k
    · rw [List.mem_singleton] at k
      subst k
      have e1 : ∀ n : Int, 0 ≤ n ∧ n < 256 → M ((n : Int) : Rat) ≤ K0 := fun n hn => Nat.le_trans (M_small hn) (by decide)
      have e0 : M 0 ≤ K0 := by decide
      exact ⟨⟨rfl, rfl, rfl, rfl, e1 _ (by omega), e1 _ (by omega)⟩, ⟨e1 _ (by omega), e0, e1 _ (by omega), e0⟩⟩
  · exact ⟨hk, by omega⟩
set_option maxHeartbeats 2000000 in
theorem trajec_spec (c : viatorlaw15_Car) (ss : List Stp15) (w : World) (hT : (0 ≤ c.Time ∧ c.Time ≤ 255) ∧ (0 ≤ c.X ∧ c.X ≤ 255) ∧ (0 ≤ c.Y ∧ c.Y ≤ 255)) (hv : ArgS w (.slice c.Steps.a c.Steps.len c.Steps.cap) e_viatorlaw15_Step ss) (hcl : c.Steps.len = ss.length) (h6 : ss.length ≤ 6) (hss : ∀ s ∈ ss, StOk s) :
    Calls Tryz.prog 80 [.agg (e_viatorlaw15_Car c)].toArray w (RetM (SlS rP 36 (mNorm (tjR c ss))) (fun s => vSl s) (fun s => mS 68 s) w) := by
  have hK := tjR_K (c := c) ⟨hT.1.1, hT.2.1.1, hT.2.2.1⟩ hss h6
  refine fn_intro Tryz.func80 rfl Tryz.ntmps80 rfl ?_
  repeat (first | (refine wkB ?_; try intro _) | (refine sC rfl rfl ?_ ?_; focus (exact ⟨by omega, by omega, by omega⟩)) | (refine sN rfl rfl ?_ ?_; (focus (exact ⟨by omega, by omega, by omega⟩)); intro _; (try simp only [List.cons_append, List.nil_append, List.append_nil])))
  rename_i b' b4
  refine j_loop (S := (q : TjS) × Nat × SlS rP 36 q.out) (fun s => s.1 = tj c.Time c.X c.Y ss s.2.1 ∧ s.2.1 ≤ ss.length) (fun s => [(1, .pointer (some ⟨b', 0, none⟩)), (3, vSl s.2.2), (4, .pointer (some ⟨b4, 0, none⟩)), (5, .bool s.1.al), (6, .int .i64 (s.2.1 : Nat))])
    (fun s => mS 68 s.2.2 ++ [⟨b4, e_movingpoint_Sample (q_movingpoint_Sample (smp s.1.t s.1.x s.1.y)), 47⟩, ⟨b', e_viatorlaw15_Car c, 78⟩]) (fun s => ss.length - s.2.1) ⟨tj c.Time c.X c.Y ss 0, 0, SlS.no⟩ ⟨rfl, Nat.zero_le _⟩ sbB slB (fun s hs => ?_)
  obtain ⟨q, m, s⟩ := s
  obtain ⟨hq, hm⟩ := hs
  simp only at hq hm s ⊢
  have hb := tj_bnd ⟨hT.1.1, hT.2.1.1, hT.2.2.1⟩ hss m hm
  rw [← hq] at hb
  repeat (refine wkB ?_; try intro _)
  by_cases hlt : m < ss.length
  · simp only [hcl, decide_eq_true (show (m : Int) < (ss.length : Int) by omega)]
    repeat (refine wkB ?_; try intro _)
    refine j_cond rfl (fun _ => ?_) (fun h => ?_)
    · have hne : ss ≠ [] := fun h0 => by rw [h0] at hlt; simp at hlt
      obtain ⟨bw, ow, cw, hvw, hcw, hrow⟩ := hv.blk (k := 3) hne []
      injection hvw with e1 e2 e3
      have hrow' : ∀ L, RowC w L bw ow Stp15 e_viatorlaw15_Step ss := fun L => ⟨fun w' hw' => hrow.out w' (hw'.sub (List.nil_sublist _))⟩
      simp only [e1]
      repeat (refine wkB ?_; try intro _)
      simp only [e1, hcl]
      have hsm := hss _ (gi_mem (i := (m : Int)) (xs := ss) (by omega))
      obtain ⟨st, hst⟩ : ∃ st, st = gi ss (m : Int) := ⟨_, rfl⟩
      obtain ⟨out, t, x, y, al⟩ := q
      simp only at hb s ⊢
      obtain ⟨k, rfl⟩ : ∃ k : Nat, t = (k : Int) := ⟨t.toNat, by omega⟩
      have ⟨g1, g2, g3, g4⟩ := hsm
      repeat (refine wkB ?_; try intro _)
      simp only [← hst] at g1 g2 g3 g4 ⊢
      simp only [show (smp (k : Int) x y).T.num = (k : Int) from Rat.num_intCast _]
      repeat (first | (refine wkB ?_; try intro _) | (refine sC rfl rfl ?_ ?_; focus (first | exact (show k ≤ 1048576 by omega) | exact ⟨by omega, by omega, by omega⟩)) | (refine sN rfl rfl ?_ ?_; (focus (first | exact (show k ≤ 1048576 by omega) | exact ⟨by omega, by omega, by omega⟩)); intro _; (try simp only [List.cons_append, List.nil_append, List.append_nil])))
      rename_i b7 b10 b11
      obtain ⟨nx, hnx⟩ : ∃ nx, nx = smp ((k : Int) + 1 + st.Time % 8) (st.X % 64) (st.Y % 64) := ⟨_, rfl⟩
      obtain ⟨fr, hfr⟩ : ∃ fr, fr = tjF ⟨out, k, x, y, al⟩ st := ⟨_, rfl⟩
      simp only [← hnx]
      refine j_cut (S := Unit) (fun _ => True) (fun _ => [(1, .pointer (some ⟨b', 0, none⟩)), (3, vSl s), (4, .pointer (some ⟨b4, 0, none⟩)), (5, .bool al), (6, .int .i64 (m : Nat)), (7, .pointer (some ⟨b7, 0, none⟩)), (10, .pointer (some ⟨b10, 0, none⟩)), (11, .pointer (some ⟨b11, 0, none⟩))])
        (fun _ => ⟨b11, e_movingpoint_Sample (q_movingpoint_Sample fr), 47⟩ :: ⟨b10, e_movingpoint_Sample (q_movingpoint_Sample nx), 47⟩ :: ⟨b7, e_viatorlaw15_Step st, 174⟩ :: (mS 68 s ++ [⟨b4, e_movingpoint_Sample (q_movingpoint_Sample (smp (k : Int) x y)), 47⟩, ⟨b', e_viatorlaw15_Car c, 78⟩])) ?_ (fun _ _ => ?_)
      · refine j_cond rfl (fun h1 => ?_) (fun h1 => ?_)
        · have e : fr = smp k (st.Y % 64) (st.X % 64) := by rw [hfr]; exact if_pos (of_decide_eq_true h1)
          rw [e]
          repeat (first | (refine wkB ?_; try intro _) | (refine sC rfl rfl ?_ ?_; focus (exact ⟨by omega, by omega, by omega⟩)) | (refine sN rfl rfl ?_ ?_; (focus (exact ⟨by omega, by omega, by omega⟩)); intro _; (try simp only [List.cons_append, List.nil_append, List.append_nil])))
          exact jx_mid () trivial sbB suB
        · have e : fr = smp k x y := by rw [hfr]; exact if_neg (of_decide_eq_false h1)
          rw [e]
          refine j_skip ?_
          exact jx_mid () trivial sbB suB
      · have hfb : (M fr.T ≤ 34359738368 ∧ M fr.P.X ≤ 34359738368 ∧ M fr.P.Y ≤ 34359738368) ∧ (M nx.T ≤ 34359738368 ∧ M nx.P.X ≤ 34359738368 ∧ M nx.P.Y ≤ 34359738368) := by
          have hs : ∀ n : Int, 0 ≤ n ∧ n < 256 → M (n : Rat) ≤ 34359738368 := fun n hn => Nat.le_trans (M_small hn) (by decide)
          have hk63 : k ≤ 63 := by omega
          refine ⟨?_, by rw [hnx]; exact ⟨hs ((k : Int) + 1 + st.Time % 8) (by omega), hs (st.X % 64) (by omega), hs (st.Y % 64) (by omega)⟩⟩
          rw [hfr]
          unfold tjF
          split
          · exact ⟨hs (k : Int) (by omega), hs (st.Y % 64) (by omega), hs (st.X % 64) (by omega)⟩
          · exact ⟨hs (k : Int) (by omega), hs x (by omega), hs y (by omega)⟩
        have hft : fr.T = ((k : Int) : Rat) := by rw [hfr]; unfold tjF; split <;> rfl
        repeat (refine wkB ?_; try intro _)
        refine j_cut (S := (ys : List PU) × SlS rP 36 ys) (fun r => r.1 = if st.Kind % 8 = 0 then out else out ++ [tjU ⟨out, k, x, y, al⟩ st]) (fun r => [(1, .pointer (some ⟨b', 0, none⟩)), (3, vSl r.2), (4, .pointer (some ⟨b4, 0, none⟩)), (6, .int .i64 (m : Nat)), (7, .pointer (some ⟨b7, 0, none⟩)), (10, .pointer (some ⟨b10, 0, none⟩))])
          (fun r => mS 68 r.2 ++ [⟨b10, e_movingpoint_Sample (q_movingpoint_Sample nx), 47⟩, ⟨b7, e_viatorlaw15_Step st, 174⟩, ⟨b4, e_movingpoint_Sample (q_movingpoint_Sample (smp (k : Int) x y)), 47⟩, ⟨b', e_viatorlaw15_Car c, 78⟩]) ?_ (fun r hr => ?_)
        · by_cases hk0 : st.Kind % 8 = 0
          · simp only [decide_eq_true hk0, Bool.not_true]
            refine j_else rfl ?_
            refine j_skip ?_
            exact jx_midP ⟨out, s⟩ (by rw [if_pos hk0]) sbB inferInstance
          · simp only [decide_eq_false hk0, Bool.not_false]
            refine j_if rfl ?_
            refine j_seq ?_
            refine j_cut (S := Nat) (fun _ => True) (fun b12 => [(1, .pointer (some ⟨b', 0, none⟩)), (3, vSl s), (4, .pointer (some ⟨b4, 0, none⟩)), (6, .int .i64 (m : Nat)), (7, .pointer (some ⟨b7, 0, none⟩)), (10, .pointer (some ⟨b10, 0, none⟩)), (11, .pointer (some ⟨b11, 0, none⟩)), (12, .pointer (some ⟨b12, 0, none⟩))])
              (fun b12 => ⟨b12, e_api_Interval (q_api_Interval ⟨⟨fr.T, 0, false⟩, ⟨nx.T, 0, false⟩, decide ((0 : Int) < out.length) && !al, false⟩), 32⟩ :: ⟨b11, e_movingpoint_Sample (q_movingpoint_Sample fr), 47⟩ :: ⟨b10, e_movingpoint_Sample (q_movingpoint_Sample nx), 47⟩ :: ⟨b7, e_viatorlaw15_Step st, 174⟩ :: (mS 68 s ++ [⟨b4, e_movingpoint_Sample (q_movingpoint_Sample (smp (k : Int) x y)), 47⟩, ⟨b', e_viatorlaw15_Car c, 78⟩])) ?_ (fun b12 _ => ?_)
            · refine jD 14 15 (h := ?_)
              (repeat (refine wkH ?_))
              rcases hlo : decide ((0 : Int) < (out.length : Int)) with _ | _
              · (repeat (refine wkH ?_))
                refine jh_nil ?_
                (repeat (refine wn_new ?_; intro _))
                refine jn_nil ?_
                repeat (refine wkB ?_; try intro _)
                exact jx_mid _ trivial sbB suB
              · (repeat (refine wkH ?_))
                refine jh_nil ?_
                (repeat (refine wn_new ?_; intro _))
                refine jn_nil ?_
                repeat (refine wkB ?_; try intro _)
                exact jx_mid _ trivial sbB suB
            · have hu : tjU ⟨out, k, x, y, al⟩ st = ⟨⟨⟨fr.T, 0, false⟩, ⟨nx.T, 0, false⟩, decide ((0 : Int) < out.length) && !al, false⟩, stl fr nx⟩ := by
                rw [hft, hnx, hfr]
                rfl
              (refine j_tree (.v [0, 1, 2, 3, 4, 5] (.e1 6 (.e1 7 (.e1 8 (.fin))))) ([⟨b12, e_api_Interval (q_api_Interval ⟨⟨fr.T, 0, false⟩, ⟨nx.T, 0, false⟩, decide ((0 : Int) < out.length) && !al, false⟩), 32⟩, ⟨b11, e_movingpoint_Sample (q_movingpoint_Sample fr), 47⟩, ⟨b10, e_movingpoint_Sample (q_movingpoint_Sample nx), 47⟩]) (h := ?_); refine wkX ?_)
              (repeat (first | refine wkH ?_ | (refine tC rfl rfl ?_ ?_; focus (exact hfb))))
              repeat (first | (refine wkT ?_; try intro _) | (refine tC rfl rfl ?_ ?_; focus (exact hfb)) | (refine uC rfl rfl ?_ ?_; focus (exact hfb)) | (refine eN rfl rfl ?_ ?_; (focus (exact hfb)); intro _; (try simp only [List.cons_append, List.nil_append, List.append_nil])))
              rw [← hu]
              refine eU rfl rfl ?_ ?_ ?_ ?_
              · rfl
              · rfl
              · exact ⟨by decide, by omega, by omega⟩
              intro s'
              repeat (refine wkT ?_; try intro _)
              exact jx_mid ⟨_, s'⟩ (by rw [if_neg hk0]) sbB suB
        · obtain ⟨ys, sy⟩ := r
          simp only at hr ⊢
          have hnext : (⟨ys, (k : Int) + 1 + st.Time % 8, st.X % 64, st.Y % 64, decide (st.Kind % 8 = 0)⟩ : TjS) = tj c.Time c.X c.Y ss (m + 1) := by
            rw [tj, ← hq, ← hst, hr]
          repeat (refine wkB ?_; try intro _)
          rw [hnx]
          repeat (first | (refine wkB ?_; try intro _) | (refine sC rfl rfl ?_ ?_; focus (exact ⟨by omega, by omega⟩)) | (refine sN rfl rfl ?_ ?_; (focus (exact ⟨by omega, by omega⟩)); intro _; (try simp only [List.cons_append, List.nil_append, List.append_nil])))
          exact jx_loop ⟨⟨ys, (k : Int) + 1 + st.Time % 8, st.X % 64, st.Y % 64, decide (st.Kind % 8 = 0)⟩, m + 1, sy⟩ ⟨hnext, hlt⟩ sbB suB (by show ss.length - (m + 1) < ss.length - m; omega)
    · have := of_decide_eq_false h; omega
  · simp only [hcl, decide_eq_false (show ¬ (m : Int) < (ss.length : Int) by omega)]
    repeat (refine wkB ?_; try intro _)
    have hge : m = ss.length := by omega
    subst hge
    obtain ⟨out, t, x, y, al⟩ := q
    simp only at hb s ⊢
    refine j_cut (S := (ys : List PU) × SlS rP 36 ys) (fun r => r.1 = if al = true then out ++ [⟨⟨⟨(t : Rat), 0, false⟩, ⟨(t : Rat), 0, false⟩, false, false⟩, stil ⟨(x : Rat), (y : Rat)⟩⟩] else out) (fun r => [(3, vSl r.2)]) (fun r => mS 68 r.2) ?_ (fun r hr => ?_)
    · cases al with
      | false =>
        refine j_else rfl ?_
        refine j_skip ?_
        exact jx_mid ⟨out, s⟩ rfl sbB suB
      | true =>
        refine j_if rfl ?_
        repeat (refine wkB ?_; try intro _)
        rename_i b13
        (refine j_tree (.v [0, 1, 2, 3, 4, 5, 6, 7] (.e1 8 (.e1 9 (.e1 10 (.fin))))) ([⟨b13, e_api_Real (q_api_Real ⟨(smp t x y).T, 0, false⟩), 30⟩, ⟨b4, e_movingpoint_Sample (q_movingpoint_Sample (smp t x y)), 47⟩]) (h := ?_); refine wkX ?_)
        (repeat (refine wkH ?_))
        repeat (refine wkT ?_; try intro _)
        refine eU rfl rfl ?_ ?_ ?_ ?_
        · rfl
        · rfl
        · exact ⟨by decide, by omega, by omega⟩
        intro s'
        repeat (refine wkT ?_; try intro _)
        exact jx_mid ⟨_, s'⟩ rfl sbB suB
    · obtain ⟨ys, sy⟩ := r
      have hr' : ys = tjR c ss := by
        unfold tjR
        rw [← hq]
        exact hr
      subst hr'
      simp only
      have hlen := hK.2
      have hin : ∀ u ∈ mpN toU (tjR c ss) (tjR c ss).length, UIn u := fun u hu => by
        rw [mpN_all] at hu
        obtain ⟨x, hx, rfl⟩ := List.mem_map.1 hu
        exact (hK.1 x hx).uin K_one.2.2.1
      repeat (first | (refine wkB ?_; try intro _) | (refine sC rfl rfl ?_ ?_; focus (exact ⟨by omega, hin⟩)) | (refine sN rfl rfl ?_ ?_; (focus (exact ⟨by omega, hin⟩)); intro _; (try simp only [List.cons_append, List.nil_append, List.append_nil])))
      exact jx_ret_tmp rfl rfl (fun w hw => ⟨_, rfl, hw.sub suB⟩)
end Go.Vt
/- Borders of periods, walked. Conditions: those that each statement names. -/
set_option linter.unusedSimpArgs false
set_option linter.unusedVariables false
set_option maxHeartbeats 2000000
set_option maxRecDepth 100000
namespace Go.Vt
open Go.RowKit Go.Proofs
abbrev Bd := R_period_border
abbrev vBd (b : Bd) : Value := .agg (e_period_border (q_period_border b))
def bdF (i : R_api_Interval) : Bd := ⟨i.From, i.OpenFrom⟩
def bdL (i : R_api_Interval) : Bd := ⟨i.To, !i.OpenTo⟩
def bdB (a b : Bd) : R_api_Interval := ⟨a.at_, b.at_, a.behind, !b.behind⟩
/-- The order of borders. -/
def cmpB (a b : Bd) : Int := if cq a.at_.P b.at_.P ≠ 0 then cq a.at_.P b.at_.P else if a.behind = b.behind then 0 else if b.behind = true then -1 else 1
structure BdOk (b : Bd) : Prop where
  r : b.at_.R = 0
  n : b.at_.Neg = false
  m : M b.at_.P ≤ LQ
instance sp_first (i : R_api_Interval) : SpecC Tryz.prog 125 [vIv i] (vBd (bdF i)) True := ⟨fun hp w => by
  refine fn_intro Tryz.func125 rfl Tryz.ntmps125 rfl ?_
  repeat (refine wkB ?_; try intro _)
  exact wx_cell rfl rfl (fun w hw => ret_ok hw)⟩
instance sp_last (i : R_api_Interval) : SpecC Tryz.prog 126 [vIv i] (vBd (bdL i)) True := ⟨fun hp w => by
  refine fn_intro Tryz.func126 rfl Tryz.ntmps126 rfl ?_
  repeat (refine wkB ?_; try intro _)
  exact wx_cell rfl rfl (fun w hw => ret_ok hw)⟩
instance sp_betweenB (a b : Bd) : SpecC Tryz.prog 161 [vBd a, vBd b] (vIv (bdB a b)) True := ⟨fun hp w => by
  refine fn_intro Tryz.func161 rfl Tryz.ntmps161 rfl ?_
  repeat (refine wkB ?_; try intro _)
  exact wx_cell rfl rfl (fun w hw => ret_ok hw)⟩
instance sp_cmpB (a b : Bd) : SpecC Tryz.prog 124 [vBd a, vBd b] (.int .i64 (cmpB a b)) (BdOk a ∧ BdOk b) := ⟨fun hp w => by
  obtain ⟨⟨a1, a2, a3⟩, b1', b2, b3⟩ := hp
  refine fn_intro Tryz.func124 rfl Tryz.ntmps124 rfl ?_
  repeat (first | (refine wkB ?_; try intro _) | (refine sC rfl rfl ?_ ?_; focus (exact ⟨⟨a1, b1'⟩, a3, b3⟩)) | (refine sN rfl rfl ?_ ?_; (focus (exact ⟨⟨a1, b1'⟩, a3, b3⟩)); intro _; (try simp only [List.cons_append, List.nil_append, List.append_nil])))
  unfold cmpB
  by_cases h1 : cq a.at_.P b.at_.P = 0
  · simp only [h1, decide_true, Bool.not_true]
    repeat (refine wkB ?_; try intro _)
    rw [if_neg (by simp)]
    rcases ha : a.behind with _ | _ <;> rcases hb : b.behind with _ | _
    · repeat (refine wkB ?_; try intro _)
      exact jx_ret_tmp rfl rfl (fun w hw => ret_ok hw)
    · repeat (refine wkB ?_; try intro _)
      simp only [hb]
      repeat (refine wkB ?_; try intro _)
      exact jx_ret_tmp rfl rfl (fun w hw => ret_ok hw)
    · repeat (refine wkB ?_; try intro _)
      simp only [hb]
      repeat (refine wkB ?_; try intro _)
      exact jx_ret_tmp rfl rfl (fun w hw => ret_ok hw)
    · repeat (refine wkB ?_; try intro _)
      exact jx_ret_tmp rfl rfl (fun w hw => ret_ok hw)
  · simp only [decide_eq_false h1, Bool.not_false]
    rw [if_pos h1]
    repeat (refine wkB ?_; try intro _)
    exact jx_ret_tmp rfl rfl (fun w hw => ret_ok hw)⟩
/-- A closed period, or none. -/
def closL (a b : Rat) : List R_api_Interval := if cmpB ⟨⟨a, 0, false⟩, false⟩ ⟨⟨b, 0, false⟩, true⟩ ≥ 0 then [] else [⟨⟨a, 0, false⟩, ⟨b, 0, false⟩, false, false⟩]
theorem closed_spec (a b : Rat) (ha : M a ≤ LQ) (hb : M b ≤ LQ) (w : World) :
    Calls Tryz.prog 82 [vQ a, vQ b].toArray w (RetM (SlS rI 20 (closL a b)) (fun s => vSl s) (fun s => mS 32 s) w) := by
  refine fn_intro Tryz.func82 rfl Tryz.ntmps82 rfl ?_
  repeat (refine wkB ?_; try intro _)
  (refine jD 5 6 (h := ?_); (repeat (refine wkH ?_)); refine jh_nil ?_; (repeat (refine wn_new ?_; intro _)); refine jn_nil ?_)
  repeat (refine wkB ?_; try intro _)
  rename_i b2 b3 b5
  have hok : BdOk (bdF ⟨⟨a, 0, false⟩, ⟨b, 0, false⟩, false, false⟩) ∧ BdOk (bdL ⟨⟨a, 0, false⟩, ⟨b, 0, false⟩, false, false⟩) := ⟨⟨rfl, rfl, ha⟩, ⟨rfl, rfl, hb⟩⟩
  (refine jD 6 6 (h := ?_); (repeat (first | refine wkH ?_ | (refine tC rfl rfl ?_ ?_; focus (first | exact trivial | exact hok)))); refine jh_nil ?_; (repeat (refine wn_new ?_; intro _)); refine jn_nil ?_)
  repeat (refine wkB ?_; try intro _)
  refine j_cond rfl (fun h => ?_) (fun h => ?_)
  · have h' := of_decide_eq_true h
    have e : closL a b = [] := if_pos h'
    repeat (refine wkB ?_; try intro _)
    refine jx_ret_tmp rfl rfl (fun w hw => ?_)
    rw [e]
    exact ⟨SlS.no, rfl, hw.sub (List.nil_sublist _)⟩
  · have h' := of_decide_eq_false h
    have e : closL a b = [⟨⟨a, 0, false⟩, ⟨b, 0, false⟩, false, false⟩] := if_neg h'
    repeat (refine wkB ?_; try intro _)
    rename_i b18
    obtain ⟨s', hv', hm'⟩ := SlS.put (enc := rI) (k := 20) (b := b18) (sp := []) (c := 1) (ys := closL a b) 32 (by rw [e]; rfl) ⟨Nat.le_refl _, rfl⟩ Nat.one_pos
    refine jx_ret_tmp (v := vSl s') rfl (by rw [hv']; rfl) (fun w hw => ⟨s', rfl, ?_⟩)
    dsimp only
    rw [hm', e]
    exact hw.sub slB
instance sr_closed (w0 : World) (L : List Blk) (a b : Rat) : SpecR Tryz.prog w0 L 82 [vQ a, vQ b] (SlS rI 20 (closL a b)) (fun s => vSl s) (fun s => mS 32 s) (M a ≤ LQ ∧ M b ≤ LQ) := ⟨fun hp w _ => closed_spec a b hp.1 hp.2 w⟩
def ivU (u : UL) : R_api_Interval := u.In
theorem intervals_spec (v : Value) (us : List UL) (w : World) (hv : ArgS w v rU us) (hl : us.length ≤ 1048576) :
    Calls Tryz.prog 129 [v].toArray w (RetM (SlS rI 20 (mpN ivU us us.length)) (fun s => vSl s) (fun s => mS 32 s) w) := by
  refine fn_intro Tryz.func129 rfl Tryz.ntmps129 rfl ?_
  obtain ⟨p, cp, rfl⟩ := hv.form
  repeat (refine wkB ?_; try intro _)
  refine j_loop (S := (m : Nat) × SlS rI 20 (mpN ivU us m)) (fun s => s.1 ≤ us.length) (fun s => [(3, vSl s.2), (6, .slice p us.length cp), (7, .int .i64 us.length), (8, .int .i64 (s.1 : Nat))]) (fun s => mS 32 s.2) (fun s => us.length - s.1) ⟨0, SlS.no⟩
    (Nat.zero_le _) sbB slB (fun s hm => ?_)
  obtain ⟨m, s⟩ := s
  simp only at hm ⊢
  repeat (refine wkB ?_; try intro _)
  refine j_cond rfl (fun h => ?_) (fun h => ?_)
  · have hlt : m < us.length := by have := of_decide_eq_true h; omega
    have hne : us ≠ [] := fun h0 => by rw [h0] at hlt; simp at hlt
    obtain ⟨bw, ow, cw, hvw, hcw, hrow⟩ := hv.blk (k := 35) hne []
    injection hvw with e1 e2 e3
    subst e1
    subst e3
    have hrow' : ∀ L, RowC w L bw ow UL rU us := fun L => ⟨fun w' hw' => hrow.out w' (hw'.sub (List.nil_sublist _))⟩
    have hml := mpN_len ivU us m
    repeat (refine wkB ?_; try intro _)
    refine sU rfl rfl ?_ ?_ ?_ ?_
    · rfl
    · rfl
    · exact ⟨by decide, by omega, by omega⟩
    intro s'
    repeat (first | (refine wkB ?_; try intro _) | (refine sC rfl rfl ?_ ?_; focus (exact ⟨by omega, by omega⟩)) | (refine sN rfl rfl ?_ ?_; (focus (exact ⟨by omega, by omega⟩)); intro _; (try simp only [List.cons_append, List.nil_append, List.append_nil])))
    exact jx_loop ⟨m + 1, s'⟩ hlt sbB suB (by show us.length - (m + 1) < us.length - m; omega)
  · have hge : m = us.length := by have := of_decide_eq_false h; omega
    subst hge
    repeat (refine wkB ?_; try intro _)
    exact jx_ret_tmp rfl rfl (fun w hw => ⟨s, rfl, hw.sub sbl⟩)
instance sr_intervals (w0 : World) (L : List Blk) (v : Value) (us : List UL) [h : LstC w0 L v UL rU us] : SpecR Tryz.prog w0 L 129 [v] (SlS rI 20 (mpN ivU us us.length)) (fun s => vSl s) (fun s => mS 32 s) (us.length ≤ 1048576) := ⟨fun hp w hw => intervals_spec v us w (h.out w hw) hp⟩
end Go.Vt
/- Events of periods: what loads and stores give; their order, walked. Conditions: those that each statement names. -/
set_option linter.unusedSimpArgs false
set_option linter.unusedVariables false
set_option maxHeartbeats 2000000
set_option maxRecDepth 100000
namespace Go.Vt
open Go.RowKit Go.Proofs
/-- A border, and by how much the numbers of intervals change there. -/
structure Ev where
  b : Bd
  n0 : Int
  n1 : Int
instance : Inhabited Ev := ⟨⟨zR_period_border, 0, 0⟩⟩
def eEv (x : Ev) : Array Value := e_period_border (q_period_border x.b) ++ #[.int .i64 x.n0, .int .i64 x.n1]
abbrev vEv (x : Ev) : Value := .agg (eEv x)
instance cs_Ev (x : Ev) : CsC (eEv x) 12 := ⟨by kernel_rfl, by kernel_rfl⟩
instance enc_Ev : EncC eEv 12 := ⟨fun _ => CsC.size, fun _ => CsC.one⟩
instance zero_Ev : ZeroC Tryz.prog 233 (vEv ⟨zR_period_border, 0, 0⟩) (eEv ⟨zR_period_border, 0, 0⟩) := ⟨by kernel_rfl, by kernel_rfl⟩
instance size_Ev : SizeC Tryz.prog 233 12 := ⟨by kernel_rfl⟩
instance fa_Ev0 : FaC Tryz.prog 233 0 0 := ⟨fun b o w => by kernel_rfl⟩
instance fo_Ev0 : FaO Tryz.prog 233 0 0 0 := ⟨fun b w => by kernel_rfl⟩
instance fo_Ev1 : FaO Tryz.prog 233 1 0 10 := ⟨fun b w => by kernel_rfl⟩
instance ld_Ev (x : Ev) : LdC Tryz.prog 233 (eEv x) 0 (vEv x) := ⟨ldv_agg 12 (by kernel_rfl) (by kernel_rfl) (by kernel_rfl)⟩
instance ld_EvB (x : Ev) : LdC Tryz.prog 181 (eEv x) 0 (vBd x.b) := ⟨ldv_agg 10 (by kernel_rfl) (by kernel_rfl) (by kernel_rfl)⟩
instance bd_Ev (b : Bd) : BdC Tryz.prog 233 [(0, vBd b)] (vEv ⟨b, 0, 0⟩) := ⟨fun w => by kernel_rfl⟩
instance st_Ev0 (x : Ev) (v : Int) : StC Tryz.prog 3 (eEv x) (10 + Int.toNat 0 * 1) (.int .i64 v) (eEv ⟨x.b, v, x.n1⟩) := ⟨by kernel_rfl, by kernel_rfl, by kernel_rfl, by kernel_rfl⟩
instance st_Ev1 (x : Ev) (v : Int) : StC Tryz.prog 3 (eEv x) (10 + Int.toNat 1 * 1) (.int .i64 v) (eEv ⟨x.b, x.n0, v⟩) := ⟨by kernel_rfl, by kernel_rfl, by kernel_rfl, by kernel_rfl⟩
instance sp_cmpEv (x y : Ev) : SpecC Tryz.prog 160 [vEv x, vEv y] (.int .i64 (cmpB x.b y.b)) (BdOk x.b ∧ BdOk y.b) := ⟨fun hp w => by
  refine fn_intro Tryz.func160 rfl Tryz.ntmps160 rfl ?_
  repeat (first | (refine wkB ?_; try intro _) | (refine sC rfl rfl ?_ ?_; focus (exact hp)) | (refine sN rfl rfl ?_ ?_; (focus (exact hp)); intro _; (try simp only [List.cons_append, List.nil_append, List.append_nil])))
  exact jx_ret_tmp rfl rfl (fun w hw => ret_ok hw)⟩
end Go.Vt
/- Sorting events, walked. Conditions: those that each statement names. -/
set_option linter.unusedSimpArgs false
set_option linter.unusedVariables false
set_option maxHeartbeats 2000000
set_option maxRecDepth 100000
namespace Go.Vt
open Go.RowKit Go.Proofs
abbrev cmpE (x y : Ev) : Int := cmpB x.b y.b
/-- Two neighbours change places. -/
def swpE (xs : List Ev) (j : Nat) : List Ev := (xs.set (j + 1) (gi xs (j : Int))).set j (gi xs ((j + 1 : Nat) : Int))
/-- An element goes down as long as it is less than the one ahead of it. -/
def dwnE (xs : List Ev) : Nat → List Ev
  | 0 => xs
  | j + 1 => if cmpE (gi xs ((j + 1 : Nat) : Int)) (gi xs (j : Int)) < 0 then dwnE (swpE xs j) j else xs
/-- The first elements are in order. -/
def srtE (xs : List Ev) : Nat → List Ev
  | 0 => xs
  | i + 1 => dwnE (srtE xs i) (i + 1)
theorem swp_lenE (xs : List Ev) (j : Nat) : (swpE xs j).length = xs.length := by simp [swpE]
theorem swp_memE {xs : List Ev} {j : Nat} (h : j + 1 < xs.length) {u : Ev} (hu : u ∈ swpE xs j) : u ∈ xs := by
  unfold swpE at hu
  rcases List.mem_or_eq_of_mem_set hu with h1 | h1
  · rcases List.mem_or_eq_of_mem_set h1 with h2 | h2
    · exact h2
    · rw [h2, gi_nat (by omega)]
      exact List.getElem_mem _
  · rw [h1, gi_nat h]
    exact List.getElem_mem _
theorem dwn_lenE : ∀ (j : Nat) (xs : List Ev), (dwnE xs j).length = xs.length
  | 0, _ => rfl
  | j + 1, xs => by
    rw [dwnE]
    split
    · rw [dwn_lenE j, swp_lenE]
    · rfl
theorem dwn_memE : ∀ (j : Nat) (xs : List Ev), j < xs.length → ∀ u ∈ dwnE xs j, u ∈ xs
  | 0, _, _, _, h => h
  | j + 1, xs, hj, u, h => by
    rw [dwnE] at h
    split at h
    · exact swp_memE hj (dwn_memE j _ (by rw [swp_lenE]; omega) u h)
    · exact h
theorem srt_lenE (xs : List Ev) : ∀ i, (srtE xs i).length = xs.length
  | 0 => rfl
  | i + 1 => by rw [srtE, dwn_lenE, srt_lenE xs i]
theorem srt_memE (xs : List Ev) : ∀ i, i < xs.length → ∀ u ∈ srtE xs i, u ∈ xs
  | 0, _, _, h => h
  | i + 1, hi, u, h => by
    rw [srtE] at h
    exact srt_memE xs i (by omega) u (dwn_memE _ _ (by rw [srt_lenE]; exact hi) u h)
theorem ins_specE (w0 w : World) (L1 : List Blk) (b c n : Nat) (xs : List Ev) (sp : List Value) (T : TypeId) (hn : xs.length = n) (hl : n ≤ 1048576) (hok : ∀ u ∈ xs, BdOk u.b) (hw : Own w0 (⟨b, row eEv xs sp, T⟩ :: L1) w) :
    Calls Tryz.prog 193 [.slice (some ⟨b, 0, none⟩) n c, .int .i64 0, .int .i64 n, vFn 160].toArray w (RetX w0 Unit (fun _ => .tuple #[]) (fun _ => ⟨b, row eEv (srtE xs (n - 1)) sp, T⟩ :: L1)) := by
  refine fn_introL Tryz.func193 rfl Tryz.ntmps193 rfl hw ?_
  repeat (refine wkB ?_; try intro _)
  refine j_loop (S := Nat) (fun m => m ≤ n - 1) (fun m => [(0, .slice (some ⟨b, 0, none⟩) n c), (1, .int .i64 0), (2, .int .i64 n), (3, vFn 160), (8, .int .i64 ((m + 1 : Nat)))]) (fun m => ⟨b, row eEv (srtE xs m) sp, T⟩ :: L1) (fun m => n - 1 - m) 0 (Nat.zero_le _) sbB slB (fun m hm => ?_)
  have hsl := srt_lenE xs m
  repeat (refine wkB ?_; try intro _)
  refine j_cond rfl (fun h => ?_) (fun h => ?_)
  · have hlt : m + 1 < n := by have := of_decide_eq_true h; omega
    have hmem := srt_memE xs m (by omega)
    repeat (refine wkB ?_; try intro _)
    refine j_loop (S := Nat × List Ev) (fun s => dwnE s.2 s.1 = srtE xs (m + 1) ∧ s.2.length = n ∧ s.1 ≤ m + 1 ∧ ∀ u ∈ s.2, BdOk u.b) (fun s => [(0, .slice (some ⟨b, 0, none⟩) n c), (1, .int .i64 0), (2, .int .i64 n), (3, vFn 160), (8, .int .i64 ((m + 1 : Nat))), (9, .int .i64 ((s.1 : Nat)))]) (fun s => ⟨b, row eEv s.2 sp, T⟩ :: L1) (fun s => s.1) (m + 1, srtE xs m)
      ⟨rfl, by show (srtE xs m).length = n; omega, Nat.le_refl _, fun u hu => hok u (hmem u hu)⟩ sbB slB (fun s hs => ?_)
    obtain ⟨j, ys⟩ := s
    obtain ⟨g1, g2, g3, g4⟩ := hs
    simp only at g1 g2 g3 g4 ⊢
    repeat (refine wkB ?_; try intro _)
    rcases j with _ | j
    · (refine jD 17 17 (h := ?_); (repeat (refine wkH ?_)); refine jh_nil ?_; (repeat (refine wn_new ?_; intro _)); refine jn_nil ?_)
      repeat (refine wkB ?_; try intro _)
      exact jx_loop (m + 1) (by omega) sbB (by rw [← g1]; exact List.Sublist.refl _) (by omega)
    · have hj1 : ((j : Int)).toNat < ys.length := by omega
      have hj2 : (((j + 1 : Nat) : Int)).toNat < ys.length := by omega
      have e1 : ((j + 1 : Nat) : Int) - 1 = (j : Int) := by omega
      have o1 := g4 _ (by rw [gi_nat (show j < ys.length by omega)]; exact List.getElem_mem _ : gi ys (j : Int) ∈ ys)
      have o2 := g4 _ (by rw [gi_nat (show j + 1 < ys.length by omega)]; exact List.getElem_mem _ : gi ys ((j + 1 : Nat) : Int) ∈ ys)
      rw [dwnE] at g1
      refine jD 17 17 (h := ?_)
      (repeat (refine wkH ?_))
      simp only [decide_eq_true (show (0 : Int) < ((j + 1 : Nat) : Int) by omega), e1]
      (repeat (refine wkH ?_))
      simp only [e1]
      (repeat (first | refine wkH ?_ | (refine tC rfl rfl ?_ ?_; focus (exact ⟨o2, o1⟩))))
      refine jh_nil ?_
      refine jn_nil ?_
      repeat (refine wkB ?_; try intro _)
      by_cases hc : cmpE (gi ys ((j + 1 : Nat) : Int)) (gi ys (j : Int)) < 0
      · rw [if_pos hc] at g1
        simp only [decide_eq_true hc]
        repeat (refine wkB ?_; try intro _)
        (refine j_seg [(true, [0, 1, 2, 3, 4, 5, 6, 7, 8]), (false, [9]), (true, [10, 11, 12]), (false, [13]), (true, [14])] [15, 16, 17] (h := ?_); refine wkS ?_)
        (repeat (refine wkH ?_))
        simp only [e1]
        refine jh_nil ?_
        refine eR rfl ?_ ?_
        · omega
        refine uS rfl rfl ?_ ?_
        · omega
        refine eR rfl ?_ ?_
        · rw [List.length_set]; omega
        refine je_nil ?_
        simp only [Int.toNat_natCast]
        repeat (first | (refine wkB ?_; try intro _) | (refine sC rfl rfl ?_ ?_; focus (exact ⟨by omega, by omega⟩)) | (refine sN rfl rfl ?_ ?_; (focus (exact ⟨by omega, by omega⟩)); intro _; (try simp only [List.cons_append, List.nil_append, List.append_nil])))
        simp only [e1]
        exact jx_loop (j, swpE ys j) ⟨g1, by rw [swp_lenE]; exact g2, by omega, fun u hu => g4 u (swp_memE (by omega) hu)⟩ sbB slB (by show j < j + 1; omega)
      · rw [if_neg hc] at g1
        simp only [decide_eq_false hc]
        repeat (first | (refine wkB ?_; try intro _) | (refine sC rfl rfl ?_ ?_; focus (exact ⟨by omega, by omega⟩)) | (refine sN rfl rfl ?_ ?_; (focus (exact ⟨by omega, by omega⟩)); intro _; (try simp only [List.cons_append, List.nil_append, List.append_nil])))
        exact jx_loop (m + 1) (by omega) sbB (by rw [← g1]; exact List.Sublist.refl _) (by omega)
  · have hge : m = n - 1 := by have := of_decide_eq_false h; omega
    subst hge
    repeat (refine wkB ?_; try intro _)
    exact jx_end0 rfl (fun w hw => ⟨(), rfl, hw⟩)
abbrev SrtSE (xs : List Ev) (s : SlS eEv 12 xs) : Type := { s' : SlS eEv 12 (srtE xs (xs.length - 1)) // vSl s' = vSl s }
theorem insS_specE (w0 w : World) (L L1 : List Blk) (xs : List Ev) (s : SlS eEv 12 xs) (T : TypeId) [hd : OwnS T s L L1] (hl : xs.length ≤ 1048576) (hok : ∀ u ∈ xs, BdOk u.b) (hw : Own w0 L w) :
    Calls Tryz.prog 193 [vSl s, .int .i64 0, .int .i64 xs.length, vFn 160].toArray w (RetX w0 (SrtSE xs s) (fun _ => .tuple #[]) (fun s' => mS T s'.1 ++ L1)) := by
  have hw1 := hw.perm hd.out
  rcases s.cases T with ⟨rfl, hv, hm⟩ | ⟨b, c, sp, h1, hv, hm, hne⟩
  · suffices h : Calls Tryz.prog 193 [.slice none 0 0, .int .i64 0, .int .i64 (([] : List Ev).length : Nat), vFn 160].toArray w (RetX w0 (SrtSE [] s) (fun _ => .tuple #[]) (fun s' => mS T s'.1 ++ L1)) by
      rw [← hv] at h
      exact h
    refine fn_introL Tryz.func193 rfl Tryz.ntmps193 rfl hw1 ?_
    repeat (refine wkB ?_; try intro _)
    refine j_loop (S := Unit) (fun _ => True) (fun _ => [(2, .int .i64 (([] : List Ev).length : Nat)), (8, .int .i64 1)]) (fun _ => mS T s ++ L1) (fun _ => 0) () trivial sbB slB (fun _ _ => ?_)
    repeat (refine wkB ?_; try intro _)
    simp only [decide_eq_false (show ¬ (1 : Int) < ((([] : List Ev).length : Nat) : Int) by simp)]
    repeat (refine wkB ?_; try intro _)
    exact jx_end0 rfl (fun w hw => ⟨⟨s, rfl⟩, rfl, hw⟩)
  · suffices h : Calls Tryz.prog 193 [.slice (some ⟨b, 0, none⟩) xs.length c, .int .i64 0, .int .i64 xs.length, vFn 160].toArray w (RetX w0 (SrtSE xs s) (fun _ => .tuple #[]) (fun s' => mS T s'.1 ++ L1)) by
      rw [← hv] at h
      exact h
    rw [hm] at hw1
    have hsl := srt_lenE xs (xs.length - 1)
    refine (ins_specE w0 w L1 b c xs.length xs sp T rfl hl hok hw1).mono fun e w' ⟨_, he, hw'⟩ => ?_
    exact ⟨⟨SlS.at_ b c sp (by rw [hsl]; exact h1) (fun h0 => hne (List.length_eq_zero_iff.1 (by rw [h0, List.length_nil] at hsl; exact hsl.symm))), by rw [hv]; show Value.slice _ (srtE xs (xs.length - 1)).length c = _; rw [hsl]⟩, he, hw'⟩
instance sx_insE (w0 : World) (L L1 : List Blk) (xs : List Ev) (s : SlS eEv 12 xs) (T : TypeId) [hd : OwnS T s L L1] : SpecX Tryz.prog w0 L 193 [vSl s, .int .i64 0, .int .i64 xs.length, vFn 160] (SrtSE xs s) (fun _ => .tuple #[]) (fun s' => mS T s'.1 ++ L1) (xs.length ≤ 1048576 ∧ ∀ u ∈ xs, BdOk u.b) := ⟨fun hp w hw => insS_specE w0 w L L1 xs s T hp.1 hp.2 hw⟩
end Go.Vt
/- The sort of few events, walked. Conditions: those that each statement names. -/
set_option linter.unusedSimpArgs false
set_option linter.unusedVariables false
set_option maxHeartbeats 2000000
set_option maxRecDepth 100000
namespace Go.Vt
open Go.RowKit Go.Proofs
theorem pdqE_spec (w0 w : World) (L L1 : List Blk) (xs : List Ev) (s : SlS eEv 12 xs) (T : TypeId) (lim : Int) [hd : OwnS T s L L1] (hl : xs.length ≤ 12) (hok : ∀ u ∈ xs, BdOk u.b) (hw : Own w0 L w) :
    Calls Tryz.prog 180 [vSl s, .int .i64 0, .int .i64 xs.length, .int .i64 lim, vFn 160].toArray w (RetX w0 (SrtSE xs s) (fun _ => .tuple #[]) (fun s' => mS T s'.1 ++ L1)) := by
  refine fn_introL Tryz.func180 rfl Tryz.ntmps180 rfl hw ?_
  repeat (refine wkB ?_; try intro _)
  refine j_loop (S := Unit) (fun _ => True) (fun _ => [(0, vSl s), (1, .int .i64 0), (2, .int .i64 xs.length), (3, .int .i64 lim), (4, vFn 160), (10, .bool true), (11, .bool true)]) (fun _ => L) (fun _ => 0) () trivial sbB slB (fun _ _ => ?_)
  repeat (refine wkB ?_; try intro _)
  simp only [decide_eq_true (show (xs.length : Int) - 0 ≤ 12 by omega)]
  repeat (refine wkB ?_; try intro _)
  refine sZ rfl rfl ?_ ?_
  · exact ⟨by omega, hok⟩
  intro s'
  repeat (refine wkB ?_; try intro _)
  exact jx_ret0 rfl (fun w hw => ⟨s', rfl, hw⟩)
instance sx_pdqE (w0 : World) (L L1 : List Blk) (xs : List Ev) (s : SlS eEv 12 xs) (T : TypeId) (lim : Int) [hd : OwnS T s L L1] : SpecX Tryz.prog w0 L 180 [vSl s, .int .i64 0, .int .i64 xs.length, .int .i64 lim, vFn 160] (SrtSE xs s) (fun _ => .tuple #[]) (fun s' => mS T s'.1 ++ L1) (xs.length ≤ 12 ∧ ∀ u ∈ xs, BdOk u.b) := ⟨fun hp w hw => pdqE_spec w0 w L L1 xs s T lim hp.1 hp.2 hw⟩
instance sp_bitsLen (x : Nat) : SpecC Tryz.prog 181 [.int .u64 (x : Int)] (.int .i64 (Lib.bitLen x)) ((x : Int) ≤ 18446744073709551615) := ⟨fun hp w => (Tryz.bits_Len x w (by omega) hp).mono fun e w' ⟨h1, h2⟩ => by
  subst h2
  exact ⟨h1, Ext.refl _⟩⟩
theorem sortE_spec (w0 w : World) (L L1 : List Blk) (xs : List Ev) (s : SlS eEv 12 xs) (T : TypeId) [hd : OwnS T s L L1] (hl : xs.length ≤ 12) (hok : ∀ u ∈ xs, BdOk u.b) (hw : Own w0 L w) :
    Calls Tryz.prog 159 [vSl s, vFn 160].toArray w (RetX w0 (SrtSE xs s) (fun _ => .tuple #[]) (fun s' => mS T s'.1 ++ L1)) := by
  refine fn_introL Tryz.func159 rfl Tryz.ntmps159 rfl hw ?_
  repeat (first | (refine wkB ?_; try intro _) | (refine sC rfl rfl ?_ ?_; focus (omega)) | (refine sN rfl rfl ?_ ?_; (focus (omega)); intro _; (try simp only [List.cons_append, List.nil_append, List.append_nil])))
  refine sZ rfl rfl ?_ ?_
  · exact ⟨hl, hok⟩
  intro s'
  repeat (refine wkB ?_; try intro _)
  exact jx_end0 rfl (fun w hw => ⟨s', rfl, hw⟩)
instance sx_sortE (w0 : World) (L L1 : List Blk) (xs : List Ev) (s : SlS eEv 12 xs) (T : TypeId) [hd : OwnS T s L L1] : SpecX Tryz.prog w0 L 159 [vSl s, vFn 160] (SrtSE xs s) (fun _ => .tuple #[]) (fun s' => mS T s'.1 ++ L1) (xs.length ≤ 12 ∧ ∀ u ∈ xs, BdOk u.b) := ⟨fun hp w hw => sortE_spec w0 w L L1 xs s T hp.1 hp.2 hw⟩
end Go.Vt
/- Sweeping over the borders of two periods, walked. Conditions: those that each statement names. -/
set_option linter.unusedSimpArgs false
set_option linter.unusedVariables false
set_option maxHeartbeats 2000000
set_option maxRecDepth 100000
namespace Go.Vt
open Go.RowKit Go.Proofs
def eSlc (x : Sl) : Array Value := #[.slice x.a x.len x.cap]
instance : Inhabited Sl := ⟨⟨none, 0, 0⟩⟩
instance enc_Slc : EncC eSlc 1 := ⟨fun _ => rfl, fun x => by simp [eSlc, Value.oneCell']⟩
instance ld_Slc (x : Sl) : LdC Tryz.prog 87 (eSlc x) 0 (.slice x.a x.len x.cap) := ⟨ldv_one (by kernel_rfl) (by kernel_rfl)⟩
instance bs_Slc (a a' : Option Addr) (l l' c c' : Nat) : BsC Tryz.prog 230 2 [(0, .slice a l c), (1, .slice a' l' c')] (row eSlc [⟨a, l, c⟩, ⟨a', l', c'⟩] []) 87 := ⟨fun w => by kernel_rfl⟩
/-- The events of some intervals of the first, of the second period. -/
def evA (is : List R_api_Interval) : Nat → List Ev
  | 0 => []
  | m + 1 => evA is m ++ [⟨bdF (gi is (m : Int)), 1, 0⟩, ⟨bdL (gi is (m : Int)), -1, 0⟩]
def evB (is : List R_api_Interval) : Nat → List Ev
  | 0 => []
  | m + 1 => evB is m ++ [⟨bdF (gi is (m : Int)), 0, 1⟩, ⟨bdL (gi is (m : Int)), 0, -1⟩]
def kpM (a b : Bool) : Bool := a && !b
def kpU (a b : Bool) : Bool := a || b
/-- What is known behind so many events: the numbers of intervals, where the last one began, whether one is open, what has been found. -/
structure SwS where
  n0 : Int
  n1 : Int
  fr : Bd
  on : Bool
  out : List R_api_Interval
def sws (kp : Bool → Bool → Bool) (l : List Ev) : Nat → SwS
  | 0 => ⟨0, 0, zR_period_border, false, []⟩
  | m + 1 =>
    let p := sws kp l m
    let x := gi l (m : Int)
    let n0 := p.n0 + x.n0
    let n1 := p.n1 + x.n1
    if m + 1 < l.length ∧ cmpB x.b (gi l ((m + 1 : Nat) : Int)).b = 0 then ⟨n0, n1, p.fr, p.on, p.out⟩
    else
      let now := kp (decide (0 < n0)) (decide (0 < n1))
      ⟨n0, n1, if now && !p.on then x.b else p.fr, now, if now && !p.on then p.out else if !now && p.on then p.out ++ [bdB p.fr x.b] else p.out⟩
theorem evA_len (is : List R_api_Interval) : ∀ m, (evA is m).length = 2 * m
  | 0 => rfl
  | m + 1 => by rw [evA, List.length_append, evA_len is m]; simp; omega
theorem evB_len (is : List R_api_Interval) : ∀ m, (evB is m).length = 2 * m
  | 0 => rfl
  | m + 1 => by rw [evB, List.length_append, evB_len is m]; simp; omega
end Go.Vt
/- Sweeping, walked (under way). Conditions: those that each statement names. -/
set_option linter.unusedSimpArgs false
set_option linter.unusedVariables false
set_option maxHeartbeats 2000000
set_option maxRecDepth 100000
namespace Go.Vt
open Go.RowKit Go.Proofs
instance (priority := high) ys_slc {P : Program} {w0 : World} {n : Nat} {L : List Blk} {E : Env} {T T0 : TypeId} {x : Operand} {b : Nat} {i : Int} {a1 a2 : Sl} [IsC (evl E x) (.pointer (some ⟨b, 0 + i.toNat * 1, none⟩))] [h : AtC w0 L b (row eSlc [a1, a2] []) T0] [hv : LdC P T (eSlc (gi [a1, a2] i)) 0 (.slice (gi [a1, a2] i).a (gi [a1, a2] i).len (gi [a1, a2] i).cap)] : YsC P w0 n L E (.load T x) (.slice (gi [a1, a2] i).a (gi [a1, a2] i).len (gi [a1, a2] i).cap) (0 ≤ i ∧ i < 2) := ⟨fun hi => ys_row0.out (by show i.toNat < 2; omega)⟩
theorem bsr_Ev2 (x y : Ev) : ∀ w : World, (Instr.buildSlice 229 2 [(0, vEv x), (1, vEv y)].toArray).run Tryz.prog w = .ok (.slice (some ⟨w.heap.size, 0, none⟩) 2 2) (w.alloc (.cells (row eEv [x, y] []) 233)) := fun w => by kernel_rfl
instance bs_Ev2 (x y : Ev) : BsC Tryz.prog 229 2 [(0, vEv x), (1, vEv y)] (row eEv [x, y] []) 233 := ⟨bsr_Ev2 x y⟩
instance (priority := high) ys_e2I {P : Program} {w0 : World} {n : Nat} {L : List Blk} {E : Env} {T T0 : TypeId} {x : Operand} {b : Nat} {i a1 a2 : Int} [IsC (evl E x) (.pointer (some ⟨b, 0 + i.toNat * 1, none⟩))] [h : AtC w0 L b (row (eI .i64) [a1, a2] []) T0] [hv : LdC P T (eI .i64 (gi [a1, a2] i)) 0 (.int .i64 (gi [a1, a2] i))] : YsC P w0 n L E (.load T x) (.int .i64 (gi [a1, a2] i)) (0 ≤ i ∧ i < 2) := ⟨fun hi => ys_row0.out (by show i.toNat < 2; omega)⟩
instance ld_EvA0 (x : Ev) : LdC Tryz.prog 3 (eEv x) (10 + Int.toNat 0 * 1) (.int .i64 x.n0) := ⟨ldv_one (by kernel_rfl) (by kernel_rfl)⟩
instance ld_EvA1 (x : Ev) : LdC Tryz.prog 3 (eEv x) (10 + Int.toNat 1 * 1) (.int .i64 x.n1) := ⟨ldv_one (by kernel_rfl) (by kernel_rfl)⟩
def evK (is js : List R_api_Interval) (k : Nat) : List Ev := if k = 0 then [] else if k = 1 then evA is is.length else evA is is.length ++ evB js js.length
theorem evA_ok {is : List R_api_Interval} (h : ∀ i ∈ is, BdOk (bdF i) ∧ BdOk (bdL i)) : ∀ m, m ≤ is.length → ∀ u ∈ evA is m, BdOk u.b
  | 0, _, u, hu => by cases hu
  | m + 1, hm, u, hu => by
    rw [evA] at hu
    have hi := h _ (gi_mem (i := (m : Int)) (xs := is) (by omega))
    rcases List.mem_append.1 hu with k | k
    · exact evA_ok h m (by omega) u k
    · rcases List.mem_cons.1 k with k1 | k1
      · rw [k1]; exact hi.1
      · rw [List.mem_singleton.1 k1]; exact hi.2
theorem evB_ok {is : List R_api_Interval} (h : ∀ i ∈ is, BdOk (bdF i) ∧ BdOk (bdL i)) : ∀ m, m ≤ is.length → ∀ u ∈ evB is m, BdOk u.b
  | 0, _, u, hu => by cases hu
  | m + 1, hm, u, hu => by
    rw [evB] at hu
    have hi := h _ (gi_mem (i := (m : Int)) (xs := is) (by omega))
    rcases List.mem_append.1 hu with k | k
    · exact evB_ok h m (by omega) u k
    · rcases List.mem_cons.1 k with k1 | k1
      · rw [k1]; exact hi.1
      · rw [List.mem_singleton.1 k1]; exact hi.2
def Ev1 (x : Ev) : Prop := (-1 ≤ x.n0 ∧ x.n0 ≤ 1) ∧ (-1 ≤ x.n1 ∧ x.n1 ≤ 1)
theorem evA_1 (is : List R_api_Interval) : ∀ m, ∀ u ∈ evA is m, Ev1 u
  | 0, u, hu => by cases hu
  | m + 1, u, hu => by
    rw [evA] at hu
    rcases List.mem_append.1 hu with k | k
    · exact evA_1 is m u k
    · rcases List.mem_cons.1 k with k1 | k1
      · rw [k1]; unfold Ev1; simp
      · rw [List.mem_singleton.1 k1]; unfold Ev1; simp
theorem evB_1 (is : List R_api_Interval) : ∀ m, ∀ u ∈ evB is m, Ev1 u
  | 0, u, hu => by cases hu
  | m + 1, u, hu => by
    rw [evB] at hu
    rcases List.mem_append.1 hu with k | k
    · exact evB_1 is m u k
    · rcases List.mem_cons.1 k with k1 | k1
      · rw [k1]; unfold Ev1; simp
      · rw [List.mem_singleton.1 k1]; unfold Ev1; simp
theorem sws_bnd {kp : Bool → Bool → Bool} {l : List Ev} (h : ∀ x ∈ l, Ev1 x) : ∀ m : Nat, m ≤ l.length → (-(m : Int) ≤ (sws kp l m).n0 ∧ (sws kp l m).n0 ≤ m) ∧ (-(m : Int) ≤ (sws kp l m).n1 ∧ (sws kp l m).n1 ≤ m)
  | 0, _ => by simp [sws]
  | m + 1, hm => by
    obtain ⟨h1, h2⟩ := sws_bnd (kp := kp) h m (by omega)
    obtain ⟨h3, h4⟩ := h _ (gi_mem (i := (m : Int)) (xs := l) (by omega))
    rw [sws]
    simp only
    split
    · exact ⟨⟨by show _ ≤ (sws kp l m).n0 + (gi l (m : Int)).n0; omega, by show (sws kp l m).n0 + (gi l (m : Int)).n0 ≤ _; omega⟩, by show _ ≤ (sws kp l m).n1 + (gi l (m : Int)).n1; omega, by show (sws kp l m).n1 + (gi l (m : Int)).n1 ≤ _; omega⟩
    · exact ⟨⟨by show _ ≤ (sws kp l m).n0 + (gi l (m : Int)).n0; omega, by show (sws kp l m).n0 + (gi l (m : Int)).n0 ≤ _; omega⟩, by show _ ≤ (sws kp l m).n1 + (gi l (m : Int)).n1; omega, by show (sws kp l m).n1 + (gi l (m : Int)).n1 ≤ _; omega⟩
/-- What sweep returns. -/
def swpR (kp : Bool → Bool → Bool) (is js : List R_api_Interval) : List R_api_Interval := (sws kp (srtE (evK is js 2) ((evK is js 2).length - 1)) (srtE (evK is js 2) ((evK is js 2).length - 1)).length).out
theorem sws_out (kp : Bool → Bool → Bool) (l : List Ev) : ∀ m, (sws kp l m).out.length ≤ m
  | 0 => Nat.le_refl _
  | m + 1 => by
    have := sws_out kp l m
    rw [sws]
    simp only
    split
    · show (sws kp l m).out.length ≤ m + 1
      omega
    · simp only
      split
      · omega
      · split
        · rw [List.length_append]; simp; omega
        · omega
set_option maxHeartbeats 4000000 in
theorem sweep_spec (kf : FuncId) (kp : Bool → Bool → Bool) [CallC Tryz.prog kf] (hkp : ∀ a b, SpecC Tryz.prog kf [.bool a, .bool b] (.bool (kp a b)) True) (v1 v2 : Value) (is js : List R_api_Interval) (w : World) (hv1 : ArgS w v1 rI is) (hv2 : ArgS w v2 rI js) (hl : 2 * is.length + 2 * js.length ≤ 12) (ho1 : ∀ i ∈ is, BdOk (bdF i) ∧ BdOk (bdL i)) (ho2 : ∀ i ∈ js, BdOk (bdF i) ∧ BdOk (bdL i)) :
    Calls Tryz.prog 122 [v1, v2, vFn kf].toArray w (RetM (SlS rI 20 (swpR kp is js)) (fun s => vSl s) (fun s => mS 32 s) w) := by
  refine fn_intro Tryz.func122 rfl Tryz.ntmps122 rfl ?_
  obtain ⟨p1, c1, rfl⟩ := hv1.form
  obtain ⟨p2, c2, rfl⟩ := hv2.form
  repeat (refine wkB ?_; try intro _)
  rename_i b23
  refine j_loop (S := (ys : List Ev) × Nat × SlS eEv 12 ys) (fun s => s.1 = evK is js s.2.1 ∧ s.2.1 ≤ 2) (fun s => [(2, vFn kf), (7, vSl s.2.2), (23, .slice (some ⟨b23, 0, none⟩) 2 2), (24, .int .i64 2), (25, .int .i64 (s.2.1 : Nat))])
    (fun s => mS 233 s.2.2 ++ [⟨b23, row eSlc [⟨p1, is.length, c1⟩, ⟨p2, js.length, c2⟩] [], 87⟩]) (fun s => 2 - s.2.1) ⟨[], 0, SlS.no⟩ ⟨rfl, Nat.zero_le _⟩ sbB slB (fun s hs => ?_)
  obtain ⟨ys, k, s⟩ := s
  obtain ⟨hys, hk⟩ := hs
  simp only at hys hk s ⊢
  have hz : Tryz.prog.info? 0 = Tryz.prog.info? 0 := rfl
  repeat (refine wkB ?_; try intro _)
  rcases (by omega : k = 0 ∨ k = 1 ∨ k = 2) with h0 | h0 | h0
  · subst h0
    simp only [decide_eq_true (show ((0 : Nat) : Int) < 2 by omega)]
    repeat (refine wkB ?_; try intro _)
    simp only [show gi [(⟨p1, is.length, c1⟩ : Sl), ⟨p2, js.length, c2⟩] ((0 : Nat) : Int) = ⟨p1, is.length, c1⟩ from rfl]
    repeat (refine wkB ?_; try intro _)
    refine j_loop (S := (zs : List Ev) × Nat × SlS eEv 12 zs) (fun r => r.1 = evA is r.2.1 ∧ r.2.1 ≤ is.length) (fun r => [(2, vFn kf), (7, vSl r.2.2), (8, .int .i64 0), (23, .slice (some ⟨b23, 0, none⟩) 2 2), (24, .int .i64 2), (25, .int .i64 0), (30, .slice p1 is.length c1), (31, .int .i64 is.length), (32, .int .i64 (r.2.1 : Nat))])
      (fun r => mS 233 r.2.2 ++ [⟨b23, row eSlc [⟨p1, is.length, c1⟩, ⟨p2, js.length, c2⟩] [], 87⟩]) (fun r => is.length - r.2.1) ⟨ys, 0, s⟩ ⟨hys, Nat.zero_le _⟩ sbB slB (fun r hr => ?_)
    obtain ⟨zs, m, r⟩ := r
    obtain ⟨hzs, hm⟩ := hr
    simp only at hzs hm r ⊢
    repeat (refine wkB ?_; try intro _)
    refine j_cond rfl (fun h => ?_) (fun h => ?_)
    · have hlt : m < is.length := by have := of_decide_eq_true h; omega
      have hne : is ≠ [] := fun h0 => by rw [h0] at hlt; simp at hlt
      obtain ⟨bw, ow, cw, hvw, hcw, hrow⟩ := hv1.blk (k := 19) hne []
      injection hvw with e1 e2 e3
      subst e1
      subst e3
      have hrow' : ∀ L, RowC w L bw ow R_api_Interval rI is := fun L => ⟨fun w' hw' => hrow.out w' (hw'.sub (List.nil_sublist _))⟩
      have hel := evA_len is m
      repeat (refine wkB ?_; try intro _)
      rename_i b11
      obtain ⟨iv, hiv⟩ : ∃ iv, iv = gi is (m : Int) := ⟨_, rfl⟩
      simp only [← hiv]
      (refine j_drawL [0, 1, 2, 3, 4, 5] [6, 7] [8, 9] ([⟨b11, e_api_Interval (q_api_Interval iv), 32⟩]) (h := ?_); refine wkI ?_)
      (repeat (refine wkH ?_))
      repeat (refine wkT ?_; try intro _)
      repeat (refine wkB ?_; try intro _)
      refine sU rfl rfl ?_ ?_ ?_ ?_
      · rfl
      · rfl
      · exact ⟨by decide, by rw [hzs]; omega, by rw [hzs]; omega⟩
      intro r'
      repeat (first | (refine wkB ?_; try intro _) | (refine sC rfl rfl ?_ ?_; focus (exact ⟨by omega, by omega⟩)) | (refine sN rfl rfl ?_ ?_; (focus (exact ⟨by omega, by omega⟩)); intro _; (try simp only [List.cons_append, List.nil_append, List.append_nil])))
      exact jx_loop ⟨_, m + 1, r'⟩ ⟨by show zs ++ _ = evA is m ++ _; rw [hzs, hiv], hlt⟩ sbB suB (by show is.length - (m + 1) < is.length - m; omega)
    · have hge : m = is.length := by have := of_decide_eq_false h; omega
      subst hge
      repeat (refine wkB ?_; try intro _)
      exact jx_loop ⟨zs, 1, r⟩ ⟨hzs, Nat.le_of_ble_eq_true rfl⟩ sbB suB (by show 2 - 1 < 2 - 0; decide)
  · subst h0
    simp only [decide_eq_true (show ((1 : Nat) : Int) < 2 by omega)]
    repeat (refine wkB ?_; try intro _)
    simp only [show gi [(⟨p1, is.length, c1⟩ : Sl), ⟨p2, js.length, c2⟩] ((1 : Nat) : Int) = ⟨p2, js.length, c2⟩ from rfl]
    repeat (refine wkB ?_; try intro _)
    refine j_loop (S := (zs : List Ev) × Nat × SlS eEv 12 zs) (fun r => r.1 = evA is is.length ++ evB js r.2.1 ∧ r.2.1 ≤ js.length) (fun r => [(2, vFn kf), (7, vSl r.2.2), (8, .int .i64 1), (23, .slice (some ⟨b23, 0, none⟩) 2 2), (24, .int .i64 2), (25, .int .i64 1), (30, .slice p2 js.length c2), (31, .int .i64 js.length), (32, .int .i64 (r.2.1 : Nat))])
      (fun r => mS 233 r.2.2 ++ [⟨b23, row eSlc [⟨p1, is.length, c1⟩, ⟨p2, js.length, c2⟩] [], 87⟩]) (fun r => js.length - r.2.1) ⟨ys, 0, s⟩ ⟨by rw [evB, List.append_nil]; exact hys, Nat.zero_le _⟩ sbB slB (fun r hr => ?_)
    obtain ⟨zs, m, r⟩ := r
    obtain ⟨hzs, hm⟩ := hr
    simp only at hzs hm r ⊢
    repeat (refine wkB ?_; try intro _)
    refine j_cond rfl (fun h => ?_) (fun h => ?_)
    · have hlt : m < js.length := by have := of_decide_eq_true h; omega
      have hne : js ≠ [] := fun h0 => by rw [h0] at hlt; simp at hlt
      obtain ⟨bw, ow, cw, hvw, hcw, hrow⟩ := hv2.blk (k := 19) hne []
      injection hvw with e1 e2 e3
      subst e1
      subst e3
      have hrow' : ∀ L, RowC w L bw ow R_api_Interval rI js := fun L => ⟨fun w' hw' => hrow.out w' (hw'.sub (List.nil_sublist _))⟩
      have hel := evB_len js m
      have hel2 := evA_len is is.length
      repeat (refine wkB ?_; try intro _)
      rename_i b11
      obtain ⟨iv, hiv⟩ : ∃ iv, iv = gi js (m : Int) := ⟨_, rfl⟩
      simp only [← hiv]
      (refine j_drawL [0, 1, 2, 3, 4, 5] [6, 7] [8, 9] ([⟨b11, e_api_Interval (q_api_Interval iv), 32⟩]) (h := ?_); refine wkI ?_)
      (repeat (refine wkH ?_))
      repeat (refine wkT ?_; try intro _)
      repeat (refine wkB ?_; try intro _)
      refine sU rfl rfl ?_ ?_ ?_ ?_
      · rfl
      · rfl
      · exact ⟨by decide, by rw [hzs, List.length_append]; omega, by rw [hzs, List.length_append]; omega⟩
      intro r'
      repeat (first | (refine wkB ?_; try intro _) | (refine sC rfl rfl ?_ ?_; focus (exact ⟨by omega, by omega⟩)) | (refine sN rfl rfl ?_ ?_; (focus (exact ⟨by omega, by omega⟩)); intro _; (try simp only [List.cons_append, List.nil_append, List.append_nil])))
      exact jx_loop ⟨_, m + 1, r'⟩ ⟨by show zs ++ _ = evA is is.length ++ (evB js m ++ _); rw [hzs, hiv, List.append_assoc], hlt⟩ sbB suB (by show js.length - (m + 1) < js.length - m; omega)
    · have hge : m = js.length := by have := of_decide_eq_false h; omega
      subst hge
      repeat (refine wkB ?_; try intro _)
      exact jx_loop ⟨zs, 2, r⟩ ⟨hzs, Nat.le_of_ble_eq_true rfl⟩ sbB suB (by show 2 - 2 < 2 - 1; decide)
  · subst h0
    simp only [decide_eq_false (show ¬ ((2 : Nat) : Int) < 2 by omega)]
    have hlen : ys.length ≤ 12 := by
      rw [hys]
      show (evA is is.length ++ evB js js.length).length ≤ 12
      rw [List.length_append, evA_len, evB_len]
      exact hl
    have hbd : ∀ u ∈ ys, BdOk u.b := by
      rw [hys]
      intro u hu
      rcases List.mem_append.1 (show u ∈ evA is is.length ++ evB js js.length from hu) with h1 | h1
      · exact evA_ok ho1 _ (Nat.le_refl _) u h1
      · exact evB_ok ho2 _ (Nat.le_refl _) u h1
    repeat (refine wkB ?_; try intro _)
    refine sZ rfl rfl ?_ ?_
    · exact ⟨hlen, hbd⟩
    intro s'
    obtain ⟨s2, hs2⟩ := s'
    repeat (refine wkB ?_; try intro _)
    rename_i b15 b16
    have hzb : ∀ u ∈ srtE ys (ys.length - 1), BdOk u.b := fun u hu => by
      rcases (by omega : ys.length = 0 ∨ ys.length - 1 < ys.length) with h1 | h1
      · rw [List.length_eq_zero_iff.1 h1] at hu
        cases hu
      · exact hbd u (srt_memE ys _ h1 u hu)
    have hz1 : ∀ u ∈ srtE ys (ys.length - 1), Ev1 u := fun u hu => by
      rcases (by omega : ys.length = 0 ∨ ys.length - 1 < ys.length) with h1 | h1
      · rw [List.length_eq_zero_iff.1 h1] at hu
        cases hu
      · have h2 := srt_memE ys _ h1 u hu
        rw [hys] at h2
        rcases List.mem_append.1 (show u ∈ evA is is.length ++ evB js js.length from h2) with h3 | h3
        · exact evA_1 _ _ u h3
        · exact evB_1 _ _ u h3
    obtain ⟨es, s3, hes, hv3, hm3⟩ : ∃ (es : List Ev) (s3 : SlS eEv 12 es), es = srtE ys (ys.length - 1) ∧ vSl s3 = vSl s ∧ mS 233 s3 = mS 233 s2 := ⟨_, s2, rfl, hs2, rfl⟩
    have hzl : ys.length = es.length := by rw [hes, srt_lenE]
    rw [← hes] at hzb hz1
    simp only [← hv3, ← hm3, hzl]
    refine j_loop (S := (q : SwS) × Nat × SlS rI 20 q.out) (fun r => r.1 = sws kp es r.2.1 ∧ r.2.1 ≤ es.length) (fun r => [(2, vFn kf), (7, vSl s3), (14, vSl r.2.2), (15, .pointer (some ⟨b15, 0, none⟩)), (16, .pointer (some ⟨b16, 0, none⟩)), (17, .bool r.1.on), (57, vSl s3), (58, .int .i64 es.length), (59, .int .i64 (r.2.1 : Nat))])
      (fun r => mS 32 r.2.2 ++ (⟨b16, e_period_border (q_period_border r.1.fr), 181⟩ :: ⟨b15, row (eI .i64) [r.1.n0, r.1.n1] [], 231⟩ :: mS 233 s3)) (fun r => es.length - r.2.1) ⟨sws kp es 0, 0, SlS.no⟩ ⟨rfl, Nat.zero_le _⟩ sbB suB (fun r hr => ?_)
    obtain ⟨q, m, r⟩ := r
    obtain ⟨hq, hm⟩ := hr
    simp only at hq hm r ⊢
    repeat (refine wkB ?_; try intro _)
    refine j_cond rfl (fun h => ?_) (fun h => ?_)
    · have hlt : m < es.length := by have := of_decide_eq_true h; omega
      rcases s3.cases 233 with ⟨h0, -, -⟩ | ⟨bE, cE, spE, hc1, hvE, hmE, hneE⟩
      · rw [h0] at hlt; simp at hlt
      · simp only [hvE, hmE]
        obtain ⟨w1, w2⟩ := sws_bnd (kp := kp) hz1 m (by omega)
        rw [← hq] at w1 w2
        obtain ⟨w3, w4⟩ := hz1 _ (gi_mem (i := (m : Int)) (xs := es) (by omega))
        repeat (refine wkB ?_; try intro _)
        rename_i b19
        have q0 : gi [q.n0, q.n1] 0 = q.n0 := rfl
        have q1 : gi [q.n0, q.n1] 1 = q.n1 := rfl
        refine j_cut (S := Unit) (fun _ => True) (fun _ => [(2, vFn kf), (7, .slice (some ⟨bE, 0, none⟩) es.length cE), (14, vSl r), (15, .pointer (some ⟨b15, 0, none⟩)), (16, .pointer (some ⟨b16, 0, none⟩)), (17, .bool q.on), (18, .int .i64 (m : Nat)), (19, .pointer (some ⟨b19, 0, none⟩)), (57, .slice (some ⟨bE, 0, none⟩) es.length cE), (58, .int .i64 es.length), (59, .int .i64 (m : Nat))])
          (fun _ => ⟨b19, eEv (gi es (m : Int)), 233⟩ :: (mS 32 r ++ [⟨b16, e_period_border (q_period_border q.fr), 181⟩, ⟨b15, row (eI .i64) [q.n0 + (gi es (m : Int)).n0, q.n1 + (gi es (m : Int)).n1] [], 231⟩, ⟨bE, row eEv es spE, 233⟩])) ?_ (fun _ _ => ?_)
        · (refine j_tree (.v [0, 2, 3, 4, 6, 8, 9, 10] (.e2 1 (.v [5] (.e1 7 (.v [11, 12] (.e1 13 (.v [14] (.e1 15 (.fin))))))) 7 (.v [11] (.e1 1 (.v [5, 12] (.e1 13 (.v [14] (.e1 15 (.fin))))))))) ([⟨b19, eEv (gi es (m : Int)), 233⟩]) (h := ?_); refine wkX ?_)
          repeat' (first | (with_reducible refine And.intro ?_ ?_) | (with_reducible exact True.intro) | (refine wkT ?_; try intro _) | fail)
          all_goals simp only [q0, q1]
          all_goals refine eR rfl ?_ ?_
          all_goals first | exact Nat.le_of_ble_eq_true rfl | skip
          repeat' (first | (with_reducible refine And.intro ?_ ?_) | (with_reducible exact True.intro) | (refine wkT ?_; try intro _) | fail)
          all_goals refine eR rfl ?_ ?_
          all_goals first | exact Nat.le_of_ble_eq_true rfl | skip
          repeat' (first | (with_reducible refine And.intro ?_ ?_) | (with_reducible exact True.intro) | (refine wkT ?_; try intro _) | fail)
          all_goals exact jx_mid () trivial sbB suB
        repeat (refine wkB ?_; try intro _)
        obtain ⟨x, hx⟩ : ∃ x, x = gi es (m : Int) := ⟨_, rfl⟩
        obtain ⟨nx, hnx⟩ : ∃ nx, nx = gi es ((m + 1 : Nat) : Int) := ⟨_, rfl⟩
        obtain ⟨N0, hN0⟩ : ∃ N0, N0 = q.n0 + (gi es (m : Int)).n0 := ⟨_, rfl⟩
        obtain ⟨N1, hN1⟩ : ∃ N1, N1 = q.n1 + (gi es (m : Int)).n1 := ⟨_, rfl⟩
        simp only [← hN0, ← hN1]
        have hxo := hzb _ (gi_mem (i := (m : Int)) (xs := es) (by omega))
        have e1 : (m : Int) + 1 = ((m + 1 : Nat) : Int) := by omega
        refine j_cut (S := Bool) (fun v => v = decide (m + 1 < es.length ∧ cmpB x.b nx.b = 0)) (fun v => [(2, vFn kf), (7, .slice (some ⟨bE, 0, none⟩) es.length cE), (14, vSl r), (15, .pointer (some ⟨b15, 0, none⟩)), (16, .pointer (some ⟨b16, 0, none⟩)), (17, .bool q.on), (18, .int .i64 (m : Nat)), (19, .pointer (some ⟨b19, 0, none⟩)), (57, .slice (some ⟨bE, 0, none⟩) es.length cE), (58, .int .i64 es.length), (59, .int .i64 (m : Nat)), (94, .bool v)])
          (fun _ => ⟨b19, eEv (gi es (m : Int)), 233⟩ :: (mS 32 r ++ [⟨b16, e_period_border (q_period_border q.fr), 181⟩, ⟨b15, row (eI .i64) [N0, N1] [], 231⟩, ⟨bE, row eEv es spE, 233⟩])) ?_ (fun v hv => ?_)
        · by_cases hml : m + 1 < es.length
          · have hno := hzb _ (gi_mem (i := ((m + 1 : Nat) : Int)) (xs := es) (by omega))
            refine jD 17 17 (h := ?_)
            (repeat (refine wkH ?_))
            simp only [decide_eq_true (show (m : Int) + 1 < (es.length : Int) by omega)]
            (repeat (refine wkH ?_))
            simp only [e1]
            (repeat (first | refine wkH ?_ | (refine tC rfl rfl ?_ ?_; focus (exact ⟨hxo, hno⟩))))
            refine jh_nil ?_
            refine jn_nil ?_
            repeat (refine wkB ?_; try intro _)
            exact jx_mid (decide (cmpB (gi es (m : Int)).b (gi es ((m + 1 : Nat) : Int)).b = 0)) (by rw [hx, hnx]; simp [hml]) sbB suB
          · refine jD 17 17 (h := ?_)
            (repeat (refine wkH ?_))
            simp only [decide_eq_false (show ¬ (m : Int) + 1 < (es.length : Int) by omega)]
            (repeat (refine wkH ?_))
            refine jh_nil ?_
            refine jn_nil ?_
            repeat (refine wkB ?_; try intro _)
            exact jx_mid false (by simp [hml]) sbB suB
        · have hsw : sws kp es (m + 1) = if m + 1 < es.length ∧ cmpB x.b nx.b = 0 then ⟨N0, N1, q.fr, q.on, q.out⟩ else
              ⟨N0, N1, if kp (decide (0 < N0)) (decide (0 < N1)) && !q.on then x.b else q.fr, kp (decide (0 < N0)) (decide (0 < N1)), if kp (decide (0 < N0)) (decide (0 < N1)) && !q.on then q.out else if !kp (decide (0 < N0)) (decide (0 < N1)) && q.on then q.out ++ [bdB q.fr x.b] else q.out⟩ := by
            rw [sws, ← hq, ← hx, ← hnx, hN0, hN1, hx]
          by_cases hc : m + 1 < es.length ∧ cmpB x.b nx.b = 0
          · rw [if_pos hc] at hsw
            rw [decide_eq_true hc] at hv
            subst hv
            repeat (first | (refine wkB ?_; try intro _) | (refine sC rfl rfl ?_ ?_; focus (exact ⟨by omega, by omega⟩)) | (refine sN rfl rfl ?_ ?_; (focus (exact ⟨by omega, by omega⟩)); intro _; (try simp only [List.cons_append, List.nil_append, List.append_nil])))
            exact jx_loop ⟨⟨N0, N1, q.fr, q.on, q.out⟩, m + 1, r⟩ ⟨hsw.symm, hlt⟩ sbB suB (by show es.length - (m + 1) < es.length - m; omega)
          · rw [if_neg hc] at hsw
            rw [decide_eq_false hc] at hv
            subst hv
            repeat (first | (refine wkB ?_; try intro _) | (refine sC rfl rfl ?_ ?_; focus (first | exact trivial | exact ⟨by omega, by omega⟩)) | (refine sN rfl rfl ?_ ?_; (focus (first | exact trivial | exact ⟨by omega, by omega⟩)); intro _; (try simp only [List.cons_append, List.nil_append, List.append_nil])))
            obtain ⟨nw, hnw⟩ : ∃ nw, nw = kp (decide (0 < N0)) (decide (0 < N1)) := ⟨_, rfl⟩
            simp only [show gi [N0, N1] 0 = N0 from rfl, show gi [N0, N1] 1 = N1 from rfl, ← hnw]
            rw [← hnw] at hsw
            have hol := sws_out kp es m
            rw [← hq] at hol
            obtain ⟨n0', n1', fr, on, out⟩ := q
            simp only at hol
            simp only at hsw r ⊢
            rcases nw with _ | _ <;> rcases on with _ | _
            · repeat (first | (refine wkB ?_; try intro _) | (refine sC rfl rfl ?_ ?_; focus (exact ⟨by omega, by omega⟩)) | (refine sN rfl rfl ?_ ?_; (focus (exact ⟨by omega, by omega⟩)); intro _; (try simp only [List.cons_append, List.nil_append, List.append_nil])))
              exact jx_loop ⟨⟨N0, N1, fr, false, out⟩, m + 1, r⟩ ⟨hsw.symm, hlt⟩ sbB suB (by show es.length - (m + 1) < es.length - m; omega)
            · repeat (first | (refine wkB ?_; try intro _) | (refine sC rfl rfl ?_ ?_; focus (first | exact trivial | exact ⟨by omega, by omega⟩)) | (refine sN rfl rfl ?_ ?_; (focus (first | exact trivial | exact ⟨by omega, by omega⟩)); intro _; (try simp only [List.cons_append, List.nil_append, List.append_nil])))
              rw [← hx]
              refine sU rfl rfl ?_ ?_ ?_ ?_
              · rfl
              · rfl
              · exact ⟨by decide, by omega, by omega⟩
              intro r'
              repeat (first | (refine wkB ?_; try intro _) | (refine sC rfl rfl ?_ ?_; focus (exact ⟨by omega, by omega⟩)) | (refine sN rfl rfl ?_ ?_; (focus (exact ⟨by omega, by omega⟩)); intro _; (try simp only [List.cons_append, List.nil_append, List.append_nil])))
              exact jx_loop ⟨⟨N0, N1, fr, false, out ++ [bdB fr x.b]⟩, m + 1, r'⟩ ⟨hsw.symm, hlt⟩ sbB suB (by show es.length - (m + 1) < es.length - m; omega)
            · repeat (first | (refine wkB ?_; try intro _) | (refine sC rfl rfl ?_ ?_; focus (exact ⟨by omega, by omega⟩)) | (refine sN rfl rfl ?_ ?_; (focus (exact ⟨by omega, by omega⟩)); intro _; (try simp only [List.cons_append, List.nil_append, List.append_nil])))
              rw [← hx]
              exact jx_loop ⟨⟨N0, N1, x.b, true, out⟩, m + 1, r⟩ ⟨hsw.symm, hlt⟩ sbB suB (by show es.length - (m + 1) < es.length - m; omega)
            · repeat (first | (refine wkB ?_; try intro _) | (refine sC rfl rfl ?_ ?_; focus (exact ⟨by omega, by omega⟩)) | (refine sN rfl rfl ?_ ?_; (focus (exact ⟨by omega, by omega⟩)); intro _; (try simp only [List.cons_append, List.nil_append, List.append_nil])))
              exact jx_loop ⟨⟨N0, N1, fr, true, out⟩, m + 1, r⟩ ⟨hsw.symm, hlt⟩ sbB suB (by show es.length - (m + 1) < es.length - m; omega)
    · have hge : m = es.length := by have := of_decide_eq_false h; omega
      subst hge
      subst hq
      repeat (refine wkB ?_; try intro _)
      have hfin : swpR kp is js = (sws kp es es.length).out := by
        unfold swpR
        rw [← hys, ← hes]
      obtain ⟨r2, hr1, hr2⟩ := r.like hfin
      refine jx_ret_tmp (v := vSl r2) rfl (by rw [hr1]; rfl) (fun w hw => ⟨r2, rfl, ?_⟩)
      dsimp only
      rw [hr2]
      exact hw.sub suB
instance sr_sweep (w0 : World) (L : List Blk) (kf : FuncId) (kp : Bool → Bool → Bool) [CallC Tryz.prog kf] [hkp : ∀ a b, SpecC Tryz.prog kf [.bool a, .bool b] (.bool (kp a b)) True] (v1 v2 : Value) (is js : List R_api_Interval) [h1 : LstC w0 L v1 R_api_Interval rI is] [h2 : LstC w0 L v2 R_api_Interval rI js] : SpecR Tryz.prog w0 L 122 [v1, v2, vFn kf] (SlS rI 20 (swpR kp is js)) (fun s => vSl s) (fun s => mS 32 s) (2 * is.length + 2 * js.length ≤ 12 ∧ (∀ i ∈ is, BdOk (bdF i) ∧ BdOk (bdL i)) ∧ ∀ i ∈ js, BdOk (bdF i) ∧ BdOk (bdL i)) := ⟨fun hp w hw => sweep_spec kf kp hkp v1 v2 is js w (h1.out w hw) (h2.out w hw) hp.1 hp.2.1 hp.2.2⟩
end Go.Vt
/- What sweeping over the borders of two periods gives: the instants of the result, and that its intervals lie apart. Conditions: those that each statement names. -/
set_option linter.unusedSimpArgs false
set_option linter.unusedVariables false
set_option maxHeartbeats 2000000
set_option maxRecDepth 100000
set_option linter.unusedSectionVars false
namespace Go.Vt
open Go.RowKit Go.Proofs
def bLt (a b : Bd) : Prop := a.at_.P < b.at_.P ∨ (a.at_.P = b.at_.P ∧ a.behind = false ∧ b.behind = true)
def bLe (a b : Bd) : Prop := a.at_.P < b.at_.P ∨ (a.at_.P = b.at_.P ∧ (a.behind = true → b.behind = true))
def bAt (b : Bd) (t : Rat) : Prop := b.at_.P < t ∨ (b.at_.P = t ∧ b.behind = false)
theorem bLt_le {a b : Bd} : bLt a b ↔ ¬ bLe b a := by unfold bLt bLe; grind
theorem bLe_tr {a b c : Bd} (h : bLe a b) (k : bLe b c) : bLe a c := by unfold bLe at *; grind
theorem bLt_tr {a b c : Bd} (h : bLt a b) (k : bLe b c) : bLt a c := by unfold bLe bLt at *; grind
theorem bLt.le {a b : Bd} (h : bLt a b) : bLe a b := by unfold bLe bLt at *; grind
theorem bAt_le {a b : Bd} {t : Rat} (h : bLe a b) (k : bAt b t) : bAt a t := by unfold bLe bAt at *; grind
theorem cmpB_0 {a b : Bd} : cmpB a b = 0 ↔ bLe a b ∧ bLe b a := by
  unfold cmpB bLe
  by_cases h : cq a.at_.P b.at_.P = 0
  · rw [if_neg (by simpa using h)]
    have h := cq_eq.1 h
    rcases ha : a.behind <;> rcases hb : b.behind <;> simp [h]
  · rw [if_pos h]
    have h' : ¬ a.at_.P = b.at_.P := fun e => h (cq_eq.2 e)
    constructor
    · intro k; exact absurd k h
    · rintro ⟨k1, k2⟩; grind
theorem cmpB_lt {a b : Bd} (h : cmpB a b < 0) : bLe a b := by
  unfold cmpB at h
  unfold bLe
  split at h
  · exact .inl (cq_lt.1 h)
  · rename_i h1
    have h1 := cq_eq.1 (Decidable.not_not.1 h1)
    split at h
    · omega
    · split at h
      · rename_i h3
        exact .inr ⟨h1, fun _ => h3⟩
      · omega
theorem cmpB_ge {a b : Bd} (h : ¬ cmpB a b < 0) : bLe b a := by
  unfold cmpB at h
  unfold bLe
  split at h
  · rename_i h1
    have h2 : ¬ a.at_.P < b.at_.P := fun e => h (cq_lt.2 e)
    have h1 : ¬ a.at_.P = b.at_.P := fun e => h1 (cq_eq.2 e)
    exact .inl (by grind)
  · rename_i h1
    have h1 := cq_eq.1 (Decidable.not_not.1 h1)
    split at h
    · rename_i h2
      exact .inr ⟨h1.symm, fun e => by rw [h2]; exact e⟩
    · split at h
      · omega
      · rename_i h3
        exact .inr ⟨h1.symm, fun e => absurd e h3⟩
theorem memI_at {I : R_api_Interval} {t : Rat} : memI I t ↔ bAt (bdF I) t ∧ ¬ bAt (bdL I) t := by
  unfold memI bAt bdF bdL
  rcases I.OpenFrom <;> rcases I.OpenTo <;> simp <;> grind
theorem bdF_B (a b : Bd) : bdF (bdB a b) = a := rfl
theorem bdL_B (a b : Bd) : bdL (bdB a b) = b := by
  unfold bdL bdB
  simp
noncomputable def cntT (d : Ev → Int) (t : Rat) : List Ev → Int
  | [] => 0
  | x :: l => (open Classical in if bAt x.b t then d x else 0) + cntT d t l
theorem cntT_app (d : Ev → Int) (t : Rat) : ∀ l m, cntT d t (l ++ m) = cntT d t l + cntT d t m
  | [], m => by simp [cntT]
  | x :: l, m => by rw [List.cons_append, cntT, cntT, cntT_app d t l m]; omega
theorem cntT_perm {d : Ev → Int} {t : Rat} {l m : List Ev} (h : l.Perm m) : cntT d t l = cntT d t m := by
  induction h with
  | nil => rfl
  | cons x _ ih => rw [cntT, cntT, ih]
  | swap x y l => simp only [cntT]; omega
  | trans _ _ h1 h2 => exact h1.trans h2
theorem take_snoc {α : Type} [Inhabited α] {l : List α} {m : Nat} (h : m < l.length) : l.take (m + 1) = l.take m ++ [gi l (m : Int)] := by
  rw [gi_nat h, List.take_succ_eq_append_getElem h]
theorem cntT_all {d : Ev → Int} {t : Rat} {l : List Ev} (f : Nat → Int) (h0 : f 0 = 0) (hs : ∀ m, f (m + 1) = f m + d (gi l (m : Int))) : ∀ k, k ≤ l.length → (∀ j, j < k → bAt (gi l (j : Int)).b t) → cntT d t (l.take k) = f k
  | 0, _, _ => by simp [cntT, h0]
  | k + 1, hk, h => by
    rw [take_snoc (by omega), cntT_app, cntT_all f h0 hs k (by omega) (fun j hj => h j (by omega)), hs, cntT, cntT, if_pos (h k (by omega))]
    omega
theorem cntT_none {d : Ev → Int} {t : Rat} : ∀ {l : List Ev}, (∀ x ∈ l, ¬ bAt x.b t) → cntT d t l = 0
  | [], _ => rfl
  | x :: l, h => by rw [cntT, if_neg (h x (.head _)), cntT_none (fun y hy => h y (.tail _ hy))]; rfl
theorem cntT_cut {d : Ev → Int} {t : Rat} {l : List Ev} (f : Nat → Int) (h0 : f 0 = 0) (hs : ∀ m, f (m + 1) = f m + d (gi l (m : Int))) {k : Nat} (hk : k ≤ l.length) (h : ∀ j, j < k → bAt (gi l (j : Int)).b t) (h' : ∀ j, k ≤ j → j < l.length → ¬ bAt (gi l (j : Int)).b t) : cntT d t l = f k := by
  have e : cntT d t l = cntT d t (l.take k ++ l.drop k) := by rw [List.take_append_drop]
  rw [e, cntT_app, cntT_all f h0 hs k hk h, cntT_none (l := l.drop k) fun x hx => ?_]
  · omega
  · obtain ⟨j, hj, rfl⟩ := List.getElem_of_mem hx
    rw [List.length_drop] at hj
    rw [List.getElem_drop, ← gi_nat (by omega)]
    exact h' (k + j) (by omega) (by omega)
section
variable {kp : Bool → Bool → Bool} {l : List Ev}
theorem sws_n0 (m : Nat) : (sws kp l (m + 1)).n0 = (sws kp l m).n0 + (gi l (m : Int)).n0 := by
  rw [sws]
  simp only
  split <;> rfl
theorem sws_n1 (m : Nat) : (sws kp l (m + 1)).n1 = (sws kp l m).n1 + (gi l (m : Int)).n1 := by
  rw [sws]
  simp only
  split <;> rfl
theorem cnt_pair {w : Rat} {k : Nat} (hk : k ≤ l.length) (h : ∀ j, j < k → bAt (gi l (j : Int)).b w) (h' : ∀ j, k ≤ j → j < l.length → ¬ bAt (gi l (j : Int)).b w) : cntT Ev.n0 w l = (sws kp l k).n0 ∧ cntT Ev.n1 w l = (sws kp l k).n1 :=
  ⟨cntT_cut (fun m => (sws kp l m).n0) rfl sws_n0 hk h h', cntT_cut (fun m => (sws kp l m).n1) rfl sws_n1 hk h h'⟩
noncomputable def keeps (kp : Bool → Bool → Bool) (l : List Ev) (t : Rat) : Bool := kp (decide (0 < cntT Ev.n0 t l)) (decide (0 < cntT Ev.n1 t l))
structure SwI (kp : Bool → Bool → Bool) (l : List Ev) (s : SwS) (k : Nat) : Prop where
  h : ∀ t, (k < l.length → ¬ bAt (gi l (k : Int)).b t) → (((∃ i ∈ s.out, memI i t) ∨ (s.on = true ∧ bAt s.fr t)) ↔ keeps kp l t = true)
  r : k < l.length → ∀ i ∈ s.out, bLt (bdL i) (gi l (k : Int)).b
  f : k < l.length → s.on = true → bLt s.fr (gi l (k : Int)).b
  o : s.on = true → ∀ i ∈ s.out, bLt (bdL i) s.fr
  pw : s.out.Pairwise (fun i j => bLt (bdL i) (bdF j))
  v : ∀ i ∈ s.out, bLt (bdF i) (bdL i)
theorem sws_inv (hs : ∀ p q : Nat, p < q → q < l.length → bLe (gi l (p : Int)).b (gi l (q : Int)).b) (hk : kp false false = false) : ∀ k, k ≤ l.length → SwI kp l (sws kp l k) k
  | 0, _ => by
    refine ⟨fun t h => ?_, fun _ i hi => (by cases hi), fun _ h => (by cases h), fun h => by (cases h), List.Pairwise.nil, fun i hi => (by cases hi)⟩
    have hn : ∀ j, 0 ≤ j → j < l.length → ¬ bAt (gi l (j : Int)).b t := fun j _ hj => by
      by_cases e : j = 0
      · subst e; exact h hj
      · exact fun hb => h (by omega) (bAt_le (hs 0 j (by omega) hj) hb)
    obtain ⟨e1, e2⟩ := cnt_pair (kp := kp) (Nat.zero_le _) (fun j hj => by omega) hn
    unfold keeps
    rw [e1, e2]
    simp [sws, hk]
  | k + 1, hkl => by
    have ih := sws_inv hs hk k (by omega)
    have hn0 := sws_n0 (kp := kp) (l := l) k
    have hn1 := sws_n1 (kp := kp) (l := l) k
    have hnxt : k + 1 < l.length → bLe (gi l (k : Int)).b (gi l ((k + 1 : Nat) : Int)).b := fun h => hs k (k + 1) (by omega) h
    by_cases hsk : k + 1 < l.length ∧ cmpB (gi l (k : Int)).b (gi l ((k + 1 : Nat) : Int)).b = 0
    · have e : sws kp l (k + 1) = ⟨(sws kp l k).n0 + (gi l (k : Int)).n0, (sws kp l k).n1 + (gi l (k : Int)).n1, (sws kp l k).fr, (sws kp l k).on, (sws kp l k).out⟩ := by rw [sws]; simp only; rw [if_pos hsk]
      obtain ⟨e1, e2⟩ := cmpB_0.1 hsk.2
      rw [e]
      exact ⟨fun t h => ih.h t (fun _ hb => h hsk.1 (bAt_le e2 hb)), fun _ i hi => bLt_tr (ih.r (by omega) i hi) e1, fun _ ho => bLt_tr (ih.f (by omega) ho) e1, ih.o, ih.pw, ih.v⟩
    · have e : sws kp l (k + 1) = ⟨(sws kp l k).n0 + (gi l (k : Int)).n0, (sws kp l k).n1 + (gi l (k : Int)).n1, if kp (decide (0 < (sws kp l k).n0 + (gi l (k : Int)).n0)) (decide (0 < (sws kp l k).n1 + (gi l (k : Int)).n1)) && !(sws kp l k).on then (gi l (k : Int)).b else (sws kp l k).fr, kp (decide (0 < (sws kp l k).n0 + (gi l (k : Int)).n0)) (decide (0 < (sws kp l k).n1 + (gi l (k : Int)).n1)), if kp (decide (0 < (sws kp l k).n0 + (gi l (k : Int)).n0)) (decide (0 < (sws kp l k).n1 + (gi l (k : Int)).n1)) && !(sws kp l k).on then (sws kp l k).out else if !kp (decide (0 < (sws kp l k).n0 + (gi l (k : Int)).n0)) (decide (0 < (sws kp l k).n1 + (gi l (k : Int)).n1)) && (sws kp l k).on then (sws kp l k).out ++ [bdB (sws kp l k).fr (gi l (k : Int)).b] else (sws kp l k).out⟩ := by rw [sws]; simp only; rw [if_neg hsk]
      have hlt : k + 1 < l.length → bLt (gi l (k : Int)).b (gi l ((k + 1 : Nat) : Int)).b := fun h => by
        rw [bLt_le]
        exact fun h2 => hsk ⟨h, cmpB_0.2 ⟨hnxt h, h2⟩⟩
      -- what is kept at an instant behind this border and ahead of the next one
      have hkeep : ∀ t, bAt (gi l (k : Int)).b t → (k + 1 < l.length → ¬ bAt (gi l ((k + 1 : Nat) : Int)).b t) → keeps kp l t = (sws kp l (k + 1)).on := fun t h1 h2 => by
        obtain ⟨e1, e2⟩ := cnt_pair (kp := kp) (l := l) (w := t) (k := k + 1) hkl
          (fun j hj => by
            by_cases e : j = k
            · subst e; exact h1
            · exact bAt_le (hs j k (by omega) (by omega)) h1)
          (fun j h3 hj => by
            by_cases e : j = k + 1
            · subst e; exact h2 hj
            · exact fun hb => h2 (by omega) (bAt_le (hs (k + 1) j (by omega) hj) hb))
        unfold keeps
        rw [e1, e2, hn0, hn1, e]
      generalize hnow : kp (decide (0 < (sws kp l k).n0 + (gi l (k : Int)).n0)) (decide (0 < (sws kp l k).n1 + (gi l (k : Int)).n1)) = now at e
      generalize hx : (gi l (k : Int)).b = x at *
      have hnew : ∀ t, memI (bdB (sws kp l k).fr x) t ↔ bAt (sws kp l k).fr t ∧ ¬ bAt x t := fun t => by rw [memI_at, bdF_B, bdL_B]
      have hr := ih.r (by omega)
      have hf := ih.f (by omega)
      rw [hx] at hr hf
      have hno : ∀ t, bAt x t → ∀ i ∈ (sws kp l k).out, ¬ memI i t := fun t h i hi hm => (memI_at.1 hm).2 (bAt_le (hr i hi).le h)
      have hfr : ∀ t, bAt x t → (sws kp l k).on = true → bAt (sws kp l k).fr t := fun t h ho => bAt_le (hf ho).le h
      have hih : ∀ t, ¬ bAt x t → (((∃ i ∈ (sws kp l k).out, memI i t) ∨ ((sws kp l k).on = true ∧ bAt (sws kp l k).fr t)) ↔ keeps kp l t = true) := fun t h => ih.h t (fun _ => by rw [hx]; exact h)
      rw [e] at hkeep
      rw [e]
      simp only at hkeep ⊢
      rcases now with _ | _ <;> rcases hon : (sws kp l k).on with _ | _ <;> simp only [Bool.not_true, Bool.not_false, Bool.and_true, Bool.and_false, Bool.false_eq_true, if_false, if_true] <;> rw [hon] at hih
      · refine ⟨fun t h => ?_, fun h i hi => bLt_tr (hr i hi) (hnxt h), fun _ h => (by cases h), fun h => (by cases h), ih.pw, ih.v⟩
        by_cases hb : bAt x t
        · rw [hkeep t hb h]
          exact ⟨fun h => (h.resolve_right (fun h => by cases h.1)).elim fun i hi => absurd hi.2 (hno t hb i hi.1), fun h => (by cases h)⟩
        · exact hih t hb
      · refine ⟨fun t h => ?_, fun h i hi => ?_, fun _ h => (by cases h), fun h => (by cases h), ?_, fun i hi => ?_⟩
        · by_cases hb : bAt x t
          · rw [hkeep t hb h]
            refine ⟨fun h => (h.resolve_right (fun h => by cases h.1)).elim fun i hi => ?_, fun h => (by cases h)⟩
            rcases List.mem_append.1 hi.1 with h1 | h1
            · exact absurd hi.2 (hno t hb i h1)
            · rw [List.mem_singleton.1 h1] at hi
              exact absurd hb ((hnew t).1 hi.2).2
          · rw [← hih t hb]
            constructor
            · rintro (⟨i, hi, hm⟩ | ⟨h, _⟩)
              · rcases List.mem_append.1 hi with h1 | h1
                · exact .inl ⟨i, h1, hm⟩
                · rw [List.mem_singleton.1 h1] at hm
                  exact .inr ⟨rfl, ((hnew t).1 hm).1⟩
              · cases h
            · rintro (⟨i, hi, hm⟩ | ⟨_, h⟩)
              · exact .inl ⟨i, List.mem_append_left _ hi, hm⟩
              · exact .inl ⟨_, List.mem_append_right _ (.head _), (hnew t).2 ⟨h, hb⟩⟩
        · rcases List.mem_append.1 hi with h1 | h1
          · exact bLt_tr (hr i h1) (hnxt h)
          · rw [List.mem_singleton.1 h1, bdL_B]
            exact hlt h
        · rw [List.pairwise_append]
          refine ⟨ih.pw, List.pairwise_singleton _ _, fun i hi j hj => ?_⟩
          rw [List.mem_singleton.1 hj, bdF_B]
          exact ih.o hon i hi
        · rcases List.mem_append.1 hi with h1 | h1
          · exact ih.v i h1
          · rw [List.mem_singleton.1 h1, bdL_B, bdF_B]
            exact hf hon
      · refine ⟨fun t h => ?_, fun h i hi => bLt_tr (hr i hi) (hnxt h), fun h _ => hlt h, fun _ i hi => hr i hi, ih.pw, ih.v⟩
        by_cases hb : bAt x t
        · rw [hkeep t hb h]
          exact ⟨fun _ => rfl, fun _ => .inr ⟨rfl, hb⟩⟩
        · rw [← hih t hb]
          exact ⟨fun h => .inl (h.resolve_right fun h => hb h.2), fun h => .inl (h.resolve_right fun h => by cases h.1)⟩
      · refine ⟨fun t h => ?_, fun h i hi => bLt_tr (hr i hi) (hnxt h), fun h _ => bLt_tr (hf hon) (hnxt h), fun _ i hi => ih.o hon i hi, ih.pw, ih.v⟩
        by_cases hb : bAt x t
        · rw [hkeep t hb h]
          exact ⟨fun _ => rfl, fun _ => .inr ⟨rfl, hfr t hb hon⟩⟩
        · exact hih t hb
/-- What borders are found. -/
theorem sws_bd {Pb : Bd → Prop} (h : ∀ x ∈ l, Pb x.b) : ∀ k, k ≤ l.length → ((sws kp l k).on = true → Pb (sws kp l k).fr) ∧ ∀ i ∈ (sws kp l k).out, Pb (bdF i) ∧ Pb (bdL i)
  | 0, _ => ⟨fun h => (by cases h), fun i hi => (by cases hi)⟩
  | k + 1, hk => by
    obtain ⟨h1, h2⟩ := sws_bd h k (by omega)
    have hx := h _ (gi_mem (xs := l) (i := (k : Int)) (by omega))
    rw [sws]
    simp only
    split
    · exact ⟨h1, h2⟩
    · generalize kp _ _ = now
      rcases now with _ | _ <;> rcases hon : (sws kp l k).on with _ | _ <;> simp only [Bool.not_true, Bool.not_false, Bool.and_true, Bool.and_false, Bool.false_eq_true, if_false, if_true]
      · exact ⟨fun h => (by cases h), h2⟩
      · refine ⟨fun h => (by cases h), fun i hi => ?_⟩
        rcases List.mem_append.1 hi with h3 | h3
        · exact h2 i h3
        · rw [List.mem_singleton.1 h3, bdL_B, bdF_B]
          exact ⟨h1 hon, hx⟩
      · exact ⟨fun _ => hx, h2⟩
      · exact ⟨fun _ => h1 hon, h2⟩
/-- The law of sweeping. -/
theorem sws_law (hs : ∀ p q : Nat, p < q → q < l.length → bLe (gi l (p : Int)).b (gi l (q : Int)).b) (hk : kp false false = false) (h0 : (sws kp l l.length).n0 = 0) (h1 : (sws kp l l.length).n1 = 0) :
    (∀ t, (∃ i ∈ (sws kp l l.length).out, memI i t) ↔ keeps kp l t = true) ∧ (sws kp l l.length).out.Pairwise (fun i j => bLt (bdL i) (bdF j)) ∧ ∀ i ∈ (sws kp l l.length).out, bLt (bdF i) (bdL i) := by
  have hi := sws_inv hs hk l.length (Nat.le_refl _)
  have hon : (sws kp l l.length).on = false := by
    rcases hl : l.length with _ | m
    · rfl
    · rw [hl] at h0 h1
      rw [sws_n0] at h0
      rw [sws_n1] at h1
      rw [sws]
      simp only
      rw [if_neg (fun h => by omega), h0, h1]
      exact hk
  refine ⟨fun t => ?_, hi.pw, hi.v⟩
  rw [← hi.h t (fun h => absurd h (Nat.lt_irrefl _)), hon]
  exact ⟨.inl, fun h => h.resolve_right (fun h => by cases h.1)⟩
end
def sumT (d : Ev → Int) : List Ev → Int
  | [] => 0
  | x :: l => d x + sumT d l
theorem sumT_app (d : Ev → Int) : ∀ l m, sumT d (l ++ m) = sumT d l + sumT d m
  | [], m => by simp [sumT]
  | x :: l, m => by rw [List.cons_append, sumT, sumT, sumT_app d l m]; omega
theorem sumT_perm {d : Ev → Int} {l m : List Ev} (h : l.Perm m) : sumT d l = sumT d m := by
  induction h with
  | nil => rfl
  | cons x _ ih => rw [sumT, sumT, ih]
  | swap x y l => simp only [sumT]; omega
  | trans _ _ h1 h2 => exact h1.trans h2
theorem sumT_take {d : Ev → Int} {l : List Ev} (f : Nat → Int) (h0 : f 0 = 0) (hs : ∀ m, f (m + 1) = f m + d (gi l (m : Int))) : ∀ k, k ≤ l.length → sumT d (l.take k) = f k
  | 0, _ => by simp [sumT, h0]
  | k + 1, hk => by
    rw [take_snoc (by omega), sumT_app, sumT_take f h0 hs k (by omega), hs]
    simp [sumT]
theorem sws_sum (kp : Bool → Bool → Bool) (l : List Ev) : (sws kp l l.length).n0 = sumT Ev.n0 l ∧ (sws kp l l.length).n1 = sumT Ev.n1 l := by
  constructor
  · rw [← sumT_take (l := l) (fun m => (sws kp l m).n0) rfl sws_n0 l.length (Nat.le_refl _), List.take_length]
  · rw [← sumT_take (l := l) (fun m => (sws kp l m).n1) rfl sws_n1 l.length (Nat.le_refl _), List.take_length]
theorem ev_sum (is : List R_api_Interval) : ∀ m, (sumT Ev.n0 (evA is m) = 0 ∧ sumT Ev.n1 (evA is m) = 0) ∧ sumT Ev.n0 (evB is m) = 0 ∧ sumT Ev.n1 (evB is m) = 0
  | 0 => by simp [evA, evB, sumT]
  | m + 1 => by
    obtain ⟨⟨h1, h2⟩, h3, h4⟩ := ev_sum is m
    rw [evA, evB, sumT_app, sumT_app, sumT_app, sumT_app, h1, h2, h3, h4]
    simp [sumT]
theorem cnt_iv {i : R_api_Interval} (h : bLe (bdF i) (bdL i)) (t : Rat) : (open Classical in (if bAt (bdF i) t then (1 : Int) else 0) + ((if bAt (bdL i) t then -1 else 0) + 0)) = (open Classical in if memI i t then 1 else 0) := by
  have := memI_at (I := i) (t := t)
  have h2 := fun k => bAt_le (t := t) h k
  by_cases h3 : bAt (bdF i) t <;> by_cases h4 : bAt (bdL i) t <;> simp_all
theorem ite_z (p : Prop) [Decidable p] : (if p then (0 : Int) else 0) = 0 := by split <;> rfl
theorem cnt_evA {is : List R_api_Interval} (h : ∀ i ∈ is, bLe (bdF i) (bdL i)) (t : Rat) : ∀ m, m ≤ is.length → cntT Ev.n1 t (evA is m) = 0 ∧ 0 ≤ cntT Ev.n0 t (evA is m) ∧ (0 < cntT Ev.n0 t (evA is m) ↔ ∃ j : Nat, j < m ∧ memI (gi is (j : Int)) t)
  | 0, _ => by simp [evA, cntT]
  | m + 1, hm => by
    obtain ⟨h1, h2, h3⟩ := cnt_evA h t m (by omega)
    have h4 := cnt_iv (h _ (gi_mem (xs := is) (i := (m : Int)) (by omega))) t
    have e : (∃ j : Nat, j < m + 1 ∧ memI (gi is (j : Int)) t) ↔ (∃ j : Nat, j < m ∧ memI (gi is (j : Int)) t) ∨ memI (gi is (m : Int)) t := by
      constructor
      · rintro ⟨j, hj, hm⟩
        by_cases e : j = m
        · exact .inr (e ▸ hm)
        · exact .inl ⟨j, by omega, hm⟩
      · rintro (⟨j, hj, hm⟩ | hm)
        · exact ⟨j, by omega, hm⟩
        · exact ⟨m, by omega, hm⟩
    rw [e, ← h3, evA, cntT_app, cntT_app, h1]
    simp only [cntT, ite_z]
    rw [h4]
    refine ⟨by omega, ?_⟩
    by_cases h5 : memI (gi is (m : Int)) t
    · rw [if_pos h5]; exact ⟨by omega, by simp only [h5, or_true, iff_true]; omega⟩
    · rw [if_neg h5]; exact ⟨by omega, by simp only [h5, or_false]; omega⟩
theorem cnt_evB {is : List R_api_Interval} (h : ∀ i ∈ is, bLe (bdF i) (bdL i)) (t : Rat) : ∀ m, m ≤ is.length → cntT Ev.n0 t (evB is m) = 0 ∧ 0 ≤ cntT Ev.n1 t (evB is m) ∧ (0 < cntT Ev.n1 t (evB is m) ↔ ∃ j : Nat, j < m ∧ memI (gi is (j : Int)) t)
  | 0, _ => by simp [evB, cntT]
  | m + 1, hm => by
    obtain ⟨h1, h2, h3⟩ := cnt_evB h t m (by omega)
    have h4 := cnt_iv (h _ (gi_mem (xs := is) (i := (m : Int)) (by omega))) t
    have e : (∃ j : Nat, j < m + 1 ∧ memI (gi is (j : Int)) t) ↔ (∃ j : Nat, j < m ∧ memI (gi is (j : Int)) t) ∨ memI (gi is (m : Int)) t := by
      constructor
      · rintro ⟨j, hj, hm⟩
        by_cases e : j = m
        · exact .inr (e ▸ hm)
        · exact .inl ⟨j, by omega, hm⟩
      · rintro (⟨j, hj, hm⟩ | hm)
        · exact ⟨j, by omega, hm⟩
        · exact ⟨m, by omega, hm⟩
    rw [e, ← h3, evB, cntT_app, cntT_app, h1]
    simp only [cntT, ite_z]
    rw [h4]
    refine ⟨by omega, ?_⟩
    by_cases h5 : memI (gi is (m : Int)) t
    · rw [if_pos h5]; exact ⟨by omega, by simp only [h5, or_true, iff_true]; omega⟩
    · rw [if_neg h5]; exact ⟨by omega, by simp only [h5, or_false]; omega⟩
theorem ex_gi {is : List R_api_Interval} {t : Rat} : (∃ j : Nat, j < is.length ∧ memI (gi is (j : Int)) t) ↔ ∃ i ∈ is, memI i t := by
  constructor
  · rintro ⟨j, hj, hm⟩
    exact ⟨_, gi_mem (xs := is) (i := (j : Int)) (by omega), hm⟩
  · rintro ⟨i, hi, hm⟩
    obtain ⟨j, hj, rfl⟩ := List.getElem_of_mem hi
    exact ⟨j, hj, by rw [gi_nat hj]; exact hm⟩
theorem swp_GE (xs : List Ev) (j : Nat) : swpE xs j = swpG xs j := rfl
theorem dwn_GE : ∀ (j : Nat) (xs : List Ev), dwnE xs j = dwnG cmpE xs j
  | 0, _ => rfl
  | j + 1, xs => by rw [dwnE, dwnG, dwn_GE j, swp_GE]
theorem srt_GE (xs : List Ev) : ∀ i, srtE xs i = srtG cmpE xs i
  | 0 => rfl
  | i + 1 => by rw [srtE, srtG, dwn_GE, srt_GE xs i]
theorem srtE_perm (xs : List Ev) : (srtE xs (xs.length - 1)).Perm xs := by
  rcases xs with _ | ⟨u, us⟩
  · exact .refl _
  · rw [srt_GE]
    exact srtG_perm _ _ _ (by simp)
theorem srtE_ord (xs : List Ev) (p q : Nat) (hpq : p < q) (hq : q < (srtE xs (xs.length - 1)).length) : bLe (gi (srtE xs (xs.length - 1)) (p : Int)).b (gi (srtE xs (xs.length - 1)) (q : Int)).b := by
  rw [(srtE_perm xs).length_eq] at hq
  rw [srt_GE]
  exact srtG_ord (c := cmpE) (le := fun x y => bLe x.b y.b) (fun _ _ => cmpB_lt) (fun _ _ => cmpB_ge) (fun _ _ _ => bLe_tr) xs (xs.length - 1) (by omega) p q hpq (by omega)
theorem evK2 (is js : List R_api_Interval) : evK is js 2 = evA is is.length ++ evB js js.length := rfl
/-- The law of the operations on periods: which instants the result has, and that its intervals lie apart. -/
theorem swpR_law {kp : Bool → Bool → Bool} (hk : kp false false = false) {is js : List R_api_Interval} (h : ∀ i ∈ is, bLe (bdF i) (bdL i)) (h' : ∀ i ∈ js, bLe (bdF i) (bdL i)) :
    (∀ t, (∃ i ∈ swpR kp is js, memI i t) ↔ (open Classical in kp (decide (∃ i ∈ is, memI i t)) (decide (∃ i ∈ js, memI i t))) = true) ∧ (swpR kp is js).Pairwise (fun i j => bLt (bdL i) (bdF j)) ∧ ∀ i ∈ swpR kp is js, bLt (bdF i) (bdL i) := by
  have hp := srtE_perm (evK is js 2)
  obtain ⟨h1, h2⟩ := sws_sum kp (srtE (evK is js 2) ((evK is js 2).length - 1))
  obtain ⟨⟨a1, a2⟩, a3, a4⟩ := ev_sum is is.length
  obtain ⟨⟨b1, b2⟩, b3, b4⟩ := ev_sum js js.length
  rw [sumT_perm hp, evK2, sumT_app, a1, b3] at h1
  rw [sumT_perm hp, evK2, sumT_app, a2, b4] at h2
  obtain ⟨h3, h4, h5⟩ := sws_law (kp := kp) (srtE_ord (evK is js 2)) hk (by rw [evK2]; exact h1) (by rw [evK2]; exact h2)
  refine ⟨fun t => ?_, h4, h5⟩
  rw [swpR, h3 t, keeps, cntT_perm hp, cntT_perm hp, evK2, cntT_app, cntT_app]
  obtain ⟨c1, c2, c3⟩ := cnt_evA h t is.length (Nat.le_refl _)
  obtain ⟨d1, d2, d3⟩ := cnt_evB h' t js.length (Nat.le_refl _)
  rw [c1, d1, Int.add_zero, Int.zero_add]
  rw [ex_gi] at c3 d3
  rw [show decide (0 < cntT Ev.n0 t (evA is is.length)) = (open Classical in decide (∃ i ∈ is, memI i t)) from decide_eq_decide.2 c3, show decide (0 < cntT Ev.n1 t (evB js js.length)) = (open Classical in decide (∃ i ∈ js, memI i t)) from decide_eq_decide.2 d3]
theorem evA_bd {Pb : Bd → Prop} {is : List R_api_Interval} (h : ∀ i ∈ is, Pb (bdF i) ∧ Pb (bdL i)) : ∀ m, m ≤ is.length → (∀ x ∈ evA is m, Pb x.b) ∧ ∀ x ∈ evB is m, Pb x.b
  | 0, _ => ⟨fun x hx => (by cases hx), fun x hx => (by cases hx)⟩
  | m + 1, hm => by
    obtain ⟨h1, h2⟩ := evA_bd h m (by omega)
    obtain ⟨h3, h4⟩ := h _ (gi_mem (xs := is) (i := (m : Int)) (by omega))
    constructor
    · intro x hx
      rw [evA] at hx
      rcases List.mem_append.1 hx with h5 | h5
      · exact h1 x h5
      · rcases List.mem_cons.1 h5 with rfl | h5
        · exact h3
        · rw [List.mem_singleton.1 h5]; exact h4
    · intro x hx
      rw [evB] at hx
      rcases List.mem_append.1 hx with h5 | h5
      · exact h2 x h5
      · rcases List.mem_cons.1 h5 with rfl | h5
        · exact h3
        · rw [List.mem_singleton.1 h5]; exact h4
theorem swpR_bd {Pb : Bd → Prop} (kp : Bool → Bool → Bool) {is js : List R_api_Interval} (h : ∀ i ∈ is, Pb (bdF i) ∧ Pb (bdL i)) (h' : ∀ i ∈ js, Pb (bdF i) ∧ Pb (bdL i)) : ∀ i ∈ swpR kp is js, Pb (bdF i) ∧ Pb (bdL i) := by
  refine (sws_bd (kp := kp) (l := srtE (evK is js 2) ((evK is js 2).length - 1)) (Pb := Pb) (fun x hx => ?_) _ (Nat.le_refl _)).2
  have hx := (srtE_perm (evK is js 2)).mem_iff.1 hx
  rw [evK2] at hx
  rcases List.mem_append.1 hx with h1 | h1
  · exact (evA_bd h is.length (Nat.le_refl _)).1 x h1
  · exact (evA_bd h' js.length (Nat.le_refl _)).2 x h1
end Go.Vt
/- Periods as functions with one value; the period during which a car is somewhere. Conditions: those that each statement names. -/
set_option linter.unusedSimpArgs false
set_option linter.unusedVariables false
set_option maxHeartbeats 2000000
set_option maxRecDepth 100000
set_option linter.unusedSectionVars false
namespace Go.Vt
open Go.RowKit Go.Proofs
open Fv (va red)
instance fvU : Fv Unit Rat Unit := ⟨fun _ _ => (), fun f _ => f, fun _ _ => rfl, fun _ _ _ _ => rfl, fun _ _ _ _ _ _ => rfl⟩
def absI (I : R_api_Interval) : GU Rat Unit := ⟨I.From.P, I.To.P, I.OpenFrom, I.OpenTo, ()⟩
/-- Intervals that lie apart, in order. -/
structure Sep (l : List R_api_Interval) : Prop where
  p : l.Pairwise (fun i j => bLt (bdL i) (bdF j))
  v : ∀ i ∈ l, bLt (bdF i) (bdL i)
theorem okI_bd {i : R_api_Interval} : okI i ↔ bLt (bdF i) (bdL i) := by
  unfold okI bLt bdF bdL
  rcases i.OpenFrom <;> rcases i.OpenTo <;> simp
theorem okI_le {i : R_api_Interval} (h : okI i) : bLe (bdF i) (bdL i) := (okI_bd.1 h).le
theorem Sep.nf {l : List R_api_Interval} (h : Sep l) : NF (l.map absI) := by
  refine ⟨fun u hu => ?_, fun u hu _ => rfl, ?_⟩
  · obtain ⟨i, hi, rfl⟩ := List.mem_map.1 hu
    exact okI_bd.2 (h.v i hi)
  · rw [List.pairwise_map]
    refine List.Pairwise.imp_of_mem (fun {i j} hi hj hb => ?_) h.p
    have hv := okI_bd.2 (h.v i hi)
    unfold okI at hv
    unfold bLt bdL bdF at hb
    rcases hb with hb | ⟨e, h1, h2⟩
    · have hb : i.To.P < j.From.P := hb
      exact ⟨.inl hb, fun e => absurd (show i.To.P = j.From.P from e) (by grind), fun e => absurd (show i.To.P = j.From.P from e) (by grind), fun e => absurd (show i.To.P = j.From.P from e) (by grind)⟩
    · have e : i.To.P = j.From.P := e
      have h1 : i.OpenTo = true := by simpa using h1
      have h2 : j.OpenFrom = true := h2
      exact ⟨.inr ⟨e, .inl h1⟩, fun _ k => absurd (show i.OpenTo = false from k) (by simp [h1]), fun _ k => absurd (show j.OpenFrom = false from k) (by simp [h2]), fun _ k => absurd (show i.From.P = i.To.P from k) (hv.elim (fun hv => by grind) (fun hv => by rw [h1] at hv; cases hv.2.2))⟩
theorem has_absI {l : List R_api_Interval} {t : Rat} {v : Unit} : Has (l.map absI) t v ↔ ∃ i ∈ l, memI i t := by
  constructor
  · rintro ⟨u, hu, hm, _⟩
    obtain ⟨i, hi, rfl⟩ := List.mem_map.1 hu
    exact ⟨i, hi, hm⟩
  · rintro ⟨i, hi, hm⟩
    exact ⟨absI i, List.mem_map.2 ⟨i, hi, rfl⟩, hm, rfl⟩
theorem Sep.uniq {l m : List R_api_Interval} (h : Sep l) (k : Sep m) (H : ∀ t, (∃ i ∈ l, memI i t) ↔ ∃ i ∈ m, memI i t) : l.map absI = m.map absI :=
  NF.uniq h.nf k.nf (fun t v => by rw [has_absI, has_absI]; exact H t)
theorem Sep.len {l m : List R_api_Interval} (h : Sep l) (k : Sep m) (H : ∀ t, (∃ i ∈ l, memI i t) ↔ ∃ i ∈ m, memI i t) : l.length = m.length := by
  rw [← List.length_map (f := absI), h.uniq k H, List.length_map]
theorem Sep.lt {l : List R_api_Interval} (h : Sep l) {i j : Nat} (hij : i < j) (hj : j < l.length) : bLt (bdL (gi l (i : Int))) (bdF (gi l (j : Int))) := by
  rw [gi_nat hj, gi_nat (by omega : i < l.length)]
  exact (List.pairwise_iff_getElem.1 h.p) i j (by omega) hj hij
theorem Sep.ok {l : List R_api_Interval} (h : Sep l) {i : Nat} (hi : i < l.length) : bLt (bdF (gi l (i : Int))) (bdL (gi l (i : Int))) := h.v _ (gi_mem (xs := l) (i := (i : Int)) (by omega))
/-- Between two of them lies an instant that is in none. -/
theorem Sep.gap {l : List R_api_Interval} (h : Sep l) {i j : Nat} (hij : i < j) (hj : j < l.length) {t s : Rat} (ht : memI (gi l (i : Int)) t) (hs : memI (gi l (j : Int)) s) : ∃ g, t < g ∧ g < s ∧ ¬ ∃ d ∈ l, memI d g := by
  have hx := h.lt (i := i) (j := i + 1) (by omega) (by omega)
  have hy : bLe (bdF (gi l ((i + 1 : Nat) : Int))) (bdF (gi l (j : Int))) := by
    by_cases e : j = i + 1
    · subst e; exact .inr ⟨rfl, id⟩
    · exact ((h.ok (i := i + 1) (by omega)).le |> fun k => bLe_tr k (h.lt (i := i + 1) (j := j) (by omega) hj).le)
  have h1 := (memI_at.1 ht).2
  have h2 := bAt_le hy (memI_at.1 hs).1
  have key : ∃ g, t < g ∧ g < s ∧ bAt (bdL (gi l (i : Int))) g ∧ ¬ bAt (bdF (gi l ((i + 1 : Nat) : Int))) g := by
    generalize bdL (gi l (i : Int)) = x at *
    generalize bdF (gi l ((i + 1 : Nat) : Int)) = y at *
    unfold bLt at hx
    unfold bAt at h1 h2 ⊢
    rcases hx with hx | ⟨h3, h4, h5⟩
    · exact ⟨(x.at_.P + y.at_.P) / 2, by grind, by grind, by grind, by grind⟩
    · exact ⟨x.at_.P, by grind, by grind, by grind, by grind⟩
  obtain ⟨g, h3, h4, h5, h6⟩ := key
  refine ⟨g, h3, h4, fun ⟨d, hd, hm⟩ => ?_⟩
  obtain ⟨k, hk, rfl⟩ := List.getElem_of_mem hd
  rw [← gi_nat hk] at hm
  obtain ⟨m1, m2⟩ := memI_at.1 hm
  by_cases hki : k ≤ i
  · by_cases e : k = i
    · subst e; exact m2 h5
    · exact m2 (bAt_le (bLe_tr (h.lt (i := k) (j := i) (by omega) (by omega)).le (h.ok (i := i) (by omega)).le) h5)
  · by_cases e : k = i + 1
    · subst e; exact h6 m1
    · exact h6 (bAt_le (bLe_tr (h.ok (i := i + 1) (by omega)).le (h.lt (i := i + 1) (j := k) (by omega) hk).le) m1)
theorem memI_mid {I : R_api_Interval} {s t g : Rat} (hs : memI I s) (ht : memI I t) (h1 : s < g) (h2 : g < t) : memI I g := by
  unfold memI at *
  grind
/-- An interval of a period meets at most two parts of what is left of the period without an interval. -/
theorem no_three {D M : List R_api_Interval} {a b : Rat} {U : R_api_Interval} (hM : Sep M) (hs : ∀ t, (∃ d ∈ M, memI d t) ↔ (∃ d ∈ D, memI d t) ∧ ¬ (a ≤ t ∧ t ≤ b)) (hU : ∀ t, memI U t → ∃ d ∈ D, memI d t) {i j k : Nat} (hij : i < j) (hjk : j < k) (hk : k < M.length) {t1 t2 t3 : Rat}
    (h1 : memI U t1 ∧ memI (gi M (i : Int)) t1) (h2 : memI U t2 ∧ memI (gi M (j : Int)) t2) (h3 : memI U t3 ∧ memI (gi M (k : Int)) t3) : False := by
  obtain ⟨g, g1, g2, g3⟩ := hM.gap hij (by omega) h1.2 h2.2
  obtain ⟨g', g1', g2', g3'⟩ := hM.gap hjk hk h2.2 h3.2
  have e1 := hU g (memI_mid h1.1 h2.1 g1 g2)
  have e2 := hU g' (memI_mid h2.1 h3.1 g1' g2')
  have f1 : a ≤ g ∧ g ≤ b := Classical.byContradiction fun h => g3 ((hs g).2 ⟨e1, h⟩)
  have f2 : a ≤ g' ∧ g' ≤ b := Classical.byContradiction fun h => g3' ((hs g').2 ⟨e2, h⟩)
  exact ((hs t2).1 ⟨_, gi_mem (xs := M) (i := (j : Int)) (by omega), h2.2⟩).2 ⟨by grind, by grind⟩
def ivZ (a b : Int) : R_api_Interval := ⟨⟨(a : Rat), 0, false⟩, ⟨(b : Rat), 0, false⟩, false, false⟩
theorem memI_Z {a b : Int} {t : Rat} : memI (ivZ a b) t ↔ (a : Rat) ≤ t ∧ t ≤ (b : Rat) := by
  unfold memI ivZ
  simp only [and_true]
  grind
theorem bLt_Z {a b c d : Int} : bLt (bdL (ivZ a b)) (bdF (ivZ c d)) ↔ b < c := by
  unfold bLt bdL bdF ivZ
  simp [Rat.intCast_lt_intCast]
theorem ok_Z {a b : Int} (h : a ≤ b) : bLt (bdF (ivZ a b)) (bdL (ivZ a b)) := by
  rcases Int.lt_or_eq_of_le h with h | rfl
  · exact .inl (Rat.intCast_lt_intCast.2 h)
  · exact .inr ⟨rfl, rfl, rfl⟩
structure DjS where
  dn : List (Int × Int)
  f : Int
def dj (T X Y : Int) (ss : List Stp15) : Nat → DjS
  | 0 => ⟨[], 0⟩
  | m + 1 => if (gi ss (m : Int)).Kind % 8 = 0 then ⟨if (tj T X Y ss m).al = true then (dj T X Y ss m).dn else (dj T X Y ss m).dn ++ [((dj T X Y ss m).f, (tj T X Y ss m).t)], 0⟩
    else ⟨(dj T X Y ss m).dn, if (tj T X Y ss m).al = true then (tj T X Y ss m).t else (dj T X Y ss m).f⟩
def djL (d : DjS) (p : TjS) : List (Int × Int) := if p.al = true then d.dn else d.dn ++ [(d.f, p.t)]
def djR (c : viatorlaw15_Car) (ss : List Stp15) : List (Int × Int) := (dj c.Time c.X c.Y ss ss.length).dn ++ [(if (tj c.Time c.X c.Y ss ss.length).al = true then (tj c.Time c.X c.Y ss ss.length).t else (dj c.Time c.X c.Y ss ss.length).f, (tj c.Time c.X c.Y ss ss.length).t)]
structure DjI (d : DjS) (p : TjS) (m : Nat) : Prop where
  n : 2 * d.dn.length + (if p.al = true then 0 else 1) ≤ m
  w : ∀ i ∈ d.dn, i.1 ≤ i.2 ∧ i.2 < p.t
  a : p.al = false → d.f < p.t ∧ (∀ i ∈ d.dn, i.2 < d.f) ∧ 0 < p.out.length
  s : d.dn.Pairwise (fun i j => i.2 < j.1)
  h : ∀ t, (∃ i ∈ djL d p, memI (ivZ i.1 i.2) t) ↔ ∃ u ∈ p.out, memI u.In t
theorem dj_inv {T X Y : Int} {ss : List Stp15} (h : ∀ s ∈ ss, StOk s) : ∀ m, m ≤ ss.length → DjI (dj T X Y ss m) (tj T X Y ss m) m
  | 0, _ => ⟨by simp [dj, tj], fun i hi => (by cases hi), fun h => (by cases h), List.Pairwise.nil, fun t => by simp [djL, dj, tj]⟩
  | m + 1, hm => by
    have ih := dj_inv (T := T) (X := X) (Y := Y) h m (by omega)
    have hs := (h _ (gi_mem (i := (m : Int)) (xs := ss) (by omega))).t
    rw [dj, tj]
    generalize dj T X Y ss m = d at *
    generalize tj T X Y ss m = p at *
    generalize gi ss (m : Int) = s at *
    have ⟨i1, i2, i3, i4, i5⟩ := ih
    by_cases hk : s.Kind % 8 = 0
    · simp only [hk, if_true, decide_true]
      rcases ha : p.al with _ | _ <;> rw [ha] at i1 <;> simp only [ha, djL, if_true, if_false, Bool.false_eq_true] at i1 i5 ⊢
      · obtain ⟨a1, a2, a3⟩ := i3 ha
        refine ⟨?_, fun i hi => ?_, fun h => (by cases h), ?_, fun t => ?_⟩
        · simp only [List.length_append, List.length_singleton, if_true]
          omega
        · rcases List.mem_append.1 hi with h1 | h1
          · have := i2 i h1; simp only; omega
          · rw [List.mem_singleton.1 h1]; simp only; omega
        · rw [List.pairwise_append]
          refine ⟨i4, List.pairwise_singleton _ _, fun i hi j hj => ?_⟩
          rw [List.mem_singleton.1 hj]
          exact a2 i hi
        · exact i5 t
      · exact ⟨by simp only [if_true]; omega, fun i hi => by have := i2 i hi; simp only; omega, fun h => (by cases h), i4, fun t => i5 t⟩
    · simp only [hk, if_false, decide_false]
      have hu : ∀ t, (∃ u ∈ p.out ++ [tjU p s], memI u.In t) ↔ (∃ u ∈ p.out, memI u.In t) ∨ memI (tjU p s).In t := fun t => by
        constructor
        · rintro ⟨u, hu, hm⟩
          rcases List.mem_append.1 hu with h1 | h1
          · exact .inl ⟨u, h1, hm⟩
          · rw [List.mem_singleton.1 h1] at hm; exact .inr hm
        · rintro (⟨u, hu, hm⟩ | hm)
          · exact ⟨u, List.mem_append_left _ hu, hm⟩
          · exact ⟨_, List.mem_append_right _ (.head _), hm⟩
      have hc : ((p.t : Int) : Rat) < ((p.t + 1 + s.Time % 8 : Int) : Rat) := Rat.intCast_lt_intCast.2 (by omega)
      rcases ha : p.al with _ | _ <;> rw [ha] at i1 <;> simp only [ha, djL, if_true, if_false, Bool.false_eq_true] at i1 i5 ⊢
      · obtain ⟨a1, a2, a3⟩ := i3 ha
        refine ⟨by simp only [Bool.false_eq_true, if_false]; omega, fun i hi => by have := i2 i hi; simp only; omega, fun _ => ⟨by simp only; omega, a2, by simp⟩, i4, fun t => ?_⟩
        rw [hu, ← i5]
        have hf : ((d.f : Int) : Rat) < ((p.t : Int) : Rat) := Rat.intCast_lt_intCast.2 a1
        have e : memI (tjU p s).In t ↔ ((p.t : Int) : Rat) < t ∧ t ≤ ((p.t + 1 + s.Time % 8 : Int) : Rat) := by
          unfold memI tjU
          have : decide ((0 : Int) < p.out.length) = true := decide_eq_true (by omega)
          simp only [ha, this]
          simp
          grind
        rw [e]
        constructor
        · rintro ⟨i, hi, hm⟩
          rcases List.mem_append.1 hi with h1 | h1
          · exact .inl ⟨i, List.mem_append_left _ h1, hm⟩
          · rw [List.mem_singleton.1 h1, memI_Z] at hm
            simp only at hm
            by_cases h2 : t ≤ ((p.t : Int) : Rat)
            · exact .inl ⟨(d.f, p.t), List.mem_append_right _ (.head _), memI_Z.2 ⟨hm.1, h2⟩⟩
            · exact .inr ⟨by grind, hm.2⟩
        · rintro (⟨i, hi, hm⟩ | hm)
          · rcases List.mem_append.1 hi with h1 | h1
            · exact ⟨i, List.mem_append_left _ h1, hm⟩
            · rw [List.mem_singleton.1 h1, memI_Z] at hm
              simp only at hm
              exact ⟨_, List.mem_append_right _ (.head _), memI_Z.2 ⟨hm.1, by simp only; grind⟩⟩
          · exact ⟨_, List.mem_append_right _ (.head _), memI_Z.2 ⟨by simp only; grind, hm.2⟩⟩
      · refine ⟨by simp only [Bool.false_eq_true, if_false]; omega, fun i hi => by have := i2 i hi; simp only; omega, fun _ => ⟨by simp only; omega, fun i hi => (i2 i hi).2, by simp⟩, i4, fun t => ?_⟩
        rw [hu, ← i5]
        have e : memI (tjU p s).In t ↔ memI (ivZ p.t (p.t + 1 + s.Time % 8)) t := by
          unfold memI tjU ivZ
          simp [ha]
        rw [e]
        constructor
        · rintro ⟨i, hi, hm⟩
          rcases List.mem_append.1 hi with h1 | h1
          · exact .inl ⟨i, h1, hm⟩
          · rw [List.mem_singleton.1 h1] at hm
            exact .inr hm
        · rintro (⟨i, hi, hm⟩ | hm)
          · exact ⟨i, List.mem_append_left _ hi, hm⟩
          · exact ⟨_, List.mem_append_right _ (.head _), hm⟩
theorem djR_law {c : viatorlaw15_Car} {ss : List Stp15} (h : ∀ s ∈ ss, StOk s) : 2 * (djR c ss).length ≤ ss.length + 2 ∧ Sep ((djR c ss).map fun i => ivZ i.1 i.2) ∧ ∀ t, (∃ i ∈ (djR c ss).map fun i => ivZ i.1 i.2, memI i t) ↔ ∃ u ∈ tjR c ss, memI u.In t := by
  have ih := dj_inv (T := c.Time) (X := c.X) (Y := c.Y) h ss.length (Nat.le_refl _)
  unfold djR tjR
  generalize dj c.Time c.X c.Y ss ss.length = d at *
  generalize tj c.Time c.X c.Y ss ss.length = p at *
  have ⟨i1, i2, i3, i4, i5⟩ := ih
  have hmp : ∀ {l : List (Int × Int)} {t : Rat}, (∃ i ∈ l.map fun i => ivZ i.1 i.2, memI i t) ↔ ∃ i ∈ l, memI (ivZ i.1 i.2) t := by
    intro l t
    constructor
    · rintro ⟨i, hi, hm⟩
      obtain ⟨j, hj, rfl⟩ := List.mem_map.1 hi
      exact ⟨j, hj, hm⟩
    · rintro ⟨i, hi, hm⟩
      exact ⟨_, List.mem_map.2 ⟨i, hi, rfl⟩, hm⟩
  have hsep : ∀ f : Int, f ≤ p.t → (∀ i ∈ d.dn, i.2 < f) → Sep ((d.dn ++ [(f, p.t)]).map fun i => ivZ i.1 i.2) := fun f h1 h2 => by
    refine ⟨?_, fun i hi => ?_⟩
    · rw [List.pairwise_map, List.pairwise_append]
      refine ⟨i4.imp fun h => bLt_Z.2 h, List.pairwise_singleton _ _, fun i hi j hj => ?_⟩
      rw [List.mem_singleton.1 hj]
      exact bLt_Z.2 (h2 i hi)
    · obtain ⟨j, hj, rfl⟩ := List.mem_map.1 hi
      rcases List.mem_append.1 hj with h3 | h3
      · exact ok_Z (i2 j h3).1
      · rw [List.mem_singleton.1 h3]; exact ok_Z h1
  rcases ha : p.al with _ | _ <;> rw [ha] at i1 <;> simp only [ha, djL, if_true, if_false, Bool.false_eq_true] at i1 i5 ⊢
  · obtain ⟨a1, a2, a3⟩ := i3 ha
    refine ⟨by rw [List.length_append]; simp only [List.length_singleton]; omega, hsep d.f (by omega) a2, fun t => ?_⟩
    rw [hmp]
    exact i5 t
  · refine ⟨by rw [List.length_append]; simp only [List.length_singleton]; omega, hsep p.t (Int.le_refl _) (fun i hi => (i2 i hi).2), fun t => ?_⟩
    rw [hmp]
    constructor
    · rintro ⟨i, hi, hm⟩
      rcases List.mem_append.1 hi with h1 | h1
      · obtain ⟨u, hu, hm⟩ := (i5 t).1 ⟨i, h1, hm⟩
        exact ⟨u, List.mem_append_left _ hu, hm⟩
      · rw [List.mem_singleton.1 h1] at hm
        exact ⟨_, List.mem_append_right _ (.head _), hm⟩
    · rintro ⟨u, hu, hm⟩
      rcases List.mem_append.1 hu with h1 | h1
      · obtain ⟨i, hi, hm⟩ := (i5 t).2 ⟨u, h1, hm⟩
        exact ⟨i, List.mem_append_left _ hi, hm⟩
      · rw [List.mem_singleton.1 h1] at hm
        exact ⟨_, List.mem_append_right _ (.head _), hm⟩
end Go.Vt
/- The runs of a moving point: plain. Conditions: those that each statement names. -/
set_option linter.unusedSimpArgs false
set_option linter.unusedVariables false
set_option maxHeartbeats 2000000
set_option maxRecDepth 100000
namespace Go.Vt
open Go.RowKit Go.Proofs
open Fv (va red)
abbrev absP (u : PU) : GU Rat R_api_Line := absU (toU u)
def smq (f : R_api_Line) (t : R_api_Real) : SS := ⟨t.P, pos f t.P⟩
/-- Do two neighbouring units meet at a turn? -/
def trn (a b : PU) : Bool := decide (a.In.To = b.In.From) && ((!a.In.OpenTo || !b.In.OpenFrom) && smL a.F b.F b.In.From.P)
structure RnS where
  dn : List (R_api_Interval × List SS)
  I : R_api_Interval
  P : List SS
def rnD (s : RnS) : List (R_api_Interval × List SS) := if s.P = [] then s.dn else s.dn ++ [(s.I, s.P)]
def rnI (u : PU) (I : R_api_Interval) : R_api_Interval := ⟨I.From, u.In.To, I.OpenFrom, u.In.OpenTo⟩
def rnP (u : PU) (P : List SS) : List SS := if u.In.From = u.In.To then P else P ++ [smq u.F u.In.To]
def rn (c : Nat → Bool) (l : List PU) : Nat → RnS
  | 0 => ⟨[], zR_api_Interval, []⟩
  | m + 1 => if c m = true then ⟨rnD (rn c l m), rnI (gi l (m : Int)) (gi l (m : Int)).In, rnP (gi l (m : Int)) [smq (gi l (m : Int)).F (gi l (m : Int)).In.From]⟩
    else ⟨(rn c l m).dn, rnI (gi l (m : Int)) (rn c l m).I, rnP (gi l (m : Int)) (rn c l m).P⟩
/-- Does a run begin here? -/
def fstU (l : List PU) (m : Nat) : Bool := decide (m = 0) || !trn (gi l ((m - 1 : Nat) : Int)) (gi l (m : Int))
def rns (c : Nat → Bool) (l : List PU) : List (R_api_Interval × List SS) := rnD (rn c l l.length)
/-- The instants at which units meet at a turn. -/
def tns (l : List PU) : Nat → List R_api_Real
  | 0 => []
  | m + 1 => if 0 < m ∧ trn (gi l ((m - 1 : Nat) : Int)) (gi l (m : Int)) = true ∧ ¬ (tns l m).getLast? = some (gi l (m : Int)).In.From then tns l m ++ [(gi l (m : Int)).In.From] else tns l m
theorem tns_mem {l : List PU} {t : R_api_Real} : ∀ {m : Nat}, t ∈ tns l m ↔ ∃ j, 0 < j ∧ j < m ∧ trn (gi l ((j - 1 : Nat) : Int)) (gi l (j : Int)) = true ∧ t = (gi l (j : Int)).In.From
  | 0 => by
    constructor
    · intro h; cases h
    · rintro ⟨j, _, h, _⟩; omega
  | m + 1 => by
    have ih := tns_mem (l := l) (t := t) (m := m)
    have hs : (∃ j, 0 < j ∧ j < m + 1 ∧ trn (gi l ((j - 1 : Nat) : Int)) (gi l (j : Int)) = true ∧ t = (gi l (j : Int)).In.From) ↔ t ∈ tns l m ∨ (0 < m ∧ trn (gi l ((m - 1 : Nat) : Int)) (gi l (m : Int)) = true ∧ t = (gi l (m : Int)).In.From) := by
      rw [ih]
      constructor
      · rintro ⟨j, h1, h2, h3, h4⟩
        rcases (by omega : j < m ∨ j = m) with h5 | h5
        · exact .inl ⟨j, h1, h5, h3, h4⟩
        · subst h5; exact .inr ⟨h1, h3, h4⟩
      · rintro (⟨j, h1, h2, h3, h4⟩ | ⟨h1, h3, h4⟩)
        · exact ⟨j, h1, by omega, h3, h4⟩
        · exact ⟨m, h1, by omega, h3, h4⟩
    rw [hs, tns]
    split
    · rename_i h
      rw [List.mem_append, List.mem_singleton]
      constructor
      · rintro (h1 | h1)
        · exact .inl h1
        · exact .inr ⟨h.1, h.2.1, h1⟩
      · rintro (h1 | ⟨h1, h2, h3⟩)
        · exact .inl h1
        · exact .inr h3
    · rename_i h
      constructor
      · exact .inl
      · rintro (h1 | ⟨h1, h2, h3⟩)
        · exact h1
        · have h4 : (tns l m).getLast? = some (gi l (m : Int)).In.From := Classical.byContradiction fun k => h ⟨h1, h2, k⟩
          rw [h3]
          exact List.mem_of_getLast? h4
theorem tns_len (l : List PU) : ∀ m, (tns l m).length ≤ m
  | 0 => Nat.le_refl _
  | m + 1 => by
    have := tns_len l m
    rw [tns]
    split
    · rw [List.length_append]; simp; exact this
    · omega
/-- The units of a moving point in normal form. -/
structure PNf (l : List PU) : Prop where
  nf : NF (l.map absP)
  rf : ∀ u ∈ l, RtOk u.In.From ∧ RtOk u.In.To
section
variable {l : List PU}
theorem PNf.g (h : PNf l) {i : Nat} (hi : i < l.length) : RtOk (gi l (i : Int)).In.From ∧ RtOk (gi l (i : Int)).In.To := h.rf _ (gi_mem (by omega))
theorem PNf.ok (h : PNf l) {i : Nat} (hi : i < l.length) : (absP (gi l (i : Int))).ok := h.nf.ok _ (List.mem_map.2 ⟨_, gi_mem (by omega), rfl⟩)
theorem PNf.rd (h : PNf l) {i : Nat} (hi : i < l.length) : (absP (gi l (i : Int))).a = (absP (gi l (i : Int))).b → (gi l (i : Int)).F = red (gi l (i : Int)).F (gi l (i : Int)).In.From.P := h.nf.rd _ (List.mem_map.2 ⟨_, gi_mem (by omega), rfl⟩)
theorem PNf.ad (h : PNf l) {i j : Nat} (hij : i < j) (hj : j < l.length) : Adj (absP (gi l (i : Int))) (absP (gi l (j : Int))) := by
  have h1 := List.pairwise_iff_getElem.1 h.nf.pw i j (by rw [List.length_map]; omega) (by rw [List.length_map]; omega) hij
  rw [List.getElem_map, List.getElem_map, ← gi_nat (by omega), ← gi_nat hj] at h1
  exact h1
theorem rt_of {x y : R_api_Real} (hx : RtOk x) (hy : RtOk y) (h : x.P = y.P) : x = y := by
  obtain ⟨p, r, n⟩ := x
  obtain ⟨p', r', n'⟩ := y
  obtain ⟨h1, h2⟩ := hx
  obtain ⟨h3, h4⟩ := hy
  simp only at h1 h2 h3 h4 h
  rw [h, h1, h2, h3, h4]
theorem rt_is {x : R_api_Real} (hx : RtOk x) : x = ⟨x.P, 0, false⟩ := rt_of hx ⟨rfl, rfl⟩ rfl
/-- At a turn both units are long, the first has the instant. -/
theorem trn_spec (h : PNf l) {i j : Nat} (hij : i < j) (hj : j < l.length) (ht : trn (gi l (i : Int)) (gi l (j : Int)) = true) :
    (gi l (i : Int)).In.To = (gi l (j : Int)).In.From ∧ (gi l (i : Int)).In.OpenTo = false ∧ (gi l (j : Int)).In.OpenFrom = true ∧ (gi l (i : Int)).In.From.P < (gi l (i : Int)).In.To.P ∧ (gi l (j : Int)).In.From.P < (gi l (j : Int)).In.To.P ∧ va (gi l (i : Int)).F (gi l (j : Int)).In.From.P = va (gi l (j : Int)).F (gi l (j : Int)).In.From.P := by
  unfold trn at ht
  simp only [Bool.and_eq_true, decide_eq_true_eq] at ht
  obtain ⟨h1, h2, h3⟩ := ht
  have h3 := smL_iff.1 h3
  have ha := h.ad hij hj
  have k1 := h.ok (i := i) (by omega)
  have k2 := h.ok hj
  have n1 := ha.n1
  have n2 := ha.n2
  have n3 := ha.n3
  have h1' : (gi l (i : Int)).In.To.P = (gi l (j : Int)).In.From.P := by rw [h1]
  unfold GU.ok at k1 k2
  simp only [absP, absU, toU] at k1 k2 n1 n2 n3
  rcases hq : (gi l (j : Int)).In.OpenFrom with _ | _
  · exact absurd h3 (n2 h1' hq)
  · rw [hq] at h2 k2
    have h4 : (gi l (i : Int)).In.OpenTo = false := by simpa using h2
    refine ⟨h1, h4, rfl, ?_, ?_, h3⟩
    · rcases k1 with k1 | k1
      · exact k1
      · exact absurd h3 (n3 h1' k1.1)
    · rcases k2 with k2 | k2
      · exact k2
      · exact absurd k2.2.1 (by simp)
theorem bfr_le (h : PNf l) {i j : Nat} (hij : i < j) (hj : j < l.length) : (gi l (i : Int)).In.To.P ≤ (gi l (j : Int)).In.From.P := by
  have := (h.ad hij hj).bf
  unfold GU.bfr at this
  simp only [absP, absU, toU] at this
  grind
theorem ok_le (h : PNf l) {i : Nat} (hi : i < l.length) : (gi l (i : Int)).In.From.P ≤ (gi l (i : Int)).In.To.P := by
  have := h.ok hi
  unfold GU.ok at this
  simp only [absP, absU, toU] at this
  grind
/-- The program's condition is the reference's. -/
theorem first_iff (h : PNf l) {i : Nat} (hi : i < l.length) : (decide (i = 0) || (!decide ((gi l ((i - 1 : Nat) : Int)).In.To = (gi l (i : Int)).In.From) || !decide ((gi l (i : Int)).In.From ∈ tns l l.length))) = fstU l i := by
  unfold fstU
  by_cases h0 : i = 0
  · simp [h0]
  · rw [decide_eq_false h0, Bool.false_or, Bool.false_or]
    rcases ht : trn (gi l ((i - 1 : Nat) : Int)) (gi l (i : Int)) with _ | _
    · show _ = true
      by_cases h1 : (gi l ((i - 1 : Nat) : Int)).In.To = (gi l (i : Int)).In.From
      · have : ¬ (gi l (i : Int)).In.From ∈ tns l l.length := fun hm => by
          obtain ⟨j, j0, jl, jt, je⟩ := tns_mem.1 hm
          have js := trn_spec h (i := j - 1) (j := j) (by omega) jl jt
          have je' : (gi l (i : Int)).In.From.P = (gi l (j : Int)).In.From.P := by rw [je]
          have h1' : (gi l ((i - 1 : Nat) : Int)).In.To.P = (gi l (i : Int)).In.From.P := by rw [h1]
          have js1 : (gi l ((j - 1 : Nat) : Int)).In.To.P = (gi l (j : Int)).In.From.P := by rw [js.1]
          have js4 := js.2.2.2.1
          have js5 := js.2.2.2.2.1
          rcases (by omega : j = i ∨ j < i ∨ i < j) with k | k | k
          · subst k; rw [ht] at jt; cases jt
          · have := bfr_le h k hi
            have := ok_le h jl
            grind
          · have := ok_le h hi
            rcases (by omega : i = j - 1 ∨ i < j - 1) with k2 | k2
            · subst k2; grind
            · have := bfr_le h k2 (by omega)
              grind
        rw [decide_eq_false this]; simp
      · rw [decide_eq_false h1]; rfl
    · have js := trn_spec h (i := i - 1) (j := i) (by omega) hi ht
      have hm : (gi l (i : Int)).In.From ∈ tns l l.length := tns_mem.2 ⟨i, by omega, hi, ht, rfl⟩
      rw [decide_eq_true js.1, decide_eq_true hm]; rfl
theorem stl_smq {f : R_api_Line} {s t : R_api_Real} (h : s.P < t.P) : stl (smq f s) (smq f t) = f := by
  refine Fv.agree _ _ s.P t.P h fun x h1 h2 => ?_
  show pos (stl (smq f s) (smq f t)) x = pos f x
  rw [stl_pos (a := smq f s) (b := smq f t) h]
  unfold smq pos
  simp only [R_api_Point.mk.injEq]
  have key : (t.P - s.P) * ((x - s.P) / (t.P - s.P)) = x - s.P := by
    rw [Rat.div_def, Rat.mul_comm (x - s.P), ← Rat.mul_assoc, Rat.mul_inv_cancel _ (by grind), Rat.one_mul]
  generalize (x - s.P) / (t.P - s.P) = q at *
  constructor <;> grind
theorem gi_app {α : Type} [Inhabited α] {xs ys : List α} {i : Nat} (h : i < xs.length) : gi (xs ++ ys) (i : Int) = gi xs (i : Int) := by
  rw [gi_nat h, gi_nat (by rw [List.length_append]; omega), List.getElem_append_left h]
theorem gi_snoc {α : Type} [Inhabited α] (xs : List α) (y : α) : gi (xs ++ [y]) (xs.length : Int) = y := by
  rw [gi_nat (by rw [List.length_append]; simp), List.getElem_append_right (Nat.le_refl _)]
  simp
theorem bs_ext {I I' : R_api_Interval} {P : List SS} {s : SS} (h1 : I.OpenFrom = I'.OpenFrom) (h2 : I.OpenTo = false) : ∀ m, m + 1 ≤ P.length → bs I' (P ++ [s]) m = bs I P m
  | 0, _ => rfl
  | m + 1, hm => by
    rw [bs, bs, bs_ext h1 h2 m (by omega)]
    congr 2
    unfold bsU
    rw [gi_app (by omega), gi_app (by omega), h1, h2, List.length_append, List.length_singleton, if_neg (by omega : ¬ m + 2 = P.length + 1)]
    congr 2
    split <;> rfl
def b1s (ps : List (R_api_Interval × List SS)) : List PU := ps.flatMap fun p => b1 p.1 p.2
theorem b1s_snoc (ps : List (R_api_Interval × List SS)) (p : R_api_Interval × List SS) : b1s (ps ++ [p]) = b1s ps ++ b1 p.1 p.2 := by
  unfold b1s
  rw [List.flatMap_append]
  simp
/-- What is known of the runs so far: they make up the units so far. -/
structure RnI (l : List PU) (s : RnS) (m : Nat) : Prop where
  e : b1s (rnD s) = l.take m
  p : 0 < m → 1 ≤ s.P.length
  to : 0 < m → s.I.To = (gi l ((m - 1 : Nat) : Int)).In.To ∧ s.I.OpenTo = (gi l ((m - 1 : Nat) : Int)).In.OpenTo
  la : 0 < m → gi s.P ((s.P.length - 1 : Nat) : Int) = smq (gi l ((m - 1 : Nat) : Int)).F (gi l ((m - 1 : Nat) : Int)).In.To
  lg : 0 < m → (gi l ((m - 1 : Nat) : Int)).In.From.P < (gi l ((m - 1 : Nat) : Int)).In.To.P → 2 ≤ s.P.length
theorem rnD_ne {s : RnS} (h : 1 ≤ s.P.length) : rnD s = s.dn ++ [(s.I, s.P)] := by
  unfold rnD
  rw [if_neg (by intro h0; rw [h0] at h; simp at h)]
theorem one_unit (h : PNf l) {m : Nat} (hm : m < l.length) : b1 (rnI (gi l (m : Int)) (gi l (m : Int)).In) (rnP (gi l (m : Int)) [smq (gi l (m : Int)).F (gi l (m : Int)).In.From]) = [gi l (m : Int)] := by
  have hk := h.ok hm
  have hr := h.rd hm
  have hg := h.g hm
  have hrI : rnI (gi l (m : Int)) (gi l (m : Int)).In = (gi l (m : Int)).In := rfl
  rw [hrI]
  generalize gi l (m : Int) = u at *
  unfold rnP
  by_cases h1 : u.In.From = u.In.To
  · rw [if_pos h1]
    unfold b1
    rw [if_pos (by rfl)]
    have h2 := hr (show u.In.From.P = u.In.To.P by rw [h1])
    congr 1
    obtain ⟨I, F⟩ := u
    simp only [R_api_PointUnit.mk.injEq, true_and]
    exact (show F = lred F I.From.P from h2).symm
  · rw [if_neg h1]
    have hlt : u.In.From.P < u.In.To.P := by
      unfold GU.ok at hk
      simp only [absP, absU, toU] at hk
      rcases hk with hk | hk
      · exact hk
      · exact absurd (rt_of hg.1 hg.2 hk.1) h1
    unfold b1
    rw [if_neg (by simp)]
    show bs _ _ 1 = _
    rw [bs, bs, List.nil_append]
    congr 1
    unfold bsU
    show R_api_PointUnit.mk ⟨⟨u.In.From.P, 0, false⟩, ⟨u.In.To.P, 0, false⟩, u.In.OpenFrom, u.In.OpenTo⟩ (stl (smq u.F u.In.From) (smq u.F u.In.To)) = u
    rw [stl_smq hlt, ← rt_is hg.1, ← rt_is hg.2]
theorem rnP_last (u : PU) (P : List SS) (s : SS) (h : u.In.From = u.In.To → s = smq u.F u.In.To) : gi (rnP u (P ++ [s])) (((rnP u (P ++ [s])).length - 1 : Nat) : Int) = smq u.F u.In.To := by
  unfold rnP
  by_cases h1 : u.In.From = u.In.To
  · rw [if_pos h1, List.length_append, List.length_singleton, Nat.add_sub_cancel, gi_snoc, h h1]
  · rw [if_neg h1, List.length_append, List.length_singleton, Nat.add_sub_cancel, gi_snoc]
theorem rnP_len (u : PU) (P : List SS) : P.length ≤ (rnP u P).length ∧ (rnP u P).length ≤ P.length + 1 ∧ (¬ u.In.From = u.In.To → (rnP u P).length = P.length + 1) := by
  unfold rnP
  split
  · exact ⟨Nat.le_refl _, Nat.le_succ _, fun h => absurd (by assumption) h⟩
  · rw [List.length_append]; simp
theorem rn_inv (h : PNf l) : ∀ m, m ≤ l.length → RnI l (rn (fstU l) l m) m
  | 0, _ => ⟨rfl, fun h => absurd h (by omega), fun h => absurd h (by omega), fun h => absurd h (by omega), fun h => absurd h (by omega)⟩
  | m + 1, hm => by
    have ih := rn_inv h m (by omega)
    have hu := take_snoc (l := l) (m := m) (by omega)
    rw [rn]
    by_cases hc : fstU l m = true
    · rw [if_pos hc]
      have hl := rnP_len (gi l (m : Int)) [smq (gi l (m : Int)).F (gi l (m : Int)).In.From]
      have hlen : 1 ≤ (rnP (gi l (m : Int)) [smq (gi l (m : Int)).F (gi l (m : Int)).In.From]).length := hl.1
      refine ⟨?_, fun _ => hlen, fun _ => ⟨rfl, rfl⟩, fun _ => ?_, fun _ hlt => ?_⟩
      · rw [rnD_ne hlen, b1s_snoc, ih.e, hu, one_unit h (by omega)]
      · exact rnP_last (gi l (m : Int)) [] _ fun k => by rw [k]
      · have hne : ¬ (gi l (m : Int)).In.From = (gi l (m : Int)).In.To := fun k => by
          have hlt : (gi l (m : Int)).In.From.P < (gi l (m : Int)).In.To.P := hlt
          rw [k] at hlt; exact absurd hlt (by grind)
        have h2 := hl.2.2 hne
        show 2 ≤ (rnP (gi l (m : Int)) [smq (gi l (m : Int)).F (gi l (m : Int)).In.From]).length
        rw [h2]; simp
    · rw [if_neg hc]
      have hc' : 0 < m ∧ trn (gi l ((m - 1 : Nat) : Int)) (gi l (m : Int)) = true := by
        unfold fstU at hc
        simp only [Bool.or_eq_true, decide_eq_true_eq, Bool.not_eq_true', not_or] at hc
        exact ⟨by omega, by simpa using hc.2⟩
      obtain ⟨m0, ht⟩ := hc'
      obtain ⟨s1, s2, s3, s4, s5, s6⟩ := trn_spec h (i := m - 1) (j := m) (by omega) (by omega) ht
      have hg := h.g (i := m) (by omega)
      have p1 := ih.p m0
      have p2 := ih.lg m0 s4
      have p3 := ih.la m0
      have p4 := ih.to m0
      have p5 := ih.e
      rw [rnD_ne p1, b1s_snoc] at p5
      generalize rn (fstU l) l m = st at *
      have hne : ¬ (gi l (m : Int)).In.From = (gi l (m : Int)).In.To := fun k => by rw [k] at s5; exact absurd s5 (by grind)
      have hP : rnP (gi l (m : Int)) st.P = st.P ++ [smq (gi l (m : Int)).F (gi l (m : Int)).In.To] := if_neg hne
      have hlen : 1 ≤ (rnP (gi l (m : Int)) st.P).length := by rw [hP]; simp
      refine ⟨?_, fun _ => hlen, fun _ => ⟨rfl, rfl⟩, fun _ => ?_, fun _ _ => ?_⟩
      · rw [rnD_ne hlen, b1s_snoc, hu, ← p5, List.append_assoc]
        congr 1
        show b1 (rnI _ _) (rnP _ _) = b1 st.I st.P ++ _
        rw [hP]
        unfold b1
        rw [if_neg (by rw [List.length_append, List.length_singleton]; omega), if_neg (by omega), List.length_append, List.length_singleton, Nat.add_sub_cancel]
        have e1 : st.P.length = (st.P.length - 1) + 1 := by omega
        rw [show bs (rnI (gi l (m : Int)) st.I) (st.P ++ [smq (gi l (m : Int)).F (gi l (m : Int)).In.To]) st.P.length = bs (rnI (gi l (m : Int)) st.I) (st.P ++ [smq (gi l (m : Int)).F (gi l (m : Int)).In.To]) ((st.P.length - 1) + 1) by rw [← e1]]
        rw [bs, bs_ext (I := st.I) (I' := rnI (gi l (m : Int)) st.I) rfl (p4.2.trans s2) _ (by omega)]
        congr 2
        unfold bsU
        rw [gi_app (by omega), ← e1, gi_snoc, p3, if_neg (by omega), if_pos (by rw [List.length_append, List.length_singleton]; omega)]
        have e2 : smq (gi l ((m - 1 : Nat) : Int)).F (gi l ((m - 1 : Nat) : Int)).In.To = smq (gi l (m : Int)).F (gi l (m : Int)).In.From := by
          rw [s1]
          unfold smq
          congr 1
        rw [e2, stl_smq s5]
        show R_api_PointUnit.mk ⟨⟨(gi l (m : Int)).In.From.P, 0, false⟩, ⟨(gi l (m : Int)).In.To.P, 0, false⟩, true, (gi l (m : Int)).In.OpenTo⟩ (gi l (m : Int)).F = _
        rw [← rt_is hg.1, ← rt_is hg.2, ← s3]
      · show gi (rnP (gi l (m : Int)) st.P) _ = _
        rw [hP, List.length_append, List.length_singleton, Nat.add_sub_cancel, gi_snoc]
        rfl
      · show 2 ≤ (rnP (gi l (m : Int)) st.P).length
        rw [hP, List.length_append]; simp; omega
/-- The runs of a moving point make it up. -/
theorem rns_law (h : PNf l) : b1s (rns (fstU l) l) = l := by
  have := (rn_inv h l.length (Nat.le_refl _)).e
  rw [List.take_length] at this
  exact this
end
theorem rn_len (c : Nat → Bool) (l : List PU) : ∀ m, (rnD (rn c l m)).length ≤ m ∧ (rn c l m).dn.length ≤ m ∧ ((rn c l m).P.length ≤ m + 1) ∧ ∀ p ∈ (rn c l m).dn, p.2.length ≤ m + 1
  | 0 => ⟨Nat.le_refl _, Nat.le_refl _, Nat.zero_le _, fun p hp => by cases hp⟩
  | m + 1 => by
    obtain ⟨h1, h2, h3, h4⟩ := rn_len c l m
    have hD : ∀ p ∈ rnD (rn c l m), p.2.length ≤ m + 1 := fun p hp => by
      unfold rnD at hp
      split at hp
      · exact h4 p hp
      · rcases List.mem_append.1 hp with hp | hp
        · exact h4 p hp
        · rw [List.mem_singleton.1 hp]; exact h3
    have hDl : ∀ s : RnS, (rnD s).length ≤ s.dn.length + 1 := fun s => by unfold rnD; split <;> simp
    rw [rn]
    split
    · have hp := rnP_len (gi l (m : Int)) [smq (gi l (m : Int)).F (gi l (m : Int)).In.From]
      simp only [List.length_singleton] at hp
      refine ⟨Nat.le_trans (hDl _) (by show (rnD (rn c l m)).length + 1 ≤ _; omega), by show (rnD (rn c l m)).length ≤ _; omega, by show (rnP _ _).length ≤ _; omega, fun p hp => by have := hD p hp; omega⟩
    · have hp := rnP_len (gi l (m : Int)) (rn c l m).P
      refine ⟨?_, by show (rn c l m).dn.length ≤ _; omega, by show (rnP _ _).length ≤ _; omega, fun p hp => by have := h4 p hp; omega⟩
      refine Nat.le_trans (hDl _) ?_
      show (rn c l m).dn.length + 1 ≤ m + 1
      omega
/-- The program's runs and the reference's are the same. -/
theorem rn_congr {c d : Nat → Bool} {l : List PU} : ∀ m, (∀ j, j < m → c j = d j) → rn c l m = rn d l m
  | 0, _ => rfl
  | m + 1, h => by
    rw [rn, rn, rn_congr m (fun j hj => h j (by omega)), h m (by omega)]
theorem bA_b1s {rs : List RD} : ∀ m, m ≤ rs.length → bA rs m = b1s ((rs.take m).map fun r => (r.I, r.pts))
  | 0, _ => rfl
  | m + 1, hm => by
    rw [bA, bA_b1s m (by omega), take_snoc (by omega), List.map_append, List.map_singleton, b1s_snoc]
end Go.Vt
/- The moving point of a car without a part: plain. Conditions: those that each statement names. -/
set_option linter.unusedSimpArgs false
set_option linter.unusedVariables false
set_option maxHeartbeats 2000000
set_option maxRecDepth 100000
namespace Go.Vt
open Go.RowKit Go.Proofs
open Fv (va red)
theorem tj_few {T X Y : Int} {ss : List Stp15} : ∀ m, (tj T X Y ss m).out.length + (if (tj T X Y ss m).al = true then 1 else 0) ≤ max 1 m ∧ ((tj T X Y ss m).al = false → 0 < m)
  | 0 => by
    rw [tj]
    exact ⟨by simp, fun h => (by cases h)⟩
  | m + 1 => by
    obtain ⟨h1, h2⟩ := tj_few (T := T) (X := X) (Y := Y) (ss := ss) m
    rw [tj]
    generalize tj T X Y ss m = p at *
    refine ⟨?_, fun _ => by omega⟩
    simp only
    by_cases hk : (gi ss (m : Int)).Kind % 8 = 0
    · rw [if_pos hk, decide_eq_true hk, if_pos rfl]
      rcases ha : p.al with _ | _ <;> rw [ha] at h1 h2
      · have := h2 rfl
        simp only [Bool.false_eq_true, if_false] at h1
        omega
      · simp only [if_true] at h1
        omega
    · rw [if_neg hk, decide_eq_false hk, List.length_append, List.length_singleton]
      simp only [Bool.false_eq_true, if_false]
      rcases ha : p.al with _ | _ <;> rw [ha] at h1 h2
      · have := h2 rfl
        simp only [Bool.false_eq_true, if_false] at h1
        omega
      · simp only [if_true] at h1
        omega
theorem tjR_few {c : viatorlaw15_Car} {ss : List Stp15} (h6 : ss.length ≤ 6) : (tjR c ss).length ≤ 6 := by
  obtain ⟨h1, h2⟩ := tj_few (T := c.Time) (X := c.X) (Y := c.Y) (ss := ss) ss.length
  unfold tjR
  split
  · rename_i ha
    rw [ha] at h1
    simp only [if_true] at h1
    rw [List.length_append, List.length_singleton]
    omega
  · omega
structure TjP (p : TjS) : Prop where
  o : ∀ u ∈ p.out, okI u.In
  w : p.out.Pairwise (fun u v => (absP u).bfr (absP v))
  e : ∀ u ∈ p.out, u.In.To.P ≤ (p.t : Rat)
  l : p.al = true → ∀ u ∈ p.out, u.In.To.P < (p.t : Rat)
theorem tj_apart {T X Y : Int} {ss : List Stp15} (h : ∀ s ∈ ss, StOk s) : ∀ m, m ≤ ss.length → TjP (tj T X Y ss m)
  | 0, _ => ⟨fun u hu => (by cases hu), List.Pairwise.nil, fun u hu => (by cases hu), fun _ u hu => (by cases hu)⟩
  | m + 1, hm => by
    obtain ⟨h1, h2, h3, h4⟩ := tj_apart (T := T) (X := X) (Y := Y) h m (by omega)
    have hs := (h _ (gi_mem (i := (m : Int)) (xs := ss) (by omega))).t
    rw [tj]
    generalize tj T X Y ss m = p at *
    generalize gi ss (m : Int) = s at *
    have hc : ((p.t : Int) : Rat) < ((p.t + 1 + s.Time % 8 : Int) : Rat) := Rat.intCast_lt_intCast.2 (by omega)
    by_cases hk : s.Kind % 8 = 0
    · simp only [hk, if_true, decide_true]
      exact ⟨h1, h2, fun u hu => by have := h3 u hu; grind, fun _ u hu => by have := h3 u hu; grind⟩
    · simp only [hk, if_false, decide_false]
      refine ⟨fun u hu => ?_, ?_, fun u hu => ?_, fun k => (by cases k)⟩
      · rcases List.mem_append.1 hu with k | k
        · exact h1 u k
        · rw [List.mem_singleton.1 k]
          exact .inl hc
      · rw [List.pairwise_append]
        refine ⟨h2, List.pairwise_singleton _ _, fun u hu v hv => ?_⟩
        rw [List.mem_singleton.1 hv]
        have h5 := h3 u hu
        have h6 : 0 < p.out.length := List.length_pos_of_mem hu
        by_cases h7 : u.In.To.P < (p.t : Rat)
        · exact .inl h7
        · refine .inr ⟨show u.In.To.P = (p.t : Rat) by grind, .inr ?_⟩
          show (decide ((0 : Int) < p.out.length) && !p.al) = true
          rw [decide_eq_true (by omega), Bool.true_and]
          rcases ha : p.al with _ | _
          · rfl
          · exact absurd (h4 ha u hu) h7
      · rcases List.mem_append.1 hu with k | k
        · have := h3 u k
          simp only
          grind
        · rw [List.mem_singleton.1 k]
          exact Rat.le_refl
theorem tjR_apart {c : viatorlaw15_Car} {ss : List Stp15} (h : ∀ s ∈ ss, StOk s) : (∀ u ∈ tjR c ss, okI u.In) ∧ (tjR c ss).Pairwise (fun u v => (absP u).bfr (absP v)) := by
  obtain ⟨h1, h2, h3, h4⟩ := tj_apart (T := c.Time) (X := c.X) (Y := c.Y) h ss.length (Nat.le_refl _)
  unfold tjR
  split
  · rename_i ha
    constructor
    · intro u hu
      rcases List.mem_append.1 hu with k | k
      · exact h1 u k
      · rw [List.mem_singleton.1 k]
        exact .inr ⟨rfl, rfl, rfl⟩
    · rw [List.pairwise_append]
      refine ⟨h2, List.pairwise_singleton _ _, fun u hu v hv => ?_⟩
      rw [List.mem_singleton.1 hv]
      exact .inl (h4 ha u hu)
  · exact ⟨h1, h2⟩
theorem stl_16 {a b : SS} (ha : M a.T ≤ 1 ∧ M a.P.X ≤ 1 ∧ M a.P.Y ≤ 1) (hb : M b.T ≤ 1 ∧ M b.P.X ≤ 1 ∧ M b.P.Y ≤ 1) : LnOk 16 (stl a b) := by
  have := MB.mk ha.1
  have := MB.mk ha.2.1
  have := MB.mk ha.2.2
  have := MB.mk hb.1
  have := MB.mk hb.2.1
  have := MB.mk hb.2.2
  exact ⟨MB.lt (q := (stl a b).X0) rfl, MB.lt (q := (stl a b).X1) rfl, MB.lt (q := (stl a b).Y0) rfl, MB.lt (q := (stl a b).Y1) rfl⟩
theorem tj_16 {T X Y : Int} (hT : 0 ≤ T ∧ 0 ≤ X ∧ 0 ≤ Y) {ss : List Stp15} (h : ∀ s ∈ ss, StOk s) : ∀ m, m ≤ ss.length → m ≤ 6 → ∀ u ∈ (tj T X Y ss m).out, UK 16 (toU u)
  | 0, _, _ => fun u hu => by cases hu
  | m + 1, hm, h6 => by
    have ih := tj_16 hT h m (by omega) (by omega)
    obtain ⟨h1, h2, h3, h4⟩ := tj_bnd hT h m (by omega)
    have hs := h _ (gi_mem (i := (m : Int)) (xs := ss) (by omega))
    obtain ⟨g1, g2, g3, g4⟩ := hs
    rw [tj]
    generalize tj T X Y ss m = q at *
    generalize gi ss (m : Int) = st at *
    simp only
    split
    · exact ih
    · intro u hu
      rcases List.mem_append.1 hu with k | k
      · exact ih u k
      · rw [List.mem_singleton] at k
        subst k
        have e1 : M ((q.t : Int) : Rat) ≤ 16 := Nat.le_trans (M_small (by omega)) (by decide)
        have e2 : M ((q.t + 1 + st.Time % 8 : Int) : Rat) ≤ 16 := Nat.le_trans (M_small (by omega)) (by decide)
        refine ⟨⟨rfl, rfl, rfl, rfl, e1, e2⟩, stl_16 ?_ (smp_M (by omega) (by omega) (by omega))⟩
        unfold tjF
        split
        · exact smp_M (by omega) (by omega) (by omega)
        · exact smp_M (by omega) (by omega) (by omega)
theorem tjR_16 {c : viatorlaw15_Car} (hT : 0 ≤ c.Time ∧ 0 ≤ c.X ∧ 0 ≤ c.Y) {ss : List Stp15} (h : ∀ s ∈ ss, StOk s) (h6 : ss.length ≤ 6) : ∀ u ∈ tjR c ss, UK 16 (toU u) := by
  have hk := tj_16 hT h ss.length (Nat.le_refl _) h6
  obtain ⟨h1, h2, h3, h4⟩ := tj_bnd hT h ss.length (Nat.le_refl _)
  unfold tjR
  split
  · intro u hu
    rcases List.mem_append.1 hu with k | k
    · exact hk u k
    · rw [List.mem_singleton] at k
      subst k
      have e1 : ∀ n : Int, 0 ≤ n ∧ n < 256 → M ((n : Int) : Rat) ≤ 16 := fun n hn => Nat.le_trans (M_small hn) (by decide)
      have e0 : M 0 ≤ 16 := by decide
      exact ⟨⟨rfl, rfl, rfl, rfl, e1 _ (by omega), e1 _ (by omega)⟩, ⟨e1 _ (by omega), e0, e1 _ (by omega), e0⟩⟩
  · exact hk
structure PGood (K n : Nat) (l : List PU) : Prop where
  nf : PNf l
  k : ∀ u ∈ l, UK K (toU u)
  n : l.length ≤ n
theorem mpN_map {α β : Type} [Inhabited α] (f : α → β) (xs : List α) : mpN f xs xs.length = xs.map f := by
  rw [mpN_take f xs _ (Nat.le_refl _), List.take_length]
theorem map_ofU (r : List UL) : (r.map ofU).map absP = r.map absU := by
  rw [List.map_map]
  rfl
theorem map_toU (r : List PU) : (r.map toU).map absU = r.map absP := by
  rw [List.map_map]
  rfl
theorem good_of {K n : Nat} {us : List UL} (hk : ∀ u ∈ us, UK K u) (hK : K ≤ KN) (ho : ∀ u ∈ us, (absU u).ok) (hd : (us.map absU).Pairwise Dis) (hn : us.length ≤ n) :
    PGood (4 * K + 4) n (mpN ofU (nrmR us) (nrmR us).length) ∧ (∀ t v, Has ((mpN ofU (nrmR us) (nrmR us).length).map absP) t v ↔ Has (us.map absU) t v) ∧ nrmE us = 0 := by
  have hv : UVal us := ⟨fun u hu => (hk u hu).uin hK, ho⟩
  obtain ⟨h1, h2⟩ := nrm_nf hv hd
  have h3 := nrmR_K hk
  have h4 := nrmR_few hv
  rw [mpN_map]
  refine ⟨⟨⟨by rw [map_ofU]; exact h1, fun u hu => ?_⟩, fun u hu => ?_, by rw [List.length_map]; omega⟩, fun t v => by rw [map_ofU]; exact h2 t v, (nrmE_0 hv).2 hd⟩
  · obtain ⟨w, hw, rfl⟩ := List.mem_map.1 hu
    exact ⟨(h3 w hw).i.rf, (h3 w hw).i.rt⟩
  · obtain ⟨w, hw, rfl⟩ := List.mem_map.1 hu
    exact h3 w hw
/-- The moving point of a car. -/
def carL (c : viatorlaw15_Car) (ss : List Stp15) : List PU := mNorm (tjR c ss)
structure CarOk (c : viatorlaw15_Car) (ss : List Stp15) : Prop where
  t : 0 ≤ c.Time ∧ 0 ≤ c.X ∧ 0 ≤ c.Y
  s : ∀ s ∈ ss, StOk s
  n : ss.length ≤ 6
theorem carL_good {c : viatorlaw15_Car} {ss : List Stp15} (h : CarOk c ss) : PGood 68 6 (carL c ss) ∧ ∀ t, (∃ u ∈ carL c ss, memI u.In t) ↔ ∃ u ∈ tjR c ss, memI u.In t := by
  have h1 := tjR_apart (c := c) h.s
  have h2 := tjR_16 h.t h.s h.n
  have h3 := tjR_few (c := c) h.n
  have hk : ∀ u ∈ (tjR c ss).map toU, UK 16 u := fun u hu => by
    obtain ⟨w, hw, rfl⟩ := List.mem_map.1 hu
    exact h2 w hw
  have ho : ∀ u ∈ (tjR c ss).map toU, (absU u).ok := fun u hu => by
    obtain ⟨w, hw, rfl⟩ := List.mem_map.1 hu
    exact h1.1 w hw
  have hd : (((tjR c ss).map toU).map absU).Pairwise Dis := by
    rw [map_toU, List.pairwise_map]
    exact h1.2.imp fun h => h.Dis
  obtain ⟨g1, g2, g3⟩ := good_of (n := 6) hk (by decide) ho hd (by rw [List.length_map]; exact h3)
  unfold carL mNorm
  rw [mpN_map toU]
  refine ⟨g1, fun t => ?_⟩
  have e : ∀ (l : List PU), (∃ u ∈ l, memI u.In t) ↔ ∃ v, Has (l.map absP) t v := fun l => by
    constructor
    · rintro ⟨u, hu, hm⟩
      exact ⟨_, absP u, List.mem_map.2 ⟨u, hu, rfl⟩, hm, rfl⟩
    · rintro ⟨v, x, hx, hm, -⟩
      obtain ⟨u, hu, rfl⟩ := List.mem_map.1 hx
      exact ⟨u, hu, hm⟩
  rw [e, e, ← map_toU (tjR c ss)]
  exact exists_congr fun v => g2 t v
theorem closL_mem {a b t : Rat} : (∃ i ∈ closL a b, memI i t) ↔ a ≤ t ∧ t ≤ b := by
  unfold closL
  split
  · rename_i h
    have h1 := cmpB_ge (a := ⟨⟨a, 0, false⟩, false⟩) (b := ⟨⟨b, 0, false⟩, true⟩) (by omega)
    have h2 : b < a := by
      unfold bLe at h1
      simp at h1
      exact h1
    constructor
    · rintro ⟨i, hi, -⟩
      cases hi
    · intro h3
      grind
  · constructor
    · rintro ⟨i, hi, hm⟩
      rw [List.mem_singleton.1 hi] at hm
      unfold memI at hm
      simp only [and_true] at hm
      grind
    · intro h3
      refine ⟨_, .head _, ?_⟩
      unfold memI
      simp only [and_true]
      grind
theorem closL_len (a b : Rat) : (closL a b).length ≤ 1 := by
  unfold closL
  split <;> simp
theorem closL_ok {a b : Rat} : ∀ i ∈ closL a b, bLe (bdF i) (bdL i) := fun i hi => by
  unfold closL at hi
  split at hi
  · cases hi
  · rename_i h
    rw [List.mem_singleton.1 hi]
    exact cmpB_lt (a := ⟨⟨a, 0, false⟩, false⟩) (b := ⟨⟨b, 0, false⟩, true⟩) (by omega)
structure BdK (K : Nat) (b : Bd) : Prop where
  r : b.at_.R = 0
  n : b.at_.Neg = false
  m : M b.at_.P ≤ K
theorem BdK.ok {K : Nat} {b : Bd} (h : BdK K b) (hk : K ≤ LQ) : BdOk b := ⟨h.r, h.n, Nat.le_trans h.m hk⟩
theorem BdK.iv {K : Nat} {i : R_api_Interval} (h : BdK K (bdF i)) (h' : BdK K (bdL i)) : IvOk K i := ⟨h.r, h'.r, h.n, h'.n, h.m, h'.m⟩
theorem IvOk.bd {K : Nat} {i : R_api_Interval} (h : IvOk K i) : BdK K (bdF i) ∧ BdK K (bdL i) := ⟨⟨h.r1, h.n1, h.m1⟩, ⟨h.r2, h.n2, h.m2⟩⟩
theorem closL_bd {a b : Rat} {K : Nat} (ha : M a ≤ K) (hb : M b ≤ K) : ∀ i ∈ closL a b, BdK K (bdF i) ∧ BdK K (bdL i) := fun i hi => by
  unfold closL at hi
  split at hi
  · cases hi
  · rw [List.mem_singleton.1 hi]
    exact ⟨⟨rfl, rfl, ha⟩, ⟨rfl, rfl, hb⟩⟩
/-- The instants of a moving point. -/
def pIv (l : List PU) : List R_api_Interval := mpN ivU (mpN toU l l.length) (mpN toU l l.length).length
def pDom (l : List PU) : List R_api_Interval := swpR kpU (pIv l) []
theorem pIv_eq (l : List PU) : pIv l = l.map (·.In) := by
  unfold pIv
  rw [mpN_map ivU, mpN_map toU, List.map_map]
  rfl
theorem ex_map {l : List PU} {t : Rat} : (∃ i ∈ l.map (·.In), memI i t) ↔ ∃ u ∈ l, memI u.In t := by
  constructor
  · rintro ⟨i, hi, hm⟩
    obtain ⟨u, hu, rfl⟩ := List.mem_map.1 hi
    exact ⟨u, hu, hm⟩
  · rintro ⟨u, hu, hm⟩
    exact ⟨_, List.mem_map.2 ⟨u, hu, rfl⟩, hm⟩
theorem pDom_law {K n : Nat} {l : List PU} (h : PGood K n l) : Sep (pDom l) ∧ (∀ t, (∃ i ∈ pDom l, memI i t) ↔ ∃ u ∈ l, memI u.In t) ∧ (∀ i ∈ pDom l, BdK K (bdF i) ∧ BdK K (bdL i)) ∧ ∀ i ∈ pIv l, BdK K (bdF i) ∧ BdK K (bdL i) := by
  have h1 : ∀ i ∈ l.map (·.In), bLe (bdF i) (bdL i) := fun i hi => by
    obtain ⟨u, hu, rfl⟩ := List.mem_map.1 hi
    exact okI_le (h.nf.nf.ok _ (List.mem_map.2 ⟨u, hu, rfl⟩))
  have h2 : ∀ i ∈ l.map (·.In), BdK K (bdF i) ∧ BdK K (bdL i) := fun i hi => by
    obtain ⟨u, hu, rfl⟩ := List.mem_map.1 hi
    exact (h.k u hu).i.bd
  have h0 : ∀ i ∈ ([] : List R_api_Interval), BdK K (bdF i) ∧ BdK K (bdL i) := fun i hi => (by cases hi)
  obtain ⟨e1, e2, e3⟩ := swpR_law (kp := kpU) rfl h1 (js := []) (fun i hi => (by cases hi))
  unfold pDom
  rw [pIv_eq]
  refine ⟨⟨e2, e3⟩, fun t => ?_, swpR_bd kpU h2 h0, h2⟩
  refine (e1 t).trans ?_
  unfold kpU
  simp only [Bool.or_eq_true, decide_eq_true_eq]
  rw [ex_map]
  exact ⟨fun h => h.resolve_right (fun ⟨i, hi, _⟩ => by cases hi), .inl⟩
theorem evK_len (is js : List R_api_Interval) : (evK is js 2).length = 2 * is.length + 2 * js.length := by rw [evK2, List.length_append, evA_len, evB_len]
/-- The moving point without what lies between two instants. -/
def movM (l : List PU) (a b : Rat) : List R_api_Interval := swpR kpM (pDom l) (closL a b)
def movL (l : List PU) (a b : Rat) : List PU := mpN ofU (nrmR (mRes l (movM l a b))) (nrmR (mRes l (movM l a b))).length
theorem mtO_pt {a b : R_api_Interval} (h : mtO a b = true) : ∃ t, memI a t ∧ memI b t := by
  obtain ⟨t, ht⟩ := GU.ok.pt (u := absU ⟨mt a b, ⟨0, 0, 0, 0⟩⟩) (mtO_iff.1 h)
  exact ⟨t, mt_mem.1 ht⟩
section
variable {D M : List R_api_Interval} {a b : Rat} (hM : Sep M) (hs : ∀ t, (∃ d ∈ M, memI d t) ↔ (∃ d ∈ D, memI d t) ∧ ¬ (a ≤ t ∧ t ≤ b))
include hM hs
theorem ri_few {u : UL} (hU : ∀ t, memI u.In t → ∃ d ∈ D, memI d t) : ∀ k, k ≤ M.length → (ri u M k).length ≤ 2 ∧ (0 < (ri u M k).length → ∃ j : Nat, j < k ∧ mtO u.In (gi M (j : Int)) = true) ∧ (1 < (ri u M k).length → ∃ i j : Nat, i < j ∧ j < k ∧ mtO u.In (gi M (i : Int)) = true ∧ mtO u.In (gi M (j : Int)) = true)
  | 0, _ => by simp [ri]
  | k + 1, hk => by
    obtain ⟨h1, h2, h3⟩ := ri_few hU k (by omega)
    rw [ri]
    by_cases hm : mtO u.In (gi M (k : Int)) = true
    · rw [if_pos hm]
      have hlt : (ri u M k).length < 2 := by
        rcases Nat.lt_or_ge (ri u M k).length 2 with h | h
        · exact h
        · obtain ⟨i, j, hij, hj, a1, a2⟩ := h3 (by omega)
          obtain ⟨t1, b1⟩ := mtO_pt a1
          obtain ⟨t2, b2⟩ := mtO_pt a2
          obtain ⟨t3, b3⟩ := mtO_pt hm
          exact (no_three hM hs hU hij hj (by omega) b1 b2 b3).elim
      rw [List.length_append, List.length_singleton]
      refine ⟨by omega, fun _ => ⟨k, by omega, hm⟩, fun h => ?_⟩
      obtain ⟨j, hj, a⟩ := h2 (by omega)
      exact ⟨j, k, hj, by omega, a, hm⟩
    · rw [if_neg hm, List.append_nil]
      exact ⟨h1, fun h => let ⟨j, hj, a⟩ := h2 h; ⟨j, by omega, a⟩, fun h => let ⟨i, j, hij, hj, a⟩ := h3 h; ⟨i, j, hij, by omega, a⟩⟩
theorem ro_few {us : List UL} (hU : ∀ u ∈ us, ∀ t, memI u.In t → ∃ d ∈ D, memI d t) : ∀ m, m ≤ us.length → (ro us M m).length ≤ 2 * m
  | 0, _ => by simp [ro]
  | m + 1, hm => by
    have h1 := ro_few hU m (by omega)
    have h2 := (ri_few hM hs (hU _ (gi_mem (xs := us) (i := (m : Int)) (by omega))) M.length (Nat.le_refl _)).1
    rw [ro, List.length_append]
    omega
end
structure MovOk (l : List PU) (a b : Rat) : Prop where
  l1 : 2 * (pDom l).length + 2 * (closL a b).length ≤ 12
  b1 : ∀ i ∈ pDom l, BdOk (bdF i) ∧ BdOk (bdL i)
  b2 : ∀ i ∈ closL a b, BdOk (bdF i) ∧ BdOk (bdL i)
  l2 : 2 * (pIv l).length + 2 * 0 ≤ 12
  b3 : ∀ i ∈ pIv l, BdOk (bdF i) ∧ BdOk (bdL i)
  r : ResOk l (movM l a b)
  g : PGood 276 12 (movL l a b)
theorem mov_law {c : viatorlaw15_Car} {ss : List Stp15} (h : CarOk c ss) {a b : Rat} (ha : Go.Vt.M a ≤ 68) (hb : Go.Vt.M b ≤ 68) : MovOk (carL c ss) a b := by
  obtain ⟨hg, ht⟩ := carL_good h
  obtain ⟨d1, d2, d3⟩ := djR_law (c := c) h.s
  have hn := h.n
  generalize carL c ss = l at *
  obtain ⟨p1, p2, p3, p4⟩ := pDom_law hg
  have hDl : (pDom l).length ≤ 4 := by
    have := p1.len d2 (fun t => by rw [p2 t, ht t, d3 t])
    rw [this, List.length_map]
    omega
  have hcl := closL_len a b
  have c1 := closL_bd ha hb
  obtain ⟨m1, m2, m3⟩ := swpR_law (kp := kpM) rfl (is := pDom l) (js := closL a b) (fun i hi => (p1.v i hi).le) closL_ok
  have mS : Sep (movM l a b) := ⟨m2, m3⟩
  have mH : ∀ t, (∃ d ∈ movM l a b, memI d t) ↔ (∃ d ∈ pDom l, memI d t) ∧ ¬ (a ≤ t ∧ t ≤ b) := fun t => by
    unfold movM
    refine (m1 t).trans ?_
    unfold kpM
    simp only [Bool.and_eq_true, Bool.not_eq_true', decide_eq_true_eq, decide_eq_false_iff_not]
    rw [closL_mem]
  have mB := swpR_bd (Pb := BdK 68) kpM (fun i hi => p3 i hi) c1
  have mI : ∀ d ∈ movM l a b, IvOk 68 d := fun d hd => (mB d hd).1.iv (mB d hd).2
  have mL : (movM l a b).length ≤ 12 := by
    have h1 := sws_out kpM (srtE (evK (pDom l) (closL a b) 2) ((evK (pDom l) (closL a b) 2).length - 1)) (srtE (evK (pDom l) (closL a b) 2) ((evK (pDom l) (closL a b) 2).length - 1)).length
    have h2 := (srtE_perm (evK (pDom l) (closL a b) 2)).length_eq
    have h3 := evK_len (pDom l) (closL a b)
    unfold movM swpR
    omega
  have hlK : ∀ u ∈ l.map toU, UK 68 u := fun u hu => by
    obtain ⟨w, hw, rfl⟩ := List.mem_map.1 hu
    exact hg.k w hw
  have hrU : ∀ u ∈ l.map toU, ∀ t, memI u.In t → ∃ d ∈ pDom l, memI d t := fun u hu t hm => by
    obtain ⟨w, hw, rfl⟩ := List.mem_map.1 hu
    exact (p2 t).2 ⟨w, hw, hm⟩
  have hres : mRes l (movM l a b) = ro (l.map toU) (movM l a b) (l.map toU).length := by
    unfold mRes
    rw [mpN_map toU]
  have hrl : (mRes l (movM l a b)).length ≤ 12 := by
    have := ro_few mS mH hrU (l.map toU).length (Nat.le_refl _)
    have := hg.n
    rw [hres]
    rw [List.length_map] at *
    omega
  have hrK : ∀ u ∈ mRes l (movM l a b), UK 68 u := by
    rw [hres]
    exact ro_K hlK mI
  have hok : ResOk l (movM l a b) := by
    refine ⟨by have := hg.n; omega, by omega, by omega, fun u hu => ?_, fun d hd => (mI d hd).mono (by decide), fun u hu => (hrK u hu).uin (by decide)⟩
    rw [mpN_map toU] at hu
    exact (hlK u hu).i.mono (by decide)
  refine ⟨by omega, fun i hi => ⟨(p3 i hi).1.ok (by decide), (p3 i hi).2.ok (by decide)⟩, fun i hi => ⟨(c1 i hi).1.ok (by decide), (c1 i hi).2.ok (by decide)⟩, ?_, fun i hi => ⟨(p4 i hi).1.ok (by decide), (p4 i hi).2.ok (by decide)⟩, hok, ?_⟩
  · rw [pIv_eq, List.length_map]
    have := hg.n
    omega
  · refine (good_of (K := 68) (n := 12) hrK (by decide) ?_ ?_ hrl).1
    · rw [hres]
      exact ro_ok
    · rw [hres]
      refine ro_pw ?_ ?_ _ (Nat.le_refl _)
      · rw [map_toU]
        exact hg.nf.nf.pw.imp fun h => h.bf.Dis
      · exact mS.p.imp fun {i j} hb t ht => (memI_at.1 ht.1).2 (bAt_le hb.le (memI_at.1 ht.2).1)
end Go.Vt
/- Union and difference of periods; the instants of a moving point: walked. Conditions: those that each statement names. -/
set_option linter.unusedSimpArgs false
set_option linter.unusedVariables false
set_option maxHeartbeats 2000000
set_option maxRecDepth 100000
namespace Go.Vt
open Go.RowKit Go.Proofs
instance sp_union1 (a b : Bool) : SpecC Tryz.prog 182 [.bool a, .bool b] (.bool (kpU a b)) True := ⟨fun _ w => by
  refine fn_intro Tryz.func182 rfl Tryz.ntmps182 rfl ?_
  rcases a with _ | _
  · repeat (refine wkB ?_; try intro _)
    exact jx_ret_tmp rfl rfl (fun w hw => ret_ok hw)
  · repeat (refine wkB ?_; try intro _)
    exact jx_ret_tmp rfl rfl (fun w hw => ret_ok hw)⟩
instance sp_minus1 (a b : Bool) : SpecC Tryz.prog 123 [.bool a, .bool b] (.bool (kpM a b)) True := ⟨fun _ w => by
  refine fn_intro Tryz.func123 rfl Tryz.ntmps123 rfl ?_
  rcases a with _ | _
  · repeat (refine wkB ?_; try intro _)
    exact jx_ret_tmp rfl rfl (fun w hw => ret_ok hw)
  · repeat (refine wkB ?_; try intro _)
    exact jx_ret_tmp rfl rfl (fun w hw => ret_ok hw)⟩
/-- Two periods that a sweep takes. -/
structure SwOk (is js : List R_api_Interval) : Prop where
  l : 2 * is.length + 2 * js.length ≤ 12
  a : ∀ i ∈ is, BdOk (bdF i) ∧ BdOk (bdL i)
  b : ∀ i ∈ js, BdOk (bdF i) ∧ BdOk (bdL i)
theorem union_spec (v1 v2 : Value) (is js : List R_api_Interval) (w : World) (hv1 : ArgS w v1 rI is) (hv2 : ArgS w v2 rI js) (h : SwOk is js) :
    Calls Tryz.prog 163 [v1, v2].toArray w (RetM (SlS rI 20 (swpR kpU is js)) (fun s => vSl s) (fun s => mS 32 s) w) := by
  have := ArgC.mk hv1
  have := ArgC.mk hv2
  refine fn_intro Tryz.func163 rfl Tryz.ntmps163 rfl ?_
  repeat (first | (refine wkB ?_; try intro _) | (refine sC rfl rfl ?_ ?_; focus (exact ⟨h.l, h.a, h.b⟩)) | (refine sN rfl rfl ?_ ?_; (focus (exact ⟨h.l, h.a, h.b⟩)); intro _; (try simp only [List.cons_append, List.nil_append, List.append_nil])))
  rename_i s
  exact jx_ret_tmp rfl rfl (fun w hw => ⟨s, rfl, hw.sub suB⟩)
instance sr_union (w0 : World) (L : List Blk) (v1 v2 : Value) (is js : List R_api_Interval) [h1 : LstC w0 L v1 R_api_Interval rI is] [h2 : LstC w0 L v2 R_api_Interval rI js] : SpecR Tryz.prog w0 L 163 [v1, v2] (SlS rI 20 (swpR kpU is js)) (fun s => vSl s) (fun s => mS 32 s) (SwOk is js) := ⟨fun hp w hw => union_spec v1 v2 is js w (h1.out w hw) (h2.out w hw) hp⟩
theorem minus_spec (v1 v2 : Value) (is js : List R_api_Interval) (w : World) (hv1 : ArgS w v1 rI is) (hv2 : ArgS w v2 rI js) (h : SwOk is js) :
    Calls Tryz.prog 81 [v1, v2].toArray w (RetM (SlS rI 20 (swpR kpM is js)) (fun s => vSl s) (fun s => mS 32 s) w) := by
  have := ArgC.mk hv1
  have := ArgC.mk hv2
  refine fn_intro Tryz.func81 rfl Tryz.ntmps81 rfl ?_
  repeat (first | (refine wkB ?_; try intro _) | (refine sC rfl rfl ?_ ?_; focus (exact ⟨h.l, h.a, h.b⟩)) | (refine sN rfl rfl ?_ ?_; (focus (exact ⟨h.l, h.a, h.b⟩)); intro _; (try simp only [List.cons_append, List.nil_append, List.append_nil])))
  rename_i s
  exact jx_ret_tmp rfl rfl (fun w hw => ⟨s, rfl, hw.sub suB⟩)
instance sr_minus (w0 : World) (L : List Blk) (v1 v2 : Value) (is js : List R_api_Interval) [h1 : LstC w0 L v1 R_api_Interval rI is] [h2 : LstC w0 L v2 R_api_Interval rI js] : SpecR Tryz.prog w0 L 81 [v1, v2] (SlS rI 20 (swpR kpM is js)) (fun s => vSl s) (fun s => mS 32 s) (SwOk is js) := ⟨fun hp w hw => minus_spec v1 v2 is js w (h1.out w hw) (h2.out w hw) hp⟩
theorem perN_spec (v1 : Value) (is : List R_api_Interval) (w : World) (hv1 : ArgS w v1 rI is) (h : SwOk is []) :
    Calls Tryz.prog 128 [v1].toArray w (RetM (SlS rI 20 (swpR kpU is [])) (fun s => vSl s) (fun s => mS 32 s) w) := by
  have := ArgC.mk hv1
  have hn : ∀ L, LstC w L (.slice none 0 0) R_api_Interval rI [] := fun L => ⟨fun _ _ => ⟨.inl ⟨rfl, rfl⟩⟩⟩
  refine fn_intro Tryz.func128 rfl Tryz.ntmps128 rfl ?_
  repeat (first | (refine wkB ?_; try intro _) | (refine sC rfl rfl ?_ ?_; focus (exact h)) | (refine sN rfl rfl ?_ ?_; (focus (exact h)); intro _; (try simp only [List.cons_append, List.nil_append, List.append_nil])))
  rename_i s
  exact jx_ret_tmp rfl rfl (fun w hw => ⟨s, rfl, hw.sub suB⟩)
instance sr_perN (w0 : World) (L : List Blk) (v1 : Value) (is : List R_api_Interval) [h1 : LstC w0 L v1 R_api_Interval rI is] : SpecR Tryz.prog w0 L 128 [v1] (SlS rI 20 (swpR kpU is [])) (fun s => vSl s) (fun s => mS 32 s) (SwOk is []) := ⟨fun hp w hw => perN_spec v1 is w (h1.out w hw) hp⟩
theorem pdom_spec (v : Value) (us : List UL) (w : World) (hv : ArgS w v rU us) (h : SwOk (mpN ivU us us.length) []) :
    Calls Tryz.prog 89 [v].toArray w (RetM (SlS rI 20 (swpR kpU (mpN ivU us us.length) [])) (fun s => vSl s) (fun s => mS 32 s) w) := by
  have := ArgC.mk hv
  have hl := h.l
  have hml := mpN_len ivU us us.length
  simp only [List.length_nil] at hl
  refine fn_intro Tryz.func89 rfl Tryz.ntmps89 rfl ?_
  repeat (first | (refine wkB ?_; try intro _) | (refine sC rfl rfl ?_ ?_; focus (first | exact (show us.length ≤ 1048576 by omega) | exact h)) | (refine sN rfl rfl ?_ ?_; (focus (first | exact (show us.length ≤ 1048576 by omega) | exact h)); intro _; (try simp only [List.cons_append, List.nil_append, List.append_nil])))
  rename_i s1 s2
  exact jx_ret_tmp rfl rfl (fun w hw => ⟨s2, rfl, hw.sub suB⟩)
instance sr_pdom (w0 : World) (L : List Blk) (v : Value) (us : List UL) [h : LstC w0 L v UL rU us] : SpecR Tryz.prog w0 L 89 [v] (SlS rI 20 (swpR kpU (mpN ivU us us.length) [])) (fun s => vSl s) (fun s => mS 32 s) (SwOk (mpN ivU us us.length) []) := ⟨fun hp w hw => pdom_spec v us w (h.out w hw) hp⟩
theorem mdom_spec (v : Value) (us : List PU) (w : World) (hv : ArgS w v rP us) (h : SwOk (pIv us) []) :
    Calls Tryz.prog 38 [v].toArray w (RetM (SlS rI 20 (pDom us)) (fun s => vSl s) (fun s => mS 32 s) w) := by
  have := ArgC.mk hv
  have hl := h.l
  have hml := mpN_len toU us us.length
  have hml2 := mpN_len ivU (mpN toU us us.length) (mpN toU us us.length).length
  unfold pIv at hl
  simp only [List.length_nil] at hl
  refine fn_intro Tryz.func38 rfl Tryz.ntmps38 rfl ?_
  repeat (first | (refine wkB ?_; try intro _) | (refine sC rfl rfl ?_ ?_; focus (first | exact (show us.length ≤ 1048576 by omega) | exact h)) | (refine sN rfl rfl ?_ ?_; (focus (first | exact (show us.length ≤ 1048576 by omega) | exact h)); intro _; (try simp only [List.cons_append, List.nil_append, List.append_nil])))
  rename_i s1 s2
  exact jx_ret_tmp rfl rfl (fun w hw => ⟨s2, rfl, hw.sub suB⟩)
instance sr_mdom (w0 : World) (L : List Blk) (v : Value) (us : List PU) [h : LstC w0 L v PU rP us] : SpecR Tryz.prog w0 L 38 [v] (SlS rI 20 (pDom us)) (fun s => vSl s) (fun s => mS 32 s) (SwOk (pIv us) []) := ⟨fun hp w hw => mdom_spec v us w (h.out w hw) hp⟩
end Go.Vt
/- Are instants, intervals, units valid? Walked where they are. Conditions: those that each statement names. -/
set_option linter.unusedSimpArgs false
set_option linter.unusedVariables false
set_option maxHeartbeats 2000000
set_option maxRecDepth 100000
namespace Go.Vt
open Go.RowKit Go.Proofs
theorem zero_sign : (0 : Rat).num.sign = 0 := by decide
instance sp_RealCheck0 (x : R_api_Real) : SpecC Tryz.prog 175 [vR x] (.int .i64 0) (x.R = 0 ∧ x.Neg = false ∧ M x.P ≤ LQ) := ⟨fun hp w => by
  obtain ⟨p, r, n⟩ := x
  obtain ⟨h1, h2, h3⟩ := hp
  simp only at h1 h2 h3
  subst h1
  subst h2
  have h0 : M 0 ≤ LQ := by decide
  refine fn_intro Tryz.func175 rfl Tryz.ntmps175 rfl ?_
  repeat (refine wkB ?_; try intro _)
  simp only [zero_sign]
  repeat (refine wkB ?_; try intro _)
  exact jx_ret_tmp rfl rfl (fun w hw => ret_ok hw)⟩
instance sp_CheckIv (i : R_api_Interval) : SpecC Tryz.prog 153 [vIv i] (.int .i64 0) (IvOk LQ i ∧ okI i) := ⟨fun hp w => by
  obtain ⟨h1, h2⟩ := hp
  have hlt := okI_bd.1 h2
  have hn : ¬ 0 ≤ cmpB (bdF i) (bdL i) := fun h => (bLt_le.1 hlt) (cmpB_ge (by omega))
  refine fn_intro Tryz.func153 rfl Tryz.ntmps153 rfl ?_
  repeat (first | (refine wkB ?_; try intro _) | (refine sC rfl rfl ?_ ?_; focus (first | exact ⟨h1.r1, h1.n1, h1.m1⟩ | exact ⟨h1.r2, h1.n2, h1.m2⟩)) | (refine sN rfl rfl ?_ ?_; (focus (first | exact ⟨h1.r1, h1.n1, h1.m1⟩ | exact ⟨h1.r2, h1.n2, h1.m2⟩)); intro _; (try simp only [List.cons_append, List.nil_append, List.append_nil])))
  (refine jD 6 6 (h := ?_); (repeat (first | refine wkH ?_ | (refine tC rfl rfl ?_ ?_; focus (first | exact trivial | exact ⟨⟨h1.r1, h1.n1, h1.m1⟩, ⟨h1.r2, h1.n2, h1.m2⟩⟩)))); refine jh_nil ?_; (repeat (refine wn_new ?_; intro _)); refine jn_nil ?_)
  simp only [decide_eq_false hn]
  repeat (refine wkB ?_; try intro _)
  exact jx_ret_tmp rfl rfl (fun w hw => ret_ok hw)⟩
abbrev ln4 (f : R_api_Line) : Nat → Rat
  | 0 => f.X0
  | 1 => f.X1
  | 2 => f.Y0
  | _ => f.Y1
abbrev e4Q (f : R_api_Line) : Array Value := e_api_Line (q_api_Line f)
instance bd_four (a b c d : Rat) : BdC Tryz.prog 331 [(0, vQ a), (1, vQ b), (2, vQ c), (3, vQ d)] (.agg (e4Q ⟨a, b, c, d⟩)) := ⟨fun w => by kernel_rfl⟩
theorem run_index4 (f : R_api_Line) (w : World) : ∀ m : Nat, m < 4 → (Instr.index 331 (.agg (e4Q f)) (.int .i64 (m : Int))).run Tryz.prog w = .ok (vQ (ln4 f m)) w
  | 0, _ => by kernel_rfl
  | 1, _ => by kernel_rfl
  | 2, _ => by kernel_rfl
  | 3, _ => by kernel_rfl
  | m + 4, h => by omega
theorem lcheck_spec (f : R_api_Line) (z : Array Value) (w : World) (h : LnOk LQ f) : Calls Tryz.prog 257 [.agg z, vLn f].toArray w (Ret (.int .i64 0) w) := by
  obtain ⟨h1, h2, h3, h4⟩ := h
  refine fn_intro Tryz.func257 rfl Tryz.ntmps257 rfl ?_
  repeat (refine wkB ?_; try intro _)
  rename_i b3 b2
  refine j_loop (S := Nat) (fun m => m ≤ 4) (fun m => [(16, .agg (e4Q f)), (17, .int .i64 (m : Nat))]) (fun _ => []) (fun m => 4 - m) 0 (by omega) sbB slB (fun m hm => ?_)
  repeat (refine wkB ?_; try intro _)
  refine j_cond rfl (fun h => ?_) (fun h => ?_)
  · have hlt : m < 4 := by have := of_decide_eq_true h; omega
    have hM : M (ln4 f m) ≤ LQ := by
      rcases (by omega : m = 0 ∨ m = 1 ∨ m = 2 ∨ m = 3) with rfl | rfl | rfl | rfl
      · exact h1
      · exact h2
      · exact h3
      · exact h4
    have : ∀ (L : List Blk) (E : Env) [IsC (evl E (.tmp 16)) (.agg (e4Q f))] [IsC (evl E (.tmp 17)) (.int .i64 (m : Int))], YlC Tryz.prog w 26 L E (.index 331 (.tmp 16) (.tmp 17)) (vQ (ln4 f m)) := fun L E _ _ => ⟨fun _ _ _ _ _ => yl_index isE isE fun w => run_index4 f w m hlt⟩
    repeat (first | (refine wkB ?_; try intro _) | (refine sC rfl rfl ?_ ?_; focus (exact hM)) | (refine sN rfl rfl ?_ ?_; (focus (exact hM)); intro _; (try simp only [List.cons_append, List.nil_append, List.append_nil])))
    exact jx_loop (m + 1) hlt sbB slB (by omega)
  · repeat (refine wkB ?_; try intro _)
    exact jx_ret_tmp rfl rfl (fun w hw => ret_ok hw)
instance sp_LCheck (f : R_api_Line) (z : Array Value) : SpecC Tryz.prog 257 [.agg z, vLn f] (.int .i64 0) (LnOk LQ f) := ⟨fun h w => lcheck_spec f z w h⟩
instance meth_Check : MethC Tryz.prog 152 (.agg #[]) "Check" 257 (.agg #[]) := ⟨fun w => by kernel_rfl⟩
instance ld_rules : LdC Tryz.prog 190 #[vLines] 0 vLines := ⟨ldv_one (by kernel_rfl) rfl⟩
instance al_boxL {E : Env} {T : TypeId} {x : Operand} {d : TypeId} {v : Value} [h : IsC (evl E x) (.iface d v)] : AlC Tryz.prog E (.box T x) #[.iface d v] T := ⟨fun hg hd h => jo_box isE hg hd h⟩
theorem eq1_spec (x y : UL) (b : Nat) (w : World) (hb : ∃ T fz, w.heap[b]? = some (.cells #[vLines] T fz)) : Calls Tryz.prog 177 [vUL x, vUL y, .pointer (some ⟨b, 0, none⟩)].toArray w (Ret (.bool (decide (x = y))) w) := by
  obtain ⟨T, hb⟩ := hb
  have := FoC.mk hb
  refine fn_intro Tryz.func177 rfl Tryz.ntmps177 rfl ?_
  repeat (refine wkB ?_; try intro _)
  by_cases h : x.In = y.In
  · simp only [decide_eq_true h]
    repeat (refine wkB ?_; try intro _)
    have e : decide (x.F = y.F) = decide (x = y) := by
      rw [decide_eq_decide]
      obtain ⟨I, F⟩ := x
      obtain ⟨I', F'⟩ := y
      simp only at h
      subst h
      simp
    rw [e]
    exact jx_ret_tmp rfl rfl (fun w hw => ret_ok hw)
  · simp only [decide_eq_false h]
    repeat (refine wkB ?_; try intro _)
    rw [decide_eq_false (show ¬ x = y from fun e => h (by rw [e]))]
    exact jx_ret_tmp rfl rfl (fun w hw => ret_ok hw)
instance sm_eq1 (w0 : World) (L : List Blk) (x y : UL) (b : Nat) (T : TypeId) [h : AtC w0 L b #[vLines] T] : SpecM Tryz.prog w0 L 177 [vUL x, vUL y, .pointer (some ⟨b, 0, none⟩)] (.bool (decide (x = y))) True := ⟨fun _ w hw => eq1_spec x y b w ⟨T, h.out w hw⟩⟩
theorem eqf_spec (v1 v2 : Value) (us : List UL) (b : Nat) (w : World) (h1 : ArgS w v1 rU us) (h2 : ArgS w v2 rU us) (hb : ∃ T fz, w.heap[b]? = some (.cells #[vLines] T fz)) (hl : us.length ≤ 1048576) :
    Calls Tryz.prog 176 [v1, v2, .func (.func 177) #[] [.pointer (some ⟨b, 0, none⟩)].toArray].toArray w (Ret (.bool true) w) := by
  obtain ⟨T, hb⟩ := hb
  have := FoC.mk hb
  refine fn_intro Tryz.func176 rfl Tryz.ntmps176 rfl ?_
  obtain ⟨p1, c1, rfl⟩ := h1.form
  obtain ⟨p2, c2, rfl⟩ := h2.form
  repeat (refine wkB ?_; try intro _)
  simp only [decide_eq_true (rfl : (us.length : Int) = (us.length : Int)), Bool.not_true]
  repeat (refine wkB ?_; try intro _)
  refine j_loop (S := Nat) (fun m => m ≤ us.length) (fun m => [(1, .slice p2 us.length c2), (2, .func (.func 177) #[] [.pointer (some ⟨b, 0, none⟩)].toArray), (15, .slice p1 us.length c1), (16, .int .i64 us.length), (17, .int .i64 (m : Nat))]) (fun _ => []) (fun m => us.length - m) 0 (Nat.zero_le _) sbB slB (fun m hm => ?_)
  repeat (refine wkB ?_; try intro _)
  refine j_cond rfl (fun h => ?_) (fun h => ?_)
  · have hlt : m < us.length := by have := of_decide_eq_true h; omega
    have hne : us ≠ [] := fun h0 => by rw [h0] at hlt; simp at hlt
    obtain ⟨b1, o1, c1', hv1, hc1, hr1⟩ := h1.blk (k := 35) hne []
    injection hv1 with e1 e2 e3
    subst e1
    subst e3
    obtain ⟨b2, o2, c2', hv2, hc2, hr2⟩ := h2.blk (k := 35) hne []
    injection hv2 with e1 e2 e3
    subst e1
    subst e3
    have hr1' : ∀ L, RowC w L b1 o1 UL rU us := fun L => ⟨fun w' hw' => hr1.out w' (hw'.sub (List.nil_sublist _))⟩
    have hr2' : ∀ L, RowC w L b2 o2 UL rU us := fun L => ⟨fun w' hw' => hr2.out w' (hw'.sub (List.nil_sublist _))⟩
    repeat (refine wkB ?_; try intro _)
    simp only [decide_eq_true (rfl : gi us (m : Int) = gi us (m : Int)), Bool.not_true]
    repeat (refine wkB ?_; try intro _)
    exact jx_loop (m + 1) hlt sbB slB (by omega)
  · repeat (refine wkB ?_; try intro _)
    exact jx_ret_tmp rfl rfl (fun w hw => ret_ok hw)
instance sm_eqf (w0 : World) (L : List Blk) (v1 v2 : Value) (us : List UL) (b : Nat) (T : TypeId) [h1 : LstC w0 L v1 UL rU us] [h2 : LstC w0 L v2 UL rU us] [h : AtC w0 L b #[vLines] T] : SpecM Tryz.prog w0 L 176 [v1, v2, .func (.func 177) #[] [.pointer (some ⟨b, 0, none⟩)].toArray] (.bool true) (us.length ≤ 1048576) := ⟨fun hp w hw => eqf_spec v1 v2 us b w (h1.out w hw) (h2.out w hw) ⟨T, h.out w hw⟩ hp⟩
theorem peq_spec (v1 v2 : Value) (us : List UL) (w : World) (h1 : ArgS w v1 rU us) (h2 : ArgS w v2 rU us) (hl : us.length ≤ 1048576) :
    Calls Tryz.prog 154 [vLines, v1, v2].toArray w (Ret (.bool true) w) := by
  have := ArgC.mk h1
  have := ArgC.mk h2
  refine fn_intro Tryz.func154 rfl Tryz.ntmps154 rfl ?_
  repeat (first | (refine wkB ?_; try intro _) | (refine sC rfl rfl ?_ ?_; focus (exact hl)) | (refine sN rfl rfl ?_ ?_; (focus (exact hl)); intro _; (try simp only [List.cons_append, List.nil_append, List.append_nil])))
  exact jx_ret_tmp rfl rfl (fun w hw => ret_ok hw)
instance sm_peq (w0 : World) (L : List Blk) (v1 v2 : Value) (us : List UL) [h1 : LstC w0 L v1 UL rU us] [h2 : LstC w0 L v2 UL rU us] : SpecM Tryz.prog w0 L 154 [vLines, v1, v2] (.bool true) (us.length ≤ 1048576) := ⟨fun hp w hw => peq_spec v1 v2 us w (h1.out w hw) (h2.out w hw) hp⟩
/-- A moving point in normal form is its own normal form. -/
theorem nrm_same {us : List UL} (h : NF (us.map absU)) (hk : ∀ u ∈ us, UIn u) : nrmR us = us ∧ nrmE us = 0 ∧ ∀ i, i + 1 < us.length → aprt (gi us (i : Int)).In (gi us ((i + 1 : Nat) : Int)).In = true := by
  have hd : (us.map absU).Pairwise Dis := h.pw.imp fun h => h.bf.Dis
  have hv : UVal us := ⟨hk, fun u hu => h.ok _ (List.mem_map.2 ⟨u, hu, rfl⟩)⟩
  obtain ⟨h1, h2⟩ := nrm_nf hv hd
  refine ⟨absL_inj (fun u hu => (nrmR_ok hk u hu).i) (fun u hu => (hk u hu).i) (NF.uniq h1 h h2), (nrmE_0 hv).2 hd, fun i hi => ?_⟩
  exact aprt_iff.2 (nf_le h (i := i) (j := i + 1) (by omega) hi)
theorem pcheck_spec (v : Value) (us : List UL) (w : World) (hv : ArgS w v rU us) (hnil : us = [] → v = .slice none 0 0) (h : NF (us.map absU)) (hk : ∀ u ∈ us, UIn u) (hl : us.length ≤ 19) :
    Calls Tryz.prog 114 [vLines, v].toArray w (Ret (.int .i64 0) w) := by
  obtain ⟨n1, n2, n3⟩ := nrm_same h hk
  have := ArgC.mk hv
  obtain ⟨p, cp, rfl⟩ := hv.form
  have : ∀ L, LstN w L (.slice p us.length cp) UL rU us := fun L => ⟨fun w' hw' => hv.to hw'.ext, hnil⟩
  refine fn_intro Tryz.func114 rfl Tryz.ntmps114 rfl ?_
  repeat (refine wkB ?_; try intro _)
  simp only [decide_eq_false (show ¬ (256 : Int) < us.length by omega)]
  repeat (refine wkB ?_; try intro _)
  refine j_loop (S := Nat) (fun m => m ≤ us.length) (fun m => [(0, vLines), (1, .slice p us.length cp), (14, .slice p us.length cp), (15, .int .i64 us.length), (16, .int .i64 (m : Nat))]) (fun _ => []) (fun m => us.length - m) 0 (Nat.zero_le _) sbB slB (fun m hm => ?_)
  repeat (refine wkB ?_; try intro _)
  refine j_cond rfl (fun hc => ?_) (fun hc => ?_)
  · have hlt : m < us.length := by have := of_decide_eq_true hc; omega
    have hne : us ≠ [] := fun h0 => by rw [h0] at hlt; simp at hlt
    obtain ⟨b1, o1, c1', hv1, hc1, hr1⟩ := hv.blk (k := 35) hne []
    injection hv1 with e1 e2 e3
    subst e1
    subst e3
    have hr1' : ∀ L, RowC w L b1 o1 UL rU us := fun L => ⟨fun w' hw' => hr1.out w' (hw'.sub (List.nil_sublist _))⟩
    have hu := hk _ (gi_mem (i := (m : Int)) (xs := us) (by omega))
    have ho := h.ok _ (List.mem_map.2 ⟨_, gi_mem (i := (m : Int)) (xs := us) (by omega), rfl⟩)
    have p1 : IvOk LQ (gi us (m : Int)).In ∧ okI (gi us (m : Int)).In := ⟨hu.i.mono (by decide), ho⟩
    have p2 : LnOk LQ (gi us (m : Int)).F := hu.f.mono (by decide)
    repeat (first | (refine wkB ?_; try intro _) | (refine sC rfl rfl ?_ ?_; focus (first | exact p1 | exact p2)) | (refine sN rfl rfl ?_ ?_; (focus (first | exact p1 | exact p2)); intro _; (try simp only [List.cons_append, List.nil_append, List.append_nil])))
    rename_i b6
    rcases Nat.eq_zero_or_pos m with h0 | h0
    · subst h0
      refine jD 14 14 (h := ?_)
      (repeat (refine wkH ?_))
      simp only [decide_eq_false (show ¬ (0 : Int) < ((0 : Nat) : Int) by decide)]
      (repeat (refine wkH ?_))
      refine jh_nil ?_
      refine jn_nil ?_
      repeat (refine wkB ?_; try intro _)
      exact jx_loop 1 hlt sbB slB (by omega)
    · have hu0 := hk _ (gi_mem (i := (m : Int) - 1) (xs := us) (by omega))
      have ha : aprt (gi us ((m : Int) - 1)).In (gi us (m : Int)).In = true := by
        have := n3 (m - 1) (by omega)
        rw [show ((m - 1 : Nat) : Int) = (m : Int) - 1 by omega, show ((m - 1 + 1 : Nat) : Int) = (m : Int) by omega] at this
        exact this
      refine jD 14 14 (h := ?_)
      (repeat (refine wkH ?_))
      simp only [decide_eq_true (show (0 : Int) < (m : Int) by omega)]
      (repeat (first | refine wkH ?_ | (refine tC rfl rfl ?_ ?_; focus (exact ⟨⟨hu0.i.r2, hu.i.r1⟩, Nat.le_trans hu0.i.m2 (by decide), Nat.le_trans hu.i.m1 (by decide)⟩))))
      simp only [ha, Bool.not_true]
      (repeat (refine wkH ?_))
      refine jh_nil ?_
      refine jn_nil ?_
      repeat (refine wkB ?_; try intro _)
      exact jx_loop (m + 1) hlt sbB slB (by omega)
  · repeat (first | (refine wkB ?_; try intro _) | (refine sC rfl rfl ?_ ?_; focus (first | exact ⟨hl, hk⟩)) | (refine sN rfl rfl ?_ ?_; (focus (first | exact ⟨hl, hk⟩)); intro _; (try simp only [List.cons_append, List.nil_append, List.append_nil])))
    rename_i s
    obtain ⟨s', e1, e2⟩ := SlS.turn 163 n1 s
    simp only [← e1, ← e2, n2, decide_eq_true (rfl : (0 : Int) = 0), Bool.not_true]
    repeat (first | (refine wkB ?_; try intro _) | (refine sC rfl rfl ?_ ?_; focus (exact (show us.length ≤ 1048576 by omega))) | (refine sN rfl rfl ?_ ?_; (focus (exact (show us.length ≤ 1048576 by omega))); intro _; (try simp only [List.cons_append, List.nil_append, List.append_nil])))
    exact jx_ret_tmp rfl rfl (fun w hw => ret_ok hw)
instance sm_pcheck (w0 : World) (L : List Blk) (v : Value) (us : List UL) [h : LstN w0 L v UL rU us] : SpecM Tryz.prog w0 L 114 [vLines, v] (.int .i64 0) (NF (us.map absU) ∧ (∀ u ∈ us, UIn u) ∧ us.length ≤ 19) := ⟨fun hp w hw => pcheck_spec v us w (h.out w hw) h.nil hp.1 hp.2.1 hp.2.2⟩
/-- A moving point in normal form, short enough. -/
structure PFine (us : List PU) : Prop where
  nf : NF (us.map absP)
  k : ∀ u ∈ us, UIn (toU u)
  l : us.length ≤ 19
theorem mcheck_spec (v : Value) (us : List PU) (w : World) (hv : ArgS w v rP us) (h : PFine us) : Calls Tryz.prog 73 [v].toArray w (Ret (.int .i64 0) w) := by
  have hl := h.l
  have hml := mpN_map toU us
  have p1 : NF ((mpN toU us us.length).map absU) ∧ (∀ u ∈ mpN toU us us.length, UIn u) ∧ (mpN toU us us.length).length ≤ 19 := by
    rw [hml, map_toU, List.length_map]
    refine ⟨h.nf, fun u hu => ?_, hl⟩
    obtain ⟨x, hx, rfl⟩ := List.mem_map.1 hu
    exact h.k x hx
  have := ArgC.mk hv
  refine fn_intro Tryz.func73 rfl Tryz.ntmps73 rfl ?_
  repeat (first | (refine wkB ?_; try intro _) | (refine sC rfl rfl ?_ ?_; focus (first | exact trivial | exact (show us.length ≤ 1048576 by omega) | exact p1)) | (refine sN rfl rfl ?_ ?_; (focus (first | exact trivial | exact (show us.length ≤ 1048576 by omega) | exact p1)); intro _; (try simp only [List.cons_append, List.nil_append, List.append_nil])))
  exact jx_ret_tmp rfl rfl (fun w hw => ret_ok hw)
instance sm_mcheck (w0 : World) (L : List Blk) (v : Value) (us : List PU) [h : LstC w0 L v PU rP us] : SpecM Tryz.prog w0 L 73 [v] (.int .i64 0) (PFine us) := ⟨fun hp w hw => mcheck_spec v us w (h.out w hw) hp⟩
set_option maxHeartbeats 2000000 in
theorem scheck_spec (v : Value) (us : List PU) (w : World) (hv : ArgS w v rP us) (h : PFine us) : Calls Tryz.prog 31 [v].toArray w (Ret (.int .i64 0) w) := by
  have hl := h.l
  have := ArgC.mk hv
  obtain ⟨p, cp, rfl⟩ := hv.form
  refine fn_intro Tryz.func31 rfl Tryz.ntmps31 rfl ?_
  repeat (first | (refine wkB ?_; try intro _) | (refine sC rfl rfl ?_ ?_; focus (exact h)) | (refine sN rfl rfl ?_ ?_; (focus (exact h)); intro _; (try simp only [List.cons_append, List.nil_append, List.append_nil])))
  simp only [decide_eq_true (rfl : (0 : Int) = 0), Bool.not_true]
  repeat (refine wkB ?_; try intro _)
  refine j_loop (S := Nat) (fun m => m ≤ us.length) (fun m => [(15, .slice p us.length cp), (16, .int .i64 us.length), (17, .int .i64 (m : Nat))]) (fun _ => []) (fun m => us.length - m) 0 (Nat.zero_le _) sbB slB (fun m hm => ?_)
  repeat (refine wkB ?_; try intro _)
  refine j_cond rfl (fun hc => ?_) (fun hc => ?_)
  · have hlt : m < us.length := by have := of_decide_eq_true hc; omega
    have hne : us ≠ [] := fun h0 => by rw [h0] at hlt; simp at hlt
    obtain ⟨b1, o1, c1', hv1, hc1, hr1⟩ := hv.blk (k := 35) hne []
    injection hv1 with e1 e2 e3
    subst e1
    subst e3
    have hr1' : ∀ L, RowC w L b1 o1 PU rP us := fun L => ⟨fun w' hw' => hr1.out w' (hw'.sub (List.nil_sublist _))⟩
    have hu := (h.k _ (gi_mem (i := (m : Int)) (xs := us) (by omega))).i
    have q1 : decide ((gi us (m : Int)).In.From.R = 0) = true := decide_eq_true hu.r1
    have q2 : decide ((gi us (m : Int)).In.To.R = 0) = true := decide_eq_true hu.r2
    repeat (refine wkB ?_; try intro _)
    simp only [q1, q2, Bool.not_true]
    repeat (refine wkB ?_; try intro _)
    exact jx_loop (m + 1) hlt sbB slB (by omega)
  · repeat (refine wkB ?_; try intro _)
    exact jx_ret_tmp rfl rfl (fun w hw => ret_ok hw)
instance sm_scheck (w0 : World) (L : List Blk) (v : Value) (us : List PU) [h : LstC w0 L v PU rP us] : SpecM Tryz.prog w0 L 31 [v] (.int .i64 0) (PFine us) := ⟨fun hp w hw => scheck_spec v us w (h.out w hw) hp⟩
end Go.Vt
/- The moving point of a car without a part, walked. Conditions: those that each statement names. -/
set_option linter.unusedSimpArgs false
set_option linter.unusedVariables false
set_option maxHeartbeats 2000000
set_option maxRecDepth 100000
namespace Go.Vt
open Go.RowKit Go.Proofs
/-- Two small numbers. -/
abbrev e2C (a b : Int) : Array Value := row (eI .u8) [a, b] []
instance (priority := high) ys_e2C {w0 : World} {n : Nat} {L : List Blk} {E : Env} {T T0 : TypeId} {x : Operand} {b : Nat} {i a1 a2 : Int} [IsC (evl E x) (.pointer (some ⟨b, 0 + i.toNat * 1, none⟩))] [h : AtC w0 L b (row (eI .u8) [a1, a2] []) T0] [hv : LdC Tryz.prog T (eI .u8 (gi [a1, a2] i)) 0 (.int .u8 (gi [a1, a2] i))] : YsC Tryz.prog w0 n L E (.load T x) (.int .u8 (gi [a1, a2] i)) (0 ≤ i ∧ i < 2) := ⟨fun hi => ys_row0.out (by show i.toNat < 2; omega)⟩
/-- A car that came in. -/
structure CarIn (w : World) (c : viatorlaw15_Car) (ss : List Stp15) : Prop where
  t : (0 ≤ c.Time ∧ c.Time ≤ 255) ∧ (0 ≤ c.X ∧ c.X ≤ 255) ∧ (0 ≤ c.Y ∧ c.Y ≤ 255)
  v : ArgS w (.slice c.Steps.a c.Steps.len c.Steps.cap) e_viatorlaw15_Step ss
  l : c.Steps.len = ss.length
  s : ∀ s ∈ ss, StOk s
theorem CarIn.ok {w : World} {c : viatorlaw15_Car} {ss : List Stp15} (h : CarIn w c ss) (h6 : ss.length ≤ 6) : CarOk c ss := ⟨⟨h.t.1.1, h.t.2.1.1, h.t.2.2.1⟩, h.s, h6⟩
class CarC (w0 : World) (c : viatorlaw15_Car) (ss : outParam (List Stp15)) : Prop where
  out : CarIn w0 c ss
instance sr_trajec (w0 : World) (L : List Blk) (c : viatorlaw15_Car) (ss : List Stp15) [h : CarC w0 c ss] : SpecR Tryz.prog w0 L 80 [.agg (e_viatorlaw15_Car c)] (SlS rP 36 (carL c ss)) (fun s => vSl s) (fun s => mS 68 s) (ss.length ≤ 6) := ⟨fun h6 w hw => trajec_spec c ss w h.out.t (h.out.v.to hw.ext) h.out.l h6 h.out.s⟩
instance sp_short (c : viatorlaw15_Car) : SpecC Tryz.prog 32 [.agg (e_viatorlaw15_Car c)] (.bool (decide ((c.Steps.len : Int) ≤ 6))) True := ⟨fun _ w => by
  refine fn_intro Tryz.func32 rfl Tryz.ntmps32 rfl ?_
  repeat (refine wkB ?_; try intro _)
  exact jx_ret_tmp rfl rfl (fun w hw => ret_ok hw)⟩
/-- The moving point. -/
def mvL (c : viatorlaw15_Car) (ss : List Stp15) (a1 a2 : Int) : List PU := if a1 % 3 = 0 then carL c ss else movL (carL c ss) (Rat.divInt a1 4) (Rat.divInt (a1 + a2) 4)
theorem quarter_M {n : Int} (h : 0 ≤ n ∧ n ≤ 510) : M (Rat.divInt n 4) ≤ 68 := M_divInt (Nat.le_trans (mg_small (k := 2) (by omega)) (by decide)) (by decide) (by decide)
theorem MovOk.s1 {l : List PU} {a b : Rat} (hm : MovOk l a b) : SwOk (pIv l) [] := ⟨hm.l2, hm.b3, fun i hi => (by cases hi)⟩
theorem MovOk.s2 {l : List PU} {a b : Rat} (hm : MovOk l a b) : SwOk (pDom l) (closL a b) := ⟨hm.l1, hm.b1, hm.b2⟩
theorem MovOk.s3 {l : List PU} {a b : Rat} (hm : MovOk l a b) : ResOk l (swpR kpM (pDom l) (closL a b)) := hm.r
theorem pq {a b : Rat} (m1 : M a ≤ 68) (m2 : M b ≤ 68) : M a ≤ LQ ∧ M b ≤ LQ := ⟨Nat.le_trans m1 (by decide), Nat.le_trans m2 (by decide)⟩
set_option maxHeartbeats 2000000 in
theorem moving_spec (c : viatorlaw15_Car) (ss : List Stp15) (a1 a2 : Int) (w : World) (g1 : 0 ≤ a1 ∧ a1 ≤ 255) (g2 : 0 ≤ a2 ∧ a2 ≤ 255) (hc : CarIn w c ss) (h6 : ss.length ≤ 6) :
    Calls Tryz.prog 33 [.agg (e_viatorlaw15_Car c), .agg (e2C a1 a2)].toArray w (RetM (SlS rP 36 (mvL c ss a1 a2)) (fun s => vSl s) (fun s => mS 68 s) w) := by
  have : CarC w c ss := ⟨hc⟩
  have hm := mov_law (hc.ok h6) (quarter_M (n := a1) (by omega)) (quarter_M (n := a1 + a2) (by omega))
  refine fn_intro Tryz.func33 rfl Tryz.ntmps33 rfl ?_
  have q0 : gi [a1, a2] 0 = a1 := rfl
  have q1 : gi [a1, a2] 1 = a2 := rfl
  repeat (first | (refine wkB ?_; try intro _) | (refine sC rfl rfl ?_ ?_; focus (exact h6)) | (refine sN rfl rfl ?_ ?_; (focus (exact h6)); intro _; (try simp only [List.cons_append, List.nil_append, List.append_nil])))
  simp only [q0]
  repeat (refine wkB ?_; try intro _)
  rename_i b2 b3 s
  by_cases h3 : a1 % 3 = 0
  · simp only [decide_eq_true h3]
    repeat (refine wkB ?_; try intro _)
    obtain ⟨s', e1, e2⟩ := SlS.turn 68 (show carL c ss = mvL c ss a1 a2 from (if_pos h3).symm) s
    simp only [← e1, ← e2]
    exact jx_ret_tmp rfl rfl (fun w hw => ⟨s', rfl, hw.sub suB⟩)
  · simp only [decide_eq_false h3]
    have m1 := quarter_M (n := a1) (by omega)
    have m2 := quarter_M (n := a1 + a2) (by omega)
    repeat (first | (refine wkB ?_; try intro _) | (refine sC rfl rfl ?_ ?_; focus (exact ⟨by omega, by omega⟩)) | (refine sN rfl rfl ?_ ?_; (focus (exact ⟨by omega, by omega⟩)); intro _; (try simp only [List.cons_append, List.nil_append, List.append_nil])))
    simp only [q0]
    repeat (first | (refine wkB ?_; try intro _) | (refine sC rfl rfl ?_ ?_; focus (exact ⟨by omega, by omega⟩)) | (refine sN rfl rfl ?_ ?_; (focus (exact ⟨by omega, by omega⟩)); intro _; (try simp only [List.cons_append, List.nil_append, List.append_nil])))
    simp only [q0, q1]
    repeat (first | (refine wkB ?_; try intro _) | (refine sC rfl rfl ?_ ?_; focus (exact ⟨by omega, by omega⟩)) | (refine sN rfl rfl ?_ ?_; (focus (exact ⟨by omega, by omega⟩)); intro _; (try simp only [List.cons_append, List.nil_append, List.append_nil])))
    rename_i b6 b8
    (refine j_tree (.v [0, 1, 3, 4] (.e1 2 (.e1 5 (.e1 6 (.e1 7 (.e1 8 (.fin))))))) ([⟨b8, e_api_Rat (Q (Rat.divInt (a1 + a2) 4)), 28⟩, ⟨b6, e_api_Rat (Q (Rat.divInt a1 4)), 28⟩]) (h := ?_); refine wkX ?_)
    (repeat (refine wkH ?_))
    repeat (first | (refine wkT ?_; try intro _) | (refine tC rfl rfl ?_ ?_; focus (first | with_reducible exact hm.s1 | with_reducible exact hm.s2 | with_reducible exact hm.s3 | with_reducible exact pq m1 m2)) | (refine uC rfl rfl ?_ ?_; focus (first | with_reducible exact hm.s1 | with_reducible exact hm.s2 | with_reducible exact hm.s3 | with_reducible exact pq m1 m2)) | (refine eN rfl rfl ?_ ?_; (focus (first | with_reducible exact hm.s1 | with_reducible exact hm.s2 | with_reducible exact hm.s3 | with_reducible exact pq m1 m2)); intro _; (try simp only [List.cons_append, List.nil_append, List.append_nil])))
    repeat (refine wkB ?_; try intro _)
    rename_i s5 s6 s7 s8
    have hml : mpN ofU (nrmR (mRes (carL c ss) (swpR kpM (pDom (carL c ss)) (closL (Rat.divInt a1 4) (Rat.divInt (a1 + a2) 4))))) (nrmR (mRes (carL c ss) (swpR kpM (pDom (carL c ss)) (closL (Rat.divInt a1 4) (Rat.divInt (a1 + a2) 4))))).length = mvL c ss a1 a2 := (if_neg h3).symm
    obtain ⟨s', e1, e2⟩ := SlS.turn 68 hml s8
    simp only [← e1, ← e2]
    clear hml e1 e2
    exact jx_ret_tmp rfl rfl (fun w hw => ⟨s', rfl, hw.sub suB⟩)
instance sr_moving (w0 : World) (L : List Blk) (c : viatorlaw15_Car) (ss : List Stp15) (a1 a2 : Int) [h : CarC w0 c ss] : SpecR Tryz.prog w0 L 33 [.agg (e_viatorlaw15_Car c), .agg (e2C a1 a2)] (SlS rP 36 (mvL c ss a1 a2)) (fun s => vSl s) (fun s => mS 68 s) ((0 ≤ a1 ∧ a1 ≤ 255) ∧ (0 ≤ a2 ∧ a2 ≤ 255) ∧ ss.length ≤ 6) := ⟨fun hp w hw => moving_spec c ss a1 a2 w hp.1 hp.2.1 ⟨h.out.t, h.out.v.to hw.ext, h.out.l, h.out.s⟩ hp.2.2⟩
/-- What is known of it. -/
theorem mvL_good {c : viatorlaw15_Car} {ss : List Stp15} {a1 a2 : Int} (h : CarOk c ss) (g1 : 0 ≤ a1 ∧ a1 ≤ 255) (g2 : 0 ≤ a2 ∧ a2 ≤ 255) : PGood 276 12 (mvL c ss a1 a2) := by
  unfold mvL
  split
  · obtain ⟨⟨h1, h2, h3⟩, -⟩ := carL_good h
    exact ⟨h1, fun u hu => (h2 u hu).mono (by decide), by omega⟩
  · exact (mov_law h (quarter_M (n := a1) (by omega)) (quarter_M (n := a1 + a2) (by omega))).g
end Go.Vt
/- What the rows over cars share: the reading of a car and of two small numbers. Conditions: none. -/
set_option linter.unusedSimpArgs false
set_option linter.unusedVariables false
set_option maxHeartbeats 2000000
namespace Go.Proofs.YtgcjapcminakdaaGreatDoor
open Go.ChangeShapes Go.WideShapes Go.ChangeAt Go.RowKit Go.Deep Go.Vt
set_option maxRecDepth 100000
theorem bunder58 : Tryz.prog.underlying 58 = some (.array 2 5) := by kernel_rfl
theorem runder76 : Tryz.prog.underlying 76 = some (.slice 174) := by kernel_rfl
theorem rcells174 : Tryz.prog.cellsOf 174 = 4 := by kernel_rfl
theorem rcells76 : Tryz.prog.cellsOf 76 = 1 := by kernel_rfl
theorem runder174 : ∃ f0 f1 f2 f3, Tryz.prog.underlying 174 = some (.struct #[f0, f1, f2, f3]) ∧ f0.type = 5 ∧ f1.type = 5 ∧ f2.type = 5 ∧ f3.type = 5 ∧ f0.offset = 0 ∧ f1.offset = 1 ∧ f2.offset = 2 ∧ f3.offset = 3 := ⟨_, _, _, _, Tryz.underlying174, rfl, rfl, rfl, rfl, rfl, rfl, rfl, rfl⟩
theorem runder78 : ∃ f0 f1 f2 f3, Tryz.prog.underlying 78 = some (.struct #[f0, f1, f2, f3]) ∧ f0.type = 5 ∧ f1.type = 5 ∧ f2.type = 5 ∧ f3.type = 76 ∧ f0.offset = 0 ∧ f1.offset = 1 ∧ f2.offset = 2 ∧ f3.offset = 3 := ⟨_, _, _, _, Tryz.underlying78, rfl, rfl, rfl, rfl, rfl, rfl, rfl, rfl⟩
theorem trod_pair {H : Type} {enc : TypeId × Value → H} {P : Program} {W : World} {base fuel : Nat} {sp : Nat → Bool} {held : Bool} {t e : TypeId} {a b : Value} {x : DataW H × List MemPlace} (ht : P.underlying t = some (.array 2 e)) (hc : P.cellsOf e = 1) (h : DataW.trod enc P W base sp held fuel t [a, b] = some x) :
    ∃ y z k, DataW.trod enc P W base sp held k e [a] = some y ∧ DataW.trod enc P W base sp held k e [b] = some z := by
  match fuel with
  | 0 => simp [DataW.trod] at h
  | k + 1 =>
    unfold DataW.trod at h
    rw [ht] at h
    simp [show List.range 2 = [0, 1] from rfl, hc] at h
    obtain ⟨-, h⟩ := h
    rcases ha : DataW.trod enc P W base sp held k e [a] with _ | y
    · simp [ha] at h
    · rcases hb : DataW.trod enc P W base sp held k e [b] with _ | z
      · simp [ha, hb] at h
      · exact ⟨y, z, k, ha, hb⟩
theorem open_two {H : Type} {enc : TypeId × Value → H} {W : World} {base b0 : Nat} {r : Reach} {held : Bool} {v : Value} {d : DataW H} {p : List MemPlace} (hv : Value.okWide Tryz.prog W r b0 58 v) (h : DataW.Trod enc Tryz.prog W base (fun _ => true) held 58 v d p) :
    ∃ a1 a2 : Int, v = .agg (Go.Vt.e2C a1 a2) ∧ (0 ≤ a1 ∧ a1 ≤ 255) ∧ (0 ≤ a2 ∧ a2 ≤ 255) := by
  simp only [Value.okWide, bunder58] at hv
  obtain ⟨cs, rfl, hs, _⟩ := hv
  have h3 : cs.size = 2 := by rw [hs]; kernel_rfl
  obtain ⟨fuel, hf⟩ := h
  match cs, h3 with
  | ⟨[c0, c1]⟩, _ =>
    simp only [Value.cells] at hf
    obtain ⟨y0, y1, n, g0, g1⟩ := trod_pair bunder58 (by kernel_rfl) hf
    obtain ⟨n0, p0, _, q0⟩ := DataW.trod_int Tryz.underlying5 g0
    obtain ⟨n1, p1, _, q1⟩ := DataW.trod_int Tryz.underlying5 g1
    simp only [List.cons.injEq, and_true] at p0 p1
    subst p0; subst p1
    exact ⟨n0, n1, rfl, u8_wf q0, u8_wf q1⟩
/-- The steps of a car that reads. -/
theorem open_steps {H : Type} {enc : TypeId × Value → H} {W : World} {base : Nat} {held : Bool} {fuel : Nat} {v : Value} {x : DataW H × List MemPlace} (h : DataW.trod enc Tryz.prog W base (fun _ => true) held fuel 76 [v] = some x) :
    ∃ (a0 : Option Addr) (l0 c0 : Nat) (ws : List Stp15), v = .slice a0 l0 c0 ∧ ArgS W (.slice a0 l0 c0) e_viatorlaw15_Step ws ∧ (∀ s ∈ ws, StOk s) ∧ l0 = ws.length := by
  rcases open_slice runder76 h with ⟨h0, _⟩ | ⟨a, len, cap, m, n, D, Pl, hcs, hb, hl, hm, hmm, hx, hc⟩
  · simp at h0
    subst h0
    exact ⟨none, 0, 0, [], rfl, ⟨.inl ⟨rfl, rfl⟩⟩, (fun s hs => by cases hs), rfl⟩
  · simp at hcs
    subst hcs
    obtain ⟨f0, f1, f2, f3, he, t0, t1, t2, t3, o0, o1, o2, o3⟩ := runder174
    have each : ∀ i, i < m → ∃ q : Int × Int × Int × Int, W.cell? (a.add (i * 4)) = some (.int .u8 q.1) ∧ W.cell? (a.add (i * 4 + 1)) = some (.int .u8 q.2.1) ∧ W.cell? (a.add (i * 4 + 2)) = some (.int .u8 q.2.2.1) ∧ W.cell? (a.add (i * 4 + 3)) = some (.int .u8 q.2.2.2) ∧ (0 ≤ q.1 ∧ q.1 ≤ 255) ∧ (0 ≤ q.2.1 ∧ q.2.1 ≤ 255) ∧ (0 ≤ q.2.2.1 ∧ q.2.2.1 ≤ 255) ∧ (0 ≤ q.2.2.2 ∧ q.2.2.2 ≤ 255) := by
      intro i hi
      obtain ⟨cs', h1, h2⟩ := hc i hi
      rw [rcells174] at h1
      obtain ⟨_, hlen, hcell⟩ := World.cells?_some h1
      obtain ⟨xs, k, hk, hxy, _, hxl, hf⟩ := DataW.trod_struct he h2
      match xs, hxl, cs', hlen with
      | [y0, y1, y2, y3], _, [v0, v1, v2, v3], _ =>
        have g0 := hf 0 f0 rfl
        have g1 := hf 1 f1 rfl
        have g2 := hf 2 f2 rfl
        have g3 := hf 3 f3 rfl
        simp [o0, o1, o2, o3, t0, t1, t2, t3, rcells5] at g0 g1 g2 g3
        have e0 := hcell 0 (by omega)
        have e1 := hcell 1 (by omega)
        have e2 := hcell 2 (by omega)
        have e3 := hcell 3 (by omega)
        rw [add_add] at e0 e1 e2 e3
        obtain ⟨n0, p0, _, q0⟩ := DataW.trod_int runder5 g0
        obtain ⟨n1, p1, _, q1⟩ := DataW.trod_int runder5 g1
        obtain ⟨n2, p2, _, q2⟩ := DataW.trod_int runder5 g2
        obtain ⟨n3, p3, _, q3⟩ := DataW.trod_int runder5 g3
        simp only [List.cons.injEq, and_true] at p0 p1 p2 p3
        subst p0; subst p1; subst p2; subst p3
        exact ⟨(n0, n1, n2, n3), by simpa using e0, by simpa using e1, by simpa using e2, by simpa using e3, u8_wf q0, u8_wf q1, u8_wf q2, u8_wf q3⟩
    obtain ⟨q, hq⟩ := choose_lt each
    have hlm : len ≤ m := by rw [hmm]; simpa using hl
    refine ⟨some a, len, cap, (List.range len).map fun i => ⟨(q i).1, (q i).2.1, (q i).2.2.1, (q i).2.2.2⟩, rfl, ⟨.inr ⟨a, cap, by simp, by simpa using hl, fun i f k u hi hk hu => ?_⟩⟩, fun s hs => ?_, ?_⟩
    · simp only [List.length_map, List.length_range] at hi
      obtain rfl : k = 4 := by rw [← hk default]; rfl
      have hqi := hq i (by omega)
      simp only [List.getElem_map, List.getElem_range, e_viatorlaw15_Step] at hu
      match f, hu with
      | 0, hu => simp at hu; subst hu; exact hqi.1
      | 1, hu => simp at hu; subst hu; exact hqi.2.1
      | 2, hu => simp at hu; subst hu; exact hqi.2.2.1
      | 3, hu => simp at hu; subst hu; exact hqi.2.2.2.1
      | f + 4, hu => simp at hu
    · obtain ⟨i, hi, rfl⟩ := List.mem_map.1 hs
      have hqi := (hq i (by have := List.mem_range.1 hi; omega)).2.2.2.2
      exact ⟨hqi.1, hqi.2.1, hqi.2.2.1, hqi.2.2.2⟩
    · simp
/-- A car that reads. -/
theorem open_car {H : Type} {enc : TypeId × Value → H} {W : World} {base b0 : Nat} {r : Reach} {held : Bool} {v : Value} {d : DataW H} {p : List MemPlace} (hv : Value.okWide Tryz.prog W r b0 78 v) (h : DataW.Trod enc Tryz.prog W base (fun _ => true) held 78 v d p) :
    ∃ (c : viatorlaw15_Car) (ss : List Stp15), v = .agg (e_viatorlaw15_Car c) ∧ CarIn W c ss := by
  obtain ⟨f0, f1, f2, f3, he, t0, t1, t2, t3, o0, o1, o2, o3⟩ := runder78
  simp only [Value.okWide, he] at hv
  obtain ⟨cs, rfl, hs, _⟩ := hv
  have h3 : cs.size = 4 := by rw [hs]; kernel_rfl
  obtain ⟨fuel, hf⟩ := h
  obtain ⟨xs, k, hk, hxy, _, hxl, hg⟩ := DataW.trod_struct he hf
  match cs, h3, xs, hxl with
  | ⟨[c0, c1, c2, c3]⟩, _, [y0, y1, y2, y3], _ =>
    have g0 := hg 0 f0 rfl
    have g1 := hg 1 f1 rfl
    have g2 := hg 2 f2 rfl
    have g3 := hg 3 f3 rfl
    simp [Value.cells, o0, o1, o2, o3, t0, t1, t2, t3, rcells5, rcells76] at g0 g1 g2 g3
    obtain ⟨n0, p0, _, q0⟩ := DataW.trod_int runder5 g0
    obtain ⟨n1, p1, _, q1⟩ := DataW.trod_int runder5 g1
    obtain ⟨n2, p2, _, q2⟩ := DataW.trod_int runder5 g2
    simp only [List.cons.injEq, and_true] at p0 p1 p2
    subst p0; subst p1; subst p2
    obtain ⟨a0, l0, c0, ws, rfl, w1, w2, w3⟩ := open_steps g3
    exact ⟨⟨n0, n1, n2, ⟨a0, l0, c0⟩⟩, ws, rfl, ⟨u8_wf q0, u8_wf q1, u8_wf q2⟩, w1, w3, w2⟩
end Go.Proofs.YtgcjapcminakdaaGreatDoor
/- The reference's samples and turns, walked. Conditions: those that each statement names. -/
set_option linter.unusedSimpArgs false
set_option linter.unusedVariables false
set_option maxHeartbeats 2000000
set_option maxRecDepth 100000
namespace Go.Vt
open Go.RowKit Go.Proofs
/-- A line and an instant are short. -/
structure SmOk (f : R_api_Line) (t : R_api_Real) : Prop where
  t : M t.P ≤ 8589934592
  f : LnOk BQ f
theorem SmOk.four {f : R_api_Line} {t : R_api_Real} (h : SmOk f t) : (M f.X0 ≤ 34359738368 ∧ M f.X1 ≤ 34359738368 ∧ M 0 ≤ 34359738368 ∧ M t.P ≤ 34359738368) ∧ M f.Y0 ≤ 34359738368 ∧ M f.Y1 ≤ 34359738368 ∧ M 0 ≤ 34359738368 ∧ M t.P ≤ 34359738368 := ⟨⟨Nat.le_trans h.f.x0 (by decide), Nat.le_trans h.f.x1 (by decide), Nat.le_trans mb_zero.out (by decide), Nat.le_trans h.t (by decide)⟩, Nat.le_trans h.f.y0 (by decide), Nat.le_trans h.f.y1 (by decide), Nat.le_trans mb_zero.out (by decide), Nat.le_trans h.t (by decide)⟩
instance sp_smp31 (f : R_api_Line) (t : R_api_Real) : SpecC Tryz.prog 85 [vLn f, vR t] (vS (smq f t)) (SmOk f t) := ⟨fun hp w => by
  obtain ⟨q1, q2⟩ := hp.four
  refine fn_intro Tryz.func85 rfl Tryz.ntmps85 rfl ?_
  repeat (refine wkB ?_; try intro _)
  (refine j_drawL [0, 1, 2, 3, 4, 5, 6, 7, 8, 9] [10, 11] [12, 13] (_) (h := ?_); refine wkI ?_)
  (repeat (refine wkH ?_))
  repeat (refine wkT ?_; try intro _)
  repeat (refine wkB ?_; try intro _)
  (refine jD 12 12 (h := ?_); (repeat (first | refine wkH ?_ | (refine tC rfl rfl ?_ ?_; focus (first | exact trivial | exact q1 | exact q2)))); refine jh_nil ?_; (repeat (refine wn_new ?_; intro _)); refine jn_nil ?_)
  repeat (refine wkB ?_; try intro _)
  exact wx_cell rfl rfl (fun w hw => ret_ok hw)⟩
theorem smq_same {a b : PU} (h : a.In.To = b.In.From) : decide (smq a.F a.In.To = smq b.F b.In.From) = smL a.F b.F b.In.From.P := by
  rw [Bool.eq_iff_iff, decide_eq_true_eq, smL_iff, h]
  unfold smq
  simp only [R_movingpoint_Sample.mk.injEq, true_and]
  exact Iff.rfl
instance sp_turn31 (a b : PU) : SpecC Tryz.prog 84 [vPU a, vPU b] (.bool (trn a b)) (UK BQ (toU a) ∧ UK BQ (toU b)) := ⟨fun hp w => by
  obtain ⟨ha, hb⟩ := hp
  have s1 : SmOk a.F a.In.To := ⟨ha.i.m2, ha.f⟩
  have s2 : SmOk b.F b.In.From := ⟨hb.i.m1, hb.f⟩
  refine fn_intro Tryz.func84 rfl Tryz.ntmps84 rfl ?_
  repeat (refine wkB ?_; try intro _)
  have ht : trn a b = (decide (a.In.To = b.In.From) && ((!a.In.OpenTo || !b.In.OpenFrom) && smL a.F b.F b.In.From.P)) := rfl
  by_cases h1 : a.In.To = b.In.From
  · rw [decide_eq_true h1, Bool.true_and] at ht
    rcases h2 : a.In.OpenTo with _ | _
    · simp only [h2, Bool.not_false, Bool.true_or, Bool.true_and] at ht
      (refine j_tree (.v [0, 1, 2, 3, 4, 5, 6, 7, 8, 9, 10, 11, 12, 13, 14, 15, 16, 17, 18, 19, 20, 21, 22, 23, 24, 25, 26, 27, 28, 29, 30, 31, 32, 33] (.e1 34 (.fin))) (_) (h := ?_); refine wkX ?_)
      (repeat (refine wkH ?_))
      simp only [decide_eq_true h1]
      (repeat (refine wkH ?_))
      simp only [h2, Bool.not_false]
      (repeat (first | refine wkH ?_ | (refine tC rfl rfl ?_ ?_; focus (first | exact s1 | exact s2))))
      repeat (refine wkT ?_; try intro _)
      rw [smq_same h1, ← ht]
      repeat (refine wkB ?_; try intro _)
      exact jx_ret_tmp rfl rfl (fun w hw => ret_ok hw)
    · rcases h3 : b.In.OpenFrom with _ | _
      · simp only [h2, h3, Bool.not_false, Bool.not_true, Bool.or_true, Bool.true_and] at ht
        (refine j_tree (.v [0, 1, 2, 3, 4, 5, 6, 7, 8, 9, 10, 11, 12, 13, 14, 15, 16, 17, 18, 19, 20, 21, 22, 23, 24, 25, 26, 27, 28, 29, 30, 31, 32, 33] (.e1 34 (.fin))) (_) (h := ?_); refine wkX ?_)
        (repeat (refine wkH ?_))
        simp only [decide_eq_true h1]
        (repeat (refine wkH ?_))
        simp only [h2, Bool.not_true]
        (repeat (refine wkH ?_))
        simp only [h3, Bool.not_false]
        (repeat (first | refine wkH ?_ | (refine tC rfl rfl ?_ ?_; focus (first | exact s1 | exact s2))))
        repeat (refine wkT ?_; try intro _)
        rw [smq_same h1, ← ht]
        repeat (refine wkB ?_; try intro _)
        exact jx_ret_tmp rfl rfl (fun w hw => ret_ok hw)
      · simp only [h2, h3, Bool.not_true, Bool.or_false, Bool.false_and] at ht
        (refine j_tree (.v [0, 1, 2, 3, 4, 5, 6, 7, 8, 9, 10, 11, 12, 13, 14, 15, 16, 17, 18, 19, 20, 21, 22, 23, 24, 25, 26, 27, 28, 29, 30, 31, 32, 33] (.e1 34 (.fin))) (_) (h := ?_); refine wkX ?_)
        (repeat (refine wkH ?_))
        simp only [decide_eq_true h1]
        (repeat (refine wkH ?_))
        simp only [h2, Bool.not_true]
        (repeat (refine wkH ?_))
        simp only [h3, Bool.not_true]
        (repeat (refine wkH ?_))
        repeat (refine wkT ?_; try intro _)
        repeat (refine wkB ?_; try intro _)
        rw [ht]
        exact jx_ret_tmp rfl rfl (fun w hw => ret_ok hw)
  · rw [decide_eq_false h1, Bool.false_and] at ht
    (refine j_tree (.v [0, 1, 2, 3, 4, 5, 6, 7, 8, 9, 10, 11, 12, 13, 14, 15, 16, 17, 18, 19, 20, 21, 22, 23, 24, 25, 26, 27, 28, 29, 30, 31, 32, 33] (.e1 34 (.fin))) (_) (h := ?_); refine wkX ?_)
    (repeat (refine wkH ?_))
    simp only [decide_eq_false h1]
    (repeat (refine wkH ?_))
    repeat (refine wkT ?_; try intro _)
    repeat (refine wkB ?_; try intro _)
    rw [ht]
    exact jx_ret_tmp rfl rfl (fun w hw => ret_ok hw)⟩
end Go.Vt
/- The end of a run, walked. Conditions: those that each statement names. -/
set_option linter.unusedSimpArgs false
set_option linter.unusedVariables false
set_option maxHeartbeats 2000000
set_option maxRecDepth 100000
namespace Go.Vt
open Go.RowKit Go.Proofs
/-- The header of a slice of the call's own. -/
def hS {α : Type} {enc : α → Array Value} {k : Nat} {xs : List α} (s : SlS enc k xs) : Sl := match s.s with
  | none => ⟨none, 0, 0⟩
  | some t => ⟨some ⟨t.1, 0, none⟩, xs.length, t.2.1⟩
theorem hS_v {α : Type} {enc : α → Array Value} {k : Nat} {xs : List α} (s : SlS enc k xs) : Value.slice (hS s).a (hS s).len (hS s).cap = vSl s := by
  obtain ⟨s, h1, h2⟩ := s
  cases s <;> rfl
abbrev cRn (I : R_api_Interval) (h : Sl) : Array Value := e_simplify_Run (q_simplify_Run ⟨I, h⟩)
section
variable {α : Type} {enc : α → Array Value} {k : Nat} {xs : List α}
instance (priority := 30000) ld_hS (I : R_api_Interval) (s : SlS enc k xs) : LdC Tryz.prog 33 (e_simplify_Run (q_simplify_Run ⟨I, hS s⟩)) 20 (vSl s) := hS_v s ▸ rl_35_33_20 ⟨I, hS s⟩
instance (priority := 30000) st_hS (I : R_api_Interval) (h : Sl) (s : SlS enc k xs) : StC Tryz.prog 33 (e_simplify_Run (q_simplify_Run ⟨I, h⟩)) 20 (vSl s) (e_simplify_Run (q_simplify_Run ⟨I, hS s⟩)) := hS_v s ▸ st_35_1 ⟨I, h⟩ (hS s).a (hS s).len (hS s).cap
end
/-- The runs that have ended, and the run that ends now. -/
def endL {P : List SS} (hds : List R_simplify_Run) (I : R_api_Interval) (s : SlS rS 12 P) : List R_simplify_Run := if P = [] then hds else hds ++ [⟨I, hS s⟩]
theorem end_spec (w0 w : World) (L2 : List Blk) (b8 b9 : Nat) (hds : List R_simplify_Run) (o : SlS rR 21 hds) (I : R_api_Interval) (P : List SS) (s : SlS rS 12 P) (hl : hds.length ≤ 1048576) (hP : P.length ≤ 1048576) (hw : Own w0 (mS 35 o ++ ⟨b9, cRn I (hS s), 35⟩ :: ⟨b8, #[vSl o], 62⟩ :: L2) w) :
    Calls Tryz.prog 76 [.pointer (some ⟨b9, 0, none⟩), .pointer (some ⟨b8, 0, none⟩)].toArray w (RetX w0 (SlS rR 21 (endL hds I s)) (fun _ => .tuple #[]) (fun o' => mS 35 o' ++ ⟨b9, cRn zR_api_Interval ⟨none, 0, 0⟩, 35⟩ :: ⟨b8, #[vSl o'], 62⟩ :: L2)) := by
  refine fn_introL Tryz.func76 rfl Tryz.ntmps76 rfl hw ?_
  repeat (refine wkB ?_; try intro _)
  by_cases h0 : P = []
  · have e : hds = endL hds I s := (if_pos h0).symm
    refine j_cond rfl (fun h => ?_) (fun h => ?_)
    · have := of_decide_eq_true h
      rw [h0] at this
      simp at this
    · refine j_skip ?_
      refine jx_then ?_
      repeat (refine wkB ?_; try intro _)
      obtain ⟨o', e1, e2⟩ := SlS.turn 35 e o
      simp only [← e1, ← e2]
      exact jx_end0 rfl (fun w hw => ⟨o', rfl, hw⟩)
  · have hp : 0 < P.length := List.length_pos_iff.2 h0
    have e : hds ++ [⟨I, hS s⟩] = endL hds I s := (if_neg h0).symm
    refine j_cond rfl (fun h => ?_) (fun h => ?_)
    · repeat (refine wkB ?_; try intro _)
      refine sU rfl rfl ?_ ?_ ?_ ?_
      · rfl
      · rfl
      · exact ⟨by decide, by omega, by omega⟩
      intro o1
      repeat (refine wkB ?_; try intro _)
      obtain ⟨o', e1, e2⟩ := SlS.turn 35 e o1
      simp only [← e1, ← e2]
      exact jx_end0 rfl (fun w hw => ⟨o', rfl, hw.sub suB⟩)
    · have := of_decide_eq_false h
      omega
instance sx_end (w0 : World) (L L1 L2 L3 : List Blk) (b8 b9 : Nat) {hds : List R_simplify_Run} (o : SlS rR 21 hds) (I : R_api_Interval) {P : List SS} (s : SlS rS 12 P) [h1 : DelC b9 L (cRn I (hS s)) 35 L1] [h2 : DelC b8 L1 #[vSl o] 62 L2] [h3 : OwnS 35 o L2 L3] : SpecX Tryz.prog w0 L 76 [.pointer (some ⟨b9, 0, none⟩), .pointer (some ⟨b8, 0, none⟩)] (SlS rR 21 (endL hds I s)) (fun _ => .tuple #[]) (fun o' => mS 35 o' ++ ⟨b9, cRn zR_api_Interval ⟨none, 0, 0⟩, 35⟩ :: ⟨b8, #[vSl o'], 62⟩ :: L3) (hds.length ≤ 1048576 ∧ P.length ≤ 1048576) := ⟨fun hp w hw =>
  end_spec w0 w L3 b8 b9 hds o I P s hp.1 hp.2 (hw.perm (h1.out.trans ((h2.out.cons _).trans ((((h3.out.cons _).cons _)).trans (((List.perm_middle (l₁ := mS 35 o)).symm.cons _).trans (List.perm_middle (l₁ := mS 35 o)).symm)))))⟩
end Go.Vt
/- Runs in memory: the blocks of their points; a part of an element is stored. Conditions: those that each statement names. -/
set_option linter.unusedSimpArgs false
set_option linter.unusedVariables false
set_option maxHeartbeats 2000000
set_option maxRecDepth 100000
namespace Go.Vt
open Go.RowKit Go.Proofs
/-- The blocks of runs that have ended. -/
def dnB (dn : List RD) : List Blk := dn.map fun r => ⟨r.b, row rS r.pts r.sp, 47⟩
/-- The runs that the program returns. -/
theorem hS_eq {α : Type} {enc : α → Array Value} {k : Nat} {xs : List α} {s : SlS enc k xs} {a : Option Addr} {l c : Nat} (h : vSl s = .slice a l c) : hS s = ⟨a, l, c⟩ := by
  rw [← hS_v] at h
  cases hq : hS s with
  | mk a' l' c' =>
    rw [hq] at h
    injection h with h1 h2 h3
    simp only at h1 h2 h3
    subst h1
    subst h2
    subst h3
    rfl
structure RunsO (ps : List (R_api_Interval × List SS)) where
  dn : List RD
  o : SlS rR 21 (dn.map RD.hd)
  e : dn.map (fun r => (r.I, r.pts)) = ps
  k : ∀ r ∈ dn, r.pts.length ≤ r.c
def RunsO.mem {ps : List (R_api_Interval × List SS)} (r : RunsO ps) : List Blk := mS 35 r.o ++ dnB r.dn
theorem Own.rebase {w w1 w2 : World} {L : List Blk} (h : Own w1 L w2) (hb : Below w.heap.size w w1) : Own w L w2 := ⟨⟨hb.trans (h.ext.bel.mono hb.size), trivial⟩, fun e he => ⟨Nat.le_trans hb.size (h.mem e he).1, (h.mem e he).2⟩, h.nd⟩
instance (priority := low) sbpSkip (e : Blk) (A L : List Blk) [h : SbpC A L] : SbpC A (e :: L) := ⟨by
  obtain ⟨L', hp⟩ := h.out
  exact ⟨e :: L', (hp.cons e).trans List.perm_middle.symm⟩⟩
instance (priority := high) sbpSelf (dn : List RD) : SbpC (dnB dn) (dnB dn) := ⟨[], by rw [List.append_nil]⟩
theorem sbp_of {A A' L : List Blk} (p : A.Perm A') [h : SbpC A' L] : SbpC A L := ⟨by
  obtain ⟨L', hp⟩ := h.out
  exact ⟨L', hp.trans (p.symm.append_right _)⟩⟩
/-- The order of the blocks does not matter where a loop goes on. -/
theorem jx_loopP {w0 : World} {n : Nat} {Q : Exit → Act → World → Prop} {E : Env} {L : List Blk} {S : Type} {I : S → Prop} {Es : S → Env} {Ls : S → List Blk} {mu : S → Nat} {s : S} (t : S) (ht : I t) (hE : Sub E (Es t)) (hL : SbpC (Ls t) L) (hmu : mu t < mu s) : JX w0 n .normal (LoopQ w0 n I Es Ls mu s Q) E L := ⟨fun a w ha hw => by
  obtain ⟨L', hp⟩ := hL.out
  exact (jx_loop (L := Ls t) t ht hE (List.Sublist.refl _) hmu).out a w ha ((hw.perm hp).sub (List.sublist_append_left _ _))⟩
section
variable {P : Program} {w0 : World} {n : Nat} {ops : Array Oper} {L L' Lw : List Blk} {E : Env} {K : Env → List Blk → Prop}
variable {rest : List Oper} {ty : TypeId} {pos : String} {aft : Array Edge} {gd : Option (Nat × Bool)} {x y : Operand} {T T0 : TypeId}
variable {α : Type} [Inhabited α] {enc : α → Array Value} {k b f : Nat} {xs : List α} {sp : List Value} {i : Int}
/-- A part of an element is turned, in the tail. -/
theorem eRF {u : Value} {cs1 : Array Value} [hx : IsC (evl E x) (.pointer (some ⟨b, 0 + i.toNat * k + f, none⟩))] [hy : IsC (evl E y) u] [MemC b L (row enc xs sp) T0] [he : EncC enc k] [hs : StC P T (enc (gi xs i)) f u cs1] (z : α) (hz : cs1 = enc z) [hU : UpdC b (row enc (xs.set i.toNat z) sp) L (row enc xs sp) T0 L'] [hw : SblC Lw L']
    (hg : guardB ops E gd = some true) (s : i.toNat < xs.length) (h : JE P w0 n ops Lw K rest E L') : JE P w0 n ops Lw K (⟨none, .store T x y, ty, pos, aft, gd⟩ :: rest) E L := by
  have h1 := he.size (gi xs i)
  have hfit := Nat.le_of_ble_eq_true hs.fit
  have hle := Nat.mul_le_mul_right k (show i.toNat + 1 ≤ xs.length from s)
  rw [Nat.add_mul] at hle
  refine je_store (u := u) u.cells.size isE isE hU.out hs.size rfl (by rw [row_size (k := k)]; exact Nat.ble_eq_true_of_le (by omega)) hs.one ?_ hg hw.out h
  rw [Nat.zero_add]
  refine spl_rowF xs sp i.toNat f z u.cells.toList s (by simp only [Array.length_toList]; omega) ?_
  rw [← gi_eq s, hs.out, hz]
end
theorem set_lastI {α : Type} (ys : List α) (y z : α) : (ys ++ [y]).set (((ys.length + 1 : Nat) : Int) - 1).toNat z = ys ++ [z] := by
  rw [show (((ys.length + 1 : Nat) : Int) - 1).toNat = ys.length by omega, List.set_append_right _ _ (Nat.le_refl _), Nat.sub_self]
  rfl
theorem gi_lastI {α : Type} [Inhabited α] (ys : List α) (y : α) : gi (ys ++ [y]) (((ys.length + 1 : Nat) : Int) - 1) = y := by
  rw [show (((ys.length + 1 : Nat) : Int) - 1) = (ys.length : Int) by omega, gi_snoc]
theorem dnB_snoc (ds : List RD) (r : RD) : dnB (ds ++ [r]) = dnB ds ++ [⟨r.b, row rS r.pts r.sp, 47⟩] := by
  unfold dnB
  rw [List.map_append]
  rfl
theorem dnB_perm (ds : List RD) (r : RD) : (dnB (ds ++ [r])).Perm (⟨r.b, row rS r.pts r.sp, 47⟩ :: dnB ds) := by
  rw [dnB_snoc]
  exact List.perm_append_comm
end Go.Vt
/- Codes within a range over a function, under the program logic: the same rules inside a fence, in a round or none; the call of yield. Conditions: those that each rule names. -/
set_option linter.unusedSimpArgs false
set_option linter.unusedVariables false
set_option maxHeartbeats 2000000
set_option linter.unusedSectionVars false
namespace Go.Vt
open Go.RowKit
/-- The fence around all functions; 'r': the round in which the code stands. -/
def Fr (r : Option Nat) : Fence := { Fence.wide with round := r }
section
variable {P : Program} {w0 : World} {n : Nat} {ops : Array Oper} {L : List Blk} {E : Env} {Q : Exit → Act → World → Prop} {r : Option Nat} {N : Nat}
def noDef (o : Oper) : Bool := match o.op with
  | .defer _ => false
  | _ => true
theorem noDef_ne {o : Oper} (h : noDef o = true) (c : Call) : o.op ≠ .defer c := fun e => by
  unfold noDef at h
  rw [e] at h
  cases h
theorem callsI {f : FuncId} {args : Array Value} {w : World} {R : Ending → World → Prop} (h : Calls P f args w R) : CallsIn (Fr r) N P f args w R := (callsIn_wide (n := N)).2 h
theorem callsO {f : FuncId} {args : Array Value} {w : World} {R : Ending → World → Prop} (h : CallsIn (Fr r) N P f args w R) : Calls P f args w R := (callsIn_wide (n := N)).1 h
/-- No way out lets the program outgrow its memory. -/
def NoOut (Q : Exit → Act → World → Prop) : Prop := ∀ a w, ¬ Q .outgrown a w
theorem upon_in {o : Oper} {a : Act} {K : Act → World → Prop} {res : Result Next} (h : o.upon P a K Q res) : o.uponIn (Fr r) N P a K Q res := by
  cases res with
  | ok x w' =>
    cases x <;> simp only [Oper.upon] at h <;> simp only [Oper.uponIn]
    case value => exact h
    case skip => exact h
    case defer => exact h
    case enter => exact ⟨(fun hd => by cases hd), callsI h⟩
    case row => exact ⟨(fun hd => by cases hd), fun c cs _ => let ⟨v, w', r, s⟩ := h c cs; ⟨v, w', r, stepsIn_wide.2 s⟩⟩
  | halt x w' => cases x <;> simp only [Oper.upon] at h <;> simp only [Oper.uponIn] <;> exact h
theorem wpI_of {o : Oper} {a : Act} {w : World} {K : Act → World → Prop} (hd : noDef o = true) (h : o.wp P a w K Q) : o.wpIn (Fr r) N P a w K Q := by
  refine ⟨fun f _ => trivial, ?_⟩
  rw [Oper.semAt_eq _ _ _ (noDef_ne hd)]
  exact upon_in h
theorem wpListI_of (hQ : NoOut Q) : ∀ (l : List Oper) (a : Act) (w : World), l.all noDef = true → wpList P ops Q l a w → wpListIn (Fr r) N P ops Q l a w
  | [], _, _, _, h => h
  | o :: l, a, w, hd, h => by
    simp only [List.all_cons, Bool.and_eq_true] at hd
    simp only [wpList] at h
    simp only [wpListIn]
    split at h
    · rename_i hw
      rw [if_pos hw]
      rcases h with h | ⟨_, a0, w0, h⟩
      · exact Oper.wpIn_mono (fun a w h => wpListI_of hQ l a w hd.2 h) (wpI_of hd.1 h)
      · exact (hQ _ _ h).elim
    · rename_i hw
      rw [if_neg hw]
      exact ⟨fun f _ => trivial, wpListI_of hQ l _ _ hd.2 h⟩
/-- Lists of operations, codes: from what is known on. -/
structure JOI (r : Option Nat) (N : Nat) (P : Program) (w0 : World) (n : Nat) (ops : Array Oper) (Q : Exit → Act → World → Prop) (l : List Oper) (E : Env) (L : List Blk) : Prop where
  out : ∀ a w, Rep n E a → Own w0 L w → wpListIn (Fr r) N P ops Q l a w
structure JI (r : Option Nat) (N : Nat) (P : Program) (w0 : World) (n : Nat) (c : Code) (Q : Exit → Act → World → Prop) (E : Env) (L : List Blk) : Prop where
  out : ∀ a w, Rep n E a → Own w0 L w → c.wpIn (Fr r) N P Q a w
theorem joi_of {l : List Oper} (hQ : NoOut Q) (hd : l.all noDef = true) (h : JO P w0 n ops Q l E L) : JOI r N P w0 n ops Q l E L := ⟨fun a w ha hw => wpListI_of hQ l a w hd (h.out a w ha hw)⟩
def ThenI (r : Option Nat) (N : Nat) (P : Program) (c : Code) (Q : Exit → Act → World → Prop) : Exit → Act → World → Prop := Exit.then (c.wpIn (Fr r) N P Q) Q
theorem ji_region {l : List Oper} {id : Nat} (h : JOI r N P w0 n l.toArray Q l E L) : JI r N P w0 n (.region id l.toArray false) Q E L := ⟨fun a w ha hw => wpIn_region_lit (h.out a w ha hw)⟩
theorem ji_seq {x y : Code} (h : JI r N P w0 n x (ThenI r N P y Q) E L) : JI r N P w0 n (.seq x y) Q E L := ⟨fun a w ha hw => wpIn_seq (h.out a w ha hw)⟩
theorem ji_skip (h : JX w0 n .normal Q E L) : JI r N P w0 n .skip Q E L := ⟨fun a w ha hw => wpIn_skip (h.out a w ha hw)⟩
theorem ji_ret (h : JX w0 n .ret Q E L) : JI r N P w0 n .ret Q E L := ⟨fun a w ha hw => wpIn_ret (h.out a w ha hw)⟩
theorem ji_exit {id : Nat} (h : JX w0 n (.exit id) Q E L) : JI r N P w0 n (.exit id) Q E L := ⟨fun a w ha hw => wpIn_exit (h.out a w ha hw)⟩
theorem ji_block {id : Nat} {c : Code} (h : JI r N P w0 n c (Exit.inBlock id Q) E L) : JI r N P w0 n (.block id c) Q E L := ⟨fun a w ha hw => wpIn_block (h.out a w ha hw)⟩
theorem ji_cond {c : Operand} {x y : Code} {t : Bool} (hc : Env.ev E c = some (.bool t)) (ht : t = true → JI r N P w0 n x Q E L) (hf : t = false → JI r N P w0 n y Q E L) : JI r N P w0 n (.cond c x y) Q E L := ⟨fun a w ha hw => by
  cases t with
  | true => exact wpIn_cond_true (ha.ev hc) ((ht rfl).out a w ha hw)
  | false => exact wpIn_cond_false (ha.ev hc) ((hf rfl).out a w ha hw)⟩
theorem jxi_then {y : Code} (h : JI r N P w0 n y Q E L) : JX w0 n .normal (ThenI r N P y Q) E L := ⟨h.out⟩
theorem jxi_then_ret {y : Code} (h : JX w0 n .ret Q E L) : JX w0 n .ret (ThenI r N P y Q) E L := ⟨h.out⟩
theorem jxi_then_exit {y : Code} {id : Nat} (h : JX w0 n (.exit id) Q E L) : JX w0 n (.exit id) (ThenI r N P y Q) E L := ⟨h.out⟩
/-- Where the ways meet. -/
theorem ji_cut {S : Type} (I : S → Prop) (Es : S → Env) (Ls : S → List Blk) {x y : Code} (h1 : JI r N P w0 n x (MidQ w0 n I Es Ls (fun _ _ => True) Q) E L) (h2 : ∀ s, I s → JI r N P w0 n y Q (Es s) (Ls s)) : JI r N P w0 n x (ThenI r N P y Q) E L := ⟨fun a w ha hw => by
  refine wpIn_mono (h1.out a w ha hw) fun e a' w' hq => ?_
  cases e with
  | normal => obtain ⟨⟨s, hs, hr, ho⟩, _⟩ := hq; exact (h2 s hs).out a' w' hr ho
  | _ => exact hq⟩
/-- A code outside every round, walked as everywhere, whatever comes behind it. -/
theorem ji_of {c : Code} (h : J P w0 n c Q E L) : JI none N P w0 n c Q E L := ⟨fun a w ha hw => wpIn_wide.2 (h.out a w ha hw)⟩
/-- What a round of a loop must come to, each from a world of its own. -/
def LoopI {S : Type} (n : Nat) (I : S → World → Prop) (Es : S → Env) (mu : S → Nat) (s : S) (Q : Exit → Act → World → Prop) : Exit → Act → World → Prop
  | .normal, a, w => ∃ t, I t w ∧ Rep n (Es t) a ∧ mu t < mu s
  | e, a, w => Q e a w
theorem ji_loop {S : Type} (I : S → World → Prop) (Es : S → Env) (mu : S → Nat) (s0 : S) {c : Code} (h0 : ∀ w, Own w0 L w → I s0 w) (hE : Sub E (Es s0))
    (round : ∀ s w1, I s w1 → JI r N P w1 n c (LoopI n I Es mu s Q) (Es s) []) : JI r N P w0 n (.loop c) Q E L := by
  refine ⟨fun a w ha hw => ?_⟩
  have hmin : ∀ (a : Act) (w : World), (∃ s, I s w ∧ Rep n (Es s) a) → ∃ s, (I s w ∧ Rep n (Es s) a) ∧ ∀ t, (I t w ∧ Rep n (Es t) a) → mu s ≤ mu t := by
    intro a w ⟨s, hs⟩
    obtain ⟨k, ⟨t, ht, hk⟩, hm⟩ := least (fun k => ∃ t, (I t w ∧ Rep n (Es t) a) ∧ mu t = k) (mu s) ⟨s, hs, rfl⟩
    exact ⟨t, ht, fun t' ht' => by rw [hk]; exact hm _ ⟨t', ht', rfl⟩⟩
  classical
  let pick : Act → World → Nat := fun a w => if h : ∃ s, I s w ∧ Rep n (Es s) a then mu (Classical.choose (hmin a w h)) else 0
  refine wpIn_loop (fun a w => ∃ s, I s w ∧ Rep n (Es s) a) pick ⟨s0, h0 w hw, ha.sub hE⟩ fun a' w' hI => ?_
  have hsp := Classical.choose_spec (hmin a' w' hI)
  have hr := (round _ _ hsp.1.1).out a' w' hsp.1.2 (Own.start w')
  refine wpIn_mono hr fun e a2 w2 hq => ?_
  cases e with
  | normal =>
    obtain ⟨t, ht, hr2, hlt⟩ := hq
    refine ⟨⟨t, ht, hr2⟩, ?_⟩
    have hex : ∃ s, I s w2 ∧ Rep n (Es s) a2 := ⟨t, ht, hr2⟩
    have h2 := (Classical.choose_spec (hmin a2 w2 hex)).2 t ⟨ht, hr2⟩
    simp only [pick, dif_pos hex, dif_pos hI]
    omega
  | _ => exact hq
theorem jxi_loop {S : Type} {I : S → World → Prop} {Es : S → Env} {mu : S → Nat} {s : S} (t : S) (ht : ∀ w, Own w0 L w → I t w) (hE : Sub E (Es t)) (hmu : mu t < mu s) : JX w0 n .normal (LoopI n I Es mu s Q) E L :=
  ⟨fun _ w ha hw => ⟨t, ht w hw, ha.sub hE, hmu⟩⟩
theorem jxi_loop_ret {S : Type} {I : S → World → Prop} {Es : S → Env} {mu : S → Nat} {s : S} (h : JX w0 n .ret Q E L) : JX w0 n .ret (LoopI n I Es mu s Q) E L := ⟨h.out⟩
theorem jxi_loop_exit {S : Type} {I : S → World → Prop} {Es : S → Env} {mu : S → Nat} {s : S} {id : Nat} (h : JX w0 n (.exit id) Q E L) : JX w0 n (.exit id) (LoopI n I Es mu s Q) E L := ⟨h.out⟩
theorem joi_yield {l : Nat} {args : Array Value} {o : Oper} {rest : List Oper} {R : Ending → World → Prop} (hg : guardB ops E o.guard = some true) (hd : dstOk n o.dst = true) (hdef : noDef o = true)
    (hr : ∀ a w, Rep n E a → (execOp a.eval o).run P w = (Instr.yield l args).run P w)
    (hY : ∀ w, Own w0 L w → YieldAt (Fr r) (N - 1) P l args w R)
    (h : ∀ e w', R e w' → ∃ v, e = .returned v ∧ JOI r N P w' n ops Q rest (Env.put E o.dst v) []) : JOI r N P w0 n ops Q (o :: rest) E L := by
  refine ⟨fun a w ha hw => ?_⟩
  obtain ⟨fn, tmps, assign, body, hy, hR⟩ := hY w hw
  refine wpListIn_step fun K hK => ?_
  rw [if_pos (guardB_spec ha hg)]
  refine ⟨fun f _ => trivial, ?_⟩
  rw [Oper.semAt_eq _ _ _ (noDef_ne hdef), hr a w ha, hy]
  refine ⟨(fun hd => by cases hd), hR.mono fun e w' he => ?_⟩
  obtain ⟨v, rfl, hj⟩ := h e w' he
  exact hK _ _ (hj.out _ _ (ha.put _ _ hd) (Own.start w'))
theorem run_callY {l : Nat} {g : Operand} {xs : List Operand} {vs : List Value} {ats : Array TypeId} {a : Act} {w : World} {d : Option Tmp} {ty : TypeId} {pos : String} {aft : Array Edge} {gd : Option (Nat × Bool)} (ha : Rep n E a) (hg : Env.ev E g = some (.func (.yield l) #[] #[])) (hl : Env.evs E xs = some vs) :
    (execOp a.eval ⟨d, .call ⟨.value g, xs.toArray, ats⟩, ty, pos, aft, gd⟩).run P w = (Instr.yield l vs.toArray).run P w := by
  have h1 : xs.toArray.map a.eval = vs.toArray := by rw [← ha.evs xs vs hl]; simp
  simp only [execOp, resolve, h1, ha.ev hg, Deferred.ofValue, Sem.run_bind, Sem.run_pure, Result.andThen, invoke]
  rw [show (#[] ++ vs.toArray : Array Value) = vs.toArray from Array.empty_append]
theorem joi_nil (h : JX w0 n .normal Q E L) : JOI r N P w0 n ops Q [] E L := ⟨fun a w ha hw => wpListIn_nil (h.out a w ha hw)⟩
theorem anyI_of_wpH {k g : Nat} {F : Array Bool → Act → Prop} (hdef : ops.toList.all noDef = true)
    (hF : ∀ listed a w, F listed a → Own w0 L w → wpAnyIn (Fr r) N P .any ops Q g listed a w) :
    ∀ (f : Nat) (listed : Array Bool) (a : Act) (w : World), Own w0 L w → wpH P w0 L ops k k F f listed a → wpAnyIn (Fr r) N P .any ops Q (f + g) listed a w
  | 0, listed, a, w, hw, h => by
    rw [Nat.zero_add]
    exact hF _ _ _ h hw
  | f + 1, listed, a, w, hw, h => by
    obtain ⟨h1, h2⟩ := h
    rw [show f + 1 + g = (f + g) + 1 by omega]
    refine ⟨fun h0 => (h1 h0).elim, fun i hi => ?_⟩
    obtain ⟨hik, ho⟩ := h2 i hi
    unfold hOp at ho
    unfold wpOpIn
    cases hoi : ops[i]? with
    | none => rw [hoi] at ho; exact ho.elim
    | some o =>
      rw [hoi] at ho
      simp only [if_pos hik] at ho
      obtain ⟨v, hy, hk⟩ := ho
      have hdo : noDef o = true := List.all_eq_true.1 hdef o (by
        have := Array.mem_of_getElem? hoi
        exact Array.mem_toList_iff.2 this)
      simp only
      rcases hy with ⟨hwt, hc⟩ | ⟨hwt, hv⟩
      · rw [if_pos hwt]
        refine wpI_of hdo (wp_of_calm (hc w hw) fun w' hx => ?_)
        exact anyI_of_wpH hdef hF f _ _ w' (hw.to hx) hk
      · rw [if_neg (by rw [hwt]; simp)]
        subst hv
        exact ⟨fun f _ => trivial, anyI_of_wpH hdef hF f _ _ w hw hk⟩
theorem wpAnyIn_of_seq : ∀ (l : List Oper) (k : Nat) (listed : Array Bool) (a : Act) (w : World), (∀ j, l[j]? = ops[k + j]?) →
    Region.seqB .any ops l.length k listed = true → wpListIn (Fr r) N P ops Q l a w → wpAnyIn (Fr r) N P .any ops Q l.length listed a w
  | [], _, _, _, _, _, hB, h => ⟨by simpa [Region.seqB] using hB, h⟩
  | o :: l, k, listed, a, w, hl, hB, h => by
    have h0 : ops[k]? = some o := by simpa using (hl 0).symm
    simp only [List.length_cons, Region.seqB, Bool.and_eq_true, decide_eq_true_eq] at hB
    refine ⟨fun h1 => (by rw [hB.1] at h1; cases h1), fun i hi => ?_⟩
    rw [hB.1] at hi
    have hik : i = k := by simpa using hi
    subst hik
    have hw : wpOpIn (Fr r) N P ops Q i (wpListIn (Fr r) N P ops Q l) a w := by unfold wpOpIn; simp only [h0]; exact h
    exact wpOpIn_mono (fun a' w' h' => wpAnyIn_of_seq l (i + 1) _ a' w' (fun j => by have := hl (j + 1); simpa [Nat.add_assoc, Nat.add_comm 1 j] using this) hB.2 h') hw
theorem ji_draw {id : Nat} {l : List Oper} (k : Nat) (hm : P.follows .mixedOrders = true) (hdef : l.all noDef = true) (hB : headB P n l.toArray k k = true)
    (h : JH P w0 n L l.toArray (fun E' => JOI r N P w0 n l.toArray Q (l.drop k) E' L) (l.take k) E) : JI r N P w0 n (.region id l.toArray true) Q E L := by
  refine ⟨fun a w ha hw => ?_⟩
  simp only [headB, Bool.and_eq_true, Bool.or_eq_true, decide_eq_true_eq] at hB
  obtain ⟨⟨⟨⟨hsel, hmk⟩, htl⟩, hdB⟩, hlex⟩ := hB
  have hks : k ≤ l.toArray.size := by rcases htl with h | h <;> omega
  have hjk : ∀ i, i < k → ∀ listed, HeadInv .any l.toArray k listed → listed.getD i true = false → ∀ j ∈ Region.ready .any l.toArray listed, j < k := by
    intro i hik listed inv hun j hj
    rcases htl with h | ⟨⟨hlt, hs⟩, hc⟩
    · obtain ⟨_, o, ho, _⟩ := mem_ready.1 hj
      rw [h]
      exact (Array.getElem?_eq_some_iff.1 ho).1
    · rcases Nat.lt_or_ge j k with h | h
      · exact h
      · exact absurd hj (tail_waits hs hc hlt inv _ i rfl hik hun j h)
  have hw' : Own w0 L w.drew := hw.to (Ext.drew w)
  have inv0 : HeadInv .any l.toArray k (Array.replicate l.toArray.size false) :=
    ⟨by simp, fun j oj _ hl => (by rw [getD_replicate_false] at hl; cases hl), fun t _ ht => getD_in (by simpa using ht) (getD_replicate_false _ _)⟩
  have H : wpH P w0 L l.toArray k k (fun listed' a' => Region.seqB .any l.toArray (l.toArray.size - k) k listed' = true ∧ allListed listed' k ∧ ∀ w, Own w0 L w → wpListIn (Fr r) N P l.toArray Q (l.drop k) a' w) k (Array.replicate l.toArray.size false) a := by
    refine wpH_lex hsel (Nat.le_refl _) hks hjk k 0 _ a (by omega) inv0 (fun j hj => by omega) hlex ?_
    rw [if_pos (Nat.zero_le k)]
    have hdk : (l.take k).drop k = [] := List.drop_eq_nil_of_le (by simp; omega)
    show AH P w0 L l.toArray (AN _ ((l.take k).drop k)) ((l.take k).drop 0) a
    rw [List.drop_zero, hdk]
    exact ah_of_jh (n := n) (fun E' a' ha' hK w hw => hK.out a' w ha' hw) _ _ _ ha h
  refine wpIn_region_any hm ?_
  have := anyI_of_wpH (Q := Q) (r := r) (N := N) (g := l.toArray.size - k) (by simpa using hdef) (fun listed a' w' hF hw1 => by
    obtain ⟨hseq, hall, hb⟩ := hF
    have hdl : (l.drop k).length = l.toArray.size - k := by simp
    have := wpAnyIn_of_seq (P := P) (r := r) (N := N) (ops := l.toArray) (Q := Q) (l.drop k) k listed a' w' (fun j => by simp [List.getElem?_drop]) (by rw [hdl]; exact hseq) (hb w' hw1)
    rwa [hdl] at this) k _ a w.drew hw' H
  rw [show k + (l.toArray.size - k) = l.toArray.size by omega] at this
  exact this
theorem fnI_intro {f : FuncId} {fn : Func} {c : Code} {l : List Value} {w : World} {R : Ending → World → Prop} (hf : P.funcs[f]? = some fn) (hb : fn.body = some c) (hn : fn.ntmps = n) (hl : Nat.ble l.length n = true) [hE : EnvC l E]
    (h : JI none N P w n c (bodyPost P fn R) E []) : CallsIn (Fr none) N P f l.toArray w R := by
  rw [← hE.out] at h
  have hl' : l.length ≤ n := Nat.le_of_ble_eq_true hl
  refine callsIn_of_wp hf hb trivial (h.out _ _ ⟨by simp [hn]; omega, rfl, fun k v hk => ?_⟩ (Own.start w))
  obtain ⟨_, h2⟩ := find_envOf l 0 k v hk
  have hlt : k < l.length := by
    rcases Nat.lt_or_ge k l.length with h' | h'
    · exact h'
    · simp [List.getElem?_eq_none h'] at h2
  simp only [Nat.sub_zero] at h2
  rw [Array.getElem?_append_left (by simpa using hlt)]
  simpa using h2
theorem fnM_intro {f : FuncId} {fn : Func} {c : Code} {l : List Value} {w : World} {R : Ending → World → Prop} (hf : P.funcs[f]? = some fn) (hb : fn.body = some c) (hn : fn.ntmps = n) (hl : Nat.ble l.length n = true) [hE : EnvC l E]
    (h : JI none N P w n c (bodyPostM (Fr none) N P fn R) E []) : Calls P f l.toArray w R := by
  rw [← hE.out] at h
  have hl' : l.length ≤ n := Nat.le_of_ble_eq_true hl
  refine callsO (r := none) (N := N) (callsIn_of_wp_marks hf hb trivial (h.out _ _ ⟨by simp [hn]; omega, rfl, fun k v hk => ?_⟩ (Own.start w)))
  obtain ⟨_, h2⟩ := find_envOf l 0 k v hk
  have hlt : k < l.length := by
    rcases Nat.lt_or_ge k l.length with h' | h'
    · exact h'
    · simp [List.getElem?_eq_none h'] at h2
  simp only [Nat.sub_zero] at h2
  rw [Array.getElem?_append_left (by simpa using hlt)]
  simpa using h2
end
end Go.Vt
/- The instants at which units meet: the iterator, walked. Conditions: those that each statement names. -/
set_option linter.unusedSimpArgs false
set_option linter.unusedVariables false
set_option maxHeartbeats 2000000
set_option maxRecDepth 100000
namespace Go.Vt
open Go.RowKit Go.Proofs
/-- Do two units that meet belong together? -/
def mtgB (a b : PU) : Bool := (!a.In.OpenTo || !b.In.OpenFrom) && smL a.F b.F b.In.From.P
/-- The meetings of the first units: the instant, and whether it is a turn. -/
def mtg (us : List PU) : Nat → List (R_api_Real × Bool)
  | 0 => []
  | m + 1 => if 0 < m ∧ (gi us ((m : Int) - 1)).In.To = (gi us (m : Int)).In.From then mtg us m ++ [((gi us (m : Int)).In.From, mtgB (gi us ((m : Int) - 1)) (gi us (m : Int)))] else mtg us m
theorem mtg_len (us : List PU) : ∀ m, (mtg us m).length ≤ m
  | 0 => Nat.le_refl _
  | m + 1 => by
    have := mtg_len us m
    rw [mtg]
    split
    · rw [List.length_append, List.length_singleton]; omega
    · omega
/-- The units can be compared. -/
structure MtOk (us : List PU) : Prop where
  l : us.length ≤ 1048576
  f : ∀ u ∈ us, UK BQ (toU u)
theorem MtOk.g {us : List PU} (h : MtOk us) {i : Nat} (hi : i < us.length) : UK BQ (toU (gi us (i : Int))) := h.f _ (gi_mem (by omega))
theorem grown_of {w w' : World} (h : Ext w w') : w.grownBy w' none := ⟨h.bel.os, h.bel.tape, h.bel.output, h.bel.size, fun k hk _ => h.bel.block k hk⟩
/-- What a round that goes on keeps: what the caller had, and the box of the list. -/
def KpM (wc : World) (B : Nat) (A A' : World) : Prop := Below wc.heap.size A A' ∧ ∀ o, A.heap[B]? = some o → A'.heap[B]? = some o
set_option maxHeartbeats 4000000 in
theorem meet_stops (v : Value) (us : List PU) (wc w0 : World) (B N : Nat) (hwc : Below wc.heap.size wc w0) (hB : w0.heap[B]? = some (.cells #[v] 41 (0, 0))) (hv : ArgS wc v rP us) (hok : MtOk us) :
    SeqStopsK (Fr none) N Tryz.prog 178 #[.pointer (some ⟨B, 0, none⟩)] (fun x : R_api_Real × Bool => #[vR x.1, .bool x.2]) (KpM wc B) (fun ys => ys = mtg us us.length) (fun _ => True) (us.length + 1) w0 := by
  intro l Jp Jx W hW hJ hJx hY h0
  have hmt : ∀ {i : Nat}, i < us.length → UK BQ (toU (gi us (i : Int))) := fun h => hok.g h
  have hul := hok.l
  obtain ⟨p, cp, rfl⟩ := hv.form
  have hgo := fnI_intro (N := N) (P := Tryz.prog) (l := [Value.func (.yield l) #[] #[], Value.pointer (some ⟨B, 0, none⟩)]) (w := W) (R := fun e W' => (∃ v, e = Ending.returned v) ∧ ((∃ xs, xs = mtg us us.length ∧ Jp xs W') ∨ ∃ pre, True ∧ Jx pre W')) Tryz.func178 rfl Tryz.ntmps178 rfl
  refine hgo ?_
  clear hgo
  refine ji_seq ?_
  refine ji_of ?_
  repeat (refine wkB ?_; try intro _)
  refine jxi_then ?_
  refine ji_block ?_
  refine ji_loop (S := Nat) (fun i W1 => 1 ≤ i ∧ i ≤ max 1 us.length ∧ Jp (mtg us i) W1 ∧ Below wc.heap.size wc W1 ∧ W1.heap[B]? = some (.cells #[.slice p us.length cp] 41 (0, 0))) (fun i => [(0, .func (.yield l) #[] #[]), (1, .pointer (some ⟨B, 0, none⟩)), (3, .int .i64 (i : Nat))]) (fun i => us.length + 1 - i) 1 (fun w hw => ⟨Nat.le_refl _, by omega, hJ _ W w none h0 (grown_of hw.ext) (fun r e => by cases e), hwc.trans ((hW.trans (hw.ext.bel.mono hW.size)).mono hwc.size), by rw [hw.ext.block _ (Nat.lt_of_lt_of_le (lt_of_block hB) hW.size), hW.block _ (lt_of_block hB)]; exact hB⟩) sbB (fun i W1 hI => ?_)
  obtain ⟨h1, hi, hJp, hB0, hB1⟩ := hI
  have hx : Ext wc W1 := ⟨hB0, trivial⟩
  have hv1 := hv.to hx
  have := FoC.mk ⟨(0, 0), hB1⟩
  have step : ∀ w, Ext W1 w → Jp (mtg us i) w ∧ Below wc.heap.size wc w ∧ w.heap[B]? = some (.cells #[.slice p us.length cp] 41 (0, 0)) := fun w hw => ⟨hJ _ W1 w none hJp (grown_of hw) (fun r e => by cases e), hB0.trans (hw.bel.mono hB0.size), by rw [hw.block _ (lt_of_block hB1)]; exact hB1⟩
  refine ji_seq ?_
  refine ji_seq ?_
  refine ji_of ?_
  repeat (refine wkB ?_; try intro _)
  refine jxi_then ?_
  refine ji_cond rfl (fun h => ?_) (fun h => ?_)
  · have hlt : i < us.length := by have := of_decide_eq_true h; omega
    have hne : us ≠ [] := fun h0 => by rw [h0] at hlt; simp at hlt
    obtain ⟨bw, ow, cw, hvw, hcw, hrow⟩ := hv1.blk (k := 35) hne []
    injection hvw with e1 e2 e3
    subst e1
    subst e3
    have hrow' : ∀ L, RowC W1 L bw ow PU rP us := fun L => ⟨fun w' hw' => hrow.out w' (hw'.sub (List.nil_sublist _))⟩
    refine ji_skip ?_
    refine jxi_then ?_
    refine ji_seq ?_
    refine ji_block ?_
    refine ji_seq ?_
    refine ji_of ?_
    (refine j_drawL [0, 1, 2, 3, 4, 5, 6, 7, 8] [9, 10] [11, 12] ([]) (h := ?_); refine wkI ?_)
    (repeat (first | refine wkH ?_ | (refine tC rfl rfl ?_ ?_; focus (exact ⟨by omega, by omega⟩))))
    repeat (first | (refine wkT ?_; try intro _) | (refine tC rfl rfl ?_ ?_; focus (exact ⟨by omega, by omega⟩)) | (refine uC rfl rfl ?_ ?_; focus (exact ⟨by omega, by omega⟩)) | (refine eN rfl rfl ?_ ?_; (focus (exact ⟨by omega, by omega⟩)); intro _; (try simp only [List.cons_append, List.nil_append, List.append_nil])))
    refine jxi_then ?_
    refine ji_seq ?_
    refine ji_of ?_
    repeat (refine wkB ?_; try intro _)
    refine jxi_then ?_
    refine ji_seq ?_
    refine ji_seq ?_
    refine ji_of ?_
    repeat (refine wkB ?_; try intro _)
    refine jxi_then ?_
    rename_i b4 b5 b6
    generalize hA : gi us ((i : Int) - 1) = A at *
    generalize hC : gi us (i : Int) = C at *
    have hsucc : mtg us (i + 1) = if A.In.To = C.In.From then mtg us i ++ [(C.In.From, mtgB A C)] else mtg us i := by
      rw [mtg, hA, hC]
      by_cases hq : A.In.To = C.In.From
      · rw [if_pos ⟨by omega, hq⟩, if_pos hq]
      · rw [if_neg (fun h => hq h.2), if_neg hq]
    have hAk := hmt (i := i - 1) (by omega)
    rw [show ((i - 1 : Nat) : Int) = (i : Int) - 1 by omega, hA] at hAk
    have hCk := hmt (i := i) hlt
    rw [hC] at hCk
    by_cases hq : A.In.To = C.In.From
    · rw [if_pos hq] at hsucc
      refine ji_cond rfl (fun h2 => absurd hq (by simpa using h2)) (fun _ => ?_)
      refine ji_skip ?_
      refine jxi_then ?_
      refine ji_seq ?_
      refine ji_cut (S := Bool) (fun b => b = (!A.In.OpenTo || !C.In.OpenFrom)) (fun b => [(0, .func (.yield l) #[] #[]), (1, .pointer (some ⟨B, 0, none⟩)), (3, .int .i64 (i : Nat)), (4, .pointer (some ⟨b4, 0, none⟩)), (5, .pointer (some ⟨b5, 0, none⟩)), (6, .pointer (some ⟨b6, 0, none⟩)), (7, .bool b)]) (fun _ => [⟨b6, e_api_Real (q_api_Real C.In.From), 30⟩, ⟨b5, e_api_PointUnit (q_api_PointUnit C), 68⟩, ⟨b4, e_api_PointUnit (q_api_PointUnit A), 68⟩]) ?_ (fun bl hbl => ?_)
      · refine ji_of ?_
        rcases ho : A.In.OpenTo with _ | _
        · repeat (refine wkB ?_; try intro _)
          simp only [ho]
          repeat (refine wkB ?_; try intro _)
          exact jx_mid true (by simp) sbB slB
        · repeat (refine wkB ?_; try intro _)
          simp only [ho]
          repeat (refine wkB ?_; try intro _)
          exact jx_mid (!C.In.OpenFrom) (by simp) sbB slB
      · refine ji_seq ?_
        have hm : mtgB A C = (bl && smL A.F C.F C.In.From.P) := by rw [hbl]; rfl
        rw [hm] at hsucc
        have hcr : C.In.From.R = 0 := hCk.i.r1
        rcases bl with _ | _
        · rw [Bool.false_and] at hsucc
          refine ji_draw 12 (by kernel_rfl) (by kernel_rfl) (by kernel_rfl) ?_
          (repeat (first | refine wkH ?_ | (refine tC rfl rfl ?_ ?_; focus (exact ⟨hcr, ⟨⟨hAk.f.x0, hAk.f.x1⟩, hAk.f.y0, hAk.f.y1⟩, ⟨⟨hCk.f.x0, hCk.f.x1⟩, hCk.f.y0, hCk.f.y1⟩, hCk.i.m1⟩))))
          refine jh_nil ?_
          refine joi_yield (l := l) (args := #[vR C.In.From, .bool false]) (R := fun e W' => (e = .returned (.bool true) ∧ Jp (mtg us (i + 1)) W' ∧ KpM wc B W1 W') ∨ (e = .returned (.bool false) ∧ Jx (mtg us (i + 1)) W')) rfl rfl rfl (fun a w ha => run_callY ha rfl rfl) (fun w hw => ?_) ?_
          · obtain ⟨fn, tmps, asg, bd, y1, y2⟩ := hY (mtg us i) (C.In.From, false) w (step w hw.ext).1 (by have := mtg_len us i; omega)
            refine ⟨fn, tmps, asg, bd, y1, y2.mono fun e W' h => ?_⟩
            rw [hsucc]
            rcases h with ⟨e1, e2, e3⟩ | ⟨e1, e2⟩
            · exact .inl ⟨e1, e2, (hw.ext.bel.mono hB0.size).trans e3.1, fun o ho => e3.2 o (by rw [hw.ext.block _ (lt_of_block ho)]; exact ho)⟩
            · exact .inr ⟨e1, e2⟩
          · rintro e W' (⟨rfl, hJ', hk⟩ | ⟨rfl, hx'⟩)
            · refine ⟨_, rfl, ?_⟩
              refine joi_of (fun _ _ h => by obtain ⟨⟨v, hv⟩, _⟩ := h; cases hv) rfl ?_
              show JO Tryz.prog W' 55 _ _ [_] ((53, .bool true) :: _) []
              repeat (refine wkB ?_; try intro _)
              refine jxi_then ?_
              refine ji_cond rfl (fun h => by cases h) (fun _ => ?_)
              refine ji_skip ?_
              refine jx_block ?_
              refine jxi_then ?_
              refine ji_of ?_
              repeat (refine wkB ?_; try intro _)
              exact jxi_loop (i + 1) (fun w hw => ⟨by omega, by omega, hJ _ W' w none hJ' (grown_of hw.ext) (fun r e => by cases e), (hB0.trans hk.1).trans (hw.ext.bel.mono (Nat.le_trans hB0.size hk.1.size)), by rw [hw.ext.block _ (lt_of_block (hk.2 _ hB1))]; exact hk.2 _ hB1⟩) sbB (by omega)
            · refine ⟨_, rfl, ?_⟩
              refine joi_of (fun _ _ h => by obtain ⟨⟨v, hv⟩, _⟩ := h; cases hv) rfl ?_
              show JO Tryz.prog W' 55 _ _ [_] ((53, .bool false) :: _) []
              repeat (refine wkB ?_; try intro _)
              refine jxi_then ?_
              refine ji_cond rfl (fun _ => ?_) (fun h => by cases h)
              refine ji_ret ?_
              refine jx_block_ret ?_
              refine jxi_then_ret ?_
              refine jxi_loop_ret ?_
              refine jx_block_ret ?_
              exact jx_ret0 rfl (fun w hw => ⟨⟨_, rfl⟩, .inr ⟨_, trivial, hJx _ W' w none hx' (grown_of hw.ext) (fun r e => by cases e)⟩⟩)
        · rw [Bool.true_and] at hsucc
          refine ji_draw 12 (by kernel_rfl) (by kernel_rfl) (by kernel_rfl) ?_
          (repeat (first | refine wkH ?_ | (refine tC rfl rfl ?_ ?_; focus (exact ⟨hcr, ⟨⟨hAk.f.x0, hAk.f.x1⟩, hAk.f.y0, hAk.f.y1⟩, ⟨⟨hCk.f.x0, hCk.f.x1⟩, hCk.f.y0, hCk.f.y1⟩, hCk.i.m1⟩))))
          refine jh_nil ?_
          refine joi_yield (l := l) (args := #[vR C.In.From, .bool (smL A.F C.F C.In.From.P)]) (R := fun e W' => (e = .returned (.bool true) ∧ Jp (mtg us (i + 1)) W' ∧ KpM wc B W1 W') ∨ (e = .returned (.bool false) ∧ Jx (mtg us (i + 1)) W')) rfl rfl rfl (fun a w ha => run_callY ha rfl rfl) (fun w hw => ?_) ?_
          · obtain ⟨fn, tmps, asg, bd, y1, y2⟩ := hY (mtg us i) (C.In.From, (smL A.F C.F C.In.From.P)) w (step w hw.ext).1 (by have := mtg_len us i; omega)
            refine ⟨fn, tmps, asg, bd, y1, y2.mono fun e W' h => ?_⟩
            rw [hsucc]
            rcases h with ⟨e1, e2, e3⟩ | ⟨e1, e2⟩
            · exact .inl ⟨e1, e2, (hw.ext.bel.mono hB0.size).trans e3.1, fun o ho => e3.2 o (by rw [hw.ext.block _ (lt_of_block ho)]; exact ho)⟩
            · exact .inr ⟨e1, e2⟩
          · rintro e W' (⟨rfl, hJ', hk⟩ | ⟨rfl, hx'⟩)
            · refine ⟨_, rfl, ?_⟩
              refine joi_of (fun _ _ h => by obtain ⟨⟨v, hv⟩, _⟩ := h; cases hv) rfl ?_
              show JO Tryz.prog W' 55 _ _ [_] ((53, .bool true) :: _) []
              repeat (refine wkB ?_; try intro _)
              refine jxi_then ?_
              refine ji_cond rfl (fun h => by cases h) (fun _ => ?_)
              refine ji_skip ?_
              refine jx_block ?_
              refine jxi_then ?_
              refine ji_of ?_
              repeat (refine wkB ?_; try intro _)
              exact jxi_loop (i + 1) (fun w hw => ⟨by omega, by omega, hJ _ W' w none hJ' (grown_of hw.ext) (fun r e => by cases e), (hB0.trans hk.1).trans (hw.ext.bel.mono (Nat.le_trans hB0.size hk.1.size)), by rw [hw.ext.block _ (lt_of_block (hk.2 _ hB1))]; exact hk.2 _ hB1⟩) sbB (by omega)
            · refine ⟨_, rfl, ?_⟩
              refine joi_of (fun _ _ h => by obtain ⟨⟨v, hv⟩, _⟩ := h; cases hv) rfl ?_
              show JO Tryz.prog W' 55 _ _ [_] ((53, .bool false) :: _) []
              repeat (refine wkB ?_; try intro _)
              refine jxi_then ?_
              refine ji_cond rfl (fun _ => ?_) (fun h => by cases h)
              refine ji_ret ?_
              refine jx_block_ret ?_
              refine jxi_then_ret ?_
              refine jxi_loop_ret ?_
              refine jx_block_ret ?_
              exact jx_ret0 rfl (fun w hw => ⟨⟨_, rfl⟩, .inr ⟨_, trivial, hJx _ W' w none hx' (grown_of hw.ext) (fun r e => by cases e)⟩⟩)
    · rw [if_neg hq] at hsucc
      refine ji_cond rfl (fun _ => ?_) (fun h2 => absurd (by simpa using h2) hq)
      refine ji_exit ?_
      refine jxi_then_exit ?_
      refine jx_block_here ?_
      refine jxi_then ?_
      refine ji_of ?_
      repeat (refine wkB ?_; try intro _)
      exact jxi_loop (i + 1) (fun w hw => ⟨by omega, by omega, by rw [hsucc]; exact (step w hw.ext).1, (step w hw.ext).2.1, (step w hw.ext).2.2⟩) sbB (by omega)
  · refine ji_exit ?_
    refine jxi_then_exit ?_
    refine jxi_loop_exit ?_
    refine jx_block_here ?_
    have hge : i = max 1 us.length := by have := of_decide_eq_false h; omega
    have hfin : mtg us i = mtg us us.length := by
      rcases Nat.eq_zero_or_pos us.length with h0 | h0
      · rw [hge, h0]
        rfl
      · rw [hge, Nat.max_eq_right h0]
    exact jx_end0 rfl (fun w hw => ⟨⟨_, rfl⟩, .inl ⟨_, rfl, by rw [← hfin]; exact (step w hw.ext).1⟩⟩)
end Go.Vt
