/- ReconstructChains: for at most 12 reports and any settings, Chain returns the chain, and no other chain that a choice of the reports gives is longer. (part 6 of 6.) Conditions: those that each statement names. -/
import Derived.Test.YtecgnhneekbhgaaGreatDoorKH5
/- Runs made into moving points by two roads: plain. Conditions: those that each statement names. -/
set_option linter.unusedSimpArgs false
set_option linter.unusedVariables false
set_option maxHeartbeats 2000000
set_option maxRecDepth 100000
namespace Go.Vt
open Go.RowKit Go.Proofs
open Fv (va red)
/-- A run as the program makes them, its times moved or not. -/
structure RLn (N : Nat) (r : RD) : Prop where
  fr : r.I.From = ⟨(gi r.pts 0).T, 0, false⟩
  to : r.I.To = ⟨(gi r.pts ((r.pts.length - 1 : Nat) : Int)).T, 0, false⟩
  fl : r.pts.length = 1 → r.I.OpenFrom = false ∧ r.I.OpenTo = false
  B : Bnd r.pts
  i : Inc r.pts
  l1 : 1 ≤ r.pts.length
  l2 : r.pts.length ≤ N
  nb : N ≤ 13
abbrev K0 : Nat := 6291460
abbrev K1 : Nat := 4 * K0 + 4
abbrev K2 : Nat := 4 * K1 + 4
theorem stl_K {pts : List SS} (hB : Bnd pts) (i : Nat) : LnOk K0 (stl (gi pts (i : Int)) (gi pts ((i + 1 : Nat) : Int))) := by
  obtain ⟨h1, h2, h3⟩ := hB (i : Int)
  obtain ⟨h4, h5, h6⟩ := hB ((i + 1 : Nat) : Int)
  have := MB.mk h1
  have := MB.mk h2
  have := MB.mk h3
  have := MB.mk h4
  have := MB.mk h5
  have := MB.mk h6
  exact ⟨MB.lt (q := (stl (gi pts (i : Int)) (gi pts ((i + 1 : Nat) : Int))).X0) rfl, MB.lt (q := (stl (gi pts (i : Int)) (gi pts ((i + 1 : Nat) : Int))).X1) rfl, MB.lt (q := (stl (gi pts (i : Int)) (gi pts ((i + 1 : Nat) : Int))).Y0) rfl, MB.lt (q := (stl (gi pts (i : Int)) (gi pts ((i + 1 : Nat) : Int))).Y1) rfl⟩
theorem K_one : K0 ≤ K1 ∧ K1 ≤ KN ∧ K0 ≤ KN ∧ K2 ≤ KN ∧ PB ≤ K0 ∧ KN ≤ BQ := by decide
theorem sgU_K {pts : List SS} (hB : Bnd pts) (i : Nat) : UK K0 (toU (sgU pts i)) :=
  ⟨⟨rfl, rfl, rfl, rfl, Nat.le_trans (hB (i : Int)).1 K_one.2.2.2.2.1, Nat.le_trans (hB ((i + 1 : Nat) : Int)).1 K_one.2.2.2.2.1⟩, stl_K hB i⟩
theorem bsU_K {I : R_api_Interval} {pts : List SS} (hB : Bnd pts) (i : Nat) : UK K0 (toU (bsU I pts i)) :=
  ⟨⟨rfl, rfl, rfl, rfl, Nat.le_trans (hB (i : Int)).1 K_one.2.2.2.2.1, Nat.le_trans (hB ((i + 1 : Nat) : Int)).1 K_one.2.2.2.2.1⟩, stl_K hB i⟩
def bW (I : R_api_Interval) (pts : List SS) (m : Nat) : List UL := (bs I pts m).map toU
theorem bW_succ (I : R_api_Interval) (pts : List SS) (m : Nat) : bW I pts (m + 1) = bW I pts m ++ [toU (bsU I pts m)] := by
  show ((bs I pts m ++ [bsU I pts m]).map toU) = _
  rw [List.map_append]
  rfl
theorem bW_mem {I : R_api_Interval} {pts : List SS} {u : UL} : ∀ {m : Nat}, u ∈ bW I pts m ↔ ∃ i, i < m ∧ u = toU (bsU I pts i)
  | 0 => by
    constructor
    · intro h; cases h
    · rintro ⟨i, h, -⟩; omega
  | m + 1 => by
    rw [bW_succ, List.mem_append, bW_mem, List.mem_singleton]
    constructor
    · rintro (⟨i, h1, h2⟩ | h)
      · exact ⟨i, by omega, h2⟩
      · exact ⟨m, by omega, h⟩
    · rintro ⟨i, h1, h2⟩
      rcases (by omega : i < m ∨ i = m) with h3 | h3
      · exact .inl ⟨i, h3, h2⟩
      · exact .inr (h3 ▸ h2)
theorem sgW_mem' {pts : List SS} {m : Nat} {u : UL} : u ∈ sgW pts m ↔ ∃ i, i < m ∧ u = toU (sgU pts i) := by
  refine ⟨sgW_mem, ?_⟩
  rintro ⟨i, h, rfl⟩
  rw [← sgW_get h]
  exact gi_mem (by rw [sgW_len]; omega)
theorem bsU_mem {N : Nat} {r : RD} (h : RLn N r) {i : Nat} (hi : i + 1 < r.pts.length) (t : Rat) : memI (bsU r.I r.pts i).In t ↔ memI (sgU r.pts i).In t ∧ memI r.I t := by
  have e1 : r.I.From.P = (gi r.pts ((0 : Nat) : Int)).T := by rw [h.fr]; rfl
  have e2 : r.I.To.P = (gi r.pts ((r.pts.length - 1 : Nat) : Int)).T := by rw [h.to]
  have k1 := h.i i hi
  have k2 : 0 < i → (gi r.pts ((0 : Nat) : Int)).T < (gi r.pts (i : Int)).T := fun h0 => h.i.lt h0 (by omega)
  have k3 : i + 2 < r.pts.length → (gi r.pts ((i + 1 : Nat) : Int)).T < (gi r.pts ((r.pts.length - 1 : Nat) : Int)).T := fun h0 => h.i.lt (by omega) (by omega)
  unfold memI bsU sgU
  simp only [e1, e2]
  rcases (by omega : i = 0 ∨ 0 < i) with h0 | h0
  · subst h0
    rcases (by omega : 0 + 2 = r.pts.length ∨ 0 + 2 < r.pts.length) with h4 | h4
    · rw [if_pos rfl, if_pos h4, show r.pts.length - 1 = 0 + 1 by omega]
      have : decide ((1 : Int) < ((0 + 1 : Nat) : Int)) = false := by decide
      rw [this]
      grind
    · have := k3 h4
      rw [if_pos rfl, if_neg (by omega)]
      have : decide ((1 : Int) < ((0 + 1 : Nat) : Int)) = false := by decide
      rw [this]
      grind
  · have := k2 h0
    have e3 : decide ((1 : Int) < ((i + 1 : Nat) : Int)) = true := decide_eq_true (by omega)
    rw [e3, if_neg (by omega)]
    rcases (by omega : i + 2 = r.pts.length ∨ i + 2 < r.pts.length) with h4 | h4
    · rw [if_pos h4, show r.pts.length - 1 = i + 1 by omega]
      grind
    · have := k3 h4
      rw [if_neg (by omega)]
      grind
theorem bsU_bfr {N : Nat} {r : RD} (h : RLn N r) {i m : Nat} (him : i < m) (hm : m + 1 < r.pts.length) : (absU (toU (bsU r.I r.pts i))).bfr (absU (toU (bsU r.I r.pts m))) := by
  rcases (by omega : i + 1 = m ∨ i + 1 < m) with h1 | h1
  · subst h1
    exact .inr ⟨rfl, .inr (by show (if i + 1 = 0 then r.I.OpenFrom else true) = true; rw [if_neg (by omega)])⟩
  · exact .inl (h.i.lt h1 (by omega))
theorem bsU_lt {N : Nat} {r : RD} (h : RLn N r) {i : Nat} (hi : i + 1 < r.pts.length) : (absU (toU (bsU r.I r.pts i))).a < (absU (toU (bsU r.I r.pts i))).b := h.i i hi
theorem bW_pw {N : Nat} {r : RD} (h : RLn N r) : ∀ m, m + 1 ≤ r.pts.length → ((bW r.I r.pts m).map absU).Pairwise Dis
  | 0, _ => List.Pairwise.nil
  | m + 1, hm => by
    rw [bW_succ, List.map_append, List.pairwise_append]
    refine ⟨bW_pw h m (by omega), List.pairwise_singleton _ _, fun u hu w hw => ?_⟩
    obtain ⟨x, hx, rfl⟩ := List.mem_map.1 hu
    obtain ⟨i, h1, rfl⟩ := bW_mem.1 hx
    obtain rfl := List.mem_singleton.1 hw
    exact (bsU_bfr h h1 (by omega)).Dis
theorem bW_has {N : Nat} {r : RD} (h : RLn N r) {m : Nat} (hm : m + 1 ≤ r.pts.length) {t : Rat} {v : R_api_Point} : Has ((bW r.I r.pts m).map absU) t v ↔ Has ((sgW r.pts m).map absU) t v ∧ memI r.I t := by
  rw [has_map, has_map]
  constructor
  · rintro ⟨u, hu, h1, h2⟩
    obtain ⟨i, h3, rfl⟩ := bW_mem.1 hu
    obtain ⟨h4, h5⟩ := (bsU_mem h (by omega) t).1 h1
    exact ⟨⟨_, sgW_mem'.2 ⟨i, h3, rfl⟩, h4, h2⟩, h5⟩
  · rintro ⟨⟨u, hu, h1, h2⟩, h5⟩
    obtain ⟨i, h3, rfl⟩ := sgW_mem'.1 hu
    exact ⟨_, bW_mem.2 ⟨i, h3, rfl⟩, (bsU_mem h (by omega) t).2 ⟨h1, h5⟩, h2⟩
def frW (pts : List SS) : List UL := mpN toU (frS pts) (frS pts).length
theorem frW_one {pts : List SS} (h : pts.length = 1) : frW pts = [toU (one1 (gi pts 0))] := by
  unfold frW
  rw [mpN_all]
  have : frS pts = [one1 (gi pts 0)] := by unfold frS; rw [if_pos h]
  rw [this]
  rfl
theorem one_K {pts : List SS} (hB : Bnd pts) : UK K0 (toU (one1 (gi pts 0))) := by
  have h0 : M 0 ≤ K0 := by decide
  have h1 := K_one.2.2.2.2.1
  exact ⟨⟨rfl, rfl, rfl, rfl, Nat.le_trans (hB 0).1 h1, Nat.le_trans (hB 0).1 h1⟩, ⟨Nat.le_trans (hB 0).2.1 h1, h0, Nat.le_trans (hB 0).2.2 h1, h0⟩⟩
/-- The units of the first road. -/
def b1W (r : RD) : List UL := (b1 r.I r.pts).map toU
theorem RLn.one {N : Nat} {r : RD} (h : RLn N r) (h1 : r.pts.length = 1) : b1W r = frW r.pts ∧ r.I = (one1 (gi r.pts 0)).In := by
  have e1 : r.I = (one1 (gi r.pts 0)).In := by
    obtain ⟨f1, f2⟩ := h.fl h1
    have f3 := h.fr
    have f4 := h.to
    rw [h1] at f4
    cases hI : r.I with
    | mk a b c d =>
      rw [hI] at f1 f2 f3 f4
      simp only at f1 f2 f3 f4
      rw [f1, f2, f3, f4]
      rfl
  refine ⟨?_, e1⟩
  rw [frW_one h1]
  unfold b1W b1
  rw [if_pos h1, e1]
  rfl
theorem RLn.two {r : RD} (h1 : ¬ r.pts.length = 1) : b1W r = bW r.I r.pts (r.pts.length - 1) := by
  unfold b1W b1 bW
  rw [if_neg h1]
theorem RLn.iv {N : Nat} {r : RD} (h : RLn N r) : IvOk K0 r.I := by
  have h1 := K_one.2.2.2.2.1
  exact ⟨by rw [h.fr], by rw [h.to], by rw [h.fr], by rw [h.to], by rw [h.fr]; exact Nat.le_trans (h.B _).1 h1, by rw [h.to]; exact Nat.le_trans (h.B _).1 h1⟩
/-- What a list of units is, that the normal form asks for. -/
structure Fit (K : Nat) (A : List UL) : Prop where
  k : ∀ u ∈ A, UK K u
  o : ∀ u ∈ A, (absU u).ok
  p : (A.map absU).Pairwise Dis
theorem Fit.val {K : Nat} {A : List UL} (h : Fit K A) (hk : K ≤ KN) : UVal A := ⟨fun u hu => (h.k u hu).uin hk, h.o⟩
theorem one_fit {pts : List SS} (hB : Bnd pts) : Fit K0 [toU (one1 (gi pts 0))] :=
  ⟨fun u hu => List.mem_singleton.1 hu ▸ one_K hB, fun u hu => List.mem_singleton.1 hu ▸ .inr ⟨rfl, rfl, rfl⟩, List.pairwise_singleton _ _⟩
theorem b1_fit {N : Nat} {r : RD} (h : RLn N r) : Fit K0 (b1W r) := by
  by_cases h1 : r.pts.length = 1
  · rw [(h.one h1).1, frW_one h1]
    exact one_fit h.B
  · rw [RLn.two h1]
    have := h.l1
    refine ⟨fun u hu => ?_, fun u hu => ?_, bW_pw h _ (by omega)⟩
    · obtain ⟨i, h3, rfl⟩ := bW_mem.1 hu
      exact bsU_K h.B i
    · obtain ⟨i, h3, rfl⟩ := bW_mem.1 hu
      exact .inl (bsU_lt h (by omega))
theorem fr_fit {N : Nat} {r : RD} (h : RLn N r) : Fit K1 (frW r.pts) := by
  by_cases h1 : r.pts.length = 1
  · rw [frW_one h1]
    obtain ⟨k, o, p⟩ := one_fit h.B
    exact ⟨fun u hu => (k u hu).mono K_one.1, o, p⟩
  · have := h.l1
    have e : frW r.pts = nrmR (sgW r.pts (r.pts.length - 1)) := by
      unfold frW frS
      rw [if_neg h1, mNorm_U]
      rfl
    obtain ⟨-, n1, -, -⟩ := frS_law h.B h.i (by omega)
    rw [e]
    refine ⟨nrmR_K (fun u hu => ?_), fun u hu => ?_, ?_⟩
    · obtain ⟨i, h3, rfl⟩ := sgW_mem'.1 hu
      exact sgU_K h.B i
    · rw [← e] at hu
      exact n1.ok _ (List.mem_map.2 ⟨u, hu, rfl⟩)
    · rw [← e]
      exact n1.pw.imp fun k => k.bf.Dis
theorem b1_has {N : Nat} {r : RD} (h : RLn N r) {t : Rat} {v : R_api_Point} : Has ((b1W r).map absU) t v ↔ Has ((frW r.pts).map absU) t v ∧ memI r.I t := by
  by_cases h1 : r.pts.length = 1
  · obtain ⟨e1, e2⟩ := h.one h1
    rw [e1]
    refine ⟨fun k => ⟨k, ?_⟩, fun k => k.1⟩
    rw [frW_one h1, has_map] at k
    obtain ⟨u, hu, k1, k2⟩ := k
    rw [List.mem_singleton.1 hu] at k1
    rw [e2]
    exact k1
  · have := h.l1
    rw [RLn.two h1, bW_has h (by omega)]
    obtain ⟨-, -, -, n4⟩ := frS_law h.B h.i (by omega)
    exact and_congr (n4 t v).symm Iff.rfl
/-- The units of the second road. -/
def mrW (r : RD) : List UL := mRes (frS r.pts) [r.I]
theorem mr_fit {N : Nat} {r : RD} (h : RLn N r) : Fit K1 (mrW r) := by
  obtain ⟨k, o, p⟩ := fr_fit h
  refine ⟨ro_K k (fun d hd => ?_), ro_ok, ro_pw p (List.pairwise_singleton _ _) _ (Nat.le_refl _)⟩
  rw [List.mem_singleton.1 hd]
  exact ⟨h.iv.r1, h.iv.r2, h.iv.n1, h.iv.n2, Nat.le_trans h.iv.m1 K_one.1, Nat.le_trans h.iv.m2 K_one.1⟩
theorem mr_has {N : Nat} {r : RD} (h : RLn N r) {t : Rat} {v : R_api_Point} : Has ((mrW r).map absU) t v ↔ Has ((b1W r).map absU) t v := by
  rw [b1_has h]
  refine (ro_has (us := frW r.pts) (ds := [r.I])).trans (and_congr Iff.rfl ?_)
  simp
def buW (r : RD) : List UL := mpN toU (bu r) (bu r).length
theorem buW_eq (r : RD) : buW r = nrmR (mrW r) := toU_ofU _
theorem bu_nf {N : Nat} {r : RD} (h : RLn N r) : NF ((buW r).map absU) ∧ ∀ t v, Has ((buW r).map absU) t v ↔ Has ((b1W r).map absU) t v := by
  rw [buW_eq]
  have hf := mr_fit h
  obtain ⟨n1, n2⟩ := nrm_nf (hf.val K_one.2.1) hf.p
  exact ⟨n1, fun t v => (n2 t v).trans (mr_has h)⟩
theorem bu_fit {N : Nat} {r : RD} (h : RLn N r) : Fit K2 (buW r) := by
  obtain ⟨n1, -⟩ := bu_nf h
  refine ⟨?_, fun u hu => n1.ok _ (List.mem_map.2 ⟨u, hu, rfl⟩), n1.pw.imp fun k => k.bf.Dis⟩
  rw [buW_eq]
  exact nrmR_K (mr_fit h).k
theorem frW_len {N : Nat} {r : RD} (h : RLn N r) : (frW r.pts).length ≤ 18 := by
  by_cases h1 : r.pts.length = 1
  · rw [frW_one h1]; exact Nat.le_of_ble_eq_true rfl
  · have e : frW r.pts = nrmR (sgW r.pts (r.pts.length - 1)) := by
      unfold frW frS
      rw [if_neg h1, mNorm_U]
      rfl
    have hl1 := h.l1
    have h2 := nrmR_few (sgW_val h.B h.i (m := r.pts.length - 1) (by omega))
    have h3 := sgW_len r.pts (r.pts.length - 1)
    have := h.l2
    have := h.nb
    rw [e]
    omega
theorem mr_len {N : Nat} {r : RD} (h : RLn N r) : (mrW r).length ≤ 18 := by
  have h1 := ro_len (frW r.pts) [r.I] (frW r.pts).length
  have h2 := frW_len h
  have : (mrW r).length ≤ (frW r.pts).length * 1 := h1
  omega
theorem RLn.res {N : Nat} {r : RD} (h : RLn N r) : ResOk (frS r.pts) [r.I] := by
  have hb := K_one
  have hm := fr_fit h
  have hk : ∀ {K : Nat} {I : R_api_Interval}, IvOk K I → K ≤ KN → IvOk BQ I := fun g k => ⟨g.r1, g.r2, g.n1, g.n2, Nat.le_trans g.m1 (Nat.le_trans k hb.2.2.2.2.2), Nat.le_trans g.m2 (Nat.le_trans k hb.2.2.2.2.2)⟩
  have hl : (frS r.pts).length = (frW r.pts).length := (mpN_len _ _ _).symm
  have h18 := frW_len h
  refine ⟨by omega, Nat.le_of_ble_eq_true rfl, Nat.le_trans (mr_len h) (by decide), fun u hu => hk (hm.k u hu).i hb.2.1, fun d hd => ?_, fun u hu => ((mr_fit h).k u hu).uin hb.2.1⟩
  rw [List.mem_singleton.1 hd]
  exact hk h.iv hb.2.2.1
theorem dis_app {A B : List (GU Rat R_api_Line)} : (A ++ B).Pairwise Dis ↔ A.Pairwise Dis ∧ B.Pairwise Dis ∧ ∀ t, ¬ ((∃ v, Has A t v) ∧ ∃ v, Has B t v) := by
  rw [List.pairwise_append]
  refine and_congr Iff.rfl (and_congr Iff.rfl ?_)
  constructor
  · rintro h t ⟨⟨v, u, hu, h1, -⟩, v', w, hw, h2, -⟩
    exact h u hu w hw t ⟨h1, h2⟩
  · intro h u hu w hw t ⟨h1, h2⟩
    exact h t ⟨⟨_, u, hu, h1, rfl⟩, _, w, hw, h2, rfl⟩
def bAW (rs : List RD) (m : Nat) : List UL := (bA rs m).map toU
def buAW (rs : List RD) (m : Nat) : List UL := (buA rs m).map toU
theorem bAW_succ (rs : List RD) (m : Nat) : bAW rs (m + 1) = bAW rs m ++ b1W (gi rs (m : Int)) := by
  show ((bA rs m ++ b1 _ _).map toU) = _
  rw [List.map_append]
  rfl
theorem buAW_succ (rs : List RD) (m : Nat) : buAW rs (m + 1) = buAW rs m ++ buW (gi rs (m : Int)) := by
  show ((buA rs m ++ bu _).map toU) = _
  rw [List.map_append]
  unfold buW
  rw [mpN_all]
  rfl
theorem roads {N : Nat} {rs : List RD} (h : ∀ r ∈ rs, RLn N r) : ∀ m, m ≤ rs.length → ((∀ u ∈ bAW rs m, UK K0 u ∧ (absU u).ok) ∧ (∀ u ∈ buAW rs m, UK K2 u ∧ (absU u).ok)) ∧ (∀ t v, Has ((buAW rs m).map absU) t v ↔ Has ((bAW rs m).map absU) t v) ∧ (((buAW rs m).map absU).Pairwise Dis ↔ ((bAW rs m).map absU).Pairwise Dis)
  | 0, _ => by
    refine ⟨⟨fun u hu => ?_, fun u hu => ?_⟩, fun t v => Iff.rfl, Iff.rfl⟩
    · cases hu
    · cases hu
  | m + 1, hm => by
    obtain ⟨⟨g1, g2⟩, g3, g4⟩ := roads h m (by omega)
    have hr := h _ (gi_mem (i := (m : Int)) (xs := rs) (by omega))
    have f1 := b1_fit hr
    have f2 := bu_fit hr
    obtain ⟨-, n2⟩ := bu_nf hr
    rw [bAW_succ, buAW_succ]
    refine ⟨⟨fun u hu => ?_, fun u hu => ?_⟩, fun t v => ?_, ?_⟩
    · rcases List.mem_append.1 hu with k | k
      · exact g1 u k
      · exact ⟨f1.k u k, f1.o u k⟩
    · rcases List.mem_append.1 hu with k | k
      · exact g2 u k
      · exact ⟨f2.k u k, f2.o u k⟩
    · rw [List.map_append, List.map_append, has_app, has_app, g3, n2]
    · rw [List.map_append, List.map_append, dis_app, dis_app, g4]
      refine and_congr Iff.rfl (and_congr ⟨fun _ => f1.p, fun _ => f2.p⟩ ?_)
      simp only [g3, n2]
end Go.Vt
/- Trajectories of cars, walked: the parts. Conditions: those that each statement names. -/
set_option linter.unusedSimpArgs false
set_option linter.unusedVariables false
set_option maxHeartbeats 2000000
set_option maxRecDepth 100000
namespace Go.Vt
open Go.RowKit Go.Proofs
end Go.Vt
/- Trajectories of cars, walked. Conditions: those that each statement names. -/
set_option linter.unusedSimpArgs false
set_option linter.unusedVariables false
set_option maxHeartbeats 2000000
set_option maxRecDepth 100000
namespace Go.Vt
open Go.RowKit Go.Proofs
instance sbpOwn {α : Type} {enc : α → Array Value} {k : Nat} {xs : List α} (T : TypeId) (s : SlS enc k xs) (A L L1 : List Blk) [h : OwnS T s L L1] [g : SbpC A L1] : SbpC (mS T s ++ A) L := ⟨by
  obtain ⟨L', hp⟩ := g.out
  exact ⟨L', h.out.trans (by rw [List.append_assoc]; exact hp.append_left _)⟩⟩
end Go.Vt
/- ReconstructChains, walked. Conditions: those that each statement names. -/
set_option linter.unusedSimpArgs false
set_option linter.unusedVariables false
set_option maxHeartbeats 2000000
set_option maxRecDepth 100000
namespace Go.Vt
open Go.RowKit Go.Proofs
/-- What a choice gives, place by place. -/
def pickN (C : Nat → Nat → Bool) (p : Nat → Bool) : Nat → Option Nat × Nat
  | 0 => (none, 0)
  | i + 1 => pickS C p (pickN C p i) i
theorem pickN_ok (C : Nat → Nat → Bool) (n : Nat) (p : Nat → Bool) : ∀ i, i ≤ n → ((pickN C p i).1 = none → (pickN C p i).2 = 0) ∧ ∀ q, (pickN C p i).1 = some q → q < i ∧ (pickN C p i).2 + bestA C n q ≤ mostA C n + 1
  | 0, _ => ⟨fun _ => rfl, fun q h => by cases h⟩
  | i + 1, h => by
    obtain ⟨h1, h2⟩ := pickN_ok C n p i (by omega)
    exact pick_le C n (by omega) h1 h2
theorem pickN_few (C : Nat → Nat → Bool) (p : Nat → Bool) : ∀ i, (pickN C p i).2 ≤ i
  | 0 => Nat.le_refl _
  | i + 1 => by
    have := pickN_few C p i
    rw [pickN]
    unfold pickS
    split
    · show (pickN C p i).2 + 1 ≤ i + 1
      omega
    · omega
theorem pickN_le (C : Nat → Nat → Bool) (n : Nat) (p : Nat → Bool) : (pickN C p n).2 ≤ (chainL C n).length := by
  obtain ⟨h1, h2⟩ := pickN_ok C n p n (Nat.le_refl _)
  rw [chainL_len]
  cases h : (pickN C p n).1 with
  | none => rw [h1 h]; omega
  | some q =>
    obtain ⟨h3, h4⟩ := h2 q h
    have := bestA_pos C n h3
    omega
def lastI : Option Nat → Int
  | none => -1
  | some q => (q : Int)
def chP (c : Int) (i : Nat) : Bool := decide (c / 2 ^ ((i : Int)).toNat % 2 = 1)
set_option maxHeartbeats 8000000 in
theorem lchains_spec (v : Value) (ss : List Spt) (a ch : Int) (w : World) (hv : ArgS w v eSp ss) (hlen : ss.length ≤ 9223372036854775807) (hok : SpOk ss) (ha : 0 ≤ a ∧ a ≤ 255) (hch : 0 ≤ ch ∧ ch ≤ 65535) :
    Calls Tryz.prog 4 [v, .int .u8 a, .int .u16 ch].toArray w (Ret (.bool true) w) := by
  have hls := fun L => hv.lst L
  have hp1 : ss.length ≤ 9223372036854775807 ∧ SpOk ss := ⟨hlen, hok⟩
  have hp2 : (0 ≤ a ∧ a ≤ 255) ∧ ((0 : Int) ≤ 1 ∧ (1 : Int) ≤ 255) := ⟨ha, by decide⟩
  have hs : -1048576 ≤ (setT a 1).MaxSpeed ∧ (setT a 1).MaxSpeed ≤ 1048576 := by
    show -1048576 ≤ 1 + a % 24 ∧ 1 + a % 24 ≤ 1048576
    omega
  refine fn_intro Tryz.func4 rfl Tryz.ntmps4 rfl ?_
  repeat (first | (refine wkB ?_; try intro _) | (refine sC rfl rfl ?_ ?_; focus (first | exact hp1 | exact hp2)) | (refine sN rfl rfl ?_ ?_; (focus (first | exact hp1 | exact hp2)); intro _; (try simp only [List.cons_append, List.nil_append, List.append_nil])) | refine sMu rfl ?_ | (refine sMm rfl rfl ?_; intro _) | (refine sRg rfl rfl ?_; intro _))
  rename_i r b8
  have hT := rowT_ok ss
  have hTl := rowT_len ss
  generalize rowT ss = T at *
  generalize setT a 1 = s at *
  have hgo : ∀ i : Nat, i < T.length → TkOk (gi T (i : Int)) := fun i hi => hT _ (gi_mem (by omega))
  have hcp : T.length ≤ 4096 ∧ (∀ x ∈ T, TkOk x) ∧ (-1048576 ≤ s.MaxSpeed ∧ s.MaxSpeed ≤ 1048576) := ⟨by omega, hT, hs⟩
  have hC : ∀ i k, cCp s.MaxSpeed T i k = cpt s.MaxSpeed (gi T (i : Int)) (gi T (k : Int)) := fun _ _ => rfl
  refine j_cut (S := SlS (eI .i64) 1 (cI (chainL (cCp s.MaxSpeed T) T.length)) × SlS (eI .i64) 1 (cI (chainL (cCp s.MaxSpeed T) T.length))) (fun _ => True) (fun q => [(2, .int .u16 ch), (7, vSl r), (8, .pointer (some ⟨b8, 0, none⟩)), (9, vSl q.1), (10, vSl q.2)]) (fun q => mS 3 q.1 ++ (mS 3 q.2 ++ (mS 36 r ++ [⟨b8, e_api_Settings s, 26⟩]))) ?_ (fun q _ => ?_)
  · (refine j_tree (.v [0, 1, 3, 4] (.e1 2 (.e1 5 (.e1 6 (.e1 7 (.fin)))))) (_) (h := ?_); refine wkX ?_)
    repeat' (first | (with_reducible refine And.intro ?_ ?_) | (with_reducible exact True.intro) | (refine wkT ?_; try intro _) | (refine tC rfl rfl ?_ ?_; focus (exact hcp)) | (refine uC rfl rfl ?_ ?_; focus (exact hcp)) | (refine eN rfl rfl ?_ ?_; (focus (exact hcp)); intro _; (try simp only [List.cons_append, List.nil_append, List.append_nil])) | fail)
    all_goals rename_i x y
    all_goals first | exact jx_midP ⟨x, y⟩ trivial sbB inferInstance | exact jx_midP ⟨y, x⟩ trivial sbB inferInstance
  obtain ⟨c, d⟩ := q
  simp only
  have hcn := chainL_few (cCp s.MaxSpeed T) T.length
  have hcl := fun k (h : k ∈ chainL (cCp s.MaxSpeed T) T.length) => chainL_rng h
  have hcok := fun j (h : j + 1 < (chainL (cCp s.MaxSpeed T) T.length).length) => chainL_ok (cCp s.MaxSpeed T) T.length h
  have hpk := fun p => pickN_le (cCp s.MaxSpeed T) T.length p
  have hpo := fun p i (h : i ≤ T.length) => pickN_ok (cCp s.MaxSpeed T) T.length p i h
  generalize chainL (cCp s.MaxSpeed T) T.length = C at *
  have hCl := cI_len C
  have hat : ∀ i (h : i < C.length), gi (cI C) (i : Int) = ((C[i] : Nat) : Int) := fun i h => by
    rw [gi_nat (by rw [hCl]; exact h)]
    simp only [cI, List.getElem_map]
  repeat (first | (refine wkB ?_; try intro _) | (refine sC rfl rfl ?_ ?_; focus (first | exact trivial | assumption | constructor <;> assumption | exact mb2 rfl rfl | exact mb4 rfl rfl rfl rfl)) | (refine sN rfl rfl ?_ ?_; (focus (first | exact trivial | assumption | constructor <;> assumption | exact mb2 rfl rfl | exact mb4 rfl rfl rfl rfl)); intro _; (try simp only [List.cons_append, List.nil_append, List.append_nil])) | refine sMu rfl ?_ | (refine sMm rfl rfl ?_; intro _) | (refine sRg rfl rfl ?_; intro _))
  simp only [decide_eq_true (show (((cI C).length : Nat) : Int) = (((cI C).length : Nat) : Int) from rfl), Bool.not_true]
  repeat (first | (refine wkB ?_; try intro _) | (refine sC rfl rfl ?_ ?_; focus (first | exact trivial | assumption | constructor <;> assumption | exact mb2 rfl rfl | exact mb4 rfl rfl rfl rfl)) | (refine sN rfl rfl ?_ ?_; (focus (first | exact trivial | assumption | constructor <;> assumption | exact mb2 rfl rfl | exact mb4 rfl rfl rfl rfl)); intro _; (try simp only [List.cons_append, List.nil_append, List.append_nil])) | refine sMu rfl ?_ | (refine sMm rfl rfl ?_; intro _) | (refine sRg rfl rfl ?_; intro _))
  refine j_loop (S := Nat) (fun i => i ≤ C.length) (fun i => [(2, .int .u16 ch), (7, vSl r), (8, .pointer (some ⟨b8, 0, none⟩)), (9, vSl c), (10, vSl d), (11, .int .i64 (i : Nat))]) (fun i => mS 3 c ++ (mS 3 d ++ (mS 36 r ++ [⟨b8, e_api_Settings s, 26⟩]))) (fun i => C.length - i) 0 (Nat.zero_le _) sbB suB (fun i hi => ?_)
  repeat (first | (refine wkB ?_; try intro _) | (refine sC rfl rfl ?_ ?_; focus (first | exact trivial | assumption | constructor <;> assumption | exact mb2 rfl rfl | exact mb4 rfl rfl rfl rfl)) | (refine sN rfl rfl ?_ ?_; (focus (first | exact trivial | assumption | constructor <;> assumption | exact mb2 rfl rfl | exact mb4 rfl rfl rfl rfl)); intro _; (try simp only [List.cons_append, List.nil_append, List.append_nil])) | refine sMu rfl ?_ | (refine sMm rfl rfl ?_; intro _) | (refine sRg rfl rfl ?_; intro _))
  refine j_cond rfl (fun h => ?_) (fun h => ?_)
  · have hlt : i < C.length := by have := of_decide_eq_true h; omega
    have hCi := hcl C[i] (List.getElem_mem _)
    rcases r.cases 36 with ⟨x0, -, -⟩ | ⟨bs, cb, sp, hc1, x1, x2, xne⟩
    · rw [x0] at hCi
      cases hCi
    rcases c.cases 3 with ⟨y0, -, -⟩ | ⟨bc, cc, sq, hc2, y1, y2, yne⟩
    · rw [y0, List.length_nil] at hCl
      omega
    rcases d.cases 3 with ⟨z0, -, -⟩ | ⟨bd, cd, sr, hc3, z1, z2, zne⟩
    · rw [z0, List.length_nil] at hCl
      omega
    simp only [x1, x2, y1, y2, z1, z2, List.cons_append, List.nil_append]
    repeat (first | (refine wkB ?_; try intro _) | (refine sC rfl rfl ?_ ?_; focus (first | exact trivial | assumption | constructor <;> assumption | exact mb2 rfl rfl | exact mb4 rfl rfl rfl rfl)) | (refine sN rfl rfl ?_ ?_; (focus (first | exact trivial | assumption | constructor <;> assumption | exact mb2 rfl rfl | exact mb4 rfl rfl rfl rfl)); intro _; (try simp only [List.cons_append, List.nil_append, List.append_nil])) | refine sMu rfl ?_ | (refine sMm rfl rfl ?_; intro _) | (refine sRg rfl rfl ?_; intro _))
    by_cases h0 : 0 < i
    · have hCj := hcl C[i - 1] (List.getElem_mem _)
      have e1 : gi (cI C) ((i : Int) - 1) = ((C[i - 1] : Nat) : Int) := by
        rw [show (i : Int) - 1 = ((i - 1 : Nat) : Int) by omega]
        exact hat (i - 1) (by omega)
      have e2 := hat i hlt
      have hcc : cpt s.MaxSpeed (gi T ((C[i - 1] : Nat) : Int)) (gi T ((C[i] : Nat) : Int)) = true := by
        have := hcok (i - 1) (by omega)
        rw [show i - 1 + 1 = i by omega, List.getD_eq_getElem?_getD, List.getD_eq_getElem?_getD, List.getElem?_eq_getElem (show i - 1 < C.length by omega), List.getElem?_eq_getElem hlt, Option.getD_some, Option.getD_some] at this
        exact this
      generalize C[i - 1] = m1 at *
      generalize C[i] = m2 at *
      have k12 : TkOk (gi T (m1 : Int)) ∧ TkOk (gi T (m2 : Int)) ∧ (-1048576 ≤ s.MaxSpeed ∧ s.MaxSpeed ≤ 1048576) := ⟨hgo m1 hCj, hgo m2 hCi, hs⟩
      refine jD 33 33 (h := ?_)
      (repeat (refine wkH ?_))
      simp only [e2, decide_eq_true (show ((m2 : Nat) : Int) = ((m2 : Nat) : Int) from rfl), Bool.not_true]
      (repeat (refine wkH ?_))
      simp only [decide_eq_true (show (0 : Int) < (i : Int) by omega)]
      (repeat (refine wkH ?_))
      simp only [e1, e2]
      (repeat (refine wkH ?_))
      try simp only [e1, e2]
      (repeat (first | refine wkH ?_ | (refine tC rfl rfl ?_ ?_; focus (exact k12))))
      simp only [hcc, Bool.not_true]
      (repeat (refine wkH ?_))
      refine jh_nil ?_
      refine jn_nil ?_
      repeat (first | (refine wkB ?_; try intro _) | (refine sC rfl rfl ?_ ?_; focus (exact ⟨by omega, by omega⟩)) | (refine sN rfl rfl ?_ ?_; (focus (exact ⟨by omega, by omega⟩)); intro _; (try simp only [List.cons_append, List.nil_append, List.append_nil])) | refine sMu rfl ?_ | (refine sMm rfl rfl ?_; intro _) | (refine sRg rfl rfl ?_; intro _))
      exact jx_loop (i + 1) hlt sbB suB (by omega)
    · refine jD 33 33 (h := ?_)
      (repeat (refine wkH ?_))
      simp only [decide_eq_true (show gi (cI C) (i : Int) = gi (cI C) (i : Int) from rfl), Bool.not_true]
      (repeat (refine wkH ?_))
      simp only [decide_eq_false (show ¬ (0 : Int) < (i : Int) by omega)]
      (repeat (refine wkH ?_))
      refine jh_nil ?_
      refine jn_nil ?_
      repeat (first | (refine wkB ?_; try intro _) | (refine sC rfl rfl ?_ ?_; focus (exact ⟨by omega, by omega⟩)) | (refine sN rfl rfl ?_ ?_; (focus (exact ⟨by omega, by omega⟩)); intro _; (try simp only [List.cons_append, List.nil_append, List.append_nil])) | refine sMu rfl ?_ | (refine sMm rfl rfl ?_; intro _) | (refine sRg rfl rfl ?_; intro _))
      exact jx_loop (i + 1) hlt sbB suB (by omega)
  · repeat (first | (refine wkB ?_; try intro _) | (refine sC rfl rfl ?_ ?_; focus (first | exact trivial | assumption | constructor <;> assumption | exact mb2 rfl rfl | exact mb4 rfl rfl rfl rfl)) | (refine sN rfl rfl ?_ ?_; (focus (first | exact trivial | assumption | constructor <;> assumption | exact mb2 rfl rfl | exact mb4 rfl rfl rfl rfl)); intro _; (try simp only [List.cons_append, List.nil_append, List.append_nil])) | refine sMu rfl ?_ | (refine sMm rfl rfl ?_; intro _) | (refine sRg rfl rfl ?_; intro _))
    have hCC : ∀ p i, pickN (cCp s.MaxSpeed T) p (i + 1) = pickS (cCp s.MaxSpeed T) p (pickN (cCp s.MaxSpeed T) p i) i := fun _ _ => rfl
    have hfew := fun i => pickN_few (cCp s.MaxSpeed T) (chP ch) i
    refine j_loop (S := Nat) (fun i => i ≤ T.length) (fun i => [(2, .int .u16 ch), (7, vSl r), (8, .pointer (some ⟨b8, 0, none⟩)), (9, vSl c), (12, .int .i64 (lastI (pickN (cCp s.MaxSpeed T) (chP ch) i).1)), (13, .int .i64 ((pickN (cCp s.MaxSpeed T) (chP ch) i).2 : Nat)), (14, .int .i64 (i : Nat))]) (fun i => mS 3 c ++ (mS 36 r ++ [⟨b8, e_api_Settings s, 26⟩])) (fun i => T.length - i) 0 (Nat.zero_le _) sbB suB (fun i hi => ?_)
    have hnx := hCC (chP ch) i
    have hfi := hfew i
    have hpi := hpo (chP ch) i hi
    have hpl := hpk (chP ch)
    unfold pickS at hnx
    have hpm : ∀ q : Nat, (pickN (cCp s.MaxSpeed T) (chP ch) i).1 = some q → q < i := fun q h => (hpi.2 q h).1
    repeat (first | (refine wkB ?_; try intro _) | (refine sC rfl rfl ?_ ?_; focus (first | exact trivial | assumption | constructor <;> assumption | exact mb2 rfl rfl | exact mb4 rfl rfl rfl rfl)) | (refine sN rfl rfl ?_ ?_; (focus (first | exact trivial | assumption | constructor <;> assumption | exact mb2 rfl rfl | exact mb4 rfl rfl rfl rfl)); intro _; (try simp only [List.cons_append, List.nil_append, List.append_nil])) | refine sMu rfl ?_ | (refine sMm rfl rfl ?_; intro _) | (refine sRg rfl rfl ?_; intro _))
    refine j_cond rfl (fun h => ?_) (fun h => ?_)
    · have hlt : i < T.length := by have := of_decide_eq_true h; omega
      repeat (first | (refine wkB ?_; try intro _) | (refine sC rfl rfl ?_ ?_; focus (first | exact trivial | assumption | constructor <;> assumption | exact mb2 rfl rfl | exact mb4 rfl rfl rfl rfl)) | (refine sN rfl rfl ?_ ?_; (focus (first | exact trivial | assumption | constructor <;> assumption | exact mb2 rfl rfl | exact mb4 rfl rfl rfl rfl)); intro _; (try simp only [List.cons_append, List.nil_append, List.append_nil])) | refine sMu rfl ?_ | (refine sMm rfl rfl ?_; intro _) | (refine sRg rfl rfl ?_; intro _))
      generalize pickN (cCp s.MaxSpeed T) (chP ch) i = pk at *
      obtain ⟨o, n⟩ := pk
      simp only at hnx hfi hpm ⊢
      refine j_cut (S := Bool) (fun q => q = decide (chP ch i = true ∧ (o = none ∨ ∃ q, o = some q ∧ cCp s.MaxSpeed T q i = true))) (fun q => [(2, .int .u16 ch), (7, vSl r), (8, .pointer (some ⟨b8, 0, none⟩)), (9, vSl c), (12, .int .i64 (lastI o)), (13, .int .i64 (n : Nat)), (14, .int .i64 (i : Nat)), (99, .bool q)]) (fun _ => mS 3 c ++ (mS 36 r ++ [⟨b8, e_api_Settings s, 26⟩])) ?_ (fun q hq => ?_)
      · rcases r.cases 36 with ⟨x0, -, -⟩ | ⟨bs, cb, sp, hc1, x1, x2, xne⟩
        · rw [x0] at hlt
          cases hlt
        simp only [x1, x2, List.cons_append, List.nil_append]
        have hsh : 0 ≤ ch / 2 ^ ((i : Int)).toNat := Int.ediv_nonneg hch.1 (Int.le_of_lt (Int.pow_pos (by decide)))
        have hP : chP ch i = decide (ch / 2 ^ ((i : Int)).toNat % 2 = 1) := rfl
        rw [hP]
        repeat (first | (refine wkB ?_; try intro _) | (refine sC rfl rfl ?_ ?_; focus (first | exact trivial | assumption | constructor <;> assumption | exact mb2 rfl rfl | exact mb4 rfl rfl rfl rfl)) | (refine sN rfl rfl ?_ ?_; (focus (first | exact trivial | assumption | constructor <;> assumption | exact mb2 rfl rfl | exact mb4 rfl rfl rfl rfl)); intro _; (try simp only [List.cons_append, List.nil_append, List.append_nil])) | refine sMu rfl ?_ | (refine sMm rfl rfl ?_; intro _) | (refine sRg rfl rfl ?_; intro _))
        refine jD 21 21 (h := ?_)
        (repeat (refine wkH ?_))
        refine Go.Vt.hq (wl_shr rfl rfl (by simp only [IntKind.bits]; omega)) rfl rfl ?_
        generalize ch / 2 ^ ((i : Int)).toNat = z at *
        (repeat (refine wkH ?_))
        by_cases hz : z % 2 = 1
        · simp only [decide_eq_true hz]
          (repeat (refine wkH ?_))
          cases o with
          | none =>
            have hd : decide (true = true ∧ ((none : Option Nat) = none ∨ ∃ q, (none : Option Nat) = some q ∧ cCp s.MaxSpeed T q i = true)) = true := decide_eq_true ⟨rfl, .inl rfl⟩
            simp only [lastI, decide_eq_true (show (-1 : Int) < 0 by decide)]
            (repeat (refine wkH ?_))
            refine jh_nil ?_
            refine jn_nil ?_
            repeat (first | (refine wkB ?_; try intro _) | (refine sC rfl rfl ?_ ?_; focus (first | exact trivial | assumption | constructor <;> assumption | exact mb2 rfl rfl | exact mb4 rfl rfl rfl rfl)) | (refine sN rfl rfl ?_ ?_; (focus (first | exact trivial | assumption | constructor <;> assumption | exact mb2 rfl rfl | exact mb4 rfl rfl rfl rfl)); intro _; (try simp only [List.cons_append, List.nil_append, List.append_nil])) | refine sMu rfl ?_ | (refine sMm rfl rfl ?_; intro _) | (refine sRg rfl rfl ?_; intro _))
            exact jx_mid true hd.symm sbB suB
          | some q =>
            have hqi := hpm q rfl
            have hd : decide (true = true ∧ ((some q : Option Nat) = none ∨ ∃ q', (some q : Option Nat) = some q' ∧ cCp s.MaxSpeed T q' i = true)) = cCp s.MaxSpeed T q i := by
              cases hcq : cCp s.MaxSpeed T q i
              · exact decide_eq_false fun h => by
                  rcases h.2 with h1 | ⟨q', h1, h2⟩
                  · cases h1
                  · injection h1 with h1
                    subst h1
                    rw [hcq] at h2
                    cases h2
              · exact decide_eq_true ⟨rfl, .inr ⟨q, rfl, hcq⟩⟩
            have k12 : TkOk (gi T (q : Int)) ∧ TkOk (gi T (i : Int)) ∧ (-1048576 ≤ s.MaxSpeed ∧ s.MaxSpeed ≤ 1048576) := ⟨hgo q (by omega), hgo i hlt, hs⟩
            simp only [lastI, decide_eq_false (show ¬ (q : Int) < 0 by omega)]
            (repeat (first | refine wkH ?_ | (refine tC rfl rfl ?_ ?_; focus (exact k12))))
            refine jh_nil ?_
            refine jn_nil ?_
            repeat (first | (refine wkB ?_; try intro _) | (refine sC rfl rfl ?_ ?_; focus (first | exact trivial | assumption | constructor <;> assumption | exact mb2 rfl rfl | exact mb4 rfl rfl rfl rfl)) | (refine sN rfl rfl ?_ ?_; (focus (first | exact trivial | assumption | constructor <;> assumption | exact mb2 rfl rfl | exact mb4 rfl rfl rfl rfl)); intro _; (try simp only [List.cons_append, List.nil_append, List.append_nil])) | refine sMu rfl ?_ | (refine sMm rfl rfl ?_; intro _) | (refine sRg rfl rfl ?_; intro _))
            exact jx_mid (cpt s.MaxSpeed (gi T (q : Int)) (gi T (i : Int))) (hd.symm.trans (by simp)) sbB suB
        · have hd : decide (false = true ∧ (o = none ∨ ∃ q, o = some q ∧ cCp s.MaxSpeed T q i = true)) = false := decide_eq_false fun h => by cases h.1
          simp only [decide_eq_false hz]
          (repeat (refine wkH ?_))
          refine jh_nil ?_
          refine jn_nil ?_
          repeat (first | (refine wkB ?_; try intro _) | (refine sC rfl rfl ?_ ?_; focus (first | exact trivial | assumption | constructor <;> assumption | exact mb2 rfl rfl | exact mb4 rfl rfl rfl rfl)) | (refine sN rfl rfl ?_ ?_; (focus (first | exact trivial | assumption | constructor <;> assumption | exact mb2 rfl rfl | exact mb4 rfl rfl rfl rfl)); intro _; (try simp only [List.cons_append, List.nil_append, List.append_nil])) | refine sMu rfl ?_ | (refine sMm rfl rfl ?_; intro _) | (refine sRg rfl rfl ?_; intro _))
          exact jx_mid false hd.symm sbB suB
      · by_cases hP : chP ch i = true ∧ (o = none ∨ ∃ q, o = some q ∧ cCp s.MaxSpeed T q i = true)
        · rw [decide_eq_true hP] at hq
          subst hq
          rw [if_pos hP] at hnx
          repeat (first | (refine wkB ?_; try intro _) | (refine sC rfl rfl ?_ ?_; focus (exact ⟨by omega, by omega⟩)) | (refine sN rfl rfl ?_ ?_; (focus (exact ⟨by omega, by omega⟩)); intro _; (try simp only [List.cons_append, List.nil_append, List.append_nil])) | refine sMu rfl ?_ | (refine sMm rfl rfl ?_; intro _) | (refine sRg rfl rfl ?_; intro _))
          exact jx_loop (i + 1) hlt (by simp only [hnx, lastI]; exact sbB) suB (by omega)
        · rw [decide_eq_false hP] at hq
          subst hq
          rw [if_neg hP] at hnx
          repeat (first | (refine wkB ?_; try intro _) | (refine sC rfl rfl ?_ ?_; focus (exact ⟨by omega, by omega⟩)) | (refine sN rfl rfl ?_ ?_; (focus (exact ⟨by omega, by omega⟩)); intro _; (try simp only [List.cons_append, List.nil_append, List.append_nil])) | refine sMu rfl ?_ | (refine sMm rfl rfl ?_; intro _) | (refine sRg rfl rfl ?_; intro _))
          exact jx_loop (i + 1) hlt (by simp only [hnx]; exact sbB) suB (by omega)
    · have hge : i = T.length := by have := of_decide_eq_false h; omega
      subst hge
      repeat (first | (refine wkB ?_; try intro _) | (refine sC rfl rfl ?_ ?_; focus (first | exact trivial | assumption | constructor <;> assumption | exact mb2 rfl rfl | exact mb4 rfl rfl rfl rfl)) | (refine sN rfl rfl ?_ ?_; (focus (first | exact trivial | assumption | constructor <;> assumption | exact mb2 rfl rfl | exact mb4 rfl rfl rfl rfl)); intro _; (try simp only [List.cons_append, List.nil_append, List.append_nil])) | refine sMu rfl ?_ | (refine sMm rfl rfl ?_; intro _) | (refine sRg rfl rfl ?_; intro _))
      simp only [decide_eq_true (show (((pickN (cCp s.MaxSpeed T) (chP ch) T.length).2 : Nat) : Int) ≤ (((cI C).length : Nat) : Int) by omega)]
      exact jx_ret_tmp rfl rfl (fun w hw => ret_ok hw)
end Go.Vt
/- The card of ReconstructChains. Conditions: none. -/
set_option linter.unusedSimpArgs false
set_option linter.unusedVariables false
set_option maxHeartbeats 2000000
namespace Go.Proofs.YtecgnhneekbhgaaGreatDoor
open Go.ChangeShapes Go.WideShapes Go.ChangeAt Go.RowKit Go.Deep
set_option maxRecDepth 100000
def chaArgs : Array Value := #[.slice none 0 0, .int .u8 0, .int .u16 0]
theorem cha_reads (os : Os) {H : Type} (enc : TypeId × Value → H) : ∃ places, DataW.whole enc Tryz.prog ((laidWorld os).forCall (fun _ _ => 0) ⟨#[], chaArgs, []⟩).memory Tryz.f4.params.toList Rows.reconstructChainsSpec.vars false chaArgs.toList 8 = some ([.nil, .lit (.int .u8 0), .lit (.int .u16 0)], [], places) :=
  ⟨[], by kernel_rfl⟩
theorem cha_contract (H : Type) (enc : TypeId × Value → H) (W : World) (base : Nat) (args : Array Value) (ds gs : List (DataW H)) (before : List MemPlace)
    (hval : ∀ (j : Nat) t v, Tryz.f4.params[j]? = some t → args[j]? = some v → Value.okWide Tryz.prog W .any base t v)
    (hW : DataW.Whole enc Tryz.prog Tryz.f4.params.toList Rows.reconstructChainsSpec.vars false W args.toList ds gs before) :
    Calls Tryz.prog 4 args W fun e W' => ∃ v, e = .returned v ∧ Rows.reconstructChainsSpec.post enc Tryz.prog Tryz.f4 false true false false W args v W' := by
  have hW' := hW
  obtain ⟨p, q, hA0, hV, rfl, hfz, hnd⟩ := hW
  have hA : DataW.TrodAll enc Tryz.prog W 0 (fun _ => true) true Tryz.f4.params.toList args.toList ds p := hA0
  rw [Tryz.params4] at hA hval
  obtain ⟨v0, vs0, d0, ds0, p0, q0, hargs0, rfl, rfl, h0, r0⟩ := trodAll_cons hA
  obtain ⟨v1, vs1, d1, ds1, p1, q1, hargs1, rfl, rfl, h1, r1⟩ := trodAll_cons r0
  obtain ⟨v2, vs2, d2, ds2, p2, q2, hargs2, rfl, rfl, h2, r2⟩ := trodAll_cons r1
  subst hargs2
  subst hargs1
  obtain ⟨rfl, rfl, rfl⟩ := trodAll_nil r2
  obtain rfl : args = #[v0, v1, v2] := by cases args; simp_all
  obtain ⟨rfl, rfl⟩ := trodVars_none hV
  clear hA0
  simp only [List.append_nil] at hW'
  have hlt : ∀ x ∈ p0 ++ (p1 ++ (p2)), x.block < W.heap.size := fun x hx => by simpa using hW'.lt x hx
  obtain ⟨n1, rfl, rfl, rfl, hw1⟩ := open_int runder5 (hval 1 5 v1 rfl rfl) h1
  obtain ⟨n2, rfl, rfl, rfl, hw2⟩ := open_int runder39 (hval 2 39 v2 rfl rfl) h2
  have h0k := h0
  obtain ⟨fuel, hf⟩ := h0
  obtain ⟨ss, hws, hok, hlen⟩ := open_spots (okWide_slice Tryz.underlying22 (hval 0 22 v0 rfl rfl)) hf
  refine (Go.Vt.lchains_spec v0 ss n1 n2 W hws hlen hok (u8_wf hw1) (u16_wf hw2)).mono fun e' W' ⟨he', ⟨hb, _⟩⟩ => ?_
  subst he'
  simp only [List.append_nil] at hlt hW'
  exact ⟨_, rfl, ⟨_, _, _, [], _, [], hW', trodAll_mk1 (shut_bool Tryz.underlying4 _), trodAll_mk3 (Below.trod rlaidOut (by kernel_rfl) (of_decide_eq_true (by kernel_rfl)) h0k hb (fun x hx => hlt x (by simp [hx]))) (shut_int runder5 hw1) (shut_int runder39 hw2), (by first | rfl | (simp; done)), hb.frame _, fun h => by cases h⟩⟩
theorem cha_lifted (os : Os) (started : os.Started) (H : Type) (enc : TypeId × Value → H) (F : Stop.Interp) :
    ReturnsInHanded {} Tryz.checked os 4 .any ((OpenSpec.ofChange Rows.reconstructChainsSpec).preRow enc Tryz.prog Tryz.f4 Rows.reconstructChainsRow.domain false Rows.reconstructChainsRow.laid) (((OpenSpec.ofChange Rows.reconstructChainsSpec).at F).post enc Tryz.prog Tryz.f4 false true false false) := by
  obtain ⟨places, hx⟩ := cha_reads os enc
  refine returnsInHanded_of_row (C := Tryz.checked) (s := OpenSpec.ofChange Rows.reconstructChainsSpec) rown started (by kernel_rfl) Tryz.func4
    (witness_row_at (enc := enc) (C := Tryz.checked) false (laidWorld os) chaArgs rfl (by kernel_rfl) (by kernel_rfl) (by kernel_rfl)
      (OpenSpec.preRow_of_cond 8 hx (by kernel_rfl) (fun k hk => by cases hk) (by kernel_rfl) (laid_met os _))) ?_
  intro W base args ds gs before hval hW _ _ _ _ _ _
  exact cha_contract H enc W base args ds gs before hval hW
theorem cha_said : Rows.ReconstructChainsSaid :=
  OpenClaim.holds_of_cond 4 Tryz.f4 rfl rfl rfl rfl rfl rfl rfl ⟨rfl, rfl, rfl, rfl, rfl⟩ rfl rfl rfl rfl rfl (by kernel_rfl) Tryz.func4 (by kernel_rfl)
    (of_decide_eq_true (by kernel_rfl)) (by unfold Func.isWrapper; first | (rw [if_pos (by decide +kernel)]; kernel_rfl) | (rw [if_neg (by decide +kernel)]; exact ⟨rfl, rfl⟩))
    (fun os started H enc _ F => by rw [OpenClaim.pre_eq_preRow]; exact cha_lifted os started H enc F)
theorem cha_plain (f : FuncId) (fn : Func) (hf : Tryz.pinned.checked.prog.funcNamed "viator/viatorlaw28.ReconstructChains" = some f) (hfn : Tryz.pinned.checked.prog.funcs[f]? = some fn) :
    false = Tryz.pinned.checked.prog.looks [] ∧ ∀ (j : Nat) t, fn.params[j]? = some t → Tryz.pinned.checked.prog.wantsStandIn t = false := by
  obtain rfl : f = 4 := Option.some.inj ((show Tryz.prog.funcNamed "viator/viatorlaw28.ReconstructChains" = some 4 by kernel_rfl).symm.trans hf) |>.symm
  obtain rfl : fn = Tryz.f4 := (Option.some.inj (Tryz.func4.symm.trans hfn)).symm
  refine ⟨by kernel_rfl, fun j t ht => ?_⟩
  rw [Tryz.params4] at ht
  have := Array.mem_of_getElem? ht
  simp at this
  rcases this with rfl | rfl | rfl
  · exact (show Tryz.prog.wantsStandIn 22 = false by kernel_rfl)
  · exact (show Tryz.prog.wantsStandIn 5 = false by kernel_rfl)
  · exact (show Tryz.prog.wantsStandIn 39 = false by kernel_rfl)
/-- The card. -/
theorem reconstructChains_card : Rows.ReconstructChainsCardSaid :=
  Claim7.holds_tied_plain_at .later [] _ _ _ _ cha_said (fun _ h => by cases h) (by kernel_rfl) (fun _ h => by cases h) reconstructChains_row_tie rfl ⟨rfl, rfl⟩ (by kernel_rfl) rfl cha_plain (by kernel_rfl)
end Go.Proofs.YtecgnhneekbhgaaGreatDoor
