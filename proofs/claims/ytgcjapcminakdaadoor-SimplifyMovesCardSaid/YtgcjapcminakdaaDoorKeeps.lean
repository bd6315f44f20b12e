/- P31.4 walked. Conditions: those that each statement names. -/
import Derived.Test.YtgcjapcminakdaaDoorKnown
set_option linter.unusedSimpArgs false
set_option linter.unusedVariables false
set_option maxRecDepth 100000
namespace Go.Vt
open Go.RowKit Go.Proofs

/-! ### Facts about the decoded run -/
theorem M_small {n : Int} (h : 0 ≤ n ∧ n < 256) : M (n : Rat) ≤ 1 := by
  rw [M_int]
  have := mg_small (n := n) (k := 1) (by omega)
  omega
theorem pA_bnd (ws : List WStep) : ∀ m, m ≤ 7 → ∀ x ∈ (pA ws m).1, M x.T ≤ PB ∧ M x.P.X ≤ PB ∧ M x.P.Y ≤ PB
  | 0, _, x, hx => by cases hx
  | m + 1, hm, x, hx => by
    rw [pA] at hx
    rcases List.mem_append.1 hx with h | h
    · exact pA_bnd ws m (by omega) x h
    · rw [List.mem_singleton] at h
      subst h
      have h1 := pA_time ws (m + 1)
      rw [pA] at h1
      simp only at h1 ⊢
      have h2 := M_small (n := (gi ws (m : Int)).X % 32) (by omega)
      have h3 := M_small (n := (gi ws (m : Int)).Y % 32) (by omega)
      exact ⟨Nat.le_trans h1 (Nat.le_trans (show 2 * (m + 1) + 1 ≤ 100 by omega) (by decide)), Nat.le_trans h2 (by decide), Nat.le_trans h3 (by decide)⟩
theorem ptsW_bnd (ws : List WStep) : Bnd (ptsW ws) := by
  unfold ptsW
  split
  · exact bnd_of (by decide +kernel)
  · exact bnd_of (pA_bnd ws _ (by omega))
theorem ptsW_len (ws : List WStep) : 1 ≤ (ptsW ws).length ∧ (ptsW ws).length ≤ 7 := by
  unfold ptsW
  split
  · exact ⟨Nat.le_refl _, by decide⟩
  · rw [pA_len]
    omega
theorem half_pos (n : Int) (h : 0 < n) : 0 < Rat.divInt n 2 := by
  rw [Rat.divInt_eq_div]
  have h1 : (0 : Rat) < ((n : Int) : Rat) := by exact_mod_cast h
  have : ((2 : Int) : Rat) = 2 := rfl
  rw [this]
  grind
theorem pA_le (ws : List WStep) : ∀ m (i : Nat), i < m → (gi (pA ws m).1 (i : Int)).T ≤ (pA ws m).2
  | 0, i, hi => by omega
  | m + 1, i, hi => by
    have hp := half_pos (1 + (gi ws (m : Int)).Time % 8) (by omega)
    have hlen := pA_len ws m
    have hnext : (pA ws m).2 < (pA ws (m + 1)).2 := by
      rw [pA]
      simp only
      grind
    rcases (by omega : i < m ∨ i = m) with h | rfl
    · have hg : gi (pA ws (m + 1)).1 (i : Int) = gi (pA ws m).1 (i : Int) := by
        rw [pA]
        unfold gi
        simp only [Int.toNat_natCast, List.getD_eq_getElem?_getD]
        rw [List.getElem?_append_left (by omega)]
      rw [hg]
      exact Rat.le_trans (pA_le ws m i h) (Rat.le_of_lt hnext)
    · have hlast : gi (pA ws (i + 1)).1 (i : Int) = ⟨(pA ws (i + 1)).2, ⟨(((gi ws (i : Int)).X % 32 : Int) : Rat), (((gi ws (i : Int)).Y % 32 : Int) : Rat)⟩⟩ := by
        rw [pA]
        unfold gi
        simp only [Int.toNat_natCast, List.getD_eq_getElem?_getD]
        rw [List.getElem?_append_right (by omega), hlen, Nat.sub_self]
        rfl
      rw [hlast]
      exact Rat.le_refl
/-- The times of a run increase. -/
theorem pA_inc (ws : List WStep) : ∀ m (i j : Nat), i < j → j < m → (gi (pA ws m).1 (i : Int)).T < (gi (pA ws m).1 (j : Int)).T ∧ (gi (pA ws m).1 (j : Int)).T ≤ (pA ws m).2
  | 0, i, j, _, hj => by omega
  | m + 1, i, j, hij, hj => by
    have hp := half_pos (1 + (gi ws (m : Int)).Time % 8) (by omega)
    have hlen := pA_len ws m
    have hget : ∀ k : Nat, k < m → gi (pA ws (m + 1)).1 (k : Int) = gi (pA ws m).1 (k : Int) := fun k hk => by
      rw [pA]
      unfold gi
      simp only [Int.toNat_natCast, List.getD_eq_getElem?_getD]
      rw [List.getElem?_append_left (by omega)]
    have hlast : gi (pA ws (m + 1)).1 (m : Int) = ⟨(pA ws (m + 1)).2, ⟨(((gi ws (m : Int)).X % 32 : Int) : Rat), (((gi ws (m : Int)).Y % 32 : Int) : Rat)⟩⟩ := by
      rw [pA]
      unfold gi
      simp only [Int.toNat_natCast, List.getD_eq_getElem?_getD]
      rw [List.getElem?_append_right (by omega), hlen, Nat.sub_self]
      rfl
    have hnext : (pA ws m).2 < (pA ws (m + 1)).2 := by
      rw [pA]
      simp only
      grind
    rcases (by omega : j < m ∨ j = m) with h | rfl
    · rw [hget i (by omega), hget j h]
      have h3 := pA_inc ws m i j hij h
      exact ⟨h3.1, Rat.le_trans h3.2 (Rat.le_of_lt hnext)⟩
    · rw [hget i hij, hlast]
      refine ⟨?_, Rat.le_refl⟩
      have h4 : (gi (pA ws j).1 (i : Int)).T ≤ (pA ws j).2 := pA_le ws j i hij
      simp only
      grind
theorem bst_congr {ok ok' : Nat → Nat → Bool} {l : Nat} (h : ∀ i k, i < k → k ≤ l → ok i k = ok' i k) : ∀ (f : Nat) (bg : List Int), lst bg ≤ l → bst ok l f bg = bst ok' l f bg
  | 0, _, _ => by rw [bst, bst]
  | f + 1, bg, hl => by
    rw [bst, bst]
    split
    · rfl
    · have hb : ∀ q, lst bg + q ≤ l → bf (fun k => bst ok l f (bg ++ [(k : Int)])) (ok (lst bg)) (lst bg) q = bf (fun k => bst ok' l f (bg ++ [(k : Int)])) (ok' (lst bg)) (lst bg) q := fun q => by
        induction q with
        | zero => intro _; rfl
        | succ q ih =>
          intro hq
          rw [bf, bf, ih (by omega), h _ _ (by omega) (by omega), bst_congr h f _ (by rw [lst_snoc]; omega)]
      exact hb _ (by omega)
theorem dst_M (n : Int) : M (dst n) ≤ 1 := M_divInt (mg_small (by omega)) (by decide) (Nat.le_refl _)
theorem dst_nonneg (n : Int) : 0 ≤ dst n := by
  unfold dst
  rw [Rat.divInt_eq_div]
  have h1 : (0 : Rat) ≤ ((n % 128 : Int) : Rat) := by exact_mod_cast (by omega : 0 ≤ n % 128)
  have : ((4 : Int) : Rat) = 4 := rfl
  rw [this]
  grind
theorem ptsW_inc (ws : List WStep) (i j : Nat) (hij : i < j) (hj : j < (ptsW ws).length) : (gi (ptsW ws) (i : Int)).T < (gi (ptsW ws) (j : Int)).T := by
  unfold ptsW at hj ⊢
  split
  · rename_i h
    rw [if_pos h] at hj
    simp only [List.length_singleton] at hj
    omega
  · rename_i h
    rw [if_neg h, pA_len] at hj
    exact (pA_inc ws _ i j hij hj).1
theorem okr_okd {pts : List R_movingpoint_Sample} {mo : Rat} {i k : Nat} (h : (gi pts (i : Int)).T < (gi pts (k : Int)).T) : okr pts mo i k = okd pts mo i k := by
  unfold okr okd
  rw [rv_dv h]
/-- The program's list is the reference's. -/
theorem kept_ref (ws : List WStep) (d : Rat) : keptL (okd (ptsW ws) (d * d)) ((ptsW ws).length - 1) = bst (okr (ptsW ws) (d * d)) ((ptsW ws).length - 1) ((ptsW ws).length - 1) [0] := by
  rw [kept_best (fun i _ => okd_next i)]
  have hl := ptsW_len ws
  exact (bst_congr (fun i k h1 h2 => okr_okd (ptsW_inc ws i k h1 (by omega))) _ _ (Nat.zero_le _)).symm
theorem keeps_spec (v : Value) (ws : List WStep) (d : Int) (hd : 0 ≤ d ∧ d ≤ 255) (hws : WOk ws) (w : World) (hv : ArgS w v e_st_Time_X_Y ws) (hlen : ws.length ≤ 9223372036854775807) :
    Calls Tryd.prog 3 [v, .int .u8 d].toArray w (Ret (.bool true) w) := by
  have := ArgC.mk hv
  have hr : ∀ c, (ptsW ws).length ≤ c → RunOk (ptsW ws) (ptsW ws).length c := fun c hc => ⟨rfl, hc, by have := ptsW_len ws; omega, ptsW_bnd ws⟩
  have hl := ptsW_len ws
  have hM : M (dst d) ≤ 1073741824 := Nat.le_trans (dst_M d) (by decide)
  refine fn_intro Tryd.func3 rfl Tryd.ntmps3 rfl ?_
  repeat (first | refine sX rfl rfl ?_ | (refine sS rfl rfl ?_ ?_; focus omega) | (refine sC rfl rfl ?_ ?_; focus (first | exact trivial | exact ⟨by omega, by omega⟩ | exact ⟨⟨by omega, by omega⟩, hws, hlen⟩)) | refine cX ?_ | refine cY ?_ | (refine sA rfl rfl ?_; intro _) | refine sT rfl ?_ | refine sF rfl ?_ | (refine sR rfl ?_ ?_; focus omega) | (refine sB rfl rfl ?_; intro _) | (refine sN rfl rfl ?_ ?_; (focus (first | exact trivial | exact ⟨by omega, by omega⟩ | exact ⟨⟨by omega, by omega⟩, hws, hlen⟩)); intro _; simp only [List.cons_append, List.nil_append]) | refine sW rfl rfl ?_ | refine sK rfl rfl ?_ | refine j_if rfl ?_ | refine j_else rfl ?_ | refine Go.Vt.jq (wl_pickT rfl rfl) rfl rfl ?_ | refine Go.Vt.jq (wl_pickF rfl rfl) rfl rfl ?_)
  rename_i sr br
  obtain ⟨⟨bp, cp, spp⟩, hcp⟩ := sr
  simp only at hcp ⊢
  have hneg : (((-1 - d : Int)) : Rat) < 0 := by exact_mod_cast (by omega : (-1 - d : Int) < 0)
  (refine j_late3 [0, 1, 2] [3] [4, 5, 6, 7, 8] ([⟨br, cRun (runI (ptsW ws) 0) bp (ptsW ws).length cp, 35⟩, ⟨bp, row rS (ptsW ws) spp, 52⟩]) mixed (by kernel_rfl) (by decide) (by repeat (first | exact List.Sublist.refl _ | exact List.nil_sublist _ | refine List.Sublist.cons_cons _ ?_ | refine List.Sublist.cons _ ?_ | refine List.Sublist.trans ?_ (List.sublist_append_right _ _))) ?_; simp only [picks, List.getElem?_cons_succ, List.getElem?_cons_zero])
  repeat (first | refine tX rfl rfl ?_ | (refine tS rfl rfl ?_ ?_; focus omega) | (refine tC rfl rfl ?_ ?_; focus (exact ⟨by omega, by omega⟩)) | refine tW rfl rfl ?_ | refine tK rfl rfl ?_ | refine Go.Vt.hq (wl_pickT rfl rfl) rfl rfl ?_ | refine Go.Vt.hq (wl_pickF rfl rfl) rfl rfl ?_)
  repeat (first | refine eS rfl rfl ?_ | refine uP rfl rfl rfl rfl ?_ | refine uQ rfl rfl rfl rfl ?_ | refine eX rfl rfl ?_ | (refine uS rfl rfl ?_ ?_; focus omega) | (refine uC rfl rfl ?_ ?_; focus (exact ⟨hr _ hcp, ⟨hl.1, by omega⟩, hM, dst_nonneg d⟩)) | refine uW rfl rfl ?_ | refine eF rfl ?_ | refine eT rfl ?_ | (refine eA rfl rfl ?_; intro _) | (refine eB rfl rfl ?_; intro _) | (refine eN rfl rfl ?_ ?_; (focus (exact ⟨hr _ hcp, ⟨hl.1, by omega⟩, hM, dst_nonneg d⟩)); intro _; simp only [List.cons_append, List.nil_append]) | refine je_nil ?_ | refine tX rfl rfl ?_ | (refine tS rfl rfl ?_ ?_; focus omega) | (refine tC rfl rfl ?_ ?_; focus (exact ⟨hr _ hcp, ⟨hl.1, by omega⟩, hM, dst_nonneg d⟩)) | refine tW rfl rfl ?_ | refine tK rfl rfl ?_ | refine Go.Vt.hq (wl_pickT rfl rfl) rfl rfl ?_ | refine Go.Vt.hq (wl_pickF rfl rfl) rfl rfl ?_ | refine jh_nil ?_)
  rename_i sk
  obtain ⟨⟨bk, ck, spk⟩, hck⟩ := sk
  simp only at hck ⊢
  repeat (first | refine sX rfl rfl ?_ | (refine sS rfl rfl ?_ ?_; focus omega) | (refine sC rfl rfl ?_ ?_; focus (first | exact trivial | assumption | exact ⟨by assumption, by assumption⟩ | exact mb2 rfl rfl | exact mb4 rfl rfl rfl rfl)) | refine cX ?_ | refine cY ?_ | (refine sA rfl rfl ?_; intro _) | refine sT rfl ?_ | refine sF rfl ?_ | (refine sR rfl ?_ ?_; focus omega) | (refine sB rfl rfl ?_; intro _) | (refine sN rfl rfl ?_ ?_; (focus (first | exact trivial | assumption | exact ⟨by assumption, by assumption⟩ | exact mb2 rfl rfl | exact mb4 rfl rfl rfl rfl)); intro _; simp only [List.cons_append, List.nil_append]) | refine sW rfl rfl ?_ | refine sK rfl rfl ?_ | refine j_if rfl ?_ | refine j_else rfl ?_ | refine Go.Vt.jq (wl_pickT rfl rfl) rfl rfl ?_ | refine Go.Vt.jq (wl_pickF rfl rfl) rfl rfl ?_)
  (refine j_phases [([0, 1, 2, 3, 4, 5, 6, 7, 8, 9, 10], [])] ([⟨br, cRun (runI (ptsW ws) 0) bp (ptsW ws).length cp, 35⟩, ⟨bp, row rS (ptsW ws) spp, 52⟩]) mixed (by kernel_rfl) (by repeat (first | exact List.Sublist.refl _ | exact List.nil_sublist _ | refine List.Sublist.cons_cons _ ?_ | refine List.Sublist.cons _ ?_ | refine List.Sublist.trans ?_ (List.sublist_append_right _ _))) ?_; simp only [JP, picks, List.getElem?_cons_succ, List.getElem?_cons_zero])
  repeat (first | refine tX rfl rfl ?_ | (refine tS rfl rfl ?_ ?_; focus omega) | (refine tC rfl rfl ?_ ?_; focus (first | exact hneg | exact ⟨by omega, by omega⟩)) | refine tW rfl rfl ?_ | refine tK rfl rfl ?_ | refine Go.Vt.hq (wl_pickT rfl rfl) rfl rfl ?_ | refine Go.Vt.hq (wl_pickF rfl rfl) rfl rfl ?_)
  repeat (first | refine eS rfl rfl ?_ | refine uP rfl rfl rfl rfl ?_ | refine uQ rfl rfl rfl rfl ?_ | refine eX rfl rfl ?_ | (refine uS rfl rfl ?_ ?_; focus omega) | (refine uC rfl rfl ?_ ?_; focus (first | exact trivial | assumption | exact ⟨by assumption, by assumption⟩ | exact mb2 rfl rfl | exact mb4 rfl rfl rfl rfl)) | refine uW rfl rfl ?_ | refine eF rfl ?_ | refine eT rfl ?_ | (refine eA rfl rfl ?_; intro _) | (refine eB rfl rfl ?_; intro _) | (refine eN rfl rfl ?_ ?_; (focus (first | exact trivial | assumption | exact ⟨by assumption, by assumption⟩ | exact mb2 rfl rfl | exact mb4 rfl rfl rfl rfl)); intro _; simp only [List.cons_append, List.nil_append]) | refine je_nil ?_ | refine tX rfl rfl ?_ | (refine tS rfl rfl ?_ ?_; focus omega) | (refine tC rfl rfl ?_ ?_; focus (first | exact trivial | assumption | exact ⟨by assumption, by assumption⟩ | exact mb2 rfl rfl | exact mb4 rfl rfl rfl rfl)) | refine tW rfl rfl ?_ | refine tK rfl rfl ?_ | refine Go.Vt.hq (wl_pickT rfl rfl) rfl rfl ?_ | refine Go.Vt.hq (wl_pickF rfl rfl) rfl rfl ?_ | refine jh_nil ?_)
  repeat (first | refine sX rfl rfl ?_ | (refine sS rfl rfl ?_ ?_; focus omega) | (refine sC rfl rfl ?_ ?_; focus (first | exact trivial | assumption | exact ⟨by assumption, by assumption⟩ | exact mb2 rfl rfl | exact mb4 rfl rfl rfl rfl)) | refine cX ?_ | refine cY ?_ | (refine sA rfl rfl ?_; intro _) | refine sT rfl ?_ | refine sF rfl ?_ | (refine sR rfl ?_ ?_; focus omega) | (refine sB rfl rfl ?_; intro _) | (refine sN rfl rfl ?_ ?_; (focus (first | exact trivial | assumption | exact ⟨by assumption, by assumption⟩ | exact mb2 rfl rfl | exact mb4 rfl rfl rfl rfl)); intro _; simp only [List.cons_append, List.nil_append]) | refine sW rfl rfl ?_ | refine sK rfl rfl ?_ | refine j_if rfl ?_ | refine j_else rfl ?_ | refine Go.Vt.jq (wl_pickT rfl rfl) rfl rfl ?_ | refine Go.Vt.jq (wl_pickF rfl rfl) rfl rfl ?_)
  have hkb := kept_ref ws (dst d)
  rw [hkb] at hck ⊢
  (refine j_phases [([0, 1, 2, 3], [4, 5, 6, 7, 8, 9, 10, 11, 12, 13, 14, 15, 16, 17, 18, 19])] ([⟨bk, row (eI .i64) (bst (okr (ptsW ws) (dst d * dst d)) ((ptsW ws).length - 1) ((ptsW ws).length - 1) [0]) spk, 3⟩, ⟨br, cRun (runI (ptsW ws) 0) bp (ptsW ws).length cp, 35⟩, ⟨bp, row rS (ptsW ws) spp, 52⟩]) mixed (by kernel_rfl) (by repeat (first | exact List.Sublist.refl _ | exact List.nil_sublist _ | refine List.Sublist.cons_cons _ ?_ | refine List.Sublist.cons _ ?_ | refine List.Sublist.trans ?_ (List.sublist_append_right _ _))) ?_; simp only [JP, picks, List.getElem?_cons_succ, List.getElem?_cons_zero])
  repeat (first | refine tX rfl rfl ?_ | (refine tS rfl rfl ?_ ?_; focus omega) | (refine tC rfl rfl ?_ ?_; focus (first | exact ⟨by omega, by omega⟩)) | refine tW rfl rfl ?_ | refine tK rfl rfl ?_ | refine Go.Vt.hq (wl_pickT rfl rfl) rfl rfl ?_ | refine Go.Vt.hq (wl_pickF rfl rfl) rfl rfl ?_)
  have hbl : (bst (okr (ptsW ws) (dst d * dst d)) ((ptsW ws).length - 1) ((ptsW ws).length - 1) [0]).length ≤ 1099511627776 := Nat.le_trans (bst_len _ _ (by decide) (Nat.zero_le _)) (by omega)
  repeat (first | refine eS rfl rfl ?_ | refine uP rfl rfl rfl rfl ?_ | refine uQ rfl rfl rfl rfl ?_ | refine eX rfl rfl ?_ | (refine uS rfl rfl ?_ ?_; focus omega) | (refine uC rfl rfl ?_ ?_; focus (first | exact ⟨hr _ hcp, ⟨hl.1, by omega⟩, hM⟩ | exact hbl)) | refine uW rfl rfl ?_ | refine eF rfl ?_ | refine eT rfl ?_ | (refine eA rfl rfl ?_; intro _) | (refine eB rfl rfl ?_; intro _) | (refine eN rfl rfl ?_ ?_; (focus (first | exact ⟨hr _ hcp, ⟨hl.1, by omega⟩, hM⟩ | exact hbl)); intro _; simp only [List.cons_append, List.nil_append]) | refine je_nil ?_ | refine tX rfl rfl ?_ | (refine tS rfl rfl ?_ ?_; focus omega) | (refine tC rfl rfl ?_ ?_; focus (first | exact ⟨hr _ hcp, ⟨hl.1, by omega⟩, hM⟩ | exact hbl)) | refine tW rfl rfl ?_ | refine tK rfl rfl ?_ | refine Go.Vt.hq (wl_pickT rfl rfl) rfl rfl ?_ | refine Go.Vt.hq (wl_pickF rfl rfl) rfl rfl ?_ | refine jh_nil ?_)
  simp only [decide_eq_true (rfl : bst (okr (ptsW ws) (dst d * dst d)) ((ptsW ws).length - 1) ((ptsW ws).length - 1) [0] = bst (okr (ptsW ws) (dst d * dst d)) ((ptsW ws).length - 1) ((ptsW ws).length - 1) [0])]
  repeat (first | refine eS rfl rfl ?_ | refine uP rfl rfl rfl rfl ?_ | refine uQ rfl rfl rfl rfl ?_ | refine eX rfl rfl ?_ | (refine uS rfl rfl ?_ ?_; focus omega) | (refine uC rfl rfl ?_ ?_; focus (first | exact trivial | assumption | exact ⟨by assumption, by assumption⟩ | exact mb2 rfl rfl | exact mb4 rfl rfl rfl rfl)) | refine uW rfl rfl ?_ | refine eF rfl ?_ | refine eT rfl ?_ | (refine eA rfl rfl ?_; intro _) | (refine eB rfl rfl ?_; intro _) | (refine eN rfl rfl ?_ ?_; (focus (first | exact trivial | assumption | exact ⟨by assumption, by assumption⟩ | exact mb2 rfl rfl | exact mb4 rfl rfl rfl rfl)); intro _; simp only [List.cons_append, List.nil_append]) | refine je_nil ?_ | refine tX rfl rfl ?_ | (refine tS rfl rfl ?_ ?_; focus omega) | (refine tC rfl rfl ?_ ?_; focus (first | exact trivial | assumption | exact ⟨by assumption, by assumption⟩ | exact mb2 rfl rfl | exact mb4 rfl rfl rfl rfl)) | refine tW rfl rfl ?_ | refine tK rfl rfl ?_ | refine Go.Vt.hq (wl_pickT rfl rfl) rfl rfl ?_ | refine Go.Vt.hq (wl_pickF rfl rfl) rfl rfl ?_ | refine jh_nil ?_)
  repeat (first | refine sX rfl rfl ?_ | (refine sS rfl rfl ?_ ?_; focus omega) | (refine sC rfl rfl ?_ ?_; focus (first | exact trivial | assumption | exact ⟨by assumption, by assumption⟩ | exact mb2 rfl rfl | exact mb4 rfl rfl rfl rfl)) | refine cX ?_ | refine cY ?_ | (refine sA rfl rfl ?_; intro _) | refine sT rfl ?_ | refine sF rfl ?_ | (refine sR rfl ?_ ?_; focus omega) | (refine sB rfl rfl ?_; intro _) | (refine sN rfl rfl ?_ ?_; (focus (first | exact trivial | assumption | exact ⟨by assumption, by assumption⟩ | exact mb2 rfl rfl | exact mb4 rfl rfl rfl rfl)); intro _; simp only [List.cons_append, List.nil_append]) | refine sW rfl rfl ?_ | refine sK rfl rfl ?_ | refine j_if rfl ?_ | refine j_else rfl ?_ | refine Go.Vt.jq (wl_pickT rfl rfl) rfl rfl ?_ | refine Go.Vt.jq (wl_pickF rfl rfl) rfl rfl ?_)
  exact jx_ret_tmp rfl rfl (fun w hw => by rw [decide_eq_true (show (2 : Int) = 2 from rfl)]; exact ret_ok hw)
end Go.Vt
