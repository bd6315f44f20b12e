/- The reference's list that goes as far as it can, walked. Conditions: those that each statement names. -/
import Derived.Test.YtgcjapcminakdaaDoorGreedy
set_option linter.unusedSimpArgs false
set_option linter.unusedVariables false
set_option maxRecDepth 100000
namespace Go.Vt
open Go.RowKit Go.Proofs

theorem j_perm {P : Program} {w0 : World} {n : Nat} {c : Code} {Q : Exit → Act → World → Prop} {E : Env} {L L' : List Blk} (p : L.Perm L') (h : J P w0 n c Q E L') : J P w0 n c Q E L := ⟨fun a w ha hw => h.out a w ha (hw.perm p)⟩
theorem rgreedy_spec (I : R_api_Interval) (b l c : Nat) (d : Rat) (pts : List R_movingpoint_Sample) (sp : List Value) (T : TypeId) (hr : RunOk pts (l + 1) c) (hl : l ≤ 1048576) (hd : M d ≤ 1073741824) (w : World) (hw : ∃ fz, w.heap[b]? = some (.cells (row rS pts sp) T fz)) :
    Calls Tryd.prog 26 [vRun I b (l + 1) c, vQ d].toArray w (RetM (Nat × Nat × List Value) (fun s => vL s.1 (greL (okr pts (d * d)) l) s.2.1) (fun s => [⟨s.1, row (eI .i64) (greL (okr pts (d * d)) l) s.2.2, 3⟩]) w) := by
  have := FoC.mk hw
  have hdd : M (d * d) ≤ LQ := Nat.le_trans (M_mul d d) (by have : LQ = 274877906944 := rfl; omega)
  have hd' : M d ≤ LQ := Nat.le_trans hd (by decide)
  refine fn_intro Tryd.func26 rfl Tryd.ntmps26 rfl ?_
  repeat (first | refine sX rfl rfl ?_ | (refine sS rfl rfl ?_ ?_; focus omega) | (refine sC rfl rfl ?_ ?_; focus (exact ⟨hd', hd'⟩)) | refine cX ?_ | refine cY ?_ | (refine sA rfl rfl ?_; intro _) | refine sT rfl ?_ | refine sF rfl ?_ | (refine sR rfl ?_ ?_; focus omega) | (refine sB rfl rfl ?_; intro _) | (refine sN rfl rfl ?_ ?_; (focus (exact ⟨hd', hd'⟩)); intro _; simp only [List.cons_append, List.nil_append]) | refine sW rfl rfl ?_ | refine sK rfl rfl ?_ | refine j_if rfl ?_ | refine j_else rfl ?_ | refine Go.Vt.jq (wl_pickT rfl rfl) rfl rfl ?_ | refine Go.Vt.jq (wl_pickF rfl rfl) rfl rfl ?_)
  rename_i b2 b3 bo b7
  have e1 : ((l + 1 : Nat) : Int) - 1 = (l : Int) := by omega
  have hnext : ∀ i, okr pts (d * d) i (i + 1) = true := fun i => okr_next (sq_nonneg d) i
  refine j_perm (.swap _ _ _) ?_
  refine j_loop (S := Nat × List Int × Nat × Nat × List Value) (fun s => s.1 ≤ l ∧ (∃ f, l - s.1 ≤ f ∧ s.2.1 ++ gch (okr pts (d * d)) l f s.1 = greL (okr pts (d * d)) l) ∧ s.2.1.length ≤ s.1 + 1 ∧ s.2.1.length ≤ s.2.2.2.1 ∧ s.2.2.2.2.length = (s.2.2.2.1 - s.2.1.length) * 1)
    (fun s => [(2, .pointer (some ⟨b2, 0, none⟩)), (7, .pointer (some ⟨b7, 0, none⟩)), (5, vL s.2.2.1 s.2.1 s.2.2.2.1), (6, .int .i64 (s.1 : Nat))]) (fun s => [⟨s.2.2.1, row (eI .i64) s.2.1 s.2.2.2.2, 3⟩, ⟨b7, e_api_Rat (Q (d * d)), 28⟩, ⟨b2, cRun I b (l + 1) c, 35⟩]) (fun s => l - s.1) (0, [0], bo, 1, [])
    ⟨Nat.zero_le _, ⟨l, Nat.le_refl _, rfl⟩, Nat.le_refl _, Nat.le_refl _, rfl⟩ (by repeat (first | exact sub_nil | refine sub_cons rfl ?_ | refine sub_cons' rfl (by congr 1; omega) ?_)) (by repeat (first | exact List.Sublist.refl _ | exact List.nil_sublist _ | refine List.Sublist.cons_cons _ ?_ | refine List.Sublist.cons _ ?_)) (fun s hs => ?_)
  obtain ⟨i, acc, bo, co, so⟩ := s
  obtain ⟨hil, ⟨f, hf, hch⟩, ha1, ha2, ha3⟩ := hs
  simp only at hil hf hch ha1 ha2 ha3 ⊢
  repeat (first | refine sX rfl rfl ?_ | (refine sS rfl rfl ?_ ?_; focus omega) | (refine sC rfl rfl ?_ ?_; focus (first | exact trivial | assumption | exact ⟨by assumption, by assumption⟩ | exact mb2 rfl rfl | exact mb4 rfl rfl rfl rfl)) | refine cX ?_ | refine cY ?_ | (refine sA rfl rfl ?_; intro _) | refine sT rfl ?_ | refine sF rfl ?_ | (refine sR rfl ?_ ?_; focus omega) | (refine sB rfl rfl ?_; intro _) | (refine sN rfl rfl ?_ ?_; (focus (first | exact trivial | assumption | exact ⟨by assumption, by assumption⟩ | exact mb2 rfl rfl | exact mb4 rfl rfl rfl rfl)); intro _; simp only [List.cons_append, List.nil_append]) | refine sW rfl rfl ?_ | refine sK rfl rfl ?_ | refine j_if rfl ?_ | refine j_else rfl ?_ | refine Go.Vt.jq (wl_pickT rfl rfl) rfl rfl ?_ | refine Go.Vt.jq (wl_pickF rfl rfl) rfl rfl ?_)
  simp only [e1]
  refine j_cond rfl (fun h => ?_) (fun h => ?_)
  · have hlt : i < l := by have := of_decide_eq_true h; omega
    repeat (first | refine sX rfl rfl ?_ | (refine sS rfl rfl ?_ ?_; focus omega) | (refine sC rfl rfl ?_ ?_; focus (first | exact trivial | assumption | exact ⟨by assumption, by assumption⟩ | exact mb2 rfl rfl | exact mb4 rfl rfl rfl rfl)) | refine cX ?_ | refine cY ?_ | (refine sA rfl rfl ?_; intro _) | refine sT rfl ?_ | refine sF rfl ?_ | (refine sR rfl ?_ ?_; focus omega) | (refine sB rfl rfl ?_; intro _) | (refine sN rfl rfl ?_ ?_; (focus (first | exact trivial | assumption | exact ⟨by assumption, by assumption⟩ | exact mb2 rfl rfl | exact mb4 rfl rfl rfl rfl)); intro _; simp only [List.cons_append, List.nil_append]) | refine sW rfl rfl ?_ | refine sK rfl rfl ?_ | refine j_if rfl ?_ | refine j_else rfl ?_ | refine Go.Vt.jq (wl_pickT rfl rfl) rfl rfl ?_ | refine Go.Vt.jq (wl_pickF rfl rfl) rfl rfl ?_)
    simp only [e1]
    refine j_loop (S := Nat) (fun k => (i < k ∧ k ≤ l) ∧ gd (okr pts (d * d) i) i (l - i - 1) = gd (okr pts (d * d) i) i (k - i - 1))
      (fun k => [(2, .pointer (some ⟨b2, 0, none⟩)), (7, .pointer (some ⟨b7, 0, none⟩)), (5, vL bo acc co), (6, .int .i64 (i : Nat)), (8, .int .i64 (k : Nat))]) (fun _ => [⟨bo, row (eI .i64) acc so, 3⟩, ⟨b7, e_api_Rat (Q (d * d)), 28⟩, ⟨b2, cRun I b (l + 1) c, 35⟩]) (fun k => k - i) l
      ⟨⟨hlt, Nat.le_refl _⟩, rfl⟩ (by repeat (first | exact sub_nil | refine sub_cons rfl ?_ | refine sub_cons' rfl (by congr 1; omega) ?_)) (by repeat (first | exact List.Sublist.refl _ | exact List.nil_sublist _ | refine List.Sublist.cons_cons _ ?_ | refine List.Sublist.cons _ ?_)) (fun k hk => ?_)
    obtain ⟨⟨hik, hkl⟩, hgd⟩ := hk
    have hcall : (pts.length = l + 1 ∧ l + 1 ≤ c ∧ l + 1 ≤ 1099511627776 ∧ Bnd pts) ∧ (0 : Int) ≤ (i : Int) ∧ (i : Int) < (k : Int) ∧ (k : Int) < ((l + 1 : Nat) : Int) := ⟨hr, by omega, by omega, by omega⟩
    have hrv := M_rv hr.2.2.2 i k (k - i - 1)
    have hcmp : M (rv pts i k (k - i - 1)) ≤ LQ ∧ M (d * d) ≤ LQ := ⟨Nat.le_trans hrv (by decide), hdd⟩
    repeat (first | refine sX rfl rfl ?_ | (refine sS rfl rfl ?_ ?_; focus omega) | (refine sC rfl rfl ?_ ?_; focus (first | exact trivial | assumption | exact ⟨by assumption, by assumption⟩ | exact mb2 rfl rfl | exact mb4 rfl rfl rfl rfl)) | refine cX ?_ | refine cY ?_ | (refine sA rfl rfl ?_; intro _) | refine sT rfl ?_ | refine sF rfl ?_ | (refine sR rfl ?_ ?_; focus omega) | (refine sB rfl rfl ?_; intro _) | (refine sN rfl rfl ?_ ?_; (focus (first | exact trivial | assumption | exact ⟨by assumption, by assumption⟩ | exact mb2 rfl rfl | exact mb4 rfl rfl rfl rfl)); intro _; simp only [List.cons_append, List.nil_append]) | refine sW rfl rfl ?_ | refine sK rfl rfl ?_ | refine j_if rfl ?_ | refine j_else rfl ?_ | refine Go.Vt.jq (wl_pickT rfl rfl) rfl rfl ?_ | refine Go.Vt.jq (wl_pickF rfl rfl) rfl rfl ?_)
    (refine j_phases [([0, 1, 2, 3, 4, 5, 6], [])] ([⟨bo, row (eI .i64) acc so, 3⟩, ⟨b7, e_api_Rat (Q (d * d)), 28⟩, ⟨b2, cRun I b (l + 1) c, 35⟩]) mixed (by kernel_rfl) (by repeat (first | exact List.Sublist.refl _ | exact List.nil_sublist _ | refine List.Sublist.cons_cons _ ?_ | refine List.Sublist.cons _ ?_ | refine List.Sublist.trans ?_ (List.sublist_append_right _ _))) ?_; simp only [JP, picks, List.getElem?_cons_succ, List.getElem?_cons_zero])
    repeat (first | refine tX rfl rfl ?_ | (refine tS rfl rfl ?_ ?_; focus omega) | (refine tC rfl rfl ?_ ?_; focus (first | exact hcall | exact hcmp)) | refine tW rfl rfl ?_ | refine tK rfl rfl ?_ | refine Go.Vt.hq (wl_pickT rfl rfl) rfl rfl ?_ | refine Go.Vt.hq (wl_pickF rfl rfl) rfl rfl ?_)
    repeat (first | refine eS rfl rfl ?_ | refine uP rfl rfl rfl rfl ?_ | refine uQ rfl rfl rfl rfl ?_ | refine eX rfl rfl ?_ | (refine uS rfl rfl ?_ ?_; focus omega) | (refine uC rfl rfl ?_ ?_; focus (first | exact trivial | assumption | exact ⟨by assumption, by assumption⟩ | exact mb2 rfl rfl | exact mb4 rfl rfl rfl rfl)) | refine uW rfl rfl ?_ | refine eF rfl ?_ | refine eT rfl ?_ | (refine eA rfl rfl ?_; intro _) | (refine eB rfl rfl ?_; intro _) | (refine eN rfl rfl ?_ ?_; (focus (first | exact trivial | assumption | exact ⟨by assumption, by assumption⟩ | exact mb2 rfl rfl | exact mb4 rfl rfl rfl rfl)); intro _; simp only [List.cons_append, List.nil_append]) | refine je_nil ?_ | refine tX rfl rfl ?_ | (refine tS rfl rfl ?_ ?_; focus omega) | (refine tC rfl rfl ?_ ?_; focus (first | exact trivial | assumption | exact ⟨by assumption, by assumption⟩ | exact mb2 rfl rfl | exact mb4 rfl rfl rfl rfl)) | refine tW rfl rfl ?_ | refine tK rfl rfl ?_ | refine Go.Vt.hq (wl_pickT rfl rfl) rfl rfl ?_ | refine Go.Vt.hq (wl_pickF rfl rfl) rfl rfl ?_ | refine jh_nil ?_)
    repeat (first | refine sX rfl rfl ?_ | (refine sS rfl rfl ?_ ?_; focus omega) | (refine sC rfl rfl ?_ ?_; focus (first | exact trivial | assumption | exact ⟨by assumption, by assumption⟩ | exact mb2 rfl rfl | exact mb4 rfl rfl rfl rfl)) | refine cX ?_ | refine cY ?_ | (refine sA rfl rfl ?_; intro _) | refine sT rfl ?_ | refine sF rfl ?_ | (refine sR rfl ?_ ?_; focus omega) | (refine sB rfl rfl ?_; intro _) | (refine sN rfl rfl ?_ ?_; (focus (first | exact trivial | assumption | exact ⟨by assumption, by assumption⟩ | exact mb2 rfl rfl | exact mb4 rfl rfl rfl rfl)); intro _; simp only [List.cons_append, List.nil_append]) | refine sW rfl rfl ?_ | refine sK rfl rfl ?_ | refine j_if rfl ?_ | refine j_else rfl ?_ | refine Go.Vt.jq (wl_pickT rfl rfl) rfl rfl ?_ | refine Go.Vt.jq (wl_pickF rfl rfl) rfl rfl ?_)
    simp only [Int.toNat_natCast]
    have hokc : decide (0 < cq (rv pts i k (k - i - 1)) (d * d)) = !okr pts (d * d) i k := by
      unfold okr
      rw [← decide_not, decide_eq_decide, cq_gt]
      exact Rat.not_le.symm
    rw [hokc]
    cases hc : okr pts (d * d) i k with
    | false =>
      have hne : k ≠ i + 1 := fun h => by rw [h, hnext] at hc; cases hc
      simp only [Bool.not_false]
      repeat (first | refine sX rfl rfl ?_ | (refine sS rfl rfl ?_ ?_; focus omega) | (refine sC rfl rfl ?_ ?_; focus (first | exact trivial | assumption | exact ⟨by assumption, by assumption⟩ | exact mb2 rfl rfl | exact mb4 rfl rfl rfl rfl)) | refine cX ?_ | refine cY ?_ | (refine sA rfl rfl ?_; intro _) | refine sT rfl ?_ | refine sF rfl ?_ | (refine sR rfl ?_ ?_; focus omega) | (refine sB rfl rfl ?_; intro _) | (refine sN rfl rfl ?_ ?_; (focus (first | exact trivial | assumption | exact ⟨by assumption, by assumption⟩ | exact mb2 rfl rfl | exact mb4 rfl rfl rfl rfl)); intro _; simp only [List.cons_append, List.nil_append]) | refine sW rfl rfl ?_ | refine sK rfl rfl ?_ | refine j_if rfl ?_ | refine j_else rfl ?_ | refine Go.Vt.jq (wl_pickT rfl rfl) rfl rfl ?_ | refine Go.Vt.jq (wl_pickF rfl rfl) rfl rfl ?_)
      refine jx_loop (k - 1) ⟨⟨by omega, by omega⟩, ?_⟩ (by repeat (first | exact sub_nil | refine sub_cons rfl ?_ | refine sub_cons' rfl (by congr 1; omega) ?_)) (by repeat (first | exact List.Sublist.refl _ | exact List.nil_sublist _ | refine List.Sublist.cons_cons _ ?_ | refine List.Sublist.cons _ ?_)) (by omega)
      obtain ⟨q, rfl⟩ : ∃ q, k = i + 1 + (q + 1) := ⟨k - i - 2, by omega⟩
      rw [hgd, show i + 1 + (q + 1) - i - 1 = q + 1 by omega, gd, hc, if_neg (by simp), show i + 1 + (q + 1) - 1 - i - 1 = q by omega]
    | true =>
      have hgk : gd (okr pts (d * d) i) i (l - i - 1) = k := by
        rw [hgd]
        obtain ⟨q, hq⟩ : ∃ q, k = i + 1 + q := ⟨k - i - 1, by omega⟩
        rw [show k - i - 1 = q by omega]
        cases q with
        | zero => rw [gd]; omega
        | succ q => rw [gd, ← hq, hc, if_pos rfl]
      simp only [Bool.not_true]
      repeat (first | refine sX rfl rfl ?_ | (refine sS rfl rfl ?_ ?_; focus omega) | (refine sC rfl rfl ?_ ?_; focus (first | exact trivial | assumption | exact ⟨by assumption, by assumption⟩ | exact mb2 rfl rfl | exact mb4 rfl rfl rfl rfl)) | refine cX ?_ | refine cY ?_ | (refine sA rfl rfl ?_; intro _) | refine sT rfl ?_ | refine sF rfl ?_ | (refine sR rfl ?_ ?_; focus omega) | (refine sB rfl rfl ?_; intro _) | (refine sN rfl rfl ?_ ?_; (focus (first | exact trivial | assumption | exact ⟨by assumption, by assumption⟩ | exact mb2 rfl rfl | exact mb4 rfl rfl rfl rfl)); intro _; simp only [List.cons_append, List.nil_append]) | refine sW rfl rfl ?_ | refine sK rfl rfl ?_ | refine j_if rfl ?_ | refine j_else rfl ?_ | refine Go.Vt.jq (wl_pickT rfl rfl) rfl rfl ?_ | refine Go.Vt.jq (wl_pickF rfl rfl) rfl rfl ?_)
      rename_i bz
      refine sP rfl rfl ?_ ⟨ha2, ha3⟩ rfl ?_ ?_
      · rfl
      · exact ⟨by omega, by omega⟩
      intro b' c' sp' h1 h2
      rw [show acc.length + 1 = (acc ++ [(k : Int)]).length by simp] at h1 h2 ⊢
      repeat (first | refine sX rfl rfl ?_ | (refine sS rfl rfl ?_ ?_; focus omega) | (refine sC rfl rfl ?_ ?_; focus (first | exact trivial | assumption | exact ⟨by assumption, by assumption⟩ | exact mb2 rfl rfl | exact mb4 rfl rfl rfl rfl)) | refine cX ?_ | refine cY ?_ | (refine sA rfl rfl ?_; intro _) | refine sT rfl ?_ | refine sF rfl ?_ | (refine sR rfl ?_ ?_; focus omega) | (refine sB rfl rfl ?_; intro _) | (refine sN rfl rfl ?_ ?_; (focus (first | exact trivial | assumption | exact ⟨by assumption, by assumption⟩ | exact mb2 rfl rfl | exact mb4 rfl rfl rfl rfl)); intro _; simp only [List.cons_append, List.nil_append]) | refine sW rfl rfl ?_ | refine sK rfl rfl ?_ | refine j_if rfl ?_ | refine j_else rfl ?_ | refine Go.Vt.jq (wl_pickT rfl rfl) rfl rfl ?_ | refine Go.Vt.jq (wl_pickF rfl rfl) rfl rfl ?_)
      refine jx_loop (k, acc ++ [(k : Int)], b', c', sp') ⟨by simp only; omega, ?_, by simp only [List.length_append, List.length_singleton]; omega, h1, h2⟩ (by repeat (first | exact sub_nil | refine sub_cons rfl ?_ | refine sub_cons' rfl (by congr 1; omega) ?_)) (by repeat (first | exact List.Sublist.refl _ | exact List.nil_sublist _ | refine List.Sublist.cons_cons _ ?_ | refine List.Sublist.cons _ ?_)) (by simp only; omega)
      obtain ⟨f', rfl⟩ : ∃ f', f = f' + 1 := ⟨f - 1, by omega⟩
      refine ⟨f', by simp only; omega, ?_⟩
      rw [gch, if_pos hlt, hgk] at hch
      simp only
      rw [← hch, List.append_assoc]
      rfl
  · have hge : i = l := by have := of_decide_eq_false h; omega
    subst hge
    have hnil : gch (okr pts (d * d)) i f i = [] := by
      cases f with
      | zero => rfl
      | succ f => rw [gch, if_neg (by omega)]
    rw [hnil, List.append_nil] at hch
    subst hch
    repeat (first | refine sX rfl rfl ?_ | (refine sS rfl rfl ?_ ?_; focus omega) | (refine sC rfl rfl ?_ ?_; focus (first | exact trivial | assumption | exact ⟨by assumption, by assumption⟩ | exact mb2 rfl rfl | exact mb4 rfl rfl rfl rfl)) | refine cX ?_ | refine cY ?_ | (refine sA rfl rfl ?_; intro _) | refine sT rfl ?_ | refine sF rfl ?_ | (refine sR rfl ?_ ?_; focus omega) | (refine sB rfl rfl ?_; intro _) | (refine sN rfl rfl ?_ ?_; (focus (first | exact trivial | assumption | exact ⟨by assumption, by assumption⟩ | exact mb2 rfl rfl | exact mb4 rfl rfl rfl rfl)); intro _; simp only [List.cons_append, List.nil_append]) | refine sW rfl rfl ?_ | refine sK rfl rfl ?_ | refine j_if rfl ?_ | refine j_else rfl ?_ | refine Go.Vt.jq (wl_pickT rfl rfl) rfl rfl ?_ | refine Go.Vt.jq (wl_pickF rfl rfl) rfl rfl ?_)
    exact jx_ret_tmp rfl rfl (fun w hw => ⟨(bo, co, so), rfl, hw.sub (by repeat (first | exact List.Sublist.refl _ | exact List.nil_sublist _ | refine List.Sublist.cons_cons _ ?_ | refine List.Sublist.cons _ ?_))⟩)
instance sr_Greedy (w0 : World) (L : List Blk) (I : R_api_Interval) (b n c : Nat) (d : Rat) (pts : List R_movingpoint_Sample) (sp : List Value) (T : TypeId) [h : AtC w0 L b (row rS pts sp) T] : SpecR Tryd.prog w0 L 24 [vRun I b n c, vQ d] (SL3 (greL (okd pts (d * d)) (n - 1))) (fun s => .tuple #[vL s.1.1 (greL (okd pts (d * d)) (n - 1)) s.1.2.1, .int .i64 0]) (fun s => [⟨s.1.1, row (eI .i64) (greL (okd pts (d * d)) (n - 1)) s.1.2.2, 3⟩]) (RunOk pts n c ∧ (1 ≤ n ∧ n ≤ 1048576) ∧ M d ≤ 1073741824 ∧ 0 ≤ d) := ⟨fun hp w hw => by
  obtain ⟨g1, ⟨g2, g3⟩, g4, g5⟩ := hp
  obtain ⟨l, rfl⟩ : ∃ l, n = l + 1 := ⟨n - 1, by omega⟩
  exact greedy_spec I b l c d pts sp T g1 (by omega) g4 g5 w (h.out w hw)⟩
instance sm_GreedyNeg (I : R_api_Interval) (b n c : Nat) (d : Rat) : SpecC Tryd.prog 24 [vRun I b n c, vQ d] (.tuple #[.slice none 0 0, .int .i64 2]) (d < 0) := ⟨fun hp w => by
  refine fn_intro Tryd.func24 rfl Tryd.ntmps24 rfl ?_
  repeat (first | refine sX rfl rfl ?_ | (refine sS rfl rfl ?_ ?_; focus omega) | (refine sC rfl rfl ?_ ?_; focus (first | exact trivial | assumption | exact ⟨by assumption, by assumption⟩ | exact mb2 rfl rfl | exact mb4 rfl rfl rfl rfl)) | refine cX ?_ | refine cY ?_ | (refine sA rfl rfl ?_; intro _) | refine sT rfl ?_ | refine sF rfl ?_ | (refine sR rfl ?_ ?_; focus omega) | (refine sB rfl rfl ?_; intro _) | (refine sN rfl rfl ?_ ?_; (focus (first | exact trivial | assumption | exact ⟨by assumption, by assumption⟩ | exact mb2 rfl rfl | exact mb4 rfl rfl rfl rfl)); intro _; simp only [List.cons_append, List.nil_append]) | refine sW rfl rfl ?_ | refine sK rfl rfl ?_ | refine j_if rfl ?_ | refine j_else rfl ?_ | refine Go.Vt.jq (wl_pickT rfl rfl) rfl rfl ?_ | refine Go.Vt.jq (wl_pickF rfl rfl) rfl rfl ?_)
  refine j_if (by rw [decide_eq_true (sign_neg hp)]; rfl) ?_
  repeat (first | refine sX rfl rfl ?_ | (refine sS rfl rfl ?_ ?_; focus omega) | (refine sC rfl rfl ?_ ?_; focus (first | exact trivial | assumption | exact ⟨by assumption, by assumption⟩ | exact mb2 rfl rfl | exact mb4 rfl rfl rfl rfl)) | refine cX ?_ | refine cY ?_ | (refine sA rfl rfl ?_; intro _) | refine sT rfl ?_ | refine sF rfl ?_ | (refine sR rfl ?_ ?_; focus omega) | (refine sB rfl rfl ?_; intro _) | (refine sN rfl rfl ?_ ?_; (focus (first | exact trivial | assumption | exact ⟨by assumption, by assumption⟩ | exact mb2 rfl rfl | exact mb4 rfl rfl rfl rfl)); intro _; simp only [List.cons_append, List.nil_append]) | refine sW rfl rfl ?_ | refine sK rfl rfl ?_ | refine j_if rfl ?_ | refine j_else rfl ?_ | refine Go.Vt.jq (wl_pickT rfl rfl) rfl rfl ?_ | refine Go.Vt.jq (wl_pickF rfl rfl) rfl rfl ?_)
  exact jx_ret_two rfl (resv_tmp rfl) (resv_tmp rfl) (fun w hw => ret_ok hw)⟩
instance sr_rgreedy (w0 : World) (L : List Blk) (I : R_api_Interval) (b n c : Nat) (d : Rat) (pts : List R_movingpoint_Sample) (sp : List Value) (T : TypeId) [h : AtC w0 L b (row rS pts sp) T] : SpecR Tryd.prog w0 L 26 [vRun I b n c, vQ d] (Nat × Nat × List Value) (fun s => vL s.1 (greL (okr pts (d * d)) (n - 1)) s.2.1) (fun s => [⟨s.1, row (eI .i64) (greL (okr pts (d * d)) (n - 1)) s.2.2, 3⟩]) (RunOk pts n c ∧ (1 ≤ n ∧ n ≤ 1048576) ∧ M d ≤ 1073741824) := ⟨fun hp w hw => by
  obtain ⟨g1, ⟨g2, g3⟩, g4⟩ := hp
  obtain ⟨l, rfl⟩ : ∃ l, n = l + 1 := ⟨n - 1, by omega⟩
  exact rgreedy_spec I b l c d pts sp T g1 (by omega) g4 w (h.out w hw)⟩
end Go.Vt
