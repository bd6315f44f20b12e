/- A run with some of its breakpoints, walked. Conditions: those that each statement names. -/
import Derived.Test.YtgcjapcminakdaaDoorErrR
set_option linter.unusedSimpArgs false
set_option linter.unusedVariables false
set_option maxRecDepth 100000
namespace Go.Vt
open Go.RowKit Go.Proofs

def kp (pts : List R_movingpoint_Sample) (ks : List Int) : Nat → List R_movingpoint_Sample
  | 0 => []
  | m + 1 => kp pts ks m ++ [gi pts (gi ks (m : Int))]
theorem kp_len (pts : List R_movingpoint_Sample) (ks : List Int) : ∀ m, (kp pts ks m).length = m
  | 0 => rfl
  | m + 1 => by rw [kp, List.length_append, kp_len pts ks m]; rfl
theorem keep_spec (I : R_api_Interval) (b n c : Nat) (pts : List R_movingpoint_Sample) (sp : List Value) (T : TypeId) (ks : List Int) (v : Value) (hr : RunOk pts n c) (hn : 1 ≤ n) (hks : ks.length ≤ 1048576) (hrg : rgt n ks = true) (w : World) (hw : ∃ fz, w.heap[b]? = some (.cells (row rS pts sp) T fz)) (hv : ArgS w v (eI .i64) ks) :
    Calls Tryd.prog 19 [vRun I b n c, v].toArray w (RetM { s : Nat × Nat × List Value // ks.length ≤ s.2.1 } (fun s => .tuple #[vRun I s.1.1 ks.length s.1.2.1, .int .i64 0]) (fun s => [⟨s.1.1, row rS (kp pts ks ks.length) s.1.2.2, 52⟩]) w) := by
  have := FoC.mk hw
  have := ArgC.mk hv
  have hr2 := hr.2.2.1
  obtain ⟨hne, h0, hl1, hinc⟩ := rgt_spec hrg
  have hlp : 0 < ks.length := List.length_pos_iff.2 hne
  obtain ⟨bw, ow, cw, hvw, hcw, hrow⟩ := hv.blk (k := 0) hne []
  subst hvw
  have hrow' : ∀ L, RowC w L bw ow Int (eI .i64) ks := fun L => ⟨fun w' hw' => hrow.out w' (hw'.sub (List.nil_sublist _))⟩
  refine fn_intro Tryd.func19 rfl Tryd.ntmps19 rfl ?_
  repeat (first | refine sX rfl rfl ?_ | (refine sS rfl rfl ?_ ?_; focus omega) | (refine sC rfl rfl ?_ ?_; focus (exact ⟨⟨hn, hr2⟩, by omega⟩)) | refine cX ?_ | refine cY ?_ | (refine sA rfl rfl ?_; intro _) | refine sT rfl ?_ | refine sF rfl ?_ | (refine sR rfl ?_ ?_; focus omega) | (refine sB rfl rfl ?_; intro _) | (refine sN rfl rfl ?_ ?_; (focus (exact ⟨⟨hn, hr2⟩, by omega⟩)); intro _; simp only [List.cons_append, List.nil_append]) | refine sW rfl rfl ?_ | refine sK rfl rfl ?_ | refine j_if rfl ?_ | refine j_else rfl ?_ | refine Go.Vt.jq (wl_pickT rfl rfl) rfl rfl ?_ | refine Go.Vt.jq (wl_pickF rfl rfl) rfl rfl ?_)
  simp only [hrg, Bool.not_true]
  repeat (first | refine sX rfl rfl ?_ | (refine sS rfl rfl ?_ ?_; focus omega) | (refine sC rfl rfl ?_ ?_; focus (first | exact trivial | assumption | exact ⟨by assumption, by assumption⟩ | exact mb2 rfl rfl | exact mb4 rfl rfl rfl rfl)) | refine cX ?_ | refine cY ?_ | (refine sA rfl rfl ?_; intro _) | refine sT rfl ?_ | refine sF rfl ?_ | (refine sR rfl ?_ ?_; focus omega) | (refine sB rfl rfl ?_; intro _) | (refine sN rfl rfl ?_ ?_; (focus (first | exact trivial | assumption | exact ⟨by assumption, by assumption⟩ | exact mb2 rfl rfl | exact mb4 rfl rfl rfl rfl)); intro _; simp only [List.cons_append, List.nil_append]) | refine sW rfl rfl ?_ | refine sK rfl rfl ?_ | refine j_if rfl ?_ | refine j_else rfl ?_ | refine Go.Vt.jq (wl_pickT rfl rfl) rfl rfl ?_ | refine Go.Vt.jq (wl_pickF rfl rfl) rfl rfl ?_)
  rename_i b2 b4 b6
  refine j_loop (S := Nat × Option (Nat × Nat × List Value)) (fun s => s.1 ≤ ks.length ∧ (s.2 = none ↔ s.1 = 0) ∧ ∀ t, s.2 = some t → s.1 ≤ t.2.1 ∧ t.2.2.length = (t.2.1 - s.1) * 12) (fun s => [(17, .slice (some ⟨bw, ow, none⟩) ks.length cw), (18, .int .i64 (ks.length : Nat)), (19, .int .i64 (s.1 : Nat)), (2, .pointer (some ⟨b2, 0, none⟩)), (4, .pointer (some ⟨b4, 0, none⟩)), (6, .pointer (some ⟨b6, 0, none⟩))])
    (fun s => mSl 52 (kp pts ks s.1) s.2 ++ [⟨b6, e_simplify_Run (q_simplify_Run ⟨I, hSl (kp pts ks s.1).length s.2⟩), 35⟩, ⟨b4, e_simplify_Run (q_simplify_Run zR_simplify_Run), 35⟩, ⟨b2, cRun I b n c, 35⟩]) (fun s => ks.length - s.1) (0, none)
    ⟨Nat.zero_le _, by simp, by simp⟩ (by repeat (first | exact sub_nil | refine sub_cons rfl ?_ | refine sub_cons' rfl (by congr 1; omega) ?_)) (by repeat (first | exact List.Sublist.refl _ | exact List.nil_sublist _ | refine List.Sublist.cons_cons _ ?_ | refine List.Sublist.cons _ ?_)) (fun s hs => ?_)
  obtain ⟨m, og⟩ := s
  obtain ⟨hm1, hog, hogs⟩ := hs
  simp only at hm1 hog hogs ⊢
  repeat (first | refine sX rfl rfl ?_ | (refine sS rfl rfl ?_ ?_; focus omega) | (refine sC rfl rfl ?_ ?_; focus (first | exact trivial | assumption | exact ⟨by assumption, by assumption⟩ | exact mb2 rfl rfl | exact mb4 rfl rfl rfl rfl)) | refine cX ?_ | refine cY ?_ | (refine sA rfl rfl ?_; intro _) | refine sT rfl ?_ | refine sF rfl ?_ | (refine sR rfl ?_ ?_; focus omega) | (refine sB rfl rfl ?_; intro _) | (refine sN rfl rfl ?_ ?_; (focus (first | exact trivial | assumption | exact ⟨by assumption, by assumption⟩ | exact mb2 rfl rfl | exact mb4 rfl rfl rfl rfl)); intro _; simp only [List.cons_append, List.nil_append]) | refine sW rfl rfl ?_ | refine sK rfl rfl ?_ | refine j_if rfl ?_ | refine j_else rfl ?_ | refine Go.Vt.jq (wl_pickT rfl rfl) rfl rfl ?_ | refine Go.Vt.jq (wl_pickF rfl rfl) rfl rfl ?_)
  refine j_cond rfl (fun h => ?_) (fun h => ?_)
  · have hlt : m < ks.length := by have := of_decide_eq_true h; omega
    have hk : 0 ≤ gi ks (m : Int) ∧ gi ks (m : Int) < n := by
      cases m with
      | zero => exact ⟨by rw [show gi ks ((0 : Nat) : Int) = 0 from h0]; exact Int.le_refl _, by rw [show gi ks ((0 : Nat) : Int) = 0 from h0]; omega⟩
      | succ m => have := hinc m hlt; omega
    have hkl : (gi ks (m : Int)).toNat < pts.length := by rw [hr.1]; omega
    have elen : (kp pts ks m).length + 1 = (kp pts ks (m + 1)).length := by rw [kp_len, kp_len]
    have hpl := kp_len pts ks m
    rcases og with _ | ⟨bo, co, so⟩
    · have hm0 := hog.1 rfl
      subst hm0
      simp only [mSl, hSl, List.nil_append]
      repeat (first | refine sX rfl rfl ?_ | (refine sS rfl rfl ?_ ?_; focus omega) | (refine sC rfl rfl ?_ ?_; focus (exact ⟨by omega, by omega⟩)) | refine cX ?_ | refine cY ?_ | (refine sA rfl rfl ?_; intro _) | refine sT rfl ?_ | refine sF rfl ?_ | (refine sR rfl ?_ ?_; focus omega) | (refine sB rfl rfl ?_; intro _) | (refine sN rfl rfl ?_ ?_; (focus (exact ⟨by omega, by omega⟩)); intro _; simp only [List.cons_append, List.nil_append]) | refine sW rfl rfl ?_ | refine sK rfl rfl ?_ | refine j_if rfl ?_ | refine j_else rfl ?_ | refine Go.Vt.jq (wl_pickT rfl rfl) rfl rfl ?_ | refine Go.Vt.jq (wl_pickF rfl rfl) rfl rfl ?_)
      (refine j_late2 [0, 1, 2, 3, 4, 5, 6] [7, 8] [9, 10] ([⟨b6, e_simplify_Run (q_simplify_Run ⟨I, ⟨none, 0, 0⟩⟩), 35⟩, ⟨b2, cRun I b n c, 35⟩]) mixed (by kernel_rfl) (by kernel_rfl) (by decide) (by decide) (by repeat (first | exact List.Sublist.refl _ | exact List.nil_sublist _ | refine List.Sublist.cons_cons _ ?_ | refine List.Sublist.cons _ ?_ | refine List.Sublist.trans ?_ (List.sublist_append_right _ _))) ?_; simp only [picks, List.getElem?_cons_succ, List.getElem?_cons_zero])
      repeat (first | refine tX rfl rfl ?_ | (refine tS rfl rfl ?_ ?_; focus omega) | (refine tC rfl rfl ?_ ?_; focus (exact ⟨by omega, by omega⟩)) | refine tW rfl rfl ?_ | refine tK rfl rfl ?_ | refine Go.Vt.hq (wl_pickT rfl rfl) rfl rfl ?_ | refine Go.Vt.hq (wl_pickF rfl rfl) rfl rfl ?_)
      refine jh_nil ?_
      refine eB rfl rfl ?_
      intro bN
      refine eP0 rfl rfl ?_ rfl ?_ ?_
      · rfl
      · exact ⟨by omega, by omega, by omega⟩
      intro b' c' sp' h1 h2
      refine eX rfl rfl ?_
      refine eF rfl ?_
      refine je_nil ?_
      repeat (first | refine sX rfl rfl ?_ | (refine sS rfl rfl ?_ ?_; focus omega) | (refine sC rfl rfl ?_ ?_; focus (exact ⟨by omega, by omega⟩)) | refine cX ?_ | refine cY ?_ | (refine sA rfl rfl ?_; intro _) | refine sT rfl ?_ | refine sF rfl ?_ | (refine sR rfl ?_ ?_; focus omega) | (refine sB rfl rfl ?_; intro _) | (refine sN rfl rfl ?_ ?_; (focus (exact ⟨by omega, by omega⟩)); intro _; simp only [List.cons_append, List.nil_append]) | refine sW rfl rfl ?_ | refine sK rfl rfl ?_ | refine j_if rfl ?_ | refine j_else rfl ?_ | refine Go.Vt.jq (wl_pickT rfl rfl) rfl rfl ?_ | refine Go.Vt.jq (wl_pickF rfl rfl) rfl rfl ?_)
      exact jx_loop (1, some (b', c', sp')) ⟨by omega, by simp, fun t ht => by injection ht with ht; subst ht; exact ⟨h1, h2⟩⟩ (by repeat (first | exact sub_nil | refine sub_cons rfl ?_ | refine sub_cons' rfl (by congr 1; omega) ?_)) (by simp only [mSl, hSl, List.cons_append, List.nil_append]; exact (by repeat (first | exact List.Sublist.refl _ | exact List.nil_sublist _ | refine List.Sublist.cons_cons _ ?_ | refine List.Sublist.cons _ ?_))) (by simp only; omega)
    · have hsp := hogs _ rfl
      simp only [mSl, hSl, List.cons_append, List.nil_append] at hsp ⊢
      repeat (first | refine sX rfl rfl ?_ | (refine sS rfl rfl ?_ ?_; focus omega) | (refine sC rfl rfl ?_ ?_; focus (exact ⟨by omega, by omega⟩)) | refine cX ?_ | refine cY ?_ | (refine sA rfl rfl ?_; intro _) | refine sT rfl ?_ | refine sF rfl ?_ | (refine sR rfl ?_ ?_; focus omega) | (refine sB rfl rfl ?_; intro _) | (refine sN rfl rfl ?_ ?_; (focus (exact ⟨by omega, by omega⟩)); intro _; simp only [List.cons_append, List.nil_append]) | refine sW rfl rfl ?_ | refine sK rfl rfl ?_ | refine j_if rfl ?_ | refine j_else rfl ?_ | refine Go.Vt.jq (wl_pickT rfl rfl) rfl rfl ?_ | refine Go.Vt.jq (wl_pickF rfl rfl) rfl rfl ?_)
      (refine j_late2 [0, 1, 2, 3, 4, 5, 6] [7, 8] [9, 10] ([⟨b6, e_simplify_Run (q_simplify_Run ⟨I, ⟨some ⟨bo, 0, none⟩, (kp pts ks m).length, co⟩⟩), 35⟩, ⟨b2, cRun I b n c, 35⟩]) mixed (by kernel_rfl) (by kernel_rfl) (by decide) (by decide) (by repeat (first | exact List.Sublist.refl _ | exact List.nil_sublist _ | refine List.Sublist.cons_cons _ ?_ | refine List.Sublist.cons _ ?_ | refine List.Sublist.trans ?_ (List.sublist_append_right _ _))) ?_; simp only [picks, List.getElem?_cons_succ, List.getElem?_cons_zero])
      repeat (first | refine tX rfl rfl ?_ | (refine tS rfl rfl ?_ ?_; focus omega) | (refine tC rfl rfl ?_ ?_; focus (exact ⟨by omega, by omega⟩)) | refine tW rfl rfl ?_ | refine tK rfl rfl ?_ | refine Go.Vt.hq (wl_pickT rfl rfl) rfl rfl ?_ | refine Go.Vt.hq (wl_pickF rfl rfl) rfl rfl ?_)
      refine jh_nil ?_
      refine eB rfl rfl ?_
      intro bN
      refine eP rfl rfl ?_ ?_ ?_ ?_ ?_
      · rfl
      · rw [hpl]; exact hsp
      · rfl
      · exact ⟨by omega, by omega⟩
      intro b' c' sp' h1 h2
      rw [elen]
      refine eX rfl rfl ?_
      refine eF rfl ?_
      refine je_nil ?_
      repeat (first | refine sX rfl rfl ?_ | (refine sS rfl rfl ?_ ?_; focus omega) | (refine sC rfl rfl ?_ ?_; focus (exact ⟨by omega, by omega⟩)) | refine cX ?_ | refine cY ?_ | (refine sA rfl rfl ?_; intro _) | refine sT rfl ?_ | refine sF rfl ?_ | (refine sR rfl ?_ ?_; focus omega) | (refine sB rfl rfl ?_; intro _) | (refine sN rfl rfl ?_ ?_; (focus (exact ⟨by omega, by omega⟩)); intro _; simp only [List.cons_append, List.nil_append]) | refine sW rfl rfl ?_ | refine sK rfl rfl ?_ | refine j_if rfl ?_ | refine j_else rfl ?_ | refine Go.Vt.jq (wl_pickT rfl rfl) rfl rfl ?_ | refine Go.Vt.jq (wl_pickF rfl rfl) rfl rfl ?_)
      exact jx_loop (m + 1, some (b', c', sp')) ⟨by omega, by simp, fun t ht => by injection ht with ht; subst ht; rw [hpl] at h1 h2; exact ⟨h1, h2⟩⟩ (by repeat (first | exact sub_nil | refine sub_cons rfl ?_ | refine sub_cons' rfl (by congr 1; omega) ?_)) (by simp only [mSl, hSl, List.cons_append, List.nil_append]; exact (by repeat (first | exact List.Sublist.refl _ | exact List.nil_sublist _ | refine List.Sublist.cons_cons _ ?_ | refine List.Sublist.cons _ ?_))) (by simp only; omega)
  · have hge : m = ks.length := by have := of_decide_eq_false h; omega
    subst hge
    rcases og with _ | ⟨bo, co, so⟩
    · have := hog.1 rfl
      omega
    · have hsp := hogs _ rfl
      simp only [mSl, hSl, List.cons_append, List.nil_append] at hsp ⊢
      repeat (first | refine sX rfl rfl ?_ | (refine sS rfl rfl ?_ ?_; focus omega) | (refine sC rfl rfl ?_ ?_; focus (first | exact trivial | assumption | exact ⟨by assumption, by assumption⟩ | exact mb2 rfl rfl | exact mb4 rfl rfl rfl rfl)) | refine cX ?_ | refine cY ?_ | (refine sA rfl rfl ?_; intro _) | refine sT rfl ?_ | refine sF rfl ?_ | (refine sR rfl ?_ ?_; focus omega) | (refine sB rfl rfl ?_; intro _) | (refine sN rfl rfl ?_ ?_; (focus (first | exact trivial | assumption | exact ⟨by assumption, by assumption⟩ | exact mb2 rfl rfl | exact mb4 rfl rfl rfl rfl)); intro _; simp only [List.cons_append, List.nil_append]) | refine sW rfl rfl ?_ | refine sK rfl rfl ?_ | refine j_if rfl ?_ | refine j_else rfl ?_ | refine Go.Vt.jq (wl_pickT rfl rfl) rfl rfl ?_ | refine Go.Vt.jq (wl_pickF rfl rfl) rfl rfl ?_)
      exact jx_ret_two rfl (wr_cell rfl) (resv_tmp rfl) (fun w hw => ⟨⟨(bo, co, so), hsp.1⟩, by rw [kp_len], hw.sub (by repeat (first | exact List.Sublist.refl _ | exact List.nil_sublist _ | refine List.Sublist.cons_cons _ ?_ | refine List.Sublist.cons _ ?_))⟩)
end Go.Vt
