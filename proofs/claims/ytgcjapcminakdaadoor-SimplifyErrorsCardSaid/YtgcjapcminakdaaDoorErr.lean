/- The error of kept breakpoints, walked. Conditions: those that each statement names. -/
import Derived.Test.YtgcjapcminakdaaDoorRight
set_option linter.unusedSimpArgs false
set_option linter.unusedVariables false
set_option maxRecDepth 100000
namespace Go.Vt
open Go.RowKit Go.Proofs

theorem ArgS.own {w0 w : World} {L : List Blk} {b c : Nat} {ks : List Int} {sp : List Value} {T : TypeId} (h : AtC w0 L b (row (eI .i64) ks sp) T) (hw : Own w0 L w) (hc : ks.length ≤ c) : ArgS w (vL b ks c) (eI .i64) ks := by
  obtain ⟨fz, hb⟩ := h.out w hw
  refine ⟨.inr ⟨⟨b, 0, none⟩, c, rfl, hc, fun i f k u hi hk hu => ?_⟩⟩
  rw [addr_add, cell_block hb]
  obtain rfl : k = 1 := by rw [← hk ks[i]]; rfl
  have hf : f < 1 := by
    rcases Nat.lt_or_ge f 1 with h1 | h1
    · exact h1
    · rw [Array.getElem?_eq_none (by rw [hk]; exact h1)] at hu
      cases hu
  rw [Nat.zero_add, row_get ks sp i f hi hf]
  exact hu
instance sm_right (w0 : World) (L : List Blk) (I : R_api_Interval) (b n c : Nat) (ks : List Int) (v : Value) [h : ArgC w0 v Int (eI .i64) ks] : SpecM Tryd.prog w0 L 41 [vRun I b n c, v] (.bool (rgt n ks)) ((1 ≤ n ∧ n ≤ 1099511627776) ∧ ks.length ≤ 9223372036854775807) := ⟨fun hp w hw => right_spec I b n c ks v hp.1 hp.2 w (h.out.to hw.ext)⟩
instance sm_isKept (w0 : World) (L : List Blk) (I : R_api_Interval) (b n c : Nat) (ks : List Int) (v : Value) [h : ArgC w0 v Int (eI .i64) ks] : SpecM Tryd.prog w0 L 20 [vRun I b n c, v] (.bool (rgt n ks)) ((1 ≤ n ∧ n ≤ 1099511627776) ∧ ks.length ≤ 9223372036854775807) := ⟨fun hp w hw => isKept_spec I b n c ks v hp.1 hp.2 w (h.out.to hw.ext)⟩
def er (pts : List R_movingpoint_Sample) (ks : List Int) : Nat → Rat
  | 0 => 0
  | m + 1 => max (er pts ks m) (dv pts (gi ks (m : Int)).toNat (gi ks ((m + 1 : Nat) : Int)).toNat ((gi ks ((m + 1 : Nat) : Int)).toNat - (gi ks (m : Int)).toNat - 1))
theorem M_er {pts : List R_movingpoint_Sample} (hB : Bnd pts) (ks : List Int) : ∀ m, M (er pts ks m) ≤ 67108864
  | 0 => Nat.le_trans mb_zero.out (by decide)
  | m + 1 => by
    rw [er]
    have h1 := M_er hB ks m
    have h2 := M_dv hB (gi ks (m : Int)).toNat (gi ks ((m + 1 : Nat) : Int)).toNat ((gi ks ((m + 1 : Nat) : Int)).toNat - (gi ks (m : Int)).toNat - 1)
    exact Nat.le_trans (M_max _ _) (Nat.max_le.2 ⟨h1, h2⟩)
theorem ir_lt {ks : List Int} : ∀ d, ir ks d = true → ∀ m, m < d → gi ks (m : Int) < gi ks ((m + 1 : Nat) : Int)
  | 0, _, m, hm => by omega
  | d + 1, h, m, hm => by
    rw [ir, Bool.and_eq_true, decide_eq_true_eq] at h
    rcases (by omega : m < d ∨ m = d) with h1 | rfl
    · exact ir_lt d h.1 m h1
    · exact h.2
theorem ir_mono {ks : List Int} {d : Nat} (h : ir ks d = true) : ∀ e m, m + e ≤ d → gi ks (m : Int) ≤ gi ks ((m + e : Nat) : Int)
  | 0, m, _ => Int.le_refl _
  | e + 1, m, hm => by
    have h1 := ir_mono h e m (by omega)
    have h2 := ir_lt d h (m + e) (by omega)
    rw [← Nat.add_assoc]
    omega
theorem rgt_spec {n : Nat} {ks : List Int} (h : rgt n ks = true) : ks ≠ [] ∧ gi ks 0 = 0 ∧ gi ks ((ks.length : Int) - 1) = (n : Int) - 1 ∧ ∀ m, m + 1 < ks.length → 0 ≤ gi ks (m : Int) ∧ gi ks (m : Int) < gi ks ((m + 1 : Nat) : Int) ∧ gi ks ((m + 1 : Nat) : Int) < n := by
  unfold rgt at h
  simp only [Bool.and_eq_true, decide_eq_true_eq] at h
  obtain ⟨⟨⟨h1, h2⟩, h3⟩, h4⟩ := h
  refine ⟨h1, h2, h3, fun m hm => ?_⟩
  have g1 := ir_mono h4 m 0 (by omega)
  have g2 := ir_lt _ h4 m (by omega)
  have g3 := ir_mono h4 (ks.length - 1 - (m + 1)) (m + 1) (by omega)
  rw [show (m + 1 + (ks.length - 1 - (m + 1)) : Nat) = ks.length - 1 by omega, show ((ks.length - 1 : Nat) : Int) = (ks.length : Int) - 1 by omega, h3] at g3
  rw [Nat.zero_add] at g1
  have h2' : gi ks ((0 : Nat) : Int) = 0 := h2
  omega
def vErr (n : Nat) (pts : List R_movingpoint_Sample) (ks : List Int) : Value := .tuple #[vQ (if rgt n ks = true then er pts ks (ks.length - 1) else 0), .int .i64 (if rgt n ks = true then 0 else 5)]
theorem error2_spec (I : R_api_Interval) (b n c : Nat) (pts : List R_movingpoint_Sample) (sp : List Value) (T : TypeId) (ks : List Int) (v : Value) (hr : RunOk pts n c) (hn : 1 ≤ n) (hks : ks.length ≤ 9223372036854775807) (w : World) (hw : ∃ fz, w.heap[b]? = some (.cells (row rS pts sp) T fz)) (hv : ArgS w v (eI .i64) ks) :
    Calls Tryd.prog 18 [vRun I b n c, v].toArray w (Ret (vErr n pts ks) w) := by
  have := FoC.mk hw
  have := ArgC.mk hv
  have hr2 := hr.2.2.1
  refine fn_intro Tryd.func18 rfl Tryd.ntmps18 rfl ?_
  repeat (first | refine sX rfl rfl ?_ | (refine sS rfl rfl ?_ ?_; focus omega) | (refine sC rfl rfl ?_ ?_; focus (exact ⟨⟨hn, hr2⟩, hks⟩)) | refine cX ?_ | refine cY ?_ | (refine sA rfl rfl ?_; intro _) | refine sT rfl ?_ | refine sF rfl ?_ | (refine sR rfl ?_ ?_; focus omega) | (refine sB rfl rfl ?_; intro _) | (refine sN rfl rfl ?_ ?_; (focus (exact ⟨⟨hn, hr2⟩, hks⟩)); intro _; simp only [List.cons_append, List.nil_append]) | refine sW rfl rfl ?_ | refine sK rfl rfl ?_ | refine j_if rfl ?_ | refine j_else rfl ?_ | refine Go.Vt.jq (wl_pickT rfl rfl) rfl rfl ?_ | refine Go.Vt.jq (wl_pickF rfl rfl) rfl rfl ?_)
  by_cases hrg : rgt n ks = true
  · simp only [hrg, Bool.not_true]
    obtain ⟨hne, h0, hl1, hinc⟩ := rgt_spec hrg
    have hlp : 0 < ks.length := List.length_pos_iff.2 hne
    obtain ⟨bw, ow, cw, hvw, hcw, hrow⟩ := hv.blk (k := 0) hne []
    subst hvw
    have hrow' : ∀ L, RowC w L bw ow Int (eI .i64) ks := fun L => ⟨fun w' hw' => hrow.out w' (hw'.sub (List.nil_sublist _))⟩
    repeat (first | refine sX rfl rfl ?_ | (refine sS rfl rfl ?_ ?_; focus omega) | (refine sC rfl rfl ?_ ?_; focus (first | exact trivial | assumption | exact ⟨by assumption, by assumption⟩ | exact mb2 rfl rfl | exact mb4 rfl rfl rfl rfl)) | refine cX ?_ | refine cY ?_ | (refine sA rfl rfl ?_; intro _) | refine sT rfl ?_ | refine sF rfl ?_ | (refine sR rfl ?_ ?_; focus omega) | (refine sB rfl rfl ?_; intro _) | (refine sN rfl rfl ?_ ?_; (focus (first | exact trivial | assumption | exact ⟨by assumption, by assumption⟩ | exact mb2 rfl rfl | exact mb4 rfl rfl rfl rfl)); intro _; simp only [List.cons_append, List.nil_append]) | refine sW rfl rfl ?_ | refine sK rfl rfl ?_ | refine j_if rfl ?_ | refine j_else rfl ?_ | refine Go.Vt.jq (wl_pickT rfl rfl) rfl rfl ?_ | refine Go.Vt.jq (wl_pickF rfl rfl) rfl rfl ?_)
    rename_i b2 b4 b6
    refine j_loop (S := Nat) (fun m => m + 1 ≤ ks.length) (fun m => [(1, .slice (some ⟨bw, ow, none⟩) ks.length cw), (2, .pointer (some ⟨b2, 0, none⟩)), (4, .pointer (some ⟨b4, 0, none⟩)), (6, .pointer (some ⟨b6, 0, none⟩)), (7, .int .i64 ((m + 1 : Nat) : Int))]) (fun m => [⟨b6, e_api_Rat (Q (er pts ks m)), 28⟩, ⟨b4, e_api_Rat (Q 0), 28⟩, ⟨b2, cRun I b n c, 35⟩]) (fun m => ks.length - m) 0 (by omega) (by repeat (first | exact sub_nil | refine sub_cons rfl ?_ | refine sub_cons' rfl (by congr 1; omega) ?_)) (by repeat (first | exact List.Sublist.refl _ | exact List.nil_sublist _ | refine List.Sublist.cons_cons _ ?_ | refine List.Sublist.cons _ ?_)) (fun m hm => ?_)
    repeat (first | refine sX rfl rfl ?_ | (refine sS rfl rfl ?_ ?_; focus omega) | (refine sC rfl rfl ?_ ?_; focus (first | exact trivial | assumption | exact ⟨by assumption, by assumption⟩ | exact mb2 rfl rfl | exact mb4 rfl rfl rfl rfl)) | refine cX ?_ | refine cY ?_ | (refine sA rfl rfl ?_; intro _) | refine sT rfl ?_ | refine sF rfl ?_ | (refine sR rfl ?_ ?_; focus omega) | (refine sB rfl rfl ?_; intro _) | (refine sN rfl rfl ?_ ?_; (focus (first | exact trivial | assumption | exact ⟨by assumption, by assumption⟩ | exact mb2 rfl rfl | exact mb4 rfl rfl rfl rfl)); intro _; simp only [List.cons_append, List.nil_append]) | refine sW rfl rfl ?_ | refine sK rfl rfl ?_ | refine j_if rfl ?_ | refine j_else rfl ?_ | refine Go.Vt.jq (wl_pickT rfl rfl) rfl rfl ?_ | refine Go.Vt.jq (wl_pickF rfl rfl) rfl rfl ?_)
    refine j_cond rfl (fun h => ?_) (fun h => ?_)
    · have hlt : m + 1 < ks.length := by have := of_decide_eq_true h; omega
      have e4 : ((m + 1 : Nat) : Int) - 1 = (m : Int) := by omega
      obtain ⟨i1, i2, i3⟩ := hinc m hlt
      have hm1 := M_er hr.2.2.2 ks m
      have hm2 := M_dv hr.2.2.2 (gi ks (m : Int)).toNat (gi ks ((m + 1 : Nat) : Int)).toNat ((gi ks ((m + 1 : Nat) : Int)).toNat - (gi ks (m : Int)).toNat - 1)
      repeat (first | refine sX rfl rfl ?_ | (refine sS rfl rfl ?_ ?_; focus omega) | (refine sC rfl rfl ?_ ?_; focus (first | exact trivial | assumption | exact ⟨by assumption, by assumption⟩ | exact mb2 rfl rfl | exact mb4 rfl rfl rfl rfl)) | refine cX ?_ | refine cY ?_ | (refine sA rfl rfl ?_; intro _) | refine sT rfl ?_ | refine sF rfl ?_ | (refine sR rfl ?_ ?_; focus omega) | (refine sB rfl rfl ?_; intro _) | (refine sN rfl rfl ?_ ?_; (focus (first | exact trivial | assumption | exact ⟨by assumption, by assumption⟩ | exact mb2 rfl rfl | exact mb4 rfl rfl rfl rfl)); intro _; simp only [List.cons_append, List.nil_append]) | refine sW rfl rfl ?_ | refine sK rfl rfl ?_ | refine j_if rfl ?_ | refine j_else rfl ?_ | refine Go.Vt.jq (wl_pickT rfl rfl) rfl rfl ?_ | refine Go.Vt.jq (wl_pickF rfl rfl) rfl rfl ?_)
      (refine j_late2 [0, 1, 2, 3, 4, 5, 6, 7, 8, 9, 10, 11, 12] [] [13] ([⟨b6, e_api_Rat (Q (er pts ks m)), 28⟩, ⟨b4, e_api_Rat (Q 0), 28⟩, ⟨b2, cRun I b n c, 35⟩]) mixed (by kernel_rfl) (by kernel_rfl) (by decide) (by decide) (by repeat (first | exact List.Sublist.refl _ | exact List.nil_sublist _ | refine List.Sublist.cons_cons _ ?_ | refine List.Sublist.cons _ ?_ | refine List.Sublist.trans ?_ (List.sublist_append_right _ _))) ?_; simp only [picks, List.getElem?_cons_succ, List.getElem?_cons_zero])
      repeat (first | refine tX rfl rfl ?_ | (refine tS rfl rfl ?_ ?_; focus omega) | (refine tC rfl rfl ?_ ?_; focus (exact ⟨by omega, by omega⟩)) | refine tW rfl rfl ?_ | refine tK rfl rfl ?_ | refine Go.Vt.hq (wl_pickT rfl rfl) rfl rfl ?_ | refine Go.Vt.hq (wl_pickF rfl rfl) rfl rfl ?_)
      simp only [e4]
      repeat (first | refine tX rfl rfl ?_ | (refine tS rfl rfl ?_ ?_; focus omega) | (refine tC rfl rfl ?_ ?_; focus (first | exact ⟨by omega, by omega⟩ | exact ⟨hr, by omega, by omega, by omega⟩ | exact ⟨Nat.le_trans hm1 (by decide), Nat.le_trans hm2 (by decide)⟩)) | refine tW rfl rfl ?_ | refine tK rfl rfl ?_ | refine Go.Vt.hq (wl_pickT rfl rfl) rfl rfl ?_ | refine Go.Vt.hq (wl_pickF rfl rfl) rfl rfl ?_)
      refine jh_nil ?_
      refine eT rfl ?_
      refine je_nil ?_
      repeat (first | refine sX rfl rfl ?_ | (refine sS rfl rfl ?_ ?_; focus omega) | (refine sC rfl rfl ?_ ?_; focus (exact ⟨by omega, by omega⟩)) | refine cX ?_ | refine cY ?_ | (refine sA rfl rfl ?_; intro _) | refine sT rfl ?_ | refine sF rfl ?_ | (refine sR rfl ?_ ?_; focus omega) | (refine sB rfl rfl ?_; intro _) | (refine sN rfl rfl ?_ ?_; (focus (exact ⟨by omega, by omega⟩)); intro _; simp only [List.cons_append, List.nil_append]) | refine sW rfl rfl ?_ | refine sK rfl rfl ?_ | refine j_if rfl ?_ | refine j_else rfl ?_ | refine Go.Vt.jq (wl_pickT rfl rfl) rfl rfl ?_ | refine Go.Vt.jq (wl_pickF rfl rfl) rfl rfl ?_)
      exact jx_loop (m + 1) (by omega) (by repeat (first | exact sub_nil | refine sub_cons rfl ?_ | refine sub_cons' rfl (by congr 1; omega) ?_)) (by repeat (first | exact List.Sublist.refl _ | exact List.nil_sublist _ | refine List.Sublist.cons_cons _ ?_ | refine List.Sublist.cons _ ?_)) (by omega)
    · have hge : ks.length - 1 = m := by have := of_decide_eq_false h; omega
      subst hge
      repeat (first | refine sX rfl rfl ?_ | (refine sS rfl rfl ?_ ?_; focus omega) | (refine sC rfl rfl ?_ ?_; focus (first | exact trivial | assumption | exact ⟨by assumption, by assumption⟩ | exact mb2 rfl rfl | exact mb4 rfl rfl rfl rfl)) | refine cX ?_ | refine cY ?_ | (refine sA rfl rfl ?_; intro _) | refine sT rfl ?_ | refine sF rfl ?_ | (refine sR rfl ?_ ?_; focus omega) | (refine sB rfl rfl ?_; intro _) | (refine sN rfl rfl ?_ ?_; (focus (first | exact trivial | assumption | exact ⟨by assumption, by assumption⟩ | exact mb2 rfl rfl | exact mb4 rfl rfl rfl rfl)); intro _; simp only [List.cons_append, List.nil_append]) | refine sW rfl rfl ?_ | refine sK rfl rfl ?_ | refine j_if rfl ?_ | refine j_else rfl ?_ | refine Go.Vt.jq (wl_pickT rfl rfl) rfl rfl ?_ | refine Go.Vt.jq (wl_pickF rfl rfl) rfl rfl ?_)
      exact jx_ret_two rfl (wr_cell rfl) (resv_tmp rfl) (fun w hw => by unfold vErr; rw [if_pos hrg, if_pos hrg]; exact ret_ok hw)
  · have hrf : rgt n ks = false := by simpa using hrg
    simp only [hrf, Bool.not_false]
    repeat (first | refine sX rfl rfl ?_ | (refine sS rfl rfl ?_ ?_; focus omega) | (refine sC rfl rfl ?_ ?_; focus (first | exact trivial | assumption | exact ⟨by assumption, by assumption⟩ | exact mb2 rfl rfl | exact mb4 rfl rfl rfl rfl)) | refine cX ?_ | refine cY ?_ | (refine sA rfl rfl ?_; intro _) | refine sT rfl ?_ | refine sF rfl ?_ | (refine sR rfl ?_ ?_; focus omega) | (refine sB rfl rfl ?_; intro _) | (refine sN rfl rfl ?_ ?_; (focus (first | exact trivial | assumption | exact ⟨by assumption, by assumption⟩ | exact mb2 rfl rfl | exact mb4 rfl rfl rfl rfl)); intro _; simp only [List.cons_append, List.nil_append]) | refine sW rfl rfl ?_ | refine sK rfl rfl ?_ | refine j_if rfl ?_ | refine j_else rfl ?_ | refine Go.Vt.jq (wl_pickT rfl rfl) rfl rfl ?_ | refine Go.Vt.jq (wl_pickF rfl rfl) rfl rfl ?_)
    exact jx_ret_two rfl (wr_cell rfl) (resv_tmp rfl) (fun w hw => by unfold vErr; rw [if_neg hrg, if_neg hrg]; exact ret_ok hw)
end Go.Vt
