/- The reference's error of kept breakpoints, walked. Conditions: those that each statement names. -/
import Derived.Test.YtgcjapcminakdaaDoorErr
set_option linter.unusedSimpArgs false
set_option linter.unusedVariables false
set_option maxRecDepth 100000
namespace Go.Vt
open Go.RowKit Go.Proofs

def rer (pts : List R_movingpoint_Sample) (ks : List Int) : Nat → Rat
  | 0 => 0
  | m + 1 => max (rer pts ks m) (rv pts (gi ks (m : Int)).toNat (gi ks ((m + 1 : Nat) : Int)).toNat ((gi ks ((m + 1 : Nat) : Int)).toNat - (gi ks (m : Int)).toNat - 1))
theorem M_rer {pts : List R_movingpoint_Sample} (hB : Bnd pts) (ks : List Int) : ∀ m, M (rer pts ks m) ≤ 67108864
  | 0 => Nat.le_trans mb_zero.out (by decide)
  | m + 1 => by
    rw [rer]
    have h1 := M_rer hB ks m
    have h2 := M_rv hB (gi ks (m : Int)).toNat (gi ks ((m + 1 : Nat) : Int)).toNat ((gi ks ((m + 1 : Nat) : Int)).toNat - (gi ks (m : Int)).toNat - 1)
    exact Nat.le_trans (M_max _ _) (Nat.max_le.2 ⟨h1, h2⟩)
theorem rer_er {pts : List R_movingpoint_Sample} {ks : List Int} {n : Nat} (hrg : rgt n ks = true) (hinc : ∀ i j : Nat, i < j → j < n → (gi pts (i : Int)).T < (gi pts (j : Int)).T) : ∀ m, m < ks.length → rer pts ks m = er pts ks m
  | 0, _ => rfl
  | m + 1, hm => by
    obtain ⟨g1, g2, g3⟩ := (rgt_spec hrg).2.2.2 m hm
    rw [rer, er, rer_er hrg hinc m (by omega), rv_dv (hinc _ _ (by omega) (by omega))]
theorem errorOf_spec (I : R_api_Interval) (b n c : Nat) (pts : List R_movingpoint_Sample) (sp : List Value) (T : TypeId) (ks : List Int) (v : Value) (hr : RunOk pts n c) (hn : 1 ≤ n) (hks : ks.length ≤ 9223372036854775807) (hrg : rgt n ks = true) (w : World) (hw : ∃ fz, w.heap[b]? = some (.cells (row rS pts sp) T fz)) (hv : ArgS w v (eI .i64) ks) :
    Calls Tryd.prog 22 [vRun I b n c, v].toArray w (Ret (vQ (rer pts ks (ks.length - 1))) w) := by
  have := FoC.mk hw
  have hr2 := hr.2.2.1
  obtain ⟨hne, h0, hl1, hinc⟩ := rgt_spec hrg
  have hlp : 0 < ks.length := List.length_pos_iff.2 hne
  obtain ⟨bw, ow, cw, hvw, hcw, hrow⟩ := hv.blk (k := 0) hne []
  subst hvw
  have hrow' : ∀ L, RowC w L bw ow Int (eI .i64) ks := fun L => ⟨fun w' hw' => hrow.out w' (hw'.sub (List.nil_sublist _))⟩
  refine fn_intro Tryd.func22 rfl Tryd.ntmps22 rfl ?_
  repeat (first | refine sX rfl rfl ?_ | (refine sS rfl rfl ?_ ?_; focus omega) | (refine sC rfl rfl ?_ ?_; focus (first | exact trivial | assumption | exact ⟨by assumption, by assumption⟩ | exact mb2 rfl rfl | exact mb4 rfl rfl rfl rfl)) | refine cX ?_ | refine cY ?_ | (refine sA rfl rfl ?_; intro _) | refine sT rfl ?_ | refine sF rfl ?_ | (refine sR rfl ?_ ?_; focus omega) | (refine sB rfl rfl ?_; intro _) | (refine sN rfl rfl ?_ ?_; (focus (first | exact trivial | assumption | exact ⟨by assumption, by assumption⟩ | exact mb2 rfl rfl | exact mb4 rfl rfl rfl rfl)); intro _; simp only [List.cons_append, List.nil_append]) | refine sW rfl rfl ?_ | refine sK rfl rfl ?_ | refine j_if rfl ?_ | refine j_else rfl ?_ | refine Go.Vt.jq (wl_pickT rfl rfl) rfl rfl ?_ | refine Go.Vt.jq (wl_pickF rfl rfl) rfl rfl ?_)
  rename_i b2 b4 b6
  refine j_loop (S := Nat) (fun m => m + 1 ≤ ks.length) (fun m => [(1, .slice (some ⟨bw, ow, none⟩) ks.length cw), (2, .pointer (some ⟨b2, 0, none⟩)), (4, .pointer (some ⟨b4, 0, none⟩)), (5, .pointer (some ⟨b6, 0, none⟩)), (6, .int .i64 ((m + 1 : Nat) : Int))]) (fun m => [⟨b6, e_api_Rat (Q (rer pts ks m)), 28⟩, ⟨b4, e_api_Rat (Q 0), 28⟩, ⟨b2, cRun I b n c, 35⟩]) (fun m => ks.length - m) 0 (by omega) (by repeat (first | exact sub_nil | refine sub_cons rfl ?_ | refine sub_cons' rfl (by congr 1; omega) ?_)) (by repeat (first | exact List.Sublist.refl _ | exact List.nil_sublist _ | refine List.Sublist.cons_cons _ ?_ | refine List.Sublist.cons _ ?_)) (fun m hm => ?_)
  repeat (first | refine sX rfl rfl ?_ | (refine sS rfl rfl ?_ ?_; focus omega) | (refine sC rfl rfl ?_ ?_; focus (first | exact trivial | assumption | exact ⟨by assumption, by assumption⟩ | exact mb2 rfl rfl | exact mb4 rfl rfl rfl rfl)) | refine cX ?_ | refine cY ?_ | (refine sA rfl rfl ?_; intro _) | refine sT rfl ?_ | refine sF rfl ?_ | (refine sR rfl ?_ ?_; focus omega) | (refine sB rfl rfl ?_; intro _) | (refine sN rfl rfl ?_ ?_; (focus (first | exact trivial | assumption | exact ⟨by assumption, by assumption⟩ | exact mb2 rfl rfl | exact mb4 rfl rfl rfl rfl)); intro _; simp only [List.cons_append, List.nil_append]) | refine sW rfl rfl ?_ | refine sK rfl rfl ?_ | refine j_if rfl ?_ | refine j_else rfl ?_ | refine Go.Vt.jq (wl_pickT rfl rfl) rfl rfl ?_ | refine Go.Vt.jq (wl_pickF rfl rfl) rfl rfl ?_)
  refine j_cond rfl (fun h => ?_) (fun h => ?_)
  · have hlt : m + 1 < ks.length := by have := of_decide_eq_true h; omega
    have e4 : ((m + 1 : Nat) : Int) - 1 = (m : Int) := by omega
    obtain ⟨i1, i2, i3⟩ := hinc m hlt
    have hm1 := M_rer hr.2.2.2 ks m
    have hm2 := M_rv hr.2.2.2 (gi ks (m : Int)).toNat (gi ks ((m + 1 : Nat) : Int)).toNat ((gi ks ((m + 1 : Nat) : Int)).toNat - (gi ks (m : Int)).toNat - 1)
    repeat (first | refine sX rfl rfl ?_ | (refine sS rfl rfl ?_ ?_; focus omega) | (refine sC rfl rfl ?_ ?_; focus (first | exact trivial | assumption | exact ⟨by assumption, by assumption⟩ | exact mb2 rfl rfl | exact mb4 rfl rfl rfl rfl)) | refine cX ?_ | refine cY ?_ | (refine sA rfl rfl ?_; intro _) | refine sT rfl ?_ | refine sF rfl ?_ | (refine sR rfl ?_ ?_; focus omega) | (refine sB rfl rfl ?_; intro _) | (refine sN rfl rfl ?_ ?_; (focus (first | exact trivial | assumption | exact ⟨by assumption, by assumption⟩ | exact mb2 rfl rfl | exact mb4 rfl rfl rfl rfl)); intro _; simp only [List.cons_append, List.nil_append]) | refine sW rfl rfl ?_ | refine sK rfl rfl ?_ | refine j_if rfl ?_ | refine j_else rfl ?_ | refine Go.Vt.jq (wl_pickT rfl rfl) rfl rfl ?_ | refine Go.Vt.jq (wl_pickF rfl rfl) rfl rfl ?_)
    (refine j_late2 [0, 1, 2, 3, 4, 5, 6, 7, 8, 9, 10, 11, 12] [] [13] ([⟨b6, e_api_Rat (Q (rer pts ks m)), 28⟩, ⟨b4, e_api_Rat (Q 0), 28⟩, ⟨b2, cRun I b n c, 35⟩]) mixed (by kernel_rfl) (by kernel_rfl) (by decide) (by decide) (by repeat (first | exact List.Sublist.refl _ | exact List.nil_sublist _ | refine List.Sublist.cons_cons _ ?_ | refine List.Sublist.cons _ ?_ | refine List.Sublist.trans ?_ (List.sublist_append_right _ _))) ?_; simp only [picks, List.getElem?_cons_succ, List.getElem?_cons_zero])
    repeat (first | refine tX rfl rfl ?_ | (refine tS rfl rfl ?_ ?_; focus omega) | (refine tC rfl rfl ?_ ?_; focus (exact ⟨by omega, by omega⟩)) | refine tW rfl rfl ?_ | refine tK rfl rfl ?_ | refine Go.Vt.hq (wl_pickT rfl rfl) rfl rfl ?_ | refine Go.Vt.hq (wl_pickF rfl rfl) rfl rfl ?_)
    simp only [e4]
    repeat (first | refine tX rfl rfl ?_ | (refine tS rfl rfl ?_ ?_; focus omega) | (refine tC rfl rfl ?_ ?_; focus (first | exact ⟨by omega, by omega⟩ | exact ⟨hr, by omega, by omega, by omega⟩ | exact ⟨Nat.le_trans hm1 (by decide), Nat.le_trans hm2 (by decide)⟩)) | refine tW rfl rfl ?_ | refine tK rfl rfl ?_ | refine Go.Vt.hq (wl_pickT rfl rfl) rfl rfl ?_ | refine Go.Vt.hq (wl_pickF rfl rfl) rfl rfl ?_)
    refine jh_nil ?_
    refine eT rfl ?_
    refine je_nil ?_
    repeat (first | refine sX rfl rfl ?_ | (refine sS rfl rfl ?_ ?_; focus omega) | (refine sC rfl rfl ?_ ?_; focus (exact ⟨by omega, by omega⟩)) | refine cX ?_ | refine cY ?_ | (refine sA rfl rfl ?_; intro _) | refine sT rfl ?_ | refine sF rfl ?_ | (refine sR rfl ?_ ?_; focus omega) | (refine sB rfl rfl ?_; intro _) | (refine sN rfl rfl ?_ ?_; (focus (exact ⟨by omega, by omega⟩)); intro _; simp only [List.cons_append, List.nil_append]) | refine sW rfl rfl ?_ | refine sK rfl rfl ?_ | refine j_if rfl ?_ | refine j_else rfl ?_ | refine Go.Vt.jq (wl_pickT rfl rfl) rfl rfl ?_ | refine Go.Vt.jq (wl_pickF rfl rfl) rfl rfl ?_)
    exact jx_loop (m + 1) (by omega) (by repeat (first | exact sub_nil | refine sub_cons rfl ?_ | refine sub_cons' rfl (by congr 1; omega) ?_)) (by repeat (first | exact List.Sublist.refl _ | exact List.nil_sublist _ | refine List.Sublist.cons_cons _ ?_ | refine List.Sublist.cons _ ?_)) (by omega)
  · have hge : ks.length - 1 = m := by have := of_decide_eq_false h; omega
    subst hge
    repeat (first | refine sX rfl rfl ?_ | (refine sS rfl rfl ?_ ?_; focus omega) | (refine sC rfl rfl ?_ ?_; focus (first | exact trivial | assumption | exact ⟨by assumption, by assumption⟩ | exact mb2 rfl rfl | exact mb4 rfl rfl rfl rfl)) | refine cX ?_ | refine cY ?_ | (refine sA rfl rfl ?_; intro _) | refine sT rfl ?_ | refine sF rfl ?_ | (refine sR rfl ?_ ?_; focus omega) | (refine sB rfl rfl ?_; intro _) | (refine sN rfl rfl ?_ ?_; (focus (first | exact trivial | assumption | exact ⟨by assumption, by assumption⟩ | exact mb2 rfl rfl | exact mb4 rfl rfl rfl rfl)); intro _; simp only [List.cons_append, List.nil_append]) | refine sW rfl rfl ?_ | refine sK rfl rfl ?_ | refine j_if rfl ?_ | refine j_else rfl ?_ | refine Go.Vt.jq (wl_pickT rfl rfl) rfl rfl ?_ | refine Go.Vt.jq (wl_pickF rfl rfl) rfl rfl ?_)
    exact wx_cell rfl rfl (fun w hw => ret_ok hw)
end Go.Vt
