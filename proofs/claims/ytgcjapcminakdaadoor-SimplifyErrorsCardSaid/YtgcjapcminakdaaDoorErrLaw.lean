/- P31.3, P31.6 walked. Conditions: those that each statement names. -/
import Derived.Test.YtgcjapcminakdaaDoorSameRun
set_option linter.unusedSimpArgs false
set_option linter.unusedVariables false
set_option maxRecDepth 100000
namespace Go.Vt
open Go.RowKit Go.Proofs

instance sm_Error2A (w0 : World) (L : List Blk) (I : R_api_Interval) (b n c : Nat) (pts : List R_movingpoint_Sample) (sp : List Value) (T : TypeId) (ks : List Int) (v : Value) [h : AtC w0 L b (row rS pts sp) T] [hv : ArgC w0 v Int (eI .i64) ks] : SpecM Tryd.prog w0 L 18 [vRun I b n c, v] (vErr n pts ks) (RunOk pts n c ∧ 1 ≤ n ∧ ks.length ≤ 9223372036854775807) := ⟨fun hp w hw =>
  error2_spec I b n c pts sp T ks v hp.1 hp.2.1 hp.2.2 w (h.out w hw) (hv.out.to hw.ext)⟩
instance sm_errorOf (w0 : World) (L : List Blk) (I : R_api_Interval) (b n c : Nat) (pts : List R_movingpoint_Sample) (sp : List Value) (T : TypeId) (ks : List Int) (v : Value) [h : AtC w0 L b (row rS pts sp) T] [hv : ArgC w0 v Int (eI .i64) ks] : SpecM Tryd.prog w0 L 22 [vRun I b n c, v] (vQ (rer pts ks (ks.length - 1))) (RunOk pts n c ∧ 1 ≤ n ∧ ks.length ≤ 9223372036854775807 ∧ rgt n ks = true) := ⟨fun hp w hw =>
  errorOf_spec I b n c pts sp T ks v hp.1 hp.2.1 hp.2.2.1 hp.2.2.2 w (h.out w hw) (hv.out.to hw.ext)⟩
abbrev SK3 (ks : List Int) := { s : Nat × Nat × List Value // ks.length ≤ s.2.1 }
instance sr_Keep (w0 : World) (L : List Blk) (I : R_api_Interval) (b n c : Nat) (pts : List R_movingpoint_Sample) (sp : List Value) (T : TypeId) (ks : List Int) (v : Value) [h : AtC w0 L b (row rS pts sp) T] [hv : ArgC w0 v Int (eI .i64) ks] : SpecR Tryd.prog w0 L 19 [vRun I b n c, v] (SK3 ks) (fun s => .tuple #[vRun I s.1.1 ks.length s.1.2.1, .int .i64 0]) (fun s => [⟨s.1.1, row rS (kp pts ks ks.length) s.1.2.2, 52⟩]) (RunOk pts n c ∧ 1 ≤ n ∧ ks.length ≤ 1048576 ∧ rgt n ks = true) := ⟨fun hp w hw =>
  keep_spec I b n c pts sp T ks v hp.1 hp.2.1 hp.2.2.1 hp.2.2.2 w (h.out w hw) (hv.out.to hw.ext)⟩
instance sr_rkeep (w0 : World) (L : List Blk) (I : R_api_Interval) (b n c : Nat) (pts : List R_movingpoint_Sample) (sp : List Value) (T : TypeId) (ks : List Int) (v : Value) [h : AtC w0 L b (row rS pts sp) T] [hv : ArgC w0 v Int (eI .i64) ks] : SpecR Tryd.prog w0 L 23 [vRun I b n c, v] (SK3 ks) (fun s => vRun I s.1.1 ks.length s.1.2.1) (fun s => [⟨s.1.1, row rS (kp pts ks ks.length) s.1.2.2, 52⟩]) (RunOk pts n c ∧ 1 ≤ n ∧ ks.length ≤ 1048576 ∧ rgt n ks = true) := ⟨fun hp w hw =>
  rkeep_spec I b n c pts sp T ks v hp.1 hp.2.1 hp.2.2.1 hp.2.2.2 w (h.out w hw) (hv.out.to hw.ext)⟩
instance sm_KeepNo (w0 : World) (L : List Blk) (I : R_api_Interval) (b n c : Nat) (ks : List Int) (v : Value) [hv : ArgC w0 v Int (eI .i64) ks] : SpecM Tryd.prog w0 L 19 [vRun I b n c, v] (.tuple #[.agg (e_simplify_Run (q_simplify_Run zR_simplify_Run)), .int .i64 5]) ((1 ≤ n ∧ n ≤ 1099511627776) ∧ ks.length ≤ 9223372036854775807 ∧ rgt n ks = false) := ⟨fun hp w hw => by
  obtain ⟨⟨h1, h2⟩, h3, h4⟩ := hp
  have := ArgC.mk (hv.out.to hw.ext)
  refine fn_intro Tryd.func19 rfl Tryd.ntmps19 rfl ?_
  repeat (first | refine sX rfl rfl ?_ | (refine sS rfl rfl ?_ ?_; focus omega) | (refine sC rfl rfl ?_ ?_; focus (exact ⟨⟨h1, h2⟩, h3⟩)) | refine cX ?_ | refine cY ?_ | (refine sA rfl rfl ?_; intro _) | refine sT rfl ?_ | refine sF rfl ?_ | (refine sR rfl ?_ ?_; focus omega) | (refine sB rfl rfl ?_; intro _) | (refine sN rfl rfl ?_ ?_; (focus (exact ⟨⟨h1, h2⟩, h3⟩)); intro _; simp only [List.cons_append, List.nil_append]) | refine sW rfl rfl ?_ | refine sK rfl rfl ?_ | refine j_if rfl ?_ | refine j_else rfl ?_ | refine Go.Vt.jq (wl_pickT rfl rfl) rfl rfl ?_ | refine Go.Vt.jq (wl_pickF rfl rfl) rfl rfl ?_)
  simp only [h4, Bool.not_false]
  repeat (first | refine sX rfl rfl ?_ | (refine sS rfl rfl ?_ ?_; focus omega) | (refine sC rfl rfl ?_ ?_; focus (first | exact trivial | assumption | exact ⟨by assumption, by assumption⟩ | exact mb2 rfl rfl | exact mb4 rfl rfl rfl rfl)) | refine cX ?_ | refine cY ?_ | (refine sA rfl rfl ?_; intro _) | refine sT rfl ?_ | refine sF rfl ?_ | (refine sR rfl ?_ ?_; focus omega) | (refine sB rfl rfl ?_; intro _) | (refine sN rfl rfl ?_ ?_; (focus (first | exact trivial | assumption | exact ⟨by assumption, by assumption⟩ | exact mb2 rfl rfl | exact mb4 rfl rfl rfl rfl)); intro _; simp only [List.cons_append, List.nil_append]) | refine sW rfl rfl ?_ | refine sK rfl rfl ?_ | refine j_if rfl ?_ | refine j_else rfl ?_ | refine Go.Vt.jq (wl_pickT rfl rfl) rfl rfl ?_ | refine Go.Vt.jq (wl_pickF rfl rfl) rfl rfl ?_)
  exact jx_ret_two rfl (wr_cell rfl) (resv_tmp rfl) (fun w hw => ret_ok hw)⟩
end Go.Vt
