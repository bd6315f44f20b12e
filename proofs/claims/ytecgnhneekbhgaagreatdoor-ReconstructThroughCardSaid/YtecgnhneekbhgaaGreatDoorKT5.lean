/- ReconstructThrough: for at most 12 reports and any settings, Through returns the trajectory through the reports of their chain. (part 5 of 6.) Conditions: those that each statement names. -/
import Derived.Test.YtecgnhneekbhgaaGreatDoorCards
import Derived.Test.YtecgnhneekbhgaaGreatDoorTie
import Derived.WalkKit
import Derived.ProofKit
import Derived.OpenShut
import Derived.Deep.DeepHandedRow
import Derived.Deep.DeepLaidRun
import Derived.Deep.SlicePairs
import Derived.Carry
import Derived.Lib.LaidU8
import Derived.Test.YtecgnhneekbhgaaGreatDoorKT4
/- No exchanges: no devices. Conditions: those that each statement names. -/
set_option linter.unusedSimpArgs false
set_option linter.unusedVariables false
set_option maxHeartbeats 2000000
set_option maxRecDepth 100000
namespace Go.Vt
open Go.RowKit Go.Proofs
abbrev mIn0 : Obj := mapO (Value.int .i64) Value.bool ([] : List (Int × Bool))
instance mapT_I : MapT Tryz.prog 324 (Value.int .i64) Value.bool := ⟨trivial⟩
instance und_mI : UndC Tryz.prog 324 (.map 3 4) := ⟨by kernel_rfl⟩
instance ld_boxI (m : Option Nat) : LdC Tryz.prog 324 #[.map m] 0 (.map m) := ⟨ldv_one (by kernel_rfl) (by kernel_rfl)⟩
instance call_col : CallC Tryz.prog 249 := ⟨by kernel_rfl⟩
instance call_sort : CallC Tryz.prog 250 := ⟨by kernel_rfl⟩
instance call_app : CallC Tryz.prog 258 := ⟨by kernel_rfl⟩
instance call_pdq : CallC Tryz.prog 259 := ⟨by kernel_rfl⟩
instance call_ins : CallC Tryz.prog 263 := ⟨by kernel_rfl⟩
set_option maxHeartbeats 4000000 in
theorem keysI_stops (wc w0 : World) (Bm b N : Nat) (TB : TypeId) (hwc : Below wc.heap.size wc w0) (hB : ∃ fz, wc.heap[Bm]? = some (.cells #[.map (some b)] TB fz)) (hb : wc.heap[b]? = some mIn0) :
    SeqStopsK (Fr none) N Tryz.prog 251 #[.pointer (some ⟨Bm, 0, none⟩)] (fun x : Int => #[.int .i64 x]) (KpK wc) (fun ys => ys = []) (fun _ => True) 0 w0 := by
  intro lp Jp Jx W hW hJ hJx hY h0
  have hBW : Below wc.heap.size wc W := hwc.trans (hW.mono hwc.size)
  have hB1 : ∃ fz, W.heap[Bm]? = some (.cells #[.map (some b)] TB fz) := by
    obtain ⟨fz, h⟩ := hB
    exact ⟨fz, (hBW.block Bm (lt_of_block h)).trans h⟩
  have hb1 : W.heap[b]? = some mIn0 := (hBW.block b (lt_of_block hb)).trans hb
  have fB := FoC.mk (w0 := W) hB1
  have fb := FoO.mk hb1
  have hgo := fnI_intro (N := N) (P := Tryz.prog) (l := [Value.func (.yield lp) #[] #[], Value.pointer (some ⟨Bm, 0, none⟩)]) (w := W) (R := fun e W' => (∃ v, e = Ending.returned v) ∧ ((∃ xs : List Int, xs = [] ∧ Jp xs W') ∨ ∃ pre, True ∧ Jx pre W')) Tryz.func251 rfl Tryz.ntmps251 rfl
  refine hgo ?_
  clear hgo
  refine ji_seq ?_
  refine ji_of ?_
  repeat (first | (refine wkB ?_; try intro _) | (refine sC rfl rfl ?_ ?_; focus (first | exact trivial | assumption | constructor <;> assumption | exact mb2 rfl rfl | exact mb4 rfl rfl rfl rfl)) | (refine sN rfl rfl ?_ ?_; (focus (first | exact trivial | assumption | constructor <;> assumption | exact mb2 rfl rfl | exact mb4 rfl rfl rfl rfl)); intro _; (try simp only [List.cons_append, List.nil_append, List.append_nil])) | refine sMu rfl ?_ | (refine sMm rfl rfl ?_; intro _) | (refine sRg rfl rfl ?_; intro _))
  refine jxi_then ?_
  rename_i r
  refine ji_block ?_
  refine ji_loop (S := Unit) (fun _ W1 => Jp [] W1 ∧ Below wc.heap.size wc W1 ∧ W1.heap[r]? = some (itO b ([] : List (Int × Bool)).length [])) (fun _ => [(0, .func (.yield lp) #[] #[]), (5, .pointer (some ⟨r, 0, none⟩))]) (fun _ => 0) () (fun w hw => ⟨hJ _ W w none h0 (grown_ext hw.ext) (fun _ e => by cases e), hBW.trans (hw.ext.bel.mono hBW.size), (hw.mem _ (.head _)).2⟩) sbB (fun s W1 hI => ?_)
  obtain ⟨hJp, hB0, hr1⟩ := hI
  have hbb : W1.heap[b]? = some mIn0 := (hB0.block b (lt_of_block hb)).trans hb
  refine ji_seq ?_
  refine ji_region ?_
  refine joi_next rfl rfl (fun w hw => (hw.ext.block _ (lt_of_block hr1)).trans hr1) (fun w hw => (hw.ext.block _ (lt_of_block hbb)).trans hbb) (fun hall => ?h0) (fun w w1 hw hw1 i hi hni => ?h1)
  case h0 =>
    refine joi_of (fun _ _ h => by obtain ⟨⟨v, h⟩, _⟩ := h; cases h) rfl ?_
    repeat (first | (refine wkB ?_; try intro _) | (refine sC rfl rfl ?_ ?_; focus (first | exact trivial | assumption | constructor <;> assumption | exact mb2 rfl rfl | exact mb4 rfl rfl rfl rfl)) | (refine sN rfl rfl ?_ ?_; (focus (first | exact trivial | assumption | constructor <;> assumption | exact mb2 rfl rfl | exact mb4 rfl rfl rfl rfl)); intro _; (try simp only [List.cons_append, List.nil_append, List.append_nil])) | refine sMu rfl ?_ | (refine sMm rfl rfl ?_; intro _) | (refine sRg rfl rfl ?_; intro _))
    refine jxi_then ?_
    refine ji_seq ?_
    refine ji_cond rfl (fun h => by cases h) (fun _ => ?_)
    refine ji_exit ?_
    refine jxi_then_exit ?_
    refine jxi_loop_exit ?_
    refine jx_block_here ?_
    exact jx_end0 rfl (fun w hw => ⟨⟨_, rfl⟩, .inl ⟨_, rfl, hJ _ W1 w none hJp (grown_ext hw.ext) (fun _ e => by cases e)⟩⟩)
  case h1 => cases hi
def SeqI0 (w : World) (b2 : Nat) (pre : List Int) (W : World) : Prop := pre = [] ∧ (Boxed W b2 40 (.slice none 0 0) ∧ Below w.heap.size w W)
theorem seqI0_own {w : World} {b2 B : Nat} (hB : w.heap.size ≤ B) : OwnFrom B (SeqI0 w b2) :=
  OwnFrom.and (ownFrom_pure B (fun pre : List Int => pre = [])) (OwnFrom.and (Own.from (boxed_own b2 40 (fun _ => .slice none 0 0)) _) (ownFrom_below (Nat.le_refl _) hB))
set_option maxHeartbeats 4000000 in
theorem seqI_spec (Bm b : Nat) (TB : TypeId) (w : World) (hB : ∃ fz, w.heap[Bm]? = some (.cells #[.map (some b)] TB fz)) (hb : w.heap[b]? = some mIn0) :
    Calls Tryz.prog 258 [.slice none 0 0, .func (.func 251) #[] [.pointer (some ⟨Bm, 0, none⟩)].toArray].toArray w (Ret (.slice none 0 0) w) := by
  have hgo := fnM_intro (N := 5) (P := Tryz.prog) (l := [Value.slice none 0 0, .func (.func 251) #[] [.pointer (some ⟨Bm, 0, none⟩)].toArray]) (w := w) (R := Ret (.slice none 0 0) w) Tryz.func258 rfl Tryz.ntmps258 rfl
  refine hgo ?_
  clear hgo
  refine ji_seq ?_
  refine ji_of ?_
  repeat (first | (refine wkB ?_; try intro _) | (refine sC rfl rfl ?_ ?_; focus (first | exact trivial | assumption | constructor <;> assumption | exact mb2 rfl rfl | exact mb4 rfl rfl rfl rfl)) | (refine sN rfl rfl ?_ ?_; (focus (first | exact trivial | assumption | constructor <;> assumption | exact mb2 rfl rfl | exact mb4 rfl rfl rfl rfl)); intro _; (try simp only [List.cons_append, List.nil_append, List.append_nil])) | refine sMu rfl ?_ | (refine sMm rfl rfl ?_; intro _) | (refine sRg rfl rfl ?_; intro _))
  refine jxi_then ?_
  refine ji_seq ?_
  refine ji_seq ?_
  refine ji_of ?_
  repeat (first | (refine wkB ?_; try intro _) | (refine sC rfl rfl ?_ ?_; focus (first | exact trivial | assumption | constructor <;> assumption | exact mb2 rfl rfl | exact mb4 rfl rfl rfl rfl)) | (refine sN rfl rfl ?_ ?_; (focus (first | exact trivial | assumption | constructor <;> assumption | exact mb2 rfl rfl | exact mb4 rfl rfl rfl rfl)); intro _; (try simp only [List.cons_append, List.nil_append, List.append_nil])) | refine sMu rfl ?_ | (refine sMm rfl rfl ?_; intro _) | (refine sRg rfl rfl ?_; intro _))
  refine jxi_then ?_
  refine ji_block ?_
  rename_i b2
  refine ⟨fun a w1 ha hw1 => ?_⟩
  have hb2 := hw1.mem _ (.head _)
  have hwd := hw1.ext.size
  refine wpIn_rangeFunc_ownH (F := Fr none) (n := 5) (P := Tryz.prog) (w0 := w1) (N := 0) (α := Int) (encs := fun x => #[.int .i64 x]) (S := fun ys => ys = []) (Sp := fun _ => True) (Kp := KpK w) rfl (by omega) (gf := 251) (lb := #[.pointer (some ⟨Bm, 0, none⟩)]) (ha.ev (x := .tmp 6) rfl) trivial (fun args w => run_callFunc (by kernel_rfl) args w)
    (keysI_stops w w1 Bm b 4 TB hw1.ext.bel hB hb) (fun h k => ⟨h.1.trans k.1, fun i o ho hw => k.2 i o (h.2 i o ho hw) hw⟩) (fun W lo o o' hl h hc hk => ⟨belowK_b (w := w1) hwd W lo o o' hl h hc hk, fun k o2 h2 hw2 => (World.putObj_heap_other (fun e => by rw [e, h] at h2; cases h2; rw [hk] at hw2; cases hw2)).trans h2⟩) (Below.refl _ _) (fun _ => rfl)
    (SeqI0 w b2) (fun _ _ _ => False) (seqI0_own hwd) (fun _ _ _ _ _ hs _ _ => hs) ⟨rfl, hb2.2, hw1.ext.bel⟩
    (fun _ _ _ => True) (fun _ _ _ _ _ _ _ _ _ => trivial) ?assign ?body ?done ?stop
  case stop =>
    rintro D c pre W _ _ h _
    exact h.elim
  case assign =>
    intro lo pre x W K hi hK
    have hact : ∀ a0 : Act, a0.defers = [] → ({ tmps := ((#[7] : Array Tmp).zip #[Value.int .i64 x]).foldl (fun t (p, v) => t.setIfInBounds p v) a0.tmps, defers := [] } : Act) = a0.put (some 7) (.int .i64 x) := fun a0 h => by
      cases a0
      simp only at h
      subst h
      simp [Act.put]
    rw [hact a ha.defers]
    have hrep := ha.put (some 7) (.int .i64 x) rfl
    refine JI.out (r := some lo) (N := 3) (P := Tryz.prog) (w0 := W) (n := 13) (E := [(7, .int .i64 x), (2, .pointer (some ⟨b2, 0, none⟩))]) (L := []) ?_ _ W (hrep.sub sbB) (Own.start W)
    refine ji_region ?_
    refine joi_of (fun _ _ h => h) rfl ?_
    repeat (first | (refine wkB ?_; try intro _) | (refine sC rfl rfl ?_ ?_; focus (first | exact trivial | assumption | constructor <;> assumption | exact mb2 rfl rfl | exact mb4 rfl rfl rfl rfl)) | (refine sN rfl rfl ?_ ?_; (focus (first | exact trivial | assumption | constructor <;> assumption | exact mb2 rfl rfl | exact mb4 rfl rfl rfl rfl)); intro _; (try simp only [List.cons_append, List.nil_append, List.append_nil])) | refine sMu rfl ?_ | (refine sMm rfl rfl ?_; intro _) | (refine sRg rfl rfl ?_; intro _))
    refine ⟨fun a' W' ha' hw' => hK a' W' ⟨hw'.ext.size, fun k o _ hk _ => (hw'.ext.block k (lt_of_block hk)).trans hk⟩ ⟨hw'.ext.bel.mono hi.2.2.size, fun k o ho _ => (hw'.ext.block _ (lt_of_block ho)).trans ho⟩ (seqI0_own (Nat.le_refl _) _ W W' none hi (grown_ext hw'.ext) (fun r e => by cases e)) trivial⟩
  case body =>
    rintro lo pre x a' W hlw hr hi - hlt
    exact absurd hlt (Nat.not_lt_zero _)
  case done =>
    rintro D ys W hD hp hi hK
    obtain ⟨-, hv', hBe⟩ := hi
    have f5 := FoC.mk ⟨(0, 0), hv'⟩
    have hra : Rep 13 [(2, .pointer (some ⟨b2, 0, none⟩))] a := ha.sub sbB
    have hl : YlC Tryz.prog W 13 [] [(2, .pointer (some ⟨b2, 0, none⟩))] (.load 40 (.tmp 2)) (.slice none 0 0) := inferInstance
    show Code.wpIn (Fr none) 5 _ _ _ _ W
    refine wpIn_seq (wpIn_region_lit ?_)
    refine listI_q (a := a) (L := []) (w0 := W) (hl.out _ _ _ _ _) hra (Own.start W) rfl rfl (fun W2 hx2 => ?_)
    refine listI_q (a := a.put (some 12) (.slice none 0 0)) (L := []) (w0 := W2) (E := Env.put [(2, .pointer (some ⟨b2, 0, none⟩))] (some 12) (.slice none 0 0)) (yl_assign rfl) (hra.put (some 12) _ rfl) (Own.start W2) rfl rfl (fun W3 hx3 => ?_)
    refine wpListIn_nil ?_
    have hx := hx2.tr hx3
    have hK3 : W3.heap[D]? = some (.deferred (some [])) := (hx.block D (lt_of_block hK)).trans hK
    have hr4 : ((a.put (some 12) (.slice none 0 0)).put (some 4) (.slice none 0 0)).tmps[4]? = some (.slice none 0 0) := ((hra.put (some 12) _ rfl).put (some 4) (.slice none 0 0) rfl).val 4 _ rfl
    refine wpIn_ret ?_
    refine ⟨by simp, .inl ⟨_, _, rfl, run_takeDeferred hK3, ?_⟩⟩
    rw [ha.defers]
    refine ⟨.slice none 0 0, ?_, rfl, ⟨?_, trivial⟩⟩
    · rw [results_tmp rfl]
      show Result.ok (Array.getD _ 4 undef) _ = _
      rw [Array.getD_eq_getD_getElem?, hr4]
      rfl
    · exact (hBe.trans (hx.bel.mono hBe.size)).trans (belowK_b (w := w1) hwd W3 D _ _ hD hK3 rfl rfl)
end Go.Vt
/- Without exchanges, the clock of the server: the time of a report. Conditions: those that each statement names. -/
set_option linter.unusedSimpArgs false
set_option linter.unusedVariables false
set_option maxHeartbeats 2000000
set_option maxRecDepth 100000
namespace Go.Vt
open Go.RowKit Go.Proofs
abbrev vKsI (bm : Nat) : Value := .func (.func 251) #[] [.pointer (some ⟨bm, 0, none⟩)].toArray
instance sr_keysI (w0 : World) (L : List Blk) (b : Nat) : SpecR Tryz.prog w0 L 231 [.map (some b)] Nat (fun bm => vKsI bm) (fun bm => [⟨bm, #[Value.map (some b)], 324⟩]) True := ⟨fun _ w _ => by
  refine fn_intro Tryz.func231 rfl Tryz.ntmps231 rfl ?_
  repeat (first | (refine wkB ?_; try intro _) | (refine sC rfl rfl ?_ ?_; focus (first | exact trivial | assumption | constructor <;> assumption | exact mb2 rfl rfl | exact mb4 rfl rfl rfl rfl)) | (refine sN rfl rfl ?_ ?_; (focus (first | exact trivial | assumption | constructor <;> assumption | exact mb2 rfl rfl | exact mb4 rfl rfl rfl rfl)); intro _; (try simp only [List.cons_append, List.nil_append, List.append_nil])) | refine sMu rfl ?_ | (refine sMm rfl rfl ?_; intro _) | (refine sRg rfl rfl ?_; intro _))
  rename_i bm
  exact jx_ret_tmp rfl rfl (fun w hw => ⟨bm, rfl, hw⟩)⟩
instance sm_seqI (w0 : World) (L : List Blk) (bm b : Nat) (TB : TypeId) [k1 : AtC w0 L bm #[.map (some b)] TB] [k2 : AtO w0 L b mIn0] : SpecM Tryz.prog w0 L 258 [.slice none 0 0, vKsI bm] (.slice none 0 0) True := ⟨fun _ w hw => seqI_spec bm b TB w (k1.out w hw) (k2.out w hw)⟩
instance sm_colI (w0 : World) (L : List Blk) (bm b : Nat) (TB : TypeId) [k1 : AtC w0 L bm #[.map (some b)] TB] [k2 : AtO w0 L b mIn0] : SpecM Tryz.prog w0 L 249 [vKsI bm] (.slice none 0 0) True := ⟨fun _ w hw => by
  have f1 := FoC.mk (k1.out w hw)
  have f2 := FoO.mk (k2.out w hw)
  refine fn_intro Tryz.func249 rfl Tryz.ntmps249 rfl ?_
  repeat (first | (refine wkB ?_; try intro _) | (refine sC rfl rfl ?_ ?_; focus (first | exact trivial | assumption | constructor <;> assumption | exact mb2 rfl rfl | exact mb4 rfl rfl rfl rfl)) | (refine sN rfl rfl ?_ ?_; (focus (first | exact trivial | assumption | constructor <;> assumption | exact mb2 rfl rfl | exact mb4 rfl rfl rfl rfl)); intro _; (try simp only [List.cons_append, List.nil_append, List.append_nil])) | refine sMu rfl ?_ | (refine sMm rfl rfl ?_; intro _) | (refine sRg rfl rfl ?_; intro _))
  exact jx_ret_tmp rfl rfl (fun w hw => ret_ok hw)⟩
instance sp_ins0 : SpecC Tryz.prog 263 [.slice none 0 0, .int .i64 0, .int .i64 0] (.tuple #[]) True := ⟨fun _ w => by
  refine fn_intro Tryz.func263 rfl Tryz.ntmps263 rfl ?_
  repeat (first | (refine wkB ?_; try intro _) | (refine sC rfl rfl ?_ ?_; focus (first | exact trivial | assumption | constructor <;> assumption | exact mb2 rfl rfl | exact mb4 rfl rfl rfl rfl)) | (refine sN rfl rfl ?_ ?_; (focus (first | exact trivial | assumption | constructor <;> assumption | exact mb2 rfl rfl | exact mb4 rfl rfl rfl rfl)); intro _; (try simp only [List.cons_append, List.nil_append, List.append_nil])) | refine sMu rfl ?_ | (refine sMm rfl rfl ?_; intro _) | (refine sRg rfl rfl ?_; intro _))
  refine j_loop (S := Unit) (fun _ => True) (fun _ => [(2, .int .i64 0), (6, .int .i64 1)]) (fun _ => []) (fun _ => 0) () trivial sbB slB (fun _ _ => ?_)
  repeat (first | (refine wkB ?_; try intro _) | (refine sC rfl rfl ?_ ?_; focus (first | exact trivial | assumption | constructor <;> assumption | exact mb2 rfl rfl | exact mb4 rfl rfl rfl rfl)) | (refine sN rfl rfl ?_ ?_; (focus (first | exact trivial | assumption | constructor <;> assumption | exact mb2 rfl rfl | exact mb4 rfl rfl rfl rfl)); intro _; (try simp only [List.cons_append, List.nil_append, List.append_nil])) | refine sMu rfl ?_ | (refine sMm rfl rfl ?_; intro _) | (refine sRg rfl rfl ?_; intro _))
  simp only [decide_eq_false (show ¬ (1 : Int) < 0 by decide)]
  repeat (first | (refine wkB ?_; try intro _) | (refine sC rfl rfl ?_ ?_; focus (first | exact trivial | assumption | constructor <;> assumption | exact mb2 rfl rfl | exact mb4 rfl rfl rfl rfl)) | (refine sN rfl rfl ?_ ?_; (focus (first | exact trivial | assumption | constructor <;> assumption | exact mb2 rfl rfl | exact mb4 rfl rfl rfl rfl)); intro _; (try simp only [List.cons_append, List.nil_append, List.append_nil])) | refine sMu rfl ?_ | (refine sMm rfl rfl ?_; intro _) | (refine sRg rfl rfl ?_; intro _))
  exact jx_end0 rfl (fun w hw => ret_ok hw)⟩
instance sp_pdq0 (x : Int) : SpecC Tryz.prog 259 [.slice none 0 0, .int .i64 0, .int .i64 0, .int .i64 x] (.tuple #[]) True := ⟨fun _ w => by
  refine fn_intro Tryz.func259 rfl Tryz.ntmps259 rfl ?_
  repeat (first | (refine wkB ?_; try intro _) | (refine sC rfl rfl ?_ ?_; focus (first | exact trivial | assumption | constructor <;> assumption | exact mb2 rfl rfl | exact mb4 rfl rfl rfl rfl)) | (refine sN rfl rfl ?_ ?_; (focus (first | exact trivial | assumption | constructor <;> assumption | exact mb2 rfl rfl | exact mb4 rfl rfl rfl rfl)); intro _; (try simp only [List.cons_append, List.nil_append, List.append_nil])) | refine sMu rfl ?_ | (refine sMm rfl rfl ?_; intro _) | (refine sRg rfl rfl ?_; intro _))
  refine j_loop (S := Unit) (fun _ => True) (fun _ => [(0, .slice none 0 0), (1, .int .i64 0), (2, .int .i64 0)]) (fun _ => []) (fun _ => 0) () trivial sbB slB (fun _ _ => ?_)
  repeat (first | (refine wkB ?_; try intro _) | (refine sC rfl rfl ?_ ?_; focus (first | exact trivial | assumption | constructor <;> assumption | exact mb2 rfl rfl | exact mb4 rfl rfl rfl rfl)) | (refine sN rfl rfl ?_ ?_; (focus (first | exact trivial | assumption | constructor <;> assumption | exact mb2 rfl rfl | exact mb4 rfl rfl rfl rfl)); intro _; (try simp only [List.cons_append, List.nil_append, List.append_nil])) | refine sMu rfl ?_ | (refine sMm rfl rfl ?_; intro _) | (refine sRg rfl rfl ?_; intro _))
  simp only [decide_eq_true (show (0 : Int) - 0 ≤ 12 by decide)]
  repeat (first | (refine wkB ?_; try intro _) | (refine sC rfl rfl ?_ ?_; focus (first | exact trivial | assumption | constructor <;> assumption | exact mb2 rfl rfl | exact mb4 rfl rfl rfl rfl)) | (refine sN rfl rfl ?_ ?_; (focus (first | exact trivial | assumption | constructor <;> assumption | exact mb2 rfl rfl | exact mb4 rfl rfl rfl rfl)); intro _; (try simp only [List.cons_append, List.nil_append, List.append_nil])) | refine sMu rfl ?_ | (refine sMm rfl rfl ?_; intro _) | (refine sRg rfl rfl ?_; intro _))
  exact jx_ret0 rfl (fun w hw => ret_ok hw)⟩
instance sp_pdq0' (x : Int) : SpecC Tryz.prog 259 [.slice none 0 0, .int .i64 0, .int .i64 ((0 : Nat) : Int), .int .i64 x] (.tuple #[]) True := ⟨fun h w => (sp_pdq0 x).out h w⟩
instance sp_bitsLen0 : SpecC Tryz.prog 156 [.int .u64 ((0 : Nat) : Int)] (.int .i64 (Lib.bitLen 0)) True := ⟨fun _ w => (sp_bitsLen 0).out (by decide) w⟩
instance sp_sort0 : SpecC Tryz.prog 250 [.slice none 0 0] (.tuple #[]) True := ⟨fun _ w => by
  refine fn_intro Tryz.func250 rfl Tryz.ntmps250 rfl ?_
  repeat (first | (refine wkB ?_; try intro _) | (refine sC rfl rfl ?_ ?_; focus (first | exact trivial | assumption | constructor <;> assumption | exact mb2 rfl rfl | exact mb4 rfl rfl rfl rfl)) | (refine sN rfl rfl ?_ ?_; (focus (first | exact trivial | assumption | constructor <;> assumption | exact mb2 rfl rfl | exact mb4 rfl rfl rfl rfl)); intro _; (try simp only [List.cons_append, List.nil_append, List.append_nil])) | refine sMu rfl ?_ | (refine sMm rfl rfl ?_; intro _) | (refine sRg rfl rfl ?_; intro _))
  exact jx_end0 rfl (fun w hw => ret_ok hw)⟩
instance sm_sortedI (w0 : World) (L : List Blk) (bm b : Nat) (TB : TypeId) [k1 : AtC w0 L bm #[.map (some b)] TB] [k2 : AtO w0 L b mIn0] : SpecM Tryz.prog w0 L 230 [vKsI bm] (.slice none 0 0) True := ⟨fun _ w hw => by
  have f1 := FoC.mk (k1.out w hw)
  have f2 := FoO.mk (k2.out w hw)
  refine fn_intro Tryz.func230 rfl Tryz.ntmps230 rfl ?_
  repeat (first | (refine wkB ?_; try intro _) | (refine sC rfl rfl ?_ ?_; focus (first | exact trivial | assumption | constructor <;> assumption | exact mb2 rfl rfl | exact mb4 rfl rfl rfl rfl)) | (refine sN rfl rfl ?_ ?_; (focus (first | exact trivial | assumption | constructor <;> assumption | exact mb2 rfl rfl | exact mb4 rfl rfl rfl rfl)); intro _; (try simp only [List.cons_append, List.nil_append, List.append_nil])) | refine sMu rfl ?_ | (refine sMm rfl rfl ?_; intro _) | (refine sRg rfl rfl ?_; intro _))
  exact jx_ret_tmp rfl rfl (fun w hw => ret_ok hw)⟩
instance sp_devices0 : SpecC Tryz.prog 207 [.slice none 0 0] (.slice none 0 0) True := ⟨fun _ w => by
  refine fn_intro Tryz.func207 rfl Tryz.ntmps207 rfl ?_
  repeat (first | (refine wkB ?_; try intro _) | (refine sC rfl rfl ?_ ?_; focus (first | exact trivial | assumption | constructor <;> assumption | exact mb2 rfl rfl | exact mb4 rfl rfl rfl rfl)) | (refine sN rfl rfl ?_ ?_; (focus (first | exact trivial | assumption | constructor <;> assumption | exact mb2 rfl rfl | exact mb4 rfl rfl rfl rfl)); intro _; (try simp only [List.cons_append, List.nil_append, List.append_nil])) | refine sMu rfl ?_ | (refine sMm rfl rfl ?_; intro _) | (refine sRg rfl rfl ?_; intro _))
  rename_i b
  refine j_loop (S := Unit) (fun _ => True) (fun _ => [(3, .map (some b)), (8, .int .i64 0), (9, .int .i64 0)]) (fun _ => [⟨b, .obj mIn0, 324⟩]) (fun _ => 0) () trivial sbB slB (fun _ _ => ?_)
  repeat (first | (refine wkB ?_; try intro _) | (refine sC rfl rfl ?_ ?_; focus (first | exact trivial | assumption | constructor <;> assumption | exact mb2 rfl rfl | exact mb4 rfl rfl rfl rfl)) | (refine sN rfl rfl ?_ ?_; (focus (first | exact trivial | assumption | constructor <;> assumption | exact mb2 rfl rfl | exact mb4 rfl rfl rfl rfl)); intro _; (try simp only [List.cons_append, List.nil_append, List.append_nil])) | refine sMu rfl ?_ | (refine sMm rfl rfl ?_; intro _) | (refine sRg rfl rfl ?_; intro _))
  simp only [decide_eq_false (show ¬ (0 : Int) < 0 by decide)]
  repeat (first | (refine wkB ?_; try intro _) | (refine sC rfl rfl ?_ ?_; focus (first | exact trivial | assumption | constructor <;> assumption | exact mb2 rfl rfl | exact mb4 rfl rfl rfl rfl)) | (refine sN rfl rfl ?_ ?_; (focus (first | exact trivial | assumption | constructor <;> assumption | exact mb2 rfl rfl | exact mb4 rfl rfl rfl rfl)); intro _; (try simp only [List.cons_append, List.nil_append, List.append_nil])) | refine sMu rfl ?_ | (refine sMm rfl rfl ?_; intro _) | (refine sRg rfl rfl ?_; intro _))
  exact jx_ret_tmp rfl rfl (fun w hw => ret_ok hw)⟩
instance sp_bsearch0 (x : Int) : SpecC Tryz.prog 206 [.slice none 0 0, .int .i64 x] (.tuple #[.int .i64 0, .bool false]) True := ⟨fun _ w => by
  refine fn_intro Tryz.func206 rfl Tryz.ntmps206 rfl ?_
  repeat (first | (refine wkB ?_; try intro _) | (refine sC rfl rfl ?_ ?_; focus (first | exact trivial | assumption | constructor <;> assumption | exact mb2 rfl rfl | exact mb4 rfl rfl rfl rfl)) | (refine sN rfl rfl ?_ ?_; (focus (first | exact trivial | assumption | constructor <;> assumption | exact mb2 rfl rfl | exact mb4 rfl rfl rfl rfl)); intro _; (try simp only [List.cons_append, List.nil_append, List.append_nil])) | refine sMu rfl ?_ | (refine sMm rfl rfl ?_; intro _) | (refine sRg rfl rfl ?_; intro _))
  refine j_loop (S := Unit) (fun _ => True) (fun _ => [(0, .slice none 0 0), (1, .int .i64 x), (6, .int .i64 0), (7, .int .i64 0), (8, .int .i64 0)]) (fun _ => []) (fun _ => 0) () trivial sbB slB (fun _ _ => ?_)
  repeat (first | (refine wkB ?_; try intro _) | (refine sC rfl rfl ?_ ?_; focus (first | exact trivial | assumption | constructor <;> assumption | exact mb2 rfl rfl | exact mb4 rfl rfl rfl rfl)) | (refine sN rfl rfl ?_ ?_; (focus (first | exact trivial | assumption | constructor <;> assumption | exact mb2 rfl rfl | exact mb4 rfl rfl rfl rfl)); intro _; (try simp only [List.cons_append, List.nil_append, List.append_nil])) | refine sMu rfl ?_ | (refine sMm rfl rfl ?_; intro _) | (refine sRg rfl rfl ?_; intro _))
  simp only [decide_eq_false (show ¬ (0 : Int) < 0 by decide)]
  repeat (first | (refine wkB ?_; try intro _) | (refine sC rfl rfl ?_ ?_; focus (first | exact trivial | assumption | constructor <;> assumption | exact mb2 rfl rfl | exact mb4 rfl rfl rfl rfl)) | (refine sN rfl rfl ?_ ?_; (focus (first | exact trivial | assumption | constructor <;> assumption | exact mb2 rfl rfl | exact mb4 rfl rfl rfl rfl)); intro _; (try simp only [List.cons_append, List.nil_append, List.append_nil])) | refine sMu rfl ?_ | (refine sMm rfl rfl ?_; intro _) | (refine sRg rfl rfl ?_; intro _))
  exact jx_ret_two rfl (resv_tmp rfl) (resv_tmp rfl) (fun w hw => ret_ok hw)⟩
instance sp_chains0 : SpecC Tryz.prog 187 [.slice none 0 0, .int .i64 0] (.tuple #[.slice none 0 0, .slice none 0 0, .int .i64 0]) True := ⟨fun _ w => by
  refine fn_intro Tryz.func187 rfl Tryz.ntmps187 rfl ?_
  repeat (first | (refine wkB ?_; try intro _) | (refine sC rfl rfl ?_ ?_; focus (first | exact trivial | assumption | constructor <;> assumption | exact mb2 rfl rfl | exact mb4 rfl rfl rfl rfl)) | (refine sN rfl rfl ?_ ?_; (focus (first | exact trivial | assumption | constructor <;> assumption | exact mb2 rfl rfl | exact mb4 rfl rfl rfl rfl)); intro _; (try simp only [List.cons_append, List.nil_append, List.append_nil])) | refine sMu rfl ?_ | (refine sMm rfl rfl ?_; intro _) | (refine sRg rfl rfl ?_; intro _))
  exact jx_ret_three rfl (resv_tmp rfl) (resv_tmp rfl) (resv_tmp rfl) (fun w hw => ret_ok hw)⟩
instance sp_sum0 : SpecC Tryz.prog 188 [.slice none 0 0, .slice none 0 0, .int .i64 0, .int .i64 0] (.tuple #[.int .i64 0, .int .i64 0]) True := ⟨fun _ w => by
  refine fn_intro Tryz.func188 rfl Tryz.ntmps188 rfl ?_
  repeat (first | (refine wkB ?_; try intro _) | (refine sC rfl rfl ?_ ?_; focus (first | exact trivial | assumption | constructor <;> assumption | exact mb2 rfl rfl | exact mb4 rfl rfl rfl rfl)) | (refine sN rfl rfl ?_ ?_; (focus (first | exact trivial | assumption | constructor <;> assumption | exact mb2 rfl rfl | exact mb4 rfl rfl rfl rfl)); intro _; (try simp only [List.cons_append, List.nil_append, List.append_nil])) | refine sMu rfl ?_ | (refine sMm rfl rfl ?_; intro _) | (refine sRg rfl rfl ?_; intro _))
  refine j_loop (S := Unit) (fun _ => True) (fun _ => [(3, .int .i64 0), (8, .int .i64 0), (10, .int .i64 0), (15, .int .i64 0), (16, .int .i64 0)]) (fun _ => []) (fun _ => 0) () trivial sbB slB (fun _ _ => ?_)
  repeat (first | (refine wkB ?_; try intro _) | (refine sC rfl rfl ?_ ?_; focus (first | exact trivial | assumption | constructor <;> assumption | exact mb2 rfl rfl | exact mb4 rfl rfl rfl rfl)) | (refine sN rfl rfl ?_ ?_; (focus (first | exact trivial | assumption | constructor <;> assumption | exact mb2 rfl rfl | exact mb4 rfl rfl rfl rfl)); intro _; (try simp only [List.cons_append, List.nil_append, List.append_nil])) | refine sMu rfl ?_ | (refine sMm rfl rfl ?_; intro _) | (refine sRg rfl rfl ?_; intro _))
  simp only [decide_eq_false (show ¬ (0 : Int) < 0 by decide)]
  repeat (first | (refine wkB ?_; try intro _) | (refine sC rfl rfl ?_ ?_; focus (first | exact trivial | assumption | constructor <;> assumption | exact mb2 rfl rfl | exact mb4 rfl rfl rfl rfl)) | (refine sN rfl rfl ?_ ?_; (focus (first | exact trivial | assumption | constructor <;> assumption | exact mb2 rfl rfl | exact mb4 rfl rfl rfl rfl)); intro _; (try simp only [List.cons_append, List.nil_append, List.append_nil])) | refine sMu rfl ?_ | (refine sMm rfl rfl ?_; intro _) | (refine sRg rfl rfl ?_; intro _))
  exact jx_ret_two rfl (resv_tmp rfl) (resv_tmp rfl) (fun w hw => ret_ok hw)⟩
instance sp_offset0 : SpecC Tryz.prog 163 [.slice none 0 0, .int .i64 0] (.tuple #[.agg (e_clock_Bounds ⟨0, 0⟩), .int .i64 0]) True := ⟨fun _ w => by
  refine fn_intro Tryz.func163 rfl Tryz.ntmps163 rfl ?_
  repeat (first | (refine wkB ?_; try intro _) | (refine sC rfl rfl ?_ ?_; focus (first | exact trivial | assumption | constructor <;> assumption | exact mb2 rfl rfl | exact mb4 rfl rfl rfl rfl)) | (refine sN rfl rfl ?_ ?_; (focus (first | exact trivial | assumption | constructor <;> assumption | exact mb2 rfl rfl | exact mb4 rfl rfl rfl rfl)); intro _; (try simp only [List.cons_append, List.nil_append, List.append_nil])) | refine sMu rfl ?_ | (refine sMm rfl rfl ?_; intro _) | (refine sRg rfl rfl ?_; intro _))
  try simp only [decide_eq_true (show (0 : Int) = 0 from rfl), Bool.not_true]
  repeat (first | (refine wkB ?_; try intro _) | (refine sC rfl rfl ?_ ?_; focus (first | exact trivial | assumption | constructor <;> assumption | exact mb2 rfl rfl | exact mb4 rfl rfl rfl rfl)) | (refine sN rfl rfl ?_ ?_; (focus (first | exact trivial | assumption | constructor <;> assumption | exact mb2 rfl rfl | exact mb4 rfl rfl rfl rfl)); intro _; (try simp only [List.cons_append, List.nil_append, List.append_nil])) | refine sMu rfl ?_ | (refine sMm rfl rfl ?_; intro _) | (refine sRg rfl rfl ?_; intro _))
  try simp only [decide_eq_true (show (0 : Int) = 0 from rfl), Bool.not_true]
  repeat (first | (refine wkB ?_; try intro _) | (refine sC rfl rfl ?_ ?_; focus (first | exact trivial | assumption | constructor <;> assumption | exact mb2 rfl rfl | exact mb4 rfl rfl rfl rfl)) | (refine sN rfl rfl ?_ ?_; (focus (first | exact trivial | assumption | constructor <;> assumption | exact mb2 rfl rfl | exact mb4 rfl rfl rfl rfl)); intro _; (try simp only [List.cons_append, List.nil_append, List.append_nil])) | refine sMu rfl ?_ | (refine sMm rfl rfl ?_; intro _) | (refine sRg rfl rfl ?_; intro _))
  exact jx_ret_two rfl (wr_cell rfl) (resv_tmp rfl) (fun w hw => ret_ok hw)⟩
end Go.Vt
/- Reports with their times: their order, and their sorting. Conditions: those that each statement names. -/
set_option linter.unusedSimpArgs false
set_option linter.unusedVariables false
set_option maxHeartbeats 2000000
set_option maxRecDepth 100000
namespace Go.Vt
open Go.RowKit Go.Proofs
abbrev vTm (x : R_intake_Timed) : Value := .agg (e_intake_Timed (q_intake_Timed x))
def TmOk (x : R_intake_Timed) : Prop := M x.T ≤ 8589934592
def cmpTm (a b : R_intake_Timed) : Int := orL [cq a.T b.T, Lib.compareInt a.Report.Seq b.Report.Seq]
instance sp_cmpTm (a b : R_intake_Timed) : SpecC Tryz.prog 135 [vTm a, vTm b] (.int .i64 (cmpTm a b)) (TmOk a ∧ TmOk b) := ⟨fun hp w => by
  obtain ⟨h1, h2⟩ := hp
  unfold TmOk at h1 h2
  refine fn_intro Tryz.func135 rfl Tryz.ntmps135 rfl ?_
  repeat (refine wkB ?_; try intro _)
  rename_i b2 b3
  (refine j_phases [([0, 1, 2, 3, 4, 5, 6, 7, 8, 9, 10, 11], [12, 13, 14])] ([⟨b3, r_intake_Timed b, 36⟩, ⟨b2, r_intake_Timed a, 36⟩]) (h := ?_); refine wkP ?_)
  (repeat (first | refine wkH ?_ | (refine tC rfl rfl ?_ ?_; focus (first | exact trivial | exact ⟨Nat.le_trans h1 (by decide), Nat.le_trans h2 (by decide)⟩))))
  repeat (first | (refine wkT ?_; try intro _) | (refine tC rfl rfl ?_ ?_; focus (exact ⟨rfl, by decide⟩)) | (refine uC rfl rfl ?_ ?_; focus (exact ⟨rfl, by decide⟩)) | (refine eN rfl rfl ?_ ?_; (focus (exact ⟨rfl, by decide⟩)); intro _; (try simp only [List.cons_append, List.nil_append, List.append_nil])))
  repeat (refine wkB ?_; try intro _)
  exact jx_ret_tmp rfl rfl (fun w hw => ret_ok hw)⟩
/-- Two neighbours change places. -/
def swpTm (xs : List R_intake_Timed) (j : Nat) : List R_intake_Timed := (xs.set (j + 1) (gi xs (j : Int))).set j (gi xs ((j + 1 : Nat) : Int))
/-- An element goes down as long as it is less than the one ahead of it. -/
def dwnTm (xs : List R_intake_Timed) : Nat → List R_intake_Timed
  | 0 => xs
  | j + 1 => if cmpTm (gi xs ((j + 1 : Nat) : Int)) (gi xs (j : Int)) < 0 then dwnTm (swpTm xs j) j else xs
/-- The first elements are in order. -/
def srtTm (xs : List R_intake_Timed) : Nat → List R_intake_Timed
  | 0 => xs
  | i + 1 => dwnTm (srtTm xs i) (i + 1)
theorem swp_lenTm (xs : List R_intake_Timed) (j : Nat) : (swpTm xs j).length = xs.length := by simp [swpTm]
theorem swp_memTm {xs : List R_intake_Timed} {j : Nat} (h : j + 1 < xs.length) {u : R_intake_Timed} (hu : u ∈ swpTm xs j) : u ∈ xs := by
  unfold swpTm at hu
  rcases List.mem_or_eq_of_mem_set hu with h1 | h1
  · rcases List.mem_or_eq_of_mem_set h1 with h2 | h2
    · exact h2
    · rw [h2, gi_nat (by omega)]
      exact List.getElem_mem _
  · rw [h1, gi_nat h]
    exact List.getElem_mem _
theorem dwn_lenTm : ∀ (j : Nat) (xs : List R_intake_Timed), (dwnTm xs j).length = xs.length
  | 0, _ => rfl
  | j + 1, xs => by
    rw [dwnTm]
    split
    · rw [dwn_lenTm j, swp_lenTm]
    · rfl
theorem dwn_memTm : ∀ (j : Nat) (xs : List R_intake_Timed), j < xs.length → ∀ u ∈ dwnTm xs j, u ∈ xs
  | 0, _, _, _, h => h
  | j + 1, xs, hj, u, h => by
    rw [dwnTm] at h
    split at h
    · exact swp_memTm hj (dwn_memTm j _ (by rw [swp_lenTm]; omega) u h)
    · exact h
theorem srt_lenTm (xs : List R_intake_Timed) : ∀ i, (srtTm xs i).length = xs.length
  | 0 => rfl
  | i + 1 => by rw [srtTm, dwn_lenTm, srt_lenTm xs i]
theorem srt_memTm (xs : List R_intake_Timed) : ∀ i, i < xs.length → ∀ u ∈ srtTm xs i, u ∈ xs
  | 0, _, _, h => h
  | i + 1, hi, u, h => by
    rw [srtTm] at h
    exact srt_memTm xs i (by omega) u (dwn_memTm _ _ (by rw [srt_lenTm]; exact hi) u h)
theorem ins_specTm (w0 w : World) (L1 : List Blk) (b c n : Nat) (xs : List R_intake_Timed) (sp : List Value) (T : TypeId) (hn : xs.length = n) (hl : n ≤ 1048576) (hok : ∀ u ∈ xs, TmOk u) (hw : Own w0 (⟨b, row r_intake_Timed xs sp, T⟩ :: L1) w) :
    Calls Tryz.prog 189 [.slice (some ⟨b, 0, none⟩) n c, .int .i64 0, .int .i64 n, vFn 135].toArray w (RetX w0 Unit (fun _ => .tuple #[]) (fun _ => ⟨b, row r_intake_Timed (srtTm xs (n - 1)) sp, T⟩ :: L1)) := by
  refine fn_introL Tryz.func189 rfl Tryz.ntmps189 rfl hw ?_
  repeat (refine wkB ?_; try intro _)
  refine j_loop (S := Nat) (fun m => m ≤ n - 1) (fun m => [(0, .slice (some ⟨b, 0, none⟩) n c), (1, .int .i64 0), (2, .int .i64 n), (3, vFn 135), (8, .int .i64 ((m + 1 : Nat)))]) (fun m => ⟨b, row r_intake_Timed (srtTm xs m) sp, T⟩ :: L1) (fun m => n - 1 - m) 0 (Nat.zero_le _) sbB slB (fun m hm => ?_)
  have hsl := srt_lenTm xs m
  repeat (refine wkB ?_; try intro _)
  refine j_cond rfl (fun h => ?_) (fun h => ?_)
  · have hlt : m + 1 < n := by have := of_decide_eq_true h; omega
    have hmem := srt_memTm xs m (by omega)
    repeat (refine wkB ?_; try intro _)
    refine j_loop (S := Nat × List R_intake_Timed) (fun s => dwnTm s.2 s.1 = srtTm xs (m + 1) ∧ s.2.length = n ∧ s.1 ≤ m + 1 ∧ ∀ u ∈ s.2, TmOk u) (fun s => [(0, .slice (some ⟨b, 0, none⟩) n c), (1, .int .i64 0), (2, .int .i64 n), (3, vFn 135), (8, .int .i64 ((m + 1 : Nat))), (9, .int .i64 ((s.1 : Nat)))]) (fun s => ⟨b, row r_intake_Timed s.2 sp, T⟩ :: L1) (fun s => s.1) (m + 1, srtTm xs m)
      ⟨rfl, by show (srtTm xs m).length = n; omega, Nat.le_refl _, fun u hu => hok u (hmem u hu)⟩ sbB slB (fun s hs => ?_)
    obtain ⟨j, ys⟩ := s
    obtain ⟨g1, g2, g3, g4⟩ := hs
    simp only at g1 g2 g3 g4 ⊢
    repeat (refine wkB ?_; try intro _)
    rcases j with _ | j
    · (refine jD 17 17 (h := ?_); (repeat (refine wkH ?_)); refine jh_nil ?_; (repeat (refine wn_new ?_; intro _)); refine jn_nil ?_)
      repeat (refine wkB ?_; try intro _)
      exact jx_loop (m + 1) (by omega) sbB (by rw [← g1]; exact List.Sublist.refl _) (by omega)
    · have hj1 : ((j : Int)).toNat < ys.length := by omega
      have hj2 : (((j + 1 : Nat) : Int)).toNat < ys.length := by omega
      have e1 : ((j + 1 : Nat) : Int) - 1 = (j : Int) := by omega
      have o1 := g4 _ (by rw [gi_nat (show j < ys.length by omega)]; exact List.getElem_mem _ : gi ys (j : Int) ∈ ys)
      have o2 := g4 _ (by rw [gi_nat (show j + 1 < ys.length by omega)]; exact List.getElem_mem _ : gi ys ((j + 1 : Nat) : Int) ∈ ys)
      rw [dwnTm] at g1
      refine jD 17 17 (h := ?_)
      (repeat (refine wkH ?_))
      simp only [decide_eq_true (show (0 : Int) < ((j + 1 : Nat) : Int) by omega), e1]
      (repeat (refine wkH ?_))
      simp only [e1]
      (repeat (first | refine wkH ?_ | (refine tC rfl rfl ?_ ?_; focus (exact ⟨o2, o1⟩))))
      refine jh_nil ?_
      refine jn_nil ?_
      repeat (refine wkB ?_; try intro _)
      by_cases hc : cmpTm (gi ys ((j + 1 : Nat) : Int)) (gi ys (j : Int)) < 0
      · rw [if_pos hc] at g1
        simp only [decide_eq_true hc]
        repeat (refine wkB ?_; try intro _)
        (refine j_seg [(true, [0, 1, 2, 3, 4, 5, 6, 7, 8]), (false, [9]), (true, [10, 11, 12]), (false, [13]), (true, [14])] [15, 16, 17] (h := ?_); refine wkS ?_)
        (repeat (refine wkH ?_))
        simp only [e1]
        refine jh_nil ?_
        refine eR rfl ?_ ?_
        · omega
        refine uS rfl rfl ?_ ?_
        · omega
        refine eR rfl ?_ ?_
        · rw [List.length_set]; omega
        refine je_nil ?_
        simp only [Int.toNat_natCast]
        repeat (first | (refine wkB ?_; try intro _) | (refine sC rfl rfl ?_ ?_; focus (exact ⟨by omega, by omega⟩)) | (refine sN rfl rfl ?_ ?_; (focus (exact ⟨by omega, by omega⟩)); intro _; (try simp only [List.cons_append, List.nil_append, List.append_nil])))
        simp only [e1]
        exact jx_loop (j, swpTm ys j) ⟨g1, by rw [swp_lenTm]; exact g2, by omega, fun u hu => g4 u (swp_memTm (by omega) hu)⟩ sbB slB (by show j < j + 1; omega)
      · rw [if_neg hc] at g1
        simp only [decide_eq_false hc]
        repeat (first | (refine wkB ?_; try intro _) | (refine sC rfl rfl ?_ ?_; focus (exact ⟨by omega, by omega⟩)) | (refine sN rfl rfl ?_ ?_; (focus (exact ⟨by omega, by omega⟩)); intro _; (try simp only [List.cons_append, List.nil_append, List.append_nil])))
        exact jx_loop (m + 1) (by omega) sbB (by rw [← g1]; exact List.Sublist.refl _) (by omega)
  · have hge : m = n - 1 := by have := of_decide_eq_false h; omega
    subst hge
    repeat (refine wkB ?_; try intro _)
    exact jx_end0 rfl (fun w hw => ⟨(), rfl, hw⟩)
abbrev SrtSTm (xs : List R_intake_Timed) (s : SlS r_intake_Timed 12 xs) : Type := { s' : SlS r_intake_Timed 12 (srtTm xs (xs.length - 1)) // vSl s' = vSl s }
theorem insS_specTm (w0 w : World) (L L1 : List Blk) (xs : List R_intake_Timed) (s : SlS r_intake_Timed 12 xs) (T : TypeId) [hd : OwnS T s L L1] (hl : xs.length ≤ 1048576) (hok : ∀ u ∈ xs, TmOk u) (hw : Own w0 L w) :
    Calls Tryz.prog 189 [vSl s, .int .i64 0, .int .i64 xs.length, vFn 135].toArray w (RetX w0 (SrtSTm xs s) (fun _ => .tuple #[]) (fun s' => mS T s'.1 ++ L1)) := by
  have hw1 := hw.perm hd.out
  rcases s.cases T with ⟨rfl, hv, hm⟩ | ⟨b, c, sp, h1, hv, hm, hne⟩
  · suffices h : Calls Tryz.prog 189 [.slice none 0 0, .int .i64 0, .int .i64 (([] : List R_intake_Timed).length : Nat), vFn 135].toArray w (RetX w0 (SrtSTm [] s) (fun _ => .tuple #[]) (fun s' => mS T s'.1 ++ L1)) by
      rw [← hv] at h
      exact h
    refine fn_introL Tryz.func189 rfl Tryz.ntmps189 rfl hw1 ?_
    repeat (refine wkB ?_; try intro _)
    refine j_loop (S := Unit) (fun _ => True) (fun _ => [(2, .int .i64 (([] : List R_intake_Timed).length : Nat)), (8, .int .i64 1)]) (fun _ => mS T s ++ L1) (fun _ => 0) () trivial sbB slB (fun _ _ => ?_)
    repeat (refine wkB ?_; try intro _)
    simp only [decide_eq_false (show ¬ (1 : Int) < ((([] : List R_intake_Timed).length : Nat) : Int) by simp)]
    repeat (refine wkB ?_; try intro _)
    exact jx_end0 rfl (fun w hw => ⟨⟨s, rfl⟩, rfl, hw⟩)
  · suffices h : Calls Tryz.prog 189 [.slice (some ⟨b, 0, none⟩) xs.length c, .int .i64 0, .int .i64 xs.length, vFn 135].toArray w (RetX w0 (SrtSTm xs s) (fun _ => .tuple #[]) (fun s' => mS T s'.1 ++ L1)) by
      rw [← hv] at h
      exact h
    rw [hm] at hw1
    have hsl := srt_lenTm xs (xs.length - 1)
    refine (ins_specTm w0 w L1 b c xs.length xs sp T rfl hl hok hw1).mono fun e w' ⟨_, he, hw'⟩ => ?_
    exact ⟨⟨SlS.at_ b c sp (by rw [hsl]; exact h1) (fun h0 => hne (List.length_eq_zero_iff.1 (by rw [h0, List.length_nil] at hsl; exact hsl.symm))), by rw [hv]; show Value.slice _ (srtTm xs (xs.length - 1)).length c = _; rw [hsl]⟩, he, hw'⟩
instance sx_insTm (w0 : World) (L L1 : List Blk) (xs : List R_intake_Timed) (s : SlS r_intake_Timed 12 xs) (T : TypeId) [hd : OwnS T s L L1] : SpecX Tryz.prog w0 L 189 [vSl s, .int .i64 0, .int .i64 xs.length, vFn 135] (SrtSTm xs s) (fun _ => .tuple #[]) (fun s' => mS T s'.1 ++ L1) (xs.length ≤ 1048576 ∧ ∀ u ∈ xs, TmOk u) := ⟨fun hp w hw => insS_specTm w0 w L L1 xs s T hp.1 hp.2 hw⟩
theorem stable_specTm (w0 w : World) (L L1 : List Blk) (xs : List R_intake_Timed) (s : SlS r_intake_Timed 12 xs) (T : TypeId) [hd : OwnS T s L L1] (hl : xs.length ≤ 19) (hok : ∀ u ∈ xs, TmOk u) (hw : Own w0 L w) :
    Calls Tryz.prog 165 [vSl s, .int .i64 xs.length, vFn 135].toArray w (RetX w0 (SrtSTm xs s) (fun _ => .tuple #[]) (fun s' => mS T s'.1 ++ L1)) := by
  refine fn_introL Tryz.func165 rfl Tryz.ntmps165 rfl hw ?_
  repeat (refine wkB ?_; try intro _)
  refine j_loop (S := Unit) (fun _ => True) (fun _ => [(0, vSl s), (1, .int .i64 xs.length), (2, vFn 135), (6, .int .i64 20), (7, .int .i64 0), (8, .int .i64 20)]) (fun _ => L) (fun _ => 0) () trivial sbB slB (fun _ _ => ?_)
  repeat (refine wkB ?_; try intro _)
  simp only [decide_eq_false (show ¬ (20 : Int) ≤ (xs.length : Int) by omega)]
  repeat (refine wkB ?_; try intro _)
  refine sZ rfl rfl ?_ ?_
  · exact ⟨by omega, hok⟩
  intro s'
  repeat (refine wkB ?_; try intro _)
  refine j_loop (S := Unit) (fun _ => True) (fun _ => [(1, .int .i64 xs.length), (6, .int .i64 20)]) (fun _ => mS T s'.1 ++ L1) (fun _ => 0) () trivial sbB slB (fun _ _ => ?_)
  repeat (refine wkB ?_; try intro _)
  simp only [decide_eq_false (show ¬ (20 : Int) < (xs.length : Int) by omega)]
  repeat (refine wkB ?_; try intro _)
  exact jx_end0 rfl (fun w hw => ⟨s', rfl, hw⟩)
instance sx_stableTm (w0 : World) (L L1 : List Blk) (xs : List R_intake_Timed) (s : SlS r_intake_Timed 12 xs) (T : TypeId) [hd : OwnS T s L L1] : SpecX Tryz.prog w0 L 165 [vSl s, .int .i64 xs.length, vFn 135] (SrtSTm xs s) (fun _ => .tuple #[]) (fun s' => mS T s'.1 ++ L1) (xs.length ≤ 19 ∧ ∀ u ∈ xs, TmOk u) := ⟨fun hp w hw => stable_specTm w0 w L L1 xs s T hp.1 hp.2 hw⟩
theorem sortStable_specTm (w0 w : World) (L L1 : List Blk) (xs : List R_intake_Timed) (s : SlS r_intake_Timed 12 xs) (T : TypeId) [hd : OwnS T s L L1] (hl : xs.length ≤ 19) (hok : ∀ u ∈ xs, TmOk u) (hw : Own w0 L w) :
    Calls Tryz.prog 134 [vSl s, vFn 135].toArray w (RetX w0 (SrtSTm xs s) (fun _ => .tuple #[]) (fun s' => mS T s'.1 ++ L1)) := by
  refine fn_introL Tryz.func134 rfl Tryz.ntmps134 rfl hw ?_
  repeat (refine wkB ?_; try intro _)
  refine sZ rfl rfl ?_ ?_
  · exact ⟨hl, hok⟩
  intro s'
  repeat (refine wkB ?_; try intro _)
  exact jx_end0 rfl (fun w hw => ⟨s', rfl, hw⟩)
instance sx_sortStableTm (w0 : World) (L L1 : List Blk) (xs : List R_intake_Timed) (s : SlS r_intake_Timed 12 xs) (T : TypeId) [hd : OwnS T s L L1] : SpecX Tryz.prog w0 L 134 [vSl s, vFn 135] (SrtSTm xs s) (fun _ => .tuple #[]) (fun s' => mS T s'.1 ++ L1) (xs.length ≤ 19 ∧ ∀ u ∈ xs, TmOk u) := ⟨fun hp w hw => sortStable_specTm w0 w L L1 xs s T hp.1 hp.2 hw⟩
end Go.Vt
/- The time of a report, without exchanges. Conditions: those that each statement names. -/
set_option linter.unusedSimpArgs false
set_option linter.unusedVariables false
set_option maxHeartbeats 2000000
set_option maxRecDepth 100000
namespace Go.Vt
open Go.RowKit Go.Proofs
theorem zero_half : Rat.divInt (0 + 0) 2 = 0 := by decide
instance sp_middle0 : SpecC Tryz.prog 164 [.agg (e_clock_Bounds ⟨0, 0⟩)] (vQ 0) True := ⟨fun _ w => by
  rw [← zero_half]
  refine fn_intro Tryz.func164 rfl Tryz.ntmps164 rfl ?_
  repeat (first | (refine wkB ?_; try intro _) | (refine sC rfl rfl ?_ ?_; focus (exact ⟨by decide, by decide⟩)) | (refine sN rfl rfl ?_ ?_; (focus (exact ⟨by decide, by decide⟩)); intro _; (try simp only [List.cons_append, List.nil_append, List.append_nil])) | refine sMu rfl ?_ | (refine sMm rfl rfl ?_; intro _) | (refine sRg rfl rfl ?_; intro _))
  exact wx_cell rfl rfl (fun w hw => ret_ok hw)⟩
theorem sub_zeroR (x : Rat) : x - 0 = x := by grind
instance sp_correct0 (r : api_Report) : SpecC Tryz.prog 133 [.slice none 0 0, .agg (e_api_Report r)] (.tuple #[vQ (r.Time : Rat), .int .i64 0]) (r.Device = 0 ∧ 0 ≤ r.Time ∧ r.Time ≤ 1073741824) := ⟨fun hp w => by
  obtain ⟨a1, a2, a3, a4, a5, a6, a7, c⟩ := r
  simp only at hp
  obtain ⟨rfl, h1, h2⟩ := hp
  have hm : M (a5 : Rat) ≤ LQ ∧ M 0 ≤ LQ := ⟨Nat.le_trans (show M (a5 : Rat) ≤ 4 by rw [M_int]; have := mg_small (n := a5) (k := 4) (by omega); omega) (by decide), by decide⟩
  have hr : -9223372036854775808 ≤ a5 ∧ a5 ≤ 9223372036854775807 := ⟨by omega, by omega⟩
  rw [← sub_zeroR (a5 : Rat)]
  refine fn_intro Tryz.func133 rfl Tryz.ntmps133 rfl ?_
  repeat (first | (refine wkB ?_; try intro _) | (refine sC rfl rfl ?_ ?_; focus (first | exact trivial | assumption | constructor <;> assumption | exact mb2 rfl rfl | exact mb4 rfl rfl rfl rfl)) | (refine sN rfl rfl ?_ ?_; (focus (first | exact trivial | assumption | constructor <;> assumption | exact mb2 rfl rfl | exact mb4 rfl rfl rfl rfl)); intro _; (try simp only [List.cons_append, List.nil_append, List.append_nil])) | refine sMu rfl ?_ | (refine sMm rfl rfl ?_; intro _) | (refine sRg rfl rfl ?_; intro _))
  try simp only [decide_eq_true (show (0 : Int) = 0 from rfl), Bool.not_true]
  repeat (first | (refine wkB ?_; try intro _) | (refine sC rfl rfl ?_ ?_; focus (first | exact trivial | assumption | constructor <;> assumption | exact mb2 rfl rfl | exact mb4 rfl rfl rfl rfl)) | (refine sN rfl rfl ?_ ?_; (focus (first | exact trivial | assumption | constructor <;> assumption | exact mb2 rfl rfl | exact mb4 rfl rfl rfl rfl)); intro _; (try simp only [List.cons_append, List.nil_append, List.append_nil])) | refine sMu rfl ?_ | (refine sMm rfl rfl ?_; intro _) | (refine sRg rfl rfl ?_; intro _))
  rename_i b3 b4 b6
  (refine j_tree (.v [0, 1, 2, 3, 4, 5] (.e1 6 (.e1 7 (.fin)))) ([⟨b6, e_clock_Bounds ⟨0, 0⟩, 251⟩, ⟨b3, e_api_Report ⟨a1, a2, a3, 0, a5, a6, a7, c⟩, 34⟩]) (h := ?_); refine wkX ?_)
  (repeat (first | refine wkH ?_ | (refine tC rfl rfl ?_ ?_; focus (first | exact hr | exact hm))))
  repeat (refine wkT ?_; try intro _)
  repeat (first | (refine wkB ?_; try intro _) | (refine sC rfl rfl ?_ ?_; focus (first | exact trivial | assumption | constructor <;> assumption | exact mb2 rfl rfl | exact mb4 rfl rfl rfl rfl)) | (refine sN rfl rfl ?_ ?_; (focus (first | exact trivial | assumption | constructor <;> assumption | exact mb2 rfl rfl | exact mb4 rfl rfl rfl rfl)); intro _; (try simp only [List.cons_append, List.nil_append, List.append_nil])) | refine sMu rfl ?_ | (refine sMm rfl rfl ?_; intro _) | (refine sRg rfl rfl ?_; intro _))
  exact jx_ret_two rfl (wr_cell rfl) (resv_tmp rfl) (fun w hw => ret_ok hw)⟩
end Go.Vt
/- The reports of an object with their times. Conditions: those that each statement names. -/
set_option linter.unusedSimpArgs false
set_option linter.unusedVariables false
set_option maxHeartbeats 2000000
set_option maxRecDepth 100000
namespace Go.Vt
open Go.RowKit Go.Proofs
theorem InkC.all {w0 w : World} {L : List Blk} {px : Nat} {l : List (api_Report × Bool)} (h : InkC w0 L px l) (hw : Own w0 L w) : ∀ L', InkC w L' px l := fun L' => by
  obtain ⟨m1, m2, Tx, h1, h2, h3⟩ := h.out
  have f1 := FoC.mk (h1.out w hw)
  have f2 := FoO.mk (h2.out w hw)
  have f3 := FoO.mk (h3.out w hw)
  exact ⟨m1, m2, Tx, inferInstance, inferInstance, inferInstance⟩
/-- A report that counts for an object, with its time by the clock of the server. -/
structure CntOk (o : Int) (r : api_Report) : Prop where
  o : r.Object = o
  d : r.Device = 0
  t : 0 ≤ r.Time ∧ r.Time ≤ 1073741824
def tmL (cs : List api_Report) : List R_intake_Timed := cs.map fun r => ⟨(r.Time : Rat), r⟩
def tmS (cs : List api_Report) : List R_intake_Timed := srtTm (tmL cs) ((tmL cs).length - 1)
theorem tmL_len (cs : List api_Report) : (tmL cs).length = cs.length := List.length_map _
theorem tmL_take {cs : List api_Report} {m : Nat} (h : m < cs.length) : tmL (cs.take (m + 1)) = tmL (cs.take m) ++ [⟨((gi cs (m : Int)).Time : Rat), gi cs (m : Int)⟩] := by
  rw [List.take_succ_eq_append_getElem h, tmL, List.map_append, gi_nat h]
  rfl
theorem tmL_ok {o : Int} {cs : List api_Report} (h : ∀ r ∈ cs, CntOk o r) : ∀ x ∈ tmL cs, TmOk x := fun x hx => by
  obtain ⟨r, hr, rfl⟩ := List.mem_map.1 hx
  have ht := (h r hr).t
  show M (r.Time : Rat) ≤ 8589934592
  rw [M_int]
  have := mg_small (n := r.Time) (k := 4) (by omega)
  omega
set_option maxHeartbeats 4000000 in
theorem times_spec (w0 w : World) (L : List Blk) (px : Nat) (l : List (api_Report × Bool)) (o : Int) [h : InkC w0 L px l] (hw : Own w0 L w) (hl : l.length ≤ 12) (hc : ∀ r ∈ cntR (sorted (pKR l)), CntOk o r) :
    Calls Tryz.prog 94 [.pointer (some ⟨px, 0, none⟩), .int .i64 o].toArray w (RetM (SlS r_intake_Timed 12 (tmS (cntR (sorted (pKR l))))) (fun s => .tuple #[vSl s, .slice none 0 0]) (fun s => mS 36 s) w) := by
  have hk := h.all hw
  have hsl : (sorted (pKR l)).length ≤ 12 := by rw [sorted_len, List.length_map]; exact hl
  have hcl : (cntR (sorted (pKR l))).length ≤ 12 := by
    have h1 := (winR_ok (sorted (pKR l))).len
    have h2 := cntL_len (winR (sorted (pKR l)))
    unfold cntR
    rw [sorted_len]
    omega
  have ho : ∀ r ∈ cntR (sorted (pKR l)), r.Object = o := fun r hr => (hc r hr).o
  refine fn_intro Tryz.func94 rfl Tryz.ntmps94 rfl ?_
  repeat (first | (refine wkB ?_; try intro _) | (refine sC rfl rfl ?_ ?_; focus (first | exact trivial | exact hl | exact ⟨hsl, ho⟩)) | (refine sN rfl rfl ?_ ?_; (focus (first | exact trivial | exact hl | exact ⟨hsl, ho⟩)); intro _; (try simp only [List.cons_append, List.nil_append, List.append_nil])) | refine sMu rfl ?_ | (refine sMm rfl rfl ?_; intro _) | (refine sRg rfl rfl ?_; intro _))
  rename_i s1 s2
  generalize sorted (pKR l) = rs at *
  generalize hcs : cntR rs = cs at *
  refine j_loop (S := (m : Nat) × SlS r_intake_Timed 12 (tmL (cs.take m))) (fun q => q.1 ≤ cs.length) (fun q => [(4, vSl q.2), (5, .slice none 0 0), (6, .slice none 0 0), (16, vSl s2), (17, .int .i64 cs.length), (18, .int .i64 (q.1 : Nat))]) (fun q => mS 36 q.2 ++ mS 34 s2) (fun q => cs.length - q.1) ⟨0, SlS.no⟩ (Nat.zero_le _) sbB suB (fun q hq => ?_)
  obtain ⟨m, q⟩ := q
  simp only at hq ⊢
  have hml := tmL_len (cs.take m)
  rw [List.length_take] at hml
  repeat (first | (refine wkB ?_; try intro _) | (refine sC rfl rfl ?_ ?_; focus (first | exact trivial | assumption | constructor <;> assumption | exact mb2 rfl rfl | exact mb4 rfl rfl rfl rfl)) | (refine sN rfl rfl ?_ ?_; (focus (first | exact trivial | assumption | constructor <;> assumption | exact mb2 rfl rfl | exact mb4 rfl rfl rfl rfl)); intro _; (try simp only [List.cons_append, List.nil_append, List.append_nil])) | refine sMu rfl ?_ | (refine sMm rfl rfl ?_; intro _) | (refine sRg rfl rfl ?_; intro _))
  refine j_cond rfl (fun h => ?_) (fun h => ?_)
  · have hlt : m < cs.length := by have := of_decide_eq_true h; omega
    have hr := hc (gi cs (m : Int)) (gi_mem (by omega))
    have hnx := tmL_take hlt
    rcases s2.cases 34 with ⟨x0, -, -⟩ | ⟨bs, cb, sp, hc1, x1, x2, xne⟩
    · rw [x0] at hlt
      cases hlt
    simp only [x1, x2]
    repeat (first | (refine wkB ?_; try intro _) | (refine sC rfl rfl ?_ ?_; focus (exact ⟨hr.d, hr.t⟩)) | (refine sN rfl rfl ?_ ?_; (focus (exact ⟨hr.d, hr.t⟩)); intro _; (try simp only [List.cons_append, List.nil_append, List.append_nil])) | refine sMu rfl ?_ | (refine sMm rfl rfl ?_; intro _) | (refine sRg rfl rfl ?_; intro _))
    try simp only [decide_eq_true (show (0 : Int) = 0 from rfl)]
    repeat (first | (refine wkB ?_; try intro _) | (refine sC rfl rfl ?_ ?_; focus (first | exact trivial | assumption | constructor <;> assumption | exact mb2 rfl rfl | exact mb4 rfl rfl rfl rfl)) | (refine sN rfl rfl ?_ ?_; (focus (first | exact trivial | assumption | constructor <;> assumption | exact mb2 rfl rfl | exact mb4 rfl rfl rfl rfl)); intro _; (try simp only [List.cons_append, List.nil_append, List.append_nil])) | refine sMu rfl ?_ | (refine sMm rfl rfl ?_; intro _) | (refine sRg rfl rfl ?_; intro _))
    refine sU rfl rfl ?_ ?_ ?_ ?_
    · rfl
    · rfl
    · exact ⟨by decide, by omega, by omega⟩
    intro s'
    repeat (first | (refine wkB ?_; try intro _) | (refine sC rfl rfl ?_ ?_; focus (exact ⟨by omega, by omega⟩)) | (refine sN rfl rfl ?_ ?_; (focus (exact ⟨by omega, by omega⟩)); intro _; (try simp only [List.cons_append, List.nil_append, List.append_nil])) | refine sMu rfl ?_ | (refine sMm rfl rfl ?_; intro _) | (refine sRg rfl rfl ?_; intro _))
    obtain ⟨s3, e1, e2⟩ := SlS.turn 36 hnx.symm s'
    exact jx_loop ⟨m + 1, s3⟩ hlt (by simp only [e1, x1]; exact sbB) (by simp only [e2, x2]; exact suB) (by show cs.length - (m + 1) < cs.length - m; omega)
  · have hge : m = cs.length := by have := of_decide_eq_false h; omega
    subst hge
    have hok : ∀ x ∈ tmL (cs.take cs.length), TmOk x := by rw [List.take_length]; exact tmL_ok hc
    repeat (first | (refine wkB ?_; try intro _) | (refine sC rfl rfl ?_ ?_; focus (first | exact trivial | assumption | constructor <;> assumption | exact mb2 rfl rfl | exact mb4 rfl rfl rfl rfl)) | (refine sN rfl rfl ?_ ?_; (focus (first | exact trivial | assumption | constructor <;> assumption | exact mb2 rfl rfl | exact mb4 rfl rfl rfl rfl)); intro _; (try simp only [List.cons_append, List.nil_append, List.append_nil])) | refine sMu rfl ?_ | (refine sMm rfl rfl ?_; intro _) | (refine sRg rfl rfl ?_; intro _))
    refine sZ rfl rfl ⟨by omega, hok⟩ ?_
    intro s'
    repeat (first | (refine wkB ?_; try intro _) | (refine sC rfl rfl ?_ ?_; focus (first | exact trivial | assumption | constructor <;> assumption | exact mb2 rfl rfl | exact mb4 rfl rfl rfl rfl)) | (refine sN rfl rfl ?_ ?_; (focus (first | exact trivial | assumption | constructor <;> assumption | exact mb2 rfl rfl | exact mb4 rfl rfl rfl rfl)); intro _; (try simp only [List.cons_append, List.nil_append, List.append_nil])) | refine sMu rfl ?_ | (refine sMm rfl rfl ?_; intro _) | (refine sRg rfl rfl ?_; intro _))
    have e0 : tmS cs = srtTm (tmL (cs.take cs.length)) ((tmL (cs.take cs.length)).length - 1) := by rw [List.take_length]; rfl
    obtain ⟨s3, e1, e2⟩ := s'.1.like e0
    refine jx_ret_two rfl (resv_tmp rfl) (resv_tmp rfl) (fun w hw => ⟨s3, ?_, ?_⟩)
    · show Ending.returned (.tuple #[vSl q, .slice none 0 0]) = Ending.returned (.tuple #[vSl s3, .slice none 0 0])
      rw [e1, s'.2]
    · show Own _ (mS 36 s3) w
      rw [e2]
      exact hw.sub suB
instance sr_times (w0 : World) (L : List Blk) (px : Nat) (l : List (api_Report × Bool)) (o : Int) [h : InkC w0 L px l] : SpecR Tryz.prog w0 L 94 [.pointer (some ⟨px, 0, none⟩), .int .i64 o] (SlS r_intake_Timed 12 (tmS (cntR (sorted (pKR l))))) (fun s => .tuple #[vSl s, .slice none 0 0]) (fun s => mS 36 s) (l.length ≤ 12 ∧ ∀ r ∈ cntR (sorted (pKR l)), CntOk o r) := ⟨fun hp w hw => times_spec w0 w L px l o hw hp.1 hp.2⟩
instance sr_iof (w0 : World) (L : List Blk) (px : Nat) (l : List (api_Report × Bool)) (o : Int) [h : InkC w0 L px l] : SpecR Tryz.prog w0 L 63 [.pointer (some ⟨px, 0, none⟩), .int .i64 o] (SlS r_intake_Timed 12 (tmS (cntR (sorted (pKR l))))) (fun s => vSl s) (fun s => mS 36 s) (l.length ≤ 12 ∧ ∀ r ∈ cntR (sorted (pKR l)), CntOk o r) := ⟨fun hp w hw => by
  have hk := h.all hw
  refine fn_intro Tryz.func63 rfl Tryz.ntmps63 rfl ?_
  repeat (first | (refine wkB ?_; try intro _) | (refine sC rfl rfl ?_ ?_; focus (exact hp)) | (refine sN rfl rfl ?_ ?_; (focus (exact hp)); intro _; (try simp only [List.cons_append, List.nil_append, List.append_nil])) | refine sMu rfl ?_ | (refine sMm rfl rfl ?_; intro _) | (refine sRg rfl rfl ?_; intro _))
  rename_i s
  exact jx_ret_tmp rfl rfl (fun w hw => ⟨s, rfl, hw.sub suB⟩)⟩
theorem tmS_len (cs : List api_Report) : (tmS cs).length = cs.length := by
  unfold tmS
  rw [srt_lenTm, tmL_len]
instance sr_rreports (w0 : World) (L : List Blk) (px : Nat) (l : List (api_Report × Bool)) (o : Int) [h : InkC w0 L px l] : SpecR Tryz.prog w0 L 86 [.pointer (some ⟨px, 0, none⟩), .int .i64 o] (SlS r_intake_Timed 12 (tmS (cntR (sorted (pKR l))))) (fun s => .tuple #[vSl s, .int .i64 0]) (fun s => mS 36 s) (l.length ≤ 12 ∧ ∀ r ∈ cntR (sorted (pKR l)), CntOk o r) := ⟨fun hp w hw => by
  have hk := h.all hw
  have hcl : (tmS (cntR (sorted (pKR l)))).length ≤ 12 := by
    have h0 := hp.1
    have h1 := (winR_ok (sorted (pKR l))).len
    have h2 := cntL_len (winR (sorted (pKR l)))
    rw [tmS_len]
    unfold cntR
    rw [sorted_len]
    rw [sorted_len, List.length_map] at h1
    omega
  refine fn_intro Tryz.func86 rfl Tryz.ntmps86 rfl ?_
  repeat (first | (refine wkB ?_; try intro _) | (refine sC rfl rfl ?_ ?_; focus (exact hp)) | (refine sN rfl rfl ?_ ?_; (focus (exact hp)); intro _; (try simp only [List.cons_append, List.nil_append, List.append_nil])) | refine sMu rfl ?_ | (refine sMm rfl rfl ?_; intro _) | (refine sRg rfl rfl ?_; intro _))
  rename_i s
  simp only [decide_eq_false (show ¬ (256 : Int) < ((tmS (cntR (sorted (pKR l)))).length : Int) by omega)]
  repeat (first | (refine wkB ?_; try intro _) | (refine sC rfl rfl ?_ ?_; focus (first | exact trivial | assumption | constructor <;> assumption | exact mb2 rfl rfl | exact mb4 rfl rfl rfl rfl)) | (refine sN rfl rfl ?_ ?_; (focus (first | exact trivial | assumption | constructor <;> assumption | exact mb2 rfl rfl | exact mb4 rfl rfl rfl rfl)); intro _; (try simp only [List.cons_append, List.nil_append, List.append_nil])) | refine sMu rfl ?_ | (refine sMm rfl rfl ?_; intro _) | (refine sRg rfl rfl ?_; intro _))
  exact jx_ret_two rfl (resv_tmp rfl) (resv_tmp rfl) (fun w hw => ⟨s, rfl, hw.sub suB⟩)⟩
end Go.Vt
/- Whether two reports are compatible; far apart. Conditions: those that each statement names. -/
set_option linter.unusedSimpArgs false
set_option linter.unusedVariables false
set_option maxHeartbeats 2000000
set_option maxRecDepth 100000
namespace Go.Vt
open Go.RowKit Go.Proofs
/-- Lengths that do. -/
structure TkOk (z : R_intake_Timed) : Prop where
  t : M z.T ≤ 8
  x : -1048576 ≤ z.Report.X ∧ z.Report.X ≤ 1048576
  y : -1048576 ≤ z.Report.Y ∧ z.Report.Y ≤ 1048576
theorem M_int4 {n : Int} (h : -2147483648 ≤ n ∧ n ≤ 2147483648) : M (n : Rat) ≤ 4 := by
  rw [M_int]
  have := mg_small (n := n) (k := 4) (by omega)
  omega
def ptT (x : R_intake_Timed) : R_api_Point := ⟨(x.Report.X : Rat), (x.Report.Y : Rat)⟩
theorem pt_M {x : R_intake_Timed} (h : TkOk x) : M (ptT x).X ≤ 4 ∧ M (ptT x).Y ≤ 4 := ⟨M_int4 (by have := h.x; omega), M_int4 (by have := h.y; omega)⟩
instance sp_point (x : R_intake_Timed) : SpecC Tryz.prog 27 [vTm x] (vP (ptT x)) (TkOk x) := ⟨fun hp w => by
  have h1 : (-9223372036854775808 ≤ x.Report.X ∧ x.Report.X ≤ 9223372036854775807) ∧ (-9223372036854775808 ≤ x.Report.Y ∧ x.Report.Y ≤ 9223372036854775807) := by
    have := hp.x
    have := hp.y
    omega
  refine fn_intro Tryz.func27 rfl Tryz.ntmps27 rfl ?_
  repeat (first | (refine wkB ?_; try intro _) | (refine sC rfl rfl ?_ ?_; focus (exact h1)) | (refine sN rfl rfl ?_ ?_; (focus (exact h1)); intro _; (try simp only [List.cons_append, List.nil_append, List.append_nil])) | refine sMu rfl ?_ | (refine sMm rfl rfl ?_; intro _) | (refine sRg rfl rfl ?_; intro _))
  exact wx_cell rfl rfl (fun w hw => ret_ok hw)⟩
theorem sign_sub_pos (a b : Rat) : 0 < (a - b).num.sign ↔ 0 < a - b := by
  rw [sign_sub, cq_gt]
  constructor <;> intro h <;> grind
/-- One report can be followed by another one, at a speed. -/
def cpt (v : Int) (a b : R_intake_Timed) : Bool := decide (0 < b.T - a.T) && decide (d2 (ptT a) (ptT b) ≤ ((v : Rat) * (b.T - a.T)) * ((v : Rat) * (b.T - a.T)))
instance sp_compat (a b : R_intake_Timed) (s : api_Settings) : SpecC Tryz.prog 9 [vTm a, vTm b, .agg (e_api_Settings s)] (.bool (cpt s.MaxSpeed a b)) (TkOk a ∧ TkOk b ∧ (-1048576 ≤ s.MaxSpeed ∧ s.MaxSpeed ≤ 1048576)) := ⟨fun hp w => by
  obtain ⟨ha, hb, hv⟩ := hp
  have h1 : M b.T ≤ LQ ∧ M a.T ≤ LQ := ⟨Nat.le_trans hb.t (by decide), Nat.le_trans ha.t (by decide)⟩
  have g1 := MB.mk ha.t
  have g2 := MB.mk hb.t
  have g3 := MB.mk (M_int4 (n := s.MaxSpeed) (by omega))
  have g4 := MB.mk (pt_M ha).1
  have g5 := MB.mk (pt_M ha).2
  have g6 := MB.mk (pt_M hb).1
  have g7 := MB.mk (pt_M hb).2
  have h2 : M (s.MaxSpeed : Rat) ≤ LQ ∧ M (b.T - a.T) ≤ LQ := ⟨MB.lt rfl, MB.lt rfl⟩
  have h3 : M ((s.MaxSpeed : Rat) * (b.T - a.T)) ≤ LQ ∧ M ((s.MaxSpeed : Rat) * (b.T - a.T)) ≤ LQ := ⟨MB.lt rfl, MB.lt rfl⟩
  have h4 : M (d2 (ptT a) (ptT b)) ≤ LQ ∧ M (((s.MaxSpeed : Rat) * (b.T - a.T)) * ((s.MaxSpeed : Rat) * (b.T - a.T))) ≤ LQ := ⟨MB.lt rfl, MB.lt rfl⟩
  have h5 : M (ptT a).X ≤ 8589934592 ∧ M (ptT a).Y ≤ 8589934592 ∧ M (ptT b).X ≤ 8589934592 ∧ M (ptT b).Y ≤ 8589934592 := ⟨MB.lt rfl, MB.lt rfl, MB.lt rfl, MB.lt rfl⟩
  have h6 : -9223372036854775808 ≤ s.MaxSpeed ∧ s.MaxSpeed ≤ 9223372036854775807 := by omega
  refine fn_intro Tryz.func9 rfl Tryz.ntmps9 rfl ?_
  repeat (first | (refine wkB ?_; try intro _) | (refine sC rfl rfl ?_ ?_; focus (exact h1)) | (refine sN rfl rfl ?_ ?_; (focus (exact h1)); intro _; (try simp only [List.cons_append, List.nil_append, List.append_nil])) | refine sMu rfl ?_ | (refine sMm rfl rfl ?_; intro _) | (refine sRg rfl rfl ?_; intro _))
  (refine j_drawL [0, 1, 2, 3, 4] [5] [6] (_) (h := ?_); refine wkI ?_)
  (repeat (first | refine wkH ?_ | (refine tC rfl rfl ?_ ?_; focus (first | exact h6 | exact h2))))
  repeat (refine wkT ?_; try intro _)
  repeat (first | (refine wkB ?_; try intro _) | (refine sC rfl rfl ?_ ?_; focus (first | exact trivial | assumption | constructor <;> assumption | exact mb2 rfl rfl | exact mb4 rfl rfl rfl rfl)) | (refine sN rfl rfl ?_ ?_; (focus (first | exact trivial | assumption | constructor <;> assumption | exact mb2 rfl rfl | exact mb4 rfl rfl rfl rfl)); intro _; (try simp only [List.cons_append, List.nil_append, List.append_nil])) | refine sMu rfl ?_ | (refine sMm rfl rfl ?_; intro _) | (refine sRg rfl rfl ?_; intro _))
  unfold cpt
  by_cases h0 : 0 < b.T - a.T
  · refine jD 16 16 (h := ?_)
    (repeat (refine wkH ?_))
    simp only [decide_eq_true ((sign_sub_pos b.T a.T).2 h0)]
    (repeat (first | refine wkH ?_ | (refine tC rfl rfl ?_ ?_; focus (first | exact ha | exact hb | exact h5 | exact h3 | exact h4))))
    refine jh_nil ?_
    refine jn_nil ?_
    repeat (first | (refine wkB ?_; try intro _) | (refine sC rfl rfl ?_ ?_; focus (first | exact trivial | assumption | constructor <;> assumption | exact mb2 rfl rfl | exact mb4 rfl rfl rfl rfl)) | (refine sN rfl rfl ?_ ?_; (focus (first | exact trivial | assumption | constructor <;> assumption | exact mb2 rfl rfl | exact mb4 rfl rfl rfl rfl)); intro _; (try simp only [List.cons_append, List.nil_append, List.append_nil])) | refine sMu rfl ?_ | (refine sMm rfl rfl ?_; intro _) | (refine sRg rfl rfl ?_; intro _))
    rw [decide_eq_true h0, Bool.true_and, show decide (d2 (ptT a) (ptT b) ≤ ((s.MaxSpeed : Rat) * (b.T - a.T)) * ((s.MaxSpeed : Rat) * (b.T - a.T))) = decide (cq (d2 (ptT a) (ptT b)) (((s.MaxSpeed : Rat) * (b.T - a.T)) * ((s.MaxSpeed : Rat) * (b.T - a.T))) ≤ 0) from decide_eq_decide.2 cq_le.symm]
    exact jx_ret_tmp rfl rfl (fun w hw => ret_ok hw)
  · refine jD 16 16 (h := ?_)
    (repeat (refine wkH ?_))
    simp only [decide_eq_false (fun h => h0 ((sign_sub_pos b.T a.T).1 h))]
    (repeat (refine wkH ?_))
    refine jh_nil ?_
    refine jn_nil ?_
    repeat (first | (refine wkB ?_; try intro _) | (refine sC rfl rfl ?_ ?_; focus (first | exact trivial | assumption | constructor <;> assumption | exact mb2 rfl rfl | exact mb4 rfl rfl rfl rfl)) | (refine sN rfl rfl ?_ ?_; (focus (first | exact trivial | assumption | constructor <;> assumption | exact mb2 rfl rfl | exact mb4 rfl rfl rfl rfl)); intro _; (try simp only [List.cons_append, List.nil_append, List.append_nil])) | refine sMu rfl ?_ | (refine sMm rfl rfl ?_; intro _) | (refine sRg rfl rfl ?_; intro _))
    rw [decide_eq_false h0, Bool.false_and]
    exact jx_ret_tmp rfl rfl (fun w hw => ret_ok hw)⟩
/-- Two reports are far apart in time. -/
def farT (g : Int) (a b : R_intake_Timed) : Bool := decide ((g : Rat) < b.T - a.T)
instance sp_far (a b : R_intake_Timed) (s : api_Settings) : SpecC Tryz.prog 34 [vTm a, vTm b, .agg (e_api_Settings s)] (.bool (farT s.MaxGap a b)) (TkOk a ∧ TkOk b ∧ (-2147483648 ≤ s.MaxGap ∧ s.MaxGap ≤ 2147483648)) := ⟨fun hp w => by
  obtain ⟨ha, hb, hv⟩ := hp
  have h1 : M b.T ≤ LQ ∧ M a.T ≤ LQ := ⟨Nat.le_trans hb.t (by decide), Nat.le_trans ha.t (by decide)⟩
  have g1 := MB.mk ha.t
  have g2 := MB.mk hb.t
  have h2 : M (b.T - a.T) ≤ LQ ∧ M (s.MaxGap : Rat) ≤ LQ := ⟨MB.lt rfl, Nat.le_trans (M_int4 hv) (by decide)⟩
  have h3 : -9223372036854775808 ≤ s.MaxGap ∧ s.MaxGap ≤ 9223372036854775807 := by omega
  unfold farT
  rw [show decide ((s.MaxGap : Rat) < b.T - a.T) = decide (0 < cq (b.T - a.T) (s.MaxGap : Rat)) from decide_eq_decide.2 cq_gt.symm]
  refine fn_intro Tryz.func34 rfl Tryz.ntmps34 rfl ?_
  repeat (first | (refine wkB ?_; try intro _) | (refine sC rfl rfl ?_ ?_; focus (first | exact trivial | assumption | constructor <;> assumption | exact mb2 rfl rfl | exact mb4 rfl rfl rfl rfl)) | (refine sN rfl rfl ?_ ?_; (focus (first | exact trivial | assumption | constructor <;> assumption | exact mb2 rfl rfl | exact mb4 rfl rfl rfl rfl)); intro _; (try simp only [List.cons_append, List.nil_append, List.append_nil])) | refine sMu rfl ?_ | (refine sMm rfl rfl ?_; intro _) | (refine sRg rfl rfl ?_; intro _))
  (refine jD 11 11 (h := ?_); (repeat (first | refine wkH ?_ | (refine tC rfl rfl ?_ ?_; focus (first | exact h1 | exact h2 | exact h3)))); refine jh_nil ?_; (repeat (refine wn_new ?_; intro _)); refine jn_nil ?_)
  repeat (first | (refine wkB ?_; try intro _) | (refine sC rfl rfl ?_ ?_; focus (first | exact trivial | assumption | constructor <;> assumption | exact mb2 rfl rfl | exact mb4 rfl rfl rfl rfl)) | (refine sN rfl rfl ?_ ?_; (focus (first | exact trivial | assumption | constructor <;> assumption | exact mb2 rfl rfl | exact mb4 rfl rfl rfl rfl)); intro _; (try simp only [List.cons_append, List.nil_append, List.append_nil])) | refine sMu rfl ?_ | (refine sMm rfl rfl ?_; intro _) | (refine sRg rfl rfl ?_; intro _))
  exact jx_ret_tmp rfl rfl (fun w hw => ret_ok hw)⟩
end Go.Vt
/- Longest chains, plainly: the table from the end, and the first one among the longest. Conditions: those that each statement names. -/
set_option linter.unusedSimpArgs false
set_option linter.unusedVariables false
set_option maxHeartbeats 2000000
namespace Go.Vt
section
variable (C : Nat → Nat → Bool) (n : Nat)
/-- How long a chain that begins at 'i' may be, as far as it goes on at the first elements of a list of what follows. -/
def innB (i : Nat) : Nat → List Nat → Nat → Nat
  | _, [], a => a
  | k, b :: r, a => innB i (k + 1) r (if C i k then max a (b + 1) else a)
/-- The table of the last 'm' places. -/
def bestL : Nat → List Nat
  | 0 => []
  | m + 1 => innB C (n - (m + 1)) (n - m) (bestL m) 1 :: bestL m
theorem bestL_len : ∀ m, (bestL C n m).length = m
  | 0 => rfl
  | m + 1 => congrArg Nat.succ (bestL_len m)
/-- The greatest of the table's values from the end, and 0. -/
def mostL : List Nat → Nat
  | [] => 0
  | b :: r => max (mostL r) b
def bestA (i : Nat) : Nat := (bestL C n n).getD i 0
theorem innB_ge (i : Nat) : ∀ (r : List Nat) (k a : Nat), a ≤ innB C i k r a
  | [], _, _ => Nat.le_refl _
  | b :: r, k, a => by
    have := innB_ge i r (k + 1) (if C i k then max a (b + 1) else a)
    simp only [innB]
    split at this <;> simp_all <;> omega
theorem innB_ex (i : Nat) : ∀ (r : List Nat) (k a : Nat), innB C i k r a = a ∨ ∃ j, j < r.length ∧ C i (k + j) = true ∧ innB C i k r a = r.getD j 0 + 1
  | [], _, _ => .inl rfl
  | b :: r, k, a => by
    simp only [innB]
    rcases innB_ex i r (k + 1) (if C i k then max a (b + 1) else a) with h | ⟨j, h1, h2, h3⟩
    · rw [h]
      by_cases hc : C i k = true
      · rw [if_pos hc]
        rcases Nat.le_total (b + 1) a with h4 | h4
        · exact .inl (by omega)
        · exact .inr ⟨0, by simp, by simpa using hc, by simp; omega⟩
      · rw [if_neg hc]
        exact .inl rfl
    · exact .inr ⟨j + 1, by simpa using h1, by rw [show k + (j + 1) = k + 1 + j by omega]; exact h2, by simpa using h3⟩
theorem bestL_get : ∀ (m j : Nat), j < m → m ≤ n → (bestL C n m).getD j 0 = bestA C n (n - m + j) := by
  have key : ∀ (d m : Nat), m + d ≤ n → ∀ j, (bestL C n (m + d)).getD (d + j) 0 = (bestL C n m).getD j 0 := by
    intro d
    induction d with
    | zero => intro m _ j; simp
    | succ d ih =>
      intro m hm j
      rw [show m + (d + 1) = (m + d) + 1 by omega, show d + 1 + j = (d + j) + 1 by omega]
      simp only [bestL, List.getD_cons_succ]
      exact ih m (by omega) j
  intro m j hj hm
  have := key (n - m) m (by omega) j
  rw [show m + (n - m) = n by omega] at this
  exact this.symm
theorem bestA_eq {i : Nat} (h : i < n) : bestA C n i = innB C i (i + 1) (bestL C n (n - i - 1)) 1 := by
  have := bestL_get C n (n - i) 0 (by omega) (by omega)
  rw [show n - (n - i) + 0 = i by omega] at this
  rw [← this, show n - i = (n - i - 1) + 1 by omega]
  simp only [bestL, List.getD_cons_zero]
  rw [show n - (n - i - 1 + 1) = i by omega, show n - (n - i - 1) = i + 1 by omega]
  rfl
theorem bestA_ex {i : Nat} (h : i < n) : bestA C n i = 1 ∨ ∃ k, i < k ∧ k < n ∧ C i k = true ∧ bestA C n i = bestA C n k + 1 := by
  rw [bestA_eq C n h]
  rcases innB_ex C i (bestL C n (n - i - 1)) (i + 1) 1 with h1 | ⟨j, h1, h2, h3⟩
  · exact .inl h1
  · rw [bestL_len] at h1
    rw [bestL_get C n (n - i - 1) j (by omega) (by omega), show n - (n - i - 1) + j = i + 1 + j by omega] at h3
    exact .inr ⟨i + 1 + j, by omega, by omega, h2, h3⟩
theorem mostL_ge : ∀ (l : List Nat) (j : Nat), l.getD j 0 ≤ mostL l
  | [], _ => by simp [mostL]
  | b :: l, 0 => by simp [mostL]; omega
  | b :: l, j + 1 => by
    have := mostL_ge l j
    simp only [mostL, List.getD_cons_succ]
    omega
theorem mostL_ex : ∀ (l : List Nat), mostL l = 0 ∨ ∃ j, j < l.length ∧ l.getD j 0 = mostL l
  | [] => .inl rfl
  | b :: l => by
    simp only [mostL]
    rcases Nat.le_total (mostL l) b with h | h
    · exact .inr ⟨0, by simp, by simp; omega⟩
    · rcases mostL_ex l with h1 | ⟨j, h1, h2⟩
      · exact .inl (by omega)
      · exact .inr ⟨j + 1, by simpa using h1, by rw [List.getD_cons_succ, h2, Nat.max_eq_left h]⟩
def mostA : Nat := mostL (bestL C n n)
/-- The chain that is taken: the first place that goes on best, each time. -/
def outS (s : List Nat × Nat) (i : Nat) : List Nat × Nat :=
  if bestA C n i = s.2 ∧ 0 < s.2 ∧ (s.1 = [] ∨ C (s.1.getLastD 0) i = true) then (s.1 ++ [i], s.2 - 1) else s
def outN : Nat → List Nat × Nat
  | 0 => ([], mostA C n)
  | i + 1 => outS C n (outN i) i
def chainL : List Nat := (outN C n n).1
structure OutOk (i : Nat) (s : List Nat × Nat) : Prop where
  len : s.1.length + s.2 = mostA C n
  lt : ∀ k ∈ s.1, k < i
  ok : ∀ j, j + 1 < s.1.length → C (s.1.getD j 0) (s.1.getD (j + 1) 0) = true
  go : 0 < s.2 → ∃ j, i ≤ j ∧ j < n ∧ bestA C n j = s.2 ∧ (s.1 = [] ∨ C (s.1.getLastD 0) j = true)
theorem getD_snoc_lt {l : List Nat} {x j : Nat} (h : j < l.length) : (l ++ [x]).getD j 0 = l.getD j 0 := by
  simp [List.getD_eq_getElem?_getD, List.getElem?_append_left h]
theorem getD_snoc_eq (l : List Nat) (x : Nat) : (l ++ [x]).getD l.length 0 = x := by
  simp [List.getD_eq_getElem?_getD]
theorem getLastD_getD {l : List Nat} (h : l ≠ []) : l.getLastD 0 = l.getD (l.length - 1) 0 := by
  cases l with
  | nil => exact (h rfl).elim
  | cons a l => rw [List.getLastD_cons, List.getD_eq_getElem?_getD, ← List.getLast?_eq_getElem?]; simp [List.getLast?_cons]
theorem outN_ok : ∀ i, i ≤ n → OutOk C n i (outN C n i)
  | 0, _ => by
    refine ⟨by simp [outN], by simp [outN], by simp [outN], fun h => ?_⟩
    rcases mostL_ex (bestL C n n) with h1 | ⟨j, h1, h2⟩
    · have : mostA C n = 0 := h1
      simp only [outN] at h
      omega
    · rw [bestL_len] at h1
      exact ⟨j, by omega, h1, h2, .inl rfl⟩
  | i + 1, hi => by
    have ih := outN_ok i (by omega)
    simp only [outN]
    generalize outN C n i = s at ih
    obtain ⟨i1, i2, i3, i4⟩ := ih
    unfold outS
    split
    · rename_i hc
      obtain ⟨h1, h2, h3⟩ := hc
      refine ⟨by simp; omega, fun k hk => ?_, fun j hj => ?_, fun h => ?_⟩
      · rcases List.mem_append.1 hk with hk | hk
        · have := i2 k hk; omega
        · have : k = i := by simpa using hk
          omega
      · simp only [List.length_append, List.length_cons, List.length_nil] at hj
        rcases Nat.lt_or_ge (j + 1) s.1.length with h4 | h4
        · rw [getD_snoc_lt h4, getD_snoc_lt (by omega)]
          exact i3 j h4
        · have e : j + 1 = s.1.length := by omega
          rw [e, getD_snoc_eq, getD_snoc_lt (by omega)]
          have hne : s.1 ≠ [] := fun h0 => by rw [h0] at e; simp at e
          rcases h3 with h3 | h3
          · exact (hne h3).elim
          · rw [getLastD_getD hne, show s.1.length - 1 = j by omega] at h3
            exact h3
      · simp only at h
        rcases bestA_ex C n (show i < n by omega) with h4 | ⟨k, k1, k2, k3, k4⟩
        · omega
        · exact ⟨k, by omega, k2, by simp only; omega, .inr (by simpa using k3)⟩
    · rename_i hc
      refine ⟨i1, fun k hk => by have := i2 k hk; omega, i3, fun h => ?_⟩
      obtain ⟨j, j1, j2, j3, j4⟩ := i4 h
      refine ⟨j, ?_, j2, j3, j4⟩
      rcases Nat.lt_or_ge i j with h5 | h5
      · exact h5
      · have e : j = i := by omega
        subst e
        exact (hc ⟨j3, h, j4⟩).elim
theorem chainL_lt : ∀ k ∈ chainL C n, k < n := (outN_ok C n n (Nat.le_refl _)).lt
theorem chainL_ok {j : Nat} (h : j + 1 < (chainL C n).length) : C ((chainL C n).getD j 0) ((chainL C n).getD (j + 1) 0) = true := (outN_ok C n n (Nat.le_refl _)).ok j h
end
end Go.Vt
/- The longest chain, walked. Conditions: those that each statement names. -/
set_option linter.unusedSimpArgs false
set_option linter.unusedVariables false
set_option maxHeartbeats 2000000
set_option maxRecDepth 100000
namespace Go.Vt
open Go.RowKit Go.Proofs
section
variable {P : Program} {w0 : World} {n : Nat} {L : List Blk} {E : Env} {x y : Operand} {T : TypeId} {a b : Int}
instance yk_max [hx : IsC (evl E x) (.int .i64 a)] [hy : IsC (evl E y) (.int .i64 b)] : YlC P w0 n L E (.call ⟨.builtin .max, #[x, y], #[T, T]⟩) (.int .i64 (if b > a then b else a)) := ⟨fun d ty pos aft gd => ⟨fun c w hc _ => by
  have h1 : ∀ cs : Array Bool, (builtin .max #[T, T] ty cs #[.int .i64 a, .int .i64 b]).run P w = .ok (.value (.int .i64 (if b > a then b else a))) w := fun cs => by
    show Sem.run P (do pure (Next.value (← Builtin.max_ #[T, T] ty #[.int .i64 a, .int .i64 b])) : Sem Next) w = _
    rw [Sem.run_bind, run_max_int2]
    rfl
  have e1 := hc.ev (isE (h := hx))
  have e2 := hc.ev (isE (h := hy))
  have e : (execOp c.eval ⟨d, .call ⟨.builtin .max, #[x, y], #[T, T]⟩, ty, pos, aft, gd⟩).run P w = .ok (.value (.int .i64 (if b > a then b else a))) w := by
    simp only [execOp, resolve, Sem.run_bind, Sem.run_pure, Result.andThen, invoke, List.map_toArray, List.map_cons, List.map_nil, e1, e2]
    exact h1 _
  unfold calm
  rw [e]
  exact ⟨rfl, Ext.refl _⟩⟩⟩
end
def cCp (v : Int) (l : List R_intake_Timed) (i k : Nat) : Bool := cpt v (gi l (i : Int)) (gi l (k : Int))
theorem innB_le (C : Nat → Nat → Bool) (i : Nat) : ∀ (r : List Nat) (k a m : Nat), (∀ b ∈ r, b ≤ m) → a ≤ m + 1 → innB C i k r a ≤ m + 1
  | [], _, _, _, _, h => h
  | b :: r, k, a, m, hr, h => by
    simp only [innB]
    have hb := hr b (.head _)
    refine innB_le C i r _ _ m (fun c hc => hr c (.tail _ hc)) ?_
    split <;> omega
theorem bestL_le (C : Nat → Nat → Bool) (n : Nat) : ∀ m, ∀ b ∈ bestL C n m, b ≤ m
  | 0, b, h => by cases h
  | m + 1, b, h => by
    rcases List.mem_cons.1 h with rfl | h
    · exact innB_le C _ _ _ _ _ (bestL_le C n m) (by omega)
    · have := bestL_le C n m b h
      omega
theorem mostL_le {m : Nat} : ∀ {l : List Nat}, (∀ b ∈ l, b ≤ m) → mostL l ≤ m
  | [], _ => Nat.zero_le _
  | b :: l, h => by
    have h1 := h b (.head _)
    have h2 := mostL_le (l := l) fun c hc => h c (.tail _ hc)
    simp only [mostL]
    omega
def cI (r : List Nat) : List Int := r.map fun x : Nat => (x : Int)
/-- The table with its first places still empty. -/
def tabL (i : Nat) (r : List Nat) : List Int := List.replicate i 0 ++ cI r
theorem cI_len (r : List Nat) : (cI r).length = r.length := List.length_map _
theorem tab_len (i : Nat) (r : List Nat) : (tabL i r).length = i + r.length := by simp [tabL, cI_len]
theorem tab_set0 (i : Nat) (r : List Nat) (x : Nat) : (tabL (i + 1) r).set i (x : Int) = tabL i (x :: r) := by
  unfold tabL
  rw [List.replicate_succ', List.append_assoc, List.set_append_right _ _ (by simp)]
  simp [cI]
theorem tab_set (i : Nat) (r : List Nat) (a x : Nat) : (tabL i (a :: r)).set i (x : Int) = tabL i (x :: r) := by
  unfold tabL
  rw [List.set_append_right _ _ (by simp)]
  simp [cI]
theorem tab_at (i : Nat) (r : List Nat) (a : Nat) : gi (tabL i (a :: r)) (i : Int) = (a : Int) := by
  rw [gi_nat (by rw [tab_len]; simp)]
  simp [tabL, cI]
theorem tab_get (i : Nat) (r : List Nat) (a j : Nat) (h : j < r.length) : gi (tabL i (a :: r)) ((i + 1 + j : Nat) : Int) = ((r.getD j 0 : Nat) : Int) := by
  rw [gi_nat (by rw [tab_len]; simp; omega)]
  unfold tabL
  rw [List.getElem_append_right (by simp; omega)]
  simp only [cI, List.length_replicate, List.map_cons, show i + 1 + j - i = j + 1 by omega, List.getElem_cons_succ, List.getElem_map, List.getD_eq_getElem?_getD, List.getElem?_eq_getElem h, Option.getD_some]
set_option maxHeartbeats 8000000 in
theorem chain_spec (v : Value) (l : List R_intake_Timed) (s : api_Settings) (w : World) (hv : ArgS w v r_intake_Timed l) (hl : l.length ≤ 4096) (hok : ∀ x ∈ l, TkOk x) (hs : -1048576 ≤ s.MaxSpeed ∧ s.MaxSpeed ≤ 1048576) :
    Calls Tryz.prog 12 [v, .agg (e_api_Settings s)].toArray w (RetM (SlS (eI .i64) 1 (cI (chainL (cCp s.MaxSpeed l) l.length))) (fun o => vSl o) (fun o => mS 3 o) w) := by
  obtain ⟨p, cp, rfl⟩ := hv.form
  have hC : ∀ i k, cCp s.MaxSpeed l i k = cpt s.MaxSpeed (gi l (i : Int)) (gi l (k : Int)) := fun _ _ => rfl
  generalize hCe : cCp s.MaxSpeed l = C at *
  generalize hn : l.length = n at *
  have hgo : ∀ i : Nat, i < n → TkOk (gi l (i : Int)) := fun i hi => hok _ (gi_mem (by omega))
  refine fn_intro Tryz.func12 rfl Tryz.ntmps12 rfl ?_
  repeat (first | (refine wkB ?_; try intro _) | (refine sC rfl rfl ?_ ?_; focus (first | exact trivial | assumption | constructor <;> assumption | exact mb2 rfl rfl | exact mb4 rfl rfl rfl rfl)) | (refine sN rfl rfl ?_ ?_; (focus (first | exact trivial | assumption | constructor <;> assumption | exact mb2 rfl rfl | exact mb4 rfl rfl rfl rfl)); intro _; (try simp only [List.cons_append, List.nil_append, List.append_nil])) | refine sMu rfl ?_ | (refine sMm rfl rfl ?_; intro _) | (refine sRg rfl rfl ?_; intro _))
  refine sM rfl rfl ⟨by omega, by omega⟩ (fun b5 => ?_)
  repeat (first | (refine wkB ?_; try intro _) | (refine sC rfl rfl ?_ ?_; focus (first | exact trivial | assumption | constructor <;> assumption | exact mb2 rfl rfl | exact mb4 rfl rfl rfl rfl)) | (refine sN rfl rfl ?_ ?_; (focus (first | exact trivial | assumption | constructor <;> assumption | exact mb2 rfl rfl | exact mb4 rfl rfl rfl rfl)); intro _; (try simp only [List.cons_append, List.nil_append, List.append_nil])) | refine sMu rfl ?_ | (refine sMm rfl rfl ?_; intro _) | (refine sRg rfl rfl ?_; intro _))
  rename_i b3
  refine j_loop (S := Nat) (fun m => m ≤ n) (fun m => [(0, .slice p n cp), (3, .pointer (some ⟨b3, 0, none⟩)), (5, .slice (some ⟨b5, 0, none⟩) n n), (6, .int .i64 (mostL (bestL C n m))), (7, .int .i64 ((n : Int) - 1 - m))]) (fun m => [⟨b5, row (eI .i64) (tabL (n - m) (bestL C n m)) [], 3⟩, ⟨b3, e_api_Settings s, 26⟩]) (fun m => n - m) 0 (Nat.zero_le _) ?_ ?_ (fun m hm => ?_)
  · exact sbB
  · have e : tabL (n - 0) (bestL C n 0) = List.replicate n 0 := by simp [tabL, cI, bestL]
    simp only [e]
    exact slB
  repeat (first | (refine wkB ?_; try intro _) | (refine sC rfl rfl ?_ ?_; focus (first | exact trivial | assumption | constructor <;> assumption | exact mb2 rfl rfl | exact mb4 rfl rfl rfl rfl)) | (refine sN rfl rfl ?_ ?_; (focus (first | exact trivial | assumption | constructor <;> assumption | exact mb2 rfl rfl | exact mb4 rfl rfl rfl rfl)); intro _; (try simp only [List.cons_append, List.nil_append, List.append_nil])) | refine sMu rfl ?_ | (refine sMm rfl rfl ?_; intro _) | (refine sRg rfl rfl ?_; intro _))
  refine j_cond rfl (fun h => ?_) (fun h => ?_)
  · have hlt : m < n := by have := of_decide_eq_true h; omega
    obtain ⟨i, hi⟩ : ∃ i, n = m + i + 1 := ⟨n - m - 1, by omega⟩
    have e7 : (n : Int) - 1 - (m : Int) = (i : Int) := by omega
    have e8 : n - m = i + 1 := by omega
    have hbl := bestL_le C n m
    have hbn := bestL_len C n m
    have hnx : bestL C n (m + 1) = innB C i (i + 1) (bestL C n m) 1 :: bestL C n m := by
      rw [bestL, show n - (m + 1) = i by omega, show n - m = i + 1 by omega]
    have hmo := mostL_le hbl
    generalize bestL C n m = r at *
    rw [e8]
    simp only [e7]
    have ht1 := tab_len (i + 1) r
    have hset : (tabL (i + 1) r).set ((i : Int)).toNat (1 : Int) = tabL i (1 :: r) := by
      rw [Int.toNat_natCast]
      exact tab_set0 i r 1
    repeat (first | (refine wkB ?_; try intro _) | (refine sC rfl rfl ?_ ?_; focus (first | exact trivial | assumption | constructor <;> assumption | exact mb2 rfl rfl | exact mb4 rfl rfl rfl rfl)) | (refine sN rfl rfl ?_ ?_; (focus (first | exact trivial | assumption | constructor <;> assumption | exact mb2 rfl rfl | exact mb4 rfl rfl rfl rfl)); intro _; (try simp only [List.cons_append, List.nil_append, List.append_nil])) | refine sMu rfl ?_ | (refine sMm rfl rfl ?_; intro _) | (refine sRg rfl rfl ?_; intro _))
    simp only [hset]
    refine j_loop (S := Nat × Nat) (fun q => q.1 ≤ m ∧ innB C i (i + 1) r 1 = innB C i (i + 1 + q.1) (r.drop q.1) q.2 ∧ q.2 ≤ m + 1) (fun q => [(0, .slice p n cp), (3, .pointer (some ⟨b3, 0, none⟩)), (5, .slice (some ⟨b5, 0, none⟩) n n), (6, .int .i64 (mostL r)), (7, .int .i64 (i : Nat)), (8, .int .i64 ((i + 1 + q.1 : Nat)))]) (fun q => [⟨b5, row (eI .i64) (tabL i (q.2 :: r)) [], 3⟩, ⟨b3, e_api_Settings s, 26⟩]) (fun q => m - q.1) (0, 1) ⟨Nat.zero_le _, rfl, by show 1 ≤ m + 1; omega⟩ sbB slB (fun q hq => ?_)
    obtain ⟨j, a⟩ := q
    obtain ⟨hj, hin, ha⟩ := hq
    simp only at hj hin ha ⊢
    have ht2 := tab_len i (a :: r)
    rw [List.length_cons] at ht2
    have hai := tab_at i r a
    repeat (first | (refine wkB ?_; try intro _) | (refine sC rfl rfl ?_ ?_; focus (first | exact trivial | assumption | constructor <;> assumption | exact mb2 rfl rfl | exact mb4 rfl rfl rfl rfl)) | (refine sN rfl rfl ?_ ?_; (focus (first | exact trivial | assumption | constructor <;> assumption | exact mb2 rfl rfl | exact mb4 rfl rfl rfl rfl)); intro _; (try simp only [List.cons_append, List.nil_append, List.append_nil])) | refine sMu rfl ?_ | (refine sMm rfl rfl ?_; intro _) | (refine sRg rfl rfl ?_; intro _))
    refine j_cond rfl (fun h => ?_) (fun h => ?_)
    · have hjm : j < m := by have := of_decide_eq_true h; omega
      have hget := tab_get i r a j (by omega)
      have hb := hbl (r.getD j 0) (by rw [List.getD_eq_getElem?_getD, List.getElem?_eq_getElem (by omega)]; exact List.getElem_mem _)
      have hdr : r.drop j = r.getD j 0 :: r.drop (j + 1) := by
        rw [List.drop_eq_getElem_cons (by omega), List.getD_eq_getElem?_getD, List.getElem?_eq_getElem (by omega)]
        rfl
      rw [hdr] at hin
      simp only [innB] at hin
      have hne : l ≠ [] := fun h0 => by rw [h0] at hn; simp at hn; omega
      obtain ⟨bw, ow, cw, hvw, hcw, hrow⟩ := hv.blk (k := 11) hne []
      injection hvw with e1 e2 e3
      subst e1
      subst e3
      have hrow' : ∀ L, RowC w L bw ow R_intake_Timed r_intake_Timed l := fun L => ⟨fun w' hw' => hrow.out w' (hw'.sub (List.nil_sublist _))⟩
      have k1 := hgo i (by omega)
      have k2 := hgo (i + 1 + j) (by omega)
      have hCk := hC i (i + 1 + j)
      generalize r.getD j 0 = bb at *
      repeat (first | (refine wkB ?_; try intro _) | (refine sC rfl rfl ?_ ?_; focus (first | exact trivial | assumption | constructor <;> assumption | exact mb2 rfl rfl | exact mb4 rfl rfl rfl rfl)) | (refine sN rfl rfl ?_ ?_; (focus (first | exact trivial | assumption | constructor <;> assumption | exact mb2 rfl rfl | exact mb4 rfl rfl rfl rfl)); intro _; (try simp only [List.cons_append, List.nil_append, List.append_nil])) | refine sMu rfl ?_ | (refine sMm rfl rfl ?_; intro _) | (refine sRg rfl rfl ?_; intro _))
      by_cases hge : a ≤ bb
      · refine jD 21 21 (h := ?_)
        (repeat (refine wkH ?_))
        simp only [hget, hai, decide_eq_true (show (a : Int) ≤ (bb : Int) by omega)]
        (repeat (first | refine wkH ?_ | (refine tC rfl rfl ?_ ?_; focus (exact ⟨k1, k2, hs⟩))))
        refine jh_nil ?_
        refine jn_nil ?_
        simp only [← hCk]
        cases hc : C i (i + 1 + j)
        · rw [hc, if_neg (by decide)] at hin
          repeat (first | (refine wkB ?_; try intro _) | (refine sC rfl rfl ?_ ?_; focus (exact ⟨by omega, by omega⟩)) | (refine sN rfl rfl ?_ ?_; (focus (exact ⟨by omega, by omega⟩)); intro _; (try simp only [List.cons_append, List.nil_append, List.append_nil])) | refine sMu rfl ?_ | (refine sMm rfl rfl ?_; intro _) | (refine sRg rfl rfl ?_; intro _))
          exact jx_loop (j + 1, a) ⟨hjm, by rw [hin]; rfl, ha⟩ sbB slB (by show m - (j + 1) < m - j; omega)
        · rw [hc, if_pos rfl, Nat.max_eq_right (by omega)] at hin
          have hs2 : (tabL i (a :: r)).set ((i : Int)).toNat ((bb : Int) + 1) = tabL i ((bb + 1) :: r) := by
            rw [Int.toNat_natCast]
            exact tab_set i r a (bb + 1)
          repeat (first | (refine wkB ?_; try intro _) | (refine sC rfl rfl ?_ ?_; focus (first | exact trivial | assumption | constructor <;> assumption | exact mb2 rfl rfl | exact mb4 rfl rfl rfl rfl)) | (refine sN rfl rfl ?_ ?_; (focus (first | exact trivial | assumption | constructor <;> assumption | exact mb2 rfl rfl | exact mb4 rfl rfl rfl rfl)); intro _; (try simp only [List.cons_append, List.nil_append, List.append_nil])) | refine sMu rfl ?_ | (refine sMm rfl rfl ?_; intro _) | (refine sRg rfl rfl ?_; intro _))
          simp only [hget]
          repeat (first | (refine wkB ?_; try intro _) | (refine sC rfl rfl ?_ ?_; focus (first | exact trivial | assumption | constructor <;> assumption | exact mb2 rfl rfl | exact mb4 rfl rfl rfl rfl)) | (refine sN rfl rfl ?_ ?_; (focus (first | exact trivial | assumption | constructor <;> assumption | exact mb2 rfl rfl | exact mb4 rfl rfl rfl rfl)); intro _; (try simp only [List.cons_append, List.nil_append, List.append_nil])) | refine sMu rfl ?_ | (refine sMm rfl rfl ?_; intro _) | (refine sRg rfl rfl ?_; intro _))
          simp only [hs2]
          repeat (first | (refine wkB ?_; try intro _) | (refine sC rfl rfl ?_ ?_; focus (exact ⟨by omega, by omega⟩)) | (refine sN rfl rfl ?_ ?_; (focus (exact ⟨by omega, by omega⟩)); intro _; (try simp only [List.cons_append, List.nil_append, List.append_nil])) | refine sMu rfl ?_ | (refine sMm rfl rfl ?_; intro _) | (refine sRg rfl rfl ?_; intro _))
          exact jx_loop (j + 1, bb + 1) ⟨hjm, by rw [hin]; rfl, by show bb + 1 ≤ m + 1; omega⟩ sbB slB (by show m - (j + 1) < m - j; omega)
      · refine jD 21 21 (h := ?_)
        (repeat (refine wkH ?_))
        simp only [hget, hai, decide_eq_false (show ¬ (a : Int) ≤ (bb : Int) by omega)]
        (repeat (refine wkH ?_))
        refine jh_nil ?_
        refine jn_nil ?_
        have hin' : innB C i (i + 1) r 1 = innB C i (i + 1 + j + 1) (r.drop (j + 1)) a := by
          rw [hin]
          split
          · rw [Nat.max_eq_left (by omega)]
          · rfl
        repeat (first | (refine wkB ?_; try intro _) | (refine sC rfl rfl ?_ ?_; focus (exact ⟨by omega, by omega⟩)) | (refine sN rfl rfl ?_ ?_; (focus (exact ⟨by omega, by omega⟩)); intro _; (try simp only [List.cons_append, List.nil_append, List.append_nil])) | refine sMu rfl ?_ | (refine sMm rfl rfl ?_; intro _) | (refine sRg rfl rfl ?_; intro _))
        exact jx_loop (j + 1, a) ⟨hjm, by rw [hin']; rfl, ha⟩ sbB slB (by show m - (j + 1) < m - j; omega)
    · have hge : j = m := by have := of_decide_eq_false h; omega
      subst hge
      rw [← hbn, List.drop_length, hbn] at hin
      simp only [innB] at hin
      rw [hin] at hnx
      have hmx : (if (a : Int) > (mostL r : Int) then (a : Int) else (mostL r : Int)) = ((mostL (bestL C n (j + 1)) : Nat) : Int) := by
        rw [hnx, mostL]
        split <;> omega
      have e9 : n - (j + 1) = i := by omega
      repeat (first | (refine wkB ?_; try intro _) | (refine sC rfl rfl ?_ ?_; focus (first | exact trivial | assumption | constructor <;> assumption | exact mb2 rfl rfl | exact mb4 rfl rfl rfl rfl)) | (refine sN rfl rfl ?_ ?_; (focus (first | exact trivial | assumption | constructor <;> assumption | exact mb2 rfl rfl | exact mb4 rfl rfl rfl rfl)); intro _; (try simp only [List.cons_append, List.nil_append, List.append_nil])) | refine sMu rfl ?_ | (refine sMm rfl rfl ?_; intro _) | (refine sRg rfl rfl ?_; intro _))
      simp only [hai, hmx]
      exact jx_loop (j + 1) hlt sbB (by simp only [e9, hnx]; exact List.Sublist.refl _) (by omega)
  · have hge : m = n := by have := of_decide_eq_false h; omega
    subst hge
    have hbn := bestL_len C m m
    have hat : ∀ i : Nat, i < m → gi (tabL 0 (bestL C m m)) (i : Int) = ((bestA C m i : Nat) : Int) := fun i hi => by
      rw [gi_nat (by rw [tab_len]; omega)]
      simp only [tabL, List.replicate_zero, List.nil_append, cI, List.getElem_map, bestA, List.getD_eq_getElem?_getD, List.getElem?_eq_getElem (show i < (bestL C m m).length by omega), Option.getD_some]
    have hmo := mostL_le (bestL_le C m m)
    have htl := tab_len 0 (bestL C m m)
    rw [Nat.sub_self]
    repeat (first | (refine wkB ?_; try intro _) | (refine sC rfl rfl ?_ ?_; focus (first | exact trivial | assumption | constructor <;> assumption | exact mb2 rfl rfl | exact mb4 rfl rfl rfl rfl)) | (refine sN rfl rfl ?_ ?_; (focus (first | exact trivial | assumption | constructor <;> assumption | exact mb2 rfl rfl | exact mb4 rfl rfl rfl rfl)); intro _; (try simp only [List.cons_append, List.nil_append, List.append_nil])) | refine sMu rfl ?_ | (refine sMm rfl rfl ?_; intro _) | (refine sRg rfl rfl ?_; intro _))
    have hO := fun i (hi : i ≤ m) => outN_ok C m i hi
    have hmA : mostL (bestL C m m) = mostA C m := rfl
    have hB : ∀ i, bestA C m i ≤ m := fun i => by
      have : bestA C m i ≤ mostA C m := mostL_ge _ _
      omega
    generalize tabL 0 (bestL C m m) = tb at *
    refine j_loop (S := (i : Nat) × SlS (eI .i64) 1 (cI (outN C m i).1)) (fun q => q.1 ≤ m) (fun q => [(0, .slice p m cp), (3, .pointer (some ⟨b3, 0, none⟩)), (5, .slice (some ⟨b5, 0, none⟩) m m), (6, .int .i64 ((outN C m q.1).2 : Nat)), (9, vSl q.2), (68, .int .i64 m), (69, .int .i64 (q.1 : Nat))]) (fun q => mS 3 q.2 ++ [⟨b5, row (eI .i64) tb [], 3⟩, ⟨b3, e_api_Settings s, 26⟩]) (fun q => m - q.1) ⟨0, SlS.no⟩ (Nat.zero_le _) sbB suB (fun q hq => ?_)
    obtain ⟨i, o⟩ := q
    simp only at hq ⊢
    have hOi := hO i hq
    have hnx : outN C m (i + 1) = outS C m (outN C m i) i := rfl
    unfold outS at hnx
    have hlen := hOi.len
    repeat (first | (refine wkB ?_; try intro _) | (refine sC rfl rfl ?_ ?_; focus (first | exact trivial | assumption | constructor <;> assumption | exact mb2 rfl rfl | exact mb4 rfl rfl rfl rfl)) | (refine sN rfl rfl ?_ ?_; (focus (first | exact trivial | assumption | constructor <;> assumption | exact mb2 rfl rfl | exact mb4 rfl rfl rfl rfl)); intro _; (try simp only [List.cons_append, List.nil_append, List.append_nil])) | refine sMu rfl ?_ | (refine sMm rfl rfl ?_; intro _) | (refine sRg rfl rfl ?_; intro _))
    refine j_cond rfl (fun h => ?_) (fun h => ?_)
    · have hlt : i < m := by have := of_decide_eq_true h; omega
      have hai := hat i hlt
      have hol := cI_len (outN C m i).1
      repeat (first | (refine wkB ?_; try intro _) | (refine sC rfl rfl ?_ ?_; focus (first | exact trivial | assumption | constructor <;> assumption | exact mb2 rfl rfl | exact mb4 rfl rfl rfl rfl)) | (refine sN rfl rfl ?_ ?_; (focus (first | exact trivial | assumption | constructor <;> assumption | exact mb2 rfl rfl | exact mb4 rfl rfl rfl rfl)); intro _; (try simp only [List.cons_append, List.nil_append, List.append_nil])) | refine sMu rfl ?_ | (refine sMm rfl rfl ?_; intro _) | (refine sRg rfl rfl ?_; intro _))
      refine j_cut (S := Bool) (fun q => q = decide (bestA C m i = (outN C m i).2 ∧ 0 < (outN C m i).2 ∧ ((outN C m i).1 = [] ∨ C ((outN C m i).1.getLastD 0) i = true))) (fun q => [(0, .slice p m cp), (3, .pointer (some ⟨b3, 0, none⟩)), (5, .slice (some ⟨b5, 0, none⟩) m m), (6, .int .i64 ((outN C m i).2 : Nat)), (9, vSl o), (10, .int .i64 (i : Nat)), (68, .int .i64 m), (69, .int .i64 (i : Nat)), (103, .bool q)]) (fun _ => mS 3 o ++ [⟨b5, row (eI .i64) tb [], 3⟩, ⟨b3, e_api_Settings s, 26⟩]) ?_ (fun q hq => ?_)
      · have hne : l ≠ [] := fun h0 => by rw [h0] at hn; simp at hn; omega
        obtain ⟨bw, ow, cw, hvw, hcw, hrow⟩ := hv.blk (k := 11) hne []
        injection hvw with e1 e2 e3
        subst e1
        subst e3
        have hrow' : ∀ L, RowC w L bw ow R_intake_Timed r_intake_Timed l := fun L => ⟨fun w' hw' => hrow.out w' (hw'.sub (List.nil_sublist _))⟩
        have k2 := hgo i hlt
        rcases o.cases 3 with ⟨x0, x1, x2⟩ | ⟨bo, co, sp, hc1, x1, x2, xne⟩
        · have hout : (outN C m i).1 = [] := by
            have := congrArg List.length x0
            rw [hol] at this
            exact List.length_eq_zero_iff.1 this
          simp only [x1, x2, List.cons_append, List.nil_append]
          by_cases c1 : bestA C m i = (outN C m i).2
          · by_cases c2 : 0 < (outN C m i).2
            · have hd : decide (bestA C m i = (outN C m i).2 ∧ 0 < (outN C m i).2 ∧ ((outN C m i).1 = [] ∨ C ((outN C m i).1.getLastD 0) i = true)) = true := decide_eq_true ⟨c1, c2, .inl hout⟩
              refine jD 32 32 (h := ?_)
              (repeat (refine wkH ?_))
              simp only [hai, decide_eq_true (show ((bestA C m i : Nat) : Int) = ((outN C m i).2 : Int) by omega)]
              (repeat (refine wkH ?_))
              simp only [decide_eq_true (show (0 : Int) < ((outN C m i).2 : Int) by omega)]
              (repeat (refine wkH ?_))
              refine jh_nil ?_
              refine jn_nil ?_
              repeat (first | (refine wkB ?_; try intro _) | (refine sC rfl rfl ?_ ?_; focus (first | exact trivial | assumption | constructor <;> assumption | exact mb2 rfl rfl | exact mb4 rfl rfl rfl rfl)) | (refine sN rfl rfl ?_ ?_; (focus (first | exact trivial | assumption | constructor <;> assumption | exact mb2 rfl rfl | exact mb4 rfl rfl rfl rfl)); intro _; (try simp only [List.cons_append, List.nil_append, List.append_nil])) | refine sMu rfl ?_ | (refine sMm rfl rfl ?_; intro _) | (refine sRg rfl rfl ?_; intro _))
              exact jx_mid true hd.symm sbB suB
            · have hd : decide (bestA C m i = (outN C m i).2 ∧ 0 < (outN C m i).2 ∧ ((outN C m i).1 = [] ∨ C ((outN C m i).1.getLastD 0) i = true)) = false := decide_eq_false fun h => c2 h.2.1
              refine jD 32 32 (h := ?_)
              (repeat (refine wkH ?_))
              simp only [hai, decide_eq_true (show ((bestA C m i : Nat) : Int) = ((outN C m i).2 : Int) by omega)]
              (repeat (refine wkH ?_))
              simp only [decide_eq_false (show ¬ (0 : Int) < ((outN C m i).2 : Int) by omega)]
              (repeat (refine wkH ?_))
              refine jh_nil ?_
              refine jn_nil ?_
              repeat (first | (refine wkB ?_; try intro _) | (refine sC rfl rfl ?_ ?_; focus (first | exact trivial | assumption | constructor <;> assumption | exact mb2 rfl rfl | exact mb4 rfl rfl rfl rfl)) | (refine sN rfl rfl ?_ ?_; (focus (first | exact trivial | assumption | constructor <;> assumption | exact mb2 rfl rfl | exact mb4 rfl rfl rfl rfl)); intro _; (try simp only [List.cons_append, List.nil_append, List.append_nil])) | refine sMu rfl ?_ | (refine sMm rfl rfl ?_; intro _) | (refine sRg rfl rfl ?_; intro _))
              exact jx_mid false hd.symm sbB suB
          · have hd : decide (bestA C m i = (outN C m i).2 ∧ 0 < (outN C m i).2 ∧ ((outN C m i).1 = [] ∨ C ((outN C m i).1.getLastD 0) i = true)) = false := decide_eq_false fun h => c1 h.1
            refine jD 32 32 (h := ?_)
            (repeat (refine wkH ?_))
            simp only [hai, decide_eq_false (show ¬ ((bestA C m i : Nat) : Int) = ((outN C m i).2 : Int) by omega)]
            (repeat (refine wkH ?_))
            refine jh_nil ?_
            refine jn_nil ?_
            repeat (first | (refine wkB ?_; try intro _) | (refine sC rfl rfl ?_ ?_; focus (first | exact trivial | assumption | constructor <;> assumption | exact mb2 rfl rfl | exact mb4 rfl rfl rfl rfl)) | (refine sN rfl rfl ?_ ?_; (focus (first | exact trivial | assumption | constructor <;> assumption | exact mb2 rfl rfl | exact mb4 rfl rfl rfl rfl)); intro _; (try simp only [List.cons_append, List.nil_append, List.append_nil])) | refine sMu rfl ?_ | (refine sMm rfl rfl ?_; intro _) | (refine sRg rfl rfl ?_; intro _))
            exact jx_mid false hd.symm sbB suB
        · have hone : (outN C m i).1 ≠ [] := fun h0 => by rw [h0] at xne; exact xne rfl
          have hpos : 0 < (outN C m i).1.length := List.length_pos_iff.2 hone
          have hlm : (outN C m i).1.getLastD 0 < m := by
            have h1 : (outN C m i).1.getLastD 0 ∈ (outN C m i).1 := by
              rw [getLastD_getD hone, List.getD_eq_getElem?_getD, List.getElem?_eq_getElem (by omega)]
              exact List.getElem_mem _
            have := hOi.lt _ h1
            omega
          have hla : gi (cI (outN C m i).1) (((cI (outN C m i).1).length : Int) - 1) = (((outN C m i).1.getLastD 0 : Nat) : Int) := by
            rw [hol, show (((outN C m i).1.length : Int) - 1) = (((outN C m i).1.length - 1 : Nat) : Int) by omega, gi_nat (by rw [hol]; omega), getLastD_getD hone]
            simp only [cI, List.getElem_map, List.getD_eq_getElem?_getD, List.getElem?_eq_getElem (show (outN C m i).1.length - 1 < (outN C m i).1.length by omega), Option.getD_some]
          have k1 := hgo _ hlm
          have hCk := hC ((outN C m i).1.getLastD 0) i
          simp only [x1, x2, List.cons_append, List.nil_append]
          by_cases c1 : bestA C m i = (outN C m i).2
          · by_cases c2 : 0 < (outN C m i).2
            · have hd : decide (bestA C m i = (outN C m i).2 ∧ 0 < (outN C m i).2 ∧ ((outN C m i).1 = [] ∨ C ((outN C m i).1.getLastD 0) i = true)) = C ((outN C m i).1.getLastD 0) i := by
                simp only [c1, c2, hone, true_and, false_or, Bool.decide_eq_true]
              refine jD 32 32 (h := ?_)
              (repeat (refine wkH ?_))
              simp only [hai, decide_eq_true (show ((bestA C m i : Nat) : Int) = ((outN C m i).2 : Int) by omega)]
              (repeat (refine wkH ?_))
              simp only [decide_eq_true (show (0 : Int) < ((outN C m i).2 : Int) by omega)]
              (repeat (refine wkH ?_))
              simp only [decide_eq_false (show ¬ ((cI (outN C m i).1).length : Int) = 0 by omega)]
              (repeat (refine wkH ?_))
              simp only [hla]
              (repeat (first | refine wkH ?_ | (refine tC rfl rfl ?_ ?_; focus (exact ⟨k1, k2, hs⟩))))
              refine jh_nil ?_
              refine jn_nil ?_
              simp only [← hCk]
              repeat (first | (refine wkB ?_; try intro _) | (refine sC rfl rfl ?_ ?_; focus (first | exact trivial | assumption | constructor <;> assumption | exact mb2 rfl rfl | exact mb4 rfl rfl rfl rfl)) | (refine sN rfl rfl ?_ ?_; (focus (first | exact trivial | assumption | constructor <;> assumption | exact mb2 rfl rfl | exact mb4 rfl rfl rfl rfl)); intro _; (try simp only [List.cons_append, List.nil_append, List.append_nil])) | refine sMu rfl ?_ | (refine sMm rfl rfl ?_; intro _) | (refine sRg rfl rfl ?_; intro _))
              exact jx_mid (C ((outN C m i).1.getLastD 0) i) hd.symm sbB suB
            · have hd : decide (bestA C m i = (outN C m i).2 ∧ 0 < (outN C m i).2 ∧ ((outN C m i).1 = [] ∨ C ((outN C m i).1.getLastD 0) i = true)) = false := decide_eq_false fun h => c2 h.2.1
              refine jD 32 32 (h := ?_)
              (repeat (refine wkH ?_))
              simp only [hai, decide_eq_true (show ((bestA C m i : Nat) : Int) = ((outN C m i).2 : Int) by omega)]
              (repeat (refine wkH ?_))
              simp only [decide_eq_false (show ¬ (0 : Int) < ((outN C m i).2 : Int) by omega)]
              (repeat (refine wkH ?_))
              refine jh_nil ?_
              refine jn_nil ?_
              repeat (first | (refine wkB ?_; try intro _) | (refine sC rfl rfl ?_ ?_; focus (first | exact trivial | assumption | constructor <;> assumption | exact mb2 rfl rfl | exact mb4 rfl rfl rfl rfl)) | (refine sN rfl rfl ?_ ?_; (focus (first | exact trivial | assumption | constructor <;> assumption | exact mb2 rfl rfl | exact mb4 rfl rfl rfl rfl)); intro _; (try simp only [List.cons_append, List.nil_append, List.append_nil])) | refine sMu rfl ?_ | (refine sMm rfl rfl ?_; intro _) | (refine sRg rfl rfl ?_; intro _))
              exact jx_mid false hd.symm sbB suB
          · have hd : decide (bestA C m i = (outN C m i).2 ∧ 0 < (outN C m i).2 ∧ ((outN C m i).1 = [] ∨ C ((outN C m i).1.getLastD 0) i = true)) = false := decide_eq_false fun h => c1 h.1
            refine jD 32 32 (h := ?_)
            (repeat (refine wkH ?_))
            simp only [hai, decide_eq_false (show ¬ ((bestA C m i : Nat) : Int) = ((outN C m i).2 : Int) by omega)]
            (repeat (refine wkH ?_))
            refine jh_nil ?_
            refine jn_nil ?_
            repeat (first | (refine wkB ?_; try intro _) | (refine sC rfl rfl ?_ ?_; focus (first | exact trivial | assumption | constructor <;> assumption | exact mb2 rfl rfl | exact mb4 rfl rfl rfl rfl)) | (refine sN rfl rfl ?_ ?_; (focus (first | exact trivial | assumption | constructor <;> assumption | exact mb2 rfl rfl | exact mb4 rfl rfl rfl rfl)); intro _; (try simp only [List.cons_append, List.nil_append, List.append_nil])) | refine sMu rfl ?_ | (refine sMm rfl rfl ?_; intro _) | (refine sRg rfl rfl ?_; intro _))
            exact jx_mid false hd.symm sbB suB
      · by_cases hP : bestA C m i = (outN C m i).2 ∧ 0 < (outN C m i).2 ∧ ((outN C m i).1 = [] ∨ C ((outN C m i).1.getLastD 0) i = true)
        · rw [decide_eq_true hP] at hq
          subst hq
          rw [if_pos hP] at hnx
          repeat (first | (refine wkB ?_; try intro _) | (refine sC rfl rfl ?_ ?_; focus (first | exact trivial | assumption | constructor <;> assumption | exact mb2 rfl rfl | exact mb4 rfl rfl rfl rfl)) | (refine sN rfl rfl ?_ ?_; (focus (first | exact trivial | assumption | constructor <;> assumption | exact mb2 rfl rfl | exact mb4 rfl rfl rfl rfl)); intro _; (try simp only [List.cons_append, List.nil_append, List.append_nil])) | refine sMu rfl ?_ | (refine sMm rfl rfl ?_; intro _) | (refine sRg rfl rfl ?_; intro _))
          refine sU rfl rfl ?_ ?_ ?_ ?_
          · rfl
          · rfl
          · exact ⟨by decide, by omega, by omega⟩
          intro s'
          repeat (first | (refine wkB ?_; try intro _) | (refine sC rfl rfl ?_ ?_; focus (exact ⟨by omega, by omega⟩)) | (refine sN rfl rfl ?_ ?_; (focus (exact ⟨by omega, by omega⟩)); intro _; (try simp only [List.cons_append, List.nil_append, List.append_nil])) | refine sMu rfl ?_ | (refine sMm rfl rfl ?_; intro _) | (refine sRg rfl rfl ?_; intro _))
          have e1 : cI (outN C m (i + 1)).1 = cI (outN C m i).1 ++ [(i : Int)] := by rw [hnx]; simp [cI]
          have e4 : (((outN C m (i + 1)).2 : Nat) : Int) = ((outN C m i).2 : Int) - 1 := by rw [hnx]; simp only; omega
          obtain ⟨s3, e2, e3⟩ := SlS.turn 3 e1.symm s'
          exact jx_loop ⟨i + 1, s3⟩ hlt (by simp only [e2, e4]; exact sbB) (by simp only [e3]; exact suB) (by show m - (i + 1) < m - i; omega)
        · rw [decide_eq_false hP] at hq
          subst hq
          rw [if_neg hP] at hnx
          repeat (first | (refine wkB ?_; try intro _) | (refine sC rfl rfl ?_ ?_; focus (exact ⟨by omega, by omega⟩)) | (refine sN rfl rfl ?_ ?_; (focus (exact ⟨by omega, by omega⟩)); intro _; (try simp only [List.cons_append, List.nil_append, List.append_nil])) | refine sMu rfl ?_ | (refine sMm rfl rfl ?_; intro _) | (refine sRg rfl rfl ?_; intro _))
          have e1 : cI (outN C m (i + 1)).1 = cI (outN C m i).1 := by rw [hnx]
          have e4 : (((outN C m (i + 1)).2 : Nat) : Int) = ((outN C m i).2 : Int) := by rw [hnx]
          obtain ⟨s3, e2, e3⟩ := SlS.turn 3 e1.symm o
          exact jx_loop ⟨i + 1, s3⟩ hlt (by simp only [e2, e4]; exact sbB) (by simp only [e3]; exact suB) (by show m - (i + 1) < m - i; omega)
    · have hge : i = m := by have := of_decide_eq_false h; omega
      subst hge
      repeat (first | (refine wkB ?_; try intro _) | (refine sC rfl rfl ?_ ?_; focus (first | exact trivial | assumption | constructor <;> assumption | exact mb2 rfl rfl | exact mb4 rfl rfl rfl rfl)) | (refine sN rfl rfl ?_ ?_; (focus (first | exact trivial | assumption | constructor <;> assumption | exact mb2 rfl rfl | exact mb4 rfl rfl rfl rfl)); intro _; (try simp only [List.cons_append, List.nil_append, List.append_nil])) | refine sMu rfl ?_ | (refine sMm rfl rfl ?_; intro _) | (refine sRg rfl rfl ?_; intro _))
      exact jx_ret_tmp rfl rfl (fun w hw => ⟨o, rfl, hw.sub suB⟩)
end Go.Vt
/- The unit that contains an instant, found. Conditions: those that each statement names. -/
set_option linter.unusedSimpArgs false
set_option linter.unusedVariables false
set_option maxHeartbeats 2000000
set_option maxRecDepth 100000
namespace Go.Vt
open Go.RowKit Go.Proofs
/-- The first unit that does not end ahead of an instant. -/
structure Cut (us : List UL) (t : Rat) (k : Nat) : Prop where
  le : k ≤ us.length
  lo : ∀ j : Nat, j < k → (gi us (j : Int)).In.To.P < t
  hi : ∀ j : Nat, k ≤ j → j < us.length → t ≤ (gi us (j : Int)).In.To.P
end Go.Vt
/- The position of a moving point at a rational instant, where there is one. Conditions: those that each statement names. -/
set_option linter.unusedSimpArgs false
set_option linter.unusedVariables false
set_option maxHeartbeats 2000000
set_option maxRecDepth 100000
namespace Go.Vt
open Go.RowKit Go.Proofs
/-- What is found at an instant. -/
structure AtR (us : List UL) (t : Rat) (r : Option R_api_Line) : Prop where
  out : (∃ k : Nat, k < us.length ∧ (absU (gi us (k : Int))).mem t ∧ (∀ j : Nat, j < k → ¬ (absU (gi us (j : Int))).mem t) ∧ (∀ j : Nat, j ≤ k → (gi us (j : Int)).In.From.P ≤ t) ∧ r = some (gi us (k : Int)).F) ∨ ((∀ j : Nat, j < us.length → ¬ (absU (gi us (j : Int))).mem t) ∧ r = none)
end Go.Vt
/- Are integers and fractions in their canonical form? Walked, for any bytes. Conditions: the lengths that each statement names. -/
set_option linter.unusedSimpArgs false
set_option linter.unusedVariables false
set_option maxHeartbeats 2000000
set_option maxRecDepth 100000
namespace Go.Vt
open Go.RowKit Go.Proofs
/-- No zero with a sign, no zero byte ahead. -/
def icb (x : api_Int) : Bool := if x.Mag = ByteArray.empty then !x.Neg else !decide (x.Mag[0]? = some 0)
theorem list_top {l : List UInt8} (h : l[0]? ≠ some 0) : Top l.reverse := by
  intro b hb
  rw [List.getLast?_reverse] at hb
  intro h0
  subst h0
  refine h ?_
  cases l with
  | nil => cases hb
  | cons x r => simpa using hb
theorem bget (s : ByteArray) (i : Nat) : s[i]? = s.data.toList[i]? := by
  by_cases h : i < s.size
  · have h' : i < s.data.toList.length := h
    rw [getElem?_pos s i h, getElem?_pos s.data.toList i h']
    rfl
  · have h' : ¬ i < s.data.toList.length := h
    rw [getElem?_neg s i h, getElem?_neg s.data.toList i h']
theorem icb_iff {x : api_Int} : icb x = true ↔ ∃ a : Int, x = I a := by
  obtain ⟨n, s⟩ := x
  unfold icb
  simp only
  constructor
  · intro h
    have hc : Can s := by
      split at h
      · rename_i h0
        subst h0
        exact can_mag 0
      · rename_i h0
        simp only [Bool.not_eq_true', decide_eq_false_iff_not] at h
        exact list_top (by rw [← bget]; exact h)
    have hm := mag_vmag hc
    refine ⟨if n = true then -(vmag s : Int) else (vmag s : Int), ?_⟩
    unfold I
    cases n
    · simp only [Bool.false_eq_true, if_false, Int.natAbs_natCast, hm]
      rw [decide_eq_false (by omega)]
    · simp only [if_true, Int.natAbs_neg, Int.natAbs_natCast, hm]
      congr 1
      have hne : vmag s ≠ 0 := fun h0 => by
        rw [h0] at hm
        split at h
        · cases h
        · rename_i h1
          exact h1 (hm.symm.trans mag_zero)
      simp
      omega
  · rintro ⟨a, h⟩
    unfold I at h
    injection h with h1 h2
    subst h1
    subst h2
    split
    · rename_i h0
      have := mag_eq_empty.1 h0
      simp
      omega
    · rename_i h0
      simp only [Bool.not_eq_true', decide_eq_false_iff_not]
      intro h1
      have hc := can_mag a.natAbs
      rw [bget] at h1
      cases hl : (mag a.natAbs).data.toList with
      | nil => rw [hl] at h1; cases h1
      | cons y r =>
        rw [hl] at h1
        simp only [List.getElem?_cons_zero, Option.some.injEq] at h1
        unfold Can Top at hc
        rw [hl] at hc
        exact hc y (by simp) h1
theorem icb_I (a : Int) : icb (I a) = true := icb_iff.2 ⟨a, rfl⟩
instance sp_ICheckR (x : api_Int) : SpecC Tryz.prog 95 [.agg (e_api_Int x)] (.int .i64 (if icb x = true then 0 else 5)) True := ⟨fun _ w => by
  refine fn_intro Tryz.func95 rfl Tryz.ntmps95 rfl ?_
  repeat (refine wkB ?_; try intro _)
  by_cases h : x.Mag = ByteArray.empty
  · have e : icb x = !x.Neg := by unfold icb; rw [if_pos h]
    have hd := decide_eq_true (show x.Mag = ⟨#[]⟩ from h)
    rw [e]
    simp only [hd]
    repeat (refine wkB ?_; try intro _)
    rcases hN : x.Neg with _ | _
    · repeat (refine wkB ?_; try intro _)
      simp only [hd, Bool.not_true]
      repeat (refine wkB ?_; try intro _)
      exact jx_ret_tmp rfl rfl (fun w hw => ret_ok hw)
    · repeat (refine wkB ?_; try intro _)
      exact jx_ret_tmp rfl rfl (fun w hw => ret_ok hw)
  · have e : icb x = !decide (x.Mag[0]? = some 0) := by unfold icb; rw [if_neg h]
    have hd := decide_eq_false (show ¬ x.Mag = ⟨#[]⟩ from h)
    rw [e]
    simp only [hd]
    repeat (refine wkB ?_; try intro _)
    simp only [hd, Bool.not_false]
    repeat (refine wkB ?_; try intro _)
    obtain ⟨u, hu⟩ : ∃ u, x.Mag[0]? = some u := by
      rw [bget]
      cases hl : x.Mag.data.toList with
      | nil =>
        refine absurd ?_ h
        have h2 : x.Mag.data = #[] := by rw [← Array.toArray_toList (xs := x.Mag.data), hl]
        cases hx : x.Mag with
        | mk d =>
          rw [hx] at h2
          simp only at h2
          subst h2
          rfl
      | cons y r => exact ⟨y, rfl⟩
    refine jq (wl_index_str rfl rfl (by omega) (show x.Mag[(0 : Int).toNat]? = some u from hu)) rfl rfl ?_
    repeat (refine wkB ?_; try intro _)
    have hd : decide (((u.toNat : Nat) : Int) = 0) = decide (x.Mag[0]? = some 0) := by
      rw [hu, decide_eq_decide]
      simp only [Option.some.injEq]
      constructor
      · intro h0
        exact UInt8.toNat_inj.1 (by simpa using h0)
      · intro h0
        subst h0
        rfl
    rw [hd]
    rcases hq : decide (x.Mag[0]? = some 0) with _ | _
    · repeat (refine wkB ?_; try intro _)
      exact jx_ret_tmp rfl rfl (fun w hw => ret_ok hw)
    · repeat (refine wkB ?_; try intro _)
      exact jx_ret_tmp rfl rfl (fun w hw => ret_ok hw)⟩
/-- Is a fraction in its canonical form? -/
def rcb (x : api_Rat) : Bool := icb x.Num && (icb x.Den && (decide (x.Den = I 0) || (!decide (Lib.compareInt (ival x.Den) 1 ≤ 0) && decide ((Int.gcd (ival x.Num) (ival x.Den) : Int) = 1))))
where ival (x : api_Int) : Int := if x.Neg = true then -(vmag x.Mag : Int) else vmag x.Mag
theorem ival_I (a : Int) : rcb.ival (I a) = a := by
  unfold rcb.ival I
  simp only [vmag_mag, decide_eq_true_eq]
  split <;> omega
theorem rcb_iff {x : api_Rat} : rcb x = true ↔ ∃ q : Rat, x = Q q := by
  obtain ⟨n, d⟩ := x
  unfold rcb
  simp only [Bool.and_eq_true, Bool.or_eq_true, Bool.not_eq_true', decide_eq_true_eq, decide_eq_false_iff_not]
  constructor
  · rintro ⟨h1, h2, h3⟩
    obtain ⟨a, rfl⟩ := icb_iff.1 h1
    obtain ⟨b, rfl⟩ := icb_iff.1 h2
    rw [ival_I, ival_I, I_inj] at h3
    rcases h3 with rfl | ⟨h3, h4⟩
    · exact ⟨(a : Rat), (Q_int a)⟩
    · have hb : 1 < b := by
        unfold Lib.compareInt at h3
        split at h3
        · omega
        · split at h3 <;> omega
      have hc : Nat.Coprime a.natAbs b.natAbs := by
        have : Int.gcd a b = 1 := by omega
        exact this
      refine ⟨⟨a, b.natAbs, by omega, hc⟩, ?_⟩
      unfold Q dn
      simp only
      rw [if_neg (by omega)]
      congr 2
      omega
  · rintro ⟨q, h⟩
    unfold Q at h
    injection h with h1 h2
    subst h1
    subst h2
    refine ⟨icb_I _, icb_I _, ?_⟩
    rw [ival_I, ival_I, I_inj]
    have hp := q.den_pos
    by_cases hd : q.den = 1
    · exact .inl (dn_zero.2 hd)
    · have e : dn q = q.den := by unfold dn; rw [if_neg hd]
      refine .inr ⟨?_, ?_⟩
      · rw [e]
        unfold Lib.compareInt
        rw [if_neg (by omega), if_pos (by omega)]
        omega
      · rw [e]
        have hc := q.reduced
        have h0 : Int.gcd q.num (q.den : Int) = 1 := hc
        omega
theorem rcb_Q (q : Rat) : rcb (Q q) = true := rcb_iff.2 ⟨q, rfl⟩
theorem rcb_mk {n d : api_Int} : rcb ⟨n, d⟩ = (icb n && (icb d && (decide (d = I 0) || (!decide (Lib.compareInt (rcb.ival d) 1 ≤ 0) && decide ((Int.gcd (rcb.ival n) (rcb.ival d) : Int) = 1))))) := rfl
instance sp_RCheckR (x : api_Rat) : SpecC Tryz.prog 64 [.agg (e_api_Rat x)] (.int .i64 (if rcb x = true then 0 else 5)) (x.Num.Mag.size ≤ LIM ∧ x.Den.Mag.size ≤ LIM) := ⟨fun hp w => by
  obtain ⟨p1, p2⟩ := hp
  refine fn_intro Tryz.func64 rfl Tryz.ntmps64 rfl ?_
  repeat (refine wkB ?_; try intro _)
  rcases hn : icb x.Num with _ | _
  · rw [show rcb x = false by unfold rcb; rw [hn]; rfl]
    repeat (refine wkB ?_; try intro _)
    exact jx_ret_tmp rfl rfl (fun w hw => ret_ok hw)
  repeat (refine wkB ?_; try intro _)
  rcases hd : icb x.Den with _ | _
  · rw [show rcb x = false by unfold rcb; rw [hn, hd]; rfl]
    repeat (refine wkB ?_; try intro _)
    exact jx_ret_tmp rfl rfl (fun w hw => ret_ok hw)
  obtain ⟨a, ha⟩ := icb_iff.1 hn
  obtain ⟨b, hb⟩ := icb_iff.1 hd
  obtain ⟨n, d⟩ := x
  simp only at ha hb p1 p2 hn hd ⊢
  subst ha
  subst hb
  rw [rcb_mk, hn, hd, ival_I, ival_I, Bool.true_and, Bool.true_and]
  have hz : decide (I b = I 0) = decide (b = 0) := by rw [decide_eq_decide]; exact I_inj
  rw [hz]
  repeat (refine wkB ?_; try intro _)
  by_cases hb : b = 0
  · simp only [decide_eq_true hb]
    repeat (refine wkB ?_; try intro _)
    exact jx_ret_tmp rfl rfl (fun w hw => ret_ok hw)
  · simp only [decide_eq_false hb]
    repeat (refine wkB ?_; try intro _)
    refine jD 14 14 (h := ?_)
    (repeat (refine wkH ?_))
    rcases hc : decide (Lib.compareInt b 1 ≤ 0) with _ | _
    · (repeat (first | refine wkH ?_ | (refine tC rfl rfl ?_ ?_; focus (first | exact trivial | exact ⟨p1, p2⟩))))
      refine jh_nil ?_
      refine jn_nil ?_
      repeat (refine wkB ?_; try intro _)
      rcases hg : decide (((Int.gcd a b : Nat) : Int) = 1) with _ | _
      · repeat (refine wkB ?_; try intro _)
        exact jx_ret_tmp rfl rfl (fun w hw => ret_ok hw)
      · repeat (refine wkB ?_; try intro _)
        exact jx_ret_tmp rfl rfl (fun w hw => ret_ok hw)
    · (repeat (refine wkH ?_))
      refine jh_nil ?_
      refine jn_nil ?_
      repeat (refine wkB ?_; try intro _)
      exact jx_ret_tmp rfl rfl (fun w hw => ret_ok hw)⟩
instance (priority := high) sp_RCheck (q : Rat) : SpecC Tryz.prog 64 [vQ q] (.int .i64 0) (M q ≤ LQ) := ⟨fun hp w => by
  have h := (sp_RCheckR (Q q)).out ⟨?_, ?_⟩ w
  · rw [rcb_Q] at h
    exact h
  · have := Nat.le_trans (M_num q) hp
    exact Nat.le_trans this (by decide)
  · show (mag (dn q).natAbs).size ≤ LIM
    have h1 := Nat.le_trans (M_den q) hp
    unfold dn
    split
    · decide
    · exact Nat.le_trans h1 (by decide)⟩
end Go.Vt
/- The moving point through samples, walked. Conditions: those that each statement names. -/
set_option linter.unusedSimpArgs false
set_option linter.unusedVariables false
set_option maxHeartbeats 2000000
set_option maxRecDepth 100000
namespace Go.Vt
open Go.RowKit Go.Proofs
abbrev SS := R_movingpoint_Sample
class SumC (f g : Nat) (h : outParam Nat) : Prop where out : f + g = h
instance : SumC 4 4 8 := ⟨rfl⟩
instance : SumC 4 0 4 := ⟨rfl⟩
instance ys_rowFF {P : Program} {w0 : World} {n : Nat} {L : List Blk} {E : Env} {v : Value} {x : Operand} {T T0 : TypeId} {α : Type} [Inhabited α] {enc : α → Array Value} {k b f g s : Nat} {xs : List α} {sp : List Value} {i : Int} [IsC (evl E x) (.pointer (some ⟨b, 0 + i.toNat * k + f + g, none⟩))] [hs : SumC f g s] [h : AtC w0 L b (row enc xs sp) T0] [EncC enc k] [hv : LdC P T (enc (gi xs i)) s v] : YsC P w0 n L E (.load T x) v (i.toNat < xs.length) := ⟨fun hi _ _ _ _ _ => yl_loadA isE h.out (by
  have h1 := ldv_row (P := P) (T := T) (v := v) (enc := enc) (k := k) (sp := sp) (f := s) hi (by rw [← gi_eq hi]; exact hv.out)
  rw [Nat.add_assoc, hs.out, Nat.zero_add]
  exact h1)⟩
/-- The unit between two neighbours. -/
def sgU (pts : List SS) (i : Nat) : PU := ⟨⟨⟨(gi pts (i : Int)).T, 0, false⟩, ⟨(gi pts ((i + 1 : Nat) : Int)).T, 0, false⟩, decide ((1 : Int) < ((i + 1 : Nat) : Int)), false⟩, stl (gi pts (i : Int)) (gi pts ((i + 1 : Nat) : Int))⟩
def sgs (pts : List SS) : Nat → List PU
  | 0 => []
  | m + 1 => sgs pts m ++ [sgU pts m]
theorem sgs_len (pts : List SS) : ∀ m, (sgs pts m).length = m
  | 0 => rfl
  | m + 1 => by rw [sgs, List.length_append, sgs_len pts m]; rfl
theorem sgs_mem (pts : List SS) {u : PU} : ∀ m, u ∈ sgs pts m → ∃ i, i < m ∧ u = sgU pts i
  | 0, h => by cases h
  | m + 1, h => by
    rw [sgs] at h
    rcases List.mem_append.1 h with h1 | h1
    · obtain ⟨i, h3, h4⟩ := sgs_mem pts m h1
      exact ⟨i, by omega, h4⟩
    · rw [List.mem_singleton] at h1
      exact ⟨m, by omega, h1⟩
def one1 (p : SS) : PU := ⟨⟨⟨p.T, 0, false⟩, ⟨p.T, 0, false⟩, false, false⟩, ⟨p.P.X, 0, p.P.Y, 0⟩⟩
def frS (pts : List SS) : List PU := if pts.length = 1 then [one1 (gi pts 0)] else mNorm (sgs pts (pts.length - 1))
def frE (pts : List SS) : Int := if pts.length = 1 then 0 else nrmE (mpN toU (sgs pts (pts.length - 1)) (sgs pts (pts.length - 1)).length)
theorem mpN_mem {α β : Type} [Inhabited α] {f : α → β} {xs : List α} {y : β} : ∀ m, m ≤ xs.length → y ∈ mpN f xs m → ∃ x ∈ xs, y = f x
  | 0, _, h => by cases h
  | m + 1, hm, h => by
    rw [mpN] at h
    rcases List.mem_append.1 h with h1 | h1
    · exact mpN_mem m (by omega) h1
    · rw [List.mem_singleton] at h1
      exact ⟨_, gi_mem (by omega), h1⟩
theorem sgU_in {pts : List SS} (hB : Bnd pts) (i : Nat) : UIn (toU (sgU pts i)) := by
  obtain ⟨h1, h2, h3⟩ := hB (i : Int)
  obtain ⟨h4, h5, h6⟩ := hB ((i + 1 : Nat) : Int)
  have := MB.mk h1
  have := MB.mk h2
  have := MB.mk h3
  have := MB.mk h4
  have := MB.mk h5
  have := MB.mk h6
  exact ⟨⟨rfl, rfl, rfl, rfl, Nat.le_trans h1 (by decide), Nat.le_trans h4 (by decide)⟩, ⟨MB.lt (q := (stl (gi pts (i : Int)) (gi pts ((i + 1 : Nat) : Int))).X0) rfl, MB.lt (q := (stl (gi pts (i : Int)) (gi pts ((i + 1 : Nat) : Int))).X1) rfl, MB.lt (q := (stl (gi pts (i : Int)) (gi pts ((i + 1 : Nat) : Int))).Y0) rfl, MB.lt (q := (stl (gi pts (i : Int)) (gi pts ((i + 1 : Nat) : Int))).Y1) rfl⟩⟩
theorem sgs_in {pts : List SS} (hB : Bnd pts) (m : Nat) : ∀ u ∈ mpN toU (sgs pts m) (sgs pts m).length, UIn u := fun u hu => by
  obtain ⟨x, hx, rfl⟩ := mpN_mem _ (Nat.le_refl _) hu
  obtain ⟨i, -, rfl⟩ := sgs_mem pts m hx
  exact sgU_in hB i
set_option maxHeartbeats 1000000 in
theorem fromS_spec (b n c : Nat) (pts : List SS) (sp : List Value) (T : TypeId) (hn : pts.length = n) (h1 : 1 ≤ n) (h19 : n ≤ 19) (hB : Bnd pts) (hinc : ∀ i : Nat, i + 1 < n → (gi pts (i : Int)).T < (gi pts ((i + 1 : Nat) : Int)).T) (w : World) (hw : ∃ fz, w.heap[b]? = some (.cells (row rS pts sp) T fz)) :
    Calls Tryz.prog 35 [.slice (some ⟨b, 0, none⟩) n c].toArray w (RetM (SlS rP 36 (frS pts)) (fun s => .tuple #[vSl s, .int .i64 (frE pts)]) (fun s => mS 87 s) w) := by
  have := FoC.mk hw
  have hBd : ∀ i : Int, M (gi pts i).T ≤ LQ ∧ M (gi pts i).P.X ≤ LQ ∧ M (gi pts i).P.Y ≤ LQ := fun i => by
    obtain ⟨h1, h2, h3⟩ := hB i
    exact ⟨Nat.le_trans h1 (by decide), Nat.le_trans h2 (by decide), Nat.le_trans h3 (by decide)⟩
  refine fn_intro Tryz.func35 rfl Tryz.ntmps35 rfl ?_
  repeat (refine wkB ?_; try intro _)
  simp only [decide_eq_false (show ¬ (256 : Int) < (n : Int) by omega)]
  repeat (refine wkB ?_; try intro _)
  refine j_loop (S := Nat) (fun m => m ≤ n) (fun m => [(0, .slice (some ⟨b, 0, none⟩) n c), (3, .int .i64 0), (20, .slice (some ⟨b, 0, none⟩) n c), (21, .int .i64 n), (22, .int .i64 (m : Nat))]) (fun _ => []) (fun m => n - m) 0 (Nat.zero_le _) sbB slB (fun m hm => ?_)
  repeat (refine wkB ?_; try intro _)
  refine j_cond rfl (fun h => ?_) (fun h => ?_)
  · have hlt : m < n := by have := of_decide_eq_true h; omega
    repeat (first | (refine wkB ?_; try intro _) | (refine sC rfl rfl ?_ ?_; focus (first | exact (hBd _).1 | exact (hBd _).2.1 | exact (hBd _).2.2 | exact ⟨by omega, by omega⟩)) | (refine sN rfl rfl ?_ ?_; (focus (first | exact (hBd _).1 | exact (hBd _).2.1 | exact (hBd _).2.2 | exact ⟨by omega, by omega⟩)); intro _; (try simp only [List.cons_append, List.nil_append, List.append_nil])))
    exact jx_loop (m + 1) hlt sbB slB (by omega)
  · have hge : m = n := by have := of_decide_eq_false h; omega
    subst hge
    repeat (refine wkB ?_; try intro _)
    refine j_loop (S := Nat) (fun k => k ≤ m) (fun k => [(0, .slice (some ⟨b, 0, none⟩) m c), (3, .int .i64 0), (45, .slice (some ⟨b, 0, none⟩) m c), (46, .int .i64 m), (47, .int .i64 (k : Nat))]) (fun _ => []) (fun k => m - k) 0 (Nat.zero_le _) sbB slB (fun k hk => ?_)
    repeat (refine wkB ?_; try intro _)
    refine j_cond rfl (fun h => ?_) (fun h => ?_)
    · have hlt : k < m := by have := of_decide_eq_true h; omega
      repeat (refine wkB ?_; try intro _)
      rcases k with _ | k
      · (refine jD 17 17 (h := ?_); (repeat (refine wkH ?_)); refine jh_nil ?_; (repeat (refine wn_new ?_; intro _)); refine jn_nil ?_)
        repeat (first | (refine wkB ?_; try intro _) | (refine sC rfl rfl ?_ ?_; focus (exact ⟨by omega, by omega⟩)) | (refine sN rfl rfl ?_ ?_; (focus (exact ⟨by omega, by omega⟩)); intro _; (try simp only [List.cons_append, List.nil_append, List.append_nil])))
        exact jx_loop 1 hlt sbB slB (by omega)
      · have e1 : ((k + 1 : Nat) : Int) - 1 = (k : Int) := by omega
        refine jD 17 17 (h := ?_)
        (repeat (refine wkH ?_))
        simp only [decide_eq_true (show (0 : Int) < ((k + 1 : Nat) : Int) by omega), e1]
        (repeat (refine wkH ?_))
        simp only [e1]
        (repeat (first | refine wkH ?_ | (refine tC rfl rfl ?_ ?_; focus (exact ⟨(hBd _).1, (hBd _).1⟩))))
        refine jh_nil ?_
        refine jn_nil ?_
        have hcl : ¬ cq (gi pts ((k + 1 : Nat) : Int)).T (gi pts (k : Int)).T ≤ 0 := by
          rw [cq_le]
          have := hinc k hlt
          grind
        simp only [decide_eq_false hcl]
        repeat (first | (refine wkB ?_; try intro _) | (refine sC rfl rfl ?_ ?_; focus (exact ⟨by omega, by omega⟩)) | (refine sN rfl rfl ?_ ?_; (focus (exact ⟨by omega, by omega⟩)); intro _; (try simp only [List.cons_append, List.nil_append, List.append_nil])))
        exact jx_loop (k + 2) hlt sbB slB (by omega)
    · have hge : k = m := by have := of_decide_eq_false h; omega
      subst hge
      repeat (refine wkB ?_; try intro _)
      by_cases ho : k = 1
      · simp only [decide_eq_true (show (k : Int) = 1 by omega)]
        repeat (refine wkB ?_; try intro _)
        rename_i b7
        subst ho
        (refine j_late [0, 1, 2, 3, 4, 5, 6, 7, 8, 9, 10, 11, 12, 13, 14] [15, 16, 17] (_) (h := ?_); refine wkI ?_)
        (repeat (refine wkH ?_))
        refine jh_nil ?_
        repeat (refine wkT ?_; try intro _)
        repeat (refine wkB ?_; try intro _)
        rename_i b8
        have e1 : frS pts = [one1 (gi pts 0)] := by unfold frS; rw [if_pos hn]
        have e2 : frE pts = 0 := by unfold frE; rw [if_pos hn]
        obtain ⟨s', hv', hm'⟩ := SlS.put (enc := rP) (k := 36) (b := b8) (sp := []) (c := 1) (ys := frS pts) 87 (by rw [e1]; rfl) ⟨Nat.le_refl _, rfl⟩ Nat.one_pos
        refine jx_ret_two (v1 := vSl s') (v2 := .int .i64 (frE pts)) rfl (resv_tmp (by rw [hv']; rfl)) (resv_tmp (by rw [e2]; rfl)) (fun w hw => ⟨s', rfl, ?_⟩)
        dsimp only
        rw [hm', e1]
        exact hw.sub suB
      · simp only [decide_eq_false (show ¬ (k : Int) = 1 by omega)]
        repeat (refine wkB ?_; try intro _)
        refine j_loop (S := (m : Nat) × SlS rP 36 (sgs pts m)) (fun s => s.1 ≤ k - 1) (fun s => [(0, .slice (some ⟨b, 0, none⟩) k c), (8, vSl s.2), (9, .int .i64 ((s.1 + 1 : Nat)))]) (fun s => mS 87 s.2) (fun s => k - 1 - s.1) ⟨0, SlS.no⟩ (Nat.zero_le _) sbB slB (fun s hm => ?_)
        obtain ⟨m, s⟩ := s
        simp only at hm ⊢
        have hsl := sgs_len pts m
        repeat (refine wkB ?_; try intro _)
        refine j_cond rfl (fun h => ?_) (fun h => ?_)
        · have hlt : m + 1 < k := by have := of_decide_eq_true h; omega
          have e1 : ((m + 1 : Nat) : Int) - 1 = (m : Int) := by omega
          have hp : ∀ i : Int, M (gi pts i).T ≤ 34359738368 ∧ M (gi pts i).P.X ≤ 34359738368 ∧ M (gi pts i).P.Y ≤ 34359738368 := fun i => ⟨Nat.le_trans (hB i).1 (by decide), Nat.le_trans (hB i).2.1 (by decide), Nat.le_trans (hB i).2.2 (by decide)⟩
          repeat (refine wkB ?_; try intro _)
          (refine j_drawL [0, 1, 2, 3, 4, 5, 6, 7, 8] [9, 10] [11, 12] ([]) (h := ?_); refine wkI ?_)
          (repeat (refine wkH ?_))
          simp only [e1]
          repeat (refine wkT ?_; try intro _)
          repeat (first | (refine wkB ?_; try intro _) | (refine sC rfl rfl ?_ ?_; focus (first | exact ⟨(hp _).1, (hp _).2.1, (hp _).1, (hp _).2.1⟩ | exact ⟨(hp _).1, (hp _).2.2, (hp _).1, (hp _).2.2⟩)) | (refine sN rfl rfl ?_ ?_; (focus (first | exact ⟨(hp _).1, (hp _).2.1, (hp _).1, (hp _).2.1⟩ | exact ⟨(hp _).1, (hp _).2.2, (hp _).1, (hp _).2.2⟩)); intro _; (try simp only [List.cons_append, List.nil_append, List.append_nil])))
          refine jD 9 10 (h := ?_)
          (repeat (refine wkH ?_))
          refine jh_nil ?_
          (repeat (refine wn_new ?_; intro _))
          refine jn_nil ?_
          repeat (refine wkB ?_; try intro _)
          refine sU rfl rfl ?_ ?_ ?_ ?_
          · rfl
          · rfl
          · exact ⟨by decide, by omega, by omega⟩
          intro s'
          repeat (first | (refine wkB ?_; try intro _) | (refine sC rfl rfl ?_ ?_; focus (exact ⟨by omega, by omega⟩)) | (refine sN rfl rfl ?_ ?_; (focus (exact ⟨by omega, by omega⟩)); intro _; (try simp only [List.cons_append, List.nil_append, List.append_nil])))
          exact jx_loop ⟨m + 1, s'⟩ (by show m + 1 ≤ k - 1; omega) sbB suB (by show k - 1 - (m + 1) < k - 1 - m; omega)
        · have hge : m = k - 1 := by have := of_decide_eq_false h; omega
          subst hge
          repeat (first | (refine wkB ?_; try intro _) | (refine sC rfl rfl ?_ ?_; focus (first | exact trivial | exact ⟨by omega, sgs_in hB _⟩)) | (refine sN rfl rfl ?_ ?_; (focus (first | exact trivial | exact ⟨by omega, sgs_in hB _⟩)); intro _; (try simp only [List.cons_append, List.nil_append, List.append_nil])))
          rename_i s2
          have e1 : frS pts = mNorm (sgs pts (k - 1)) := by unfold frS; rw [if_neg (by omega), hn]
          have e2 : frE pts = nrmE (mpN toU (sgs pts (k - 1)) (sgs pts (k - 1)).length) := by unfold frE; rw [if_neg (by omega), hn]
          obtain ⟨s', hv', hm'⟩ := SlS.turn 87 e1.symm s2
          exact jx_ret_two (v1 := vSl s') (v2 := .int .i64 (frE pts)) rfl (resv_tmp (by rw [hv']; rfl)) (resv_tmp (by rw [e2]; rfl)) (fun w hw => ⟨s', rfl, by dsimp only; rw [hm']; exact hw.sub suB⟩)
end Go.Vt
/- The position of a moving point at a rational instant, walked. Conditions: those that each statement names. -/
set_option linter.unusedSimpArgs false
set_option linter.unusedVariables false
set_option maxHeartbeats 2000000
set_option maxRecDepth 100000
namespace Go.Vt
open Go.RowKit Go.Proofs
theorem AtR.mem {us : List UL} {t : Rat} {f : R_api_Line} (h : AtR us t (some f)) : ∃ u ∈ us, f = u.F := by
  rcases h.out with ⟨k, h1, -, -, -, h5⟩ | ⟨-, h2⟩
  · injection h5 with h5
    exact ⟨_, gi_mem (by omega), h5⟩
  · cases h2
end Go.Vt
/- What the moving point through samples says: plain. Conditions: those that each statement names. -/
set_option linter.unusedSimpArgs false
set_option linter.unusedVariables false
set_option maxHeartbeats 2000000
set_option maxRecDepth 100000
namespace Go.Vt
open Go.RowKit Go.Proofs
theorem nf_le {R : List UL} (h : NF (R.map absU)) {i j : Nat} (hij : i < j) (hj : j < R.length) : (absU (gi R (i : Int))).bfr (absU (gi R (j : Int))) := by
  have h1 := List.pairwise_iff_getElem.1 h.pw i j (by rw [List.length_map]; omega) (by rw [List.length_map]; omega) hij
  rw [List.getElem_map, List.getElem_map, ← gi_nat (by omega), ← gi_nat hj] at h1
  exact h1.bf
/-- The samples' times increase. -/
def Inc (pts : List SS) : Prop := ∀ i : Nat, i + 1 < pts.length → (gi pts (i : Int)).T < (gi pts ((i + 1 : Nat) : Int)).T
theorem Inc.lt {pts : List SS} (h : Inc pts) : ∀ {j i : Nat}, i < j → j < pts.length → (gi pts (i : Int)).T < (gi pts (j : Int)).T
  | 0, i, hij, _ => by omega
  | j + 1, i, hij, hj => by
    have h1 := h j hj
    rcases (by omega : i < j ∨ i = j) with h2 | h2
    · have := h.lt h2 (by omega)
      grind
    · subst h2; exact h1
theorem Inc.le {pts : List SS} (h : Inc pts) {i j : Nat} (hij : i ≤ j) (hj : j < pts.length) : (gi pts (i : Int)).T ≤ (gi pts (j : Int)).T := by
  rcases (by omega : i < j ∨ i = j) with h1 | h1
  · exact Rat.le_of_lt (h.lt h1 hj)
  · subst h1; exact Rat.le_refl
theorem sgs_gi (pts : List SS) : ∀ m (i : Nat), i < m → gi (sgs pts m) (i : Int) = sgU pts i
  | 0, i, h => by omega
  | m + 1, i, h => by
    have hl := sgs_len pts m
    rw [gi_nat (by rw [sgs_len]; exact h)]
    simp only [sgs]
    rcases (by omega : i < m ∨ i = m) with h1 | h1
    · rw [List.getElem_append_left (by omega), ← gi_nat (by omega)]
      exact sgs_gi pts m i h1
    · subst h1
      rw [List.getElem_append_right (by omega)]
      simp [hl]
/-- The straight ways as plain units. -/
def sgW (pts : List SS) (m : Nat) : List UL := mpN toU (sgs pts m) (sgs pts m).length
theorem sgW_map (pts : List SS) (m : Nat) : sgW pts m = (sgs pts m).map toU := mpN_all _ _
theorem sgW_len (pts : List SS) (m : Nat) : (sgW pts m).length = m := by rw [sgW_map, List.length_map, sgs_len]
theorem sgW_get {pts : List SS} {m i : Nat} (h : i < m) : gi (sgW pts m) (i : Int) = toU (sgU pts i) := by
  rw [gi_nat (by rw [sgW_len]; exact h)]
  simp only [sgW_map, List.getElem_map]
  rw [← gi_nat (by rw [sgs_len]; exact h), sgs_gi pts m i h]
theorem sgW_mem {pts : List SS} {m : Nat} {u : UL} (h : u ∈ sgW pts m) : ∃ i, i < m ∧ u = toU (sgU pts i) := by
  rw [sgW_map] at h
  obtain ⟨x, hx, rfl⟩ := List.mem_map.1 h
  obtain ⟨i, h1, rfl⟩ := sgs_mem pts m hx
  exact ⟨i, h1, rfl⟩
theorem sgW_val {pts : List SS} (hB : Bnd pts) (hi : Inc pts) {m : Nat} (hm : m + 1 ≤ pts.length) : UVal (sgW pts m) := by
  refine ⟨sgs_in hB m, fun u hu => ?_⟩
  obtain ⟨i, h1, rfl⟩ := sgW_mem hu
  exact .inl (hi i (by omega))
theorem sgW_pw {pts : List SS} (hB : Bnd pts) (hi : Inc pts) {m : Nat} (hm : m + 1 ≤ pts.length) : ((sgW pts m).map absU).Pairwise GU.bfr := by
  have hv := sgW_val hB hi hm
  refine pw_of_next (fun u hu => ?_) (fun i h => ?_)
  · obtain ⟨x, hx, rfl⟩ := List.mem_map.1 hu
    exact hv.v x hx
  · rw [List.length_map, sgW_len] at h
    rw [List.getElem_map, List.getElem_map, ← gi_nat (by rw [sgW_len]; omega), ← gi_nat (by rw [sgW_len]; exact h), sgW_get (by omega), sgW_get h]
    refine .inr ⟨rfl, .inr ?_⟩
    show decide ((1 : Int) < ((i + 1 + 1 : Nat) : Int)) = true
    exact decide_eq_true (by omega)
theorem toU_ofU (us : List UL) : mpN toU (mpN ofU us us.length) (mpN ofU us us.length).length = us := by
  rw [mpN_all, mpN_all, List.map_map]
  have : ∀ u ∈ us, (toU ∘ ofU) u = id u := fun u _ => rfl
  rw [List.map_congr_left this, List.map_id]
theorem mNorm_U (us : List PU) : mpN toU (mNorm us) (mNorm us).length = nrmR (mpN toU us us.length) := toU_ofU _
/-- The moving point through samples: no error, and what it says. -/
theorem frS_law {pts : List SS} (hB : Bnd pts) (hi : Inc pts) (h2 : 2 ≤ pts.length) : frE pts = 0 ∧ NF ((mpN toU (frS pts) (frS pts).length).map absU) ∧ (∀ u ∈ mpN toU (frS pts) (frS pts).length, UOk u) ∧ ∀ t v, Has ((mpN toU (frS pts) (frS pts).length).map absU) t v ↔ Has ((sgW pts (pts.length - 1)).map absU) t v := by
  have hv := sgW_val hB hi (m := pts.length - 1) (by omega)
  have hp := sgW_pw hB hi (m := pts.length - 1) (by omega)
  have hd : ((sgW pts (pts.length - 1)).map absU).Pairwise Dis := hp.imp fun h => h.Dis
  have e1 : frS pts = mNorm (sgs pts (pts.length - 1)) := by unfold frS; rw [if_neg (by omega)]
  have e2 : frE pts = nrmE (sgW pts (pts.length - 1)) := by unfold frE; rw [if_neg (by omega)]; rfl
  have e3 : mpN toU (frS pts) (frS pts).length = nrmR (sgW pts (pts.length - 1)) := by rw [e1, mNorm_U]; rfl
  obtain ⟨n1, n2⟩ := nrm_nf hv hd
  rw [e3]
  exact ⟨by rw [e2]; exact (nrmE_0 hv).2 hd, n1, nrmR_ok hv.i, n2⟩
end Go.Vt
/- A normal form has at most as many units as what it was made of. Conditions: those that each statement names. -/
set_option linter.unusedSimpArgs false
set_option linter.unusedVariables false
set_option maxHeartbeats 2000000
set_option linter.unusedSectionVars false
namespace Go.Vt
open Fv (va red)
section
variable {T F V : Type} [LE T] [LT T] [Std.LawfulOrderLT T] [Std.IsLinearOrder T] [Dns T] [Fv F T V] [DecidableEq T]
def Upw (xs : List (GU T F)) : Prop := ∀ u ∈ xs, u.a ≤ u.b
theorem Upw.snoc {xs : List (GU T F)} {u : GU T F} (h : Upw xs) (hu : u.a ≤ u.b) : Upw (xs ++ [u]) := fun w hw => by
  rcases List.mem_append.1 hw with h1 | h1
  · exact h w h1
  · rw [List.mem_singleton] at h1
    exact h1 ▸ hu
theorem Upw.init {xs : List (GU T F)} {u : GU T F} (h : Upw (xs ++ [u])) : Upw xs ∧ u.a ≤ u.b := ⟨fun w hw => h w (List.mem_append_left _ hw), h u (List.mem_append_right _ (.head _))⟩
theorem stp_upw {pv nx : Option (GU T F)} {xs xs' : List (GU T F)} {x : GU T F} (h : Stp pv nx xs x xs') (hx : x.a ≤ x.b) (hu : Upw xs) : Upw xs' ∧ xs'.length ≤ xs.length + 1 := by
  cases h with
  | ext h1 h2 h3 h4 h5 =>
    obtain ⟨h6, h7⟩ := hu.init
    exact ⟨h6.snoc (by simp only; grind), by simp⟩
  | appO h1 h2 h3 h4 => exact ⟨hu.snoc hx, by simp⟩
  | appN h1 h2 h3 => exact ⟨hu.snoc hx, by simp⟩
  | clo h1 h2 h3 h4 =>
    obtain ⟨h6, h7⟩ := hu.init
    exact ⟨h6.snoc h7, by simp⟩
  | lft h1 h2 h3 => exact ⟨hu, by simp⟩
  | rdc h1 h2 h3 => exact ⟨hu.snoc hx, by simp⟩
/-- An instant that the next part can take. -/
theorem stp_fst {pv : Option (GU T F)} {xs xs' : List (GU T F)} {x n : GU T F} (h : Stp pv (some n) xs x xs') (hi : x.a = x.b) (hn : n.a = x.a) (hf : n.f = x.f) (hu : Upw xs) : Upw xs' ∧ xs'.length ≤ xs.length := by
  cases h with
  | ext h1 => exact absurd hi h1
  | appO h1 => exact absurd hi h1
  | appN h1 => exact absurd hi h1
  | clo h1 h2 h3 h4 =>
    obtain ⟨h6, h7⟩ := hu.init
    exact ⟨h6.snoc h7, by simp⟩
  | lft h1 h2 h3 => exact ⟨hu, by simp⟩
  | rdc h1 h2 h3 => exact absurd ⟨n, rfl, hn, by rw [hf]⟩ h3
/-- A part that is long. -/
theorem stp_mid {pv nx : Option (GU T F)} {xs xs' : List (GU T F)} {x : GU T F} (h : Stp pv nx xs x xs') (hx : x.a < x.b) (hu : Upw xs) : Upw xs' ∧ xs'.length ≤ xs.length + 1 ∧ ∃ ys w, xs' = ys ++ [w] ∧ w.b = x.b ∧ w.f = x.f ∧ w.a ≠ w.b := by
  refine ⟨(stp_upw h (by grind) hu).1, (stp_upw h (by grind) hu).2, ?_⟩
  cases h with
  | ext h1 h2 h3 h4 h5 =>
    obtain ⟨h6, h7⟩ := hu.init
    exact ⟨_, _, rfl, rfl, h5, by simp only; grind⟩
  | appO h1 h2 h3 h4 => exact ⟨_, _, rfl, rfl, rfl, h1⟩
  | appN h1 h2 h3 => exact ⟨_, _, rfl, rfl, rfl, h1⟩
  | clo h1 => grind
  | lft h1 => grind
  | rdc h1 => grind
/-- An instant that the part before takes. -/
theorem stp_lst {pv nx : Option (GU T F)} {ys xs' : List (GU T F)} {x w : GU T F} (h : Stp pv nx (ys ++ [w]) x xs') (hi : x.a = x.b) (hb : w.b = x.a) (hf : w.f = x.f) (hl : w.a ≠ w.b) (hu : Upw (ys ++ [w])) : Upw xs' ∧ xs'.length ≤ (ys ++ [w]).length := by
  refine ⟨(stp_upw h (by grind) hu).1, ?_⟩
  generalize hz : ys ++ [w] = zs at *
  cases h with
  | ext h1 => exact absurd hi h1
  | appO h1 => exact absurd hi h1
  | appN h1 => exact absurd hi h1
  | clo h1 h2 h3 h4 => simp
  | lft h1 h2 h3 => exact Nat.le_refl _
  | rdc h1 h2 h3 => exact absurd (by rw [hf]) (h2 ys w hz.symm hb hl)
theorem mk_len : ∀ (us : List (GU T F)), (∀ u ∈ us, u.ok) → ∀ (pv : Option (GU T F)) (xs out : List (GU T F)), Upw xs → Mk pv xs (partsL us) out → out.length ≤ xs.length + us.length
  | [], _, pv, xs, out, _, h => by
    simp only [partsL, List.flatMap_nil] at h
    cases h with
    | nil => exact Nat.le_refl _
  | u :: us, hok, pv, xs, out, hu, h => by
    have hk := hok u (.head _)
    have hks : ∀ u ∈ us, u.ok := fun w hw => hok w (.tail _ hw)
    rw [partsL_cons] at h
    have go : ∀ (pv : Option (GU T F)) (zs : List (GU T F)), Upw zs → zs.length ≤ xs.length + 1 → Mk pv zs (partsL us) out → out.length ≤ xs.length + (u :: us).length := fun pv zs hz hl hm => by
      have := mk_len us hks pv zs out hz hm
      rw [List.length_cons]
      omega
    unfold GU.parts at h
    by_cases he : u.a = u.b
    · have ho : u.oa = false := by unfold GU.ok at hk; grind
      simp only [ho, he, if_true, Bool.false_eq_true, if_false, List.append_nil, List.cons_append, List.nil_append] at h
      cases h with
      | cons hs hm =>
        have h1 := stp_upw hs (by simp only; grind) hu
        exact go _ _ h1.1 h1.2 hm
    · have hlt : u.a < u.b := by unfold GU.ok at hk; grind
      have mid : ∀ (pv : Option (GU T F)) (zs : List (GU T F)), Upw zs → zs.length ≤ xs.length → Mk pv zs ((⟨u.a, u.b, true, true, u.f⟩ :: if u.ob = true then [] else [⟨u.b, u.b, false, false, u.f⟩]) ++ partsL us) out → out.length ≤ xs.length + (u :: us).length := fun pv zs hz hl hm => by
        rcases hb : u.ob with _ | _
        · simp only [hb, Bool.false_eq_true, if_false, List.cons_append, List.nil_append] at hm
          cases hm with
          | cons hs hm =>
            obtain ⟨h1, h2, ys, w, hw, h3, h4, h5⟩ := stp_mid hs hlt hz
            subst hw
            cases hm with
            | cons hs hm =>
              have h6 := stp_lst hs rfl h3 h4 h5 h1
              exact go _ _ h6.1 (by omega) hm
        · simp only [hb, if_true, List.cons_append, List.nil_append] at hm
          cases hm with
          | cons hs hm =>
            obtain ⟨h1, h2, _⟩ := stp_mid hs hlt hz
            exact go _ _ h1 (by omega) hm
      rcases ho : u.oa with _ | _
      · simp only [ho, he, Bool.false_eq_true, if_false, List.cons_append, List.nil_append] at h
        cases h with
        | cons hs hm =>
          simp only [List.head?_cons] at hs
          have h1 := stp_fst hs rfl rfl rfl hu
          exact mid _ _ h1.1 h1.2 (by simpa using hm)
      · simp only [ho, he, if_true, if_false, List.nil_append] at h
        exact mid _ _ hu (Nat.le_refl _) h
end
theorem nrmR_few {us : List UL} (h : UVal us) : (nrmR us).length ≤ us.length := by
  have hs := h.sor
  have hok : ∀ u ∈ (Go.Vt.sor us).map absU, u.ok := fun u hu => by
    obtain ⟨w, hw, rfl⟩ := List.mem_map.1 hu
    exact hs.v w hw
  have hall := atm_ok hs.i (Go.Vt.sor us).length (Nat.le_refl _)
  have hmk := mk_nrm hall _ 0 (Nat.zero_add _)
  have hparts : (atm (Go.Vt.sor us) (Go.Vt.sor us).length).map absU = partsL ((Go.Vt.sor us).map absU) := by
    have := atm_abs (fun u hu => (hs.i u hu).i) (Go.Vt.sor us).length (Nat.le_refl _)
    rw [List.take_length] at this
    exact this
  rw [List.drop_zero, hparts] at hmk
  have hl := mk_len _ hok _ _ _ (fun u hu => by cases hu) hmk
  have hp := (sor_perm us).length_eq
  simp only [nrm, List.map_nil, List.length_nil, Nat.zero_add, List.length_map] at hl
  unfold nrmR
  split
  · unfold allU
    omega
  · exact Nat.zero_le _
end Go.Vt
/- Plain mathematics: the program's table finds what the reference's search finds. Conditions: none. -/
set_option linter.unusedSimpArgs false
set_option linter.unusedVariables false
set_option maxHeartbeats 2000000
namespace Go.Vt
/-- 'k' is the least one of least cost among those that are enough, from 'a' on, below 'b'. -/
def Bst (ok : Nat → Bool) (c : Nat → Int) (a b k : Nat) : Prop := a ≤ k ∧ k < b ∧ ok k = true ∧ ∀ k', a ≤ k' → k' < b → ok k' = true → c k ≤ c k' ∧ (c k = c k' → k ≤ k')
theorem Bst.uniq {ok : Nat → Bool} {c : Nat → Int} {a b k j : Nat} (h : Bst ok c a b k) (g : Bst ok c a b j) : k = j := by
  obtain ⟨h1, h2, h3, h4⟩ := h
  obtain ⟨g1, g2, g3, g4⟩ := g
  have e1 := h4 j g1 g2 g3
  have e2 := g4 k h1 h2 h3
  have e3 : c k = c j := by omega
  have := e1.2 e3
  have := e2.2 e3.symm
  omega
variable {ok : Nat → Nat → Bool} {l i : Nat} {s : List Int × List Int}
end Go.Vt
/- The examples of the chapter, and the reference's best list. Conditions: those that each statement names. -/
set_option linter.unusedSimpArgs false
set_option linter.unusedVariables false
set_option maxHeartbeats 2000000
set_option maxRecDepth 100000
namespace Go.Vt
open Go.RowKit Go.Proofs
theorem bnd_of {pts : List R_movingpoint_Sample} (h : ∀ x ∈ pts, M x.T ≤ PB ∧ M x.P.X ≤ PB ∧ M x.P.Y ≤ PB) : Bnd pts := fun i => by
  by_cases hi : i.toNat < pts.length
  · rw [gi_eq hi]
    exact h _ (List.getElem_mem hi)
  · have : gi pts i = default := by unfold gi; simp only [List.getD_eq_getElem?_getD, List.getElem?_eq_none (by omega : pts.length ≤ i.toNat)]; rfl
    rw [this]
    exact ⟨by decide +kernel, by decide +kernel, by decide +kernel⟩
end Go.Vt
/- The trajectory through samples that are cut at gaps, plainly. Conditions: those that each statement names. -/
set_option linter.unusedSimpArgs false
set_option linter.unusedVariables false
set_option maxHeartbeats 2000000
set_option maxRecDepth 100000
set_option linter.unusedSectionVars false
namespace Go.Vt
open Go.RowKit Go.Proofs
open Fv (va red)
section
variable {T F V : Type} [LE T] [LT T] [Std.LawfulOrderLT T] [Std.IsLinearOrder T] [Dns T] [Fv F T V]
/-- Two normal forms, the second one behind the first one with a gap between. -/
theorem NF.gap {xs ys : List (GU T F)} (hx : NF xs) (hy : NF ys) (h : ∀ u ∈ xs, ∀ w ∈ ys, u.b < w.a) : NF (xs ++ ys) := by
  refine ⟨fun u hu => ?_, fun u hu => ?_, List.pairwise_append.2 ⟨hx.pw, hy.pw, fun u hu w hw => ?_⟩⟩
  · rcases List.mem_append.1 hu with h1 | h1
    · exact hx.ok u h1
    · exact hy.ok u h1
  · rcases List.mem_append.1 hu with h1 | h1
    · exact hx.rd u h1
    · exact hy.rd u h1
  · have h1 := h u hu w hw
    refine ⟨.inl h1, fun e => ?_, fun e => ?_, fun e => ?_⟩ <;> exfalso <;> grind
end
/-- What a list says lies between two instants: so do its units. -/
theorem within_of {l : List (GU Rat R_api_Line)} {a b : Rat} (ho : ∀ u ∈ l, u.ok) (h : ∀ t v, Has l t v → a ≤ t ∧ t ≤ b) : ∀ u ∈ l, a ≤ u.a ∧ u.b ≤ b := fun u hu => by
  have hm : ∀ t, u.mem t → a ≤ t ∧ t ≤ b := fun t ht => h t _ ⟨u, hu, ht, rfl⟩
  rcases ho u hu with h1 | ⟨h1, h2, h3⟩
  · refine ⟨?_, ?_⟩
    · rcases Std.le_total (a := a) (b := u.a) with h2 | h2
      · exact h2
      · rcases Classical.em (u.a = a) with h3 | h3
        · grind
        · obtain ⟨t, t1, t2, t3⟩ := dens2 (a := u.a) (b := u.b) (c := a) h1 (by grind)
          have := hm t ⟨.inl t1, .inl t2⟩
          grind
    · rcases Std.le_total (a := u.b) (b := b) with h2 | h2
      · exact h2
      · rcases Classical.em (u.b = b) with h3 | h3
        · grind
        · have hb : b < u.b := by grind
          rcases Std.le_total (a := u.a) (b := b) with h4 | h4
          · obtain ⟨t, t1, t2⟩ := Dns.out b u.b hb
            have := hm t ⟨.inl (by grind), .inl t2⟩
            grind
          · obtain ⟨t, t1, t2⟩ := Dns.out u.a u.b h1
            have := hm t ⟨.inl t1, .inl t2⟩
            grind
  · have := hm u.a ⟨.inr ⟨rfl, h2⟩, .inr ⟨h1, h3⟩⟩
    grind
theorem inc_le {pts : List SS} (h : Inc pts) : ∀ {i j : Nat}, i ≤ j → j < pts.length → (gi pts (i : Int)).T ≤ (gi pts (j : Int)).T
  | i, 0, h1, _ => by
    have : i = 0 := by omega
    subst this
    exact Rat.le_refl
  | i, j + 1, h1, h2 => by
    rcases Nat.lt_or_ge i (j + 1) with h3 | h3
    · have := inc_le h (i := i) (j := j) (by omega) (by omega)
      have := h j h2
      grind
    · have : i = j + 1 := by omega
      subst this
      exact Rat.le_refl
theorem mpU_map (l : List PU) : mpN toU l l.length = l.map toU := mpN_all _ _
abbrev aU (l : List PU) : List (GU Rat R_api_Line) := (l.map toU).map absU
/-- One part. -/
theorem frS_part {pts : List SS} (hB : Bnd pts) (hi : Inc pts) (hn : 0 < pts.length) : NF (aU (frS pts)) ∧ (∀ u ∈ frS pts, UOk (toU u)) ∧ ∀ u ∈ frS pts, (gi pts ((0 : Nat) : Int)).T ≤ u.In.From.P ∧ u.In.To.P ≤ (gi pts ((pts.length - 1 : Nat) : Int)).T := by
  rcases (by omega : pts.length = 1 ∨ 2 ≤ pts.length) with h1 | h1
  · have e : frS pts = [one1 (gi pts 0)] := by unfold frS; rw [if_pos h1]
    have hb := hB 0
    rw [e, h1]
    generalize gi pts 0 = p at *
    have hz : M 0 ≤ BQ := by decide
    refine ⟨NF.one (.inr ⟨rfl, rfl, rfl⟩) (fun _ => ?_), fun u hu => ?_, fun u hu => ?_⟩
    · show (⟨p.P.X, 0, p.P.Y, 0⟩ : R_api_Line) = lred ⟨p.P.X, 0, p.P.Y, 0⟩ p.T
      simp [lred, lin, Rat.mul_zero, Rat.add_zero]
    · rw [List.mem_singleton] at hu
      subst hu
      exact ⟨⟨rfl, rfl, rfl, rfl, Nat.le_trans hb.1 (by decide), Nat.le_trans hb.1 (by decide)⟩, ⟨Nat.le_trans hb.2.1 (by decide), hz, Nat.le_trans hb.2.2 (by decide), hz⟩⟩
    · rw [List.mem_singleton] at hu
      subst hu
      exact ⟨Rat.le_refl, Rat.le_refl⟩
  · obtain ⟨-, k1, k2, k3⟩ := frS_law hB hi h1
    rw [mpU_map] at k1 k2 k3
    refine ⟨k1, fun u hu => k2 _ (List.mem_map.2 ⟨u, hu, rfl⟩), fun u hu => ?_⟩
    refine within_of (l := aU (frS pts)) (a := (gi pts ((0 : Nat) : Int)).T) (b := (gi pts ((pts.length - 1 : Nat) : Int)).T) k1.ok (fun t v hh => ?_) (absU (toU u)) (List.mem_map.2 ⟨toU u, List.mem_map.2 ⟨u, hu, rfl⟩, rfl⟩)
    obtain ⟨g, hg, hm, -⟩ := (k3 t v).1 hh
    obtain ⟨w, hw, rfl⟩ := List.mem_map.1 hg
    obtain ⟨i, hi1, rfl⟩ := sgW_mem hw
    have q1 := inc_le hi (i := 0) (j := i) (by omega) (by omega)
    have q2 := inc_le hi (i := i + 1) (j := pts.length - 1) (by omega) (by omega)
    have m1 : (gi pts (i : Int)).T ≤ t := by
      rcases hm.1 with h | h
      · exact Rat.le_of_lt h
      · have e : (gi pts (i : Int)).T = t := h.1
        rw [e]
        exact Rat.le_refl
    have m2 : t ≤ (gi pts ((i + 1 : Nat) : Int)).T := by
      rcases hm.2 with h | h
      · exact Rat.le_of_lt h
      · have e : t = (gi pts ((i + 1 : Nat) : Int)).T := h.1
        rw [e]
        exact Rat.le_refl
    exact ⟨Rat.le_trans q1 m1, Rat.le_trans m2 q2⟩
def thrC (l : List SS) (g : Rat) (i : Nat) : Bool := decide (i + 1 < l.length) && !decide (g < (gi l ((i + 1 : Nat) : Int)).T - (gi l (i : Int)).T)
def thrN (l : List SS) (g : Rat) : Nat → List PU × List SS
  | 0 => ([], [])
  | i + 1 => if thrC l g i then ((thrN l g i).1, (thrN l g i).2 ++ [gi l (i : Int)]) else ((thrN l g i).1 ++ frS ((thrN l g i).2 ++ [gi l (i : Int)]), [])
theorem frS_few {pts : List SS} (hB : Bnd pts) (hi : Inc pts) (hn : 0 < pts.length) : (frS pts).length ≤ pts.length := by
  unfold frS
  split
  · rename_i h; rw [h]; simp
  · have := nrmR_few (sgW_val hB hi (m := pts.length - 1) (by omega))
    rw [sgW_len] at this
    have e : (mNorm (sgs pts (pts.length - 1))).length = (nrmR (sgW pts (pts.length - 1))).length := by
      have := congrArg List.length (mNorm_U (sgs pts (pts.length - 1)))
      rw [mpN_len] at this
      exact this
    omega
structure ThrOk (l : List SS) (i : Nat) (s : List PU × List SS) : Prop where
  r : s.2.length ≤ i
  run : s.2 = (l.drop (i - s.2.length)).take s.2.length
  nf : NF (aU s.1)
  k : ∀ u ∈ s.1, UOk (toU u)
  hi : ∀ u ∈ s.1, ∀ j, i - s.2.length ≤ j → j < l.length → u.In.To.P < (gi l (j : Int)).T
  n : s.1.length + s.2.length ≤ i
theorem part_of {l : List SS} {a r : Nat} (hB : Bnd l) (hi : Inc l) (h : a + r ≤ l.length) : Bnd ((l.drop a).take r) ∧ Inc ((l.drop a).take r) ∧ ∀ k, k < r → gi ((l.drop a).take r) (k : Int) = gi l ((a + k : Nat) : Int) := by
  have hl : ((l.drop a).take r).length = r := by rw [List.length_take, List.length_drop]; omega
  have hg : ∀ k, k < r → gi ((l.drop a).take r) (k : Int) = gi l ((a + k : Nat) : Int) := fun k hk => by
    rw [gi_nat (by omega), gi_nat (by omega), List.getElem_take, List.getElem_drop]
  refine ⟨bnd_of fun s hs => ?_, fun i h1 => ?_, hg⟩
  · have hm := List.mem_of_mem_drop (List.mem_of_mem_take hs)
    obtain ⟨k, hk, rfl⟩ := List.getElem_of_mem hm
    have := hB (k : Int)
    rwa [gi_nat hk] at this
  · rw [hl] at h1
    rw [hg i (by omega), hg (i + 1) h1]
    exact hi (a + i) (by omega)
theorem thr_ok {l : List SS} {g : Rat} (hB : Bnd l) (hi : Inc l) : ∀ i, i ≤ l.length → ThrOk l i (thrN l g i)
  | 0, _ => ⟨Nat.le_refl _, rfl, NF.nil, (fun u hu => by cases hu), (fun u hu => by cases hu), Nat.le_refl _⟩
  | i + 1, h => by
    have ih := thr_ok (g := g) hB hi i (by omega)
    simp only [thrN]
    generalize thrN l g i = s at ih
    obtain ⟨out, run⟩ := s
    obtain ⟨i1, i2, i3, i4, i5, i6⟩ := ih
    simp only at i1 i2 i3 i4 i5 i6 ⊢
    have er : run ++ [gi l (i : Int)] = (l.drop (i - run.length)).take (run.length + 1) := by
      rw [List.take_succ_eq_append_getElem (by rw [List.length_drop]; omega), ← i2, List.getElem_drop, gi_nat (by omega)]
      congr 2
      simp only [show i - run.length + run.length = i by omega]
    split
    · refine ⟨by simp only [List.length_append, List.length_singleton]; omega, ?_, i3, i4, fun u hu j h1 h2 => ?_, by simp only [List.length_append, List.length_singleton]; omega⟩
      · simp only [List.length_append, List.length_singleton, show i + 1 - (run.length + 1) = i - run.length by omega]
        exact er
      · simp only [List.length_append, List.length_singleton] at h1
        exact i5 u hu j (by omega) h2
    · obtain ⟨p1, p2, p3⟩ := part_of (a := i - run.length) (r := run.length + 1) hB hi (by omega)
      have hl : ((l.drop (i - run.length)).take (run.length + 1)).length = run.length + 1 := by rw [List.length_take, List.length_drop]; omega
      rw [er]
      obtain ⟨q1, q2, q3⟩ := frS_part p1 p2 (by omega)
      have q4 := frS_few p1 p2 (by omega)
      rw [hl] at q3 q4
      rw [p3 0 (by omega), p3 (run.length + 1 - 1) (by omega), show i - run.length + (run.length + 1 - 1) = i by omega, Nat.add_zero] at q3
      refine ⟨Nat.zero_le _, by simp, ?_, fun u hu => ?_, fun u hu j h1 h2 => ?_, ?_⟩
      · have e : aU (out ++ frS ((l.drop (i - run.length)).take (run.length + 1))) = aU out ++ aU (frS ((l.drop (i - run.length)).take (run.length + 1))) := by simp [aU]
        rw [e]
        refine i3.gap q1 fun u hu w hw => ?_
        obtain ⟨u1, hu1, rfl⟩ := List.mem_map.1 hu
        obtain ⟨u2, hu2, rfl⟩ := List.mem_map.1 hu1
        obtain ⟨w1, hw1, rfl⟩ := List.mem_map.1 hw
        obtain ⟨w2, hw2, rfl⟩ := List.mem_map.1 hw1
        have h1 := i5 u2 hu2 (i - run.length) (Nat.le_refl _) (by omega)
        have h2 := (q3 w2 hw2).1
        show u2.In.To.P < w2.In.From.P
        grind
      · rcases List.mem_append.1 hu with h3 | h3
        · exact i4 u h3
        · exact q2 u h3
      · simp only [List.length_nil, Nat.sub_zero] at h1
        rcases List.mem_append.1 hu with h3 | h3
        · exact i5 u h3 j (by omega) h2
        · have h4 := (q3 u h3).2
          have h5 := inc_le hi (i := i + 1) (j := j) h1 h2
          have h6 := hi i (by omega)
          grind
      · simp only [List.length_append, List.length_nil]
        omega
end Go.Vt
/- Facts about the decoded run. Conditions: those that each statement names. -/
set_option linter.unusedSimpArgs false
set_option linter.unusedVariables false
set_option maxHeartbeats 2000000
set_option maxRecDepth 100000
namespace Go.Vt
open Go.RowKit Go.Proofs
end Go.Vt
/- SimplifyDeviates, walked. Conditions: those that each statement names. -/
set_option linter.unusedSimpArgs false
set_option linter.unusedVariables false
set_option maxHeartbeats 2000000
set_option maxRecDepth 100000
namespace Go.Vt
open Go.RowKit Go.Proofs
instance sr_fromS (w0 : World) (L : List Blk) (b n c : Nat) (pts : List SS) (sp : List Value) (T : TypeId) [h : AtC w0 L b (row rS pts sp) T] : SpecR Tryz.prog w0 L 35 [.slice (some ⟨b, 0, none⟩) n c] (SlS rP 36 (frS pts)) (fun s => .tuple #[vSl s, .int .i64 (frE pts)]) (fun s => mS 87 s) ((pts.length = n ∧ 1 ≤ n ∧ n ≤ 19) ∧ Bnd pts ∧ Inc pts) := ⟨fun hp w hw =>
  fromS_spec b n c pts sp T hp.1.1 hp.1.2.1 hp.1.2.2 hp.2.1 (fun i hi => hp.2.2 i (by omega)) w (h.out w hw)⟩
end Go.Vt
/- The trajectory through reports, walked. Conditions: those that each statement names. -/
set_option linter.unusedSimpArgs false
set_option linter.unusedVariables false
set_option maxHeartbeats 2000000
set_option maxRecDepth 100000
namespace Go.Vt
open Go.RowKit Go.Proofs
instance sr_chain (w0 : World) (L : List Blk) (v : Value) (l : List R_intake_Timed) (s : api_Settings) [h : LstC w0 L v R_intake_Timed r_intake_Timed l] : SpecR Tryz.prog w0 L 12 [v, .agg (e_api_Settings s)] (SlS (eI .i64) 1 (cI (chainL (cCp s.MaxSpeed l) l.length))) (fun o => vSl o) (fun o => mS 3 o) (l.length ≤ 4096 ∧ (∀ x ∈ l, TkOk x) ∧ (-1048576 ≤ s.MaxSpeed ∧ s.MaxSpeed ≤ 1048576)) := ⟨fun hp w hw =>
  chain_spec v l s w (h.out w hw) hp.1 hp.2.1 hp.2.2⟩
theorem gi_mapT {α β : Type} [Inhabited α] [Inhabited β] {f : α → β} {xs : List α} {i : Nat} (h : i < xs.length) : gi (xs.map f) (i : Int) = f (gi xs (i : Int)) := by
  rw [gi_nat (by rw [List.length_map]; exact h), gi_nat h, List.getElem_map]
/-- A report as a sample. -/
def smT (x : R_intake_Timed) : SS := ⟨x.T, ptT x⟩
def spL (l : List R_intake_Timed) : List SS := l.map smT
theorem spL_len (l : List R_intake_Timed) : (spL l).length = l.length := List.length_map _
theorem spL_bnd {l : List R_intake_Timed} (h : ∀ x ∈ l, TkOk x) : Bnd (spL l) := bnd_of fun x hx => by
  obtain ⟨y, hy, rfl⟩ := List.mem_map.1 hx
  have h1 := h y hy
  exact ⟨Nat.le_trans h1.t (by decide), Nat.le_trans (pt_M h1).1 (by decide), Nat.le_trans (pt_M h1).2 (by decide)⟩
theorem thrC_eq {l : List R_intake_Timed} {g : Int} {i : Nat} (h : i < l.length) : thrC (spL l) (g : Rat) i = (decide (i + 1 < l.length) && !farT g (gi l (i : Int)) (gi l ((i + 1 : Nat) : Int))) := by
  unfold thrC farT
  rw [spL_len]
  by_cases h1 : i + 1 < l.length
  · rw [show gi (spL l) (i : Int) = smT (gi l (i : Int)) from gi_mapT (f := smT) h, show gi (spL l) ((i + 1 : Nat) : Int) = smT (gi l ((i + 1 : Nat) : Int)) from gi_mapT (f := smT) h1]
    rfl
  · rw [decide_eq_false h1, Bool.false_and, Bool.false_and]
abbrev thrT (l : List R_intake_Timed) (g : Int) (i : Nat) : List PU × List SS := thrN (spL l) (g : Rat) i
set_option maxHeartbeats 8000000 in
theorem thr_spec (v : Value) (l : List R_intake_Timed) (s : api_Settings) (w : World) (hv : ArgS w v r_intake_Timed l) (hl : l.length ≤ 19) (hok : ∀ x ∈ l, TkOk x) (hinc : Inc (spL l)) (hs : -2147483648 ≤ s.MaxGap ∧ s.MaxGap ≤ 2147483648) :
    Calls Tryz.prog 15 [v, .agg (e_api_Settings s)].toArray w (RetM (SlS rP 36 (thrT l s.MaxGap l.length).1) (fun o => vSl o) (fun o => mS 87 o) w) := by
  obtain ⟨p, cp, rfl⟩ := hv.form
  generalize hn : l.length = n at *
  have hgo : ∀ i : Nat, i < n → TkOk (gi l (i : Int)) := fun i hi => hok _ (gi_mem (by omega))
  have hO := fun i (hi : i ≤ n) => thr_ok (g := (s.MaxGap : Rat)) (spL_bnd hok) hinc i (by rw [spL_len]; omega)
  refine fn_intro Tryz.func15 rfl Tryz.ntmps15 rfl ?_
  repeat (first | (refine wkB ?_; try intro _) | (refine sC rfl rfl ?_ ?_; focus (first | exact trivial | assumption | constructor <;> assumption | exact mb2 rfl rfl | exact mb4 rfl rfl rfl rfl)) | (refine sN rfl rfl ?_ ?_; (focus (first | exact trivial | assumption | constructor <;> assumption | exact mb2 rfl rfl | exact mb4 rfl rfl rfl rfl)); intro _; (try simp only [List.cons_append, List.nil_append, List.append_nil])) | refine sMu rfl ?_ | (refine sMm rfl rfl ?_; intro _) | (refine sRg rfl rfl ?_; intro _))
  rename_i b3
  refine j_loop (S := (i : Nat) × (th : List PU × List SS) × SlS rP 36 th.1 × SlS rS 12 th.2) (fun q => q.1 ≤ n ∧ q.2.1 = thrT l s.MaxGap q.1) (fun q => [(0, .slice p n cp), (3, .pointer (some ⟨b3, 0, none⟩)), (5, vSl q.2.2.1), (6, vSl q.2.2.2), (11, .slice p n cp), (12, .int .i64 n), (13, .int .i64 (q.1 : Nat))]) (fun q => mS 91 q.2.2.2 ++ (mS 87 q.2.2.1 ++ [⟨b3, e_api_Settings s, 26⟩])) (fun q => n - q.1) ⟨0, ([], []), SlS.no, SlS.no⟩ ⟨Nat.zero_le _, rfl⟩ sbB suB (fun q hq => ?_)
  obtain ⟨i, ⟨out, run⟩, o, r⟩ := q
  obtain ⟨hq, hth⟩ := hq
  simp only at hq hth o r ⊢
  have hi := hO i hq
  have hnx : thrT l s.MaxGap (i + 1) = if thrC (spL l) (s.MaxGap : Rat) i then ((thrT l s.MaxGap i).1, (thrT l s.MaxGap i).2 ++ [gi (spL l) (i : Int)]) else ((thrT l s.MaxGap i).1 ++ frS ((thrT l s.MaxGap i).2 ++ [gi (spL l) (i : Int)]), []) := rfl
  rw [show thrN (spL l) (s.MaxGap : Rat) i = (out, run) from hth.symm] at hi
  rw [← hth] at hnx
  have hrn : run.length ≤ i := hi.r
  have hon : out.length + run.length ≤ i := hi.n
  repeat (first | (refine wkB ?_; try intro _) | (refine sC rfl rfl ?_ ?_; focus (first | exact trivial | assumption | constructor <;> assumption | exact mb2 rfl rfl | exact mb4 rfl rfl rfl rfl)) | (refine sN rfl rfl ?_ ?_; (focus (first | exact trivial | assumption | constructor <;> assumption | exact mb2 rfl rfl | exact mb4 rfl rfl rfl rfl)); intro _; (try simp only [List.cons_append, List.nil_append, List.append_nil])) | refine sMu rfl ?_ | (refine sMm rfl rfl ?_; intro _) | (refine sRg rfl rfl ?_; intro _))
  refine j_cond rfl (fun h => ?_) (fun h => ?_)
  · have hlt : i < n := by have := of_decide_eq_true h; omega
    have hrun : run ++ [gi (spL l) (i : Int)] = ((spL l).drop (i - run.length)).take (run.length + 1) := by
      have e : run = ((spL l).drop (i - run.length)).take run.length := hi.run
      rw [List.take_succ_eq_append_getElem (by rw [List.length_drop, spL_len]; omega), ← e]
      rw [List.getElem_drop, gi_nat (by rw [spL_len]; omega)]
      congr 2
      simp only [show i - run.length + run.length = i by omega]
    obtain ⟨p1, p2, -⟩ := part_of (a := i - run.length) (r := run.length + 1) (spL_bnd hok) hinc (by rw [spL_len]; omega)
    rw [← hrun] at p1 p2
    have hCC := thrC_eq (g := s.MaxGap) (i := i) (l := l) (by omega)
    have hsm : gi (spL l) (i : Int) = smT (gi l (i : Int)) := gi_mapT (f := smT) (by omega)
    rw [hsm] at hnx p1 p2
    have hlen : (run ++ [smT (gi l (i : Int))]).length = run.length + 1 := by simp
    have hfew := frS_few p1 p2 (by omega)
    have hne : l ≠ [] := fun h0 => by rw [h0] at hn; simp at hn; omega
    obtain ⟨bw, ow, cw, hvw, hcw, hrow⟩ := hv.blk (k := 11) hne []
    injection hvw with e1 e2 e3
    subst e1
    subst e3
    have hrow' : ∀ L, RowC w L bw ow R_intake_Timed r_intake_Timed l := fun L => ⟨fun w' hw' => hrow.out w' (hw'.sub (List.nil_sublist _))⟩
    have k1 := hgo i hlt
    repeat (first | (refine wkB ?_; try intro _) | (refine sC rfl rfl ?_ ?_; focus (first | exact trivial | assumption | constructor <;> assumption | exact mb2 rfl rfl | exact mb4 rfl rfl rfl rfl)) | (refine sN rfl rfl ?_ ?_; (focus (first | exact trivial | assumption | constructor <;> assumption | exact mb2 rfl rfl | exact mb4 rfl rfl rfl rfl)); intro _; (try simp only [List.cons_append, List.nil_append, List.append_nil])) | refine sMu rfl ?_ | (refine sMm rfl rfl ?_; intro _) | (refine sRg rfl rfl ?_; intro _))
    rename_i b8
    (refine j_tree (.v [0, 1, 2, 3, 4, 5] (.e1 6 (.e1 7 (.e1 8 (.fin))))) ([⟨b8, e_intake_Timed (q_intake_Timed (gi l (i : Int))), 36⟩]) (h := ?_); refine wkX ?_)
    (repeat (first | refine wkH ?_ | (refine tC rfl rfl ?_ ?_; focus (exact k1))))
    repeat (refine wkT ?_; try intro _)
    refine eU rfl rfl ?_ ?_ ?_ ?_
    · rfl
    · rfl
    · exact ⟨by decide, by omega, by omega⟩
    intro r'
    repeat (refine wkT ?_; try intro _)
    have hr' : ∃ r2 : SlS rS 12 (run ++ [smT (gi l (i : Int))]), vSl r2 = vSl r' ∧ ∀ T, mS T r2 = mS T r' := r'.like rfl
    obtain ⟨r2, hr2, hm2⟩ := hr'
    rw [← hr2]
    simp only [← hm2]
    clear hr2 hm2
    generalize smT (gi l (i : Int)) = x at *
    repeat (first | (refine wkB ?_; try intro _) | (refine sC rfl rfl ?_ ?_; focus (first | exact trivial | assumption | constructor <;> assumption | exact mb2 rfl rfl | exact mb4 rfl rfl rfl rfl)) | (refine sN rfl rfl ?_ ?_; (focus (first | exact trivial | assumption | constructor <;> assumption | exact mb2 rfl rfl | exact mb4 rfl rfl rfl rfl)); intro _; (try simp only [List.cons_append, List.nil_append, List.append_nil])) | refine sMu rfl ?_ | (refine sMm rfl rfl ?_; intro _) | (refine sRg rfl rfl ?_; intro _))
    rename_i bx
    refine j_cut (S := Bool) (fun q => q = thrC (spL l) (s.MaxGap : Rat) i) (fun q => [(0, .slice (some ⟨bw, ow, none⟩) n cp), (3, .pointer (some ⟨b3, 0, none⟩)), (5, vSl o), (6, vSl r2), (11, .slice (some ⟨bw, ow, none⟩) n cp), (12, .int .i64 n), (13, .int .i64 (i : Nat)), (41, .bool q)]) (fun _ => mS 91 r2 ++ (mS 87 o ++ [⟨b3, e_api_Settings s, 26⟩])) ?_ (fun q hq2 => ?_)
    · by_cases c1 : i + 1 < n
      · rw [decide_eq_true (show i + 1 < l.length by omega), Bool.true_and] at hCC
        have k2 := hgo (i + 1) c1
        refine jD 16 16 (h := ?_)
        (repeat (refine wkH ?_))
        simp only [decide_eq_true (show (i : Int) + 1 < (n : Int) by omega)]
        (repeat (first | refine wkH ?_ | (refine tC rfl rfl ?_ ?_; focus (exact ⟨k1, k2, hs⟩))))
        refine jh_nil ?_
        refine jn_nil ?_
        repeat (first | (refine wkB ?_; try intro _) | (refine sC rfl rfl ?_ ?_; focus (first | exact trivial | assumption | constructor <;> assumption | exact mb2 rfl rfl | exact mb4 rfl rfl rfl rfl)) | (refine sN rfl rfl ?_ ?_; (focus (first | exact trivial | assumption | constructor <;> assumption | exact mb2 rfl rfl | exact mb4 rfl rfl rfl rfl)); intro _; (try simp only [List.cons_append, List.nil_append, List.append_nil])) | refine sMu rfl ?_ | (refine sMm rfl rfl ?_; intro _) | (refine sRg rfl rfl ?_; intro _))
        exact jx_mid _ hCC.symm sbB suB
      · rw [decide_eq_false (show ¬ i + 1 < l.length by omega), Bool.false_and] at hCC
        refine jD 16 16 (h := ?_)
        (repeat (refine wkH ?_))
        simp only [decide_eq_false (show ¬ (i : Int) + 1 < (n : Int) by omega)]
        (repeat (refine wkH ?_))
        refine jh_nil ?_
        refine jn_nil ?_
        repeat (first | (refine wkB ?_; try intro _) | (refine sC rfl rfl ?_ ?_; focus (first | exact trivial | assumption | constructor <;> assumption | exact mb2 rfl rfl | exact mb4 rfl rfl rfl rfl)) | (refine sN rfl rfl ?_ ?_; (focus (first | exact trivial | assumption | constructor <;> assumption | exact mb2 rfl rfl | exact mb4 rfl rfl rfl rfl)); intro _; (try simp only [List.cons_append, List.nil_append, List.append_nil])) | refine sMu rfl ?_ | (refine sMm rfl rfl ?_; intro _) | (refine sRg rfl rfl ?_; intro _))
        exact jx_mid false hCC.symm sbB suB
    · subst hq2
      cases hc : thrC (spL l) (s.MaxGap : Rat) i
      · rw [hc, if_neg (by decide)] at hnx
        rcases r2.cases 91 with ⟨x0, x1, x2⟩ | ⟨bo, co, sp, hc1, x1, x2, xne⟩
        · exact absurd (congrArg List.length x0) (by rw [hlen]; exact Nat.succ_ne_zero _)
        simp only [x1, x2, List.cons_append, List.nil_append]
        repeat (first | (refine wkB ?_; try intro _) | (refine sC rfl rfl ?_ ?_; focus (exact ⟨⟨rfl, by omega, by omega⟩, p1, p2⟩)) | (refine sN rfl rfl ?_ ?_; (focus (exact ⟨⟨rfl, by omega, by omega⟩, p1, p2⟩)); intro _; (try simp only [List.cons_append, List.nil_append, List.append_nil])) | refine sMu rfl ?_ | (refine sMm rfl rfl ?_; intro _) | (refine sRg rfl rfl ?_; intro _))
        rename_i fs
        refine sV rfl rfl ?_ ?_ ?_
        · rfl
        · exact ⟨by omega, by omega⟩
        intro o'
        repeat (first | (refine wkB ?_; try intro _) | (refine sC rfl rfl ?_ ?_; focus (exact ⟨by omega, by omega⟩)) | (refine sN rfl rfl ?_ ?_; (focus (exact ⟨by omega, by omega⟩)); intro _; (try simp only [List.cons_append, List.nil_append, List.append_nil])) | refine sMu rfl ?_ | (refine sMm rfl rfl ?_; intro _) | (refine sRg rfl rfl ?_; intro _))
        exact jx_loop ⟨i + 1, (out ++ frS (run ++ [x]), []), o', SlS.no⟩ ⟨hlt, hnx.symm⟩ sbB suB (by show n - (i + 1) < n - i; omega)
      · rw [hc, if_pos rfl] at hnx
        repeat (first | (refine wkB ?_; try intro _) | (refine sC rfl rfl ?_ ?_; focus (exact ⟨by omega, by omega⟩)) | (refine sN rfl rfl ?_ ?_; (focus (exact ⟨by omega, by omega⟩)); intro _; (try simp only [List.cons_append, List.nil_append, List.append_nil])) | refine sMu rfl ?_ | (refine sMm rfl rfl ?_; intro _) | (refine sRg rfl rfl ?_; intro _))
        exact jx_loop ⟨i + 1, (out, run ++ [x]), o, r2⟩ ⟨hlt, hnx.symm⟩ sbB suB (by show n - (i + 1) < n - i; omega)
  · have hge : i = n := by have := of_decide_eq_false h; omega
    subst hge
    rw [← hth]
    repeat (first | (refine wkB ?_; try intro _) | (refine sC rfl rfl ?_ ?_; focus (first | exact trivial | assumption | constructor <;> assumption | exact mb2 rfl rfl | exact mb4 rfl rfl rfl rfl)) | (refine sN rfl rfl ?_ ?_; (focus (first | exact trivial | assumption | constructor <;> assumption | exact mb2 rfl rfl | exact mb4 rfl rfl rfl rfl)); intro _; (try simp only [List.cons_append, List.nil_append, List.append_nil])) | refine sMu rfl ?_ | (refine sMm rfl rfl ?_; intro _) | (refine sRg rfl rfl ?_; intro _))
    exact jx_ret_tmp rfl rfl (fun w hw => ⟨o, rfl, hw.sub suB⟩)
instance sr_through (w0 : World) (L : List Blk) (v : Value) (l : List R_intake_Timed) (s : api_Settings) [h : LstC w0 L v R_intake_Timed r_intake_Timed l] : SpecR Tryz.prog w0 L 15 [v, .agg (e_api_Settings s)] (SlS rP 36 (thrT l s.MaxGap l.length).1) (fun o => vSl o) (fun o => mS 87 o) (l.length ≤ 19 ∧ (∀ x ∈ l, TkOk x) ∧ Inc (spL l) ∧ (-2147483648 ≤ s.MaxGap ∧ s.MaxGap ≤ 2147483648)) := ⟨fun hp w hw =>
  thr_spec v l s w (h.out w hw) hp.1 hp.2.1 hp.2.2.1 hp.2.2.2⟩
end Go.Vt
/- The reports of a chain; the gaps between them. Conditions: those that each statement names. -/
set_option linter.unusedSimpArgs false
set_option linter.unusedVariables false
set_option maxHeartbeats 2000000
set_option maxRecDepth 100000
namespace Go.Vt
open Go.RowKit Go.Proofs
/-- The reports of the chain. -/
def kpT (v : Int) (l : List R_intake_Timed) : List R_intake_Timed := (chainL (cCp v l) l.length).map fun k : Nat => gi l (k : Int)
theorem kpT_len (v : Int) (l : List R_intake_Timed) : (kpT v l).length = (chainL (cCp v l) l.length).length := List.length_map _
/-- Reports of an object that count, with times, and lengths that do. -/
structure KtOk (o v : Int) (l : List (api_Report × Bool)) : Prop where
  n : l.length ≤ 12
  c : ∀ r ∈ cntR (sorted (pKR l)), CntOk o r
  t : ∀ x ∈ tmS (cntR (sorted (pKR l))), TkOk x
  v : -1048576 ≤ v ∧ v ≤ 1048576
theorem KtOk.len {o v : Int} {l : List (api_Report × Bool)} (h : KtOk o v l) : (tmS (cntR (sorted (pKR l)))).length ≤ 12 := by
  have h0 := h.n
  have h1 := (winR_ok (sorted (pKR l))).len
  have h2 := cntL_len (winR (sorted (pKR l)))
  rw [tmS_len]
  unfold cntR
  rw [sorted_len]
  rw [sorted_len, List.length_map] at h1
  omega
theorem outN_few (C : Nat → Nat → Bool) (n : Nat) : ∀ i, (outN C n i).1.length ≤ i
  | 0 => Nat.le_refl _
  | i + 1 => by
    have := outN_few C n i
    rw [show outN C n (i + 1) = outS C n (outN C n i) i from rfl]
    unfold outS
    split
    · rw [List.length_append, List.length_singleton]; omega
    · omega
theorem chainL_few (C : Nat → Nat → Bool) (n : Nat) : (chainL C n).length ≤ n := outN_few C n n
theorem chainL_rng {C : Nat → Nat → Bool} {n : Nat} {k : Nat} (h : k ∈ chainL C n) : k < n := chainL_lt C n k h
set_option maxHeartbeats 8000000 in
theorem keptOf_spec (w0 w : World) (L : List Blk) (px : Nat) (l : List (api_Report × Bool)) (o : Int) (s : api_Settings) [h : InkC w0 L px l] (hw : Own w0 L w) (hk : KtOk o s.MaxSpeed l) :
    Calls Tryz.prog 57 [.pointer (some ⟨px, 0, none⟩), .int .i64 o, .agg (e_api_Settings s)].toArray w (RetM (SlS r_intake_Timed 12 (kpT s.MaxSpeed (tmS (cntR (sorted (pKR l)))))) (fun s => .tuple #[vSl s, .int .i64 0]) (fun s => mS 36 s) w) := by
  have hl := hk.len
  have hk1 : l.length ≤ 12 ∧ ∀ r ∈ cntR (sorted (pKR l)), CntOk o r := ⟨hk.n, hk.c⟩
  have hin := h.all hw
  refine fn_intro Tryz.func57 rfl Tryz.ntmps57 rfl ?_
  have hk2 : (tmS (cntR (sorted (pKR l)))).length ≤ 4096 ∧ (∀ x ∈ tmS (cntR (sorted (pKR l))), TkOk x) ∧ (-1048576 ≤ s.MaxSpeed ∧ s.MaxSpeed ≤ 1048576) := ⟨by omega, hk.t, hk.v⟩
  repeat (first | (refine wkB ?_; try intro _) | (refine sC rfl rfl ?_ ?_; focus (first | exact hk1 | exact hk2)) | (refine sN rfl rfl ?_ ?_; (focus (first | exact hk1 | exact hk2)); intro _; (try simp only [List.cons_append, List.nil_append, List.append_nil])) | refine sMu rfl ?_ | (refine sMm rfl rfl ?_; intro _) | (refine sRg rfl rfl ?_; intro _))
  rename_i b5 s1 ch
  generalize hT : tmS (cntR (sorted (pKR l))) = T at *
  have hcn := chainL_few (cCp s.MaxSpeed T) T.length
  have hcl := fun k (h : k ∈ chainL (cCp s.MaxSpeed T) T.length) => chainL_rng h
  have hkp : kpT s.MaxSpeed T = (chainL (cCp s.MaxSpeed T) T.length).map fun k : Nat => gi T (k : Int) := rfl
  generalize chainL (cCp s.MaxSpeed T) T.length = C at *
  have hCl := cI_len C
  refine j_loop (S := (m : Nat) × SlS r_intake_Timed 12 ((C.take m).map fun k : Nat => gi T (k : Int))) (fun q => q.1 ≤ C.length) (fun q => [(8, vSl s1), (9, .int .i64 0), (10, vSl q.2), (21, vSl ch), (22, .int .i64 ((cI C).length : Nat)), (23, .int .i64 (q.1 : Nat))]) (fun q => mS 36 q.2 ++ (mS 3 ch ++ (mS 36 s1 ++ [⟨b5, e_api_Settings s, 26⟩]))) (fun q => C.length - q.1) ⟨0, SlS.no⟩ (Nat.zero_le _) sbB suB (fun q hq => ?_)
  obtain ⟨m, q⟩ := q
  simp only at hq ⊢
  have hml : ((C.take m).map fun k : Nat => gi T (k : Int)).length = m := by rw [List.length_map, List.length_take]; omega
  repeat (first | (refine wkB ?_; try intro _) | (refine sC rfl rfl ?_ ?_; focus (first | exact trivial | assumption | constructor <;> assumption | exact mb2 rfl rfl | exact mb4 rfl rfl rfl rfl)) | (refine sN rfl rfl ?_ ?_; (focus (first | exact trivial | assumption | constructor <;> assumption | exact mb2 rfl rfl | exact mb4 rfl rfl rfl rfl)); intro _; (try simp only [List.cons_append, List.nil_append, List.append_nil])) | refine sMu rfl ?_ | (refine sMm rfl rfl ?_; intro _) | (refine sRg rfl rfl ?_; intro _))
  refine j_cond rfl (fun h => ?_) (fun h => ?_)
  · have hlt : m < C.length := by have := of_decide_eq_true h; omega
    have hcm : gi (cI C) (m : Int) = ((C[m] : Nat) : Int) := by
      rw [gi_nat (by omega)]
      simp only [cI, List.getElem_map]
    have hCm := hcl C[m] (List.getElem_mem _)
    have hnx : ((C.take (m + 1)).map fun k : Nat => gi T (k : Int)) = ((C.take m).map fun k : Nat => gi T (k : Int)) ++ [gi T ((C[m] : Nat) : Int)] := by
      rw [List.take_succ_eq_append_getElem hlt, List.map_append]
      rfl
    generalize C[m] = k at *
    rcases s1.cases 36 with ⟨x0, -, -⟩ | ⟨bs, cb, sp, hc1, x1, x2, xne⟩
    · rw [x0] at hCm
      cases hCm
    rcases ch.cases 3 with ⟨y0, -, -⟩ | ⟨bc, cc, sq, hc2, y1, y2, yne⟩
    · rw [y0, List.length_nil] at hCl
      omega
    simp only [x1, x2, y1, y2, List.cons_append, List.nil_append]
    repeat (first | (refine wkB ?_; try intro _) | (refine sC rfl rfl ?_ ?_; focus (first | exact trivial | assumption | constructor <;> assumption | exact mb2 rfl rfl | exact mb4 rfl rfl rfl rfl)) | (refine sN rfl rfl ?_ ?_; (focus (first | exact trivial | assumption | constructor <;> assumption | exact mb2 rfl rfl | exact mb4 rfl rfl rfl rfl)); intro _; (try simp only [List.cons_append, List.nil_append, List.append_nil])) | refine sMu rfl ?_ | (refine sMm rfl rfl ?_; intro _) | (refine sRg rfl rfl ?_; intro _))
    simp only [hcm]
    repeat (first | (refine wkB ?_; try intro _) | (refine sC rfl rfl ?_ ?_; focus (first | exact trivial | assumption | constructor <;> assumption | exact mb2 rfl rfl | exact mb4 rfl rfl rfl rfl)) | (refine sN rfl rfl ?_ ?_; (focus (first | exact trivial | assumption | constructor <;> assumption | exact mb2 rfl rfl | exact mb4 rfl rfl rfl rfl)); intro _; (try simp only [List.cons_append, List.nil_append, List.append_nil])) | refine sMu rfl ?_ | (refine sMm rfl rfl ?_; intro _) | (refine sRg rfl rfl ?_; intro _))
    refine sU rfl rfl ?_ ?_ ?_ ?_
    · rfl
    · rfl
    · exact ⟨by decide, by omega, by omega⟩
    intro s'
    repeat (first | (refine wkB ?_; try intro _) | (refine sC rfl rfl ?_ ?_; focus (exact ⟨by omega, by omega⟩)) | (refine sN rfl rfl ?_ ?_; (focus (exact ⟨by omega, by omega⟩)); intro _; (try simp only [List.cons_append, List.nil_append, List.append_nil])) | refine sMu rfl ?_ | (refine sMm rfl rfl ?_; intro _) | (refine sRg rfl rfl ?_; intro _))
    obtain ⟨s3, e1, e2⟩ := SlS.turn 36 hnx.symm s'
    exact jx_loop ⟨m + 1, s3⟩ hlt (by simp only [e1, x1, y1]; exact sbB) (by simp only [e2, x2, y2]; exact suB) (by show C.length - (m + 1) < C.length - m; omega)
  · have hge : m = C.length := by have := of_decide_eq_false h; omega
    subst hge
    repeat (first | (refine wkB ?_; try intro _) | (refine sC rfl rfl ?_ ?_; focus (first | exact trivial | assumption | constructor <;> assumption | exact mb2 rfl rfl | exact mb4 rfl rfl rfl rfl)) | (refine sN rfl rfl ?_ ?_; (focus (first | exact trivial | assumption | constructor <;> assumption | exact mb2 rfl rfl | exact mb4 rfl rfl rfl rfl)); intro _; (try simp only [List.cons_append, List.nil_append, List.append_nil])) | refine sMu rfl ?_ | (refine sMm rfl rfl ?_; intro _) | (refine sRg rfl rfl ?_; intro _))
    obtain ⟨s3, e1, e2⟩ := SlS.turn 36 (show ((C.take C.length).map fun k : Nat => gi T (k : Int)) = kpT s.MaxSpeed T by rw [List.take_length, hkp]) q
    refine jx_ret_two rfl (resv_tmp rfl) (resv_tmp rfl) (fun w hw => ⟨s3, ?_, ?_⟩)
    · show Ending.returned (.tuple #[vSl q, .int .i64 0]) = Ending.returned (.tuple #[vSl s3, .int .i64 0])
      rw [e1]
    · show Own _ (mS 36 s3) w
      rw [e2]
      exact hw.sub suB
instance sr_keptOf (w0 : World) (L : List Blk) (px : Nat) (l : List (api_Report × Bool)) (o : Int) (s : api_Settings) [h : InkC w0 L px l] : SpecR Tryz.prog w0 L 57 [.pointer (some ⟨px, 0, none⟩), .int .i64 o, .agg (e_api_Settings s)] (SlS r_intake_Timed 12 (kpT s.MaxSpeed (tmS (cntR (sorted (pKR l)))))) (fun s => .tuple #[vSl s, .int .i64 0]) (fun s => mS 36 s) (KtOk o s.MaxSpeed l) := ⟨fun hp w hw => keptOf_spec w0 w L px l o s hw hp⟩
theorem kpT_mem {v : Int} {l : List R_intake_Timed} {x : R_intake_Timed} (h : x ∈ kpT v l) : x ∈ l := by
  obtain ⟨k, hk, rfl⟩ := List.mem_map.1 h
  have := chainL_rng hk
  exact gi_mem (by omega)
/-- The gaps between neighbours. -/
def gapI (a b : R_intake_Timed) : R_api_Interval := ⟨⟨a.T, 0, false⟩, ⟨b.T, 0, false⟩, true, true⟩
def gpT (g : Int) (l : List R_intake_Timed) : Nat → List R_api_Interval
  | 0 => []
  | m + 1 => if farT g (gi l (m : Int)) (gi l ((m + 1 : Nat) : Int)) then gpT g l m ++ [gapI (gi l (m : Int)) (gi l ((m + 1 : Nat) : Int))] else gpT g l m
theorem gpT_len (g : Int) (l : List R_intake_Timed) : ∀ m, (gpT g l m).length ≤ m
  | 0 => Nat.le_refl _
  | m + 1 => by
    have := gpT_len g l m
    simp only [gpT]
    split
    · rw [List.length_append, List.length_singleton]; omega
    · omega
set_option maxHeartbeats 8000000 in
theorem gaps_spec (w0 w : World) (L : List Blk) (px : Nat) (l : List (api_Report × Bool)) (o : Int) (s : api_Settings) [h : InkC w0 L px l] (hw : Own w0 L w) (hk : KtOk o s.MaxSpeed l) (hg : -2147483648 ≤ s.MaxGap ∧ s.MaxGap ≤ 2147483648) :
    Calls Tryz.prog 31 [.pointer (some ⟨px, 0, none⟩), .int .i64 o, .agg (e_api_Settings s)].toArray w (RetM (SlS r_api_Interval 20 (gpT s.MaxGap (kpT s.MaxSpeed (tmS (cntR (sorted (pKR l))))) ((kpT s.MaxSpeed (tmS (cntR (sorted (pKR l))))).length - 1))) (fun s => .tuple #[vSl s, .int .i64 0]) (fun s => mS 83 s) w) := by
  have hl := hk.len
  have hin := h.all hw
  have hkl : (kpT s.MaxSpeed (tmS (cntR (sorted (pKR l))))).length ≤ 12 := by
    have := chainL_few (cCp s.MaxSpeed (tmS (cntR (sorted (pKR l))))) (tmS (cntR (sorted (pKR l)))).length
    rw [kpT_len]
    omega
  have hok : ∀ x ∈ kpT s.MaxSpeed (tmS (cntR (sorted (pKR l)))), TkOk x := fun x hx => hk.t x (kpT_mem hx)
  refine fn_intro Tryz.func31 rfl Tryz.ntmps31 rfl ?_
  repeat (first | (refine wkB ?_; try intro _) | (refine sC rfl rfl ?_ ?_; focus (exact hk)) | (refine sN rfl rfl ?_ ?_; (focus (exact hk)); intro _; (try simp only [List.cons_append, List.nil_append, List.append_nil])) | refine sMu rfl ?_ | (refine sMm rfl rfl ?_; intro _) | (refine sRg rfl rfl ?_; intro _))
  rename_i b5 s1
  generalize kpT s.MaxSpeed (tmS (cntR (sorted (pKR l)))) = T at *
  refine j_loop (S := (m : Nat) × SlS r_api_Interval 20 (gpT s.MaxGap T m)) (fun q => q.1 = 0 ∨ q.1 + 1 ≤ T.length) (fun q => [(5, .pointer (some ⟨b5, 0, none⟩)), (8, vSl s1), (9, .int .i64 0), (10, vSl q.2), (11, .int .i64 ((q.1 + 1 : Nat)))]) (fun q => mS 83 q.2 ++ (mS 36 s1 ++ [⟨b5, e_api_Settings s, 26⟩])) (fun q => T.length - q.1) ⟨0, SlS.no⟩ (.inl rfl) sbB suB (fun q hq => ?_)
  obtain ⟨m, q⟩ := q
  simp only at hq ⊢
  have hgl := gpT_len s.MaxGap T m
  repeat (first | (refine wkB ?_; try intro _) | (refine sC rfl rfl ?_ ?_; focus (first | exact trivial | assumption | constructor <;> assumption | exact mb2 rfl rfl | exact mb4 rfl rfl rfl rfl)) | (refine sN rfl rfl ?_ ?_; (focus (first | exact trivial | assumption | constructor <;> assumption | exact mb2 rfl rfl | exact mb4 rfl rfl rfl rfl)); intro _; (try simp only [List.cons_append, List.nil_append, List.append_nil])) | refine sMu rfl ?_ | (refine sMm rfl rfl ?_; intro _) | (refine sRg rfl rfl ?_; intro _))
  refine j_cond rfl (fun h => ?_) (fun h => ?_)
  · have hlt : m + 1 < T.length := by have := of_decide_eq_true h; omega
    have e1 : ((m + 1 : Nat) : Int) - 1 = (m : Int) := by omega
    have k1 := hok (gi T (m : Int)) (gi_mem (by omega))
    have k2 := hok (gi T ((m + 1 : Nat) : Int)) (gi_mem (by omega))
    have hnx : gpT s.MaxGap T (m + 1) = if farT s.MaxGap (gi T (m : Int)) (gi T ((m + 1 : Nat) : Int)) then gpT s.MaxGap T m ++ [gapI (gi T (m : Int)) (gi T ((m + 1 : Nat) : Int))] else gpT s.MaxGap T m := rfl
    rcases s1.cases 36 with ⟨x0, -, -⟩ | ⟨bs, cb, sp, hc1, x1, x2, xne⟩
    · rw [x0] at hlt
      cases hlt
    simp only [x1, x2, List.cons_append, List.nil_append]
    repeat (first | (refine wkB ?_; try intro _) | (refine sC rfl rfl ?_ ?_; focus (first | exact trivial | assumption | constructor <;> assumption | exact mb2 rfl rfl | exact mb4 rfl rfl rfl rfl)) | (refine sN rfl rfl ?_ ?_; (focus (first | exact trivial | assumption | constructor <;> assumption | exact mb2 rfl rfl | exact mb4 rfl rfl rfl rfl)); intro _; (try simp only [List.cons_append, List.nil_append, List.append_nil])) | refine sMu rfl ?_ | (refine sMm rfl rfl ?_; intro _) | (refine sRg rfl rfl ?_; intro _))
    refine jD 11 11 (h := ?_)
    (repeat (refine wkH ?_))
    simp only [e1]
    (repeat (first | refine wkH ?_ | (refine tC rfl rfl ?_ ?_; focus (exact ⟨k1, k2, hg⟩))))
    refine jh_nil ?_
    refine jn_nil ?_
    cases hf : farT s.MaxGap (gi T (m : Int)) (gi T ((m + 1 : Nat) : Int))
    · rw [hf, if_neg (by decide)] at hnx
      repeat (first | (refine wkB ?_; try intro _) | (refine sC rfl rfl ?_ ?_; focus (exact ⟨by omega, by omega⟩)) | (refine sN rfl rfl ?_ ?_; (focus (exact ⟨by omega, by omega⟩)); intro _; (try simp only [List.cons_append, List.nil_append, List.append_nil])) | refine sMu rfl ?_ | (refine sMm rfl rfl ?_; intro _) | (refine sRg rfl rfl ?_; intro _))
      obtain ⟨s3, e1, e2⟩ := SlS.turn 83 hnx.symm q
      exact jx_loop ⟨m + 1, s3⟩ (.inr (by show m + 1 + 1 ≤ T.length; omega)) (by simp only [e1, x1]; exact sbB) (by simp only [e2, x2]; exact suB) (by show T.length - (m + 1) < T.length - m; omega)
    · rw [hf, if_pos rfl] at hnx
      repeat (first | (refine wkB ?_; try intro _) | (refine sC rfl rfl ?_ ?_; focus (first | exact trivial | assumption | constructor <;> assumption | exact mb2 rfl rfl | exact mb4 rfl rfl rfl rfl)) | (refine sN rfl rfl ?_ ?_; (focus (first | exact trivial | assumption | constructor <;> assumption | exact mb2 rfl rfl | exact mb4 rfl rfl rfl rfl)); intro _; (try simp only [List.cons_append, List.nil_append, List.append_nil])) | refine sMu rfl ?_ | (refine sMm rfl rfl ?_; intro _) | (refine sRg rfl rfl ?_; intro _))
      (refine j_tree (.v [0, 1, 2, 3, 4, 5, 6, 7, 8, 9, 10, 11, 12, 13, 14] (.e1 15 (.e1 16 (.e1 17 (.fin))))) ([⟨bs, row r_intake_Timed T sp, 36⟩]) (h := ?_); refine wkX ?_)
      (repeat (refine wkH ?_))
      simp only [e1]
      (repeat (refine wkH ?_))
      repeat (refine wkT ?_; try intro _)
      refine eU rfl rfl ?_ ?_ ?_ ?_
      · rfl
      · rfl
      · exact ⟨by decide, by omega, by omega⟩
      intro s'
      repeat (refine wkT ?_; try intro _)
      obtain ⟨s3, e1, e2⟩ := SlS.turn 83 hnx.symm s'
      repeat (first | (refine wkB ?_; try intro _) | (refine sC rfl rfl ?_ ?_; focus (exact ⟨by omega, by omega⟩)) | (refine sN rfl rfl ?_ ?_; (focus (exact ⟨by omega, by omega⟩)); intro _; (try simp only [List.cons_append, List.nil_append, List.append_nil])) | refine sMu rfl ?_ | (refine sMm rfl rfl ?_; intro _) | (refine sRg rfl rfl ?_; intro _))
      exact jx_loop ⟨m + 1, s3⟩ (.inr (by show m + 1 + 1 ≤ T.length; omega)) (by simp only [e1, x1]; exact sbB) (by simp only [e2, x2]; exact suB) (by show T.length - (m + 1) < T.length - m; omega)
  · have hge : m = T.length - 1 := by have := of_decide_eq_false h; omega
    repeat (first | (refine wkB ?_; try intro _) | (refine sC rfl rfl ?_ ?_; focus (first | exact trivial | assumption | constructor <;> assumption | exact mb2 rfl rfl | exact mb4 rfl rfl rfl rfl)) | (refine sN rfl rfl ?_ ?_; (focus (first | exact trivial | assumption | constructor <;> assumption | exact mb2 rfl rfl | exact mb4 rfl rfl rfl rfl)); intro _; (try simp only [List.cons_append, List.nil_append, List.append_nil])) | refine sMu rfl ?_ | (refine sMm rfl rfl ?_; intro _) | (refine sRg rfl rfl ?_; intro _))
    obtain ⟨s3, e1, e2⟩ := SlS.turn 83 (show gpT s.MaxGap T m = gpT s.MaxGap T (T.length - 1) by rw [hge]) q
    refine jx_ret_two rfl (resv_tmp rfl) (resv_tmp rfl) (fun w hw => ⟨s3, ?_, ?_⟩)
    · show Ending.returned (.tuple #[vSl q, .int .i64 0]) = Ending.returned (.tuple #[vSl s3, .int .i64 0])
      rw [e1]
    · show Own _ (mS 83 s3) w
      rw [e2]
      exact hw.sub suB
instance sr_gaps (w0 : World) (L : List Blk) (px : Nat) (l : List (api_Report × Bool)) (o : Int) (s : api_Settings) [h : InkC w0 L px l] : SpecR Tryz.prog w0 L 31 [.pointer (some ⟨px, 0, none⟩), .int .i64 o, .agg (e_api_Settings s)] (SlS r_api_Interval 20 (gpT s.MaxGap (kpT s.MaxSpeed (tmS (cntR (sorted (pKR l))))) ((kpT s.MaxSpeed (tmS (cntR (sorted (pKR l))))).length - 1))) (fun s => .tuple #[vSl s, .int .i64 0]) (fun s => mS 83 s) (KtOk o s.MaxSpeed l ∧ (-2147483648 ≤ s.MaxGap ∧ s.MaxGap ≤ 2147483648)) := ⟨fun hp w hw => gaps_spec w0 w L px l o s hw hp.1 hp.2⟩
end Go.Vt
/- What becomes of a report. Conditions: those that each statement names. -/
set_option linter.unusedSimpArgs false
set_option linter.unusedVariables false
set_option maxHeartbeats 2000000
set_option maxRecDepth 100000
namespace Go.Vt
open Go.RowKit Go.Proofs
/-- The first place where something holds. -/
def idxP {α : Type} (p : α → Bool) (xs : List α) : Int := if xs.any p then (xs.findIdx p : Int) else -1
theorem idxP_at {α : Type} [Inhabited α] {p : α → Bool} {xs : List α} {m : Nat} (hm : m < xs.length) (h : p (gi xs (m : Int)) = true) (hb : ∀ j : Nat, j < m → p (gi xs (j : Int)) = false) : idxP p xs = m := by
  have e : xs.any p = true := List.any_eq_true.2 ⟨_, gi_mem (by omega), h⟩
  unfold idxP
  rw [if_pos e]
  congr 1
  refine (List.findIdx_eq hm).2 ⟨by rw [← gi_nat hm]; exact h, fun j hj => ?_⟩
  rw [← gi_nat (by omega)]
  exact hb j hj
theorem idxP_no {α : Type} [Inhabited α] {p : α → Bool} {xs : List α} (hb : ∀ j : Nat, j < xs.length → p (gi xs (j : Int)) = false) : idxP p xs = -1 := by
  unfold idxP
  rw [if_neg]
  intro h
  obtain ⟨x, hx, hp⟩ := List.any_eq_true.1 h
  obtain ⟨j, hj, rfl⟩ := List.getElem_of_mem hx
  have := hb j hj
  rw [gi_nat hj, hp] at this
  cases this
theorem idxP_ge {α : Type} {p : α → Bool} {xs : List α} : decide (0 ≤ idxP p xs) = xs.any p := by
  unfold idxP
  cases h : xs.any p
  · rw [if_neg (by decide)]
    rfl
  · rw [if_pos rfl]
    exact decide_eq_true (Int.natCast_nonneg _)
instance call_idxRp : CallC Tryz.prog 153 := ⟨by kernel_rfl⟩
instance call_conRp : CallC Tryz.prog 125 := ⟨by kernel_rfl⟩
set_option maxHeartbeats 4000000 in
theorem idxRp_spec (v : Value) (rs : List api_Report) (r : api_Report) (w : World) (hv : ArgS w v e_api_Report rs) (hl : rs.length ≤ 1048576) :
    Calls Tryz.prog 153 [v, .agg (e_api_Report r)].toArray w (Ret (.int .i64 (idxP (fun x => decide (r = x)) rs)) w) := by
  obtain ⟨p, cp, rfl⟩ := hv.form
  refine fn_intro Tryz.func153 rfl Tryz.ntmps153 rfl ?_
  repeat (first | (refine wkB ?_; try intro _) | (refine sC rfl rfl ?_ ?_; focus (first | exact trivial | assumption | constructor <;> assumption | exact mb2 rfl rfl | exact mb4 rfl rfl rfl rfl)) | (refine sN rfl rfl ?_ ?_; (focus (first | exact trivial | assumption | constructor <;> assumption | exact mb2 rfl rfl | exact mb4 rfl rfl rfl rfl)); intro _; (try simp only [List.cons_append, List.nil_append, List.append_nil])) | refine sMu rfl ?_ | (refine sMm rfl rfl ?_; intro _) | (refine sRg rfl rfl ?_; intro _))
  rename_i b3
  refine j_loop (S := Nat) (fun m => m ≤ rs.length ∧ ∀ j : Nat, j < m → decide (r = gi rs (j : Int)) = false) (fun m => [(0, .slice p rs.length cp), (3, .pointer (some ⟨b3, 0, none⟩)), (7, .int .i64 rs.length), (8, .int .i64 (m : Nat))]) (fun _ => [⟨b3, e_api_Report r, 34⟩]) (fun m => rs.length - m) 0 ⟨Nat.zero_le _, fun j hj => absurd hj (Nat.not_lt_zero _)⟩ sbB slB (fun m hm => ?_)
  obtain ⟨hm, hb⟩ := hm
  repeat (first | (refine wkB ?_; try intro _) | (refine sC rfl rfl ?_ ?_; focus (first | exact trivial | assumption | constructor <;> assumption | exact mb2 rfl rfl | exact mb4 rfl rfl rfl rfl)) | (refine sN rfl rfl ?_ ?_; (focus (first | exact trivial | assumption | constructor <;> assumption | exact mb2 rfl rfl | exact mb4 rfl rfl rfl rfl)); intro _; (try simp only [List.cons_append, List.nil_append, List.append_nil])) | refine sMu rfl ?_ | (refine sMm rfl rfl ?_; intro _) | (refine sRg rfl rfl ?_; intro _))
  refine j_cond rfl (fun h => ?_) (fun h => ?_)
  · have hlt : m < rs.length := by have := of_decide_eq_true h; omega
    have hne : rs ≠ [] := fun h0 => by rw [h0] at hlt; simp at hlt
    obtain ⟨bw, ow, cw, hvw, hcw, hrow⟩ := hv.blk (k := 7) hne []
    injection hvw with e1 e2 e3
    subst e1
    subst e3
    have hrow' : ∀ L, RowC w L bw ow api_Report e_api_Report rs := fun L => ⟨fun w' hw' => hrow.out w' (hw'.sub (List.nil_sublist _))⟩
    repeat (first | (refine wkB ?_; try intro _) | (refine sC rfl rfl ?_ ?_; focus (first | exact trivial | assumption | constructor <;> assumption | exact mb2 rfl rfl | exact mb4 rfl rfl rfl rfl)) | (refine sN rfl rfl ?_ ?_; (focus (first | exact trivial | assumption | constructor <;> assumption | exact mb2 rfl rfl | exact mb4 rfl rfl rfl rfl)); intro _; (try simp only [List.cons_append, List.nil_append, List.append_nil])) | refine sMu rfl ?_ | (refine sMm rfl rfl ?_; intro _) | (refine sRg rfl rfl ?_; intro _))
    (refine jD 6 6 (h := ?_); (repeat (refine wkH ?_)); refine jh_nil ?_; (repeat (refine wn_new ?_; intro _)); refine jn_nil ?_)
    cases hd : decide (r = gi rs (m : Int))
    · repeat (first | (refine wkB ?_; try intro _) | (refine sC rfl rfl ?_ ?_; focus (first | exact trivial | assumption | constructor <;> assumption | exact mb2 rfl rfl | exact mb4 rfl rfl rfl rfl)) | (refine sN rfl rfl ?_ ?_; (focus (first | exact trivial | assumption | constructor <;> assumption | exact mb2 rfl rfl | exact mb4 rfl rfl rfl rfl)); intro _; (try simp only [List.cons_append, List.nil_append, List.append_nil])) | refine sMu rfl ?_ | (refine sMm rfl rfl ?_; intro _) | (refine sRg rfl rfl ?_; intro _))
      exact jx_loop (m + 1) ⟨hlt, fun j hj => by
        rcases Nat.lt_or_ge j m with h1 | h1
        · exact hb j h1
        · rw [show j = m by omega]
          exact hd⟩ sbB slB (by omega)
    · rw [idxP_at hlt hd hb]
      repeat (first | (refine wkB ?_; try intro _) | (refine sC rfl rfl ?_ ?_; focus (first | exact trivial | assumption | constructor <;> assumption | exact mb2 rfl rfl | exact mb4 rfl rfl rfl rfl)) | (refine sN rfl rfl ?_ ?_; (focus (first | exact trivial | assumption | constructor <;> assumption | exact mb2 rfl rfl | exact mb4 rfl rfl rfl rfl)); intro _; (try simp only [List.cons_append, List.nil_append, List.append_nil])) | refine sMu rfl ?_ | (refine sMm rfl rfl ?_; intro _) | (refine sRg rfl rfl ?_; intro _))
      exact jx_ret_tmp rfl rfl (fun w hw => ret_ok hw)
  · have hge : m = rs.length := by have := of_decide_eq_false h; omega
    subst hge
    rw [idxP_no hb]
    repeat (first | (refine wkB ?_; try intro _) | (refine sC rfl rfl ?_ ?_; focus (first | exact trivial | assumption | constructor <;> assumption | exact mb2 rfl rfl | exact mb4 rfl rfl rfl rfl)) | (refine sN rfl rfl ?_ ?_; (focus (first | exact trivial | assumption | constructor <;> assumption | exact mb2 rfl rfl | exact mb4 rfl rfl rfl rfl)); intro _; (try simp only [List.cons_append, List.nil_append, List.append_nil])) | refine sMu rfl ?_ | (refine sMm rfl rfl ?_; intro _) | (refine sRg rfl rfl ?_; intro _))
    exact jx_ret_tmp rfl rfl (fun w hw => ret_ok hw)
instance sm_idxRp (w0 : World) (L : List Blk) (v : Value) (rs : List api_Report) (r : api_Report) [h : LstC w0 L v api_Report e_api_Report rs] : SpecM Tryz.prog w0 L 153 [v, .agg (e_api_Report r)] (.int .i64 (idxP (fun x => decide (r = x)) rs)) (rs.length ≤ 1048576) := ⟨fun hp w hw => idxRp_spec v rs r w (h.out w hw) hp⟩
theorem ArgS.lst {α : Type} {w : World} {v : Value} {enc : α → Array Value} {xs : List α} (h : ArgS w v enc xs) (L : List Blk) : LstC w L v α enc xs := ⟨fun w' hw' => h.to hw'.ext⟩
instance sm_conRp (w0 : World) (L : List Blk) (v : Value) (rs : List api_Report) (r : api_Report) [h : LstC w0 L v api_Report e_api_Report rs] : SpecM Tryz.prog w0 L 125 [v, .agg (e_api_Report r)] (.bool (rs.any fun x => decide (r = x))) (rs.length ≤ 1048576) := ⟨fun hp w hw => by
  have hv := fun L => (h.out w hw).lst L
  refine fn_intro Tryz.func125 rfl Tryz.ntmps125 rfl ?_
  repeat (first | (refine wkB ?_; try intro _) | (refine sC rfl rfl ?_ ?_; focus (exact hp)) | (refine sN rfl rfl ?_ ?_; (focus (exact hp)); intro _; (try simp only [List.cons_append, List.nil_append, List.append_nil])) | refine sMu rfl ?_ | (refine sMm rfl rfl ?_; intro _) | (refine sRg rfl rfl ?_; intro _))
  simp only [idxP_ge]
  repeat (first | (refine wkB ?_; try intro _) | (refine sC rfl rfl ?_ ?_; focus (first | exact trivial | assumption | constructor <;> assumption | exact mb2 rfl rfl | exact mb4 rfl rfl rfl rfl)) | (refine sN rfl rfl ?_ ?_; (focus (first | exact trivial | assumption | constructor <;> assumption | exact mb2 rfl rfl | exact mb4 rfl rfl rfl rfl)); intro _; (try simp only [List.cons_append, List.nil_append, List.append_nil])) | refine sMu rfl ?_ | (refine sMm rfl rfl ?_; intro _) | (refine sRg rfl rfl ?_; intro _))
  exact jx_ret_tmp rfl rfl (fun w hw => ret_ok hw)⟩
instance sm_rcon (w0 : World) (L : List Blk) (v : Value) (rs : List api_Report) (r : api_Report) [h : LstC w0 L v api_Report e_api_Report rs] : SpecM Tryz.prog w0 L 89 [v, .agg (e_api_Report r)] (.bool (rs.any fun x => decide (r = x))) (rs.length ≤ 1048576) := ⟨fun hp w hw => by
  have hv := fun L => (h.out w hw).lst L
  refine fn_intro Tryz.func89 rfl Tryz.ntmps89 rfl ?_
  repeat (first | (refine wkB ?_; try intro _) | (refine sC rfl rfl ?_ ?_; focus (exact hp)) | (refine sN rfl rfl ?_ ?_; (focus (exact hp)); intro _; (try simp only [List.cons_append, List.nil_append, List.append_nil])) | refine sMu rfl ?_ | (refine sMm rfl rfl ?_; intro _) | (refine sRg rfl rfl ?_; intro _))
  exact jx_ret_tmp rfl rfl (fun w hw => ret_ok hw)⟩
def statR (rs : List api_Report) (r : api_Report) : Int :=
  if (rs.any fun x => decide (r = x)) = false then 0 else if (mget (winR rs) (idR r)).getD z_api_Report = r then (if r.Cancel then 3 else 1) else 2
instance sm_status (w0 : World) (L : List Blk) (v : Value) (rs : List api_Report) (r : api_Report) [h : LstC w0 L v api_Report e_api_Report rs] : SpecM Tryz.prog w0 L 59 [v, .agg (e_api_Report r)] (.int .i64 (statR rs r)) (rs.length ≤ 1048576) := ⟨fun hp w hw => by
  have hv := fun L => (h.out w hw).lst L
  have hd : statR rs r = if (rs.any fun x => decide (r = x)) = false then 0 else if (mget (winR rs) (idR r)).getD z_api_Report = r then (if r.Cancel then 3 else 1) else 2 := rfl
  refine fn_intro Tryz.func59 rfl Tryz.ntmps59 rfl ?_
  repeat (first | (refine wkB ?_; try intro _) | (refine sC rfl rfl ?_ ?_; focus (first | exact trivial | assumption | constructor <;> assumption | exact mb2 rfl rfl | exact mb4 rfl rfl rfl rfl)) | (refine sN rfl rfl ?_ ?_; (focus (first | exact trivial | assumption | constructor <;> assumption | exact mb2 rfl rfl | exact mb4 rfl rfl rfl rfl)); intro _; (try simp only [List.cons_append, List.nil_append, List.append_nil])) | refine sMu rfl ?_ | (refine sMm rfl rfl ?_; intro _) | (refine sRg rfl rfl ?_; intro _))
  rename_i b3
  refine j_cut (S := Nat) (fun _ => True) (fun b5 => [(0, v), (3, .pointer (some ⟨b3, 0, none⟩)), (5, .pointer (some ⟨b5, 0, none⟩))]) (fun b5 => [⟨b5, e_api_Report ((mget (winR rs) (idR r)).getD z_api_Report), 34⟩, ⟨b3, e_api_Report r, 34⟩]) ?_ (fun b5 _ => ?_)
  · (refine j_tree (.v [0, 2] (.e2 1 (.v [3] (.e2 4 (.e1 5 (.e1 6 (.fin))) 5 (.e1 4 (.e1 6 (.fin))))) 5 (.e1 1 (.v [3] (.e1 4 (.e1 6 (.fin))))))) ([⟨b3, e_api_Report r, 34⟩]) (h := ?_); refine wkX ?_)
    (repeat (refine wkH ?_))
    refine And.intro ?_ ?_
    all_goals
      repeat (first | (refine wkT ?_; try intro _) | (refine tC rfl rfl ?_ ?_; focus (first | exact hp | exact trivial)) | (refine uC rfl rfl ?_ ?_; focus (first | exact hp | exact trivial)) | (refine eN rfl rfl ?_ ?_; (focus (first | exact hp | exact trivial)); intro _; (try simp only [List.cons_append, List.nil_append, List.append_nil])))
    all_goals try refine And.intro ?_ ?_
    all_goals
      repeat (first | (refine wkT ?_; try intro _) | (refine tC rfl rfl ?_ ?_; focus (first | exact hp | exact trivial)) | (refine uC rfl rfl ?_ ?_; focus (first | exact hp | exact trivial)) | (refine eN rfl rfl ?_ ?_; (focus (first | exact hp | exact trivial)); intro _; (try simp only [List.cons_append, List.nil_append, List.append_nil])))
      exact jx_mid _ trivial sbB suB
  · generalize (mget (winR rs) (idR r)).getD z_api_Report = x at *
    repeat (first | (refine wkB ?_; try intro _) | (refine sC rfl rfl ?_ ?_; focus (exact hp)) | (refine sN rfl rfl ?_ ?_; (focus (exact hp)); intro _; (try simp only [List.cons_append, List.nil_append, List.append_nil])) | refine sMu rfl ?_ | (refine sMm rfl rfl ?_; intro _) | (refine sRg rfl rfl ?_; intro _))
    cases hc : rs.any fun x => decide (r = x)
    · rw [hc, if_pos rfl] at hd
      rw [hd]
      repeat (first | (refine wkB ?_; try intro _) | (refine sC rfl rfl ?_ ?_; focus (first | exact trivial | assumption | constructor <;> assumption | exact mb2 rfl rfl | exact mb4 rfl rfl rfl rfl)) | (refine sN rfl rfl ?_ ?_; (focus (first | exact trivial | assumption | constructor <;> assumption | exact mb2 rfl rfl | exact mb4 rfl rfl rfl rfl)); intro _; (try simp only [List.cons_append, List.nil_append, List.append_nil])) | refine sMu rfl ?_ | (refine sMm rfl rfl ?_; intro _) | (refine sRg rfl rfl ?_; intro _))
      exact jx_ret_tmp rfl rfl (fun w hw => ret_ok hw)
    rw [hc, if_neg (by decide)] at hd
    repeat (first | (refine wkB ?_; try intro _) | (refine sC rfl rfl ?_ ?_; focus (first | exact trivial | assumption | constructor <;> assumption | exact mb2 rfl rfl | exact mb4 rfl rfl rfl rfl)) | (refine sN rfl rfl ?_ ?_; (focus (first | exact trivial | assumption | constructor <;> assumption | exact mb2 rfl rfl | exact mb4 rfl rfl rfl rfl)); intro _; (try simp only [List.cons_append, List.nil_append, List.append_nil])) | refine sMu rfl ?_ | (refine sMm rfl rfl ?_; intro _) | (refine sRg rfl rfl ?_; intro _))
    by_cases he : x = r
    · rw [if_pos he] at hd
      subst he
      simp only [decide_eq_true (show x = x from rfl), Bool.not_true, Bool.not_false]
      repeat (first | (refine wkB ?_; try intro _) | (refine sC rfl rfl ?_ ?_; focus (first | exact trivial | assumption | constructor <;> assumption | exact mb2 rfl rfl | exact mb4 rfl rfl rfl rfl)) | (refine sN rfl rfl ?_ ?_; (focus (first | exact trivial | assumption | constructor <;> assumption | exact mb2 rfl rfl | exact mb4 rfl rfl rfl rfl)); intro _; (try simp only [List.cons_append, List.nil_append, List.append_nil])) | refine sMu rfl ?_ | (refine sMm rfl rfl ?_; intro _) | (refine sRg rfl rfl ?_; intro _))
      cases hx : x.Cancel
      · rw [hx] at hd
        rw [hd]
        repeat (first | (refine wkB ?_; try intro _) | (refine sC rfl rfl ?_ ?_; focus (first | exact trivial | assumption | constructor <;> assumption | exact mb2 rfl rfl | exact mb4 rfl rfl rfl rfl)) | (refine sN rfl rfl ?_ ?_; (focus (first | exact trivial | assumption | constructor <;> assumption | exact mb2 rfl rfl | exact mb4 rfl rfl rfl rfl)); intro _; (try simp only [List.cons_append, List.nil_append, List.append_nil])) | refine sMu rfl ?_ | (refine sMm rfl rfl ?_; intro _) | (refine sRg rfl rfl ?_; intro _))
        exact jx_ret_tmp rfl rfl (fun w hw => ret_ok hw)
      · rw [hx] at hd
        rw [hd]
        repeat (first | (refine wkB ?_; try intro _) | (refine sC rfl rfl ?_ ?_; focus (first | exact trivial | assumption | constructor <;> assumption | exact mb2 rfl rfl | exact mb4 rfl rfl rfl rfl)) | (refine sN rfl rfl ?_ ?_; (focus (first | exact trivial | assumption | constructor <;> assumption | exact mb2 rfl rfl | exact mb4 rfl rfl rfl rfl)); intro _; (try simp only [List.cons_append, List.nil_append, List.append_nil])) | refine sMu rfl ?_ | (refine sMm rfl rfl ?_; intro _) | (refine sRg rfl rfl ?_; intro _))
        exact jx_ret_tmp rfl rfl (fun w hw => ret_ok hw)
    · rw [if_neg he] at hd
      simp only [decide_eq_false he, Bool.not_true, Bool.not_false]
      rw [hd]
      repeat (first | (refine wkB ?_; try intro _) | (refine sC rfl rfl ?_ ?_; focus (first | exact trivial | assumption | constructor <;> assumption | exact mb2 rfl rfl | exact mb4 rfl rfl rfl rfl)) | (refine sN rfl rfl ?_ ?_; (focus (first | exact trivial | assumption | constructor <;> assumption | exact mb2 rfl rfl | exact mb4 rfl rfl rfl rfl)); intro _; (try simp only [List.cons_append, List.nil_append, List.append_nil])) | refine sMu rfl ?_ | (refine sMm rfl rfl ?_; intro _) | (refine sRg rfl rfl ?_; intro _))
      exact jx_ret_tmp rfl rfl (fun w hw => ret_ok hw)⟩
instance sm_expl1 (w0 : World) (L : List Blk) (x : R_intake_Timed) (b : Nat) (r : api_Report) (T : TypeId) [k : AtC w0 L b (e_api_Report r) T] : SpecM Tryz.prog w0 L 61 [vTm x, .pointer (some ⟨b, 0, none⟩)] (.bool (decide (x.Report = r))) True := ⟨fun _ w hw => by
  have f := FoC.mk (k.out w hw)
  refine fn_intro Tryz.func61 rfl Tryz.ntmps61 rfl ?_
  repeat (first | (refine wkB ?_; try intro _) | (refine sC rfl rfl ?_ ?_; focus (first | exact trivial | assumption | constructor <;> assumption | exact mb2 rfl rfl | exact mb4 rfl rfl rfl rfl)) | (refine sN rfl rfl ?_ ?_; (focus (first | exact trivial | assumption | constructor <;> assumption | exact mb2 rfl rfl | exact mb4 rfl rfl rfl rfl)); intro _; (try simp only [List.cons_append, List.nil_append, List.append_nil])) | refine sMu rfl ?_ | (refine sMm rfl rfl ?_; intro _) | (refine sRg rfl rfl ?_; intro _))
  exact jx_ret_tmp rfl rfl (fun w hw => ret_ok hw)⟩
abbrev vEx (b : Nat) : Value := .func (.func 61) #[] [.pointer (some ⟨b, 0, none⟩)].toArray
abbrev isT (r : api_Report) (x : R_intake_Timed) : Bool := decide (x.Report = r)
instance call_idxTm : CallC Tryz.prog 93 := ⟨by kernel_rfl⟩
instance call_conTm : CallC Tryz.prog 62 := ⟨by kernel_rfl⟩
set_option maxHeartbeats 4000000 in
theorem idxTm_spec (v : Value) (rs : List R_intake_Timed) (b : Nat) (r : api_Report) (T : TypeId) (w : World) (hv : ArgS w v r_intake_Timed rs) (hl : rs.length ≤ 1048576) (hb : ∃ fz, w.heap[b]? = some (.cells (e_api_Report r) T fz)) :
    Calls Tryz.prog 93 [v, vEx b].toArray w (Ret (.int .i64 (idxP (isT r) rs)) w) := by
  have f := FoC.mk hb
  obtain ⟨p, cp, rfl⟩ := hv.form
  refine fn_intro Tryz.func93 rfl Tryz.ntmps93 rfl ?_
  repeat (first | (refine wkB ?_; try intro _) | (refine sC rfl rfl ?_ ?_; focus (first | exact trivial | assumption | constructor <;> assumption | exact mb2 rfl rfl | exact mb4 rfl rfl rfl rfl)) | (refine sN rfl rfl ?_ ?_; (focus (first | exact trivial | assumption | constructor <;> assumption | exact mb2 rfl rfl | exact mb4 rfl rfl rfl rfl)); intro _; (try simp only [List.cons_append, List.nil_append, List.append_nil])) | refine sMu rfl ?_ | (refine sMm rfl rfl ?_; intro _) | (refine sRg rfl rfl ?_; intro _))
  refine j_loop (S := Nat) (fun m => m ≤ rs.length ∧ ∀ j : Nat, j < m → isT r (gi rs (j : Int)) = false) (fun m => [(0, .slice p rs.length cp), (1, vEx b), (7, .int .i64 rs.length), (8, .int .i64 (m : Nat))]) (fun _ => []) (fun m => rs.length - m) 0 ⟨Nat.zero_le _, fun j hj => absurd hj (Nat.not_lt_zero _)⟩ sbB slB (fun m hm => ?_)
  obtain ⟨hm, hb⟩ := hm
  repeat (first | (refine wkB ?_; try intro _) | (refine sC rfl rfl ?_ ?_; focus (first | exact trivial | assumption | constructor <;> assumption | exact mb2 rfl rfl | exact mb4 rfl rfl rfl rfl)) | (refine sN rfl rfl ?_ ?_; (focus (first | exact trivial | assumption | constructor <;> assumption | exact mb2 rfl rfl | exact mb4 rfl rfl rfl rfl)); intro _; (try simp only [List.cons_append, List.nil_append, List.append_nil])) | refine sMu rfl ?_ | (refine sMm rfl rfl ?_; intro _) | (refine sRg rfl rfl ?_; intro _))
  refine j_cond rfl (fun h => ?_) (fun h => ?_)
  · have hlt : m < rs.length := by have := of_decide_eq_true h; omega
    have hne : rs ≠ [] := fun h0 => by rw [h0] at hlt; simp at hlt
    obtain ⟨bw, ow, cw, hvw, hcw, hrow⟩ := hv.blk (k := 11) hne []
    injection hvw with e1 e2 e3
    subst e1
    subst e3
    have hrow' : ∀ L, RowC w L bw ow R_intake_Timed r_intake_Timed rs := fun L => ⟨fun w' hw' => hrow.out w' (hw'.sub (List.nil_sublist _))⟩
    have hi : isT r (gi rs (m : Int)) = decide ((gi rs (m : Int)).Report = r) := rfl
    repeat (first | (refine wkB ?_; try intro _) | (refine sC rfl rfl ?_ ?_; focus (first | exact trivial | assumption | constructor <;> assumption | exact mb2 rfl rfl | exact mb4 rfl rfl rfl rfl)) | (refine sN rfl rfl ?_ ?_; (focus (first | exact trivial | assumption | constructor <;> assumption | exact mb2 rfl rfl | exact mb4 rfl rfl rfl rfl)); intro _; (try simp only [List.cons_append, List.nil_append, List.append_nil])) | refine sMu rfl ?_ | (refine sMm rfl rfl ?_; intro _) | (refine sRg rfl rfl ?_; intro _))
    rw [← hi]
    cases hd : isT r (gi rs (m : Int))
    · repeat (first | (refine wkB ?_; try intro _) | (refine sC rfl rfl ?_ ?_; focus (first | exact trivial | assumption | constructor <;> assumption | exact mb2 rfl rfl | exact mb4 rfl rfl rfl rfl)) | (refine sN rfl rfl ?_ ?_; (focus (first | exact trivial | assumption | constructor <;> assumption | exact mb2 rfl rfl | exact mb4 rfl rfl rfl rfl)); intro _; (try simp only [List.cons_append, List.nil_append, List.append_nil])) | refine sMu rfl ?_ | (refine sMm rfl rfl ?_; intro _) | (refine sRg rfl rfl ?_; intro _))
      exact jx_loop (m + 1) ⟨hlt, fun j hj => by
        rcases Nat.lt_or_ge j m with h1 | h1
        · exact hb j h1
        · rw [show j = m by omega]
          exact hd⟩ sbB slB (by omega)
    · rw [idxP_at hlt hd hb]
      repeat (first | (refine wkB ?_; try intro _) | (refine sC rfl rfl ?_ ?_; focus (first | exact trivial | assumption | constructor <;> assumption | exact mb2 rfl rfl | exact mb4 rfl rfl rfl rfl)) | (refine sN rfl rfl ?_ ?_; (focus (first | exact trivial | assumption | constructor <;> assumption | exact mb2 rfl rfl | exact mb4 rfl rfl rfl rfl)); intro _; (try simp only [List.cons_append, List.nil_append, List.append_nil])) | refine sMu rfl ?_ | (refine sMm rfl rfl ?_; intro _) | (refine sRg rfl rfl ?_; intro _))
      exact jx_ret_tmp rfl rfl (fun w hw => ret_ok hw)
  · have hge : m = rs.length := by have := of_decide_eq_false h; omega
    subst hge
    rw [idxP_no hb]
    repeat (first | (refine wkB ?_; try intro _) | (refine sC rfl rfl ?_ ?_; focus (first | exact trivial | assumption | constructor <;> assumption | exact mb2 rfl rfl | exact mb4 rfl rfl rfl rfl)) | (refine sN rfl rfl ?_ ?_; (focus (first | exact trivial | assumption | constructor <;> assumption | exact mb2 rfl rfl | exact mb4 rfl rfl rfl rfl)); intro _; (try simp only [List.cons_append, List.nil_append, List.append_nil])) | refine sMu rfl ?_ | (refine sMm rfl rfl ?_; intro _) | (refine sRg rfl rfl ?_; intro _))
    exact jx_ret_tmp rfl rfl (fun w hw => ret_ok hw)
instance sm_idxTm (w0 : World) (L : List Blk) (v : Value) (rs : List R_intake_Timed) (b : Nat) (r : api_Report) (T : TypeId) [h : LstC w0 L v R_intake_Timed r_intake_Timed rs] [k : AtC w0 L b (e_api_Report r) T] : SpecM Tryz.prog w0 L 93 [v, vEx b] (.int .i64 (idxP (isT r) rs)) (rs.length ≤ 1048576) := ⟨fun hp w hw => idxTm_spec v rs b r T w (h.out w hw) hp (k.out w hw)⟩
instance sm_conTm (w0 : World) (L : List Blk) (v : Value) (rs : List R_intake_Timed) (b : Nat) (r : api_Report) (T : TypeId) [h : LstC w0 L v R_intake_Timed r_intake_Timed rs] [k : AtC w0 L b (e_api_Report r) T] : SpecM Tryz.prog w0 L 62 [v, vEx b] (.bool (rs.any (isT r))) (rs.length ≤ 1048576) := ⟨fun hp w hw => by
  have hv := fun L => (h.out w hw).lst L
  have f := FoC.mk (k.out w hw)
  refine fn_intro Tryz.func62 rfl Tryz.ntmps62 rfl ?_
  repeat (first | (refine wkB ?_; try intro _) | (refine sC rfl rfl ?_ ?_; focus (exact hp)) | (refine sN rfl rfl ?_ ?_; (focus (exact hp)); intro _; (try simp only [List.cons_append, List.nil_append, List.append_nil])) | refine sMu rfl ?_ | (refine sMm rfl rfl ?_; intro _) | (refine sRg rfl rfl ?_; intro _))
  simp only [idxP_ge]
  repeat (first | (refine wkB ?_; try intro _) | (refine sC rfl rfl ?_ ?_; focus (first | exact trivial | assumption | constructor <;> assumption | exact mb2 rfl rfl | exact mb4 rfl rfl rfl rfl)) | (refine sN rfl rfl ?_ ?_; (focus (first | exact trivial | assumption | constructor <;> assumption | exact mb2 rfl rfl | exact mb4 rfl rfl rfl rfl)); intro _; (try simp only [List.cons_append, List.nil_append, List.append_nil])) | refine sMu rfl ?_ | (refine sMm rfl rfl ?_; intro _) | (refine sRg rfl rfl ?_; intro _))
  exact jx_ret_tmp rfl rfl (fun w hw => ret_ok hw)⟩
/-- What becomes of a report. -/
def explT (v : Int) (l : List (api_Report × Bool)) (r : api_Report) : Int :=
  if statR (sorted (pKR l)) r = 0 then 0 else if statR (sorted (pKR l)) r = 2 then 1 else if statR (sorted (pKR l)) r = 3 then 2
  else if (tmS (cntR (sorted (pKR l)))).any (isT r) = false then 3 else if (kpT v (tmS (cntR (sorted (pKR l))))).any (isT r) then 5 else 4
set_option maxHeartbeats 8000000 in
theorem expl_spec (w0 w : World) (L : List Blk) (px : Nat) (l : List (api_Report × Bool)) (r : api_Report) (s : api_Settings) [h : InkC w0 L px l] (hw : Own w0 L w) (hk : KtOk r.Object s.MaxSpeed l) :
    Calls Tryz.prog 32 [.pointer (some ⟨px, 0, none⟩), .agg (e_api_Report r), .agg (e_api_Settings s)].toArray w (Ret (.tuple #[.int .i64 (explT s.MaxSpeed l r), .int .i64 0]) w) := by
  have hl := hk.len
  have hin := h.all hw
  have hn := hk.n
  have hdef : explT s.MaxSpeed l r = if statR (sorted (pKR l)) r = 0 then 0 else if statR (sorted (pKR l)) r = 2 then 1 else if statR (sorted (pKR l)) r = 3 then 2 else if (tmS (cntR (sorted (pKR l)))).any (isT r) = false then 3 else if (kpT s.MaxSpeed (tmS (cntR (sorted (pKR l))))).any (isT r) then 5 else 4 := rfl
  have hsl : (sorted (pKR l)).length ≤ 1048576 := by rw [sorted_len, List.length_map]; omega
  have hkl : (kpT s.MaxSpeed (tmS (cntR (sorted (pKR l))))).length ≤ 1048576 := by
    have := chainL_few (cCp s.MaxSpeed (tmS (cntR (sorted (pKR l))))) (tmS (cntR (sorted (pKR l)))).length
    rw [kpT_len]
    omega
  have htl : (tmS (cntR (sorted (pKR l)))).length ≤ 1048576 := by omega
  have hk1 : l.length ≤ 12 ∧ ∀ z ∈ cntR (sorted (pKR l)), CntOk r.Object z := ⟨hk.n, hk.c⟩
  refine fn_intro Tryz.func32 rfl Tryz.ntmps32 rfl ?_
  repeat (first | (refine wkB ?_; try intro _) | (refine sC rfl rfl ?_ ?_; focus (first | exact trivial | assumption | constructor <;> assumption | exact mb2 rfl rfl | exact mb4 rfl rfl rfl rfl)) | (refine sN rfl rfl ?_ ?_; (focus (first | exact trivial | assumption | constructor <;> assumption | exact mb2 rfl rfl | exact mb4 rfl rfl rfl rfl)); intro _; (try simp only [List.cons_append, List.nil_append, List.append_nil])) | refine sMu rfl ?_ | (refine sMm rfl rfl ?_; intro _) | (refine sRg rfl rfl ?_; intro _))
  rename_i b4 b5
  (refine j_tree (.v [0, 2] (.e1 1 (.e1 3 (.fin)))) (_) (h := ?_); refine wkX ?_)
  (repeat (refine wkH ?_))
  repeat (first | (refine wkT ?_; try intro _) | (refine tC rfl rfl ?_ ?_; focus (first | exact hn | exact hsl | exact hk)) | (refine uC rfl rfl ?_ ?_; focus (first | exact hn | exact hsl | exact hk)) | (refine eN rfl rfl ?_ ?_; (focus (first | exact hn | exact hsl | exact hk)); intro _; (try simp only [List.cons_append, List.nil_append, List.append_nil])))
  repeat (first | (refine wkB ?_; try intro _) | (refine sC rfl rfl ?_ ?_; focus (first | exact trivial | assumption | constructor <;> assumption | exact mb2 rfl rfl | exact mb4 rfl rfl rfl rfl)) | (refine sN rfl rfl ?_ ?_; (focus (first | exact trivial | assumption | constructor <;> assumption | exact mb2 rfl rfl | exact mb4 rfl rfl rfl rfl)); intro _; (try simp only [List.cons_append, List.nil_append, List.append_nil])) | refine sMu rfl ?_ | (refine sMm rfl rfl ?_; intro _) | (refine sRg rfl rfl ?_; intro _))
  generalize hst : statR (sorted (pKR l)) r = st at *
  by_cases c0 : st = 0
  · rw [if_pos c0] at hdef
    simp only [decide_eq_true c0]
    rw [hdef]
    repeat (first | (refine wkB ?_; try intro _) | (refine sC rfl rfl ?_ ?_; focus (first | exact trivial | assumption | constructor <;> assumption | exact mb2 rfl rfl | exact mb4 rfl rfl rfl rfl)) | (refine sN rfl rfl ?_ ?_; (focus (first | exact trivial | assumption | constructor <;> assumption | exact mb2 rfl rfl | exact mb4 rfl rfl rfl rfl)); intro _; (try simp only [List.cons_append, List.nil_append, List.append_nil])) | refine sMu rfl ?_ | (refine sMm rfl rfl ?_; intro _) | (refine sRg rfl rfl ?_; intro _))
    exact jx_ret_two rfl (resv_tmp rfl) (resv_tmp rfl) (fun w hw => ret_ok hw)
  rw [if_neg c0] at hdef
  simp only [decide_eq_false c0]
  repeat (first | (refine wkB ?_; try intro _) | (refine sC rfl rfl ?_ ?_; focus (first | exact trivial | assumption | constructor <;> assumption | exact mb2 rfl rfl | exact mb4 rfl rfl rfl rfl)) | (refine sN rfl rfl ?_ ?_; (focus (first | exact trivial | assumption | constructor <;> assumption | exact mb2 rfl rfl | exact mb4 rfl rfl rfl rfl)); intro _; (try simp only [List.cons_append, List.nil_append, List.append_nil])) | refine sMu rfl ?_ | (refine sMm rfl rfl ?_; intro _) | (refine sRg rfl rfl ?_; intro _))
  by_cases c2 : st = 2
  · rw [if_pos c2] at hdef
    simp only [decide_eq_true c2]
    rw [hdef]
    repeat (first | (refine wkB ?_; try intro _) | (refine sC rfl rfl ?_ ?_; focus (first | exact trivial | assumption | constructor <;> assumption | exact mb2 rfl rfl | exact mb4 rfl rfl rfl rfl)) | (refine sN rfl rfl ?_ ?_; (focus (first | exact trivial | assumption | constructor <;> assumption | exact mb2 rfl rfl | exact mb4 rfl rfl rfl rfl)); intro _; (try simp only [List.cons_append, List.nil_append, List.append_nil])) | refine sMu rfl ?_ | (refine sMm rfl rfl ?_; intro _) | (refine sRg rfl rfl ?_; intro _))
    exact jx_ret_two rfl (resv_tmp rfl) (resv_tmp rfl) (fun w hw => ret_ok hw)
  rw [if_neg c2] at hdef
  simp only [decide_eq_false c2]
  repeat (first | (refine wkB ?_; try intro _) | (refine sC rfl rfl ?_ ?_; focus (first | exact trivial | assumption | constructor <;> assumption | exact mb2 rfl rfl | exact mb4 rfl rfl rfl rfl)) | (refine sN rfl rfl ?_ ?_; (focus (first | exact trivial | assumption | constructor <;> assumption | exact mb2 rfl rfl | exact mb4 rfl rfl rfl rfl)); intro _; (try simp only [List.cons_append, List.nil_append, List.append_nil])) | refine sMu rfl ?_ | (refine sMm rfl rfl ?_; intro _) | (refine sRg rfl rfl ?_; intro _))
  by_cases c3 : st = 3
  · rw [if_pos c3] at hdef
    simp only [decide_eq_true c3]
    rw [hdef]
    repeat (first | (refine wkB ?_; try intro _) | (refine sC rfl rfl ?_ ?_; focus (first | exact trivial | assumption | constructor <;> assumption | exact mb2 rfl rfl | exact mb4 rfl rfl rfl rfl)) | (refine sN rfl rfl ?_ ?_; (focus (first | exact trivial | assumption | constructor <;> assumption | exact mb2 rfl rfl | exact mb4 rfl rfl rfl rfl)); intro _; (try simp only [List.cons_append, List.nil_append, List.append_nil])) | refine sMu rfl ?_ | (refine sMm rfl rfl ?_; intro _) | (refine sRg rfl rfl ?_; intro _))
    exact jx_ret_two rfl (resv_tmp rfl) (resv_tmp rfl) (fun w hw => ret_ok hw)
  rw [if_neg c3] at hdef
  simp only [decide_eq_false c3]
  repeat (first | (refine wkB ?_; try intro _) | (refine sC rfl rfl ?_ ?_; focus (first | exact hk1 | exact htl)) | (refine sN rfl rfl ?_ ?_; (focus (first | exact hk1 | exact htl)); intro _; (try simp only [List.cons_append, List.nil_append, List.append_nil])) | refine sMu rfl ?_ | (refine sMm rfl rfl ?_; intro _) | (refine sRg rfl rfl ?_; intro _))
  cases hc : (tmS (cntR (sorted (pKR l)))).any (isT r)
  · rw [hc, if_pos rfl] at hdef
    rw [hdef]
    repeat (first | (refine wkB ?_; try intro _) | (refine sC rfl rfl ?_ ?_; focus (first | exact trivial | assumption | constructor <;> assumption | exact mb2 rfl rfl | exact mb4 rfl rfl rfl rfl)) | (refine sN rfl rfl ?_ ?_; (focus (first | exact trivial | assumption | constructor <;> assumption | exact mb2 rfl rfl | exact mb4 rfl rfl rfl rfl)); intro _; (try simp only [List.cons_append, List.nil_append, List.append_nil])) | refine sMu rfl ?_ | (refine sMm rfl rfl ?_; intro _) | (refine sRg rfl rfl ?_; intro _))
    exact jx_ret_two rfl (resv_tmp rfl) (resv_tmp rfl) (fun w hw => ret_ok hw)
  rw [hc, if_neg (by decide)] at hdef
  repeat (first | (refine wkB ?_; try intro _) | (refine sC rfl rfl ?_ ?_; focus (first | exact hk | exact hkl)) | (refine sN rfl rfl ?_ ?_; (focus (first | exact hk | exact hkl)); intro _; (try simp only [List.cons_append, List.nil_append, List.append_nil])) | refine sMu rfl ?_ | (refine sMm rfl rfl ?_; intro _) | (refine sRg rfl rfl ?_; intro _))
  cases hc2 : (kpT s.MaxSpeed (tmS (cntR (sorted (pKR l))))).any (isT r)
  · rw [hc2, if_neg (by decide)] at hdef
    rw [hdef]
    repeat (first | (refine wkB ?_; try intro _) | (refine sC rfl rfl ?_ ?_; focus (first | exact trivial | assumption | constructor <;> assumption | exact mb2 rfl rfl | exact mb4 rfl rfl rfl rfl)) | (refine sN rfl rfl ?_ ?_; (focus (first | exact trivial | assumption | constructor <;> assumption | exact mb2 rfl rfl | exact mb4 rfl rfl rfl rfl)); intro _; (try simp only [List.cons_append, List.nil_append, List.append_nil])) | refine sMu rfl ?_ | (refine sMm rfl rfl ?_; intro _) | (refine sRg rfl rfl ?_; intro _))
    exact jx_ret_two rfl (resv_tmp rfl) (resv_tmp rfl) (fun w hw => ret_ok hw)
  · rw [hc2, if_pos rfl] at hdef
    rw [hdef]
    repeat (first | (refine wkB ?_; try intro _) | (refine sC rfl rfl ?_ ?_; focus (first | exact trivial | assumption | constructor <;> assumption | exact mb2 rfl rfl | exact mb4 rfl rfl rfl rfl)) | (refine sN rfl rfl ?_ ?_; (focus (first | exact trivial | assumption | constructor <;> assumption | exact mb2 rfl rfl | exact mb4 rfl rfl rfl rfl)); intro _; (try simp only [List.cons_append, List.nil_append, List.append_nil])) | refine sMu rfl ?_ | (refine sMm rfl rfl ?_; intro _) | (refine sRg rfl rfl ?_; intro _))
    exact jx_ret_two rfl (resv_tmp rfl) (resv_tmp rfl) (fun w hw => ret_ok hw)
instance sm_expl (w0 : World) (L : List Blk) (px : Nat) (l : List (api_Report × Bool)) (r : api_Report) (s : api_Settings) [h : InkC w0 L px l] : SpecM Tryz.prog w0 L 32 [.pointer (some ⟨px, 0, none⟩), .agg (e_api_Report r), .agg (e_api_Settings s)] (.tuple #[.int .i64 (explT s.MaxSpeed l r), .int .i64 0]) (KtOk r.Object s.MaxSpeed l) := ⟨fun hp w hw => expl_spec w0 w L px l r s hw hp⟩
end Go.Vt
/- The statements' own functions: a report with a time, settings, compatible, a row. Conditions: those that each statement names. -/
set_option linter.unusedSimpArgs false
set_option linter.unusedVariables false
set_option maxHeartbeats 2000000
set_option maxRecDepth 100000
namespace Go.Vt
open Go.RowKit Go.Proofs
def tmd (t q x y : Int) : R_intake_Timed := ⟨(t : Rat), ⟨1, q, 0, 0, t, x, y, false⟩⟩
instance sp_timed (t q x y : Int) : SpecC Tryz.prog 53 [.int .i64 t, .int .i64 q, .int .i64 x, .int .i64 y] (vTm (tmd t q x y)) (-9223372036854775808 ≤ t ∧ t ≤ 9223372036854775807) := ⟨fun hp w => by
  refine fn_intro Tryz.func53 rfl Tryz.ntmps53 rfl ?_
  repeat (first | (refine wkB ?_; try intro _) | (refine sC rfl rfl ?_ ?_; focus (exact hp)) | (refine sN rfl rfl ?_ ?_; (focus (exact hp)); intro _; (try simp only [List.cons_append, List.nil_append, List.append_nil])) | refine sMu rfl ?_ | (refine sMm rfl rfl ?_; intro _) | (refine sRg rfl rfl ?_; intro _))
  exact wx_cell rfl rfl (fun w hw => ret_ok hw)⟩
def exL : List R_intake_Timed := [tmd 0 0 0 0, tmd 1 1 9 0, tmd 2 2 4 0, tmd 9 3 4 0]
instance sr_example (w0 : World) (L : List Blk) : SpecR Tryz.prog w0 L 28 [] (SlS r_intake_Timed 12 exL) (fun s => vSl s) (fun s => mS 36 s) True := ⟨fun _ w hw => by
  refine fn_intro Tryz.func28 rfl Tryz.ntmps28 rfl ?_
  repeat (first | (refine wkB ?_; try intro _) | (refine sC rfl rfl ?_ ?_; focus (exact ⟨by decide, by decide⟩)) | (refine sN rfl rfl ?_ ?_; (focus (exact ⟨by decide, by decide⟩)); intro _; (try simp only [List.cons_append, List.nil_append, List.append_nil])) | refine sMu rfl ?_ | (refine sMm rfl rfl ?_; intro _) | (refine sRg rfl rfl ?_; intro _))
  rename_i b
  obtain ⟨s', hv', hm'⟩ := SlS.put (enc := r_intake_Timed) (k := 12) (b := b) (sp := []) (c := 4) (ys := exL) 36 rfl ⟨Nat.le_refl _, rfl⟩ (by decide)
  refine jx_ret_tmp rfl rfl (fun w hw => ⟨s', ?_, ?_⟩)
  · show Ending.returned _ = Ending.returned (vSl s')
    rw [hv']
    rfl
  · dsimp only
    rw [hm']
    exact hw.sub suB⟩
def setT (a b : Int) : api_Settings := ⟨1 + a % 24, 1 + b % 30⟩
instance sp_Settings (p : Sl) (a b : Int) : SpecC Tryz.prog 20 [.agg (e_viatorlaw28_World ⟨p, a, b⟩)] (.agg (e_api_Settings (setT a b))) ((0 ≤ a ∧ a ≤ 255) ∧ (0 ≤ b ∧ b ≤ 255)) := ⟨fun hp w => by
  obtain ⟨h1, h2⟩ := hp
  refine fn_intro Tryz.func20 rfl Tryz.ntmps20 rfl ?_
  repeat (first | (refine wkB ?_; try intro _) | (refine sC rfl rfl ?_ ?_; focus (exact ⟨by omega, by omega⟩)) | (refine sN rfl rfl ?_ ?_; (focus (exact ⟨by omega, by omega⟩)); intro _; (try simp only [List.cons_append, List.nil_append, List.append_nil])) | refine sMu rfl ?_ | (refine sMm rfl rfl ?_; intro _) | (refine sRg rfl rfl ?_; intro _))
  dsimp only
  repeat (first | (refine wkB ?_; try intro _) | (refine sC rfl rfl ?_ ?_; focus (exact ⟨by omega, by omega⟩)) | (refine sN rfl rfl ?_ ?_; (focus (exact ⟨by omega, by omega⟩)); intro _; (try simp only [List.cons_append, List.nil_append, List.append_nil])) | refine sMu rfl ?_ | (refine sMm rfl rfl ?_; intro _) | (refine sRg rfl rfl ?_; intro _))
  dsimp only
  repeat (first | (refine wkB ?_; try intro _) | (refine sC rfl rfl ?_ ?_; focus (exact ⟨by omega, by omega⟩)) | (refine sN rfl rfl ?_ ?_; (focus (exact ⟨by omega, by omega⟩)); intro _; (try simp only [List.cons_append, List.nil_append, List.append_nil])) | refine sMu rfl ?_ | (refine sMm rfl rfl ?_; intro _) | (refine sRg rfl rfl ?_; intro _))
  exact wx_cell rfl rfl (fun w hw => ret_ok hw)⟩
instance sp_settings (a b : Int) : SpecC Tryz.prog 8 [.int .u8 a, .int .u8 b] (.agg (e_api_Settings (setT a b))) ((0 ≤ a ∧ a ≤ 255) ∧ (0 ≤ b ∧ b ≤ 255)) := ⟨fun hp w => by
  refine fn_intro Tryz.func8 rfl Tryz.ntmps8 rfl ?_
  repeat (first | (refine wkB ?_; try intro _) | (refine sC rfl rfl ?_ ?_; focus (exact hp)) | (refine sN rfl rfl ?_ ?_; (focus (exact hp)); intro _; (try simp only [List.cons_append, List.nil_append, List.append_nil])) | refine sMu rfl ?_ | (refine sMm rfl rfl ?_; intro _) | (refine sRg rfl rfl ?_; intro _))
  exact wx_cell rfl rfl (fun w hw => ret_ok hw)⟩
instance sp_compatR (a b : R_intake_Timed) (s : api_Settings) : SpecC Tryz.prog 10 [vTm a, vTm b, .agg (e_api_Settings s)] (.bool (cpt s.MaxSpeed a b)) (TkOk a ∧ TkOk b ∧ (-1048576 ≤ s.MaxSpeed ∧ s.MaxSpeed ≤ 1048576)) := ⟨fun hp w => by
  obtain ⟨ha, hb, hv⟩ := hp
  have h1 : M b.T ≤ LQ ∧ M a.T ≤ LQ := ⟨Nat.le_trans hb.t (by decide), Nat.le_trans ha.t (by decide)⟩
  have g1 := MB.mk ha.t
  have g2 := MB.mk hb.t
  have g3 := MB.mk (M_int4 (n := s.MaxSpeed) (by omega))
  have h2 : M (s.MaxSpeed : Rat) ≤ LQ ∧ M (b.T - a.T) ≤ LQ := ⟨MB.lt rfl, MB.lt rfl⟩
  have h3 : M ((s.MaxSpeed : Rat) * (b.T - a.T)) ≤ LQ ∧ M ((s.MaxSpeed : Rat) * (b.T - a.T)) ≤ LQ := ⟨MB.lt rfl, MB.lt rfl⟩
  have h6 : -9223372036854775808 ≤ s.MaxSpeed ∧ s.MaxSpeed ≤ 9223372036854775807 := by omega
  have hax := ha.x
  have hay := ha.y
  have hbx := hb.x
  have hby := hb.y
  have sq : ∀ z : Int, -2097152 ≤ z ∧ z ≤ 2097152 → 0 ≤ z * z ∧ z * z ≤ 4398046511104 := fun z hz => by
    refine ⟨?_, ?_⟩
    · rcases Int.le_total 0 z with h | h
      · exact Int.mul_nonneg h h
      · exact Int.mul_nonneg_of_nonpos_of_nonpos h h
    · rcases Int.le_total 0 z with h | h
      · have := Int.mul_le_mul hz.2 hz.2 h (by decide)
        omega
      · have e : z * z = (-z) * (-z) := by rw [Int.neg_mul_neg]
        have := Int.mul_le_mul (a := -z) (b := -z) (c := 2097152) (d := 2097152) (by omega) (by omega) (by omega) (by omega)
        rw [e]
        exact Int.le_trans this (by decide)
  have s1 := sq (b.Report.X - a.Report.X) (by omega)
  have s2 := sq (b.Report.Y - a.Report.Y) (by omega)
  have hd : (((b.Report.X - a.Report.X) * (b.Report.X - a.Report.X) + (b.Report.Y - a.Report.Y) * (b.Report.Y - a.Report.Y) : Int) : Rat) = d2 (ptT a) (ptT b) := by
    simp only [d2, ptT, Rat.intCast_add, Rat.intCast_mul, Rat.intCast_sub]
    grind
  have h4 : M (((b.Report.X - a.Report.X) * (b.Report.X - a.Report.X) + (b.Report.Y - a.Report.Y) * (b.Report.Y - a.Report.Y) : Int) : Rat) ≤ LQ ∧ M (((s.MaxSpeed : Rat) * (b.T - a.T)) * ((s.MaxSpeed : Rat) * (b.T - a.T))) ≤ LQ := by
    refine ⟨?_, MB.lt rfl⟩
    rw [M_int]
    have := mg_small (n := (b.Report.X - a.Report.X) * (b.Report.X - a.Report.X) + (b.Report.Y - a.Report.Y) * (b.Report.Y - a.Report.Y)) (k := 8) (by omega)
    exact Nat.max_le.2 ⟨Nat.le_trans this (by decide), by decide⟩
  refine fn_intro Tryz.func10 rfl Tryz.ntmps10 rfl ?_
  repeat (first | (refine wkB ?_; try intro _) | (refine sC rfl rfl ?_ ?_; focus (exact h1)) | (refine sN rfl rfl ?_ ?_; (focus (exact h1)); intro _; (try simp only [List.cons_append, List.nil_append, List.append_nil])) | refine sMu rfl ?_ | (refine sMm rfl rfl ?_; intro _) | (refine sRg rfl rfl ?_; intro _))
  unfold cpt
  by_cases h0 : 0 < b.T - a.T
  · have h0' := (sign_sub_pos b.T a.T).2 h0
    simp only [decide_eq_false (show ¬ (b.T - a.T).num.sign ≤ 0 by omega)]
    repeat (first | (refine wkB ?_; try intro _) | (refine sC rfl rfl ?_ ?_; focus (first | exact trivial | assumption | constructor <;> assumption | exact mb2 rfl rfl | exact mb4 rfl rfl rfl rfl)) | (refine sN rfl rfl ?_ ?_; (focus (first | exact trivial | assumption | constructor <;> assumption | exact mb2 rfl rfl | exact mb4 rfl rfl rfl rfl)); intro _; (try simp only [List.cons_append, List.nil_append, List.append_nil])) | refine sMu rfl ?_ | (refine sMm rfl rfl ?_; intro _) | (refine sRg rfl rfl ?_; intro _))
    (refine j_tree (.v [0, 1, 2, 3, 4, 5, 6, 7, 8, 9, 10, 11, 12, 13] (.e1 14 (.e1 15 (.fin)))) (_) (h := ?_); refine wkX ?_)
    (repeat (refine wkH ?_))
    repeat (refine wkT ?_; try intro _)
    repeat (first | (refine wkB ?_; try intro _) | (refine sC rfl rfl ?_ ?_; focus (first | exact trivial | assumption | constructor <;> assumption | exact mb2 rfl rfl | exact mb4 rfl rfl rfl rfl)) | (refine sN rfl rfl ?_ ?_; (focus (first | exact trivial | assumption | constructor <;> assumption | exact mb2 rfl rfl | exact mb4 rfl rfl rfl rfl)); intro _; (try simp only [List.cons_append, List.nil_append, List.append_nil])) | refine sMu rfl ?_ | (refine sMm rfl rfl ?_; intro _) | (refine sRg rfl rfl ?_; intro _))
    (refine j_drawL [0, 1, 2, 3, 4] [5] [6] (_) (h := ?_); refine wkI ?_)
    (repeat (first | refine wkH ?_ | (refine tC rfl rfl ?_ ?_; focus (first | exact h6 | exact h2))))
    repeat (refine wkT ?_; try intro _)
    repeat (first | (refine wkB ?_; try intro _) | (refine sC rfl rfl ?_ ?_; focus (first | exact trivial | assumption | constructor <;> assumption | exact mb2 rfl rfl | exact mb4 rfl rfl rfl rfl)) | (refine sN rfl rfl ?_ ?_; (focus (first | exact trivial | assumption | constructor <;> assumption | exact mb2 rfl rfl | exact mb4 rfl rfl rfl rfl)); intro _; (try simp only [List.cons_append, List.nil_append, List.append_nil])) | refine sMu rfl ?_ | (refine sMm rfl rfl ?_; intro _) | (refine sRg rfl rfl ?_; intro _))
    refine jD 14 14 (h := ?_)
    (repeat (first | refine wkH ?_ | (refine tC rfl rfl ?_ ?_; focus (first | exact h3 | exact ⟨by omega, by omega⟩))))
    refine jh_nil ?_
    refine jn_nil ?_
    repeat (first | (refine wkB ?_; try intro _) | (refine sC rfl rfl ?_ ?_; focus (first | exact trivial | assumption | constructor <;> assumption | exact mb2 rfl rfl | exact mb4 rfl rfl rfl rfl)) | (refine sN rfl rfl ?_ ?_; (focus (first | exact trivial | assumption | constructor <;> assumption | exact mb2 rfl rfl | exact mb4 rfl rfl rfl rfl)); intro _; (try simp only [List.cons_append, List.nil_append, List.append_nil])) | refine sMu rfl ?_ | (refine sMm rfl rfl ?_; intro _) | (refine sRg rfl rfl ?_; intro _))
    rw [hd, decide_eq_true h0, Bool.true_and, show decide (d2 (ptT a) (ptT b) ≤ ((s.MaxSpeed : Rat) * (b.T - a.T)) * ((s.MaxSpeed : Rat) * (b.T - a.T))) = decide (cq (d2 (ptT a) (ptT b)) (((s.MaxSpeed : Rat) * (b.T - a.T)) * ((s.MaxSpeed : Rat) * (b.T - a.T))) ≤ 0) from decide_eq_decide.2 cq_le.symm]
    exact jx_ret_tmp rfl rfl (fun w hw => ret_ok hw)
  · have h0' : ¬ 0 < (b.T - a.T).num.sign := fun h => h0 ((sign_sub_pos b.T a.T).1 h)
    simp only [decide_eq_true (show (b.T - a.T).num.sign ≤ 0 by omega)]
    rw [decide_eq_false h0, Bool.false_and]
    repeat (first | (refine wkB ?_; try intro _) | (refine sC rfl rfl ?_ ?_; focus (first | exact trivial | assumption | constructor <;> assumption | exact mb2 rfl rfl | exact mb4 rfl rfl rfl rfl)) | (refine sN rfl rfl ?_ ?_; (focus (first | exact trivial | assumption | constructor <;> assumption | exact mb2 rfl rfl | exact mb4 rfl rfl rfl rfl)); intro _; (try simp only [List.cons_append, List.nil_append, List.append_nil])) | refine sMu rfl ?_ | (refine sMm rfl rfl ?_; intro _) | (refine sRg rfl rfl ?_; intro _))
    exact jx_ret_tmp rfl rfl (fun w hw => ret_ok hw)⟩
end Go.Vt
/- A row of reports, decoded. Conditions: those that each statement names. -/
set_option linter.unusedSimpArgs false
set_option linter.unusedVariables false
set_option maxHeartbeats 2000000
set_option maxRecDepth 100000
namespace Go.Vt
open Go.RowKit Go.Proofs
abbrev Spt := viatorlaw28_Spot
abbrev eSp := e_viatorlaw28_Spot
/-- The first reports of a row, and the time behind them. -/
def rowN (ss : List Spt) : Nat → Int × List R_intake_Timed
  | 0 => (0, [])
  | i + 1 => ((rowN ss i).1 + (gi ss (i : Int)).Later % 9, (rowN ss i).2 ++ [⟨Rat.divInt ((rowN ss i).1 + (gi ss (i : Int)).Later % 9) 4, ⟨1, (i : Int), 0, 0, (rowN ss i).1 + (gi ss (i : Int)).Later % 9, (gi ss (i : Int)).X % 64, (gi ss (i : Int)).Y % 64, false⟩⟩])
def rowT (ss : List Spt) : List R_intake_Timed := (rowN ss (min ss.length 12)).2
/-- The numbers are bytes. -/
def SpOk (ss : List Spt) : Prop := ∀ i : Int, (0 ≤ (gi ss i).Later ∧ (gi ss i).Later ≤ 255) ∧ (0 ≤ (gi ss i).X ∧ (gi ss i).X ≤ 255) ∧ (0 ≤ (gi ss i).Y ∧ (gi ss i).Y ≤ 255)
theorem rowN_len (ss : List Spt) : ∀ m, (rowN ss m).2.length = m
  | 0 => rfl
  | m + 1 => by rw [rowN, List.length_append, rowN_len ss m]; rfl
theorem rowN_time (ss : List Spt) : ∀ m, 0 ≤ (rowN ss m).1 ∧ (rowN ss m).1 ≤ 8 * m
  | 0 => ⟨Int.le_refl _, by simp [rowN]⟩
  | m + 1 => by
    have := rowN_time ss m
    simp only [rowN]
    omega
theorem rowT_len (ss : List Spt) : (rowT ss).length = min ss.length 12 := rowN_len _ _
theorem rowN_ok (ss : List Spt) : ∀ m, m ≤ 12 → ∀ x ∈ (rowN ss m).2, TkOk x
  | 0, _, x, h => by cases h
  | m + 1, hm, x, h => by
    simp only [rowN] at h
    rcases List.mem_append.1 h with h | h
    · exact rowN_ok ss m (by omega) x h
    · rw [List.mem_singleton] at h
      subst h
      have := rowN_time ss m
      refine ⟨Nat.le_trans (M_divInt (k := 4) (mg_small (by omega)) (by decide) (by decide)) (by decide), ?_, ?_⟩
      · show -1048576 ≤ (gi ss (m : Int)).X % 64 ∧ (gi ss (m : Int)).X % 64 ≤ 1048576
        omega
      · show -1048576 ≤ (gi ss (m : Int)).Y % 64 ∧ (gi ss (m : Int)).Y % 64 ≤ 1048576
        omega
theorem rowT_ok (ss : List Spt) : ∀ x ∈ rowT ss, TkOk x := rowN_ok ss _ (Nat.min_le_right _ _)
set_option maxHeartbeats 8000000 in
theorem row_spec (v : Value) (ss : List Spt) (w : World) (hv : ArgS w v eSp ss) (hlen : ss.length ≤ 9223372036854775807) (hok : SpOk ss) :
    Calls Tryz.prog 7 [v].toArray w (RetM (SlS r_intake_Timed 12 (rowT ss)) (fun o => vSl o) (fun o => mS 36 o) w) := by
  obtain ⟨p, cp, rfl⟩ := hv.form
  refine fn_intro Tryz.func7 rfl Tryz.ntmps7 rfl ?_
  repeat (first | (refine wkB ?_; try intro _) | (refine sC rfl rfl ?_ ?_; focus (first | exact trivial | assumption | constructor <;> assumption | exact mb2 rfl rfl | exact mb4 rfl rfl rfl rfl)) | (refine sN rfl rfl ?_ ?_; (focus (first | exact trivial | assumption | constructor <;> assumption | exact mb2 rfl rfl | exact mb4 rfl rfl rfl rfl)); intro _; (try simp only [List.cons_append, List.nil_append, List.append_nil])) | refine sMu rfl ?_ | (refine sMm rfl rfl ?_; intro _) | (refine sRg rfl rfl ?_; intro _))
  refine j_loop (S := (i : Nat) × SlS r_intake_Timed 12 (rowN ss i).2) (fun q => q.1 ≤ ss.length ∧ q.1 ≤ 12) (fun q => [(0, .slice p ss.length cp), (3, vSl q.2), (4, .int .i64 (rowN ss q.1).1), (5, .int .i64 (q.1 : Nat))]) (fun q => mS 36 q.2) (fun q => 12 - q.1) ⟨0, SlS.no⟩ ⟨Nat.zero_le _, Nat.zero_le _⟩ sbB suB (fun q hq => ?_)
  obtain ⟨i, o⟩ := q
  simp only at hq ⊢
  obtain ⟨hq, hq2⟩ := hq
  have hnx : rowN ss (i + 1) = ((rowN ss i).1 + (gi ss (i : Int)).Later % 9, (rowN ss i).2 ++ [⟨Rat.divInt ((rowN ss i).1 + (gi ss (i : Int)).Later % 9) 4, ⟨1, (i : Int), 0, 0, (rowN ss i).1 + (gi ss (i : Int)).Later % 9, (gi ss (i : Int)).X % 64, (gi ss (i : Int)).Y % 64, false⟩⟩]) := rfl
  have hol := rowN_len ss i
  have htm := rowN_time ss i
  have htn := rowN_time ss (i + 1)
  have hob := hok (i : Int)
  by_cases h1 : i < ss.length
  · repeat (first | (refine wkB ?_; try intro _) | (refine sC rfl rfl ?_ ?_; focus (first | exact trivial | assumption | constructor <;> assumption | exact mb2 rfl rfl | exact mb4 rfl rfl rfl rfl)) | (refine sN rfl rfl ?_ ?_; (focus (first | exact trivial | assumption | constructor <;> assumption | exact mb2 rfl rfl | exact mb4 rfl rfl rfl rfl)); intro _; (try simp only [List.cons_append, List.nil_append, List.append_nil])) | refine sMu rfl ?_ | (refine sMm rfl rfl ?_; intro _) | (refine sRg rfl rfl ?_; intro _))
    simp only [decide_eq_true (show (i : Int) < (ss.length : Int) by omega)]
    repeat (first | (refine wkB ?_; try intro _) | (refine sC rfl rfl ?_ ?_; focus (first | exact trivial | assumption | constructor <;> assumption | exact mb2 rfl rfl | exact mb4 rfl rfl rfl rfl)) | (refine sN rfl rfl ?_ ?_; (focus (first | exact trivial | assumption | constructor <;> assumption | exact mb2 rfl rfl | exact mb4 rfl rfl rfl rfl)); intro _; (try simp only [List.cons_append, List.nil_append, List.append_nil])) | refine sMu rfl ?_ | (refine sMm rfl rfl ?_; intro _) | (refine sRg rfl rfl ?_; intro _))
    by_cases h2 : i < 12
    · simp only [decide_eq_true (show (i : Int) < 12 by omega)]
      have hne : ss ≠ [] := fun h0 => by rw [h0] at h1; simp at h1
      obtain ⟨bw, ow, cw, hvw, hcw, hrow⟩ := hv.blk (k := 2) hne []
      injection hvw with e1 e2 e3
      subst e1
      subst e3
      have hrow' : ∀ L, RowC w L bw ow Spt eSp ss := fun L => ⟨fun w' hw' => hrow.out w' (hw'.sub (List.nil_sublist _))⟩
      have hg : 0 ≤ (rowN ss i).1 + (gi ss (i : Int)).Later % 9 ∧ (rowN ss i).1 + (gi ss (i : Int)).Later % 9 ≤ 8 * (i + 1) := by
        rw [hnx] at htn
        exact htn
      repeat (first | (refine wkB ?_; try intro _) | (refine sC rfl rfl ?_ ?_; focus (exact ⟨by omega, by omega⟩)) | (refine sN rfl rfl ?_ ?_; (focus (exact ⟨by omega, by omega⟩)); intro _; (try simp only [List.cons_append, List.nil_append, List.append_nil])) | refine sMu rfl ?_ | (refine sMm rfl rfl ?_; intro _) | (refine sRg rfl rfl ?_; intro _))
      rename_i b6
      (refine j_tree (.v [0, 1, 2, 3, 4, 5, 6, 7, 8, 9, 10, 11, 12, 13, 14, 15, 16, 17, 18, 19] (.e1 20 (.e1 21 (.e1 22 (.fin))))) ([⟨b6, e_api_Rat (Q (Rat.divInt ((rowN ss i).1 + (gi ss (i : Int)).Later % 9) 4)), 32⟩]) (h := ?_); refine wkX ?_)
      (repeat (first | refine wkH ?_ | (refine tC rfl rfl ?_ ?_; focus (exact ⟨by omega, by omega⟩))))
      repeat (refine wkT ?_; try intro _)
      refine eU rfl rfl ?_ ?_ ?_ ?_
      · rfl
      · rfl
      · exact ⟨by decide, by omega, by omega⟩
      intro o'
      repeat (refine wkT ?_; try intro _)
      obtain ⟨s3, e1, e2⟩ := SlS.turn 36 (show _ = (rowN ss (i + 1)).2 by rw [hnx]) o'
      repeat (first | (refine wkB ?_; try intro _) | (refine sC rfl rfl ?_ ?_; focus (exact ⟨by omega, by omega⟩)) | (refine sN rfl rfl ?_ ?_; (focus (exact ⟨by omega, by omega⟩)); intro _; (try simp only [List.cons_append, List.nil_append, List.append_nil])) | refine sMu rfl ?_ | (refine sMm rfl rfl ?_; intro _) | (refine sRg rfl rfl ?_; intro _))
      exact jx_loop ⟨i + 1, s3⟩ ⟨h1, h2⟩ (by simp only [e1, hnx]; exact sbB) (by simp only [e2]; exact suB) (by show 12 - (i + 1) < 12 - i; omega)
    · simp only [decide_eq_false (show ¬ (i : Int) < 12 by omega)]
      repeat (first | (refine wkB ?_; try intro _) | (refine sC rfl rfl ?_ ?_; focus (first | exact trivial | assumption | constructor <;> assumption | exact mb2 rfl rfl | exact mb4 rfl rfl rfl rfl)) | (refine sN rfl rfl ?_ ?_; (focus (first | exact trivial | assumption | constructor <;> assumption | exact mb2 rfl rfl | exact mb4 rfl rfl rfl rfl)); intro _; (try simp only [List.cons_append, List.nil_append, List.append_nil])) | refine sMu rfl ?_ | (refine sMm rfl rfl ?_; intro _) | (refine sRg rfl rfl ?_; intro _))
      have hm : i = min ss.length 12 := by omega
      obtain ⟨s3, e1, e2⟩ := SlS.turn 36 (show (rowN ss i).2 = rowT ss by rw [rowT, ← hm]) o
      exact jx_ret_tmp rfl rfl (fun w hw => ⟨s3, by show Ending.returned (vSl o) = Ending.returned (vSl s3); rw [e1], by
        show Own _ (mS 36 s3) w
        rw [e2]
        exact hw.sub suB⟩)
  · repeat (first | (refine wkB ?_; try intro _) | (refine sC rfl rfl ?_ ?_; focus (first | exact trivial | assumption | constructor <;> assumption | exact mb2 rfl rfl | exact mb4 rfl rfl rfl rfl)) | (refine sN rfl rfl ?_ ?_; (focus (first | exact trivial | assumption | constructor <;> assumption | exact mb2 rfl rfl | exact mb4 rfl rfl rfl rfl)); intro _; (try simp only [List.cons_append, List.nil_append, List.append_nil])) | refine sMu rfl ?_ | (refine sMm rfl rfl ?_; intro _) | (refine sRg rfl rfl ?_; intro _))
    simp only [decide_eq_false (show ¬ (i : Int) < (ss.length : Int) by omega)]
    repeat (first | (refine wkB ?_; try intro _) | (refine sC rfl rfl ?_ ?_; focus (first | exact trivial | assumption | constructor <;> assumption | exact mb2 rfl rfl | exact mb4 rfl rfl rfl rfl)) | (refine sN rfl rfl ?_ ?_; (focus (first | exact trivial | assumption | constructor <;> assumption | exact mb2 rfl rfl | exact mb4 rfl rfl rfl rfl)); intro _; (try simp only [List.cons_append, List.nil_append, List.append_nil])) | refine sMu rfl ?_ | (refine sMm rfl rfl ?_; intro _) | (refine sRg rfl rfl ?_; intro _))
    have hm : i = min ss.length 12 := by omega
    obtain ⟨s3, e1, e2⟩ := SlS.turn 36 (show (rowN ss i).2 = rowT ss by rw [rowT, ← hm]) o
    exact jx_ret_tmp rfl rfl (fun w hw => ⟨s3, by show Ending.returned (vSl o) = Ending.returned (vSl s3); rw [e1], by
      show Own _ (mS 36 s3) w
      rw [e2]
      exact hw.sub suB⟩)
instance sr_row (w0 : World) (L : List Blk) (v : Value) (ss : List Spt) [h : LstC w0 L v Spt eSp ss] : SpecR Tryz.prog w0 L 7 [v] (SlS r_intake_Timed 12 (rowT ss)) (fun o => vSl o) (fun o => mS 36 o) (ss.length ≤ 9223372036854775807 ∧ SpOk ss) := ⟨fun hp w hw => row_spec v ss w (h.out w hw) hp.1 hp.2⟩
end Go.Vt
/- What the rows of this seat share: the witness's world with its two tables, and the reading of spots and settings. Conditions: none. -/
set_option linter.unusedSimpArgs false
set_option linter.unusedVariables false
set_option maxHeartbeats 2000000
namespace Go.Proofs.YtecgnhneekbhgaaGreatDoor
open Go.ChangeShapes Go.WideShapes Go.ChangeAt Go.RowKit Go.Deep Go.Vt
set_option maxRecDepth 100000
theorem rown : ownKnob Tryz.prog.godebug = none := by kernel_rfl
theorem rlaidOut : laidOutB Tryz.prog = true := by kernel_rfl
theorem runder22 : Tryz.prog.underlying 22 = some (.slice 52) := by kernel_rfl
theorem rcells52 : Tryz.prog.cellsOf 52 = 3 := by kernel_rfl
theorem runder5 : Tryz.prog.underlying 5 = some (.int .u8) := by kernel_rfl
theorem rcells5 : Tryz.prog.cellsOf 5 = 1 := by kernel_rfl
theorem runder52 : ∃ f0 f1 f2, Tryz.prog.underlying 52 = some (.struct #[f0, f1, f2]) ∧ f0.type = 5 ∧ f1.type = 5 ∧ f2.type = 5 ∧ f0.offset = 0 ∧ f1.offset = 1 ∧ f2.offset = 2 := ⟨_, _, _, Tryz.underlying52, rfl, rfl, rfl, rfl, rfl, rfl⟩
theorem u8_wf {n : Int} (h : (Lit.int .u8 n).wf = true) : 0 ≤ n ∧ n ≤ 255 := by
  simp only [Lit.wf, Bool.and_eq_true, decide_eq_true_eq] at h
  exact ⟨h.1, h.2⟩
theorem eq_spt (x : Spt) : eSp x = #[.int .u8 x.Later, .int .u8 x.X, .int .u8 x.Y] := rfl
/-- Spots that read are a slice of them. -/
theorem open_spots {H : Type} {enc : TypeId × Value → H} {W : World} {base : Nat} {held : Bool} {fuel : Nat} {v : Value} {x : DataW H × List MemPlace} (hs : ∃ a l c, v = .slice a l c) (h : DataW.trod enc Tryz.prog W base (fun _ => true) held fuel 22 v.cells.toList = some x) :
    ∃ ss : List Spt, ArgS W v eSp ss ∧ SpOk ss ∧ ss.length ≤ 9223372036854775807 := by
  obtain ⟨a0, l0, c0, rfl⟩ := hs
  rcases open_slice runder22 h with ⟨h0, _⟩ | ⟨a, len, cap, m, n, D, Pl, hcs, hb, hl, hm, hmm, hx, hc⟩
  · simp [Value.cells] at h0
    obtain ⟨rfl, rfl, rfl⟩ := h0
    exact ⟨[], ⟨.inl ⟨rfl, rfl⟩⟩, fun i => by rw [show gi ([] : List Spt) i = default from rfl]; decide, by simp⟩
  · simp [Value.cells] at hcs
    obtain ⟨rfl, rfl, rfl⟩ := hcs
    obtain ⟨f0, f1, f2, he, t0, t1, t2, o0, o1, o2⟩ := runder52
    have each : ∀ i, i < m → ∃ q : Int × Int × Int, W.cell? (a.add (i * 3)) = some (.int .u8 q.1) ∧ W.cell? (a.add (i * 3 + 1)) = some (.int .u8 q.2.1) ∧ W.cell? (a.add (i * 3 + 2)) = some (.int .u8 q.2.2) ∧ (0 ≤ q.1 ∧ q.1 ≤ 255) ∧ (0 ≤ q.2.1 ∧ q.2.1 ≤ 255) ∧ (0 ≤ q.2.2 ∧ q.2.2 ≤ 255) := by
      intro i hi
      obtain ⟨cs', h1, h2⟩ := hc i hi
      rw [rcells52] at h1
      obtain ⟨_, hlen, hcell⟩ := World.cells?_some h1
      obtain ⟨xs, k, hk, hxy, _, hxl, hf⟩ := DataW.trod_struct he h2
      match xs, hxl, cs', hlen with
      | [y0, y1, y2], _, [v0, v1, v2], _ =>
        have g0 := hf 0 f0 rfl
        have g1 := hf 1 f1 rfl
        have g2 := hf 2 f2 rfl
        simp [o0, o1, o2, t0, t1, t2, rcells5] at g0 g1 g2
        have e0 := hcell 0 (by omega)
        have e1 := hcell 1 (by omega)
        have e2 := hcell 2 (by omega)
        rw [add_add] at e0 e1 e2
        obtain ⟨n0, p0, _, q0⟩ := DataW.trod_int runder5 g0
        obtain ⟨n1, p1, _, q1⟩ := DataW.trod_int runder5 g1
        obtain ⟨n2, p2, _, q2⟩ := DataW.trod_int runder5 g2
        simp only [List.cons.injEq, and_true] at p0 p1 p2
        subst p0; subst p1; subst p2
        exact ⟨(n0, n1, n2), by simpa using e0, by simpa using e1, by simpa using e2, u8_wf q0, u8_wf q1, u8_wf q2⟩
    obtain ⟨q, hq⟩ := choose_lt each
    have hlm : l0 ≤ m := by rw [hmm]; simpa using hl
    refine ⟨(List.range l0).map fun i => ⟨(q i).1, (q i).2.1, (q i).2.2⟩, ⟨.inr ⟨a, c0, by simp, by simpa using hl, fun i f k u hi hk hu => ?_⟩⟩, fun i => ?_, ?_⟩
    · simp only [List.length_map, List.length_range] at hi
      obtain rfl : k = 3 := by rw [← hk default]; rfl
      have hqi := hq i (by omega)
      simp only [List.getElem_map, List.getElem_range, eq_spt] at hu
      match f, hu with
      | 0, hu => simp at hu; subst hu; exact hqi.1
      | 1, hu => simp at hu; subst hu; exact hqi.2.1
      | 2, hu => simp at hu; subst hu; exact hqi.2.2.1
      | f + 3, hu => simp at hu
    · by_cases hi : i.toNat < l0
      · rw [gi_eq (by simpa using hi)]
        simp only [List.getElem_map, List.getElem_range]
        exact (hq _ (by omega)).2.2.2
      · rw [show gi ((List.range l0).map fun i => (⟨(q i).1, (q i).2.1, (q i).2.2⟩ : Spt)) i = default by unfold gi; rw [List.getD_eq_getElem?_getD, List.getElem?_eq_none (by simp; omega)]; rfl]
        decide
    · simp only [List.length_map, List.length_range]
      have : (maxLen : Nat) = 9223372036854775807 := by decide
      omega
def cAcc : Array Value := #[.int .u8 128, .int .u8 191, .int .u8 160, .int .u8 191, .int .u8 128, .int .u8 159, .int .u8 144, .int .u8 191, .int .u8 128, .int .u8 143, .int .u8 0, .int .u8 0, .int .u8 0, .int .u8 0, .int .u8 0, .int .u8 0, .int .u8 0, .int .u8 0, .int .u8 0, .int .u8 0, .int .u8 0, .int .u8 0, .int .u8 0, .int .u8 0, .int .u8 0, .int .u8 0, .int .u8 0, .int .u8 0, .int .u8 0, .int .u8 0, .int .u8 0, .int .u8 0]
def cFirst : Array Value := (Pinned.utf8FirstZ.map fun (n : Nat) => Value.int .u8 (n : Int)).toArray
def putCells (cs : Array Value) : Obj → Obj
  | .cells _ t frozen => .cells cs t frozen
  | o => o
/-- The settled world, its tables as their initialisers lay them. -/
noncomputable def laidWorld (os : Os) : World :=
  { World.holding Tryz.prog os ⟨#[], #[], []⟩ with heap := ((World.holding Tryz.prog os ⟨#[], #[], []⟩).heap.modify 1 (putCells cFirst)).modify 2 (putCells cAcc) }
theorem laid_met (os : Os) (args : Array Value) : laidMet Tryz.prog Rows.reconstructSettingsRow.laid ((laidWorld os).forCall (fun _ _ => 0) ⟨#[], args, []⟩).memory :=
  laidMet_of_run3 8 (by kernel_rfl) (by kernel_rfl) (by kernel_rfl)
end Go.Proofs.YtecgnhneekbhgaaGreatDoor
/- The example's values. Conditions: those that each statement names. -/
set_option linter.unusedSimpArgs false
set_option linter.unusedVariables false
set_option maxHeartbeats 2000000
set_option maxRecDepth 100000
namespace Go.Vt
open Go.RowKit Go.Proofs
def exR : List api_Report := exL.map (·.Report)
def exP : List (api_Report × Bool) := exR.map fun r => (r, true)
theorem nwR_ex : nwR [] exR = exP := by decide +kernel
theorem mput_new {κ α : Type} [DecidableEq κ] {x : κ} {v : α} : ∀ {l : List (κ × α)}, x ∉ l.map (·.1) → mput l x v = l ++ [(x, v)]
  | [], _ => rfl
  | p :: l, h => by
    rw [List.map_cons, List.mem_cons, not_or] at h
    rw [mput, if_neg h.1, mput_new h.2]
    rfl
theorem cpy_new {κ α : Type} [DecidableEq κ] : ∀ (q l : List (κ × α)), ((l ++ q).map (·.1)).Nodup → cpy l q = l ++ q
  | [], l, _ => (List.append_nil l).symm
  | p :: q, l, h => by
    have h1 : p.1 ∉ l.map (·.1) := by
      rw [List.map_append, List.nodup_append] at h
      exact fun h2 => h.2.2 _ h2 _ (List.mem_map.2 ⟨p, .head _, rfl⟩) rfl
    have h2 : cpy l (p :: q) = cpy (l ++ [p]) q := by
      show cpy (mput l p.1 p.2) q = _
      rw [mput_new h1]
    rw [h2, cpy_new q (l ++ [p]) (by rw [List.append_assoc]; exact h), List.append_assoc]
    rfl
theorem exP_keys : (exP.map (·.1)).Nodup := by decide +kernel
theorem cpy_ex {q : List (api_Report × Bool)} (h : q.Perm (nwR [] exR)) : (cpy [] q).Perm exP := by
  rw [nwR_ex] at h
  rw [cpy_new q [] ((h.map _).nodup_iff.2 exP_keys)]
  exact h
instance : DecidableRel leRp := fun a b => inferInstanceAs (Decidable (cmpRp a b ≤ 0))
theorem exR_ord : exR.Pairwise leRp := by decide +kernel
theorem sorted_ex {l : List (api_Report × Bool)} (h : l.Perm exP) : sorted (pKR l) = exR := by
  rw [sorted_of_perm (h.map (·.1))]
  exact sorted_same exR_ord
theorem cntR_ex : cntR exR = exR := by decide +kernel
theorem tmS_ex : tmS exR = exL := by decide +kernel
theorem chn_ex : chainL (cCp 2 exL) exL.length = [0, 2, 3] := by decide +kernel
def exK : List R_intake_Timed := [tmd 0 0 0 0, tmd 2 2 4 0, tmd 9 3 4 0]
theorem kpT_ex : kpT 2 exL = exK := by decide +kernel
theorem gpT_ex : (gpT 5 exK (exK.length - 1)).length = 1 := by decide +kernel
theorem exL_ok : ∀ x ∈ exL, TkOk x := fun x hx => by
  have h1 : M (0 : Rat) ≤ 8 ∧ M (1 : Rat) ≤ 8 ∧ M (2 : Rat) ≤ 8 ∧ M (9 : Rat) ≤ 8 := by decide +kernel
  simp only [exL, List.mem_cons, List.not_mem_nil, or_false] at hx
  rcases hx with rfl | rfl | rfl | rfl
  · exact ⟨h1.1, by decide, by decide⟩
  · exact ⟨h1.2.1, by decide, by decide⟩
  · exact ⟨h1.2.2.1, by decide, by decide⟩
  · exact ⟨h1.2.2.2, by decide, by decide⟩
theorem exK_ok : ∀ x ∈ exK, TkOk x := fun x hx => exL_ok x (by
  rw [← kpT_ex] at hx
  exact kpT_mem hx)
theorem exK_inc : Inc (spL exK) := fun i hi => by
  have h : i = 0 ∨ i = 1 := by
    have : (spL exK).length = 3 := rfl
    omega
  rcases h with rfl | rfl
  · decide +kernel
  · decide +kernel
theorem kt_ex {l : List (api_Report × Bool)} (h : l.Perm exP) : KtOk 1 2 l := by
  refine ⟨?_, ?_, ?_, by decide⟩
  · rw [h.length_eq]
    decide
  · rw [sorted_ex h, cntR_ex]
    intro r hr
    simp only [exR, exL, List.map_cons, List.map_nil, List.mem_cons, List.not_mem_nil, or_false] at hr
    rcases hr with rfl | rfl | rfl | rfl <;> exact ⟨rfl, rfl, by decide⟩
  · rw [sorted_ex h, cntR_ex, tmS_ex]
    exact exL_ok
theorem explT_ex {l : List (api_Report × Bool)} (h : l.Perm exP) : explT 2 l (tmd 1 1 9 0).Report = 4 := by
  unfold explT
  rw [sorted_ex h, cntR_ex, tmS_ex, kpT_ex]
  decide +kernel
def exU : List PU := (thrT exK 5 exK.length).1
theorem exU_val : exU.length = 2 ∧ (gi exU 0).In = ⟨⟨0, 0, false⟩, ⟨2, 0, false⟩, false, false⟩ ∧ (gi exU 0).F = ⟨0, 2, 0, 0⟩ ∧ (gi exU 1).In.From = ⟨9, 0, false⟩ := by decide +kernel
end Go.Vt
/- The law's check of the chapter's example, walked. Conditions: none. -/
set_option linter.unusedSimpArgs false
set_option linter.unusedVariables false
set_option maxHeartbeats 2000000
set_option maxRecDepth 100000
namespace Go.Vt
open Go.RowKit Go.Proofs
instance lst3K {α : Type} {enc : α → Array Value} {k : Nat} {x y z : α} {sp : List Value} [he : EncC enc k] (w0 : World) (L : List Blk) (b c : Nat) (T : TypeId) [h : AtC w0 L b (row enc [x, y, z] sp) T] : LstC w0 L (.slice (some ⟨b, 0, none⟩) 3 (c + 3)) α enc [x, y, z] := ⟨fun w hw => by
  obtain ⟨fz, hb⟩ := h.out w hw
  exact argS_row (c := c + 3) hb (Nat.le_add_left 3 c)⟩
instance (priority := low) inkOwn (w0 : World) (L : List Blk) (px m1 m2 : Nat) (l : List (api_Report × Bool)) (Tx : TypeId) [h1 : AtC w0 L px (vIn m1 m2) Tx] [h2 : AtO w0 L m1 (mRp l)] [h3 : AtO w0 L m2 (mEx [])] : InkC w0 L px l := ⟨m1, m2, Tx, h1, h2, h3⟩
abbrev sEx : api_Settings := ⟨2, 5⟩
theorem exL_val : ∀ r ∈ exR, RepV r := fun r hr => by
  simp only [exR, exL, List.map_cons, List.map_nil, List.mem_cons, List.not_mem_nil, or_false] at hr
  rcases hr with rfl | rfl | rfl | rfl <;> (constructor <;> decide)
set_option maxHeartbeats 8000000 in
theorem known_spec (w : World) : Calls Tryz.prog 11 ([] : List Value).toArray w (Ret (.bool true) w) := by
  refine fn_intro Tryz.func11 rfl Tryz.ntmps11 rfl ?_
  have hc : exL.length ≤ 4096 ∧ (∀ x ∈ exL, TkOk x) ∧ (-1048576 ≤ sEx.MaxSpeed ∧ sEx.MaxSpeed ≤ 1048576) := ⟨by decide, exL_ok, by decide⟩
  have hcl : decide ((((cI (chainL (cCp 2 exL) exL.length)).length : Nat) : Int) = 3) = true := by rw [chn_ex]; rfl
  repeat (first | (refine wkB ?_; try intro _) | (refine sC rfl rfl ?_ ?_; focus (first | exact trivial | exact hc)) | (refine sN rfl rfl ?_ ?_; (focus (first | exact trivial | exact hc)); intro _; (try simp only [List.cons_append, List.nil_append, List.append_nil])) | refine sMu rfl ?_ | (refine sMm rfl rfl ?_; intro _) | (refine sRg rfl rfl ?_; intro _))
  rename_i b1 s1 c1
  obtain ⟨c, e1, e2⟩ := SlS.turn 3 (show cI (chainL (cCp 2 exL) exL.length) = [0, 2, 3] by rw [chn_ex]; rfl) c1
  rw [← e1]
  simp only [← e2, hcl, Bool.not_true]
  clear e1 e2 c1
  rcases c.cases 3 with ⟨y0, -, -⟩ | ⟨bc, cc, sq, hc2, y1, y2, yne⟩
  · cases y0
  rcases s1.cases 36 with ⟨x0, -, -⟩ | ⟨bs, cb, sp, hc1, x1, x2, xne⟩
  · cases x0
  simp only [x1, x2, y1, y2, List.cons_append, List.nil_append]
  have hl3 : ([0, 2, 3] : List Int).length = 3 := rfl
  have hl4 : exL.length = 4 := rfl
  repeat (first | (refine wkB ?_; try intro _) | (refine sC rfl rfl ?_ ?_; focus (first | exact trivial | assumption | constructor <;> assumption | exact mb2 rfl rfl | exact mb4 rfl rfl rfl rfl)) | (refine sN rfl rfl ?_ ?_; (focus (first | exact trivial | assumption | constructor <;> assumption | exact mb2 rfl rfl | exact mb4 rfl rfl rfl rfl)); intro _; (try simp only [List.cons_append, List.nil_append, List.append_nil])) | refine sMu rfl ?_ | (refine sMm rfl rfl ?_; intro _) | (refine sRg rfl rfl ?_; intro _))
  simp only [decide_eq_true (show gi ([0, 2, 3] : List Int) 0 = 0 from rfl), Bool.not_true]
  repeat (first | (refine wkB ?_; try intro _) | (refine sC rfl rfl ?_ ?_; focus (first | exact trivial | assumption | constructor <;> assumption | exact mb2 rfl rfl | exact mb4 rfl rfl rfl rfl)) | (refine sN rfl rfl ?_ ?_; (focus (first | exact trivial | assumption | constructor <;> assumption | exact mb2 rfl rfl | exact mb4 rfl rfl rfl rfl)); intro _; (try simp only [List.cons_append, List.nil_append, List.append_nil])) | refine sMu rfl ?_ | (refine sMm rfl rfl ?_; intro _) | (refine sRg rfl rfl ?_; intro _))
  simp only [decide_eq_true (show gi ([0, 2, 3] : List Int) 1 = 2 from rfl), Bool.not_true]
  repeat (first | (refine wkB ?_; try intro _) | (refine sC rfl rfl ?_ ?_; focus (first | exact trivial | assumption | constructor <;> assumption | exact mb2 rfl rfl | exact mb4 rfl rfl rfl rfl)) | (refine sN rfl rfl ?_ ?_; (focus (first | exact trivial | assumption | constructor <;> assumption | exact mb2 rfl rfl | exact mb4 rfl rfl rfl rfl)); intro _; (try simp only [List.cons_append, List.nil_append, List.append_nil])) | refine sMu rfl ?_ | (refine sMm rfl rfl ?_; intro _) | (refine sRg rfl rfl ?_; intro _))
  simp only [decide_eq_true (show gi ([0, 2, 3] : List Int) 2 = 3 from rfl), Bool.not_true]
  repeat (first | (refine wkB ?_; try intro _) | (refine sC rfl rfl ?_ ?_; focus (first | exact trivial | assumption | constructor <;> assumption | exact mb2 rfl rfl | exact mb4 rfl rfl rfl rfl)) | (refine sN rfl rfl ?_ ?_; (focus (first | exact trivial | assumption | constructor <;> assumption | exact mb2 rfl rfl | exact mb4 rfl rfl rfl rfl)); intro _; (try simp only [List.cons_append, List.nil_append, List.append_nil])) | refine sMu rfl ?_ | (refine sMm rfl rfl ?_; intro _) | (refine sRg rfl rfl ?_; intro _))
  have hth : exK.length ≤ 19 ∧ (∀ x ∈ exK, TkOk x) ∧ Inc (spL exK) ∧ (-2147483648 ≤ sEx.MaxGap ∧ sEx.MaxGap ≤ 2147483648) := ⟨by decide, exK_ok, exK_inc, by decide⟩
  refine j_cut (S := SlS rP 36 exU) (fun _ => True) (fun q => [(0, .bool false), (1, .pointer (some ⟨b1, 0, none⟩)), (2, .slice (some ⟨bs, 0, none⟩) exL.length cb), (4, vSl q)]) (fun q => mS 87 q ++ [⟨bs, row r_intake_Timed exL sp, 36⟩, ⟨b1, e_api_Settings sEx, 26⟩]) ?_ (fun u _ => ?_)
  · (refine j_tree (.v [0, 1, 2, 3, 4, 5, 6, 7, 8, 10] (.e1 9 (.e1 11 (.e1 12 (.fin))))) (_) (h := ?_); refine wkX ?_)
    (repeat (refine wkH ?_))
    repeat (first | (refine wkT ?_; try intro _) | (refine tC rfl rfl ?_ ?_; focus (exact hth)) | (refine uC rfl rfl ?_ ?_; focus (exact hth)) | (refine eN rfl rfl ?_ ?_; (focus (exact hth)); intro _; (try simp only [List.cons_append, List.nil_append, List.append_nil])))
    rename_i bq s9
    obtain ⟨u, e1, e2⟩ := SlS.turn 87 (show (thrT [gi exL 0, gi exL 2, gi exL 3] 5 [gi exL 0, gi exL 2, gi exL 3].length).1 = exU from rfl) s9
    exact jx_mid u trivial (by simp only [e1]; exact sbB) (by simp only [e2]; exact suB)
  clear y1 y2 yne hc2 hcl c x1 x2 s1
  repeat (first | (refine wkB ?_; try intro _) | (refine sC rfl rfl ?_ ?_; focus (exact trivial)) | (refine sN rfl rfl ?_ ?_; (focus (exact trivial)); intro _; (try simp only [List.cons_append, List.nil_append, List.append_nil])) | refine sMu rfl ?_ | (refine sMm rfl rfl ?_; intro _) | (refine sRg rfl rfl ?_; intro _))
  rename_i pn
  obtain ⟨px, m1, m2⟩ := pn
  simp only [List.cons_append, List.nil_append]
  refine j_cut (S := { l : List (api_Report × Bool) // l.Perm exP }) (fun _ => True) (fun q => [(0, .bool false), (1, .pointer (some ⟨b1, 0, none⟩)), (2, .slice (some ⟨bs, 0, none⟩) exL.length cb), (4, vSl u), (5, .pointer (some ⟨px, 0, none⟩)), (7, .int .i64 0)]) (fun q => ⟨m1, .obj (mRp q.1), 113⟩ :: ⟨px, vIn m1 m2, 116⟩ :: ⟨m2, .obj (mEx []), 114⟩ :: (mS 87 u ++ [⟨bs, row r_intake_Timed exL sp, 36⟩, ⟨b1, e_api_Settings sEx, 26⟩])) ?_ (fun q _ => ?_)
  · (refine j_tree (.v [0, 1, 2, 3, 4, 5, 6, 7, 8, 9, 10, 11, 12, 13, 14, 15, 16] (.e1 17 (.v [18] (.e1 19 (.v [20, 21, 22] (.e1 23 (.e1 24 (.fin)))))))) ([⟨bs, row r_intake_Timed exL sp, 36⟩]) (h := ?_); refine wkX ?_)
    (repeat (refine wkH ?_))
    repeat (refine wkT ?_; try intro _)
    rename_i bt
    have hadd : exR.length = 4 ∧ ([] : List (api_Report × Bool)).length + 4 ≤ 4096 ∧ ∀ r ∈ exR, RepV r := ⟨rfl, by decide, exL_val⟩
    refine eZ rfl rfl ?_ ?_ ?_
    · intro q
      exact suB
    · exact hadd
    intro q
    repeat (refine wkT ?_; try intro _)
    exact jx_mid ⟨_, cpy_ex q.2⟩ trivial sbB suB
  obtain ⟨l, hp⟩ := q
  have hk : KtOk 1 sEx.MaxSpeed l := kt_ex hp
  have hkg : KtOk 1 sEx.MaxSpeed l ∧ (-2147483648 ≤ sEx.MaxGap ∧ sEx.MaxGap ≤ 2147483648) := ⟨hk, by decide⟩
  have hlg : (gpT 5 (kpT 2 (tmS (cntR (sorted (pKR l))))) ((kpT 2 (tmS (cntR (sorted (pKR l))))).length - 1)).length = 1 := by
    rw [sorted_ex hp, cntR_ex, tmS_ex, kpT_ex]
    exact gpT_ex
  obtain ⟨v1, -, -, -⟩ := exU_val
  have w2 : decide ((gi exU 0).In = (⟨zR_api_Real, ⟨((2 : Int) : Rat), 0, false⟩, false, false⟩ : R_api_Interval)) = true := by decide +kernel
  have w3 : decide ((gi exU 0).F = (⟨0, ((2 : Int) : Rat), 0, 0⟩ : R_api_Line)) = true := by decide +kernel
  have w4 : decide ((gi exU 1).In.From = (⟨((9 : Int) : Rat), 0, false⟩ : R_api_Real)) = true := by decide +kernel
  generalize exU = U at *
  rcases u.cases 87 with ⟨z0, -, -⟩ | ⟨bu, cu, su, hc4, z1, z2, zne⟩
  · rw [z0] at v1
    cases v1
  simp only [z1, z2, List.cons_append, List.nil_append]
  repeat (first | (refine wkB ?_; try intro _) | (refine sC rfl rfl ?_ ?_; focus (exact hkg)) | (refine sN rfl rfl ?_ ?_; (focus (exact hkg)); intro _; (try simp only [List.cons_append, List.nil_append, List.append_nil])) | refine sMu rfl ?_ | (refine sMm rfl rfl ?_; intro _) | (refine sRg rfl rfl ?_; intro _))
  rename_i g
  refine j_cut (S := Unit) (fun _ => True) (fun _ => [(0, .bool false), (4, .slice (some ⟨bu, 0, none⟩) U.length cu), (7, .int .i64 0), (8, vSl g), (9, .int .i64 0), (10, .int .i64 4), (11, .int .i64 0)]) (fun _ => mS 83 g ++ [⟨bu, row rP U su, 87⟩]) ?_ (fun _ _ => ?_)
  · (refine j_tree (.v [0, 1, 2, 3, 4, 5, 6, 7, 8, 9] (.e1 10 (.e1 11 (.fin)))) (_) (h := ?_); refine wkX ?_)
    (repeat (first | refine wkH ?_ | (refine tC rfl rfl ?_ ?_; focus (exact hk))))
    rw [show explT 2 l (q_intake_Timed (gi exL 1)).Report = 4 from explT_ex hp]
    repeat (refine wkT ?_; try intro _)
    exact jx_mid () trivial sbB suB
  clear hc hth hk hkg
  generalize gpT 5 (kpT 2 (tmS (cntR (sorted (pKR l))))) ((kpT 2 (tmS (cntR (sorted (pKR l))))).length - 1) = G at *
  repeat (first | (refine wkB ?_; try intro _) | (refine sC rfl rfl ?_ ?_; focus (first | exact trivial | assumption | constructor <;> assumption | exact mb2 rfl rfl | exact mb4 rfl rfl rfl rfl)) | (refine sN rfl rfl ?_ ?_; (focus (first | exact trivial | assumption | constructor <;> assumption | exact mb2 rfl rfl | exact mb4 rfl rfl rfl rfl)); intro _; (try simp only [List.cons_append, List.nil_append, List.append_nil])) | refine sMu rfl ?_ | (refine sMm rfl rfl ?_; intro _) | (refine sRg rfl rfl ?_; intro _))
  refine jD 51 51 (h := ?_)
  (repeat (refine wkH ?_))
  simp only [decide_eq_true (show ((U.length : Nat) : Int) = 2 by omega)]
  (repeat (first | refine wkH ?_ | (refine tC rfl rfl ?_ ?_; focus (exact ⟨by decide, by decide⟩))))
  simp only [w2]
  (repeat (first | refine wkH ?_ | (refine tC rfl rfl ?_ ?_; focus (exact ⟨by decide, by decide⟩))))
  simp only [w3]
  (repeat (first | refine wkH ?_ | (refine tC rfl rfl ?_ ?_; focus (exact ⟨by decide, by decide⟩))))
  simp only [w4]
  (repeat (refine wkH ?_))
  simp only [decide_eq_true (show (0 : Int) = 0 from rfl)]
  (repeat (refine wkH ?_))
  simp only [decide_eq_true (show ((G.length : Nat) : Int) = 1 by omega)]
  (repeat (refine wkH ?_))
  try simp only [decide_eq_true (show (0 : Int) = 0 from rfl)]
  (repeat (refine wkH ?_))
  try simp only [decide_eq_true (show (4 : Int) = 4 from rfl)]
  (repeat (refine wkH ?_))
  refine jh_nil ?_
  refine jn_nil ?_
  repeat (first | (refine wkB ?_; try intro _) | (refine sC rfl rfl ?_ ?_; focus (first | exact trivial | assumption | constructor <;> assumption | exact mb2 rfl rfl | exact mb4 rfl rfl rfl rfl)) | (refine sN rfl rfl ?_ ?_; (focus (first | exact trivial | assumption | constructor <;> assumption | exact mb2 rfl rfl | exact mb4 rfl rfl rfl rfl)); intro _; (try simp only [List.cons_append, List.nil_append, List.append_nil])) | refine sMu rfl ?_ | (refine sMm rfl rfl ?_; intro _) | (refine sRg rfl rfl ?_; intro _))
  exact jx_ret_tmp rfl rfl (fun w hw => ret_ok hw)
instance sp_known : SpecC Tryz.prog 11 [] (.bool true) True := ⟨fun _ w => known_spec w⟩
end Go.Vt
