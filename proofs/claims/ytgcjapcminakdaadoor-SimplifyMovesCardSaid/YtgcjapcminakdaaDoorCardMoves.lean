/- The card of SimplifyMoves. Conditions: none. -/
import Derived.Test.YtgcjapcminakdaaDoorRowA
import Derived.Test.YtgcjapcminakdaaDoorMoves
import Derived.Laws.IdiomArrays
set_option linter.unusedSimpArgs false
set_option linter.unusedVariables false
namespace Go.Proofs.YtgcjapcminakdaaDoor
open Go.ChangeShapes Go.WideShapes Go.ChangeAt Go.RowKit Go.Deep
set_option maxRecDepth 100000

def mArgs : Array Value := #[.slice none 0 0, .int .u8 0, .agg #[.int .i8 0, .int .i8 0, .int .i8 0]]
theorem munder47 : Tryd.prog.underlying 47 = some (.array 3 46) := by kernel_rfl
theorem munder46 : Tryd.prog.underlying 46 = some (.int .i8) := by kernel_rfl
theorem i8_wf {n : Int} (h : (Lit.int .i8 n).wf = true) : -128 ≤ n ∧ n ≤ 127 := by
  simp only [Lit.wf, Bool.and_eq_true, decide_eq_true_eq] at h
  exact ⟨h.1, h.2⟩
theorem open_three {H : Type} {enc : TypeId × Value → H} {W : World} {base b0 : Nat} {r : Reach} {held : Bool} {v : Value} {d : DataW H} {p : List MemPlace} (hv : Value.okWide Tryd.prog W r b0 47 v) (h : DataW.Trod enc Tryd.prog W base (fun _ => true) held 47 v d p) :
    ∃ a1 a2 a3 : Int, v = .agg (Go.Vt.e3 a1 a2 a3) ∧ (-128 ≤ a1 ∧ a1 ≤ 127) ∧ (-128 ≤ a2 ∧ a2 ≤ 127) ∧ (-128 ≤ a3 ∧ a3 ≤ 127) := by
  simp only [Value.okWide, munder47] at hv
  obtain ⟨cs, rfl, hs, _⟩ := hv
  have h3 : cs.size = 3 := by rw [hs]; kernel_rfl
  obtain ⟨fuel, hf⟩ := h
  match cs, h3 with
  | ⟨[c0, c1, c2]⟩, _ =>
    simp only [Value.cells] at hf
    obtain ⟨y0, y1, y2, n, _, g0, g1, g2⟩ := trod_array3 munder47 (by kernel_rfl) hf
    obtain ⟨n0, p0, _, q0⟩ := DataW.trod_int munder46 g0
    obtain ⟨n1, p1, _, q1⟩ := DataW.trod_int munder46 g1
    obtain ⟨n2, p2, _, q2⟩ := DataW.trod_int munder46 g2
    simp only [List.cons.injEq, and_true] at p0 p1 p2
    subst p0; subst p1; subst p2
    exact ⟨n0, n1, n2, rfl, i8_wf q0, i8_wf q1, i8_wf q2⟩
theorem moves_reads (os : Os) {H : Type} (enc : TypeId × Value → H) : ∃ places, DataW.whole enc Tryd.prog ((laidWorld os).forCall (fun _ _ => 0) ⟨#[], mArgs, []⟩).memory Tryd.f4.params.toList Rows.simplifyMovesSpec.vars false mArgs.toList 8 = some ([.nil, .lit (.int .u8 0), .agg [.lit (.int .i8 0), .lit (.int .i8 0), .lit (.int .i8 0)]], [], places) :=
  ⟨[], by kernel_rfl⟩
theorem moves_contract (H : Type) (enc : TypeId × Value → H) (W : World) (base : Nat) (args : Array Value) (ds gs : List (DataW H)) (before : List MemPlace)
    (hval : ∀ (j : Nat) t v, Tryd.f4.params[j]? = some t → args[j]? = some v → Value.okWide Tryd.prog W .any base t v)
    (hW : DataW.Whole enc Tryd.prog Tryd.f4.params.toList Rows.simplifyMovesSpec.vars false W args.toList ds gs before) :
    Calls Tryd.prog 4 args W fun e W' => ∃ v, e = .returned v ∧ Rows.simplifyMovesSpec.post enc Tryd.prog Tryd.f4 false true false false W args v W' := by
  have hW' := hW
  obtain ⟨p, q, hA0, hV, rfl, hfz, hnd⟩ := hW
  have hA : DataW.TrodAll enc Tryd.prog W 0 (fun _ => true) true Tryd.f4.params.toList args.toList ds p := hA0
  rw [Tryd.params4] at hA hval
  obtain ⟨v0, vs0, d0, ds0, p0, q0, hargs, rfl, rfl, h0, r0⟩ := trodAll_cons hA
  obtain ⟨v1, vs1, d1, ds1, p1, q1, hargs1, rfl, rfl, h1, r1⟩ := trodAll_cons r0
  obtain ⟨v2, vs2, d2, ds2, p2, q2, hargs2, rfl, rfl, h2, r2⟩ := trodAll_cons r1
  subst hargs2
  subst hargs1
  obtain ⟨rfl, rfl, rfl⟩ := trodAll_nil r2
  obtain rfl : args = #[v0, v1, v2] := by cases args; simp_all
  obtain ⟨rfl, rfl⟩ := trodVars_none hV
  clear hA0
  simp only [List.append_nil] at hW'
  have hlt : ∀ x ∈ p0 ++ (p1 ++ p2), x.block < W.heap.size := fun x hx => by simpa using hW'.lt x hx
  obtain ⟨e, rfl, rfl, rfl, hwe⟩ := open_int Tryd.underlying5 (hval 1 5 v1 rfl rfl) h1
  obtain ⟨a1, a2, a3, rfl, g1, g2, g3⟩ := open_three (hval 2 47 v2 rfl rfl) h2
  have h0k := h0
  have h2k := h2
  obtain ⟨fuel, hf⟩ := h0
  obtain ⟨ws, hws, hok, hlen⟩ := open_way (okWide_slice Tryd.underlying23 (hval 0 23 v0 rfl rfl)) hf
  have he := u8_wf hwe
  refine (Go.Vt.moves_spec v0 ws e a1 a2 a3 he g1 g2 g3 hok W hws hlen).mono fun e' W' ⟨he', hb⟩ => ?_
  subst he'
  exact ⟨_, rfl, ⟨_, _, _, [], _, [], hW', trodAll_mk1 (shut_bool Tryd.underlying4 _), trodAll_mk3 (Below.trod rlaidOut (by kernel_rfl) (of_decide_eq_true (by kernel_rfl)) h0k hb (fun x hx => hlt x (List.mem_append_left _ hx))) (shut_int Tryd.underlying5 hwe) (Below.trod rlaidOut (by kernel_rfl) (of_decide_eq_true (by kernel_rfl)) h2k hb (fun x hx => hlt x (List.mem_append_right _ (List.mem_append_right _ hx)))), (by first | rfl | (simp; done)), hb.frame _, fun h => by cases h⟩⟩
theorem moves_lifted (os : Os) (started : os.Started) (H : Type) (enc : TypeId × Value → H) (F : Stop.Interp) :
    ReturnsInHanded {} Tryd.checked os 4 .any ((OpenSpec.ofChange Rows.simplifyMovesSpec).preRow enc Tryd.prog Tryd.f4 Rows.simplifyMovesRow.domain false Rows.simplifyMovesRow.laid) (((OpenSpec.ofChange Rows.simplifyMovesSpec).at F).post enc Tryd.prog Tryd.f4 false true false false) := by
  obtain ⟨places, hx⟩ := moves_reads os enc
  refine returnsInHanded_of_row (C := Tryd.checked) (s := OpenSpec.ofChange Rows.simplifyMovesSpec) rown started (by kernel_rfl) Tryd.func4
    (witness_row_at (enc := enc) (C := Tryd.checked) false (laidWorld os) mArgs rfl (by kernel_rfl) (by kernel_rfl) (by kernel_rfl)
      (OpenSpec.preRow_of_cond 8 hx (by kernel_rfl) (fun k hk => by cases hk) (by kernel_rfl) (laid_met os _))) ?_
  intro W base args ds gs before hval hW _ _ _ _ _ _
  exact moves_contract H enc W base args ds gs before hval hW
theorem moves_said : Rows.SimplifyMovesSaid :=
  OpenClaim.holds_of_cond 4 Tryd.f4 rfl rfl rfl rfl rfl rfl rfl ⟨rfl, rfl, rfl, rfl, rfl⟩ rfl rfl rfl rfl rfl (by kernel_rfl) Tryd.func4 (by kernel_rfl)
    (of_decide_eq_true (by kernel_rfl)) (by unfold Func.isWrapper; first | (rw [if_pos (by decide +kernel)]; kernel_rfl) | (rw [if_neg (by decide +kernel)]; exact ⟨rfl, rfl⟩))
    (fun os started H enc _ F => by rw [OpenClaim.pre_eq_preRow]; exact moves_lifted os started H enc F)
theorem moves_plain (f : FuncId) (fn : Func) (hf : Tryd.pinned.checked.prog.funcNamed "viator/viatorlaw31.SimplifyMoves" = some f) (hfn : Tryd.pinned.checked.prog.funcs[f]? = some fn) :
    false = Tryd.pinned.checked.prog.looks [] ∧ ∀ (j : Nat) t, fn.params[j]? = some t → Tryd.pinned.checked.prog.wantsStandIn t = false := by
  obtain rfl : f = 4 := Option.some.inj ((show Tryd.prog.funcNamed "viator/viatorlaw31.SimplifyMoves" = some 4 by kernel_rfl).symm.trans hf) |>.symm
  obtain rfl : fn = Tryd.f4 := (Option.some.inj (Tryd.func4.symm.trans hfn)).symm
  refine ⟨by kernel_rfl, fun j t ht => ?_⟩
  rw [Tryd.params4] at ht
  have := Array.mem_of_getElem? ht
  simp at this
  rcases this with rfl | rfl | rfl
  · exact (show Tryd.prog.wantsStandIn 23 = false by kernel_rfl)
  · exact (show Tryd.prog.wantsStandIn 5 = false by kernel_rfl)
  · exact (show Tryd.prog.wantsStandIn 47 = false by kernel_rfl)
/-- The card. -/
theorem simplifyMoves_card : Rows.SimplifyMovesCardSaid :=
  Claim7.holds_tied_plain_at .later [] _ _ _ _ moves_said (fun _ h => by cases h) (by kernel_rfl) (fun _ h => by cases h) simplifyMoves_row_tie rfl ⟨rfl, rfl⟩ (by kernel_rfl) rfl moves_plain (by kernel_rfl)
end Go.Proofs.YtgcjapcminakdaaDoor
