/- The card of SimplifyErrors. Conditions: none. -/
import Derived.Test.YtgcjapcminakdaaDoorRowA
import Derived.Test.YtgcjapcminakdaaDoorErrs
set_option linter.unusedSimpArgs false
set_option linter.unusedVariables false
namespace Go.Proofs.YtgcjapcminakdaaDoor
open Go.ChangeShapes Go.WideShapes Go.ChangeAt Go.RowKit Go.Deep
set_option maxRecDepth 100000

def eArgs : Array Value := #[.slice none 0 0, .slice none 0 0, .int .u8 0]
theorem open_list {H : Type} {enc : TypeId × Value → H} {W : World} {base : Nat} {held : Bool} {fuel : Nat} {v : Value} {x : DataW H × List MemPlace} (hs : ∃ a l c, v = .slice a l c) (h : DataW.trod enc Tryd.prog W base (fun _ => true) held fuel 37 v.cells.toList = some x) :
    ∃ ks : List Int, Go.Vt.ArgS W v (Go.Vt.eI .i64) ks ∧ ks.length ≤ 9223372036854775807 := by
  obtain ⟨a0, l0, c0, rfl⟩ := hs
  have hu : Tryd.prog.underlying 37 = some (.slice 3) := by kernel_rfl
  have hu3 : Tryd.prog.underlying 3 = some (.int .i64) := by kernel_rfl
  rcases open_slice1 hu (by kernel_rfl : Tryd.prog.cellsOf 3 = 1) h with ⟨h0, _⟩ | ⟨a, len, cap, m, n, V, D, Pl, hcs, hb, hl, hm, hmm, hx, hc⟩
  · simp [Value.cells] at h0
    obtain ⟨rfl, rfl, rfl⟩ := h0
    exact ⟨[], ⟨.inl ⟨rfl, rfl⟩⟩, by simp⟩
  · simp [Value.cells] at hcs
    obtain ⟨rfl, rfl, rfl⟩ := hcs
    have hlm : l0 ≤ m := by rw [hmm]; simpa using hl
    have each : ∀ i, i < m → ∃ z : Int, W.cell? (a.add i) = some (.int .i64 z) := fun i hi => by
      obtain ⟨h1, h2⟩ := hc i hi
      obtain ⟨z, p0, _, _⟩ := DataW.trod_int hu3 h2
      simp only [List.cons.injEq, and_true] at p0
      exact ⟨z, by rw [h1, p0]⟩
    obtain ⟨q, hq⟩ := choose_lt each
    refine ⟨(List.range l0).map q, ⟨.inr ⟨a, c0, by simp, by simpa using hl, fun i f k u hi hk hu => ?_⟩⟩, ?_⟩
    · simp only [List.length_map, List.length_range] at hi
      obtain rfl : k = 1 := by rw [← hk 0]; rfl
      simp only [List.getElem_map, List.getElem_range] at hu
      have e1 : (Go.Vt.eI .i64 (q i)) = #[.int .i64 (q i)] := rfl
      rw [e1] at hu
      match f, hu with
      | 0, hu => simp at hu; subst hu; rw [Nat.mul_one, Nat.add_zero]; exact hq i (by omega)
      | f + 1, hu => simp at hu
    · simp only [List.length_map, List.length_range]
      have : (maxLen : Nat) = 9223372036854775807 := by decide
      omega
theorem errs_reads (os : Os) {H : Type} (enc : TypeId × Value → H) : ∃ places, DataW.whole enc Tryd.prog ((laidWorld os).forCall (fun _ _ => 0) ⟨#[], eArgs, []⟩).memory Tryd.f5.params.toList Rows.simplifyErrorsSpec.vars false eArgs.toList 8 = some ([.nil, .nil, .lit (.int .u8 0)], [], places) :=
  ⟨[], by kernel_rfl⟩
theorem errs_contract (H : Type) (enc : TypeId × Value → H) (W : World) (base : Nat) (args : Array Value) (ds gs : List (DataW H)) (before : List MemPlace)
    (hval : ∀ (j : Nat) t v, Tryd.f5.params[j]? = some t → args[j]? = some v → Value.okWide Tryd.prog W .any base t v)
    (hW : DataW.Whole enc Tryd.prog Tryd.f5.params.toList Rows.simplifyErrorsSpec.vars false W args.toList ds gs before) :
    Calls Tryd.prog 5 args W fun e W' => ∃ v, e = .returned v ∧ Rows.simplifyErrorsSpec.post enc Tryd.prog Tryd.f5 false true false false W args v W' := by
  have hW' := hW
  obtain ⟨p, q, hA0, hV, rfl, hfz, hnd⟩ := hW
  have hA : DataW.TrodAll enc Tryd.prog W 0 (fun _ => true) true Tryd.f5.params.toList args.toList ds p := hA0
  rw [Tryd.params5] at hA hval
  obtain ⟨v0, vs0, d0, ds0, p0, q0, hargs, rfl, rfl, h0, r0⟩ := trodAll_cons hA
  obtain ⟨v1, vs1, d1, ds1, p1, q1, hargs1, rfl, rfl, h1, r1⟩ := trodAll_cons r0
  obtain ⟨v2, vs2, d2, ds2, p2, q2, hargs2, rfl, rfl, h2, r2⟩ := trodAll_cons r1
  subst hargs2
  subst hargs1
  obtain ⟨rfl, rfl, rfl⟩ := trodAll_nil r2
  obtain rfl : args = #[v0, v1, v2] := by cases args; simp_all
  obtain ⟨rfl, rfl⟩ := trodVars_none hV
  clear hA0
  simp only [List.append_nil] at hW'
  have hlt : ∀ x ∈ p0 ++ (p1 ++ p2), x.block < W.heap.size := fun x hx => by simpa using hW'.lt x hx
  obtain ⟨e, rfl, rfl, rfl, hwe⟩ := open_int Tryd.underlying5 (hval 2 5 v2 rfl rfl) h2
  have h0k := h0
  have h1k := h1
  obtain ⟨fuel, hf⟩ := h0
  obtain ⟨fuel1, hf1⟩ := h1
  obtain ⟨ws, hws, hok, hlen⟩ := open_way (okWide_slice Tryd.underlying23 (hval 0 23 v0 rfl rfl)) hf
  obtain ⟨ks, hks, hkl⟩ := open_list (okWide_slice (by kernel_rfl : Tryd.prog.underlying 37 = some (.slice 3)) (hval 1 37 v1 rfl rfl)) hf1
  have he := u8_wf hwe
  refine (Go.Vt.errs_spec v0 v1 ws ks e he hok W hws hlen hks hkl).mono fun e' W' ⟨he', hb⟩ => ?_
  subst he'
  simp only [List.append_nil] at hlt hW'
  exact ⟨_, rfl, ⟨_, _, _, [], _, [], hW', trodAll_mk1 (shut_bool Tryd.underlying4 _), trodAll_mk3 (Below.trod rlaidOut (by kernel_rfl) (of_decide_eq_true (by kernel_rfl)) h0k hb (fun x hx => hlt x (List.mem_append_left _ hx))) (Below.trod rlaidOut (by kernel_rfl) (of_decide_eq_true (by kernel_rfl)) h1k hb (fun x hx => hlt x (List.mem_append_right _ hx))) (shut_int Tryd.underlying5 hwe), (by first | rfl | (simp; done)), hb.frame _, fun h => by cases h⟩⟩
theorem errs_lifted (os : Os) (started : os.Started) (H : Type) (enc : TypeId × Value → H) (F : Stop.Interp) :
    ReturnsInHanded {} Tryd.checked os 5 .any ((OpenSpec.ofChange Rows.simplifyErrorsSpec).preRow enc Tryd.prog Tryd.f5 Rows.simplifyErrorsRow.domain false Rows.simplifyErrorsRow.laid) (((OpenSpec.ofChange Rows.simplifyErrorsSpec).at F).post enc Tryd.prog Tryd.f5 false true false false) := by
  obtain ⟨places, hx⟩ := errs_reads os enc
  refine returnsInHanded_of_row (C := Tryd.checked) (s := OpenSpec.ofChange Rows.simplifyErrorsSpec) rown started (by kernel_rfl) Tryd.func5
    (witness_row_at (enc := enc) (C := Tryd.checked) false (laidWorld os) eArgs rfl (by kernel_rfl) (by kernel_rfl) (by kernel_rfl)
      (OpenSpec.preRow_of_cond 8 hx (by kernel_rfl) (fun k hk => by cases hk) (by kernel_rfl) (laid_met os _))) ?_
  intro W base args ds gs before hval hW _ _ _ _ _ _
  exact errs_contract H enc W base args ds gs before hval hW
theorem errs_said : Rows.SimplifyErrorsSaid :=
  OpenClaim.holds_of_cond 5 Tryd.f5 rfl rfl rfl rfl rfl rfl rfl ⟨rfl, rfl, rfl, rfl, rfl⟩ rfl rfl rfl rfl rfl (by kernel_rfl) Tryd.func5 (by kernel_rfl)
    (of_decide_eq_true (by kernel_rfl)) (by unfold Func.isWrapper; first | (rw [if_pos (by decide +kernel)]; kernel_rfl) | (rw [if_neg (by decide +kernel)]; exact ⟨rfl, rfl⟩))
    (fun os started H enc _ F => by rw [OpenClaim.pre_eq_preRow]; exact errs_lifted os started H enc F)
theorem errs_plain (f : FuncId) (fn : Func) (hf : Tryd.pinned.checked.prog.funcNamed "viator/viatorlaw31.SimplifyErrors" = some f) (hfn : Tryd.pinned.checked.prog.funcs[f]? = some fn) :
    false = Tryd.pinned.checked.prog.looks [] ∧ ∀ (j : Nat) t, fn.params[j]? = some t → Tryd.pinned.checked.prog.wantsStandIn t = false := by
  obtain rfl : f = 5 := Option.some.inj ((show Tryd.prog.funcNamed "viator/viatorlaw31.SimplifyErrors" = some 5 by kernel_rfl).symm.trans hf) |>.symm
  obtain rfl : fn = Tryd.f5 := (Option.some.inj (Tryd.func5.symm.trans hfn)).symm
  refine ⟨by kernel_rfl, fun j t ht => ?_⟩
  rw [Tryd.params5] at ht
  have := Array.mem_of_getElem? ht
  simp at this
  rcases this with rfl | rfl | rfl
  · exact (show Tryd.prog.wantsStandIn 23 = false by kernel_rfl)
  · exact (show Tryd.prog.wantsStandIn 37 = false by kernel_rfl)
  · exact (show Tryd.prog.wantsStandIn 5 = false by kernel_rfl)
/-- The card. -/
theorem simplifyErrors_card : Rows.SimplifyErrorsCardSaid :=
  Claim7.holds_tied_plain_at .later [] _ _ _ _ errs_said (fun _ h => by cases h) (by kernel_rfl) (fun _ h => by cases h) simplifyErrors_row_tie rfl ⟨rfl, rfl⟩ (by kernel_rfl) rfl errs_plain (by kernel_rfl)
end Go.Proofs.YtgcjapcminakdaaDoor
