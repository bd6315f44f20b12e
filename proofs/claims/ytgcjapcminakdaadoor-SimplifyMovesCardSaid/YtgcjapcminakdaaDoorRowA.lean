/- What the rows of this seat share: the witness's world with its two tables, and the reading of a way. Conditions: none. -/
import Derived.Test.YtgcjapcminakdaaDoorCards
import Derived.Test.YtgcjapcminakdaaDoorTie
import Derived.Test.YtgcjapcminakdaaDoorKeeps
import Derived.WalkKit
import Derived.ProofKit
import Derived.OpenShut
import Derived.Deep.DeepHandedRow
import Derived.Deep.DeepLaidRun
import Derived.Deep.SlicePairs
import Derived.Carry
import Derived.Lib.LaidU8
set_option linter.unusedSimpArgs false
set_option linter.unusedVariables false
namespace Go.Proofs.YtgcjapcminakdaaDoor
open Go.ChangeShapes Go.WideShapes Go.ChangeAt Go.RowKit Go.Deep Go.Vt
set_option maxRecDepth 100000

theorem rown : ownKnob Tryd.prog.godebug = none := by kernel_rfl
theorem rlaidOut : laidOutB Tryd.prog = true := by kernel_rfl
theorem runder23 : Tryd.prog.underlying 23 = some (.slice 73) := by kernel_rfl
theorem rcells73 : Tryd.prog.cellsOf 73 = 3 := by kernel_rfl
theorem runder5 : Tryd.prog.underlying 5 = some (.int .u8) := by kernel_rfl
theorem rcells5 : Tryd.prog.cellsOf 5 = 1 := by kernel_rfl
theorem runder73 : ∃ f0 f1 f2, Tryd.prog.underlying 73 = some (.struct #[f0, f1, f2]) ∧ f0.type = 5 ∧ f1.type = 5 ∧ f2.type = 5 ∧ f0.offset = 0 ∧ f1.offset = 1 ∧ f2.offset = 2 := ⟨_, _, _, Tryd.underlying73, rfl, rfl, rfl, rfl, rfl, rfl⟩

theorem u8_wf {n : Int} (h : (Lit.int .u8 n).wf = true) : 0 ≤ n ∧ n ≤ 255 := by
  simp only [Lit.wf, Bool.and_eq_true, decide_eq_true_eq] at h
  exact ⟨h.1, h.2⟩
theorem eq_wstep (x : WStep) : e_st_Time_X_Y x = #[.int .u8 x.Time, .int .u8 x.X, .int .u8 x.Y] := rfl
/-- A way that reads is a slice of steps. -/
theorem open_way {H : Type} {enc : TypeId × Value → H} {W : World} {base : Nat} {held : Bool} {fuel : Nat} {v : Value} {x : DataW H × List MemPlace} (hs : ∃ a l c, v = .slice a l c) (h : DataW.trod enc Tryd.prog W base (fun _ => true) held fuel 23 v.cells.toList = some x) :
    ∃ ws : List WStep, ArgS W v e_st_Time_X_Y ws ∧ WOk ws ∧ ws.length ≤ 9223372036854775807 := by
  obtain ⟨a0, l0, c0, rfl⟩ := hs
  rcases open_slice runder23 h with ⟨h0, _⟩ | ⟨a, len, cap, m, n, D, Pl, hcs, hb, hl, hm, hmm, hx, hc⟩
  · simp [Value.cells] at h0
    obtain ⟨rfl, rfl, rfl⟩ := h0
    exact ⟨[], ⟨.inl ⟨rfl, rfl⟩⟩, fun i => by rw [show gi ([] : List WStep) i = default from rfl]; decide, by simp⟩
  · simp [Value.cells] at hcs
    obtain ⟨rfl, rfl, rfl⟩ := hcs
    obtain ⟨f0, f1, f2, he, t0, t1, t2, o0, o1, o2⟩ := runder73
    have each : ∀ i, i < m → ∃ q : Int × Int × Int, W.cell? (a.add (i * 3)) = some (.int .u8 q.1) ∧ W.cell? (a.add (i * 3 + 1)) = some (.int .u8 q.2.1) ∧ W.cell? (a.add (i * 3 + 2)) = some (.int .u8 q.2.2) ∧ (0 ≤ q.1 ∧ q.1 ≤ 255) ∧ (0 ≤ q.2.1 ∧ q.2.1 ≤ 255) ∧ (0 ≤ q.2.2 ∧ q.2.2 ≤ 255) := by
      intro i hi
      obtain ⟨cs', h1, h2⟩ := hc i hi
      rw [rcells73] at h1
      obtain ⟨_, hlen, hcell⟩ := World.cells?_some h1
      obtain ⟨xs, k, hk, hxy, _, hxl, hf⟩ := DataW.trod_struct he h2
      match xs, hxl, cs', hlen with
      | [y0, y1, y2], _, [v0, v1, v2], _ =>
        have g0 := hf 0 f0 rfl
        have g1 := hf 1 f1 rfl
        have g2 := hf 2 f2 rfl
        simp [o0, o1, o2, t0, t1, t2, rcells5] at g0 g1 g2
        have e0 := hcell 0 (by omega)
        have e1 := hcell 1 (by omega)
        have e2 := hcell 2 (by omega)
        rw [add_add] at e0 e1 e2
        obtain ⟨n0, p0, _, q0⟩ := DataW.trod_int runder5 g0
        obtain ⟨n1, p1, _, q1⟩ := DataW.trod_int runder5 g1
        obtain ⟨n2, p2, _, q2⟩ := DataW.trod_int runder5 g2
        simp only [List.cons.injEq, and_true] at p0 p1 p2
        subst p0; subst p1; subst p2
        exact ⟨(n0, n1, n2), by simpa using e0, by simpa using e1, by simpa using e2, u8_wf q0, u8_wf q1, u8_wf q2⟩
    obtain ⟨q, hq⟩ := choose_lt each
    have hlm : l0 ≤ m := by rw [hmm]; simpa using hl
    refine ⟨(List.range l0).map fun i => ⟨(q i).1, (q i).2.1, (q i).2.2⟩, ⟨.inr ⟨a, c0, by simp, by simpa using hl, fun i f k u hi hk hu => ?_⟩⟩, fun i => ?_, ?_⟩
    · simp only [List.length_map, List.length_range] at hi
      obtain rfl : k = 3 := by rw [← hk default]; rfl
      have hqi := hq i (by omega)
      simp only [List.getElem_map, List.getElem_range, eq_wstep] at hu
      match f, hu with
      | 0, hu => simp at hu; subst hu; exact hqi.1
      | 1, hu => simp at hu; subst hu; exact hqi.2.1
      | 2, hu => simp at hu; subst hu; exact hqi.2.2.1
      | f + 3, hu => simp at hu
    · by_cases hi : i.toNat < l0
      · rw [gi_eq (by simpa using hi)]
        simp only [List.getElem_map, List.getElem_range]
        exact (hq _ (by omega)).2.2.2
      · rw [show gi ((List.range l0).map fun i => (⟨(q i).1, (q i).2.1, (q i).2.2⟩ : WStep)) i = default by unfold gi; rw [List.getD_eq_getElem?_getD, List.getElem?_eq_none (by simp; omega)]; rfl]
        decide
    · simp only [List.length_map, List.length_range]
      have : (maxLen : Nat) = 9223372036854775807 := by decide
      omega
/-! ### A world for the witness -/
def cAcc : Array Value := #[.int .u8 128, .int .u8 191, .int .u8 160, .int .u8 191, .int .u8 128, .int .u8 159, .int .u8 144, .int .u8 191, .int .u8 128, .int .u8 143, .int .u8 0, .int .u8 0, .int .u8 0, .int .u8 0, .int .u8 0, .int .u8 0, .int .u8 0, .int .u8 0, .int .u8 0, .int .u8 0, .int .u8 0, .int .u8 0, .int .u8 0, .int .u8 0, .int .u8 0, .int .u8 0, .int .u8 0, .int .u8 0, .int .u8 0, .int .u8 0, .int .u8 0, .int .u8 0]
def cFirst : Array Value := (Pinned.utf8FirstZ.map fun (n : Nat) => Value.int .u8 (n : Int)).toArray
def putCells (cs : Array Value) : Obj → Obj
  | .cells _ t frozen => .cells cs t frozen
  | o => o
/-- The settled world, its tables as their initialisers lay them. -/
noncomputable def laidWorld (os : Os) : World :=
  { World.holding Tryd.prog os ⟨#[], #[], []⟩ with heap := ((World.holding Tryd.prog os ⟨#[], #[], []⟩).heap.modify 1 (putCells cFirst)).modify 2 (putCells cAcc) }
def wayArgs : Array Value := #[.slice none 0 0, .int .u8 0]
theorem laid_met (os : Os) (args : Array Value) : laidMet Tryd.prog Rows.simplifyKeepsRow.laid ((laidWorld os).forCall (fun _ _ => 0) ⟨#[], args, []⟩).memory :=
  laidMet_of_run3 8 (by kernel_rfl) (by kernel_rfl) (by kernel_rfl)
end Go.Proofs.YtgcjapcminakdaaDoor
