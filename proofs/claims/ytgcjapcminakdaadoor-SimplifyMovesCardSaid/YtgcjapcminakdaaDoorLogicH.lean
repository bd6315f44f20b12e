/- Calls that turn a block of the caller's own, under the program logic. Conditions: those that each rule names. -/
import Derived.Test.YtgcjapcminakdaaDoorLogicG
set_option linter.unusedSimpArgs false
set_option linter.unusedVariables false
namespace Go.Vt
open Go.RowKit

/-- A call that returns 'v' and leaves the caller's blocks as 'L''. -/
def RetO (v : Value) (w0 : World) (L' : List Blk) (e : Ending) (w' : World) : Prop := e = .returned v ∧ Own w0 L' w'
section
variable {P : Program} {w0 : World} {n : Nat} {ops : Array Oper} {L L' : List Blk} {E : Env}
variable {Q : Exit → Act → World → Prop} {rest : List Oper} {v : Value}
variable {ty : TypeId} {pos : String} {aft : Array Edge} {gd : Option (Nat × Bool)}

/-- A call's proof with blocks of the caller's own in hand. -/
theorem fn_own {f : FuncId} {fn : Func} {c : Code} {l : List Value} {w : World} {R : Ending → World → Prop} (hw : Own w0 L w) (hf : P.funcs[f]? = some fn) (hb : fn.body = some c) (hn : fn.ntmps = n) (hl : Nat.ble l.length n = true) [hE : EnvC l E]
    (h : J P w0 n c (bodyPost P fn R) E L) : Calls P f l.toArray w R := by
  rw [← hE.out] at h
  have hl' : l.length ≤ n := Nat.le_of_ble_eq_true hl
  refine calls_of_wp hf hb (h.out _ _ ⟨by simp [hn]; omega, rfl, fun k v hk => ?_⟩ hw)
  obtain ⟨_, h2⟩ := find_envOf l 0 k v hk
  have hlt : k < l.length := by
    rcases Nat.lt_or_ge k l.length with h' | h'
    · exact h'
    · simp [List.getElem?_eq_none h'] at h2
  simp only [Nat.sub_zero] at h2
  rw [Array.getElem?_append_left (by simpa using hlt)]
  simpa using h2
theorem wo_callU {f : FuncId} {xs : List Operand} {l : List Value} {ats : Array TypeId} {t : Tmp} (hl : Env.evs E xs = some l) [hf : CallC P f] (hc : ∀ w, Own w0 L w → Calls P f l.toArray w (RetO v w0 L'))
    (hg : guardB ops E gd = some true) (hd : Nat.blt t n = true) (h : JO P w0 n ops Q rest ((t, v) :: E) L') : JO P w0 n ops Q (⟨some t, .call ⟨.value (.func f), xs.toArray, ats⟩, ty, pos, aft, gd⟩ :: rest) E L :=
  jo_c (S := Unit) (o := ⟨some t, .call ⟨.value (.func f), xs.toArray, ats⟩, ty, pos, aft, gd⟩) hg hd (fun _ => v) (fun _ => L') (fun _ _ ha => run_call hf.out ha hl)
    (fun w hw => (hc w hw).mono fun _ _ ⟨he, ho⟩ => ⟨(), he, ho⟩) (fun _ => h)
theorem retO_ok {w : World} (hw : Own w0 L' w) : RetO v w0 L' (.returned v) w := ⟨rfl, hw⟩
end
end Go.Vt
