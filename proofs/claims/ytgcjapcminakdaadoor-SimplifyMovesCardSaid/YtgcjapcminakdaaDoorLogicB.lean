/- The operations of a straight text under the program logic of XLogicA: moves, loads, boxes, stores, calls. Conditions: those that each theorem names. -/
import Derived.Test.YtgcjapcminakdaaDoorLogicA
import Derived.WalkKit
set_option linter.unusedSimpArgs false
set_option linter.unusedVariables false
namespace Go.Vt
open Go.RowKit

section
variable {P : Program} {w0 : World} {n : Nat} {ops : Array Oper} {L : List Blk} {E : Env}
variable {Q : Exit → Act → World → Prop} {rest : List Oper} {v : Value}
variable {d : Option Tmp} {ty : TypeId} {pos : String} {aft : Array Edge} {gd : Option (Nat × Bool)}

theorem calm_run {o : Oper} {a : Act} {w w' : World} {s : Sem Value} (he : execOp a.eval o = (do pure (.value (← s)))) (hr : s.run P w = .ok v w') (hx : Ext w w') : calm P o a w v := by
  unfold calm
  rw [he, Sem.run_bind, hr]
  exact ⟨rfl, hx⟩
theorem yl_run {o : Oper} (s : Act → Sem Value) (he : ∀ a, Rep n E a → execOp a.eval o = (do pure (.value (← s a)))) (hr : ∀ a w, Rep n E a → Own w0 L w → (s a).run P w = .ok v w) : Yl P w0 n L E o v :=
  ⟨fun a w ha hw => calm_run (he a ha) (hr a w ha hw) (Ext.refl _)⟩

theorem yl_move {x : Operand} (hx : Env.ev E x = some v) : Yl P w0 n L E ⟨d, .move x, ty, pos, aft, gd⟩ v := ⟨fun a w ha _ => by
  unfold calm
  simp only [execOp, ha.ev hx, Sem.run_pure]
  exact ⟨rfl, Ext.refl _⟩⟩
theorem yl_assign {x : Operand} (hx : Env.ev E x = some v) : Yl P w0 n L E ⟨d, .assign x, ty, pos, aft, gd⟩ v := ⟨fun a w ha _ => by
  unfold calm
  simp only [execOp, ha.ev hx, Sem.run_pure]
  exact ⟨rfl, Ext.refl _⟩⟩
theorem yl_pick {c x y : Operand} {t : Bool} {vx vy : Value} (hc : Env.ev E c = some (.bool t)) (hx : Env.ev E x = some vx) (hy : Env.ev E y = some vy) : Yl P w0 n L E ⟨d, .pick c x y, ty, pos, aft, gd⟩ (if t then vx else vy) := ⟨fun a w ha _ => by
  unfold calm
  cases t <;> simp [execOp, ha.ev hx, ha.ev hy, ha.ev hc, Sem.run_pure, asBool, calmUpon, Ext.refl]⟩
theorem yl_extract {x : Operand} {vs : Array Value} {i : Nat} (hx : Env.ev E x = some (.tuple vs)) (hi : vs[i]? = some v) : Yl P w0 n L E ⟨d, .extract x i, ty, pos, aft, gd⟩ v :=
  yl_run (fun _ => Instr.extract (.tuple vs) i) (fun a ha => by simp only [execOp, ha.ev hx]) (fun a w _ _ => by simp [Instr.extract, hi])
theorem yl_bin {op : BinOp} {T T' : TypeId} {x y : Operand} {vx vy : Value} (hx : Env.ev E x = some vx) (hy : Env.ev E y = some vy) (hg : ∀ w, (eqGuard op T x y vx vy).run P w = .ok () w) (hr : ∀ w, (binOp op T vx vy).run P w = .ok v w) : Yl P w0 n L E ⟨d, .binOp op T x y T', ty, pos, aft, gd⟩ v :=
  yl_run (fun _ => do eqGuard op T x y vx vy; binOp op T vx vy) (fun a ha => by simp only [execOp, ha.ev hx, ha.ev hy]) (fun a w _ _ => by rw [Sem.run_bind, hg]; exact hr w)
theorem yl_un {op : UnOp} {T : TypeId} {x : Operand} {vx : Value} (hx : Env.ev E x = some vx) (hr : ∀ w, (Op.unary op vx).run P w = .ok v w) : Yl P w0 n L E ⟨d, .unOp op T x, ty, pos, aft, gd⟩ v :=
  yl_run (fun _ => Op.unary op vx) (fun a ha => by simp only [execOp, ha.ev hx]) (fun a w _ _ => hr w)
theorem yl_conv {S T : TypeId} {x : Operand} {vx : Value} (hx : Env.ev E x = some vx) (hr : ∀ w, (convert S T vx).run P w = .ok v w) : Yl P w0 n L E ⟨d, .convert S T x, ty, pos, aft, gd⟩ v :=
  yl_run (fun _ => convert S T vx) (fun a ha => by simp only [execOp, ha.ev hx]) (fun a w _ _ => hr w)
theorem yl_field {T : TypeId} {x : Operand} {f : Nat} {vx : Value} (hx : Env.ev E x = some vx) (hr : ∀ w, (Instr.field T vx f).run P w = .ok v w) : Yl P w0 n L E ⟨d, .field T x f, ty, pos, aft, gd⟩ v :=
  yl_run (fun _ => Instr.field T vx f) (fun a ha => by simp only [execOp, ha.ev hx]) (fun a w _ _ => hr w)
theorem yl_faddr {T : TypeId} {x : Operand} {f : Nat} {vx : Value} (hx : Env.ev E x = some vx) (hr : ∀ w, (Instr.fieldAt T vx f).run P w = .ok v w) : Yl P w0 n L E ⟨d, .fieldAddr T x f, ty, pos, aft, gd⟩ v :=
  yl_run (fun _ => Instr.fieldAt T vx f) (fun a ha => by simp only [execOp, ha.ev hx]) (fun a w _ _ => hr w)
theorem yl_iaddr {T : TypeId} {x y : Operand} {vx vy : Value} (hx : Env.ev E x = some vx) (hy : Env.ev E y = some vy) (hr : ∀ w, (Instr.indexAt T vx vy).run P w = .ok v w) : Yl P w0 n L E ⟨d, .indexAddr T x y, ty, pos, aft, gd⟩ v :=
  yl_run (fun _ => Instr.indexAt T vx vy) (fun a ha => by simp only [execOp, ha.ev hx, ha.ev hy]) (fun a w _ _ => hr w)
theorem yl_index {T : TypeId} {x y : Operand} {vx vy : Value} (hx : Env.ev E x = some vx) (hy : Env.ev E y = some vy) (hr : ∀ w, (Instr.index T vx vy).run P w = .ok v w) : Yl P w0 n L E ⟨d, .index T x y, ty, pos, aft, gd⟩ v :=
  yl_run (fun _ => Instr.index T vx vy) (fun a ha => by simp only [execOp, ha.ev hx, ha.ev hy]) (fun a w _ _ => hr w)

/-- The operands of a composite literal. -/
def Env.evp (E : Env) : List (Nat × Operand) → Option (List (Nat × Value))
  | [] => some []
  | (i, x) :: r => match Env.ev E x, Env.evp E r with
    | some v, some l => some ((i, v) :: l)
    | _, _ => none
theorem Rep.evp {a : Act} (ha : Rep n E a) : ∀ (ps : List (Nat × Operand)) (l : List (Nat × Value)), Env.evp E ps = some l → ps.map (fun (i, x) => (i, a.eval x)) = l
  | [], l, h => by simp only [Env.evp, Option.some.injEq] at h; subst h; rfl
  | (i, x) :: r, l, h => by
    simp only [Env.evp] at h
    split at h
    · rename_i v l' hv hl
      simp only [Option.some.injEq] at h
      subst h
      simp only [List.map_cons, ha.ev hv, Rep.evp ha r l' hl]
    · cases h
theorem yl_build {T : TypeId} {ps : List (Nat × Operand)} {l : List (Nat × Value)} (hp : Env.evp E ps = some l) (hr : ∀ w, (Instr.build T l.toArray).run P w = .ok v w) : Yl P w0 n L E ⟨d, .build T ps.toArray, ty, pos, aft, gd⟩ v :=
  yl_run (fun _ => Instr.build T l.toArray) (fun a ha => by
    have : ps.toArray.map (fun (i, x) => (i, a.eval x)) = l.toArray := by rw [← ha.evp ps l hp]; simp
    simp only [execOp, this]) (fun a w _ _ => hr w)

/-! ### Loads -/
/-- 'T' is a struct or an array of 'k' cells. -/
def aggB (P : Program) (T : TypeId) (k : Nat) : Bool :=
  (match P.underlying T with
   | some (.struct _) | some (.array _ _) => true
   | _ => false) && ((P.info? T).map (·.size) == some k)
def oneB (P : Program) (T : TypeId) : Bool :=
  match P.underlying T with
  | some (.struct _) | some (.array _ _) => false
  | some _ => true
  | none => false

theorem run_isAgg_true {T : TypeId} {k : Nat} (h : aggB P T k = true) (w : World) : (isAgg T).run P w = .ok true w := by
  unfold aggB at h
  unfold isAgg
  rw [Sem.run_bind]
  cases hu : P.underlying T with
  | none => simp [hu] at h
  | some dd =>
    rw [run_underlying hu w]
    cases dd <;> simp_all
theorem run_isAgg_false {T : TypeId} (h : oneB P T = true) (w : World) : (isAgg T).run P w = .ok false w := by
  unfold oneB at h
  unfold isAgg
  rw [Sem.run_bind]
  cases hu : P.underlying T with
  | none => simp [hu] at h
  | some dd =>
    rw [run_underlying hu w]
    cases dd <;> simp_all
theorem run_sizeOf {T : TypeId} {k : Nat} (h : (P.info? T).map (·.size) = some k) (w : World) : (sizeOf T).run P w = .ok k w := by
  cases hi : P.info? T with
  | none => simp [hi] at h
  | some i =>
    have : i.size = k := by simpa [hi] using h
    simp [sizeOf, typeInfo, hi, this]
theorem aggB_size {T : TypeId} {k : Nat} (h : aggB P T k = true) : (P.info? T).map (·.size) = some k := by
  unfold aggB at h
  simp only [Bool.and_eq_true, beq_iff_eq] at h
  exact h.2

/-- What a load of type 'T' at offset 'off' of the cells 'cs' gives. -/
def LdV (P : Program) (T : TypeId) (cs : Array Value) (off : Nat) (v : Value) : Prop :=
  (∃ k, aggB P T k = true ∧ off + k ≤ cs.size ∧ v = .agg (cs.extract off (off + k))) ∨ (oneB P T = true ∧ cs[off]? = some v)
theorem ldv_agg {T : TypeId} {cs cs' : Array Value} {off : Nat} (k : Nat) (h : aggB P T k = true) (hs : Nat.ble (off + k) cs.size = true) (hv : cs.extract off (off + k) = cs') : LdV P T cs off (.agg cs') :=
  .inl ⟨k, h, Nat.le_of_ble_eq_true hs, by rw [hv]⟩
theorem ldv_one {T : TypeId} {cs : Array Value} {off : Nat} (h : oneB P T = true) (hv : cs[off]? = some v) : LdV P T cs off v := .inr ⟨h, hv⟩
theorem cell_block {w : World} {b : Nat} {cs : Array Value} {T : TypeId} {fz : Nat × Nat} (h : w.heap[b]? = some (.cells cs T fz)) (off : Nat) : w.cell? ⟨b, off, none⟩ = cs[off]? := by
  simp [World.cell?, h]
theorem addr_add (b off k : Nat) : Addr.add ⟨b, off, none⟩ k = ⟨b, off + k, none⟩ := by
  unfold Addr.add
  split
  · rename_i h; subst h; rfl
  · rfl
theorem run_loadVar {w : World} {b off : Nat} {cs : Array Value} {T T0 : TypeId} {fz : Nat × Nat} (h : w.heap[b]? = some (.cells cs T0 fz)) (hv : LdV P T cs off v) : (loadVar T ⟨b, off, none⟩).run P w = .ok v w := by
  rcases hv with ⟨k, ha, hs, rfl⟩ | ⟨ho, hv⟩
  · have hl : (loadCells ⟨b, off, none⟩ (cs.extract off (off + k)).toList.length).run P w = .ok (cs.extract off (off + k)).toList.toArray w :=
      run_loadCells_list (P := P) w ⟨b, off, none⟩ _ (fun j u hu => by
        rw [addr_add, cell_block h]
        simp only [Array.getElem?_toList] at hu
        rw [Array.getElem?_extract] at hu
        split at hu
        · exact hu
        · cases hu)
    have hlen : (cs.extract off (off + k)).toList.length = k := by simp; omega
    rw [hlen, Array.toArray_toList] at hl
    simp [loadVar, Sem.run_bind, run_isAgg_true ha, run_sizeOf (aggB_size ha), hl]
  · simp [loadVar, Sem.run_bind, run_isAgg_false ho, run_load, cell_block h, hv]
theorem yl_load {T T0 : TypeId} {x : Operand} {b off : Nat} {cs : Array Value} (hx : Env.ev E x = some (.pointer (some ⟨b, off, none⟩))) (hm : (⟨b, cs, T0⟩ : Blk) ∈ L) (hv : LdV P T cs off v) : Yl P w0 n L E ⟨d, .load T x, ty, pos, aft, gd⟩ v :=
  yl_run (fun _ => loadVar T ⟨b, off, none⟩) (fun a ha => by
    simp only [execOp, ha.ev hx, Instr.loadAt, Instr.sureAddr]
    rfl) (fun a w _ hw => run_loadVar (hw.mem _ hm).2 hv)
/-- A load out of a block that was there when the call began. -/
theorem yl_loadF {T T0 : TypeId} {x : Operand} {b off : Nat} {cs : Array Value} {fz : Nat × Nat} (hx : Env.ev E x = some (.pointer (some ⟨b, off, none⟩))) (hm : w0.heap[b]? = some (.cells cs T0 fz)) (hv : LdV P T cs off v) : Yl P w0 n L E ⟨d, .load T x, ty, pos, aft, gd⟩ v :=
  yl_run (fun _ => loadVar T ⟨b, off, none⟩) (fun a ha => by
    simp only [execOp, ha.ev hx, Instr.loadAt, Instr.sureAddr]
    rfl) (fun a w _ hw => run_loadVar (fz := fz) (by rw [hw.ext.block b (lt_of_block hm)]; exact hm) hv)

/-! ### Calls of functions with a body -/
def callableB (P : Program) (f : FuncId) : Bool :=
  match P.funcs[f]? with
  | some fn => !(fn.name == "runtime.NumGoroutine") && fn.body.isSome
  | none => false
theorem run_callFunc {f : FuncId} (h : callableB P f = true) (args : Array Value) (w : World) : (callFunc f args).run P w = .ok (.enter f args) w := by
  unfold callableB at h
  cases hf : P.funcs[f]? with
  | none => simp [hf] at h
  | some fn =>
    simp only [hf, Bool.and_eq_true, Bool.not_eq_true'] at h
    obtain ⟨h1, h2⟩ := h
    obtain ⟨c, hc⟩ := Option.isSome_iff_exists.1 h2
    have h3 : ¬ fn.name = "runtime.NumGoroutine" := by simpa using h1
    simp [callFunc, hf, h3, hc]
def Env.evs (E : Env) : List Operand → Option (List Value)
  | [] => some []
  | x :: r => match Env.ev E x, Env.evs E r with
    | some v, some l => some (v :: l)
    | _, _ => none
theorem Rep.evs {a : Act} (ha : Rep n E a) : ∀ (ps : List Operand) (l : List Value), Env.evs E ps = some l → ps.map a.eval = l
  | [], l, h => by simp only [Env.evs, Option.some.injEq] at h; subst h; rfl
  | x :: r, l, h => by
    simp only [Env.evs] at h
    split at h
    · rename_i v l' hv hl
      simp only [Option.some.injEq] at h
      subst h
      simp only [List.map_cons, ha.ev hv, Rep.evs ha r l' hl]
    · cases h
theorem run_call {f : FuncId} {xs : List Operand} {l : List Value} {ats : Array TypeId} {a : Act} {w : World} (hf : callableB P f = true) (ha : Rep n E a) (hl : Env.evs E xs = some l) :
    (execOp a.eval ⟨d, .call ⟨.value (.func f), xs.toArray, ats⟩, ty, pos, aft, gd⟩).run P w = .ok (.enter f l.toArray) w := by
  have h1 : xs.toArray.map a.eval = l.toArray := by rw [← ha.evs xs l hl]; simp
  simp only [execOp, resolve, h1, Act.eval, Deferred.ofValue, Sem.run_bind, Sem.run_pure, Result.andThen, invoke]
  rw [show (#[] ++ l.toArray : Array Value) = l.toArray from Array.empty_append, Array.append_empty]
  exact run_callFunc hf _ _
theorem yl_call {f : FuncId} {xs : List Operand} {l : List Value} {ats : Array TypeId} (hf : callableB P f = true) (hl : Env.evs E xs = some l) (hc : ∀ w, Own w0 L w → Calls P f l.toArray w (Ret v w)) :
    Yl P w0 n L E ⟨d, .call ⟨.value (.func f), xs.toArray, ats⟩, ty, pos, aft, gd⟩ v := ⟨fun a w ha hw => by
  unfold calm
  rw [run_call hf ha hl]
  exact ⟨rfl, hc w hw⟩⟩

/-! ### New blocks -/
theorem jo_box {T : TypeId} {x : Operand} (hx : Env.ev E x = some v) (hg : guardB ops E gd = some true) (hd : dstOk n d = true)
    (h : ∀ b, JO P w0 n ops Q rest (Env.put E d (.pointer (some ⟨b, 0, none⟩))) (⟨b, v.cells, T⟩ :: L)) : JO P w0 n ops Q (⟨d, .box T x, ty, pos, aft, gd⟩ :: rest) E L :=
  jo_w (L' := Nat) (o := ⟨d, .box T x, ty, pos, aft, gd⟩) hg hd (fun b => .pointer (some ⟨b, 0, none⟩)) (fun b => ⟨b, v.cells, T⟩ :: L)
    (fun a w ha hw => ⟨w.heap.size, w.alloc (.cells v.cells T), .inl (by simp [execOp, ha.ev hx, Instr.box, newVar, newRow]), hw.alloc _ _⟩) h
theorem jo_alloc {T : TypeId} {z : Value} (hz : (P.info? T).bind (·.zero) = some z) (hg : guardB ops E gd = some true) (hd : dstOk n d = true)
    (h : ∀ b, JO P w0 n ops Q rest (Env.put E d (.pointer (some ⟨b, 0, none⟩))) (⟨b, z.cells, T⟩ :: L)) : JO P w0 n ops Q (⟨d, .alloc T, ty, pos, aft, gd⟩ :: rest) E L := by
  cases hi : P.info? T with
  | none => simp [hi] at hz
  | some i =>
    have hz' : i.zero = some z := by simpa [hi] using hz
    exact jo_w (L' := Nat) (o := ⟨d, .alloc T, ty, pos, aft, gd⟩) hg hd (fun b => .pointer (some ⟨b, 0, none⟩)) (fun b => ⟨b, z.cells, T⟩ :: L)
      (fun a w ha hw => ⟨w.heap.size, w.alloc (.cells z.cells T), .inl (by simp [execOp, Instr.alloc, zeroValue, typeInfo, hi, hz', newVar, newRow]), hw.alloc _ _⟩) h

/-! ### Stores -/
def spl : Array Value → Nat → List Value → Array Value
  | cs, _, [] => cs
  | cs, k, v :: vs => spl (cs.setIfInBounds k v) (k + 1) vs
theorem size_spl : ∀ (vs : List Value) (cs : Array Value) (k : Nat), (spl cs k vs).size = cs.size
  | [], _, _ => rfl
  | _ :: vs, cs, k => by simp [spl, size_spl vs]
theorem spl_get : ∀ (vs : List Value) (cs : Array Value) (k i : Nat), k + vs.length ≤ cs.size → (spl cs k vs)[i]? = if k ≤ i ∧ i < k + vs.length then vs[i - k]? else cs[i]?
  | [], cs, k, i, _ => by rw [if_neg (by simp)]; rfl
  | v :: vs, cs, k, i, h => by
    have h' : k + (vs.length + 1) ≤ cs.size := h
    rw [spl, spl_get vs _ _ _ (by simp only [Array.size_setIfInBounds]; omega)]
    have hlen : (v :: vs).length = vs.length + 1 := rfl
    rw [hlen]
    by_cases h1 : k + 1 ≤ i ∧ i < k + 1 + vs.length
    · rw [if_pos h1, if_pos (by omega), show i - k = (i - (k + 1)) + 1 by omega]
      simp
    · rw [if_neg h1]
      by_cases h2 : i = k
      · subst h2
        rw [if_pos (by omega)]
        simp [show i < cs.size by omega]
      · rw [if_neg (by omega), Array.getElem?_setIfInBounds_ne (by omega)]
theorem spl_all {cs : Array Value} {vs : Array Value} (h : vs.size = cs.size) : spl cs 0 vs.toList = vs := by
  apply Array.ext_getElem?
  intro i
  rw [spl_get _ _ _ _ (by simp; omega)]
  simp only [Array.length_toList, Nat.zero_le, true_and, Nat.zero_add, Nat.sub_zero, Array.getElem?_toList]
  split
  · rfl
  · rw [Array.getElem?_eq_none (by omega), Array.getElem?_eq_none (by omega)]

theorem turned_set {w : World} {b k : Nat} {cs : Array Value} {T : TypeId} (h : w.heap[b]? = some (.cells cs T (0, 0))) (u : Value) : Turned b (cs.setIfInBounds k u) T w (w.setCell ⟨b, k, none⟩ u) :=
  ⟨rfl, rfl, rfl, by simp, fun j hj => heap_setCell_other _ _ _ _ hj, heap_setCell_same _ _ _ _ _ _ h⟩
theorem Turned.tr {b : Nat} {cs cs' : Array Value} {T : TypeId} {w w1 w2 : World} (h : Turned b cs T w w1) (k : Turned b cs' T w1 w2) : Turned b cs' T w w2 :=
  ⟨k.os.trans h.os, k.tape.trans h.tape, k.output.trans h.output, k.size.trans h.size, fun j hj => (k.block j hj).trans (h.block j hj), k.here⟩
theorem run_storeCells {b off : Nat} {T : TypeId} : ∀ (vs : List Value) (i : Nat) (cs : Array Value) (w : World), w.heap[b]? = some (.cells cs T (0, 0)) → off + i + vs.length ≤ cs.size → (∀ u ∈ vs, u.oneCell' = true) →
    ∃ w', (storeCells ⟨b, off, none⟩ vs i).run P w = .ok () w' ∧ Turned b (spl cs (off + i) vs) T w w'
  | [], i, cs, w, h, _, _ => ⟨w, by simp [storeCells], rfl, rfl, rfl, rfl, fun _ _ => rfl, h⟩
  | u :: vs, i, cs, w, h, hs, h1 => by
    simp only [List.length_cons] at hs
    have hlt : off + i < cs.size := by omega
    have hc : w.cell? ⟨b, off + i, none⟩ = some cs[off + i] := by rw [cell_block h, Array.getElem?_eq_getElem hlt]
    have hf : w.frozen? ⟨b, off + i, none⟩ = false := frozen_of_row _ _ _ _ _ h
    have ht := turned_set (k := off + i) h u
    obtain ⟨w', hr, ht'⟩ := run_storeCells (off := off) vs (i + 1) _ _ ht.here (by simp; omega) (fun x hx => h1 x (.tail _ hx))
    refine ⟨w', ?_, ?_⟩
    · simp only [storeCells, Sem.run_bind, addr_add, run_store P w _ u _ (h1 u (.head _)), hc, hf, Bool.false_eq_true, if_false, Result.andThen]
      exact hr
    · rw [spl]
      exact ht.tr ht'
theorem jo_store {T T0 : TypeId} {x y : Operand} {b off : Nat} {cs cs' : Array Value} {L' : List Blk} {u : Value} (k : Nat) (hx : Env.ev E x = some (.pointer (some ⟨b, off, none⟩))) (hy : Env.ev E y = some u) (hu : Upd b cs T0 cs' L L')
    (hk : (P.info? T).map (·.size) = some k) (hsz : u.cells.size = k) (hs : Nat.ble (off + k) cs.size = true) (h1 : u.cells.all (·.oneCell') = true) (hc : spl cs off u.cells.toList = cs')
    (hg : guardB ops E gd = some true) (hd : dstOk n d = true) (h : JO P w0 n ops Q rest (Env.put E d undef) L') : JO P w0 n ops Q (⟨d, .store T x y, ty, pos, aft, gd⟩ :: rest) E L := by
  refine jo_w (L' := Unit) (o := ⟨d, .store T x y, ty, pos, aft, gd⟩) hg hd (fun _ => undef) (fun _ => L') (fun a w ha hw => ?_) (fun _ => h)
  have hb := (hw.mem _ hu.mem).2
  have hs' := Nat.le_of_ble_eq_true hs
  obtain ⟨w', hr, ht⟩ := run_storeCells (P := P) (b := b) (off := off) u.cells.toList 0 cs w hb (by simp; omega) (fun q hq => Array.all_eq_true_iff_forall_mem.1 h1 q (Array.mem_toList_iff.1 hq))
  rw [Nat.add_zero, hc] at ht
  refine ⟨(), w', .inr ⟨?_, rfl⟩, hw.turn hu ht⟩
  simp [execOp, ha.ev hx, ha.ev hy, Instr.storeAt, Instr.sureAddr, storeVar, run_sizeOf hk, hsz, hr]
/-- A whole variable is turned. -/
theorem jo_storeW {T T0 : TypeId} {x y : Operand} {b : Nat} {cs cs' : Array Value} {L' : List Blk} (k : Nat) (hx : Env.ev E x = some (.pointer (some ⟨b, 0, none⟩))) (hy : Env.ev E y = some (.agg cs')) (hu : Upd b cs T0 cs' L L')
    (hk : (P.info? T).map (·.size) = some k) (hsz : cs'.size = k) (hs : cs.size = k) (h1 : cs'.all (·.oneCell') = true)
    (hg : guardB ops E gd = some true) (hd : dstOk n d = true) (h : JO P w0 n ops Q rest (Env.put E d undef) L') : JO P w0 n ops Q (⟨d, .store T x y, ty, pos, aft, gd⟩ :: rest) E L :=
  jo_store (u := .agg cs') k hx hy hu hk hsz (by rw [hs]; simp) h1 (spl_all (hsz.trans hs.symm)) hg hd h

/-! ### Results -/
theorem jx_ret_tmp {fn : Func} {R : Ending → World → Prop} {t : Tmp} (hres : fn.results = #[.tmp t]) (ht : Env.find E t = some v) (h : ∀ w, Own w0 L w → R (.returned v) w) : JX w0 n .ret (bodyPost P fn R) E L :=
  jx_ret (fun a w ha _ => by rw [results_tmp hres]; have := ha.val t v ht; simp [this]) h
theorem jx_ret_cell {fn : Func} {R : Ending → World → Prop} {t : Tmp} {T T0 : TypeId} {b off : Nat} {cs : Array Value} (hres : fn.results = #[.cell t T]) (ht : Env.find E t = some (.pointer (some ⟨b, off, none⟩))) (hm : (⟨b, cs, T0⟩ : Blk) ∈ L) (hv : LdV P T cs off v)
    (h : ∀ w, Own w0 L w → R (.returned v) w) : JX w0 n .ret (bodyPost P fn R) E L :=
  jx_ret (fun a w ha hw => by
    have h1 := ha.val t _ ht
    simp [results, hres, h1, asAddr, run_loadVar (hw.mem _ hm).2 hv]) h
/-- What one result variable holds. -/
def ResV (P : Program) (E : Env) (L : List Blk) (r : ResultVar) (v : Value) : Prop :=
  match r with
  | .tmp t => Env.find E t = some v
  | .cell t T => ∃ b off cs T0, Env.find E t = some (.pointer (some ⟨b, off, none⟩)) ∧ (⟨b, cs, T0⟩ : Blk) ∈ L ∧ LdV P T cs off v
theorem resv_tmp {t : Tmp} (h : Env.find E t = some v) : ResV P E L (.tmp t) v := h
theorem resv_cell {t : Tmp} {T T0 : TypeId} {b off : Nat} {cs : Array Value} (h : Env.find E t = some (.pointer (some ⟨b, off, none⟩))) (hm : (⟨b, cs, T0⟩ : Blk) ∈ L) (hv : LdV P T cs off v) : ResV P E L (.cell t T) v := ⟨b, off, cs, T0, h, hm, hv⟩
/-- A result variable as a list of facts, for the frame and the world at hand. -/
theorem resv_run {a : Act} {w : World} {r : ResultVar} (ha : Rep n E a) (hw : Own w0 L w) (h : ResV P E L r v) :
    (∃ t, r = .tmp t ∧ a.tmps[t]? = some v) ∨ (∃ t T p, r = .cell t T ∧ a.tmps[t]? = some (.pointer (some p)) ∧ (loadVar T p).run P w = .ok v w) := by
  cases r with
  | tmp t => exact .inl ⟨t, rfl, ha.val t v h⟩
  | cell t T =>
    obtain ⟨b, off, cs, T0, h1, hm, hv⟩ := h
    exact .inr ⟨t, T, _, rfl, ha.val t _ h1, run_loadVar (hw.mem _ hm).2 hv⟩
theorem jx_ret_two {fn : Func} {R : Ending → World → Prop} {r1 r2 : ResultVar} {v1 v2 : Value} (hres : fn.results = #[r1, r2]) (h1 : ResV P E L r1 v1) (h2 : ResV P E L r2 v2) (h : ∀ w, Own w0 L w → R (.returned (.tuple #[v1, v2])) w) : JX w0 n .ret (bodyPost P fn R) E L :=
  jx_ret (fun a w ha hw => by
    rcases resv_run ha hw h1 with ⟨t, rfl, e1⟩ | ⟨t, T, p, rfl, e1, f1⟩ <;> rcases resv_run ha hw h2 with ⟨u, rfl, e2⟩ | ⟨u, U, q, rfl, e2, f2⟩ <;> simp [results, hres, asAddr, Sem.run_bind, *]) h
theorem jx_ret_three {fn : Func} {R : Ending → World → Prop} {r1 r2 r3 : ResultVar} {v1 v2 v3 : Value} (hres : fn.results = #[r1, r2, r3]) (h1 : ResV P E L r1 v1) (h2 : ResV P E L r2 v2) (h3 : ResV P E L r3 v3) (h : ∀ w, Own w0 L w → R (.returned (.tuple #[v1, v2, v3])) w) : JX w0 n .ret (bodyPost P fn R) E L :=
  jx_ret (fun a w ha hw => by
    rcases resv_run ha hw h1 with ⟨t, rfl, e1⟩ | ⟨t, T, p, rfl, e1, f1⟩ <;> rcases resv_run ha hw h2 with ⟨u, rfl, e2⟩ | ⟨u, U, q, rfl, e2, f2⟩ <;> rcases resv_run ha hw h3 with ⟨z, rfl, e3⟩ | ⟨z, Z, q3, rfl, e3, f3⟩ <;> simp [results, hres, asAddr, Sem.run_bind, *]) h
theorem ret_ok {w : World} (hw : Own w0 L w) : Ret v w0 (.returned v) w := ⟨rfl, hw.ext⟩
end
end Go.Vt
