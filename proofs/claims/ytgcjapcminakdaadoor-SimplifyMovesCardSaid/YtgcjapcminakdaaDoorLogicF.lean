/- Slices of integers under the program logic: literals, make, copy, slicing; calls of the library that run at once. Conditions: those that each rule names. -/
import Derived.Test.YtgcjapcminakdaaDoorLogicE
import Derived.Shelf.Spec.BitsCarry
set_option linter.unusedSimpArgs false
set_option linter.unusedVariables false
namespace Go.Vt
open Go.RowKit

/-- The bytes of one value of a type. -/
class BytesC (P : Program) (T : TypeId) (k : outParam Nat) : Prop where
  out : (P.info? T).map (·.bytes) = some k
/-- A literal of a slice type. -/
class BsC (P : Program) (T : TypeId) (len : Nat) (l : List (Nat × Value)) (cs : outParam (Array Value)) (e : outParam TypeId) : Prop where
  out : ∀ w, (Instr.buildSlice T len l.toArray).run P w = .ok (.slice (some ⟨w.heap.size, 0, none⟩) len len) (w.alloc (.cells cs e))
/-- A call that the model answers at once. -/
class ExtC (P : Program) (f : FuncId) (args : List Value) (v : outParam Value) (pre : outParam Prop) : Prop where
  out : pre → ∀ w, (callFunc f args.toArray).run P w = .ok (.value v) w

section
variable {P : Program} {w0 : World} {n : Nat} {ops : Array Oper} {L L' : List Blk} {E : Env}
variable {Q : Exit → Act → World → Prop} {rest : List Oper} {v : Value}
variable {d : Option Tmp} {ty : TypeId} {pos : String} {aft : Array Edge} {gd : Option (Nat × Bool)}
variable {T T' : TypeId} {x y : Operand} {a b : Int} {t : Tmp}

theorem wl_ext {f : FuncId} {xs : List Operand} {l : List Value} {ats : Array TypeId} {pre : Prop} (hl : Env.evs E xs = some l) [hs : ExtC P f l v pre] (hp : pre) :
    Yl P w0 n L E ⟨d, .call ⟨.value (.func f), xs.toArray, ats⟩, ty, pos, aft, gd⟩ v := ⟨fun a w ha _ => by
  have h1 : xs.toArray.map a.eval = l.toArray := by rw [← ha.evs xs l hl]; simp
  have h2 : (execOp a.eval ⟨d, .call ⟨.value (.func f), xs.toArray, ats⟩, ty, pos, aft, gd⟩).run P w = .ok (.value v) w := by
    simp only [execOp, resolve, h1, Act.eval, Deferred.ofValue, Sem.run_bind, Sem.run_pure, Result.andThen, invoke]
    rw [show (#[] ++ l.toArray : Array Value) = l.toArray from Array.empty_append, Array.append_empty]
    exact hs.out hp w
  unfold calm
  rw [h2]
  exact ⟨rfl, Ext.refl _⟩⟩

theorem wo_bslice {len : Nat} {ps : List (Nat × Operand)} {l : List (Nat × Value)} {cs : Array Value} {e : TypeId} (hp : Env.evp E ps = some l) [hb : BsC P T len l cs e] (hg : guardB ops E gd = some true) (hd : Nat.blt t n = true)
    (h : ∀ b, JO P w0 n ops Q rest ((t, .slice (some ⟨b, 0, none⟩) len len) :: E) (⟨b, cs, e⟩ :: L)) : JO P w0 n ops Q (⟨some t, .buildSlice T len ps.toArray, ty, pos, aft, gd⟩ :: rest) E L :=
  jo_w (L' := Nat) (o := ⟨some t, .buildSlice T len ps.toArray, ty, pos, aft, gd⟩) hg hd (fun b => .slice (some ⟨b, 0, none⟩) len len) (fun b => ⟨b, cs, e⟩ :: L)
    (fun a w ha hw => ⟨w.heap.size, w.alloc (.cells cs e), .inl (by
      have h1 : ps.toArray.map (fun (i, x) => (i, a.eval x)) = l.toArray := by rw [← ha.evp ps l hp]; simp
      simp only [execOp, h1, Sem.run_bind, hb.out, Result.andThen, Sem.run_pure]), hw.alloc _ _⟩) h

theorem zeros_row (m : Nat) (z : Value) : (Array.range m).map (fun i => ([z] : List Value)[i % 1]?.getD default) = Array.replicate m z := by
  apply Array.ext_getElem?
  intro i
  by_cases h : i < m
  · simp [h, Nat.mod_one]
  · simp [h]
theorem zeros_none (z : Value) : (Array.range 0).map (fun _ => z) = #[] := by rw [Array.range_zero']; simp
theorem run_make {e : TypeId} {B : Nat} {z : Value} {m : Nat} (hT : P.underlying T = some (.slice e)) (hz : (P.info? e).bind (·.zero) = some z) (hz1 : z.cells = #[z]) (hs : (P.info? e).map (·.size) = some 1) (hB : (P.info? e).map (·.bytes) = some B) (hm : B * m ≤ 281474976710656) (hm2 : m ≤ 281474976710656) (w : World) :
    (Instr.makeSlice T (.int .i64 m) (.int .i64 m)).run P w = .ok (.slice (some ⟨w.heap.size, 0, none⟩) m m) (w.alloc (.cells (Array.replicate m z) e)) := by
  cases hi : P.info? e with
  | none => simp [hi] at hz
  | some ti =>
    have hz' : ti.zero = some z := by simpa [hi] using hz
    have hs' : ti.size = 1 := by simpa [hi] using hs
    have hB' : ti.bytes = B := by simpa [hi] using hB
    have hw : IntKind.i64.wrap (m : Int) = m := IntWalk.i64_in _ (by omega)
    have h1 : ¬ ((m : Int) < 0) := by omega
    have h3 : ((B * m : Nat) : Int) ≤ ((281474976710656 : Nat) : Int) := Int.ofNat_le.mpr hm
    rw [Int.natCast_mul] at h3
    have h2 : ¬ (281474976710656 < (B : Int) * (m : Int)) := Int.not_lt.mpr h3
    have hw0 : IntKind.i64.wrap 0 = 0 := IntWalk.i64_in 0 (by omega)
    by_cases h0 : m = 0
    · subst h0
      simp [Instr.makeSlice, run_underlying hT, asInt, asIntOf, typeInfo, hi, hB', hw0, sizeOf, hs', newRow, zeros_none]
    · simp [Instr.makeSlice, run_underlying hT, asInt, asIntOf, typeInfo, hi, hB', hw, h1, h2, sizeOf, hs', h0, zeroValue, hz', hz1, newRow, zeros_row]
theorem wo_make {k : IntKind} {e : TypeId} {B : Nat} {m : Nat} [hT : UndC P T (.slice e)] [hz : ZeroC P e (.int k 0) #[.int k 0]] [hs : SizeC P e 1] [hB : BytesC P e B] (hx : Env.ev E x = some (.int .i64 m)) (hy : Env.ev E y = some (.int .i64 m)) (hm : B * m ≤ 281474976710656 ∧ m ≤ 281474976710656)
    (hg : guardB ops E gd = some true) (hd : Nat.blt t n = true)
    (h : ∀ b, JO P w0 n ops Q rest ((t, .slice (some ⟨b, 0, none⟩) m m) :: E) (⟨b, nums k (List.replicate m 0), e⟩ :: L)) : JO P w0 n ops Q (⟨some t, .makeSlice T x y, ty, pos, aft, gd⟩ :: rest) E L :=
  jo_w (L' := Nat) (o := ⟨some t, .makeSlice T x y, ty, pos, aft, gd⟩) hg hd (fun b => .slice (some ⟨b, 0, none⟩) m m) (fun b => ⟨b, nums k (List.replicate m 0), e⟩ :: L)
    (fun a w ha hw => ⟨w.heap.size, w.alloc (.cells (nums k (List.replicate m 0)) e), .inl (by
      have e1 : nums k (List.replicate m 0) = Array.replicate m (.int k 0) := by simp [nums]
      simp only [execOp, ha.ev hx, ha.ev hy, Sem.run_bind, run_make hT.out hz.out rfl hs.out hB.out hm.1 hm.2, Result.andThen, Sem.run_pure, e1]), hw.alloc _ _⟩) h

theorem spl_nums (k : IntKind) (xs ys : List Int) (h : ys.length ≤ xs.length) : spl (nums k xs) 0 (nums k ys).toList = nums k (ys ++ xs.drop ys.length) := by
  apply Array.ext_getElem?
  intro i
  rw [spl_get _ _ _ _ (by simp [nums]; omega)]
  simp only [nums, List.length_map, Nat.zero_le, true_and, Nat.zero_add, Nat.sub_zero, List.getElem?_map, List.getElem?_toArray]
  split
  · rename_i hi
    rw [List.getElem?_append_left hi]
  · rename_i hi
    rw [List.getElem?_append_right (by omega), List.getElem?_drop, show ys.length + (i - ys.length) = i by omega]
/-- A copy from the beginning of one row of the call's own to that of another one. -/
theorem wo_copy {k : IntKind} {S S2 e T1 T2 : TypeId} {b1 l1 c1 b2 l2 c2 : Nat} {xs ys : List Int} [hS : UndC P S (.slice e)] [hs : SizeC P e 1] (hx : Env.ev E x = some (.slice (some ⟨b1, 0, none⟩) l1 c1)) (hy : Env.ev E y = some (.slice (some ⟨b2, 0, none⟩) l2 c2))
    [MemC b1 L (nums k xs) T1] [hm2 : MemC b2 L (nums k ys) T2] (h1 : l1 ≤ xs.length) (h2 : l2 ≤ ys.length) [hu : UpdC b1 (nums k (ys.take (min l2 l1) ++ xs.drop (min l2 l1))) L (nums k xs) T1 L']
    (hg : guardB ops E gd = some true) (hd : Nat.blt t n = true) (h : JO P w0 n ops Q rest ((t, .int .i64 ((min l2 l1 : Nat) : Int)) :: E) L') : JO P w0 n ops Q (⟨some t, .call ⟨.builtin .copy, #[x, y], #[S, S2]⟩, ty, pos, aft, gd⟩ :: rest) E L := by
  refine jo_w (L' := Unit) (o := ⟨some t, .call ⟨.builtin .copy, #[x, y], #[S, S2]⟩, ty, pos, aft, gd⟩) hg hd (fun _ => .int .i64 ((min l2 l1 : Nat) : Int)) (fun _ => L') (fun a w ha hw => ?_) (fun _ => h)
  have hb1 := (hw.mem _ hu.out.mem).2
  have hb2 := (hw.mem _ hm2.out).2
  have hlen : (ys.take (min l2 l1)).length = min l2 l1 := by simp; omega
  have hld : (loadCells ⟨b2, 0, none⟩ (nums k (ys.take (min l2 l1))).toList.length).run P w = .ok (nums k (ys.take (min l2 l1))).toList.toArray w :=
    run_loadCells_list (P := P) w ⟨b2, 0, none⟩ _ (fun j u hju => by
      rw [addr_add, cell_block hb2, Nat.zero_add, nums_get]
      simp only [nums, List.getElem?_map] at hju
      rw [List.getElem?_take] at hju
      split at hju
      · exact hju
      · cases hju)
  have hll : (nums k (ys.take (min l2 l1))).toList.length = min l2 l1 := by simp [nums]; omega
  rw [hll, Array.toArray_toList] at hld
  obtain ⟨w', hr, ht⟩ := run_storeCells (P := P) (b := b1) (off := 0) (nums k (ys.take (min l2 l1))).toList 0 (nums k xs) w hb1 (by rw [hll, size_nums]; omega) (fun q hq => by
    have := nums_all k (ys.take (min l2 l1))
    exact Array.all_eq_true_iff_forall_mem.1 this q (Array.mem_toList_iff.1 hq))
  rw [Nat.add_zero, spl_nums k xs _ (by omega), hlen] at ht
  refine ⟨(), w', .inl ?_, hw.turn hu.out ht⟩
  have hmin : l2.min l1 = min l2 l1 := rfl
  simp [execOp, resolve, ha.ev hx, ha.ev hy, invoke, builtin, Builtin.copy_, run_underlying hS.out, Builtin.lenOf, Builtin.firstCells, run_sizeOf hs.out, hmin, hld, hr, goInt]
end
end Go.Vt
