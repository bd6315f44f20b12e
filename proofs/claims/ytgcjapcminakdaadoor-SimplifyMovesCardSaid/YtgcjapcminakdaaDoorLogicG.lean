/- Rows of natural numbers, slices of slices, results in new memory, under the program logic. Conditions: those that each rule names. -/
import Derived.Test.YtgcjapcminakdaaDoorLogicF
set_option linter.unusedSimpArgs false
set_option linter.unusedVariables false
namespace Go.Vt
open Go.RowKit

/-- A row of natural numbers. -/
def dig (k : IntKind) (ds : List Nat) : Array Value := nums k (ds.map Int.ofNat)
theorem size_dig (k : IntKind) (ds : List Nat) : (dig k ds).size = ds.length := by simp [dig, size_nums]
theorem dig_get (k : IntKind) (ds : List Nat) (i : Nat) : (dig k ds)[i]? = (ds[i]?).map fun d => .int k (d : Int) := by
  rw [dig, nums_get, List.getElem?_map, Option.map_map]
  rfl
theorem dig_set (k : IntKind) (ds : List Nat) (i z : Nat) : nums k ((ds.map Int.ofNat).set i (z : Int)) = dig k (ds.set i z) := by
  rw [dig, List.map_set]
  rfl
theorem dig_zero (k : IntKind) (m : Nat) : nums k (List.replicate m 0) = dig k (List.replicate m 0) := by simp [dig]

/-- A call whose result lies in one new block. -/
def RetB (val : Nat → Value) (cs : Array Value) (T : TypeId) (w : World) (e : Ending) (w' : World) : Prop :=
  ∃ b, e = .returned (val b) ∧ w.heap.size ≤ b ∧ Ext w w' ∧ w'.heap[b]? = some (.cells cs T (0, 0))

section
variable {P : Program} {w0 : World} {n : Nat} {ops : Array Oper} {L L' : List Blk} {E : Env}
variable {Q : Exit → Act → World → Prop} {rest : List Oper} {v : Value}
variable {d : Option Tmp} {ty : TypeId} {pos : String} {aft : Array Edge} {gd : Option (Nat × Bool)}
variable {T T' : TypeId} {x y : Operand} {t : Tmp} {k : IntKind}

theorem wl_loadD {T0 : TypeId} {b off : Nat} {ds : List Nat} {z : Nat} [hu : UndC P T (.int k)] (hx : Env.ev E x = some (.pointer (some ⟨b, off, none⟩))) [hm : MemC b L (dig k ds) T0] (hv : ds[off]? = some z) : Yl P w0 n L E ⟨d, .load T x, ty, pos, aft, gd⟩ (.int k (z : Int)) :=
  wl_load1 hx (by simp [oneB, hu.out]) (by rw [dig_get, hv]; rfl)
theorem wl_loadDF {T0 : TypeId} {b off : Nat} {ds : List Nat} {z : Nat} {fz : Nat × Nat} [hu : UndC P T (.int k)] (hx : Env.ev E x = some (.pointer (some ⟨b, off, none⟩))) (hm : w0.heap[b]? = some (.cells (dig k ds) T0 fz)) (hv : ds[off]? = some z) : Yl P w0 n L E ⟨d, .load T x, ty, pos, aft, gd⟩ (.int k (z : Int)) :=
  yl_loadF hx hm (ldv_one (by simp [oneB, hu.out]) (by rw [dig_get, hv]; rfl))
theorem wo_storeD {T0 : TypeId} {b off : Nat} {ds : List Nat} {z : Nat} (hx : Env.ev E x = some (.pointer (some ⟨b, off, none⟩))) (hy : Env.ev E y = some (.int k (z : Int))) [hk : SizeC P T 1] [MemC b L (dig k ds) T0] (hs : off < ds.length) [hu : UpdC b (dig k (ds.set off z)) L (dig k ds) T0 L']
    (hg : guardB ops E gd = some true) (h : JO P w0 n ops Q rest E L') : JO P w0 n ops Q (⟨none, .store T x y, ty, pos, aft, gd⟩ :: rest) E L :=
  jo_store (u := .int k (z : Int)) 1 hx hy hu.out hk.out rfl (Nat.ble_eq_true_of_le (by rw [size_dig]; omega)) (by simp [Value.cells, Value.oneCell']) ((nums_set k _ off z).trans (dig_set k ds off z)) hg rfl h
theorem wo_makeD {e : TypeId} {B : Nat} {m : Nat} [UndC P T (.slice e)] [ZeroC P e (.int k 0) #[.int k 0]] [SizeC P e 1] [BytesC P e B] (hx : Env.ev E x = some (.int .i64 m)) (hy : Env.ev E y = some (.int .i64 m)) (hm : B * m ≤ 281474976710656 ∧ m ≤ 281474976710656)
    (hg : guardB ops E gd = some true) (hd : Nat.blt t n = true)
    (h : ∀ b, JO P w0 n ops Q rest ((t, .slice (some ⟨b, 0, none⟩) m m) :: E) (⟨b, dig k (List.replicate m 0), e⟩ :: L)) : JO P w0 n ops Q (⟨some t, .makeSlice T x y, ty, pos, aft, gd⟩ :: rest) E L :=
  wo_make (k := k) hx hy hm hg hd (by rw [dig_zero]; exact h)
theorem wo_copyD {S S2 e T1 T2 : TypeId} {b1 l1 c1 b2 l2 c2 : Nat} {xs ys : List Nat} [UndC P S (.slice e)] [SizeC P e 1] (hx : Env.ev E x = some (.slice (some ⟨b1, 0, none⟩) l1 c1)) (hy : Env.ev E y = some (.slice (some ⟨b2, 0, none⟩) l2 c2))
    [h1' : MemC b1 L (dig k xs) T1] [h2' : MemC b2 L (dig k ys) T2] (h1 : l1 ≤ xs.length) (h2 : l2 ≤ ys.length) [hu : UpdC b1 (dig k (ys.take (min l2 l1) ++ xs.drop (min l2 l1))) L (dig k xs) T1 L']
    (hg : guardB ops E gd = some true) (hd : Nat.blt t n = true) (h : JO P w0 n ops Q rest ((t, .int .i64 ((min l2 l1 : Nat) : Int)) :: E) L') : JO P w0 n ops Q (⟨some t, .call ⟨.builtin .copy, #[x, y], #[S, S2]⟩, ty, pos, aft, gd⟩ :: rest) E L := by
  haveI : MemC b1 L (nums k (xs.map Int.ofNat)) T1 := ⟨h1'.out⟩
  haveI : MemC b2 L (nums k (ys.map Int.ofNat)) T2 := ⟨h2'.out⟩
  haveI : UpdC b1 (nums k ((ys.map Int.ofNat).take (min l2 l1) ++ (xs.map Int.ofNat).drop (min l2 l1))) L (nums k (xs.map Int.ofNat)) T1 L' := ⟨by
    have := hu.out
    simp only [dig, List.map_append, List.map_take, List.map_drop] at this
    exact this⟩
  exact wo_copy (k := k) (xs := xs.map Int.ofNat) (ys := ys.map Int.ofNat) (T1 := T1) (T2 := T2) hx hy (by simpa using h1) (by simpa using h2) hg hd h
/-- A slice of a slice, from its beginning on. -/
theorem wl_slice_hi {e s b l c : Nat} {i : Int} [h : UndC P T (.slice e)] [hs : SizeC P e s] (hx : Env.ev E x = some (.slice (some ⟨b, 0, none⟩) l c)) (hy : Env.ev E y = some (.int .i64 i)) (hi : 0 ≤ i ∧ i ≤ c) :
    Yl P w0 n L E ⟨d, .slice T x none (some y) none, ty, pos, aft, gd⟩ (.slice (some ⟨b, 0, none⟩) i.toNat c) :=
  yl_run (fun _ => Instr.sliceAt T (.slice (some ⟨b, 0, none⟩) l c) none (some (.int .i64 i)) none) (fun a ha => by simp only [execOp, ha.ev hx, Option.map_none, Option.map_some, ha.ev hy]) (fun a w _ _ => by
    simp [Instr.sliceAt, Instr.slice, run_underlying h.out, Instr.sliceBounds, Instr.sliceBound, asIntOf, hi.1, hi.2, run_sizeOf hs.out, Addr.add])

/-- A call whose result lies in one new block. -/
theorem wo_callB {f : FuncId} {xs : List Operand} {l : List Value} {ats : Array TypeId} {val : Nat → Value} {cs : Array Value} {Tb : TypeId} (hl : Env.evs E xs = some l) [hf : CallC P f] (hc : ∀ w, Own w0 L w → Calls P f l.toArray w (RetB val cs Tb w))
    (hg : guardB ops E gd = some true) (hd : Nat.blt t n = true) (h : ∀ b, JO P w0 n ops Q rest ((t, val b) :: E) (⟨b, cs, Tb⟩ :: L)) : JO P w0 n ops Q (⟨some t, .call ⟨.value (.func f), xs.toArray, ats⟩, ty, pos, aft, gd⟩ :: rest) E L :=
  jo_c (S := Nat) (o := ⟨some t, .call ⟨.value (.func f), xs.toArray, ats⟩, ty, pos, aft, gd⟩) hg hd val (fun b => ⟨b, cs, Tb⟩ :: L) (fun _ _ ha => run_call hf.out ha hl)
    (fun w hw => (hc w hw).mono fun _ _ ⟨b, he, hb, hx, hh⟩ => ⟨b, he, hw.more hx hb hh⟩) h
theorem retB_ok {w : World} {b : Nat} {cs : Array Value} {Tb : TypeId} {val : Nat → Value} (hw : Own w0 L w) [hm : MemC b L cs Tb] : RetB val cs Tb w0 (.returned (val b)) w := ⟨b, rfl, (hw.mem _ hm.out).1, hw.ext, (hw.mem _ hm.out).2⟩
end
end Go.Vt
