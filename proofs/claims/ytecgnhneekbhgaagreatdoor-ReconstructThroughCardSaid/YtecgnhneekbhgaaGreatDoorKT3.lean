/- ReconstructThrough: for at most 12 reports and any settings, Through returns the trajectory through the reports of their chain. (part 3 of 6.) Conditions: those that each statement names. -/
import Derived.Laws.AppendOwn
import Derived.Laws.Cover3
import Derived.Laws.Pointers
import Derived.Maps.RangeRun
import Derived.RangeFuncNested
import Derived.OrdersIn
import Derived.Test.YtecgnhneekbhgaaGreatDoorKT2
/- Rows of structs, memory of the caller, calls that read or make memory, closures, slices and appends under the program logic. Conditions: those that each rule names. -/
set_option linter.unusedSimpArgs false
set_option linter.unusedVariables false
set_option maxHeartbeats 2000000
set_option linter.unusedSectionVars false
namespace Go.Vt
open Go.RowKit
section
variable {α : Type}
/-- The cells of a list's elements, one behind another. -/
def rowL (enc : α → Array Value) (xs : List α) : List Value := xs.flatMap fun x => (enc x).toList
/-- A row of elements, and what lies spare behind. -/
def row (enc : α → Array Value) (xs : List α) (sp : List Value) : Array Value := (rowL enc xs ++ sp).toArray
class EncC (enc : α → Array Value) (k : outParam Nat) : Prop where
  size : ∀ x, (enc x).size = k
  one : ∀ x, (enc x).all (·.oneCell') = true
def eI (k : IntKind) (z : Int) : Array Value := #[.int k z]
instance encI (k : IntKind) : EncC (eI k) 1 := ⟨fun _ => rfl, fun _ => by simp [eI, Value.oneCell']⟩
/-- The element at a place. -/
def gi [Inhabited α] (xs : List α) (i : Int) : α := xs.getD i.toNat default
theorem gi_eq [Inhabited α] {xs : List α} {i : Int} (h : i.toNat < xs.length) : gi xs i = xs[i.toNat] := by
  unfold gi
  rw [List.getD_eq_getElem?_getD, List.getElem?_eq_getElem h]
  rfl
theorem gi_nat [Inhabited α] {xs : List α} {i : Nat} (h : i < xs.length) : gi xs (i : Int) = xs[i] := gi_eq (i := (i : Int)) h
variable {enc : α → Array Value} {k : Nat}
theorem rowL_nil : rowL enc [] = [] := rfl
theorem rowL_append (xs ys : List α) : rowL enc (xs ++ ys) = rowL enc xs ++ rowL enc ys := by simp [rowL]
theorem rowL_len [h : EncC enc k] (xs : List α) : (rowL enc xs).length = xs.length * k := by
  induction xs with
  | nil => simp [rowL]
  | cons x xs ih =>
    have h1 := h.size x
    simp only [rowL, List.flatMap_cons, List.length_append, Array.length_toList, List.length_cons, h1, Nat.add_mul] at ih ⊢
    omega
theorem rowL_get [h : EncC enc k] (xs : List α) (i j : Nat) (hi : i < xs.length) (hj : j < k) : (rowL enc xs)[i * k + j]? = (enc xs[i])[j]? := by
  induction xs generalizing i with
  | nil => simp at hi
  | cons x xs ih =>
    have h1 := h.size x
    simp only [rowL, List.flatMap_cons] at ih ⊢
    cases i with
    | zero =>
      rw [Nat.zero_mul, Nat.zero_add, List.getElem?_append_left (by simp; omega)]
      simp
    | succ i =>
      rw [List.getElem?_append_right (by simp [Nat.add_mul]; omega)]
      have e : (i + 1) * k + j - (enc x).toList.length = i * k + j := by simp [Nat.add_mul, h1]; omega
      rw [e, ih i (by simpa using hi)]
      simp
theorem row_get [h : EncC enc k] (xs : List α) (sp : List Value) (i j : Nat) (hi : i < xs.length) (hj : j < k) : (row enc xs sp)[i * k + j]? = (enc xs[i])[j]? := by
  have hl := rowL_len (enc := enc) xs
  have hlt : i * k + j < xs.length * k := by
    have := Nat.mul_le_mul_right k (show i + 1 ≤ xs.length from hi)
    rw [Nat.add_mul] at this
    omega
  rw [row, List.getElem?_toArray, List.getElem?_append_left (by omega)]
  exact rowL_get xs i j hi hj
theorem row_size [h : EncC enc k] (xs : List α) (sp : List Value) : (row enc xs sp).size = xs.length * k + sp.length := by
  simp [row, rowL_len]
theorem ldv_row {P : Program} {T : TypeId} {f : Nat} {v : Value} [h : EncC enc k] {xs : List α} {sp : List Value} {i : Nat} (hi : i < xs.length) (hv : LdV P T (enc xs[i]) f v) : LdV P T (row enc xs sp) (i * k + f) v := by
  have hk := h.size xs[i]
  have hle := Nat.mul_le_mul_right k (show i + 1 ≤ xs.length from hi)
  rw [Nat.add_mul] at hle
  rcases hv with ⟨n, ha, hs, rfl⟩ | ⟨ho, hv⟩
  · refine .inl ⟨n, ha, by rw [row_size (k := k)]; omega, ?_⟩
    congr 1
    apply Array.ext_getElem?
    intro j
    rw [Array.getElem?_extract, Array.getElem?_extract]
    by_cases hj : j < n
    · rw [if_pos (by omega), if_pos (by rw [row_size (k := k)]; omega), Nat.add_assoc, row_get xs sp i (f + j) hi (by omega)]
    · rw [if_neg (by omega), if_neg (by rw [row_size (k := k)]; omega)]
  · have hf : f < k := by
      rcases Nat.lt_or_ge f k with h1 | h1
      · exact h1
      · rw [Array.getElem?_eq_none (by omega)] at hv
        cases hv
    exact .inr ⟨ho, by rw [row_get xs sp i f hi hf]; exact hv⟩
theorem spl_row [h : EncC enc k] (xs : List α) (sp : List Value) (i : Nat) (z : α) (hi : i < xs.length) : spl (row enc xs sp) (i * k) (enc z).toList = row enc (xs.set i z) sp := by
  have hle := Nat.mul_le_mul_right k (show i + 1 ≤ xs.length from hi)
  rw [Nat.add_mul] at hle
  have hz := h.size z
  apply Array.ext_getElem?
  intro j
  rw [spl_get _ _ _ _ (by rw [row_size (k := k)]; simp; omega)]
  simp only [Array.length_toList, hz]
  by_cases h1 : i * k ≤ j ∧ j < i * k + k
  · rw [if_pos h1]
    obtain ⟨m, rfl⟩ : ∃ m, j = i * k + m := ⟨j - i * k, by omega⟩
    rw [row_get _ sp i m (by simpa using hi) (by omega), Nat.add_sub_cancel_left]
    simp
  · rw [if_neg h1]
    rcases Nat.lt_or_ge j (xs.length * k) with h2 | h2
    · rcases Nat.eq_zero_or_pos k with h0 | h0
      · subst h0; simp at h2
      · obtain ⟨q, m, rfl, hm⟩ : ∃ q m, j = q * k + m ∧ m < k := ⟨j / k, j % k, by rw [Nat.mul_comm]; exact (Nat.div_add_mod j k).symm, Nat.mod_lt _ h0⟩
        have hq : q < xs.length := by
          rcases Nat.lt_or_ge q xs.length with h3 | h3
          · exact h3
          · have := Nat.mul_le_mul_right k h3
            omega
        have hqi : i ≠ q := by
          rintro rfl
          exact h1 ⟨by omega, by omega⟩
        rw [row_get xs sp q m hq hm, row_get _ sp q m (by simpa using hq) hm]
        simp [List.getElem_set_ne hqi]
    · rw [row, row, List.getElem?_toArray, List.getElem?_toArray, List.getElem?_append_right (by rw [rowL_len (k := k)]; exact h2), List.getElem?_append_right (by rw [rowL_len (k := k)]; simpa using h2)]
      simp [rowL_len (k := k)]
theorem row_one [h : EncC enc k] (xs : List α) : ∀ u ∈ rowL enc xs, u.oneCell' = true := fun u hu => by
  obtain ⟨x, _, hx⟩ := List.mem_flatMap.1 hu
  exact Array.all_eq_true_iff_forall_mem.1 (h.one x) u (Array.mem_toList_iff.1 hx)
end
/-- A block that was there when the call began. -/
class FoC (w0 : World) (b : Nat) (cs : outParam (Array Value)) (T : outParam TypeId) : Prop where
  out : ∃ fz, w0.heap[b]? = some (.cells cs T fz)
/-- A block that is known, the call's own or not. -/
class AtC (w0 : World) (L : List Blk) (b : Nat) (cs : outParam (Array Value)) (T : outParam TypeId) : Prop where
  out : ∀ w, Own w0 L w → ∃ fz, w.heap[b]? = some (.cells cs T fz)
instance (priority := high) atMem (w0 : World) (L : List Blk) (b : Nat) (cs : Array Value) (T : TypeId) [h : MemC b L cs T] : AtC w0 L b cs T := ⟨fun _ hw => ⟨(0, 0), (hw.mem _ h.out).2⟩⟩
instance (priority := low) atFo (w0 : World) (L : List Blk) (b : Nat) (cs : Array Value) (T : TypeId) [h : FoC w0 b cs T] : AtC w0 L b cs T := ⟨fun w hw => by
  obtain ⟨fz, hf⟩ := h.out
  exact ⟨fz, by rw [hw.ext.block b (lt_of_block hf)]; exact hf⟩⟩
instance (priority := low) sblA (X A B : List Blk) [h : SblC A B] : SblC A (X ++ B) := ⟨h.out.trans (List.sublist_append_right _ _)⟩
instance (priority := low) memSkip (b : Nat) (A L : List Blk) (cs : Array Value) (T : TypeId) [h : MemC b L cs T] : MemC b (A ++ L) cs T := ⟨List.mem_append_right _ h.out⟩
section
variable {P : Program} {w0 : World} {n : Nat} {ops : Array Oper} {L L' : List Blk} {E : Env}
variable {Q : Exit → Act → World → Prop} {rest : List Oper} {v : Value}
variable {d : Option Tmp} {ty : TypeId} {pos : String} {aft : Array Edge} {gd : Option (Nat × Bool)} {t : Tmp}
variable {x y : Operand} {T : TypeId}
theorem yl_loadA {T0 : TypeId} {b off : Nat} {cs : Array Value} (hx : Env.ev E x = some (.pointer (some ⟨b, off, none⟩))) (h : ∀ w, Own w0 L w → ∃ fz, w.heap[b]? = some (.cells cs T0 fz)) (hv : LdV P T cs off v) : Yl P w0 n L E ⟨d, .load T x, ty, pos, aft, gd⟩ v :=
  yl_run (fun _ => loadVar T ⟨b, off, none⟩) (fun a ha => by
    simp only [execOp, ha.ev hx, Instr.loadAt, Instr.sureAddr]
    rfl) (fun a w _ hw => by
      obtain ⟨fz, hf⟩ := h w hw
      exact run_loadVar hf hv)
instance (priority := low) yk_loadF {T0 : TypeId} {b off : Nat} {cs : Array Value} [IsC (evl E x) (.pointer (some ⟨b, off, none⟩))] [h : FoC w0 b cs T0] [hv : LdC P T cs off v] : YlC P w0 n L E (.load T x) v := ⟨fun _ _ _ _ _ => yl_loadA isE (atFo w0 L b cs T0).out hv.out⟩
section
variable {α : Type} [Inhabited α] {enc : α → Array Value} {k b f : Nat} {xs : List α} {sp : List Value} {T0 : TypeId} {i lo : Int}
instance ldEI {k : IntKind} {z : Int} [h : UndC P T (.int k)] : LdC P T (eI k z) 0 (.int k z) := ⟨ldv_one (by simp [oneB, h.out]) rfl⟩
instance ys_row0 [IsC (evl E x) (.pointer (some ⟨b, 0 + i.toNat * k, none⟩))] [h : AtC w0 L b (row enc xs sp) T0] [EncC enc k] [hv : LdC P T (enc (gi xs i)) 0 v] : YsC P w0 n L E (.load T x) v (i.toNat < xs.length) := ⟨fun hi _ _ _ _ _ => yl_loadA isE h.out (by
  have h1 := ldv_row (P := P) (T := T) (v := v) (enc := enc) (k := k) (sp := sp) (f := 0) hi (by rw [← gi_eq hi]; exact hv.out)
  rwa [Nat.add_zero, ← Nat.zero_add (i.toNat * k)] at h1)⟩
instance ys_rowF [IsC (evl E x) (.pointer (some ⟨b, 0 + i.toNat * k + f, none⟩))] [h : AtC w0 L b (row enc xs sp) T0] [EncC enc k] [hv : LdC P T (enc (gi xs i)) f v] : YsC P w0 n L E (.load T x) v (i.toNat < xs.length) := ⟨fun hi _ _ _ _ _ => yl_loadA isE h.out (by
  have h1 := ldv_row (P := P) (T := T) (v := v) (enc := enc) (k := k) (sp := sp) (f := f) hi (by rw [← gi_eq hi]; exact hv.out)
  rwa [← Nat.zero_add (i.toNat * k)] at h1)⟩
/-- What a value holds for an element. -/
class ValC {α : Type} (enc : α → Array Value) (u : Value) (z : outParam α) : Prop where
  out : u.cells = enc z
instance valI {k : IntKind} {z : Int} : ValC (eI k) (.int k z) z := ⟨rfl⟩
instance valA (enc : α → Array Value) (z : α) : ValC enc (.agg (enc z)) z := ⟨rfl⟩
/-- An element is turned. -/
theorem sR {u : Value} {z : α} [hx : IsC (evl E x) (.pointer (some ⟨b, 0 + i.toNat * k, none⟩))] [hy : IsC (evl E y) u] [hk : SizeC P T k] [MemC b L (row enc xs sp) T0] [he : EncC enc k] [hu : ValC enc u z] [hU : UpdC b (row enc (xs.set i.toNat z) sp) L (row enc xs sp) T0 L']
    (hg : guardB ops E gd = some true) (s : i.toNat < xs.length) (h : JO P w0 n ops Q rest E L') : JO P w0 n ops Q (⟨none, .store T x y, ty, pos, aft, gd⟩ :: rest) E L := by
  have h1 := he.size z
  have hle := Nat.mul_le_mul_right k (show i.toNat + 1 ≤ xs.length from s)
  rw [Nat.add_mul] at hle
  exact jo_store (u := u) k isE isE hU.out hk.out (by rw [hu.out, h1]) (by rw [row_size (k := k)]; exact Nat.ble_eq_true_of_le (by omega)) (by rw [hu.out]; exact he.one z) (by rw [hu.out, Nat.zero_add]; exact spl_row xs sp _ z s) hg rfl h
end
/-- A part of a struct is turned. -/
class StC (P : Program) (T : TypeId) (cs : Array Value) (off : Nat) (u : Value) (cs' : outParam (Array Value)) : Prop where
  size : (P.info? T).map (·.size) = some u.cells.size
  fit : Nat.ble (off + u.cells.size) cs.size = true
  one : u.cells.all (·.oneCell') = true
  out : spl cs off u.cells.toList = cs'
theorem sF {T0 : TypeId} {b off : Nat} {cs cs' : Array Value} {u : Value} [hx : IsC (evl E x) (.pointer (some ⟨b, off, none⟩))] [hy : IsC (evl E y) u] [MemC b L cs T0] [hs : StC P T cs off u cs'] [hU : UpdC b cs' L cs T0 L'] (hg : guardB ops E gd = some true)
    (h : JO P w0 n ops Q rest E L') : JO P w0 n ops Q (⟨none, .store T x y, ty, pos, aft, gd⟩ :: rest) E L := jo_store (u := u) u.cells.size isE isE hU.out hs.size rfl hs.fit hs.one hs.out hg rfl h
theorem eF {K : Env → List Blk → Prop} {Lw : List Blk} {T0 : TypeId} {b off : Nat} {cs cs' : Array Value} {u : Value} [hx : IsC (evl E x) (.pointer (some ⟨b, off, none⟩))] [hy : IsC (evl E y) u] [MemC b L cs T0] [hs : StC P T cs off u cs'] [hU : UpdC b cs' L cs T0 L'] (hg : guardB ops E gd = some true) [hw : SblC Lw L']
    (h : JE P w0 n ops Lw K rest E L') : JE P w0 n ops Lw K (⟨none, .store T x y, ty, pos, aft, gd⟩ :: rest) E L := je_store (u := u) u.cells.size isE isE hU.out hs.size rfl hs.fit hs.one hs.out hg hw.out h
class SpecM (P : Program) (w0 : World) (L : List Blk) (f : FuncId) (args : List Value) (v : outParam Value) (pre : outParam Prop) : Prop where
  out : pre → ∀ w, Own w0 L w → Calls P f args.toArray w (Ret v w)
instance (priority := low) specM_C {f : FuncId} {args : List Value} {pre : Prop} [h : SpecC P f args v pre] : SpecM P w0 L f args v pre := ⟨fun hp w _ => h.out hp w⟩
instance (priority := low) yc_callM {f : FuncId} {xs : List Operand} {l : List Value} {ats : Array TypeId} {pre : Prop} [hf : CallC P f] [IsC (evsl E xs) l] [h : SpecM P w0 L f l v pre] : YcC P w0 n L E (.call ⟨.value (.func f), xs.toArray, ats⟩) v pre := ⟨fun hp _ _ _ _ _ => yl_call hf.out isS (h.out hp)⟩
theorem yl_makeFunc {f : Fn} {xs : List Operand} {l : List Value} (hl : Env.evs E xs = some l) : Yl P w0 n L E ⟨d, .makeFunc f #[] xs.toArray, ty, pos, aft, gd⟩ (.func f #[] l.toArray) :=
  yl_run (fun _ => Instr.makeFunc f #[] l.toArray) (fun a ha => by
    have h1 : xs.toArray.map a.eval = l.toArray := by rw [← ha.evs xs l hl]; simp
    simp only [execOp, h1, Array.map_empty]) (fun a w _ _ => by simp [Instr.makeFunc])
instance yk_makeFunc {f : Fn} {xs : List Operand} {l : List Value} [IsC (evsl E xs) l] : YlC P w0 n L E (.makeFunc f #[] xs.toArray) (.func f #[] l.toArray) := ⟨fun _ _ _ _ _ => yl_makeFunc isS⟩
/-- Two lists, one behind the other. -/
class AppC (a b : List Value) (c : outParam (List Value)) : Prop where out : a ++ b = c
instance appN (b : List Value) : AppC [] b b := ⟨rfl⟩
instance appS (x : Value) (a b c : List Value) [h : AppC a b c] : AppC (x :: a) b (x :: c) := ⟨by rw [← h.out]; rfl⟩
theorem run_callcl {f : FuncId} {g : Operand} {xs : List Operand} {l cap c : List Value} {ats : Array TypeId} {a : Act} {w : World} (hf : callableB P f = true) (ha : Rep n E a) (hg : Env.ev E g = some (.func (.func f) #[] cap.toArray)) (hl : Env.evs E xs = some l) (hc : l ++ cap = c) :
    (execOp a.eval ⟨d, .call ⟨.value g, xs.toArray, ats⟩, ty, pos, aft, gd⟩).run P w = .ok (.enter f c.toArray) w := by
  have h1 : xs.toArray.map a.eval = l.toArray := by rw [← ha.evs xs l hl]; simp
  simp only [execOp, resolve, h1, ha.ev hg, Deferred.ofValue, Sem.run_bind, Sem.run_pure, Result.andThen, invoke]
  rw [show (#[] ++ l.toArray : Array Value) = l.toArray from Array.empty_append]
  have h2 : l.toArray ++ cap.toArray = c.toArray := by rw [← hc]; simp
  rw [h2]
  exact run_callFunc hf _ _
instance yc_callcl {f : FuncId} {u : Tmp} {xs : List Operand} {l cap c : List Value} {ats : Array TypeId} {pre : Prop} [hu : IsC (evl E (.tmp u)) (.func (.func f) #[] cap.toArray)] [hf : CallC P f] [IsC (evsl E xs) l] [hc : AppC l cap c] [h : SpecM P w0 L f c v pre] : YcC P w0 n L E (.call ⟨.value (.tmp u), xs.toArray, ats⟩) v pre := ⟨fun hp _ _ _ _ _ => ⟨fun a w ha hw => by
  unfold calm
  rw [run_callcl hf.out ha isE isS hc.out]
  exact ⟨rfl, h.out hp w hw⟩⟩⟩
def RetM (S : Type) (val : S → Value) (mem : S → List Blk) (w : World) (e : Ending) (w' : World) : Prop := ∃ s, e = .returned (val s) ∧ Own w (mem s) w'
theorem Own.join {w w' : World} {G : List Blk} (h : Own w0 L w) (k : Own w G w') : Own w0 (G ++ L) w' := by
  have h' := h.to k.ext
  refine ⟨h'.ext, fun e he => ?_, ?_⟩
  · rcases List.mem_append.1 he with he | he
    · exact ⟨Nat.le_trans h.ext.size (k.mem e he).1, (k.mem e he).2⟩
    · exact h'.mem e he
  · rw [List.map_append]
    refine List.nodup_append.2 ⟨k.nd, h.nd, fun a ha b hb hab => ?_⟩
    obtain ⟨e1, h1, rfl⟩ := List.mem_map.1 ha
    obtain ⟨e2, h2, rfl⟩ := List.mem_map.1 hb
    have h3 := (k.mem e1 h1).1
    have h4 := h.lt h2
    omega
class SpecR (P : Program) (w0 : World) (L : List Blk) (f : FuncId) (args : List Value) (S : outParam Type) (val : outParam (S → Value)) (mem : outParam (S → List Blk)) (pre : outParam Prop) : Prop where
  out : pre → ∀ w, Own w0 L w → Calls P f args.toArray w (RetM S val mem w)
theorem wo_callM {S : Type} {val : S → Value} {mem : S → List Blk} {f : FuncId} {xs : List Operand} {l : List Value} {ats : Array TypeId} (hl : Env.evs E xs = some l) (hf : callableB P f = true) (hc : ∀ w, Own w0 L w → Calls P f l.toArray w (RetM S val mem w))
    (hg : guardB ops E gd = some true) (hd : Nat.blt t n = true) (h : ∀ s, JO P w0 n ops Q rest ((t, val s) :: E) (mem s ++ L)) : JO P w0 n ops Q (⟨some t, .call ⟨.value (.func f), xs.toArray, ats⟩, ty, pos, aft, gd⟩ :: rest) E L :=
  jo_c (S := S) (o := ⟨some t, .call ⟨.value (.func f), xs.toArray, ats⟩, ty, pos, aft, gd⟩) hg hd val (fun s => mem s ++ L) (fun _ _ ha => run_call hf ha hl)
    (fun w hw => (hc w hw).mono fun _ _ ⟨s, he, ho⟩ => ⟨s, he, hw.join ho⟩) h
theorem sN {S : Type} {val : S → Value} {mem : S → List Blk} {f : FuncId} {xs : List Operand} {l : List Value} {ats : Array TypeId} {pre : Prop} [hf : CallC P f] [hl : IsC (evsl E xs) l] [hc : SpecR P w0 L f l S val mem pre]
    (hg : guardB ops E gd = some true) (hd : Nat.blt t n = true) (s : pre) (h : ∀ s, JO P w0 n ops Q rest ((t, val s) :: E) (mem s ++ L)) : JO P w0 n ops Q (⟨some t, .call ⟨.value (.func f), xs.toArray, ats⟩, ty, pos, aft, gd⟩ :: rest) E L := wo_callM isS hf.out (hc.out s) hg hd h
theorem eN {K : Env → List Blk → Prop} {Lw : List Blk} {S : Type} {val : S → Value} {mem : S → List Blk} {f : FuncId} {xs : List Operand} {l : List Value} {ats : Array TypeId} {pre : Prop} [hf : CallC P f] [hl : IsC (evsl E xs) l] [hc : SpecR P w0 L f l S val mem pre]
    (hg : guardB ops E gd = some true) (hd : Nat.blt t n = true) [hw : SblC Lw L] (s : pre) (h : ∀ s, JE P w0 n ops Lw K rest ((t, val s) :: E) (mem s ++ L)) : JE P w0 n ops Lw K (⟨some t, .call ⟨.value (.func f), xs.toArray, ats⟩, ty, pos, aft, gd⟩ :: rest) E L :=
  je_c (S := S) (o := ⟨some t, .call ⟨.value (.func f), xs.toArray, ats⟩, ty, pos, aft, gd⟩) hg hd val (fun s => mem s ++ L) (fun _ _ ha => run_call hf.out ha isS)
    (fun w hw' => (hc.out s w hw').mono fun _ _ ⟨s, he, ho⟩ => ⟨s, he, hw'.join ho⟩) (fun _ => weak_sub (hw.out.trans (List.sublist_append_right _ _))) h
/-- The rest of a call's value operations, behind all others. -/
theorem eX {K : Env → List Blk → Prop} {Lw : List Blk} {op : Op} [h : YlC P w0 n L E op v] (hg : guardB ops E gd = some true) (hd : Nat.blt t n = true) [hw : SblC Lw L] (k : JE P w0 n ops Lw K rest ((t, v) :: E) L) : JE P w0 n ops Lw K (⟨some t, op, ty, pos, aft, gd⟩ :: rest) E L :=
  ⟨hg, hd, Unit, fun _ => v, fun _ => L, fun a w ha hw => by
    have h1 := (h.out (some t) ty pos aft gd).out a w ha hw
    unfold calm at h1
    generalize (execOp a.eval ⟨some t, op, ty, pos, aft, gd⟩).run P w = r at *
    cases r with
    | ok x w' =>
      cases x <;> simp only [calmUpon] at h1 <;> simp only [Hap]
      case value u => exact ⟨(), h1.1, hw.to h1.2⟩
      case skip => exact ⟨(), h1.1.symm, hw.to h1.2⟩
      case enter f args =>
        obtain ⟨rfl, h2⟩ := h1
        exact h2.mono fun e w'' ⟨he, hx⟩ => ⟨_, he, (), rfl, hw.to hx⟩
    | halt x w' => simp only [calmUpon] at h1, fun _ => weak_sub hw.out, fun _ => k⟩
theorem sB {len : Nat} {ps : List (Nat × Operand)} {l : List (Nat × Value)} {cs : Array Value} {e : TypeId} [hp : IsC (evpl E ps) l] [hb : BsC P T len l cs e] (hg : guardB ops E gd = some true) (hd : Nat.blt t n = true)
    (h : ∀ b, JO P w0 n ops Q rest ((t, .slice (some ⟨b, 0, none⟩) len len) :: E) (⟨b, cs, e⟩ :: L)) : JO P w0 n ops Q (⟨some t, .buildSlice T len ps.toArray, ty, pos, aft, gd⟩ :: rest) E L := wo_bslice isP hg hd h
theorem eB {K : Env → List Blk → Prop} {Lw : List Blk} {len : Nat} {ps : List (Nat × Operand)} {l : List (Nat × Value)} {cs : Array Value} {e : TypeId} [hp : IsC (evpl E ps) l] [hb : BsC P T len l cs e] (hg : guardB ops E gd = some true) (hd : Nat.blt t n = true) [hw : SblC Lw L]
    (h : ∀ b, JE P w0 n ops Lw K rest ((t, .slice (some ⟨b, 0, none⟩) len len) :: E) (⟨b, cs, e⟩ :: L)) : JE P w0 n ops Lw K (⟨some t, .buildSlice T len ps.toArray, ty, pos, aft, gd⟩ :: rest) E L := je_bslice isP hg hd hw.out h
end
/-- A block taken out of the list. -/
class DelC (b : Nat) (L : List Blk) (cs : outParam (Array Value)) (T : outParam TypeId) (L1 : outParam (List Blk)) : Prop where
  out : L.Perm (⟨b, cs, T⟩ :: L1)
instance (priority := high) delHere (b : Nat) (cs : Array Value) (T : TypeId) (L : List Blk) : DelC b (⟨b, cs, T⟩ :: L) cs T L := ⟨.refl _⟩
instance (priority := low) delThere (b : Nat) (e : Blk) (cs : Array Value) (T : TypeId) (L L1 : List Blk) [h : DelC b L cs T L1] : DelC b (e :: L) cs T (e :: L1) := ⟨(h.out.cons e).trans (.swap _ _ _)⟩
section
variable {P : Program} {w0 : World} {n : Nat} {ops : Array Oper} {L L1 : List Blk} {E : Env}
variable {Q : Exit → Act → World → Prop} {rest : List Oper}
variable {ty : TypeId} {pos : String} {aft : Array Edge} {gd : Option (Nat × Bool)} {t : Tmp} {x y : Operand}
theorem info_some {T : TypeId} {β : Type} {g : TypeInfo → β} {v : β} (h : (P.info? T).map g = some v) : ∃ i, P.info? T = some i ∧ g i = v := by
  cases hi : P.info? T with
  | none => simp [hi] at h
  | some i => exact ⟨i, rfl, by simpa [hi] using h⟩
/-- What an append onto a row of the call's own comes to. -/
theorem run_app {S T : TypeId} {b len c b2 off2 m c2 k B : Nat} {xs sp news : List Value} {cs2 : Array Value} {z : Value} {zc : Array Value} {w : World} (hT : P.underlying S = some (.slice T)) (hz : (P.info? T).bind (·.zero) = some z) (hzc : z.cells = zc) (hk : (P.info? T).map (·.size) = some k) (hB : (P.info? T).map (·.bytes) = some B)
    (hzk : zc.size = k) (hw : Own w0 L w) (hd : L.Perm (⟨b, (xs ++ sp).toArray, T⟩ :: L1)) (hx : xs.length = len * k) (hs : sp.length = (c - len) * k) (hc : len ≤ c) (h2 : ∃ T2 fz, w.heap[b2]? = some (.cells cs2 T2 fz)) (hn : news.length = m * k) (hcs : ∀ j u, news[j]? = some u → cs2[off2 + j]? = some u)
    (h1 : ∀ u ∈ news, u.oneCell' = true) (hbytes : (len + m) * B ≤ 140737488355328) (h63 : len + m ≤ 9223372036854775807) :
    ∃ s : { s : Nat × Nat × List Value // len + m ≤ s.2.1 ∧ s.2.2.length = (s.2.1 - (len + m)) * k }, ∃ w', (Builtin.append_ #[S, S] ty #[.slice (some ⟨b, 0, none⟩) len c, .slice (some ⟨b2, off2, none⟩) m c2]).run P w = .ok (.slice (some ⟨s.1.1, 0, none⟩) (len + m) s.1.2.1) w' ∧ Own w0 (⟨s.1.1, (xs ++ news ++ s.1.2.2).toArray, T⟩ :: L1) w' := by
  have hwp := hw.perm hd
  have hb := (hwp.mem _ (.head _)).2
  obtain ⟨i, hi, hik⟩ := info_some hk
  obtain ⟨i', hi', hiB⟩ := info_some hB
  obtain rfl : i' = i := Option.some.inj (hi'.symm.trans hi)
  have hz' : i'.zero = some z := by simpa [hi] using hz
  obtain ⟨T2, fz, h2⟩ := h2
  have hnew : ∀ j u, news[j]? = some u → w.cell? ((⟨b2, off2, none⟩ : Addr).add j) = some u := fun j u hu => by rw [addr_add, cell_block h2]; exact hcs j u hu
  by_cases hroom : len + m ≤ c
  · have hle : (c - len) * k = (c - (len + m)) * k + m * k := by rw [← Nat.add_mul, show c - (len + m) + m = c - len by omega]
    have hr := run_append_room w S ty T i' hT hi b len c (xs ++ sp).toArray hb ⟨b2, off2, none⟩ m c2 news (by rw [hik]; exact hn) hnew h1 hroom (by rw [hik]; simp; omega)
    refine ⟨⟨(b, c, sp.drop (m * k)), hroom, by rw [List.length_drop]; simp only; omega⟩, _, hr, ?_⟩
    have e1 : ((xs ++ sp).toArray.toList.take (len * i'.size) ++ news ++ (xs ++ sp).toArray.toList.drop (len * i'.size + news.length)) = xs ++ news ++ sp.drop (m * k) := by
      rw [hik, hn, ← hx]
      simp only [List.take_left', List.drop_append, List.append_assoc]
      rw [List.drop_eq_nil_of_le (by omega), Nat.add_sub_cancel_left]
      simp
    rw [e1]
    refine hwp.turn (b := b) (cs := (xs ++ sp).toArray) (T := T) .here ?_
    have hsz : b < w.heap.size := lt_of_block hb
    refine ⟨by simp [World.setRow], by simp [World.setRow], by simp [World.setRow], by simp [World.setRow], by simp [World.setRow], fun q hq => ?_, ?_⟩
    · simp [World.setRow, Array.getElem?_modify, Ne.symm hq]
    · simp [World.setRow, Array.getElem?_modify, hb]
  · have hold : ∀ j u, xs[j]? = some u → w.cell? ((⟨b, 0, none⟩ : Addr).add j) = some u := fun j u hu => by
      rw [addr_add, cell_block hb, Nat.zero_add, List.getElem?_toArray, List.getElem?_append_left (by
        rcases Nat.lt_or_ge j xs.length with h | h
        · exact h
        · rw [List.getElem?_eq_none h] at hu; cases hu)]
      exact hu
    have hr := run_append_grow w S ty T i' z hT hi hz' ⟨b, 0, none⟩ len c xs (by rw [hik]; exact hx) hold ⟨b2, off2, none⟩ m c2 news (by rw [hik]; exact hn) hnew (by omega) (by omega) (growslice_fits (by omega) (by rw [hiB]; exact hbytes))
    have hge := grownCap_ge w (len + m) c T
    refine ⟨⟨(w.heap.size, grownCap w (len + m) c T, (Builtin.zeroCells z.cells (grownCap w (len + m) c T - (len + m))).toList), hge, by rw [Array.length_toList, size_zeroCells, hzc, hzk]⟩, _, hr, ?_⟩
    have hL1 : Own w0 L1 w := hwp.sub (List.sublist_cons_self _ _)
    have h3 := (hL1.to (Ext.drew w)).alloc (xs.toArray ++ news.toArray ++ Builtin.zeroCells z.cells (grownCap w (len + m) c T - (len + m))) T
    have e2 : xs.toArray ++ news.toArray ++ Builtin.zeroCells z.cells (grownCap w (len + m) c T - (len + m)) = (xs ++ news ++ (Builtin.zeroCells z.cells (grownCap w (len + m) c T - (len + m))).toList).toArray := by
      apply Array.ext'
      simp
    rw [e2] at h3
    rw [e2]
    exact h3
theorem run_app_nil {S T : TypeId} {b2 off2 m c2 k B : Nat} {news : List Value} {cs2 : Array Value} {z : Value} {zc : Array Value} {w : World} (hT : P.underlying S = some (.slice T)) (hz : (P.info? T).bind (·.zero) = some z) (hzc : z.cells = zc) (hk : (P.info? T).map (·.size) = some k) (hB : (P.info? T).map (·.bytes) = some B)
    (hzk : zc.size = k) (hw : Own w0 L w) (h2 : ∃ T2 fz, w.heap[b2]? = some (.cells cs2 T2 fz)) (hn : news.length = m * k) (hcs : ∀ j u, news[j]? = some u → cs2[off2 + j]? = some u)
    (hm : 0 < m) (hbytes : m * B ≤ 140737488355328) (h63 : m ≤ 9223372036854775807) :
    ∃ s : { s : Nat × Nat × List Value // m ≤ s.2.1 ∧ s.2.2.length = (s.2.1 - m) * k }, ∃ w', (Builtin.append_ #[S, S] ty #[.slice none 0 0, .slice (some ⟨b2, off2, none⟩) m c2]).run P w = .ok (.slice (some ⟨s.1.1, 0, none⟩) m s.1.2.1) w' ∧ Own w0 (⟨s.1.1, (news ++ s.1.2.2).toArray, T⟩ :: L) w' := by
  obtain ⟨i, hi, hik⟩ := info_some hk
  obtain ⟨i', hi', hiB⟩ := info_some hB
  obtain rfl : i' = i := Option.some.inj (hi'.symm.trans hi)
  have hz' : i'.zero = some z := by simpa [hi] using hz
  obtain ⟨T2, fz, h2⟩ := h2
  have hnew : ∀ j u, news[j]? = some u → w.cell? ((⟨b2, off2, none⟩ : Addr).add j) = some u := fun j u hu => by rw [addr_add, cell_block h2]; exact hcs j u hu
  have hr := run_append_nil w S ty T i' z hT hi hz' ⟨b2, off2, none⟩ m c2 news (by rw [hik]; exact hn) hnew hm (by omega) (by rw [hiB]; omega)
  have hge := grownCap_ge w m 0 T
  refine ⟨⟨(w.heap.size, grownCap w m 0 T, (Builtin.zeroCells z.cells (grownCap w m 0 T - m)).toList), hge, by rw [Array.length_toList, size_zeroCells, hzc, hzk]⟩, _, hr, ?_⟩
  have h3 := (hw.to (Ext.drew w)).alloc (news.toArray ++ Builtin.zeroCells z.cells (grownCap w m 0 T - m)) T
  have e2 : news.toArray ++ Builtin.zeroCells z.cells (grownCap w m 0 T - m) = (news ++ (Builtin.zeroCells z.cells (grownCap w m 0 T - m)).toList).toArray := by
    apply Array.ext'
    simp
  rw [e2] at h3
  rw [e2]
  exact h3
theorem run_appop {S : TypeId} {vx vy : Value} {a : Act} {w w' : World} {r : Value} {d : Option Tmp} (ha : Rep n E a) (hx : Env.ev E x = some vx) (hy : Env.ev E y = some vy) (hr : (Builtin.append_ #[S, S] ty #[vx, vy]).run P w = .ok r w') :
    (execOp a.eval ⟨d, .call ⟨.builtin .append, #[x, y], #[S, S]⟩, ty, pos, aft, gd⟩).run P w = .ok (.value r) w' := by
  have h1 : (#[x, y] : Array Operand).map a.eval = #[vx, vy] := by simp [ha.ev hx, ha.ev hy]
  have h2 : ∀ cs : Array Bool, (builtin .append #[S, S] ty cs #[vx, vy]).run P w = .ok (.value r) w' := fun cs => by
    show Sem.run P (do pure (Next.value (← Builtin.append_ #[S, S] ty #[vx, vy])) : Sem Next) w = _
    rw [Sem.run_bind, hr]
    rfl
  simp only [execOp, resolve, h1, Sem.run_bind, Sem.run_pure, Result.andThen, invoke]
  exact h2 _
section
variable {α : Type} {enc : α → Array Value} {S T T2 : TypeId} {b c b2 m c2 k B : Nat} {xs ys : List α} {sp : List Value} {z : Value} {zc : Array Value}
variable [hx : IsC (evl E x) (.slice (some ⟨b, 0, none⟩) xs.length c)] [hy : IsC (evl E y) (.slice (some ⟨b2, 0, none⟩) m c2)] [hd : DelC b L (row enc xs sp) T L1] [h2 : AtC w0 L b2 (row enc ys []) T2] [hT : UndC P S (.slice T)] [hz : ZeroC P T z zc] [he : EncC enc k] [hk : SizeC P T k] [hB : BytesC P T B]
include hx hy hd h2 hT hz he hk hB
end
section
variable {α : Type} {enc : α → Array Value} {S T T2 : TypeId} {b2 m c2 k B : Nat} {ys : List α} {z : Value} {zc : Array Value}
variable [hx : IsC (evl E x) (.slice none 0 0)] [hy : IsC (evl E y) (.slice (some ⟨b2, 0, none⟩) m c2)] [h2 : AtC w0 L b2 (row enc ys []) T2] [hT : UndC P S (.slice T)] [hz : ZeroC P T z zc] [he : EncC enc k] [hk : SizeC P T k] [hB : BytesC P T B]
include hx hy h2 hT hz he hk hB
end
section
variable {α : Type} {enc : α → Array Value} {S T T1 T2 : TypeId} {b b2 m c2 k B : Nat} {xs ys : List α} {sp : List Value} {z : Value} {zc : Array Value}
variable [hx : IsC (evl E x) (.slice (some ⟨b, 0, none⟩) xs.length xs.length)] [hy : IsC (evl E y) (.slice (some ⟨b2, 0, none⟩) m c2)] [h1 : AtC w0 L b (row enc xs sp) T1] [h2 : AtC w0 L b2 (row enc ys []) T2] [hT : UndC P S (.slice T)] [hz : ZeroC P T z zc] [he : EncC enc k] [hk : SizeC P T k] [hB : BytesC P T B]
include hx hy h1 h2 hT hz he hk hB
end
theorem nums_row (k : IntKind) (xs : List Int) : nums k xs = row (eI k) xs [] := by
  have h : ∀ l : List Int, l.flatMap (fun x => [Value.int k x]) = l.map (Value.int k) := by
    intro l
    induction l with
    | nil => rfl
    | cons a l ih => simp [ih]
  simp [nums, row, rowL, eI, h]
/-- A new row of integers. -/
theorem sM {T e : TypeId} {k : IntKind} {B m : Nat} [hT : UndC P T (.slice e)] [hz : ZeroC P e (.int k 0) #[.int k 0]] [hs : SizeC P e 1] [hB : BytesC P e B] [hx : IsC (evl E x) (.int .i64 (m : Nat))] [hy : IsC (evl E y) (.int .i64 (m : Nat))] (hg : guardB ops E gd = some true) (hd : Nat.blt t n = true) (hm : B * m ≤ 281474976710656 ∧ m ≤ 281474976710656)
    (h : ∀ b, JO P w0 n ops Q rest ((t, .slice (some ⟨b, 0, none⟩) m m) :: E) (⟨b, row (eI k) (List.replicate m 0) [], e⟩ :: L)) : JO P w0 n ops Q (⟨some t, .makeSlice T x y, ty, pos, aft, gd⟩ :: rest) E L :=
  wo_make isE isE hm hg hd (fun b => by rw [nums_row]; exact h b)
end
/-- The walk, with rows. -/
theorem wkB {P Q : Prop} (k : Q) (h : Wr Q → P := by intro hq; (first | refine sX rfl rfl ?_ | (refine sS rfl rfl ?_ ?_; focus omega) | (refine sC rfl rfl ?_ ?_; focus (first | exact trivial | assumption | constructor <;> assumption | exact mb2 rfl rfl | exact mb4 rfl rfl rfl rfl)) | refine cX ?_ | refine cY ?_ | (refine sA rfl rfl ?_) | refine sT rfl ?_ | refine sF rfl ?_ | (refine sR rfl ?_ ?_; focus omega) | (refine sB rfl rfl ?_) | (refine sN rfl rfl ?_ ?_; (focus (first | exact trivial | assumption | constructor <;> assumption | exact mb2 rfl rfl | exact mb4 rfl rfl rfl rfl)); (try simp only [List.cons_append, List.nil_append, List.append_nil])) | refine sW rfl rfl ?_ | refine sK rfl rfl ?_ | refine j_if rfl ?_ | refine j_else rfl ?_ | refine pkT rfl rfl rfl rfl ?_ | refine pkF rfl rfl rfl rfl ?_); (repeat (first | refine sX rfl rfl ?_ | (refine sS rfl rfl ?_ ?_; focus omega) | (refine sC rfl rfl ?_ ?_; focus (first | exact trivial | assumption | constructor <;> assumption | exact mb2 rfl rfl | exact mb4 rfl rfl rfl rfl)) | refine cX ?_ | refine cY ?_ | (refine sA rfl rfl ?_) | refine sT rfl ?_ | refine sF rfl ?_ | (refine sR rfl ?_ ?_; focus omega) | (refine sB rfl rfl ?_) | (refine sN rfl rfl ?_ ?_; (focus (first | exact trivial | assumption | constructor <;> assumption | exact mb2 rfl rfl | exact mb4 rfl rfl rfl rfl)); (try simp only [List.cons_append, List.nil_append, List.append_nil])) | refine sW rfl rfl ?_ | refine sK rfl rfl ?_ | refine j_if rfl ?_ | refine j_else rfl ?_ | refine pkT rfl rfl rfl rfl ?_ | refine pkF rfl rfl rfl rfl ?_)); exact hq.out) : P := h ⟨k⟩
end Go.Vt
/- Rows of structs and integers: encodings, literals, stores of parts. Written by a program (gen_row.py). Conditions: none. -/
set_option linter.unusedVariables false
set_option maxRecDepth 100000
namespace Go.Vt
open Go.RowKit Go.Proofs
instance : Inhabited api_Report := ⟨z_api_Report⟩
instance enc_api_Report : EncC e_api_Report 8 := ⟨fun _ => CsC.size, fun _ => CsC.one⟩
abbrev r_intake_Timed (x : R_intake_Timed) : Array Value := e_intake_Timed (q_intake_Timed x)
instance : Inhabited R_intake_Timed := ⟨zR_intake_Timed⟩
instance enc_intake_Timed : EncC r_intake_Timed 12 := ⟨fun _ => CsC.size, fun _ => CsC.one⟩
instance : Inhabited viatorlaw28_Spot := ⟨z_viatorlaw28_Spot⟩
instance enc_viatorlaw28_Spot : EncC e_viatorlaw28_Spot 3 := ⟨fun _ => CsC.size, fun _ => CsC.one⟩
abbrev r_api_Interval (x : R_api_Interval) : Array Value := e_api_Interval (q_api_Interval x)
instance : Inhabited R_api_Interval := ⟨zR_api_Interval⟩
instance enc_api_Interval : EncC r_api_Interval 20 := ⟨fun _ => CsC.size, fun _ => CsC.one⟩
abbrev r_api_PointUnit (x : R_api_PointUnit) : Array Value := e_api_PointUnit (q_api_PointUnit x)
instance : Inhabited R_api_PointUnit := ⟨zR_api_PointUnit⟩
instance enc_api_PointUnit : EncC r_api_PointUnit 36 := ⟨fun _ => CsC.size, fun _ => CsC.one⟩
abbrev r_movingpoint_Sample (x : R_movingpoint_Sample) : Array Value := e_movingpoint_Sample (q_movingpoint_Sample x)
instance : Inhabited R_movingpoint_Sample := ⟨zR_movingpoint_Sample⟩
instance enc_movingpoint_Sample : EncC r_movingpoint_Sample 12 := ⟨fun _ => CsC.size, fun _ => CsC.one⟩
instance : Inhabited api_Exchange := ⟨z_api_Exchange⟩
instance enc_api_Exchange : EncC e_api_Exchange 5 := ⟨fun _ => CsC.size, fun _ => CsC.one⟩
abbrev r_pieces_Unit_api_Line (x : R_pieces_Unit_api_Line) : Array Value := e_pieces_Unit_api_Line (q_pieces_Unit_api_Line x)
instance : Inhabited R_pieces_Unit_api_Line := ⟨zR_pieces_Unit_api_Line⟩
instance enc_pieces_Unit_api_Line : EncC r_pieces_Unit_api_Line 36 := ⟨fun _ => CsC.size, fun _ => CsC.one⟩
instance st_136_0_1 (x : R_pieces_Unit_api_Line) (v : R_api_Real) : StC Tryz.prog 81 (e_pieces_Unit_api_Line (q_pieces_Unit_api_Line x)) 9 (.agg (e_api_Real (q_api_Real v))) (e_pieces_Unit_api_Line (q_pieces_Unit_api_Line { x with In := { x.In with To := v } })) := ⟨by kernel_rfl, by kernel_rfl, by kernel_rfl, by kernel_rfl⟩
instance st_136_0_2 (x : R_pieces_Unit_api_Line) (v : Bool) : StC Tryz.prog 4 (e_pieces_Unit_api_Line (q_pieces_Unit_api_Line x)) 18 (.bool v) (e_pieces_Unit_api_Line (q_pieces_Unit_api_Line { x with In := { x.In with OpenFrom := v } })) := ⟨by kernel_rfl, by kernel_rfl, by kernel_rfl, by kernel_rfl⟩
instance st_136_0_3 (x : R_pieces_Unit_api_Line) (v : Bool) : StC Tryz.prog 4 (e_pieces_Unit_api_Line (q_pieces_Unit_api_Line x)) 19 (.bool v) (e_pieces_Unit_api_Line (q_pieces_Unit_api_Line { x with In := { x.In with OpenTo := v } })) := ⟨by kernel_rfl, by kernel_rfl, by kernel_rfl, by kernel_rfl⟩
instance st_136_1 (x : R_pieces_Unit_api_Line) (v : R_api_Line) : StC Tryz.prog 85 (e_pieces_Unit_api_Line (q_pieces_Unit_api_Line x)) 20 (.agg (e_api_Line (q_api_Line v))) (e_pieces_Unit_api_Line (q_pieces_Unit_api_Line { x with F := v })) := ⟨by kernel_rfl, by kernel_rfl, by kernel_rfl, by kernel_rfl⟩
theorem bsr_23_1 (x0 : R_intake_Timed) (w : World) : (Instr.buildSlice 23 1 [(0, .agg (e_intake_Timed (q_intake_Timed x0)))].toArray).run Tryz.prog w = .ok (.slice (some ⟨w.heap.size, 0, none⟩) 1 1) (w.alloc (.cells (row (r_intake_Timed) [x0] []) 36)) := by kernel_rfl
instance (priority := high) bsi_23_1 (x0 : R_intake_Timed) : BsC Tryz.prog 23 1 [(0, .agg (e_intake_Timed (q_intake_Timed x0)))] (row (r_intake_Timed) [x0] []) 36 := ⟨bsr_23_1 x0⟩
theorem bsr_23_3 (x0 x1 x2 : R_intake_Timed) (w : World) : (Instr.buildSlice 23 3 [(0, .agg (e_intake_Timed (q_intake_Timed x0))), (1, .agg (e_intake_Timed (q_intake_Timed x1))), (2, .agg (e_intake_Timed (q_intake_Timed x2)))].toArray).run Tryz.prog w = .ok (.slice (some ⟨w.heap.size, 0, none⟩) 3 3) (w.alloc (.cells (row (r_intake_Timed) [x0, x1, x2] []) 36)) := by kernel_rfl
instance (priority := high) bsi_23_3 (x0 x1 x2 : R_intake_Timed) : BsC Tryz.prog 23 3 [(0, .agg (e_intake_Timed (q_intake_Timed x0))), (1, .agg (e_intake_Timed (q_intake_Timed x1))), (2, .agg (e_intake_Timed (q_intake_Timed x2)))] (row (r_intake_Timed) [x0, x1, x2] []) 36 := ⟨bsr_23_3 x0 x1 x2⟩
theorem bsr_23_4 (x0 x1 x2 x3 : R_intake_Timed) (w : World) : (Instr.buildSlice 23 4 [(0, .agg (e_intake_Timed (q_intake_Timed x0))), (1, .agg (e_intake_Timed (q_intake_Timed x1))), (2, .agg (e_intake_Timed (q_intake_Timed x2))), (3, .agg (e_intake_Timed (q_intake_Timed x3)))].toArray).run Tryz.prog w = .ok (.slice (some ⟨w.heap.size, 0, none⟩) 4 4) (w.alloc (.cells (row (r_intake_Timed) [x0, x1, x2, x3] []) 36)) := by kernel_rfl
instance (priority := high) bsi_23_4 (x0 x1 x2 x3 : R_intake_Timed) : BsC Tryz.prog 23 4 [(0, .agg (e_intake_Timed (q_intake_Timed x0))), (1, .agg (e_intake_Timed (q_intake_Timed x1))), (2, .agg (e_intake_Timed (q_intake_Timed x2))), (3, .agg (e_intake_Timed (q_intake_Timed x3)))] (row (r_intake_Timed) [x0, x1, x2, x3] []) 36 := ⟨bsr_23_4 x0 x1 x2 x3⟩
theorem bsr_40_1 (x0 : Int) (w : World) : (Instr.buildSlice 40 1 [(0, .int .i64 x0)].toArray).run Tryz.prog w = .ok (.slice (some ⟨w.heap.size, 0, none⟩) 1 1) (w.alloc (.cells (row (eI .i64) [x0] []) 3)) := by kernel_rfl
instance (priority := high) bsi_40_1 (x0 : Int) : BsC Tryz.prog 40 1 [(0, .int .i64 x0)] (row (eI .i64) [x0] []) 3 := ⟨bsr_40_1 x0⟩
theorem bsr_40_2 (x0 x1 : Int) (w : World) : (Instr.buildSlice 40 2 [(0, .int .i64 x0), (1, .int .i64 x1)].toArray).run Tryz.prog w = .ok (.slice (some ⟨w.heap.size, 0, none⟩) 2 2) (w.alloc (.cells (row (eI .i64) [x0, x1] []) 3)) := by kernel_rfl
instance (priority := high) bsi_40_2 (x0 x1 : Int) : BsC Tryz.prog 40 2 [(0, .int .i64 x0), (1, .int .i64 x1)] (row (eI .i64) [x0, x1] []) 3 := ⟨bsr_40_2 x0 x1⟩
theorem bsr_40_3 (x0 x1 x2 : Int) (w : World) : (Instr.buildSlice 40 3 [(0, .int .i64 x0), (1, .int .i64 x1), (2, .int .i64 x2)].toArray).run Tryz.prog w = .ok (.slice (some ⟨w.heap.size, 0, none⟩) 3 3) (w.alloc (.cells (row (eI .i64) [x0, x1, x2] []) 3)) := by kernel_rfl
instance (priority := high) bsi_40_3 (x0 x1 x2 : Int) : BsC Tryz.prog 40 3 [(0, .int .i64 x0), (1, .int .i64 x1), (2, .int .i64 x2)] (row (eI .i64) [x0, x1, x2] []) 3 := ⟨bsr_40_3 x0 x1 x2⟩
theorem bsr_40_5 (x0 x1 x2 x3 x4 : Int) (w : World) : (Instr.buildSlice 40 5 [(0, .int .i64 x0), (1, .int .i64 x1), (2, .int .i64 x2), (3, .int .i64 x3), (4, .int .i64 x4)].toArray).run Tryz.prog w = .ok (.slice (some ⟨w.heap.size, 0, none⟩) 5 5) (w.alloc (.cells (row (eI .i64) [x0, x1, x2, x3, x4] []) 3)) := by kernel_rfl
instance (priority := high) bsi_40_5 (x0 x1 x2 x3 x4 : Int) : BsC Tryz.prog 40 5 [(0, .int .i64 x0), (1, .int .i64 x1), (2, .int .i64 x2), (3, .int .i64 x3), (4, .int .i64 x4)] (row (eI .i64) [x0, x1, x2, x3, x4] []) 3 := ⟨bsr_40_5 x0 x1 x2 x3 x4⟩
theorem bsr_46_1 (x0 : R_api_PointUnit) (w : World) : (Instr.buildSlice 46 1 [(0, .agg (e_api_PointUnit (q_api_PointUnit x0)))].toArray).run Tryz.prog w = .ok (.slice (some ⟨w.heap.size, 0, none⟩) 1 1) (w.alloc (.cells (row (r_api_PointUnit) [x0] []) 87)) := by kernel_rfl
instance (priority := high) bsi_46_1 (x0 : R_api_PointUnit) : BsC Tryz.prog 46 1 [(0, .agg (e_api_PointUnit (q_api_PointUnit x0)))] (row (r_api_PointUnit) [x0] []) 87 := ⟨bsr_46_1 x0⟩
theorem bsr_72_1 (x0 : api_Report) (w : World) : (Instr.buildSlice 72 1 [(0, .agg (e_api_Report x0))].toArray).run Tryz.prog w = .ok (.slice (some ⟨w.heap.size, 0, none⟩) 1 1) (w.alloc (.cells (row (e_api_Report) [x0] []) 34)) := by kernel_rfl
instance (priority := high) bsi_72_1 (x0 : api_Report) : BsC Tryz.prog 72 1 [(0, .agg (e_api_Report x0))] (row (e_api_Report) [x0] []) 34 := ⟨bsr_72_1 x0⟩
theorem bsr_72_4 (x0 x1 x2 x3 : api_Report) (w : World) : (Instr.buildSlice 72 4 [(0, .agg (e_api_Report x0)), (1, .agg (e_api_Report x1)), (2, .agg (e_api_Report x2)), (3, .agg (e_api_Report x3))].toArray).run Tryz.prog w = .ok (.slice (some ⟨w.heap.size, 0, none⟩) 4 4) (w.alloc (.cells (row (e_api_Report) [x0, x1, x2, x3] []) 34)) := by kernel_rfl
instance (priority := high) bsi_72_4 (x0 x1 x2 x3 : api_Report) : BsC Tryz.prog 72 4 [(0, .agg (e_api_Report x0)), (1, .agg (e_api_Report x1)), (2, .agg (e_api_Report x2)), (3, .agg (e_api_Report x3))] (row (e_api_Report) [x0, x1, x2, x3] []) 34 := ⟨bsr_72_4 x0 x1 x2 x3⟩
theorem bsr_73_1 (x0 : api_Exchange) (w : World) : (Instr.buildSlice 73 1 [(0, .agg (e_api_Exchange x0))].toArray).run Tryz.prog w = .ok (.slice (some ⟨w.heap.size, 0, none⟩) 1 1) (w.alloc (.cells (row (e_api_Exchange) [x0] []) 119)) := by kernel_rfl
instance (priority := high) bsi_73_1 (x0 : api_Exchange) : BsC Tryz.prog 73 1 [(0, .agg (e_api_Exchange x0))] (row (e_api_Exchange) [x0] []) 119 := ⟨bsr_73_1 x0⟩
theorem bsr_76_1 (x0 : R_api_Interval) (w : World) : (Instr.buildSlice 76 1 [(0, .agg (e_api_Interval (q_api_Interval x0)))].toArray).run Tryz.prog w = .ok (.slice (some ⟨w.heap.size, 0, none⟩) 1 1) (w.alloc (.cells (row (r_api_Interval) [x0] []) 83)) := by kernel_rfl
instance (priority := high) bsi_76_1 (x0 : R_api_Interval) : BsC Tryz.prog 76 1 [(0, .agg (e_api_Interval (q_api_Interval x0)))] (row (r_api_Interval) [x0] []) 83 := ⟨bsr_76_1 x0⟩
theorem bsr_89_1 (x0 : R_movingpoint_Sample) (w : World) : (Instr.buildSlice 89 1 [(0, .agg (e_movingpoint_Sample (q_movingpoint_Sample x0)))].toArray).run Tryz.prog w = .ok (.slice (some ⟨w.heap.size, 0, none⟩) 1 1) (w.alloc (.cells (row (r_movingpoint_Sample) [x0] []) 91)) := by kernel_rfl
instance (priority := high) bsi_89_1 (x0 : R_movingpoint_Sample) : BsC Tryz.prog 89 1 [(0, .agg (e_movingpoint_Sample (q_movingpoint_Sample x0)))] (row (r_movingpoint_Sample) [x0] []) 91 := ⟨bsr_89_1 x0⟩
theorem bsr_97_1 (x0 : R_pieces_Unit_api_Line) (w : World) : (Instr.buildSlice 97 1 [(0, .agg (e_pieces_Unit_api_Line (q_pieces_Unit_api_Line x0)))].toArray).run Tryz.prog w = .ok (.slice (some ⟨w.heap.size, 0, none⟩) 1 1) (w.alloc (.cells (row (r_pieces_Unit_api_Line) [x0] []) 136)) := by kernel_rfl
instance (priority := high) bsi_97_1 (x0 : R_pieces_Unit_api_Line) : BsC Tryz.prog 97 1 [(0, .agg (e_pieces_Unit_api_Line (q_pieces_Unit_api_Line x0)))] (row (r_pieces_Unit_api_Line) [x0] []) 136 := ⟨bsr_97_1 x0⟩
end Go.Vt
/- Straight ways between samples and their deviations. Conditions: the lengths and indexes that each statement names. -/
set_option linter.unusedSimpArgs false
set_option linter.unusedVariables false
set_option maxHeartbeats 2000000
set_option maxRecDepth 100000
namespace Go.Vt
open Go.RowKit Go.Proofs
abbrev vLn (f : R_api_Line) : Value := .agg (e_api_Line (q_api_Line f))
def stl (a b : R_movingpoint_Sample) : R_api_Line := ⟨(lin a.T a.P.X b.T b.P.X).C0, (lin a.T a.P.X b.T b.P.X).C1, (lin a.T a.P.Y b.T b.P.Y).C0, (lin a.T a.P.Y b.T b.P.Y).C1⟩
/-- The position of a line at a rational instant. -/
def pos (f : R_api_Line) (t : Rat) : R_api_Point := ⟨f.X0 + t * (f.X1 + t * 0), f.Y0 + t * (f.Y1 + t * 0)⟩
instance mb_lin0 (t v u x : Rat) (i j k l : Nat) [h1 : MB t i] [h2 : MB v j] [h3 : MB u k] [h4 : MB x l] : MB (lin t v u x).C0 (2 * i + 2 * j + k + l + 4) := ⟨by
  unfold lin
  split
  · exact Nat.le_trans (mb_zero.out) (by omega)
  · have := (inferInstance : MB (v - (x - v) / (u - t) * t) _).out
    simp only
    omega⟩
instance mb_lin1 (t v u x : Rat) (i j k l : Nat) [h1 : MB t i] [h2 : MB v j] [h3 : MB u k] [h4 : MB x l] : MB (lin t v u x).C1 (i + j + k + l + 3) := ⟨by
  unfold lin
  split
  · exact Nat.le_trans (mb_zero.out) (by omega)
  · have := (inferInstance : MB ((x - v) / (u - t)) _).out
    simp only
    omega⟩
instance mb_stlX0 (a b : R_movingpoint_Sample) (i j k l : Nat) [MB a.T i] [MB a.P.X j] [MB b.T k] [MB b.P.X l] : MB (stl a b).X0 (2 * i + 2 * j + k + l + 4) := inferInstanceAs (MB (lin a.T a.P.X b.T b.P.X).C0 _)
instance mb_stlX1 (a b : R_movingpoint_Sample) (i j k l : Nat) [MB a.T i] [MB a.P.X j] [MB b.T k] [MB b.P.X l] : MB (stl a b).X1 (i + j + k + l + 3) := inferInstanceAs (MB (lin a.T a.P.X b.T b.P.X).C1 _)
instance mb_stlY0 (a b : R_movingpoint_Sample) (i j k l : Nat) [MB a.T i] [MB a.P.Y j] [MB b.T k] [MB b.P.Y l] : MB (stl a b).Y0 (2 * i + 2 * j + k + l + 4) := inferInstanceAs (MB (lin a.T a.P.Y b.T b.P.Y).C0 _)
instance mb_stlY1 (a b : R_movingpoint_Sample) (i j k l : Nat) [MB a.T i] [MB a.P.Y j] [MB b.T k] [MB b.P.Y l] : MB (stl a b).Y1 (i + j + k + l + 3) := inferInstanceAs (MB (lin a.T a.P.Y b.T b.P.Y).C1 _)
abbrev PB : Nat := 1048576
/-- The samples are short. -/
def Bnd (pts : List R_movingpoint_Sample) : Prop := ∀ i : Int, M (gi pts i).T ≤ PB ∧ M (gi pts i).P.X ≤ PB ∧ M (gi pts i).P.Y ≤ PB
end Go.Vt
/- The reference's deviations, and the functions on lists of indexes. Conditions: the lengths and indexes that each statement names. -/
set_option linter.unusedSimpArgs false
set_option linter.unusedVariables false
set_option maxHeartbeats 2000000
set_option maxRecDepth 100000
namespace Go.Vt
open Go.RowKit Go.Proofs
end Go.Vt
/- The best kept breakpoints: the program's table. Conditions: the lengths that each statement names. -/
set_option linter.unusedSimpArgs false
set_option linter.unusedVariables false
set_option maxHeartbeats 2000000
set_option maxRecDepth 100000
namespace Go.Vt
open Go.RowKit Go.Proofs
abbrev rS := r_movingpoint_Sample
structure WF (l : Nat) (s : List Int × List Int) : Prop where
  l1 : s.1.length = l + 1
  l2 : s.2.length = l + 1
  b2 : ∀ j : Nat, j ≤ l → 0 ≤ gi s.2 (j : Int) ∧ gi s.2 (j : Int) ≤ (l : Int) - j
  b1 : ∀ j : Nat, j ≤ l → gi s.1 (j : Int) = 0 ∨ ((j : Int) < gi s.1 (j : Int) ∧ gi s.1 (j : Int) ≤ l)
variable {ok : Nat → Nat → Bool} {l i k : Nat} {s : List Int × List Int}
end Go.Vt
/- The best kept breakpoints: the reference's search among all lists. Conditions: the lengths that each statement names. -/
set_option linter.unusedSimpArgs false
set_option linter.unusedVariables false
set_option maxHeartbeats 2000000
set_option maxRecDepth 100000
namespace Go.Vt
open Go.RowKit Go.Proofs
def lx : List Int → List Int → Bool
  | x :: xs, y :: ys => if x = y then lx xs ys else decide (x < y)
  | _, _ => false
def btr (xs ys : List Int) : Bool := if xs.length = ys.length then lx xs ys else decide (xs.length < ys.length)
/-- The first 'q' breakpoints behind 'i' are tried. -/
def bf (g : Nat → List Int) (ok : Nat → Bool) (i : Nat) : Nat → List Int
  | 0 => []
  | q + 1 => if ok (i + 1 + q) = true ∧ (bf g ok i q = [] ∨ btr (g (i + 1 + q)) (bf g ok i q) = true) then g (i + 1 + q) else bf g ok i q
/-- The last one of a list. -/
def lst (bg : List Int) : Nat := (gi bg ((bg.length : Int) - 1)).toNat
end Go.Vt
/- Slices that came in, wherever they lie, under the program logic. Conditions: those that each rule names. -/
set_option linter.unusedSimpArgs false
set_option linter.unusedVariables false
set_option maxHeartbeats 2000000
set_option linter.unusedSectionVars false
namespace Go.Vt
open Go.RowKit
/-- At place 'o' of block 'b' lies a row. -/
class RowC (w0 : World) (L : List Blk) (b o : Nat) (α : outParam Type) (enc : outParam (α → Array Value)) (xs : outParam (List α)) : Prop where
  out : ∀ w, Own w0 L w → ∃ cs T fz, w.heap[b]? = some (.cells cs T fz) ∧ ∀ (i f k : Nat) (u : Value) (hi : i < xs.length), (∀ x, (enc x).size = k) → (enc xs[i])[f]? = some u → cs[o + i * k + f]? = some u ∧ o + xs.length * k ≤ cs.size
/-- A slice that came in. -/
structure ArgS {α : Type} (w0 : World) (v : Value) (enc : α → Array Value) (xs : List α) : Prop where
  out : (v = .slice none 0 0 ∧ xs = []) ∨ ∃ (a : Addr) (c : Nat), v = .slice (some a) xs.length c ∧ xs.length ≤ c ∧ ∀ (i f k : Nat) (u : Value) (hi : i < xs.length), (∀ x, (enc x).size = k) → (enc xs[i])[f]? = some u → w0.cell? (a.add (i * k + f)) = some u
class ArgC (w0 : World) (v : Value) (α : outParam Type) (enc : outParam (α → Array Value)) (xs : outParam (List α)) : Prop where
  out : ArgS w0 v enc xs
theorem cell_some {w : World} {a : Addr} {v : Value} (h : w.cell? a = some v) : a = ⟨a.block, a.off, none⟩ ∧ ∃ cs T fz, w.heap[a.block]? = some (.cells cs T fz) ∧ cs[a.off]? = some v := by
  unfold World.cell? at h
  split at h
  · rename_i c T fz hb
    split at h
    · cases h
    · rename_i hs
      obtain ⟨b, o, s⟩ := a
      cases s with
      | none => exact ⟨rfl, c, T, fz, hb, h⟩
      | some s => exact absurd rfl hs
  · cases h
/-- A slice that is not empty: its block. -/
theorem ArgS.blk {α : Type} {w0 : World} {v : Value} {enc : α → Array Value} {xs : List α} {k : Nat} [he : EncC enc (k + 1)] (h : ArgS w0 v enc xs) (hne : xs ≠ []) (L : List Blk) : ∃ b o c, v = .slice (some ⟨b, o, none⟩) xs.length c ∧ xs.length ≤ c ∧ RowC w0 L b o α enc xs := by
  rcases h.out with ⟨_, h0⟩ | ⟨a, c, hv, hc, hcell⟩
  · exact absurd h0 hne
  have hlen : 0 < xs.length := List.length_pos_iff.2 hne
  have hfirst : ∃ u, (enc xs[0])[0]? = some u := by
    have := he.size xs[0]
    exact ⟨(enc xs[0])[0]'(by omega), by simp⟩
  obtain ⟨u, hu⟩ := hfirst
  have h0 := hcell 0 0 (k + 1) u hlen he.size hu
  rw [Nat.zero_mul, Nat.add_zero] at h0
  have ha : a.add 0 = a := by simp [Addr.add]
  rw [ha] at h0
  obtain ⟨hae, cs, T, fz, hb, _⟩ := cell_some h0
  obtain ⟨b, o, s⟩ := a
  simp only [Addr.mk.injEq, true_and] at hae
  subst hae
  refine ⟨b, o, c, hv, hc, ⟨fun w hw => ⟨cs, T, fz, by rw [hw.ext.block b (lt_of_block hb)]; exact hb, fun i f k' u hi hk hu => ?_⟩⟩⟩
  have h1 := hcell i f k' u hi hk hu
  rw [addr_add, cell_block hb] at h1
  refine ⟨by rw [Nat.add_assoc]; exact h1, ?_⟩
  have hkk : k' = k + 1 := by rw [← hk xs[0], he.size xs[0]]
  subst hkk
  have hl : xs.length - 1 < xs.length := by omega
  obtain ⟨u2, hu2⟩ : ∃ u, (enc xs[xs.length - 1])[k]? = some u := ⟨(enc xs[xs.length - 1])[k]'(by rw [he.size]; omega), by simp⟩
  have h2 := hcell (xs.length - 1) k (k + 1) u2 hl he.size hu2
  rw [addr_add, cell_block hb] at h2
  have h3 : o + ((xs.length - 1) * (k + 1) + k) < cs.size := by
    rcases Nat.lt_or_ge (o + ((xs.length - 1) * (k + 1) + k)) cs.size with h | h
    · exact h
    · rw [Array.getElem?_eq_none h] at h2; cases h2
  have h4 : xs.length * (k + 1) = (xs.length - 1) * (k + 1) + (k + 1) := by
    rw [← Nat.succ_mul]
    congr 1
    omega
  omega
section
variable {P : Program} {w0 : World} {n : Nat} {ops : Array Oper} {L : List Blk} {E : Env} {v : Value} {x : Operand} {T : TypeId}
variable {α : Type} [Inhabited α] {enc : α → Array Value} {k b o f : Nat} {xs : List α} {i : Int}
theorem yl_rowG [he : EncC enc k] [h : RowC w0 L b o α enc xs] {d : Option Tmp} {ty : TypeId} {pos : String} {aft : Array Edge} {gd : Option (Nat × Bool)} (hk : 0 < k) (hx : Env.ev E x = some (.pointer (some ⟨b, o + i.toNat * k + f, none⟩))) (hi : i.toNat < xs.length) (hv : LdV P T (enc (gi xs i)) f v) : Yl P w0 n L E ⟨d, .load T x, ty, pos, aft, gd⟩ v :=
  yl_run (fun _ => loadVar T ⟨b, o + i.toNat * k + f, none⟩) (fun a ha => by
    simp only [execOp, ha.ev hx, Instr.loadAt, Instr.sureAddr]
    rfl) (fun a w _ hw => by
      obtain ⟨cs, T0, fz, hb, hc⟩ := h.out w hw
      rw [gi_eq hi] at hv
      refine run_loadVar hb ?_
      have hsz := he.size xs[i.toNat]
      have hle := Nat.mul_le_mul_right k (show i.toNat + 1 ≤ xs.length from hi)
      rw [Nat.add_mul, Nat.one_mul] at hle
      rcases hv with ⟨m, ha, hs, rfl⟩ | ⟨ho, hv⟩
      · have hbig := (hc i.toNat 0 k _ hi he.size (show (enc xs[i.toNat])[0]? = some ((enc xs[i.toNat])[0]'(by omega)) by simp)).2
        refine .inl ⟨m, ha, by omega, ?_⟩
        congr 1
        apply Array.ext_getElem?
        intro j
        rw [Array.getElem?_extract, Array.getElem?_extract]
        by_cases hj : j < m
        · rw [if_pos (by omega), if_pos (by omega)]
          have hfj : f + j < (enc xs[i.toNat]).size := by omega
          have := (hc i.toNat (f + j) k _ hi he.size (show (enc xs[i.toNat])[f + j]? = some ((enc xs[i.toNat])[f + j]'hfj) by simp)).1
          rw [show o + i.toNat * k + f + j = o + i.toNat * k + (f + j) by omega, this]
          simp
        · rw [if_neg (by omega), if_neg (by omega)]
      · exact .inr ⟨ho, (hc i.toNat f k v hi he.size hv).1⟩)
instance (priority := low) ys_rowG0 [IsC (evl E x) (.pointer (some ⟨b, o + i.toNat * k, none⟩))] [h : RowC w0 L b o α enc xs] [he : EncC enc k] [hv : LdC P T (enc (gi xs i)) 0 v] : YsC P w0 n L E (.load T x) v (0 < k ∧ i.toNat < xs.length) := ⟨fun hi _ _ _ _ _ => yl_rowG (f := 0) (k := k) hi.1 (by rw [Nat.add_zero]; exact isE) hi.2 hv.out⟩
instance (priority := low) ys_rowGF [IsC (evl E x) (.pointer (some ⟨b, o + i.toNat * k + f, none⟩))] [h : RowC w0 L b o α enc xs] [he : EncC enc k] [hv : LdC P T (enc (gi xs i)) f v] : YsC P w0 n L E (.load T x) v (0 < k ∧ i.toNat < xs.length) := ⟨fun hi _ _ _ _ _ => yl_rowG hi.1 isE hi.2 hv.out⟩
instance (priority := low) ys_remk {kd : IntKind} {T' : TypeId} {y : Operand} {a c : Int} [hx : IsC (evl E x) (.int kd a)] [hy : IsC (evl E y) (.int kd c)] : YsC P w0 n L E (.binOp .rem T x y T') (.int kd (a % c)) (0 ≤ a ∧ 1 ≤ c) := ⟨fun h _ _ _ _ _ => yl_arith isE isE fun w => by rw [run_rem _ _ (by omega), IntWalk.rem_in _ _ h.1]⟩
end
end Go.Vt
/- The runs of the statements: their decoding. Conditions: those that each statement names. -/
set_option linter.unusedSimpArgs false
set_option linter.unusedVariables false
set_option maxHeartbeats 2000000
set_option maxRecDepth 100000
namespace Go.Vt
open Go.RowKit Go.Proofs
def dst (n : Int) : Rat := Rat.divInt (n % 128) 4
theorem Upd.app {b : Nat} {cs cs' : Array Value} {T : TypeId} {L L' : List Blk} (h : Upd b cs T cs' L L') : ∀ A : List Blk, Upd b cs T cs' (A ++ L) (A ++ L')
  | [] => h
  | _ :: A => (h.app A).there
instance (priority := low) updSkip (b : Nat) (cs' : Array Value) (A L L' : List Blk) (cs : Array Value) (T : TypeId) [h : UpdC b cs' L cs T L'] : UpdC b cs' (A ++ L) cs T (A ++ L') := ⟨h.out.app A⟩
theorem ArgS.form {α : Type} {w0 : World} {v : Value} {enc : α → Array Value} {xs : List α} (h : ArgS w0 v enc xs) : ∃ p c, v = .slice p xs.length c := by
  rcases h.out with ⟨h1, h2⟩ | ⟨a, c, h1, _⟩
  · subst h2
    exact ⟨none, 0, h1⟩
  · exact ⟨some a, c, h1⟩
theorem ArgS.to {α : Type} {w0 w : World} {v : Value} {enc : α → Array Value} {xs : List α} (h : ArgS w0 v enc xs) (hx : Ext w0 w) : ArgS w v enc xs := by
  rcases h.out with h1 | ⟨a, c, h1, h2, h3⟩
  · exact ⟨.inl h1⟩
  · refine ⟨.inr ⟨a, c, h1, h2, fun i f k u hi hk hu => ?_⟩⟩
    have h4 := h3 i f k u hi hk hu
    obtain ⟨hae, cs, T, fz, hb, hc⟩ := cell_some h4
    rw [hae]
    have hb' : w.heap[(a.add (i * k + f)).block]? = some (.cells cs T fz) := by rw [hx.block _ (lt_of_block hb)]; exact hb
    rw [cell_block hb']
    exact hc
end Go.Vt
/- A region that draws its order: values, then effects, then values that look at what the effects brought. Conditions: the closed check 'late3B'. -/
set_option linter.unusedSimpArgs false
set_option linter.unusedVariables false
set_option maxHeartbeats 2000000
set_option linter.unusedSectionVars false
namespace Go.Vt
open Go.RowKit
section
variable {P : Program} {w0 : World} {n : Nat} {ops : Array Oper} {L L' Lw : List Blk} {E : Env}
variable {Q : Exit → Act → World → Prop} {Z : List Nat}
def lexF (ops : Array Oper) (k : Array Bool → Bool) : List Nat → Array Bool → Bool
  | [], listed => k listed
  | h :: hs, listed => (Region.ready .any ops listed).contains h && Region.free .any ops listed h && lexF ops k hs (listed.setIfInBounds h true)
def seqF (ops : Array Oper) (k : Array Bool → Bool) : List Nat → Array Bool → Bool
  | [], listed => k listed
  | i :: es, listed => decide (Region.ready .any ops listed = [i]) && seqF ops k es (listed.setIfInBounds i true)
theorem wpG_of_ecF {F G : List Blk → Act → Prop} {N : Nat} {k : Array Bool → Bool} (hk : ∀ listed L a, k listed = true → Weak w0 Lw L → G L a → wpG P w0 ops [] Lw F N listed [] L a) : ∀ (es : List Nat) (listed : Array Bool) (L : List Blk) (a : Act), seqF ops k es listed = true → Weak w0 Lw L → EC P w0 ops [] Lw G es L a → wpG P w0 ops [] Lw F (es.length + N) listed es L a
  | [], listed, L, a, hB, hw, h => by
    rw [List.length_nil, Nat.zero_add]
    exact hk listed L a hB hw h
  | i :: es, listed, L, a, hB, hw, h => by
    simp only [seqF, Bool.and_eq_true, decide_eq_true_eq] at hB
    rw [show (i :: es).length + N = (es.length + N) + 1 by simp only [List.length_cons]; omega]
    refine ⟨by rw [hB.1]; simp, fun j hj => ?_⟩
    rw [hB.1] at hj
    have : j = i := by simpa using hj
    subst this
    obtain ⟨o, ho, hE⟩ := h
    exact ⟨o, ho, .inr ⟨es, rfl, hE.mono fun L' u hw' hK => wpG_of_ecF hk es _ _ _ hB.2 hw' hK⟩⟩
theorem wpG_of_ahF {l : List Oper} {F : List Blk → Act → Prop} {es : List Nat} {G : Act → Prop} {N : Nat} {k : Array Bool → Bool} (hk : ∀ listed a, k listed = true → G a → wpG P w0 l.toArray [] Lw F N listed es L a) (hsel : Region.noSelect l.toArray = true) (hw : Weak w0 Lw L) : ∀ (hs : List Nat) (listed : Array Bool) (a : Act), lexF l.toArray k hs listed = true →
    AH P w0 Lw l.toArray G (picks l hs) a → wpG P w0 l.toArray [] Lw F (hs.length + N) listed es L a
  | [], listed, a, hB, h => by
    rw [List.length_nil, Nat.zero_add]
    exact hk listed a hB h
  | i :: hs, listed, a, hB, h => by
    simp only [lexF, Bool.and_eq_true] at hB
    obtain ⟨⟨hr, hf⟩, hB'⟩ := hB
    have hr' : i ∈ Region.ready .any l.toArray listed := by simpa using hr
    obtain ⟨_, o, ho, _⟩ := mem_ready.1 hr'
    have ho' : l[i]? = some o := by simpa using ho
    simp only [picks, ho', AH] at h
    obtain ⟨v, hy, h⟩ := h
    rw [show (i :: hs).length + N = (hs.length + N) + 1 by simp only [List.length_cons]; omega]
    exact wpG_first ho (Region.noSelect_spec hsel) (fun z o hz _ => by simp at hz) _ _ _ _ _ (Region.free_spec ho hf) hr' hy hw (wpG_of_ahF hk hsel hw hs _ _ hB' h)
def phB (ops : Array Oper) : List (List Nat × List Nat) → Array Bool → Bool
  | [], listed => (Region.ready .any ops listed).isEmpty
  | p :: ps, listed => lexF ops (seqF ops (phB ops ps) p.2) p.1 listed
def phN : List (List Nat × List Nat) → Nat
  | [] => 0
  | p :: ps => p.1.length + (p.2.length + phN ps)
def phE : List (List Nat × List Nat) → List Nat
  | [] => []
  | p :: ps => p.2 ++ phE ps
def phA (ops : Array Oper) (ps : List (List Nat × List Nat)) : Bool :=
  Region.noSelect ops && decide (phN ps = ops.size) && ps.all (fun p => p.2.all (fun i => decide (i < ops.size))) && phB ops ps (Array.replicate ops.size false)
def PH (P : Program) (w0 : World) (l : List Oper) (Lw : List Blk) (F : List Blk → Act → Prop) : List (List Nat × List Nat) → List Blk → Act → Prop
  | [], L, a => F L a
  | p :: ps, L, a => AH P w0 Lw l.toArray (fun a1 => EC P w0 l.toArray [] Lw (fun L1 a2 => PH P w0 l Lw F ps L1 a2) p.2 L a1) (picks l p.1) a
/-- The phases under an environment. -/
def JP (P : Program) (w0 : World) (n : Nat) (l : List Oper) (Lw : List Blk) (K : Env → List Blk → Prop) : List (List Nat × List Nat) → Env → List Blk → Prop
  | [], E, L => K E L
  | p :: ps, E, L => JH P w0 n Lw l.toArray (fun E' => JE P w0 n l.toArray Lw (fun E1 L1 => JP P w0 n l Lw K ps E1 L1) (picks l p.2) E' L) (picks l p.1) E
theorem wpG_of_ecR {F G : List Blk → Act → Prop} {N : Nat} {R : List Nat} {k : Array Bool → Bool} (hk : ∀ listed L a, k listed = true → Weak w0 Lw L → G L a → wpG P w0 ops [] Lw F N listed R L a) : ∀ (es : List Nat) (listed : Array Bool) (L : List Blk) (a : Act), seqF ops k es listed = true → Weak w0 Lw L → EC P w0 ops [] Lw G es L a → wpG P w0 ops [] Lw F (es.length + N) listed (es ++ R) L a
  | [], listed, L, a, hB, hw, h => by
    rw [List.length_nil, Nat.zero_add]
    exact hk listed L a hB hw h
  | i :: es, listed, L, a, hB, hw, h => by
    simp only [seqF, Bool.and_eq_true, decide_eq_true_eq] at hB
    rw [show (i :: es).length + N = (es.length + N) + 1 by simp only [List.length_cons]; omega]
    refine ⟨by rw [hB.1]; simp, fun j hj => ?_⟩
    rw [hB.1] at hj
    have : j = i := by simpa using hj
    subst this
    obtain ⟨o, ho, hE⟩ := h
    exact ⟨o, ho, .inr ⟨es ++ R, rfl, hE.mono fun L' u hw' hK => wpG_of_ecR hk es _ _ _ hB.2 hw' hK⟩⟩
theorem wpG_of_ph {l : List Oper} {F : List Blk → Act → Prop} (hsel : Region.noSelect l.toArray = true) : ∀ (ps : List (List Nat × List Nat)) (listed : Array Bool) (L : List Blk) (a : Act), phB l.toArray ps listed = true → Weak w0 Lw L → PH P w0 l Lw F ps L a → wpG P w0 l.toArray [] Lw F (phN ps) listed (phE ps) L a
  | [], listed, L, a, hB, hw, h => ⟨rfl, by simpa [phB] using hB, h⟩
  | p :: ps, listed, L, a, hB, hw, h =>
    wpG_of_ahF (fun listed a1 hb hG => wpG_of_ecR (fun listed L1 a2 hb2 hw2 hG2 => wpG_of_ph hsel ps listed L1 a2 hb2 hw2 hG2) p.2 listed L a1 hb hw hG) hsel hw p.1 listed a hB h
theorem ph_of_jp {l : List Oper} {K : Env → List Blk → Prop} {F : List Blk → Act → Prop} (hK : ∀ E L a, Rep n E a → K E L → F L a) : ∀ (ps : List (List Nat × List Nat)) (E : Env) (L : List Blk) (a : Act), ps.all (fun p => p.2.all (fun i => decide (i < l.length))) = true → Rep n E a → JP P w0 n l Lw K ps E L → PH P w0 l Lw F ps L a
  | [], E, L, a, _, ha, h => hK E L a ha h
  | p :: ps, E, L, a, hi, ha, h => by
    simp only [List.all_cons, Bool.and_eq_true] at hi
    exact ah_of_jh (n := n) (fun E' a' ha' hK' => ec_of_je (n := n) (Lj := Lw) (fun E1 L1 a1 ha1 h1 => ph_of_jp hK ps E1 L1 a1 hi.2 ha1 h1) p.2 E' L a' hi.1 (fun _ _ => rfl) ha' hK') _ _ _ ha h
theorem j_phases {id : Nat} {l : List Oper} (ps : List (List Nat × List Nat)) (Lw : List Blk) (hm : P.follows .mixedOrders = true := by exact mixed) (hB : phA l.toArray ps = true := by kernel_rfl) (hL : Lw.Sublist L := by first | exact List.Sublist.refl _ | exact List.nil_sublist _ | exact sbl | (repeat (first | exact List.Sublist.refl _ | exact List.nil_sublist _ | refine List.Sublist.cons_cons _ ?_ | refine List.Sublist.cons _ ?_ | refine List.Sublist.trans ?_ (List.sublist_append_right _ _))))
    (h : JP P w0 n l Lw (fun E2 L2 => JX w0 n .normal Q E2 L2) ps E L) : J P w0 n (.region id l.toArray true) Q E L := by
  refine ⟨fun a w ha hw => ?_⟩
  simp only [phA, Bool.and_eq_true, decide_eq_true_eq] at hB
  obtain ⟨⟨⟨hsel, hlen⟩, hall⟩, hlex⟩ := hB
  refine wp_region_any hm ?_
  have H := wpG_of_ph (P := P) (F := fun L a => ∀ w, Own w0 L w → Q .normal a w) hsel ps _ L a hlex (weak_sub hL) (ph_of_jp (n := n) (fun E2 L2 a2 ha2 hx w hw => hx.out a2 w ha2 hw) ps E L a (by simpa using hall) ha h)
  have := wpAny_of_wpG (P := P) (Q := Q) (fun L a w hF hw => hF w hw) _ _ _ _ _ w.drew (hw.to (Ext.drew w)) H
  rw [hlen] at this
  exact this
end
section
variable {P : Program} {w0 : World} {n : Nat} {ops : Array Oper} {L Lw : List Blk} {E : Env} {K : Env → List Blk → Prop} {rest : List Oper} {v : Value} {op : Op} {S : Prop}
variable {ty : TypeId} {pos : String} {aft : Array Edge} {gd : Option (Nat × Bool)} {t : Tmp}
theorem eV (h : Yl P w0 n L E ⟨some t, op, ty, pos, aft, gd⟩ v) (hg : guardB ops E gd = some true) (hd : Nat.blt t n = true) (hw : Lw.Sublist L) (k : JE P w0 n ops Lw K rest ((t, v) :: E) L) : JE P w0 n ops Lw K (⟨some t, op, ty, pos, aft, gd⟩ :: rest) E L :=
  ⟨hg, hd, Unit, fun _ => v, fun _ => L, fun a w ha hw => by
    have h1 := h.out a w ha hw
    unfold calm at h1
    generalize (execOp a.eval ⟨some t, op, ty, pos, aft, gd⟩).run P w = r at *
    cases r with
    | ok x w' =>
      cases x <;> simp only [calmUpon] at h1 <;> simp only [Hap]
      case value u => exact ⟨(), h1.1, hw.to h1.2⟩
      case skip => exact ⟨(), h1.1.symm, hw.to h1.2⟩
      case enter f args =>
        obtain ⟨rfl, h2⟩ := h1
        exact h2.mono fun e w'' ⟨he, hx⟩ => ⟨_, he, (), rfl, hw.to hx⟩
    | halt x w' => simp only [calmUpon] at h1, fun _ => weak_sub hw, fun _ => k⟩
theorem uS [h : YsC P w0 n L E op v S] (hg : guardB ops E gd = some true) (hd : Nat.blt t n = true) [hw : SblC Lw L] (s : S) (k : JE P w0 n ops Lw K rest ((t, v) :: E) L) : JE P w0 n ops Lw K (⟨some t, op, ty, pos, aft, gd⟩ :: rest) E L := eV (h.out s _ _ _ _ _) hg hd hw.out k
theorem uC [h : YcC P w0 n L E op v S] (hg : guardB ops E gd = some true) (hd : Nat.blt t n = true) [hw : SblC Lw L] (s : S) (k : JE P w0 n ops Lw K rest ((t, v) :: E) L) : JE P w0 n ops Lw K (⟨some t, op, ty, pos, aft, gd⟩ :: rest) E L := eV (h.out s _ _ _ _ _) hg hd hw.out k
theorem uW [h : YwC P w0 n L E op v] (hg : guardB ops E gd = some true) (hd : Nat.blt t n = true) [hw : SblC Lw L] (k : JE P w0 n ops Lw K rest ((t, v) :: E) L) : JE P w0 n ops Lw K (⟨some t, op, ty, pos, aft, gd⟩ :: rest) E L := eV (h.out _ _ _ _ _) hg hd hw.out k
theorem uP {c x y : Operand} (hc : Env.ev E c = some (.bool true)) (hx : Env.ev E x = some v) (hg : guardB ops E gd = some true) (hd : Nat.blt t n = true) [hw : SblC Lw L] (k : JE P w0 n ops Lw K rest ((t, v) :: E) L) : JE P w0 n ops Lw K (⟨some t, .pick c x y, ty, pos, aft, gd⟩ :: rest) E L := eV (wl_pickT hc hx) hg hd hw.out k
theorem uQ {c x y : Operand} (hc : Env.ev E c = some (.bool false)) (hx : Env.ev E y = some v) (hg : guardB ops E gd = some true) (hd : Nat.blt t n = true) [hw : SblC Lw L] (k : JE P w0 n ops Lw K rest ((t, v) :: E) L) : JE P w0 n ops Lw K (⟨some t, .pick c x y, ty, pos, aft, gd⟩ :: rest) E L := eV (wl_pickF hc hx) hg hd hw.out k
end
theorem wkP {P Q : Prop} (k : Q) (h : Wr Q → P := by intro hq; simp only [JP, picks, List.getElem?_cons_succ, List.getElem?_cons_zero]; exact hq.out) : P := h ⟨k⟩
/-- The walk in tails. -/
theorem wkT {P Q : Prop} (k : Q) (h : Wr Q → P := by intro hq; (first | refine eS rfl rfl ?_ | refine uP rfl rfl rfl rfl ?_ | refine uQ rfl rfl rfl rfl ?_ | refine eX rfl rfl ?_ | (refine uS rfl rfl ?_ ?_; focus omega) | (refine uC rfl rfl ?_ ?_; focus (first | exact trivial | assumption | constructor <;> assumption | exact mb2 rfl rfl | exact mb4 rfl rfl rfl rfl)) | refine uW rfl rfl ?_ | refine eF rfl ?_ | refine eT rfl ?_ | (refine eA rfl rfl ?_) | (refine eB rfl rfl ?_) | (refine eN rfl rfl ?_ ?_; (focus (first | exact trivial | assumption | constructor <;> assumption | exact mb2 rfl rfl | exact mb4 rfl rfl rfl rfl)); (try simp only [List.cons_append, List.nil_append, List.append_nil])) | refine je_nil ?_ | refine tX rfl rfl ?_ | (refine tS rfl rfl ?_ ?_; focus omega) | (refine tC rfl rfl ?_ ?_; focus (first | exact trivial | assumption | constructor <;> assumption | exact mb2 rfl rfl | exact mb4 rfl rfl rfl rfl)) | refine tW rfl rfl ?_ | refine tK rfl rfl ?_ | refine Go.Vt.hq (wl_pickT rfl rfl) rfl rfl ?_ | refine Go.Vt.hq (wl_pickF rfl rfl) rfl rfl ?_ | refine jh_nil ?_ | (refine wn_new ?_) | refine jn_nil ?_); (repeat (first | refine eS rfl rfl ?_ | refine uP rfl rfl rfl rfl ?_ | refine uQ rfl rfl rfl rfl ?_ | refine eX rfl rfl ?_ | (refine uS rfl rfl ?_ ?_; focus omega) | (refine uC rfl rfl ?_ ?_; focus (first | exact trivial | assumption | constructor <;> assumption | exact mb2 rfl rfl | exact mb4 rfl rfl rfl rfl)) | refine uW rfl rfl ?_ | refine eF rfl ?_ | refine eT rfl ?_ | (refine eA rfl rfl ?_) | (refine eB rfl rfl ?_) | (refine eN rfl rfl ?_ ?_; (focus (first | exact trivial | assumption | constructor <;> assumption | exact mb2 rfl rfl | exact mb4 rfl rfl rfl rfl)); (try simp only [List.cons_append, List.nil_append, List.append_nil])) | refine je_nil ?_ | refine tX rfl rfl ?_ | (refine tS rfl rfl ?_ ?_; focus omega) | (refine tC rfl rfl ?_ ?_; focus (first | exact trivial | assumption | constructor <;> assumption | exact mb2 rfl rfl | exact mb4 rfl rfl rfl rfl)) | refine tW rfl rfl ?_ | refine tK rfl rfl ?_ | refine Go.Vt.hq (wl_pickT rfl rfl) rfl rfl ?_ | refine Go.Vt.hq (wl_pickF rfl rfl) rfl rfl ?_ | refine jh_nil ?_ | (refine wn_new ?_) | refine jn_nil ?_)); exact hq.out) : P := h ⟨k⟩
end Go.Vt
/- Slices of the call's own that may be nil, under the program logic: how they lie, appends onto them, their handing on. Conditions: those that each rule names. -/
set_option linter.unusedSimpArgs false
set_option linter.unusedVariables false
set_option maxHeartbeats 2000000
set_option linter.unusedSectionVars false
namespace Go.Vt
open Go.RowKit
/-- How a list lies: nowhere, or in a block: its number, its capacity, what lies spare. -/
structure SlS {α : Type} (enc : α → Array Value) (k : Nat) (xs : List α) where
  s : Option (Nat × Nat × List Value)
  nil : s = none ↔ xs = []
  ok : ∀ t, s = some t → xs.length ≤ t.2.1 ∧ t.2.2.length = (t.2.1 - xs.length) * k
section
variable {α : Type} {enc : α → Array Value} {k : Nat} {xs : List α}
def SlS.no : SlS enc k [] := ⟨none, ⟨fun _ => rfl, fun _ => rfl⟩, (fun _ h => by cases h)⟩
def SlS.at_ (b c : Nat) (sp : List Value) (h : xs.length ≤ c ∧ sp.length = (c - xs.length) * k) (h0 : xs ≠ []) : SlS enc k xs := ⟨some (b, c, sp), ⟨fun h => by (cases h), fun h => absurd h h0⟩, (fun t ht => by injection ht with ht; subst ht; exact h)⟩
def vO (n : Nat) : Option (Nat × Nat × List Value) → Value
  | none => .slice none 0 0
  | some t => .slice (some ⟨t.1, 0, none⟩) n t.2.1
def mO (enc : α → Array Value) (T : TypeId) (xs : List α) : Option (Nat × Nat × List Value) → List Blk
  | none => []
  | some t => [⟨t.1, row enc xs t.2.2, T⟩]
/-- The slice, and its block. -/
def vSl (s : SlS enc k xs) : Value := vO xs.length s.s
def mS (T : TypeId) (s : SlS enc k xs) : List Blk := mO enc T xs s.s
theorem SlS.cases (T : TypeId) (s : SlS enc k xs) : (xs = [] ∧ vSl s = .slice none 0 0 ∧ mS T s = []) ∨ ∃ b c sp, (xs.length ≤ c ∧ sp.length = (c - xs.length) * k) ∧ vSl s = .slice (some ⟨b, 0, none⟩) xs.length c ∧ mS T s = [⟨b, row enc xs sp, T⟩] ∧ xs ≠ [] := by
  obtain ⟨s, h1, h2⟩ := s
  cases s with
  | none => exact .inl ⟨h1.1 rfl, rfl, rfl⟩
  | some t => exact .inr ⟨t.1, t.2.1, t.2.2, h2 t rfl, rfl, rfl, fun h => by have := h1.2 h; cases this⟩
end
/-- The list of blocks begins, after turns, with those of a slice. -/
class OwnS {α : Type} {enc : α → Array Value} {k : Nat} {xs : List α} (T : outParam TypeId) (s : SlS enc k xs) (L : List Blk) (L1 : outParam (List Blk)) : Prop where
  out : L.Perm (mS T s ++ L1)
section
variable {α : Type} {enc : α → Array Value} {k : Nat} {xs : List α}
instance (priority := high) osHere (T : TypeId) (s : SlS enc k xs) (L : List Blk) : OwnS T s (mS T s ++ L) L := ⟨.refl _⟩
instance (priority := high) osHere0 (T : TypeId) (s : SlS enc k xs) : OwnS T s (mS T s) [] := ⟨by rw [List.append_nil]⟩
instance (priority := low) osThere (T : TypeId) (s : SlS enc k xs) (e : Blk) (L L1 : List Blk) [h : OwnS T s L L1] : OwnS T s (e :: L) (e :: L1) := ⟨(h.out.cons e).trans (List.perm_middle.symm)⟩
instance (priority := low) osSkip {β : Type} {enc' : β → Array Value} {k' : Nat} {ys : List β} (T T' : TypeId) (s : SlS enc k xs) (u : SlS enc' k' ys) (L L1 : List Blk) [h : OwnS T s L L1] : OwnS T s (mS T' u ++ L) (mS T' u ++ L1) := ⟨by
  refine (h.out.append_left _).trans ?_
  rw [← List.append_assoc, ← List.append_assoc]
  exact (List.perm_append_comm).append_right _⟩
instance (priority := low) delSkip (A : List Blk) (b : Nat) (cs : Array Value) (T : TypeId) (L L1 : List Blk) [h : DelC b L cs T L1] : DelC b (A ++ L) cs T (A ++ L1) := ⟨(h.out.append_left A).trans List.perm_middle⟩
instance (priority := high) sblP (X A B : List Blk) [h : SblC A B] : SblC (X ++ A) (X ++ B) := ⟨h.out.append_left X⟩
instance (priority := high) sblR (X : List Blk) : SblC X X := ⟨List.Sublist.refl _⟩
/-- A slice that is known, the call's own or not. -/
class LstC (w0 : World) (L : List Blk) (v : Value) (α : outParam Type) (enc : outParam (α → Array Value)) (xs : outParam (List α)) : Prop where
  out : ∀ w, Own w0 L w → ArgS w v enc xs
end
instance (priority := low) lstArg (w0 : World) (L : List Blk) (v : Value) (α : Type) (enc : α → Array Value) (xs : List α) [h : ArgC w0 v α enc xs] : LstC w0 L v α enc xs := ⟨fun _ hw => h.out.to hw.ext⟩
theorem argS_row {α : Type} {enc : α → Array Value} {k : Nat} [he : EncC enc k] {w : World} {b c : Nat} {xs : List α} {sp : List Value} {T : TypeId} {fz : Nat × Nat} (hb : w.heap[b]? = some (.cells (row enc xs sp) T fz)) (hc : xs.length ≤ c) : ArgS w (.slice (some ⟨b, 0, none⟩) xs.length c) enc xs := by
  refine ⟨.inr ⟨⟨b, 0, none⟩, c, rfl, hc, fun i f k' u hi hk hu => ?_⟩⟩
  rw [addr_add, cell_block hb]
  obtain rfl : k' = k := by rw [← hk xs[i]]; exact he.size _
  have hf : f < k' := by
    rcases Nat.lt_or_ge f k' with h1 | h1
    · exact h1
    · rw [Array.getElem?_eq_none (by rw [hk]; exact h1)] at hu
      cases hu
  rw [Nat.zero_add, row_get xs sp i f hi hf]
  exact hu
instance lstOwn {α : Type} {enc : α → Array Value} {k : Nat} {xs : List α} [he : EncC enc k] (w0 : World) (L L1 : List Blk) (T : TypeId) (s : SlS enc k xs) [h : OwnS T s L L1] : LstC w0 L (vSl s) α enc xs := ⟨fun w hw => by
  have hp := hw.perm h.out
  rcases s.cases T with ⟨rfl, hv, hm⟩ | ⟨b, c, sp, h1, hv, hm, -⟩
  · rw [hv]
    exact ⟨.inl ⟨rfl, rfl⟩⟩
  · rw [hm] at hp
    rw [hv]
    obtain ⟨fz, hb⟩ : ∃ fz, w.heap[b]? = some (.cells (row enc xs sp) T fz) := ⟨(0, 0), (hp.mem _ (.head _)).2⟩
    exact argS_row hb h1.1⟩
section
variable {P : Program} {w0 : World} {n : Nat} {ops : Array Oper} {L L1 : List Blk} {E : Env}
variable {Q : Exit → Act → World → Prop} {rest : List Oper}
variable {ty : TypeId} {pos : String} {aft : Array Edge} {gd : Option (Nat × Bool)} {t : Tmp} {x y : Operand}
instance yk_len_vS {α : Type} {enc : α → Array Value} {k : Nat} {xs : List α} {S e : TypeId} {s : SlS enc k xs} [hx : IsC (evl E x) (vSl s)] [hu : UndC P S (.slice e)] : YlC P w0 n L E (.call ⟨.builtin .len, #[x], #[S]⟩) (.int .i64 xs.length) := ⟨fun d ty pos aft gd => by
  rcases s.cases 0 with ⟨rfl, hv, -⟩ | ⟨b, c, sp, h1, hv, -, -⟩
  · have : IsC (evl E x) (.slice none 0 0) := ⟨by rw [hx.out, hv]⟩
    exact (yk_len_sl (P := P) (w0 := w0) (n := n) (L := L) (E := E) (x := x) (S := S) (e := e) (p := none) (l := 0) (c := 0)).out d ty pos aft gd
  · have : IsC (evl E x) (.slice (some ⟨b, 0, none⟩) xs.length c) := ⟨by rw [hx.out, hv]⟩
    exact (yk_len_sl (P := P) (w0 := w0) (n := n) (L := L) (E := E) (x := x) (S := S) (e := e) (p := some ⟨b, 0, none⟩) (l := xs.length) (c := c)).out d ty pos aft gd⟩
section
variable {α : Type} {enc : α → Array Value} {S T T2 : TypeId} {b2 m c2 k B : Nat} {xs ys : List α} {z : Value} {zc : Array Value} {s : SlS enc k xs}
variable [hx : IsC (evl E x) (vSl s)] [hy : IsC (evl E y) (.slice (some ⟨b2, 0, none⟩) m c2)] [hd : OwnS T s L L1] [h2 : AtC w0 L b2 (row enc ys []) T2] [hT : UndC P S (.slice T)] [hz : ZeroC P T z zc] [he : EncC enc k] [hk : SizeC P T k] [hB : BytesC P T B]
include hx hy hd h2 hT hz he hk hB
theorem app_runU (hm : ys.length = m) (hzk : zc.size = k) (hb : 0 < m ∧ (xs.length + m) * B ≤ 140737488355328 ∧ xs.length + m ≤ 9223372036854775807) (a : Act) (w : World) (ha : Rep n E a) (hw : Own w0 L w) :
    ∃ s' : SlS enc k (xs ++ ys), ∃ w', (execOp a.eval ⟨some t, .call ⟨.builtin .append, #[x, y], #[S, S]⟩, ty, pos, aft, gd⟩).run P w = .ok (.value (vSl s')) w' ∧ Own w0 (mS T s' ++ L1) w' := by
  have hp := hw.perm hd.out
  have hlen : (xs ++ ys).length = xs.length + m := by rw [List.length_append, hm]
  have hne : xs ++ ys ≠ [] := fun h0 => by rw [h0, List.length_nil] at hlen; omega
  obtain ⟨fz, hf⟩ := h2.out w hw
  rcases s.cases T with ⟨rfl, hv, hm0⟩ | ⟨b, c, sp, h1, hv, hm1, -⟩
  · have hx' : Env.ev E x = some (.slice none 0 0) := by rw [← evl_ev, hx.out, hv]
    rw [hm0, List.nil_append] at hp
    obtain ⟨s, w', hr, ho⟩ := run_app_nil (L := L1) (ty := ty) (b2 := b2) (off2 := 0) (m := m) (c2 := c2) (news := rowL enc ys) hT.out hz.out hz.cells hk.out hB.out hzk hp ⟨T2, fz, hf⟩ (by rw [rowL_len (k := k), hm]) (fun j u hu => by rw [Nat.zero_add]; simpa [row] using hu) hb.1 (by simpa using hb.2.1) (by simpa using hb.2.2)
    refine ⟨SlS.at_ s.1.1 s.1.2.1 s.1.2.2 (by rw [List.nil_append, hm]; exact s.2) hne, w', ?_, ho⟩
    have h3 := run_appop (d := some t) (pos := pos) (aft := aft) (gd := gd) ha hx' (isE (x := y)) hr
    rw [h3]
    show _ = Result.ok (Next.value (Value.slice _ ([] ++ ys).length _)) w'
    rw [List.nil_append, hm]
  · have hx' : Env.ev E x = some (.slice (some ⟨b, 0, none⟩) xs.length c) := by rw [← evl_ev, hx.out, hv]
    rw [hm1] at hp
    obtain ⟨s, w', hr, ho⟩ := run_app (L1 := L1) (ty := ty) (b := b) (len := xs.length) (c := c) (b2 := b2) (off2 := 0) (m := m) (c2 := c2) (xs := rowL enc xs) (sp := sp) (news := rowL enc ys) hT.out hz.out hz.cells hk.out hB.out hzk hp (.refl _) (rowL_len xs) h1.2 h1.1 ⟨T2, fz, hf⟩ (by rw [rowL_len (k := k), hm]) (fun j u hu => by rw [Nat.zero_add]; simpa [row] using hu) (row_one ys) hb.2.1 hb.2.2
    refine ⟨SlS.at_ s.1.1 s.1.2.1 s.1.2.2 (by rw [hlen]; exact s.2) hne, w', ?_, ?_⟩
    · have h3 := run_appop (d := some t) (pos := pos) (aft := aft) (gd := gd) ha hx' (isE (x := y)) hr
      rw [h3]
      show _ = Result.ok (Next.value (Value.slice _ (xs ++ ys).length _)) w'
      rw [hlen]
    · show Own w0 (⟨s.1.1, row enc (xs ++ ys) s.1.2.2, T⟩ :: L1) w'
      rw [row, rowL_append]
      exact ho
theorem sU (hg : guardB ops E gd = some true) (hd' : Nat.blt t n = true) (hm : ys.length = m) (hzk : zc.size = k) (hb : 0 < m ∧ (xs.length + m) * B ≤ 140737488355328 ∧ xs.length + m ≤ 9223372036854775807)
    (h : ∀ s' : SlS enc k (xs ++ ys), JO P w0 n ops Q rest ((t, vSl s') :: E) (mS T s' ++ L1)) : JO P w0 n ops Q (⟨some t, .call ⟨.builtin .append, #[x, y], #[S, S]⟩, ty, pos, aft, gd⟩ :: rest) E L :=
  jo_w (L' := SlS enc k (xs ++ ys)) (o := ⟨some t, .call ⟨.builtin .append, #[x, y], #[S, S]⟩, ty, pos, aft, gd⟩) hg hd' (fun s => vSl s) (fun s => mS T s ++ L1)
    (fun a w ha hw => by
      obtain ⟨s, w', hr, ho⟩ := app_runU (hx := hx) (hy := hy) (hd := hd) (h2 := h2) (hT := hT) (hz := hz) (he := he) (hk := hk) (hB := hB) hm hzk hb a w ha hw
      exact ⟨s, w', .inl hr, ho⟩) h
theorem eU {K : Env → List Blk → Prop} {Lw : List Blk} (hg : guardB ops E gd = some true) (hd' : Nat.blt t n = true) [hw : SblC Lw L1] (hm : ys.length = m) (hzk : zc.size = k) (hb : 0 < m ∧ (xs.length + m) * B ≤ 140737488355328 ∧ xs.length + m ≤ 9223372036854775807)
    (h : ∀ s' : SlS enc k (xs ++ ys), JE P w0 n ops Lw K rest ((t, vSl s') :: E) (mS T s' ++ L1)) : JE P w0 n ops Lw K (⟨some t, .call ⟨.builtin .append, #[x, y], #[S, S]⟩, ty, pos, aft, gd⟩ :: rest) E L :=
  je_old (S := SlS enc k (xs ++ ys)) (o := ⟨some t, .call ⟨.builtin .append, #[x, y], #[S, S]⟩, ty, pos, aft, gd⟩) hg hd' (fun s => vSl s) (fun s => mS T s ++ L1)
    (fun a w ha hw => by
      obtain ⟨s, w', hr, ho⟩ := app_runU (hx := hx) (hy := hy) (hd := hd) (h2 := h2) (hT := hT) (hz := hz) (he := he) (hk := hk) (hB := hB) hm hzk hb a w ha hw
      exact ⟨s, w', .inl hr, ho⟩) (fun _ => weak_sub (hw.out.trans (List.sublist_append_right _ _))) h
end
section
variable {α : Type} {enc : α → Array Value} {S T : TypeId} {b c b2 o2 m c2 k B : Nat} {ys : List α} {sp : List Value} {z : Value} {zc : Array Value}
variable [hx : IsC (evl E x) (.slice (some ⟨b, 0, none⟩) 0 c)] [hy : IsC (evl E y) (.slice (some ⟨b2, o2, none⟩) m c2)] [hd : DelC b L (row enc [] sp) T L1] [h2 : RowC w0 L b2 o2 α enc ys] [hT : UndC P S (.slice T)] [hz : ZeroC P T z zc] [he : EncC enc k] [hk : SizeC P T k] [hB : BytesC P T B]
include hx hy hd h2 hT hz he hk hB
theorem app_runG (hm : ys.length = m) (hne : ys ≠ []) (hs : sp.length = c * k) (hzk : zc.size = k) (hk0 : 0 < k) (hb : m * B ≤ 140737488355328 ∧ m ≤ 9223372036854775807) (a : Act) (w : World) (ha : Rep n E a) (hw : Own w0 L w) :
    ∃ s' : SlS enc k ys, ∃ w', (execOp a.eval ⟨some t, .call ⟨.builtin .append, #[x, y], #[S, S]⟩, ty, pos, aft, gd⟩).run P w = .ok (.value (vSl s')) w' ∧ Own w0 (mS T s' ++ L1) w' := by
  obtain ⟨cs, T2, fz, hf, hcell⟩ := h2.out w hw
  have hcs : ∀ j u, (rowL enc ys)[j]? = some u → cs[o2 + j]? = some u := fun j u hu => by
    have hj : j < (rowL enc ys).length := by
      rcases Nat.lt_or_ge j (rowL enc ys).length with h | h
      · exact h
      · rw [List.getElem?_eq_none h] at hu; cases hu
    rw [rowL_len (k := k)] at hj
    obtain ⟨q, f, rfl, hf'⟩ : ∃ q f, j = q * k + f ∧ f < k := ⟨j / k, j % k, by rw [Nat.mul_comm]; exact (Nat.div_add_mod j k).symm, Nat.mod_lt _ hk0⟩
    have hq : q < ys.length := by
      rcases Nat.lt_or_ge q ys.length with h3 | h3
      · exact h3
      · have := Nat.mul_le_mul_right k h3
        omega
    rw [rowL_get ys q f hq hf'] at hu
    rw [← Nat.add_assoc]
    exact (hcell q f k u hq he.size hu).1
  obtain ⟨⟨⟨b', c', sp'⟩, hs1⟩, w', hr, ho⟩ := run_app (L1 := L1) (ty := ty) (b := b) (len := 0) (c := c) (b2 := b2) (off2 := o2) (m := m) (c2 := c2) (xs := []) (sp := sp) (news := rowL enc ys) hT.out hz.out hz.cells hk.out hB.out hzk hw (by simpa [row, rowL_nil] using hd.out) (by simp) (by simpa using hs) (Nat.zero_le _) ⟨T2, fz, hf⟩ (by rw [rowL_len (k := k), hm]) hcs (row_one ys) (by simpa using hb.1) (by simpa using hb.2)
  simp only [Nat.zero_add] at hs1 hr ho
  refine ⟨SlS.at_ b' c' sp' (by rw [hm]; exact hs1) hne, w', ?_, ?_⟩
  · have h3 := run_appop (d := some t) (pos := pos) (aft := aft) (gd := gd) ha (isE (x := x)) (isE (x := y)) hr
    rw [h3]
    show _ = Result.ok (Next.value (Value.slice _ ys.length _)) w'
    rw [hm]
  · show Own w0 (⟨b', row enc ys sp', T⟩ :: L1) w'
    simpa [row] using ho
theorem sG (hg : guardB ops E gd = some true) (hd' : Nat.blt t n = true) (hm : ys.length = m) (hne : ys ≠ []) (hs : sp.length = c * k) (hzk : zc.size = k) (hk0 : 0 < k) (hb : m * B ≤ 140737488355328 ∧ m ≤ 9223372036854775807)
    (h : ∀ s' : SlS enc k ys, JO P w0 n ops Q rest ((t, vSl s') :: E) (mS T s' ++ L1)) : JO P w0 n ops Q (⟨some t, .call ⟨.builtin .append, #[x, y], #[S, S]⟩, ty, pos, aft, gd⟩ :: rest) E L :=
  jo_w (L' := SlS enc k ys) (o := ⟨some t, .call ⟨.builtin .append, #[x, y], #[S, S]⟩, ty, pos, aft, gd⟩) hg hd' (fun s => vSl s) (fun s => mS T s ++ L1)
    (fun a w ha hw => by
      obtain ⟨s, w', hr, ho⟩ := app_runG (hx := hx) (hy := hy) (hd := hd) (h2 := h2) (hT := hT) (hz := hz) (he := he) (hk := hk) (hB := hB) hm hne hs hzk hk0 hb a w ha hw
      exact ⟨s, w', .inl hr, ho⟩) h
end
end
/-- A list that is made from another one, element by element. -/
def mpN {α β : Type} [Inhabited α] (f : α → β) (xs : List α) : Nat → List β
  | 0 => []
  | m + 1 => mpN f xs m ++ [f (gi xs (m : Int))]
theorem mpN_len {α β : Type} [Inhabited α] (f : α → β) (xs : List α) : ∀ m, (mpN f xs m).length = m
  | 0 => rfl
  | m + 1 => by rw [mpN, List.length_append, mpN_len f xs m]; rfl
theorem mpN_take {α β : Type} [Inhabited α] (f : α → β) (xs : List α) : ∀ m, m ≤ xs.length → mpN f xs m = (xs.take m).map f
  | 0, _ => rfl
  | m + 1, h => by
    rw [mpN, mpN_take f xs m (by omega), List.take_succ_eq_append_getElem (by omega), List.map_append, gi_nat (by omega)]
    rfl
theorem mpN_all {α β : Type} [Inhabited α] (f : α → β) (xs : List α) : mpN f xs xs.length = xs.map f := by rw [mpN_take f xs _ (Nat.le_refl _), List.take_length]
end Go.Vt
/- Calls that turn their caller's own memory, under the program logic. Conditions: those that each rule names. -/
set_option linter.unusedSimpArgs false
set_option linter.unusedVariables false
set_option maxHeartbeats 2000000
set_option linter.unusedSectionVars false
namespace Go.Vt
open Go.RowKit
/-- What a call comes to that turns memory of its caller's own. -/
def RetX (w0 : World) (S : Type) (val : S → Value) (mem : S → List Blk) (e : Ending) (w' : World) : Prop := ∃ s, e = .returned (val s) ∧ Own w0 (mem s) w'
class SpecX (P : Program) (w0 : World) (L : List Blk) (f : FuncId) (args : List Value) (S : outParam Type) (val : outParam (S → Value)) (mem : outParam (S → List Blk)) (pre : outParam Prop) : Prop where
  out : pre → ∀ w, Own w0 L w → Calls P f args.toArray w (RetX w0 S val mem)
section
variable {P : Program} {w0 : World} {n : Nat} {ops : Array Oper} {L : List Blk} {E : Env}
variable {Q : Exit → Act → World → Prop} {rest : List Oper}
variable {ty : TypeId} {pos : String} {aft : Array Edge} {gd : Option (Nat × Bool)} {t : Tmp}
theorem fn_introL {f : FuncId} {fn : Func} {c : Code} {l : List Value} {w : World} {R : Ending → World → Prop} (hf : P.funcs[f]? = some fn) (hb : fn.body = some c) (hn : fn.ntmps = n) (hl : Nat.ble l.length n = true) [hE : EnvC l E]
    (hw : Own w0 L w) (h : J P w0 n c (bodyPost P fn R) E L) : Calls P f l.toArray w R := by
  rw [← hE.out] at h
  have hl' : l.length ≤ n := Nat.le_of_ble_eq_true hl
  refine calls_of_wp hf hb (h.out _ _ ⟨by simp [hn]; omega, rfl, fun k v hk => ?_⟩ hw)
  obtain ⟨_, h2⟩ := find_envOf l 0 k v hk
  have hlt : k < l.length := by
    rcases Nat.lt_or_ge k l.length with h' | h'
    · exact h'
    · simp [List.getElem?_eq_none h'] at h2
  simp only [Nat.sub_zero] at h2
  rw [Array.getElem?_append_left (by simpa using hlt)]
  simpa using h2
theorem jx_end0 {fn : Func} {R : Ending → World → Prop} (hres : fn.results = #[]) (h : ∀ w, Own w0 L w → R (.returned (.tuple #[])) w) : JX w0 n .normal (bodyPost P fn R) E L := jx_end (fun a w ha _ => by simp [results, hres]) h
theorem jx_ret0 {fn : Func} {R : Ending → World → Prop} (hres : fn.results = #[]) (h : ∀ w, Own w0 L w → R (.returned (.tuple #[])) w) : JX w0 n .ret (bodyPost P fn R) E L := jx_ret (fun a w ha _ => by simp [results, hres]) h
section
variable {S : Type} {val : S → Value} {mem : S → List Blk} {f : FuncId} {xs : List Operand} {l : List Value} {ats : Array TypeId} {pre : Prop}
theorem sZ [hf : CallC P f] [hl : IsC (evsl E xs) l] [hc : SpecX P w0 L f l S val mem pre] (hg : guardB ops E gd = some true) (hd : Nat.blt t n = true) (s : pre) (h : ∀ s, JO P w0 n ops Q rest ((t, val s) :: E) (mem s)) : JO P w0 n ops Q (⟨some t, .call ⟨.value (.func f), xs.toArray, ats⟩, ty, pos, aft, gd⟩ :: rest) E L :=
  jo_c (S := S) (o := ⟨some t, .call ⟨.value (.func f), xs.toArray, ats⟩, ty, pos, aft, gd⟩) hg hd val mem (fun _ _ ha => run_call hf.out ha isS) (fun w hw => hc.out s w hw) h
theorem eZ {K : Env → List Blk → Prop} {Lw : List Blk} [hf : CallC P f] [hl : IsC (evsl E xs) l] [hc : SpecX P w0 L f l S val mem pre] (hg : guardB ops E gd = some true) (hd : Nat.blt t n = true) (hw : ∀ s, Lw.Sublist (mem s)) (s : pre) (h : ∀ s, JE P w0 n ops Lw K rest ((t, val s) :: E) (mem s)) : JE P w0 n ops Lw K (⟨some t, .call ⟨.value (.func f), xs.toArray, ats⟩, ty, pos, aft, gd⟩ :: rest) E L :=
  je_c (S := S) (o := ⟨some t, .call ⟨.value (.func f), xs.toArray, ats⟩, ty, pos, aft, gd⟩) hg hd val mem (fun _ _ ha => run_call hf.out ha isS) (fun w hw' => hc.out s w hw') (fun s => weak_sub (hw s)) h
theorem sY {u : Tmp} {cap c : List Value} [hu : IsC (evl E (.tmp u)) (.func (.func f) #[] cap.toArray)] [hf : CallC P f] [hl : IsC (evsl E xs) l] [ha : AppC l cap c] [hc : SpecX P w0 L f c S val mem pre] (hg : guardB ops E gd = some true) (hd : Nat.blt t n = true) (s : pre) (h : ∀ s, JO P w0 n ops Q rest ((t, val s) :: E) (mem s)) : JO P w0 n ops Q (⟨some t, .call ⟨.value (.tmp u), xs.toArray, ats⟩, ty, pos, aft, gd⟩ :: rest) E L :=
  jo_c (S := S) (o := ⟨some t, .call ⟨.value (.tmp u), xs.toArray, ats⟩, ty, pos, aft, gd⟩) hg hd val mem (fun _ _ hr => run_callcl hf.out hr isE isS ha.out) (fun w hw => hc.out s w hw) h
end
end
end Go.Vt
/- A region that draws its order: values that look at memory ahead of all effects, values that look at no memory anywhere, then effects. Conditions: the closed check 'sgA'. -/
set_option linter.unusedSimpArgs false
set_option linter.unusedVariables false
set_option maxHeartbeats 2000000
set_option linter.unusedSectionVars false
namespace Go.Vt
open Go.RowKit
section
variable {P : Program} {w0 : World} {n : Nat} {ops : Array Oper} {L L' Lw : List Blk} {E : Env}
variable {Q : Exit → Act → World → Prop} {rest : List Oper} {v : Value} {Z : List Nat}
theorem wpG_first0 {i : Nat} {oi : Oper} {F : List Blk → Act → Prop} (hi : ops[i]? = some oi) (hsel : ∀ (j : Nat) (o : Oper) cs b, ops[j]? = some o → o.op ≠ .select cs b) :
    ∀ (f : Nat) (listed : Array Bool) (es : List Nat) (L : List Blk) (a : Act),
      (∀ j oj, ops[j]? = some oj → j ≠ i → listed.getD j true = false → (∀ e ∈ oj.after, Region.binds .any e = true → e.on ≠ i) → oi.apart ops oj = true) →
      i ∈ Region.ready .any ops listed → YieldsC P w0 [] ops oi v a →
      wpG P w0 ops Z Lw F f (listed.setIfInBounds i true) es L (a.put oi.dst v) → wpG P w0 ops Z Lw F (f + 1) listed es L a := by
  intro f
  induction f with
  | zero =>
    intro listed es L a _ hr hy H
    refine ⟨fun h => (by rw [h] at hr; cases hr), fun j hj => ?_⟩
    by_cases hji : j = i
    · subst hji
      exact ⟨oi, hi, .inl ⟨v, hy.weak (weak_sub (List.nil_sublist _)), H⟩⟩
    · have := ready_mono hj hji
      rw [H.2.1] at this
      cases this
  | succ f ih =>
    intro listed es L a hfree hr hy H
    have hun := (mem_ready.1 hr).1
    refine ⟨fun h => (by rw [h] at hr; cases hr), fun j hj => ?_⟩
    by_cases hji : j = i
    · subst hji
      exact ⟨oi, hi, .inl ⟨v, hy.weak (weak_sub (List.nil_sublist _)), H⟩⟩
    · obtain ⟨hjun, oj, hoj, hall⟩ := mem_ready.1 hj
      have hnot : ∀ e ∈ oj.after, Region.binds .any e = true → e.on ≠ i := fun e he hb heq => by
        have h1 := hall e he hb
        rw [heq, getD_both hun] at h1
        cases h1
      obtain ⟨h1, h2, h3⟩ := Oper.apart_spec (hfree j oj hoj hji hjun hnot)
      have hfree' : ∀ q oq, ops[q]? = some oq → q ≠ i → (listed.setIfInBounds j true).getD q true = false →
          (∀ e ∈ oq.after, Region.binds .any e = true → e.on ≠ i) → oi.apart ops oq = true := fun q oq hq hqi hun' hno => by
        refine hfree q oq hq hqi ?_ hno
        by_cases hjq : j = q
        · subst hjq; exact hjun
        · rw [getD_set_ne true hjq] at hun'; exact hun'
      have keep : ∀ u, YieldsC P w0 [] ops oi v (a.put oj.dst u) := fun u => hy.same (execOp_put oi (fun cs b => hsel i oi cs b hi) a oj.dst u h3) (wanted_put oi a oj.dst u h3)
      have hex : execOp (a.put oi.dst v).eval oj = execOp a.eval oj := execOp_put oj (fun cs b => hsel j oj cs b hoj) a oi.dst v h1
      have hwa : Region.wanted oj (yielded ops (a.put oi.dst v).tmps) = Region.wanted oj (yielded ops a.tmps) := wanted_put oj a oi.dst v h1
      have step : ∀ es' L' u, wpG P w0 ops Z Lw F f ((listed.setIfInBounds i true).setIfInBounds j true) es' L' ((a.put oi.dst v).put oj.dst u) → wpG P w0 ops Z Lw F (f + 1) (listed.setIfInBounds j true) es' L' (a.put oj.dst u) := fun es' L' u hh => by
        refine ih _ _ _ _ hfree' (ready_mono hr (Ne.symm hji)) (keep u) ?_
        rw [Array.setIfInBounds_comm _ _ hji, ← Act.put_comm a v u h2]
        exact hh
      obtain ⟨o, ho, hH⟩ := H.2 j (ready_mono hj hji)
      have : o = oj := Option.some.inj (ho.symm.trans hoj)
      subst this
      refine ⟨o, ho, ?_⟩
      rcases hH with ⟨u, hu, hK⟩ | ⟨es', he, hE⟩
      · exact .inl ⟨u, hu.same hex.symm hwa.symm, step _ _ _ hK⟩
      · refine .inr ⟨es', he, hwa ▸ hE.1, fun w hw1 => ?_⟩
        have hH := hE.2 w hw1
        rw [hex] at hH
        exact hH.mono fun u w' ⟨L', h5, h6, h7⟩ => ⟨L', h5, h6, step _ _ _ h7⟩
/-- What a value may look at. -/
def lk (b : Bool) (L : List Blk) : List Blk := match b with | true => [] | false => L
def sgN : List (Bool × List Nat) → Nat
  | [] => 0
  | p :: ps => p.2.length + sgN ps
def sgB (ops : Array Oper) (es : List Nat) : List (Bool × List Nat) → Array Bool → Bool
  | [], listed => seqE ops es listed
  | p :: ps, listed => (p.1 || zB ops es p.2) && lexF ops (sgB ops es ps) p.2 listed
def sgA (ops : Array Oper) (ps : List (Bool × List Nat)) (es : List Nat) : Bool :=
  Region.noSelect ops && decide (sgN ps + es.length = ops.size) && es.all (fun i => decide (i < ops.size)) && sgB ops es ps (Array.replicate ops.size false)
def SG (P : Program) (w0 : World) (L : List Blk) (l : List Oper) (G : Act → Prop) : List (Bool × List Nat) → Act → Prop
  | [], a => G a
  | p :: ps, a => AH P w0 (lk p.1 L) l.toArray (SG P w0 L l G ps) (picks l p.2) a
def JS (P : Program) (w0 : World) (n : Nat) (L : List Blk) (l : List Oper) (K : Env → Prop) : List (Bool × List Nat) → Env → Prop
  | [], E => K E
  | p :: ps, E => JH P w0 n (lk p.1 L) l.toArray (JS P w0 n L l K ps) (picks l p.2) E
theorem wpG_of_ahS {l : List Oper} {F : List Blk → Act → Prop} {es : List Nat} {G : Act → Prop} {N : Nat} {k : Array Bool → Bool} {pu : Bool} (hk : ∀ listed a, k listed = true → G a → wpG P w0 l.toArray Z L F N listed es L a) (hsel : Region.noSelect l.toArray = true) : ∀ (hs : List Nat) (listed : Array Bool) (a : Act), (pu || zB l.toArray Z hs) = true → lexF l.toArray k hs listed = true →
    AH P w0 (lk pu L) l.toArray G (picks l hs) a → wpG P w0 l.toArray Z L F (hs.length + N) listed es L a
  | [], listed, a, _, hB, h => by
    rw [List.length_nil, Nat.zero_add]
    exact hk listed a hB h
  | i :: hs, listed, a, hz, hB, h => by
    simp only [lexF, Bool.and_eq_true] at hB
    obtain ⟨⟨hr, hf⟩, hB'⟩ := hB
    have hr' : i ∈ Region.ready .any l.toArray listed := by simpa using hr
    obtain ⟨_, o, ho, _⟩ := mem_ready.1 hr'
    have ho' : l[i]? = some o := by simpa using ho
    simp only [picks, ho', AH] at h
    obtain ⟨v, hy, h⟩ := h
    rw [show (i :: hs).length + N = (hs.length + N) + 1 by simp only [List.length_cons]; omega]
    cases pu with
    | true => exact wpG_first0 ho (Region.noSelect_spec hsel) _ _ _ _ _ (Region.free_spec ho hf) hr' hy (wpG_of_ahS hk hsel hs _ _ rfl hB' h)
    | false =>
      simp only [Bool.false_or] at hz
      have hz' : zB l.toArray Z hs = true := by
        refine List.all_eq_true.2 fun z hzz => ?_
        have h1 := List.all_eq_true.1 hz z hzz
        cases ho : l.toArray[z]? with
        | none => rfl
        | some o =>
          simp only [ho] at h1
          exact List.all_eq_true.2 fun x hx => List.all_eq_true.1 h1 x (.tail _ hx)
      exact wpG_first ho (Region.noSelect_spec hsel) (zB_spec hz (.head _)) _ _ _ _ _ (Region.free_spec ho hf) hr' hy (weak_sub (List.Sublist.refl _)) (wpG_of_ahS hk hsel hs _ _ (by rw [Bool.false_or]; exact hz') hB' h)
theorem wpG_of_sg {l : List Oper} {F : List Blk → Act → Prop} {es : List Nat} (hsel : Region.noSelect l.toArray = true) : ∀ (ps : List (Bool × List Nat)) (listed : Array Bool) (a : Act), sgB l.toArray es ps listed = true → SG P w0 L l (EC P w0 l.toArray es L F es L) ps a → wpG P w0 l.toArray es L F (sgN ps + es.length) listed es L a
  | [], listed, a, hB, h => by
    rw [sgN, Nat.zero_add]
    exact wpG_of_ec es listed L a hB h
  | p :: ps, listed, a, hB, h => by
    simp only [sgB, Bool.and_eq_true] at hB
    rw [sgN, Nat.add_assoc]
    exact wpG_of_ahS (pu := p.1) (k := sgB l.toArray es ps) (G := SG P w0 L l (EC P w0 l.toArray es L F es L) ps) (fun listed a hb hG => wpG_of_sg hsel ps listed a hb hG) hsel p.2 listed a hB.1 hB.2 h
theorem sg_of_js {l : List Oper} {K : Env → Prop} {G : Act → Prop} (hK : ∀ E a, Rep n E a → K E → G a) : ∀ (ps : List (Bool × List Nat)) (E : Env) (a : Act), Rep n E a → JS P w0 n L l K ps E → SG P w0 L l G ps a
  | [], E, a, ha, h => hK E a ha h
  | p :: ps, E, a, ha, h => ah_of_jh (n := n) (fun E' a' ha' hK' => sg_of_js hK ps E' a' ha' hK') _ _ _ ha h
theorem j_seg {id : Nat} {l : List Oper} (ps : List (Bool × List Nat)) (es : List Nat) (hm : P.follows .mixedOrders = true := by exact mixed) (hB : sgA l.toArray ps es = true := by kernel_rfl)
    (h : JS P w0 n L l (fun E' => JE P w0 n l.toArray [] (fun E2 L2 => JX w0 n .normal Q E2 L2) (picks l es) E' L) ps E) : J P w0 n (.region id l.toArray true) Q E L := by
  refine ⟨fun a w ha hw => ?_⟩
  simp only [sgA, Bool.and_eq_true, decide_eq_true_eq] at hB
  obtain ⟨⟨⟨hsel, hlen⟩, hall⟩, hlex⟩ := hB
  refine wp_region_any hm ?_
  have hz : ∀ i ∈ es, lwZ es i L = [] := fun i hi => by
    unfold lwZ
    rw [if_pos (by simpa using hi)]
  have H := wpG_of_sg (P := P) (w0 := w0) (L := L) (F := fun L a => ∀ w, Own w0 L w → Q .normal a w) (es := es) hsel ps _ a hlex
    (sg_of_js (n := n) (fun E' a' ha' hK => ec_of_je (n := n) (fun E2 L2 a2 ha2 hx w hw => hx.out a2 w ha2 hw) es E' L a' (by simpa using hall) hz ha' hK) ps E a ha h)
  have := wpAny_of_wpG (P := P) (Q := Q) (fun L a w hF hw => hF w hw) _ _ _ _ _ w.drew (hw.to (Ext.drew w)) H
  rw [hlen] at this
  exact this
end
section
variable {P : Program} {w0 : World} {n : Nat} {ops : Array Oper} {L L' Lw : List Blk} {E : Env} {K : Env → List Blk → Prop}
variable {rest : List Oper} {ty : TypeId} {pos : String} {aft : Array Edge} {gd : Option (Nat × Bool)} {x y : Operand} {T T0 : TypeId}
variable {α : Type} {enc : α → Array Value} {k b : Nat} {xs : List α} {sp : List Value} {i : Int}
/-- An element is turned, in the tail. -/
theorem eR {u : Value} {z : α} [hx : IsC (evl E x) (.pointer (some ⟨b, 0 + i.toNat * k, none⟩))] [hy : IsC (evl E y) u] [hk : SizeC P T k] [MemC b L (row enc xs sp) T0] [he : EncC enc k] [hu : ValC enc u z] [hU : UpdC b (row enc (xs.set i.toNat z) sp) L (row enc xs sp) T0 L'] [hw : SblC Lw L']
    (hg : guardB ops E gd = some true) (s : i.toNat < xs.length) (h : JE P w0 n ops Lw K rest E L') : JE P w0 n ops Lw K (⟨none, .store T x y, ty, pos, aft, gd⟩ :: rest) E L := by
  have h1 := he.size z
  have hle := Nat.mul_le_mul_right k (show i.toNat + 1 ≤ xs.length from s)
  rw [Nat.add_mul] at hle
  exact je_store (u := u) k isE isE hU.out hk.out (by rw [hu.out, h1]) (by rw [row_size (k := k)]; exact Nat.ble_eq_true_of_le (by omega)) (by rw [hu.out]; exact he.one z) (by rw [hu.out, Nat.zero_add]; exact spl_row xs sp _ z s) hg hw.out h
end
theorem wkS {P Q : Prop} (k : Q) (h : Wr Q → P := by intro hq; simp only [JS, lk, picks, List.getElem?_cons_succ, List.getElem?_cons_zero]; exact hq.out) : P := h ⟨k⟩
end Go.Vt
/- Nil tests, methods of interface values under the program logic. Conditions: those that each rule names. -/
set_option linter.unusedSimpArgs false
set_option linter.unusedVariables false
set_option maxHeartbeats 2000000
set_option linter.unusedSectionVars false
set_option maxRecDepth 100000
namespace Go.Vt
open Go.RowKit Go.Proofs
section
variable {P : Program} {T e : TypeId}
theorem run_eql_slice_nil' (w : World) (a : Option Addr) (l c : Nat) (h : P.underlying T = some (.slice e)) : (binOp .eql T (.slice a l c) (.slice none 0 0)).run P w = .ok (.bool a.isNone) w := by
  simp only [binOp]
  simp [run_equal_slice_nil w T e a l c h]
instance bin_eql_nil0 [h : UndC P T (.slice e)] : BinC P .eql T (.slice none 0 0) (.slice none 0 0) (.bool true) := ⟨fun x y w => by rw [eqGuard_at_slice]; rfl, fun w => run_eql_slice_nil' w none 0 0 h.out⟩
instance bin_eql_nil1 {a : Addr} {l c : Nat} [h : UndC P T (.slice e)] : BinC P .eql T (.slice (some a) l c) (.slice none 0 0) (.bool false) := ⟨fun x y w => by rw [eqGuard_at_slice]; rfl, fun w => run_eql_slice_nil' w (some a) l c h.out⟩
/-- What a pointer points at. -/
class PtrC (P : Program) (T : TypeId) : Prop where
  out : P.underlying T = some (.pointer (P.pointee T))
instance bin_neq_ptr0 [h : PtrC P T] : BinC P .neq T (.pointer none) (.pointer none) (.bool false) := ⟨fun x y w => by rw [eqGuard_at_pointer]; rfl, fun w => run_neq_pointer_nil w T none h.out⟩
instance bin_neq_ptr1 {a : Addr} [h : PtrC P T] : BinC P .neq T (.pointer (some a)) (.pointer none) (.bool true) := ⟨fun x y w => by rw [eqGuard_at_pointer]; rfl, fun w => run_neq_pointer_nil w T (some a) h.out⟩
end
/-- No interface type. -/
class NifC (P : Program) (T : TypeId) : Prop where
  out : ∀ v w, (Instr.makeInterface T v).run P w = .ok (.iface T v) w
class MethC (P : Program) (t : TypeId) (v : Value) (name : String) (f : outParam FuncId) (r : outParam Value) : Prop where
  out : ∀ w, (method (P.types.size + Made.depth) t v name).run P w = .ok (f, r) w
class NahC (P : Program) (t : TypeId) (v : Value) (name : String) : Prop where
  out : ∀ w, (nilAhead (P.types.size + Made.depth) t v name).run P w = .ok (some false) w
section
variable {P : Program} {w0 : World} {n : Nat} {L : List Blk} {E : Env} {x : Operand} {v : Value}
variable {d : Option Tmp} {ty : TypeId} {pos : String} {aft : Array Edge} {gd : Option (Nat × Bool)}
instance yk_nilCheckP {a : Addr} [IsC (evl E x) (.pointer (some a))] : YlC P w0 n L E (.nilCheck x) (.pointer (some a)) := ⟨fun d ty pos aft gd => ⟨fun b w hb _ => by
  unfold calm
  simp only [execOp, hb.ev (isE (x := x)), Sem.run_pure]
  exact ⟨rfl, Ext.refl _⟩⟩⟩
instance yk_mkIface {T : TypeId} [hx : IsC (evl E x) v] [h : NifC P T] : YlC P w0 n L E (.makeInterface T x) (.iface T v) := ⟨fun d ty pos aft gd => yl_run (fun _ => Instr.makeInterface T v) (fun a ha => by simp only [execOp, ha.ev (isE (x := x))]) (fun a w _ _ => h.out v w)⟩
instance yk_mkMeth {name : String} {xs : List Operand} {l : List Value} [h : IsC (evsl E xs) l] : YlC P w0 n L E (.makeFunc (.method name) xs.toArray #[]) (.func (.method name) l.toArray #[]) := ⟨fun d ty pos aft gd => yl_run (fun _ => Instr.makeFunc (.method name) l.toArray #[]) (fun a ha => by
  have h1 : xs.toArray.map a.eval = l.toArray := by rw [← ha.evs xs l isS]; simp
  simp only [execOp, h1, Array.map_empty]) (fun a w _ _ => by simp [Instr.makeFunc])⟩
instance yk_nilCheckM {name : String} {t : TypeId} {u : Value} [hx : IsC (evl E x) (.func (.method name) [.iface t u].toArray #[])] [h : NahC P t u name] : YlC P w0 n L E (.nilCheck x) (.func (.method name) [.iface t u].toArray #[]) := ⟨fun d ty pos aft gd => ⟨fun b w hb _ => by
  unfold calm
  have h1 := h.out w
  have h2 : (execOp b.eval ⟨d, .nilCheck x, ty, pos, aft, gd⟩).run P w = .ok (.value (.func (.method name) [.iface t u].toArray #[])) w := by
    simp only [execOp, hb.ev (isE (x := x))]
    simp [Sem.run_bind, h1]
  rw [h2]
  exact ⟨rfl, Ext.refl _⟩⟩⟩
theorem run_invoke {name : String} {t : TypeId} {u r : Value} {f : FuncId} {xs : List Operand} {l : List Value} {ats : Array TypeId} {a : Act} {w : World} (hf : callableB P f = true) (hm : ∀ w, (method (P.types.size + Made.depth) t u name).run P w = .ok (f, r) w) (ha : Rep n E a) (hx : Env.ev E x = some (.iface t u)) (hl : Env.evs E xs = some l) :
    (execOp a.eval ⟨d, .call ⟨.invoke x name, xs.toArray, ats⟩, ty, pos, aft, gd⟩).run P w = .ok (.enter f (r :: l).toArray) w := by
  have h1 : xs.toArray.map a.eval = l.toArray := by rw [← ha.evs xs l hl]; simp
  simp only [execOp, resolve, h1, ha.ev hx, Sem.run_bind, Sem.run_pure, Result.andThen, invoke]
  have h2 : (#[Value.iface t u] ++ l.toArray)[0]? = some (.iface t u) := by simp
  have h3 : (#[Value.iface t u] ++ l.toArray).extract 1 (#[Value.iface t u] ++ l.toArray).size = l.toArray := by apply Array.ext'; simp
  simp only [h2, h3, callMethod, Sem.run_bind, hm, Result.andThen]
  have h4 : (#[r] ++ l.toArray) = (r :: l).toArray := by simp
  rw [show Sem.run P program w = Result.ok P w from rfl]
  simp only [hm, h4]
  exact run_callFunc hf _ _
instance yc_invoke {name : String} {t : TypeId} {u r : Value} {f : FuncId} {xs : List Operand} {l : List Value} {ats : Array TypeId} {pre : Prop} [hx : IsC (evl E x) (.iface t u)] [hl : IsC (evsl E xs) l] [hm : MethC P t u name f r] [hf : CallC P f] [h : SpecM P w0 L f (r :: l) v pre] : YcC P w0 n L E (.call ⟨.invoke x name, xs.toArray, ats⟩) v pre := ⟨fun hp _ _ _ _ _ => ⟨fun a w ha hw => by
  unfold calm
  rw [run_invoke hf.out hm.out ha isE isS]
  exact ⟨rfl, h.out hp w hw⟩⟩⟩
end
end Go.Vt
/- A part of an element of a row is turned. Conditions: those that the rule names. -/
set_option linter.unusedSimpArgs false
set_option linter.unusedVariables false
set_option maxHeartbeats 2000000
set_option linter.unusedSectionVars false
namespace Go.Vt
open Go.RowKit
section
variable {α : Type} {enc : α → Array Value} {k : Nat}
theorem spl_rowF [h : EncC enc k] (xs : List α) (sp : List Value) (i f : Nat) (z : α) (us : List Value) (hi : i < xs.length) (hf : f + us.length ≤ k) (hz : spl (enc xs[i]) f us = enc z) : spl (row enc xs sp) (i * k + f) us = row enc (xs.set i z) sp := by
  have hle := Nat.mul_le_mul_right k (show i + 1 ≤ xs.length from hi)
  rw [Nat.add_mul] at hle
  have hsz := h.size z
  have hsx := h.size xs[i]
  apply Array.ext_getElem?
  intro j
  rw [spl_get _ _ _ _ (by rw [row_size (k := k)]; omega)]
  by_cases h1 : i * k ≤ j ∧ j < i * k + k
  · obtain ⟨m, rfl⟩ : ∃ m, j = i * k + m := ⟨j - i * k, by omega⟩
    have hr := row_get (enc := enc) (k := k) (xs.set i z) sp i m (by simpa using hi) (by omega)
    rw [List.getElem_set_self] at hr
    rw [hr, ← hz, spl_get _ _ _ _ (by omega), row_get xs sp i m hi (by omega)]
    by_cases h2 : f ≤ m ∧ m < f + us.length
    · rw [if_pos (by omega), if_pos h2, show i * k + m - (i * k + f) = m - f by omega]
    · rw [if_neg (by omega), if_neg h2]
  · rw [if_neg (by omega)]
    rcases Nat.lt_or_ge j (xs.length * k) with h2 | h2
    · rcases Nat.eq_zero_or_pos k with h0 | h0
      · subst h0; simp at h2
      · obtain ⟨q, m, rfl, hm⟩ : ∃ q m, j = q * k + m ∧ m < k := ⟨j / k, j % k, by rw [Nat.mul_comm]; exact (Nat.div_add_mod j k).symm, Nat.mod_lt _ h0⟩
        have hq : q < xs.length := by
          rcases Nat.lt_or_ge q xs.length with h3 | h3
          · exact h3
          · have := Nat.mul_le_mul_right k h3
            omega
        have hqi : i ≠ q := by
          rintro rfl
          exact h1 ⟨by omega, by omega⟩
        rw [row_get xs sp q m hq hm, row_get _ sp q m (by simpa using hq) hm]
        simp [List.getElem_set_ne hqi]
    · rw [row, row, List.getElem?_toArray, List.getElem?_toArray, List.getElem?_append_right (by rw [rowL_len (k := k)]; exact h2), List.getElem?_append_right (by rw [rowL_len (k := k)]; simpa using h2)]
      simp [rowL_len (k := k)]
end
section
variable {P : Program} {w0 : World} {n : Nat} {ops : Array Oper} {L L' : List Blk} {E : Env}
variable {Q : Exit → Act → World → Prop} {rest : List Oper}
variable {ty : TypeId} {pos : String} {aft : Array Edge} {gd : Option (Nat × Bool)} {x y : Operand} {T T0 : TypeId}
variable {α : Type} [Inhabited α] {enc : α → Array Value} {k b f : Nat} {xs : List α} {sp : List Value} {i : Int}
/-- A part of an element is turned. -/
theorem sRF {u : Value} {cs1 : Array Value} [hx : IsC (evl E x) (.pointer (some ⟨b, 0 + i.toNat * k + f, none⟩))] [hy : IsC (evl E y) u] [MemC b L (row enc xs sp) T0] [he : EncC enc k] [hs : StC P T (enc (gi xs i)) f u cs1] (z : α) (hz : cs1 = enc z) [hU : UpdC b (row enc (xs.set i.toNat z) sp) L (row enc xs sp) T0 L']
    (hg : guardB ops E gd = some true) (s : i.toNat < xs.length) (h : JO P w0 n ops Q rest E L') : JO P w0 n ops Q (⟨none, .store T x y, ty, pos, aft, gd⟩ :: rest) E L := by
  have h1 := he.size (gi xs i)
  have hfit := Nat.le_of_ble_eq_true hs.fit
  have hle := Nat.mul_le_mul_right k (show i.toNat + 1 ≤ xs.length from s)
  rw [Nat.add_mul] at hle
  refine jo_store (u := u) u.cells.size isE isE hU.out hs.size rfl (by rw [row_size (k := k)]; exact Nat.ble_eq_true_of_le (by omega)) hs.one ?_ hg rfl h
  rw [Nat.zero_add]
  refine spl_rowF xs sp i.toNat f z u.cells.toList s (by simp only [Array.length_toList]; omega) ?_
  rw [← gi_eq s, hs.out, hz]
end
end Go.Vt
/- A region that draws its order: values anywhere, allocations in any order, then effects in a forced order. Conditions: the closed check 'drlB'. -/
set_option linter.unusedSimpArgs false
set_option linter.unusedVariables false
set_option maxHeartbeats 2000000
set_option linter.unusedSectionVars false
namespace Go.Vt
open Go.RowKit
section
variable {P : Program} {w0 : World} {n : Nat} {ops : Array Oper} {L L' Lw : List Blk} {E : Env}
variable {Q : Exit → Act → World → Prop} {v : Value}
/-- Whatever order is drawn; 'As' may come at any time. -/
def wpK (P : Program) (w0 : World) (ops : Array Oper) (As : List Nat) (Lw : List Blk) (F : List Blk → Act → Prop) : Nat → Array Bool → List Nat → List Blk → Act → Prop
  | 0, listed, es, L, a => es = [] ∧ Region.ready .any ops listed = [] ∧ F L a
  | f + 1, listed, es, L, a => Region.ready .any ops listed ≠ [] ∧ ∀ i ∈ Region.ready .any ops listed, ∃ o, ops[i]? = some o ∧
      ((∃ v, YieldsC P w0 L ops o v a ∧ wpK P w0 ops As Lw F f (listed.setIfInBounds i true) es L (a.put o.dst v)) ∨
       ∃ es', (es = i :: es' ∨ (As.contains i = true ∧ es' = es)) ∧ Eff P w0 Lw ops L o a fun L' u => wpK P w0 ops As Lw F f (listed.setIfInBounds i true) es' L' (a.put o.dst u))
theorem wpK_first {As : List Nat} {i : Nat} {oi : Oper} {F : List Blk → Act → Prop} (hi : ops[i]? = some oi) (hsel : ∀ (j : Nat) (o : Oper) cs b, ops[j]? = some o → o.op ≠ .select cs b) :
    ∀ (f : Nat) (listed : Array Bool) (es : List Nat) (L : List Blk) (a : Act),
      (∀ j oj, ops[j]? = some oj → j ≠ i → listed.getD j true = false → (∀ e ∈ oj.after, Region.binds .any e = true → e.on ≠ i) → oi.apart ops oj = true) →
      i ∈ Region.ready .any ops listed → YieldsC P w0 Lw ops oi v a → Weak w0 Lw L →
      wpK P w0 ops As Lw F f (listed.setIfInBounds i true) es L (a.put oi.dst v) → wpK P w0 ops As Lw F (f + 1) listed es L a := by
  intro f
  induction f with
  | zero =>
    intro listed es L a _ hr hy hw H
    refine ⟨fun h => (by rw [h] at hr; cases hr), fun j hj => ?_⟩
    by_cases hji : j = i
    · subst hji
      exact ⟨oi, hi, .inl ⟨v, hy.weak hw, H⟩⟩
    · have := ready_mono hj hji
      rw [H.2.1] at this
      cases this
  | succ f ih =>
    intro listed es L a hfree hr hy hw H
    have hun := (mem_ready.1 hr).1
    refine ⟨fun h => (by rw [h] at hr; cases hr), fun j hj => ?_⟩
    by_cases hji : j = i
    · subst hji
      exact ⟨oi, hi, .inl ⟨v, hy.weak hw, H⟩⟩
    · obtain ⟨hjun, oj, hoj, hall⟩ := mem_ready.1 hj
      have hnot : ∀ e ∈ oj.after, Region.binds .any e = true → e.on ≠ i := fun e he hb heq => by
        have h1 := hall e he hb
        rw [heq, getD_both hun] at h1
        cases h1
      obtain ⟨h1, h2, h3⟩ := Oper.apart_spec (hfree j oj hoj hji hjun hnot)
      have hfree' : ∀ q oq, ops[q]? = some oq → q ≠ i → (listed.setIfInBounds j true).getD q true = false →
          (∀ e ∈ oq.after, Region.binds .any e = true → e.on ≠ i) → oi.apart ops oq = true := fun q oq hq hqi hun' hno => by
        refine hfree q oq hq hqi ?_ hno
        by_cases hjq : j = q
        · subst hjq; exact hjun
        · rw [getD_set_ne true hjq] at hun'; exact hun'
      have keep : ∀ u, YieldsC P w0 Lw ops oi v (a.put oj.dst u) := fun u => hy.same (execOp_put oi (fun cs b => hsel i oi cs b hi) a oj.dst u h3) (wanted_put oi a oj.dst u h3)
      have hex : execOp (a.put oi.dst v).eval oj = execOp a.eval oj := execOp_put oj (fun cs b => hsel j oj cs b hoj) a oi.dst v h1
      have hwa : Region.wanted oj (yielded ops (a.put oi.dst v).tmps) = Region.wanted oj (yielded ops a.tmps) := wanted_put oj a oi.dst v h1
      have step : ∀ es' L' u, Weak w0 Lw L' → wpK P w0 ops As Lw F f ((listed.setIfInBounds i true).setIfInBounds j true) es' L' ((a.put oi.dst v).put oj.dst u) → wpK P w0 ops As Lw F (f + 1) (listed.setIfInBounds j true) es' L' (a.put oj.dst u) := fun es' L' u hw' hh => by
        refine ih _ _ _ _ hfree' (ready_mono hr (Ne.symm hji)) (keep u) hw' ?_
        rw [Array.setIfInBounds_comm _ _ hji, ← Act.put_comm a v u h2]
        exact hh
      obtain ⟨o, ho, hH⟩ := H.2 j (ready_mono hj hji)
      have : o = oj := Option.some.inj (ho.symm.trans hoj)
      subst this
      refine ⟨o, ho, ?_⟩
      rcases hH with ⟨u, hu, hK⟩ | ⟨es', he, hE⟩
      · exact .inl ⟨u, hu.same hex.symm hwa.symm, step _ _ _ hw hK⟩
      · refine .inr ⟨es', he, hwa ▸ hE.1, fun w hw1 => ?_⟩
        have hH := hE.2 w hw1
        rw [hex] at hH
        exact hH.mono fun u w' ⟨L', h5, h6, h7⟩ => ⟨L', h5, h6, step _ _ _ h6 h7⟩
theorem wpAny_of_wpK {As : List Nat} {F : List Blk → Act → Prop} (hF : ∀ L a w, F L a → Own w0 L w → Q .normal a w) :
    ∀ (f : Nat) (listed : Array Bool) (es : List Nat) (L : List Blk) (a : Act) (w : World), Own w0 L w → wpK P w0 ops As Lw F f listed es L a → wpAny P .any ops Q f listed a w
  | 0, listed, es, L, a, w, hw, h => ⟨h.2.1, hF _ _ _ h.2.2 hw⟩
  | f + 1, listed, es, L, a, w, hw, h => by
    refine ⟨fun h0 => absurd h0 h.1, fun i hi => ?_⟩
    obtain ⟨o, ho, hH⟩ := h.2 i hi
    unfold wpOp
    simp only [ho]
    rcases hH with ⟨v, hy, hK⟩ | ⟨es', _, hwt, hE⟩
    · rcases hy with ⟨hwt, hy⟩ | ⟨hwt, rfl⟩
      · rw [if_pos hwt]
        exact .inl (wp_of_calm (hy w hw) fun w' hx => wpAny_of_wpK hF f _ _ _ _ _ (hw.to hx) hK)
      · rw [if_neg (by rw [hwt]; simp)]
        exact wpAny_of_wpK hF f _ _ _ _ _ hw hK
    · rw [if_pos hwt]
      exact .inl (wp_of_hap ((hE w hw).mono fun u w' ⟨L', hw', _, hK⟩ => wpAny_of_wpK hF f _ _ _ _ _ hw' hK))
theorem wpK_of_ec {As : List Nat} {F : List Blk → Act → Prop} : ∀ (es : List Nat) (listed : Array Bool) (L : List Blk) (a : Act), seqE ops es listed = true → EC P w0 ops [] Lw F es L a → wpK P w0 ops As Lw F es.length listed es L a
  | [], listed, L, a, hB, h => ⟨rfl, by simpa [seqE] using hB, h⟩
  | i :: es, listed, L, a, hB, h => by
    simp only [seqE, Bool.and_eq_true, decide_eq_true_eq] at hB
    refine ⟨by rw [hB.1]; simp, fun j hj => ?_⟩
    rw [hB.1] at hj
    have : j = i := by simpa using hj
    subst this
    obtain ⟨o, ho, hE⟩ := h
    exact ⟨o, ho, .inr ⟨es, .inl rfl, Eff.mono hE fun L' u _ hK => wpK_of_ec es _ _ _ hB.2 hK⟩⟩
def AK (P : Program) (ops : Array Oper) (F : List Blk → Act → Prop) : List Nat → List Blk → Act → Prop
  | [], L, a => F L a
  | i :: is, L, a => ∃ o T z, ops[i]? = some o ∧ isNew o = some T ∧ (P.info? T).bind (·.zero) = some z ∧ ∀ b, AK P ops F is (⟨b, z.cells, T⟩ :: L) (a.put o.dst (.pointer (some ⟨b, 0, none⟩)))
theorem AK.perm {F : List Blk → Act → Prop} (hF : ∀ L M a, L.Perm M → F L a → F M a) : ∀ (is : List Nat) (L M : List Blk) (a : Act), L.Perm M → AK P ops F is L a → AK P ops F is M a
  | [], L, M, a, p, h => hF L M a p h
  | i :: is, L, M, a, p, ⟨o, T, z, h1, h2, h3, h⟩ => ⟨o, T, z, h1, h2, h3, fun b => AK.perm hF is _ _ _ (p.cons _) (h b)⟩
/-- All their destinations differ. -/
def dsB (ops : Array Oper) : List Nat → Bool
  | [] => true
  | i :: is => is.all (fun j => match (ops[i]?).bind (·.dst), (ops[j]?).bind (·.dst) with | some d, some e => d != e | _, _ => true) && dsB ops is
theorem AK.pick {F : List Blk → Act → Prop} (hF : ∀ L M a, L.Perm M → F L a → F M a) : ∀ (is : List Nat) (L : List Blk) (a : Act) (i : Nat), i ∈ is → dsB ops is = true → AK P ops F is L a →
    ∃ o T z, ops[i]? = some o ∧ isNew o = some T ∧ (P.info? T).bind (·.zero) = some z ∧ ∀ b, AK P ops F (is.erase i) (⟨b, z.cells, T⟩ :: L) (a.put o.dst (.pointer (some ⟨b, 0, none⟩)))
  | [], _, _, _, h, _, _ => by cases h
  | j :: is, L, a, i, hi, hd, ⟨oj, Tj, zj, h1, h2, h3, h⟩ => by
    by_cases hij : j = i
    · subst hij
      rw [List.erase_cons_head]
      exact ⟨oj, Tj, zj, h1, h2, h3, h⟩
    · have hi' : i ∈ is := by
        rcases List.mem_cons.1 hi with h4 | h4
        · exact absurd h4.symm hij
        · exact h4
      simp only [dsB, Bool.and_eq_true, List.all_eq_true] at hd
      obtain ⟨o, T, z, k1, k2, k3, -⟩ := AK.pick hF is _ _ i hi' hd.2 (h 0)
      refine ⟨o, T, z, k1, k2, k3, fun b => ?_⟩
      rw [List.erase_cons_tail (by simpa using hij)]
      refine ⟨oj, Tj, zj, h1, h2, h3, fun bj => ?_⟩
      obtain ⟨o', T', z', m1, m2, m3, m⟩ := AK.pick hF is _ _ i hi' hd.2 (h bj)
      obtain rfl : o' = o := Option.some.inj (m1.symm.trans k1)
      obtain rfl : T' = T := Option.some.inj (m2.symm.trans k2)
      obtain rfl : z' = z := Option.some.inj (m3.symm.trans k3)
      have hne : ∀ d e, oj.dst = some d → o'.dst = some e → d ≠ e := fun d e hd1 he1 => by
        have := hd.1 i hi'
        simp [h1, k1, hd1, he1] at this
        exact this
      have hput : (a.put oj.dst (.pointer (some ⟨bj, 0, none⟩))).put o'.dst (.pointer (some ⟨b, 0, none⟩)) = (a.put o'.dst (.pointer (some ⟨b, 0, none⟩))).put oj.dst (.pointer (some ⟨bj, 0, none⟩)) := by
        obtain ⟨-, -, d, hd1⟩ := isNew_spec h2
        obtain ⟨-, -, e, he1⟩ := isNew_spec k2
        have hde := hne d e hd1 he1
        rw [hd1, he1]
        simp only [Act.put]
        rw [Array.setIfInBounds_comm _ _ hde]
      have hm := m b
      rw [hput] at hm
      exact AK.perm hF _ _ _ _ (.swap _ _ _) hm
/-- The check: the allocations alone are ready, in whatever order they are taken; behind them the effects are forced. -/
def alB (ops : Array Oper) (es : List Nat) : Nat → List Nat → Array Bool → Bool
  | _, [], listed => seqE ops es listed
  | 0, _ :: _, _ => false
  | f + 1, i :: is, listed => decide (Region.ready .any ops listed = i :: is) && (i :: is).all fun j => alB ops es f ((i :: is).erase j) (listed.setIfInBounds j true)
theorem wpK_of_ak {As : List Nat} {F : List Blk → Act → Prop} {es : List Nat} (hF : ∀ L M a, L.Perm M → F L a → F M a) (hw : ∀ e : Blk, Weak w0 Lw L → Weak w0 Lw (e :: L)) : ∀ (f : Nat) (is : List Nat) (listed : Array Bool) (L : List Blk) (a : Act), alB ops es f is listed = true → dsB ops is = true → (∀ i ∈ is, As.contains i = true) → is.Nodup → Weak w0 Lw L →
    AK P ops (fun L a => EC P w0 ops [] Lw F es L a) is L a → wpK P w0 ops As Lw F (is.length + es.length) listed es L a := by
  have hEC : ∀ (es : List Nat) (L M : List Blk) (a : Act), L.Perm M → EC P w0 ops [] Lw F es L a → EC P w0 ops [] Lw F es M a := fun es L M a p h => by
    cases es with
    | nil => exact hF L M a p h
    | cons i es =>
      obtain ⟨o, ho, h1, h2⟩ := h
      exact ⟨o, ho, h1, fun w hw => h2 w (hw.perm p.symm)⟩
  intro f
  induction f with
  | zero =>
    intro is listed L a hB hd hA hnd hw h
    cases is with
    | nil =>
      rw [List.length_nil, Nat.zero_add]
      exact wpK_of_ec es listed L a hB h
    | cons i is => cases hB
  | succ f ih =>
    intro is listed L a hB hd hA hnd hw h
    cases is with
    | nil =>
      rw [List.length_nil, Nat.zero_add]
      exact wpK_of_ec es listed L a hB h
    | cons i is =>
      simp only [alB, Bool.and_eq_true, decide_eq_true_eq, List.all_eq_true] at hB
      rw [show (i :: is).length + es.length = (is.length + es.length) + 1 by simp only [List.length_cons]; omega]
      refine ⟨by rw [hB.1]; simp, fun j hj => ?_⟩
      rw [hB.1] at hj
      obtain ⟨o, T, z, h1, h2, h3, hk⟩ := AK.pick (hEC es) _ _ _ j hj hd h
      obtain ⟨hop, hgd, d, hdd⟩ := isNew_spec h2
      refine ⟨o, h1, .inr ⟨es, .inr ⟨hA j hj, rfl⟩, by simp [Region.wanted, hgd], fun w hw1 => ?_⟩⟩
      have hrun : (execOp a.eval o).run P w = .ok (.value (.pointer (some ⟨w.heap.size, 0, none⟩))) (w.alloc (.cells z.cells T)) := by
        cases hinf : P.info? T with
        | none => simp [hinf] at h3
        | some ti =>
          have hz' : ti.zero = some z := by simpa [hinf] using h3
          obtain ⟨dst, op, ty, pos, aft, gd⟩ := o
          simp only at hop
          subst hop
          simp [execOp, Instr.alloc, zeroValue, typeInfo, hinf, hz', newVar, newRow]
      rw [hrun]
      have hwk : Weak w0 Lw (⟨w.heap.size, z.cells, T⟩ :: L) := fun w1 h1 => hw w1 (h1.sub (List.sublist_cons_self _ _))
      refine ⟨_, hw1.alloc z.cells T, hwk, ?_⟩
      have hlen : ((i :: is).erase j).length = is.length := by rw [List.length_erase_of_mem hj]; rfl
      have hds : dsB ops ((i :: is).erase j) = true := by
        have key : ∀ l : List Nat, dsB ops l = true → ∀ j, dsB ops (l.erase j) = true := fun l => by
          induction l with
          | nil => intro _ j; rfl
          | cons x l ihl =>
            intro h j
            simp only [dsB, Bool.and_eq_true] at h
            rw [List.erase_cons]
            split
            · exact h.2
            · simp only [dsB, Bool.and_eq_true]
              exact ⟨List.all_eq_true.2 fun y hy => List.all_eq_true.1 h.1 y (List.mem_of_mem_erase hy), ihl h.2 j⟩
        exact key _ hd j
      have := ih ((i :: is).erase j) (listed.setIfInBounds j true) _ _ (hB.2 j hj) hds (fun q hq => hA q (List.mem_of_mem_erase hq)) (hnd.erase j) hwk (hk w.heap.size)
      rw [hlen] at this
      exact this
def drlB (ops : Array Oper) (N : Nat) (P : Program) (hs As es : List Nat) : Bool :=
  Region.noSelect ops && decide (hs.length + (As.length + es.length) = ops.size) && dsB ops As && decide As.Nodup && es.all (fun i => decide (i < ops.size)) &&
    As.all (fun i => match ops[i]? with | some o => dstOk N o.dst | none => false) && lexF ops (alB ops es As.length As) hs (Array.replicate ops.size false)
theorem wpK_of_ahF {l : List Oper} {As : List Nat} {F : List Blk → Act → Prop} {es : List Nat} {G : Act → Prop} {N : Nat} {k : Array Bool → Bool} (hk : ∀ listed a, k listed = true → G a → wpK P w0 l.toArray As Lw F N listed es L a) (hsel : Region.noSelect l.toArray = true) (hw : Weak w0 Lw L) : ∀ (hs : List Nat) (listed : Array Bool) (a : Act), lexF l.toArray k hs listed = true →
    AH P w0 Lw l.toArray G (picks l hs) a → wpK P w0 l.toArray As Lw F (hs.length + N) listed es L a
  | [], listed, a, hB, h => by
    rw [List.length_nil, Nat.zero_add]
    exact hk listed a hB h
  | i :: hs, listed, a, hB, h => by
    simp only [lexF, Bool.and_eq_true] at hB
    obtain ⟨⟨hr, hf⟩, hB'⟩ := hB
    have hr' : i ∈ Region.ready .any l.toArray listed := by simpa using hr
    obtain ⟨_, o, ho, _⟩ := mem_ready.1 hr'
    have ho' : l[i]? = some o := by simpa using ho
    simp only [picks, ho', AH] at h
    obtain ⟨v, hy, h⟩ := h
    rw [show (i :: hs).length + N = (hs.length + N) + 1 by simp only [List.length_cons]; omega]
    exact wpK_first ho (Region.noSelect_spec hsel) _ _ _ _ _ (Region.free_spec ho hf) hr' hy hw (wpK_of_ahF hk hsel hw hs _ _ hB' h)
theorem ak_of_jn {l : List Oper} {K : Env → List Blk → Prop} {F : List Blk → Act → Prop} (hK : ∀ E L a, Rep n E a → K E L → F L a) : ∀ (is : List Nat) (E : Env) (L : List Blk) (a : Act), is.all (fun i => match l.toArray[i]? with | some o => dstOk n o.dst | none => false) = true → Rep n E a → JN P n K (picks l is) E L → AK P l.toArray F is L a
  | [], E, L, a, _, ha, h => hK E L a ha h
  | i :: is, E, L, a, hi, ha, h => by
    simp only [List.all_cons, Bool.and_eq_true] at hi
    cases ho : l[i]? with
    | none => simp [ho] at hi
    | some o =>
      simp only [picks, ho] at h
      obtain ⟨T, z, h1, h2, h3⟩ := h
      have hd : dstOk n o.dst = true := by simpa [ho] using hi.1
      exact ⟨o, T, z, by simpa using ho, h1, h2, fun b => ak_of_jn hK is _ _ _ hi.2 (ha.put _ _ hd) (h3 b)⟩
theorem j_drawL {id : Nat} {l : List Oper} (hs As es : List Nat) (Lw : List Blk) (hm : P.follows .mixedOrders = true := by exact mixed) (hB : drlB l.toArray n P hs As es = true := by kernel_rfl) (hL : Lw.Sublist L := by first | exact List.Sublist.refl _ | exact List.nil_sublist _ | exact sbl | (repeat (first | exact List.Sublist.refl _ | exact List.nil_sublist _ | refine List.Sublist.cons_cons _ ?_ | refine List.Sublist.cons _ ?_ | refine List.Sublist.trans ?_ (List.sublist_append_right _ _))))
    (h : JH P w0 n Lw l.toArray (fun E' => JN P n (fun E1 L1 => JE P w0 n l.toArray Lw (fun E2 L2 => JX w0 n .normal Q E2 L2) (picks l es) E1 L1) (picks l As) E' L) (picks l hs) E) : J P w0 n (.region id l.toArray true) Q E L := by
  refine ⟨fun a w ha hw => ?_⟩
  simp only [drlB, Bool.and_eq_true, decide_eq_true_eq] at hB
  obtain ⟨⟨⟨⟨⟨⟨hsel, hlen⟩, hds⟩, hnd⟩, hes⟩, hAs⟩, hlex⟩ := hB
  refine wp_region_any hm ?_
  have hF : ∀ L M (a : Act), L.Perm M → (∀ w, Own w0 L w → Q .normal a w) → (∀ w, Own w0 M w → Q .normal a w) := fun L M a p h w hw => h w (hw.perm p.symm)
  have H : wpK P w0 l.toArray As Lw (fun L a => ∀ w, Own w0 L w → Q .normal a w) (hs.length + (As.length + es.length)) (Array.replicate l.toArray.size false) es L a :=
    wpK_of_ahF (k := alB l.toArray es As.length As) (G := fun a => AK P l.toArray (fun L a => EC P w0 l.toArray [] Lw (fun L a => ∀ w, Own w0 L w → Q .normal a w) es L a) As L a)
      (fun listed a hb hG => wpK_of_ak hF (L := L) (fun e h w1 h1 => h w1 (h1.sub (List.sublist_cons_self _ _))) As.length As listed L a hb hds (fun i hi => by simpa using hi) hnd (weak_sub hL) hG) hsel (weak_sub hL) hs _ a hlex
      (ah_of_jh (n := n) (fun E' a' ha' hK => ak_of_jn (n := n) (fun E1 L1 a1 ha1 h1 => ec_of_je (n := n) (Lj := Lw) (fun E2 L2 a2 ha2 hx w hw => hx.out a2 w ha2 hw) es E1 L1 a1 (by simpa using hes) (fun _ _ => rfl) ha1 h1) As E' L a' hAs ha' hK) _ _ _ ha h)
  have := wpAny_of_wpK (P := P) (Q := Q) (fun L a w hF hw => hF w hw) _ _ _ _ _ w.drew (hw.to (Ext.drew w)) H
  rw [hlen] at this
  exact this
inductive Tr where
  | fin
  | v (hs : List Nat) (t : Tr)
  | e1 (i : Nat) (t : Tr)
  | e2 (i : Nat) (t : Tr) (j : Nat) (u : Tr)
def trB (ops : Array Oper) : Tr → Array Bool → Bool
  | .fin, listed => (Region.ready .any ops listed).isEmpty
  | .v hs t, listed => lexF ops (trB ops t) hs listed
  | .e1 i t, listed => decide (Region.ready .any ops listed = [i]) && trB ops t (listed.setIfInBounds i true)
  | .e2 i t j u, listed => decide (Region.ready .any ops listed = [i, j]) && (trB ops t (listed.setIfInBounds i true) && trB ops u (listed.setIfInBounds j true))
def trN : Tr → Nat
  | .fin => 0
  | .v hs t => hs.length + trN t
  | .e1 _ t => trN t + 1
  | .e2 _ t _ _ => trN t + 1
/-- All ways have the same length, all places are places of the region. -/
def trC (k : Nat) : Tr → Bool
  | .fin => true
  | .v _ t => trC k t
  | .e1 i t => decide (i < k) && trC k t
  | .e2 i t j u => decide (i < k) && (decide (j < k) && (decide (trN t = trN u) && (trC k t && trC k u)))
def trA (ops : Array Oper) (t : Tr) : Bool := Region.noSelect ops && (decide (trN t = ops.size) && (trC ops.size t && trB ops t (Array.replicate ops.size false)))
def AT (P : Program) (w0 : World) (l : List Oper) (Lw : List Blk) (F : List Blk → Act → Prop) : Tr → List Blk → Act → Prop
  | .fin, L, a => F L a
  | .v hs t, L, a => AH P w0 Lw l.toArray (fun a1 => AT P w0 l Lw F t L a1) (picks l hs) a
  | .e1 i t, L, a => EC P w0 l.toArray [] Lw (fun L1 a1 => AT P w0 l Lw F t L1 a1) [i] L a
  | .e2 i t j u, L, a => EC P w0 l.toArray [] Lw (fun L1 a1 => AT P w0 l Lw F t L1 a1) [i] L a ∧ EC P w0 l.toArray [] Lw (fun L1 a1 => AT P w0 l Lw F u L1 a1) [j] L a
def JT (P : Program) (w0 : World) (n : Nat) (l : List Oper) (Lw : List Blk) (K : Env → List Blk → Prop) : Tr → Env → List Blk → Prop
  | .fin, E, L => K E L
  | .v hs t, E, L => JH P w0 n Lw l.toArray (fun E1 => JT P w0 n l Lw K t E1 L) (picks l hs) E
  | .e1 i t, E, L => JE P w0 n l.toArray Lw (fun E1 L1 => JT P w0 n l Lw K t E1 L1) (picks l [i]) E L
  | .e2 i t j u, E, L => JE P w0 n l.toArray Lw (fun E1 L1 => JT P w0 n l Lw K t E1 L1) (picks l [i]) E L ∧ JE P w0 n l.toArray Lw (fun E1 L1 => JT P w0 n l Lw K u E1 L1) (picks l [j]) E L
theorem at_of_jt {l : List Oper} {K : Env → List Blk → Prop} {F : List Blk → Act → Prop} (hK : ∀ E L a, Rep n E a → K E L → F L a) : ∀ (t : Tr) (E : Env) (L : List Blk) (a : Act), trC l.length t = true → Rep n E a → JT P w0 n l Lw K t E L → AT P w0 l Lw F t L a
  | .fin, E, L, a, _, ha, h => hK E L a ha h
  | .v hs t, E, L, a, hc, ha, h => ah_of_jh (n := n) (fun E1 a1 ha1 h1 => at_of_jt hK t E1 L a1 hc ha1 h1) _ _ _ ha h
  | .e1 i t, E, L, a, hc, ha, h => by
    simp only [trC, Bool.and_eq_true, decide_eq_true_eq] at hc
    exact ec_of_je (n := n) (Lj := Lw) (fun E1 L1 a1 ha1 h1 => at_of_jt hK t E1 L1 a1 hc.2 ha1 h1) [i] E L a (by simpa using hc.1) (fun _ _ => rfl) ha h
  | .e2 i t j u, E, L, a, hc, ha, h => by
    simp only [trC, Bool.and_eq_true, decide_eq_true_eq] at hc
    exact ⟨ec_of_je (n := n) (Lj := Lw) (fun E1 L1 a1 ha1 h1 => at_of_jt hK t E1 L1 a1 hc.2.2.2.1 ha1 h1) [i] E L a (by simpa using hc.1) (fun _ _ => rfl) ha h.1,
      ec_of_je (n := n) (Lj := Lw) (fun E1 L1 a1 ha1 h1 => at_of_jt hK u E1 L1 a1 hc.2.2.2.2 ha1 h1) [j] E L a (by simpa using hc.2.1) (fun _ _ => rfl) ha h.2⟩
theorem wpK_of_at {l : List Oper} {F : List Blk → Act → Prop} (hsel : Region.noSelect l.toArray = true) : ∀ (t : Tr) (listed : Array Bool) (L : List Blk) (a : Act), trC l.length t = true → trB l.toArray t listed = true → Weak w0 Lw L → AT P w0 l Lw F t L a → wpK P w0 l.toArray (List.range l.length) Lw F (trN t) listed [] L a
  | .fin, listed, L, a, _, hB, _, h => ⟨rfl, by simpa [trB] using hB, h⟩
  | .v hs t, listed, L, a, hc, hB, hw, h => wpK_of_ahF (k := trB l.toArray t) (G := fun a1 => AT P w0 l Lw F t L a1) (fun listed a1 hb hG => wpK_of_at hsel t listed L a1 hc hb hw hG) hsel hw hs listed a hB h
  | .e1 i t, listed, L, a, hc, hB, hw, h => by
    simp only [trC, Bool.and_eq_true, decide_eq_true_eq] at hc
    simp only [trB, Bool.and_eq_true, decide_eq_true_eq] at hB
    refine ⟨by rw [hB.1]; simp, fun q hq => ?_⟩
    rw [hB.1, List.mem_singleton] at hq
    subst hq
    obtain ⟨o, ho, hE⟩ := h
    exact ⟨o, ho, .inr ⟨[], .inr ⟨by simpa using hc.1, rfl⟩, Eff.mono hE fun L' u hw' hK => wpK_of_at hsel t _ _ _ hc.2 hB.2 hw' hK⟩⟩
  | .e2 i t j u, listed, L, a, hc, hB, hw, h => by
    simp only [trC, Bool.and_eq_true, decide_eq_true_eq] at hc
    simp only [trB, Bool.and_eq_true, decide_eq_true_eq] at hB
    refine ⟨by rw [hB.1]; simp, fun q hq => ?_⟩
    rw [hB.1] at hq
    rcases List.mem_cons.1 hq with h1 | h1
    · subst h1
      obtain ⟨o, ho, hE⟩ := h.1
      exact ⟨o, ho, .inr ⟨[], .inr ⟨by simpa using hc.1, rfl⟩, Eff.mono hE fun L' u hw' hK => wpK_of_at hsel t _ _ _ hc.2.2.2.1 hB.2.1 hw' hK⟩⟩
    · rw [List.mem_singleton] at h1
      subst h1
      obtain ⟨o, ho, hE⟩ := h.2
      refine ⟨o, ho, .inr ⟨[], .inr ⟨by simpa using hc.2.1, rfl⟩, Eff.mono hE fun L' u' hw' hK => ?_⟩⟩
      show wpK P w0 l.toArray (List.range l.length) Lw F (trN t) _ [] L' _
      rw [hc.2.2.1]
      exact wpK_of_at hsel u _ _ _ hc.2.2.2.2 hB.2.2 hw' hK
theorem j_tree {id : Nat} {l : List Oper} (t : Tr) (Lw : List Blk) (hm : P.follows .mixedOrders = true := by exact mixed) (hB : trA l.toArray t = true := by kernel_rfl) (hL : Lw.Sublist L := by first | exact List.Sublist.refl _ | exact List.nil_sublist _ | exact sbl | (repeat (first | exact List.Sublist.refl _ | exact List.nil_sublist _ | refine List.Sublist.cons_cons _ ?_ | refine List.Sublist.cons _ ?_ | refine List.Sublist.trans ?_ (List.sublist_append_right _ _))))
    (h : JT P w0 n l Lw (fun E2 L2 => JX w0 n .normal Q E2 L2) t E L) : J P w0 n (.region id l.toArray true) Q E L := by
  refine ⟨fun a w ha hw => ?_⟩
  simp only [trA, Bool.and_eq_true, decide_eq_true_eq] at hB
  obtain ⟨hsel, hlen, hc, hlex⟩ := hB
  refine wp_region_any hm ?_
  have hc' : trC l.length t = true := by simpa using hc
  have H := wpK_of_at (P := P) (F := fun L a => ∀ w, Own w0 L w → Q .normal a w) hsel t _ L a hc' hlex (weak_sub hL) (at_of_jt (n := n) (fun E2 L2 a2 ha2 hx w hw => hx.out a2 w ha2 hw) t E L a hc' ha h)
  have := wpAny_of_wpK (P := P) (Q := Q) (fun L a w hF hw => hF w hw) _ _ _ _ _ w.drew (hw.to (Ext.drew w)) H
  rw [hlen] at this
  exact this
end
theorem wkX {P Q : Prop} (k : Q) (h : Wr Q → P := by intro hq; simp only [JT, picks, List.getElem?_cons_succ, List.getElem?_cons_zero]; exact hq.out) : P := h ⟨k⟩
end Go.Vt
/- A cut behind the operations that are being walked. Conditions: none. -/
set_option linter.unusedSimpArgs false
set_option linter.unusedVariables false
set_option maxHeartbeats 2000000
namespace Go.Vt
open Go.RowKit
section
variable {P : Program} {w0 : World} {n : Nat} {ops : Array Oper} {L : List Blk} {E : Env} {Q Q' : Exit → Act → World → Prop}
end
end Go.Vt
/- A slice appended onto a slice, either of which may be none. Conditions: those that each statement names. -/
set_option linter.unusedSimpArgs false
set_option linter.unusedVariables false
set_option maxHeartbeats 2000000
set_option maxRecDepth 100000
namespace Go.Vt
open Go.RowKit Go.Proofs
theorem SlS.like {α : Type} {enc : α → Array Value} {k : Nat} {xs ys : List α} (s : SlS enc k xs) (h : ys = xs) : ∃ s' : SlS enc k ys, vSl s' = vSl s ∧ ∀ T, mS T s' = mS T s := by
  subst h
  exact ⟨s, rfl, fun _ => rfl⟩
theorem app_nothing {P : Program} {S T ty : TypeId} {i : TypeInfo} {p : Option Addr} {n c : Nat} {w : World} (ht : P.underlying S = some (.slice T)) (hi : P.info? T = some i) (h : (p = none ∧ n = 0 ∧ c = 0) ∨ (∃ b, p = some ⟨b, 0, none⟩ ∧ n ≤ c)) :
    (Builtin.append_ #[S, S] ty #[.slice p n c, .slice none 0 0]).run P w = .ok (.slice p n c) w := by
  rcases h with ⟨rfl, rfl, rfl⟩ | ⟨b, rfl, hnc⟩
  · simp [Builtin.append_, run_underlying ht, sizeOf, typeInfo, hi, Builtin.lenOf, Builtin.firstCells]
  · simp [Builtin.append_, run_underlying ht, sizeOf, typeInfo, hi, Builtin.lenOf, Builtin.firstCells, hnc, storeCells]
section
variable {P : Program} {w0 : World} {n : Nat} {ops : Array Oper} {L L1 L2 : List Blk} {E : Env}
variable {Q : Exit → Act → World → Prop} {rest : List Oper}
variable {ty : TypeId} {pos : String} {aft : Array Edge} {gd : Option (Nat × Bool)} {t : Tmp} {x y : Operand}
variable {α : Type} {enc : α → Array Value} {S T T2 : TypeId} {k B : Nat} {xs ys : List α} {z : Value} {zc : Array Value} {s : SlS enc k xs} {u : SlS enc k ys}
variable [hx : IsC (evl E x) (vSl s)] [hy : IsC (evl E y) (vSl u)] [hd : OwnS T s L L1] [h2 : OwnS T2 u L L2] [hT : UndC P S (.slice T)] [hz : ZeroC P T z zc] [he : EncC enc k] [hk : SizeC P T k] [hB : BytesC P T B]
include hx hy hd h2 hT hz he hk hB
theorem app_runV (hzk : zc.size = k) (hb : (xs.length + ys.length) * B ≤ 140737488355328 ∧ xs.length + ys.length ≤ 9223372036854775807) (a : Act) (w : World) (ha : Rep n E a) (hw : Own w0 L w) :
    ∃ s' : SlS enc k (xs ++ ys), ∃ w', (execOp a.eval ⟨some t, .call ⟨.builtin .append, #[x, y], #[S, S]⟩, ty, pos, aft, gd⟩).run P w = .ok (.value (vSl s')) w' ∧ Own w0 (mS T s' ++ L1) w' := by
  have hp := hw.perm hd.out
  have hlen : (xs ++ ys).length = xs.length + ys.length := List.length_append
  rcases u.cases T2 with ⟨rfl, hv2, -⟩ | ⟨b2, c2, sp2, h12, hv2, hm2, hys⟩
  · obtain ⟨s', e1, e2⟩ := s.like (List.append_nil xs)
    obtain ⟨i, hi, -⟩ := info_some hk.out
    refine ⟨s', w, ?_, by rw [e2]; exact hp⟩
    rw [e1]
    have hx' : Env.ev E x = some (vSl s) := by rw [← evl_ev, hx.out]
    have hy' : Env.ev E y = some (.slice none 0 0) := by rw [← evl_ev, hy.out, hv2]
    refine run_appop (d := some t) (pos := pos) (aft := aft) (gd := gd) ha hx' hy' ?_
    rcases s.cases T with ⟨-, hv, -⟩ | ⟨b, c, sp, h1, hv, -, -⟩
    · rw [hv]
      exact app_nothing hT.out hi (.inl ⟨rfl, rfl, rfl⟩)
    · rw [hv]
      exact app_nothing hT.out hi (.inr ⟨b, rfl, h1.1⟩)
  · have hp2 := hw.perm h2.out
    rw [hm2] at hp2
    obtain ⟨fz, hf⟩ : ∃ fz, w.heap[b2]? = some (.cells (row enc ys sp2) T2 fz) := ⟨(0, 0), (hp2.mem _ (.head _)).2⟩
    have hm : 0 < ys.length := List.length_pos_iff.2 hys
    have hne : xs ++ ys ≠ [] := fun h0 => by rw [h0, List.length_nil] at hlen; omega
    have hy' : Env.ev E y = some (.slice (some ⟨b2, 0, none⟩) ys.length c2) := by rw [← evl_ev, hy.out, hv2]
    have hcs : ∀ j v, (rowL enc ys)[j]? = some v → (row enc ys sp2)[0 + j]? = some v := fun j v hv => by
      have hj : j < (rowL enc ys).length := by
        rcases Nat.lt_or_ge j (rowL enc ys).length with h | h
        · exact h
        · rw [List.getElem?_eq_none h] at hv; cases hv
      rw [Nat.zero_add, row, List.getElem?_toArray, List.getElem?_append_left hj]
      exact hv
    rcases s.cases T with ⟨rfl, hv, hm0⟩ | ⟨b, c, sp, h1, hv, hm1, -⟩
    · have hx' : Env.ev E x = some (.slice none 0 0) := by rw [← evl_ev, hx.out, hv]
      rw [hm0, List.nil_append] at hp
      obtain ⟨s, w', hr, ho⟩ := run_app_nil (L := L1) (ty := ty) (b2 := b2) (off2 := 0) (m := ys.length) (c2 := c2) (news := rowL enc ys) hT.out hz.out hz.cells hk.out hB.out hzk hp ⟨T2, fz, hf⟩ (by rw [rowL_len (k := k)]) hcs hm (by simpa using hb.1) (by simpa using hb.2)
      refine ⟨SlS.at_ s.1.1 s.1.2.1 s.1.2.2 (by rw [List.nil_append]; exact s.2) hne, w', ?_, ho⟩
      have h3 := run_appop (d := some t) (pos := pos) (aft := aft) (gd := gd) ha hx' hy' hr
      rw [h3]
      rfl
    · have hx' : Env.ev E x = some (.slice (some ⟨b, 0, none⟩) xs.length c) := by rw [← evl_ev, hx.out, hv]
      rw [hm1] at hp
      obtain ⟨s, w', hr, ho⟩ := run_app (L1 := L1) (ty := ty) (b := b) (len := xs.length) (c := c) (b2 := b2) (off2 := 0) (m := ys.length) (c2 := c2) (xs := rowL enc xs) (sp := sp) (news := rowL enc ys) hT.out hz.out hz.cells hk.out hB.out hzk hp (.refl _) (rowL_len xs) h1.2 h1.1 ⟨T2, fz, hf⟩ (by rw [rowL_len (k := k)]) hcs (row_one ys) hb.1 hb.2
      refine ⟨SlS.at_ s.1.1 s.1.2.1 s.1.2.2 (by rw [hlen]; exact s.2) hne, w', ?_, ?_⟩
      · have h3 := run_appop (d := some t) (pos := pos) (aft := aft) (gd := gd) ha hx' hy' hr
        rw [h3]
        show _ = Result.ok (Next.value (Value.slice _ (xs ++ ys).length _)) w'
        rw [hlen]
      · show Own w0 (⟨s.1.1, row enc (xs ++ ys) s.1.2.2, T⟩ :: L1) w'
        rw [row, rowL_append]
        exact ho
theorem sV (hg : guardB ops E gd = some true) (hd' : Nat.blt t n = true) (hzk : zc.size = k) (hb : (xs.length + ys.length) * B ≤ 140737488355328 ∧ xs.length + ys.length ≤ 9223372036854775807)
    (h : ∀ s' : SlS enc k (xs ++ ys), JO P w0 n ops Q rest ((t, vSl s') :: E) (mS T s' ++ L1)) : JO P w0 n ops Q (⟨some t, .call ⟨.builtin .append, #[x, y], #[S, S]⟩, ty, pos, aft, gd⟩ :: rest) E L :=
  jo_w (L' := SlS enc k (xs ++ ys)) (o := ⟨some t, .call ⟨.builtin .append, #[x, y], #[S, S]⟩, ty, pos, aft, gd⟩) hg hd' (fun s => vSl s) (fun s => mS T s ++ L1)
    (fun a w ha hw => by
      obtain ⟨s, w', hr, ho⟩ := app_runV (hx := hx) (hy := hy) (hd := hd) (h2 := h2) (hT := hT) (hz := hz) (he := he) (hk := hk) (hB := hB) hzk hb a w ha hw
      exact ⟨s, w', .inl hr, ho⟩) h
end
end Go.Vt
/- A region that draws its order: values anywhere, effects in one of many orders; a cut that turns the list of blocks. Conditions: the closed check 'tqA'. -/
set_option linter.unusedSimpArgs false
set_option linter.unusedVariables false
set_option maxHeartbeats 2000000
set_option linter.unusedSectionVars false
namespace Go.Vt
open Go.RowKit
section
variable {P : Program} {w0 : World} {n : Nat} {ops : Array Oper} {L L' Lw : List Blk} {E : Env}
variable {Q : Exit → Act → World → Prop} {v : Value}
inductive Tq where
  | fin
  | v (hs : List Nat) (t : Tq)
  | no
  | br (i : Nat) (t : Tq) (u : Tq)
def Tq.ch : Tq → Bool
  | .no => true
  | .br _ _ _ => true
  | _ => false
end
end Go.Vt
/- Maps, and iterators over them, under the program logic. Conditions: those that each rule names. -/
set_option linter.unusedSimpArgs false
set_option linter.unusedVariables false
set_option maxHeartbeats 2000000
set_option linter.unusedSectionVars false
namespace Go.Vt
open Go.RowKit
open Go.ChangeMaps (setBlock)
section
variable {κ α : Type} [DecidableEq κ]
/-- The entries of a map from which nothing was ever taken. -/
def entL (ek : κ → Value) (ev : α → Value) : Nat → List (κ × α) → List MapEntry
  | _, [] => []
  | i, p :: l => { key := ek p.1, val := ev p.2, born := i } :: entL ek ev (i + 1) l
def mapO (ek : κ → Value) (ev : α → Value) (l : List (κ × α)) : Obj := .map (entL ek ev 0 l).toArray l.length
def itO (b n : Nat) (seen : List Nat) : Obj := .mapIter (some b) n seen.toArray n
def mget : List (κ × α) → κ → Option α
  | [], _ => none
  | p :: l, x => if x = p.1 then some p.2 else mget l x
def mput : List (κ × α) → κ → α → List (κ × α)
  | [], x, v => [(x, v)]
  | p :: l, x, v => if x = p.1 then (x, v) :: l else p :: mput l x v
def fnd (ev : α → Value) : List (κ × α) → κ → Nat → Option (Nat × Value)
  | [], _, _ => none
  | p :: l, x, i => if x = p.1 then some (i, ev p.2) else fnd ev l x (i + 1)
variable {ek : κ → Value} {ev : α → Value}
theorem entL_len : ∀ (l : List (κ × α)) (i : Nat), (entL ek ev i l).length = l.length
  | [], _ => rfl
  | _ :: l, i => congrArg Nat.succ (entL_len l (i + 1))
theorem entL_get : ∀ (l : List (κ × α)) (i j : Nat) (h : j < l.length), (entL ek ev i l)[j]? = some { key := ek l[j].1, val := ev l[j].2, born := i + j }
  | _ :: l, i, 0, _ => rfl
  | _ :: l, i, j + 1, h => by
    have := entL_get l (i + 1) j (by simpa using h)
    simp only [entL, List.getElem?_cons_succ, this, List.getElem_cons_succ, Option.some.injEq, MapEntry.mk.injEq, true_and]
    omega
theorem entL_snoc (p : κ × α) : ∀ (l : List (κ × α)) (i : Nat), entL ek ev i (l ++ [p]) = entL ek ev i l ++ [{ key := ek p.1, val := ev p.2, born := i + l.length }]
  | [], i => rfl
  | q :: l, i => by
    have := entL_snoc p l (i + 1)
    simp only [List.cons_append, entL, this, List.length_cons, List.cons.injEq, true_and]
    rw [show i + 1 + l.length = i + (l.length + 1) by omega]
theorem fnd_none : ∀ {l : List (κ × α)} {x : κ} {i : Nat}, fnd ev l x i = none → mget l x = none ∧ ∀ v, mput l x v = l ++ [(x, v)]
  | [], _, _, _ => ⟨rfl, fun _ => rfl⟩
  | p :: l, x, i, h => by
    simp only [fnd] at h
    split at h
    · cases h
    · rename_i hx
      obtain ⟨h1, h2⟩ := fnd_none h
      exact ⟨by simp [mget, hx, h1], fun v => by simp [mput, hx, h2 v]⟩
theorem fnd_some : ∀ {l : List (κ × α)} {x : κ} {i j : Nat} {u : Value}, fnd ev l x i = some (j, u) → ∃ k, ∃ h : k < l.length, j = i + k ∧ l[k].1 = x ∧ mget l x = some l[k].2 ∧ u = ev l[k].2 ∧ ∀ v, mput l x v = l.set k (x, v)
  | p :: l, x, i, j, u, h => by
    simp only [fnd] at h
    split at h
    · rename_i hx
      simp only [Option.some.injEq, Prod.mk.injEq] at h
      exact ⟨0, by simp, by omega, hx.symm, by simp [mget, hx], h.2.symm, fun v => by simp [mput, hx]⟩
    · rename_i hx
      obtain ⟨k, hk, h1, h2, h3, h4, h5⟩ := fnd_some h
      exact ⟨k + 1, by simpa using hk, by omega, by simpa using h2, by simp [mget, hx, h3], by simpa using h4, fun v => by simp [mput, hx, h5 v]⟩
end
@[reducible] def kA {κ : Type} (enc : κ → Array Value) (z : κ) : Value := .agg (enc z)
class KeyC {κ : Type} [DecidableEq κ] (P : Program) (K : TypeId) (ek : κ → Value) : Prop where
  chk : ∀ (e : Bool) (x : κ) (w : World), (Instr.checkKey e 10000 K (ek x)).run P w = .ok () w
  same : ∀ x : κ, Instr.sameBits 10000 (ek x) (ek x) = true
  find : ∀ {α : Type} (ev : α → Value) (l : List (κ × α)) (x : κ) (w : World), (Instr.findKey K (ek x) (entL ek ev 0 l)).run P w = .ok (fnd ev l x 0) w
section
variable {P : Program} {κ α : Type} [DecidableEq κ] {ek : κ → Value} {ev : α → Value} {K : TypeId}
theorem run_askM (heq : ∀ (x y : κ) (w : World), (Op.equal K (ek x) (ek y)).run P w = .ok (decide (x = y)) w) (x : κ) (w : World) : ∀ (l : List (κ × α)) (i j : Nat), (Instr.findAsking K (ek x) (entL ek ev i l) j).run P w = .ok (fnd ev l x j) w
  | [], _, _ => rfl
  | p :: l, i, j => by
    simp only [entL, Instr.findAsking, fnd, Sem.run_bind, heq, Result.andThen]
    by_cases h : x = p.1
    · simp [h]
    · simp only [h, decide_false, Bool.false_eq_true, if_false]
      exact run_askM heq x w l (i + 1) (j + 1)
theorem find_struct {fs : Array Field} (hu : P.underlying K = some (.struct fs)) (heq : ∀ (x y : κ) (w : World), (Op.equal K (ek x) (ek y)).run P w = .ok (decide (x = y)) w) {α : Type} (ev : α → Value) (l : List (κ × α)) (x : κ) (w : World) : (Instr.findKey K (ek x) (entL ek ev 0 l)).run P w = .ok (fnd ev l x 0) w := by
  have hr := run_askM (ev := ev) heq x w l 0 0
  unfold Instr.findKey
  simp only [Sem.run_bind, run_underlying hu, Result.andThen]
  cases l with
  | nil => rfl
  | cons p l => exact hr
theorem run_eql_of {enc : κ → Array Value} (h : ∀ (x y : κ) (w : World), (binOp .eql K (.agg (enc x)) (.agg (enc y))).run P w = .ok (.bool (decide (x = y))) w) (x y : κ) (w : World) : (Op.equal K (kA enc x) (kA enc y)).run P w = .ok (decide (x = y)) w := by
  have h := h x y w
  simp only [binOp, Sem.run_bind] at h
  cases hq : (Op.equal K (kA enc x) (kA enc y)).run P w with
  | ok r w' =>
    rw [hq] at h
    simp only [Result.andThen, Sem.run_pure, Result.ok.injEq, Value.bool.injEq] at h
    rw [h.1, h.2]
  | halt e w' =>
    rw [hq] at h
    cases h
theorem zip_sameM (n : Nat) : ∀ l : List Value, (∀ v ∈ l, Instr.sameBits n v v = true) → (l.zip l).all (fun p => Instr.sameBits n p.1 p.2) = true
  | [], _ => rfl
  | v :: l, h => by
    rw [List.zip_cons_cons, List.all_cons, h v (.head _), zip_sameM n l fun u hu => h u (.tail _ hu)]
    rfl
/-- Values of one cell, without an inside. -/
def flatV : Value → Bool
  | .bool _ => true
  | .int _ _ => true
  | _ => false
theorem same_flat {enc : κ → Array Value} (h : ∀ x, (enc x).toList.all flatV = true) (x : κ) : Instr.sameBits 10000 (kA enc x) (kA enc x) = true := by
  have h1 : ∀ v ∈ (enc x).toList, Instr.sameBits 9999 v v = true := fun v hv => by
    have := List.all_eq_true.1 (h x) v hv
    cases v <;> simp [flatV] at this <;> simp [Instr.sameBits]
  show ((enc x).size == (enc x).size && ((enc x).toList.zip (enc x).toList).all (fun p => Instr.sameBits 9999 p.1 p.2)) = true
  rw [zip_sameM 9999 _ h1]
  simp
end
section
variable {P : Program} {κ α : Type} [DecidableEq κ] {ek : κ → Value} {ev : α → Value} {K T V : TypeId} {w : World} {b r : Nat} {l : List (κ × α)} {seen : List Nat}
theorem run_lenM (hT : P.underlying T = some (.map K V)) (hb : w.heap[b]? = some (mapO ek ev l)) (ty : TypeId) : (Builtin.len_ #[T] ty #[.map (some b)]).run P w = .ok (.int .i64 l.length) w := by
  have hg : (getObj b).run P w = .ok (.map (entL ek ev 0 l).toArray l.length) w := by simp [getObj, Sem.run, hb, mapO]
  simp [Builtin.len_, Sem.run_bind, run_underlying hT, Result.andThen, hg, goInt, entL_len]
theorem run_lookM (hT : P.underlying T = some (.map K V)) [hk : KeyC P K ek] {z0 : α} (hz : ∀ w, (zeroValue V).run P w = .ok (ev z0) w) (hb : w.heap[b]? = some (mapO ek ev l)) (x : κ) (ok : Bool) :
    (Instr.lookup T (.map (some b)) (ek x) ok).run P w = .ok (if ok then .tuple #[ev ((mget l x).getD z0), .bool (mget l x).isSome] else ev ((mget l x).getD z0)) w := by
  have hg : (getObj b).run P w = .ok (.map (entL ek ev 0 l).toArray l.length) w := by simp [getObj, Sem.run, hb, mapO]
  unfold Instr.lookup
  simp only [Sem.run_bind, run_underlying hT, Result.andThen, hg, Sem.run_pure, hk.chk, hk.find]
  cases hf : fnd ev l x 0 with
  | none =>
    obtain ⟨h1, _⟩ := fnd_none hf
    simp [h1, hz, Sem.run_bind, Result.andThen]
  | some q =>
    obtain ⟨j, u⟩ := q
    obtain ⟨k, hk', h1, h2, h3, h4, _⟩ := fnd_some hf
    simp [h3, h4, Sem.run_bind, Result.andThen]
theorem run_updM (hT : P.underlying T = some (.map K V)) [hk : KeyC P K ek] (hb : w.heap[b]? = some (mapO ek ev l)) (x : κ) (v : α) :
    (Instr.mapUpdate T (.map (some b)) (ek x) (ev v)).run P w = .ok () (setBlock w b (mapO ek ev (mput l x v))) := by
  have hg : (getObj b).run P w = .ok (.map (entL ek ev 0 l).toArray l.length) w := by simp [getObj, Sem.run, hb, mapO]
  have hs : ∀ o, (setObj b o).run P w = .ok () (setBlock w b o) := fun o => by simp [setObj, Sem.run, hb, setBlock, mapO]
  unfold Instr.mapUpdate
  simp only [Sem.run_bind, run_underlying hT, Result.andThen, hg, hk.chk, hk.find]
  cases hf : fnd ev l x 0 with
  | none =>
    obtain ⟨_, h2⟩ := fnd_none hf
    simp only [h2 v, hs, mapO, entL_snoc, Nat.zero_add, List.length_append, List.length_cons, List.length_nil]
    congr 2
    simp
  | some q =>
    obtain ⟨j, u⟩ := q
    obtain ⟨k, hk', h1, h2, h3, h4, h5⟩ := fnd_some hf
    have hj : j = k := by omega
    subst hj
    have hkey : (((entL ek ev 0 l).toArray[j]?).map (·.key)).getD (ek x) = ek x := by
      rw [List.getElem?_toArray, entL_get l 0 j hk']
      simp [h2]
    have hst : (Instr.keyThatStays (ek x) (ek x)).run P w = .ok (ek x) w := by
      unfold Instr.keyThatStays
      rw [if_pos (hk.same x)]
      rfl
    simp only [Sem.run_bind, hkey, hst, Result.andThen, hs, h5 v, mapO, List.length_set]
    congr 3
    apply Array.ext_getElem?
    intro i
    rw [Array.getElem?_modify, List.getElem?_toArray, List.getElem?_toArray]
    rcases Nat.lt_or_ge i l.length with hi | hi
    · rw [entL_get l 0 i hi, entL_get (l.set j (x, v)) 0 i (by simpa using hi)]
      by_cases hij : j = i
      · subst hij
        simp
      · simp [hij, List.getElem_set_ne hij]
    · rw [List.getElem?_eq_none (by rw [entL_len]; exact hi), List.getElem?_eq_none (by rw [entL_len, List.length_set]; exact hi)]
      simp
theorem run_rangeM (hT : P.underlying T = some (.map K V)) (hb : w.heap[b]? = some (mapO ek ev l)) : (Instr.range T (.map (some b))).run P w = .ok (.pointer (some ⟨w.heap.size, 0, none⟩)) (w.alloc (itO b l.length [])) := run_range_map w T K V b _ _ hT hb
theorem run_nextM (hr : w.heap[r]? = some (itO b l.length seen)) (hb : w.heap[b]? = some (mapO ek ev l)) (ty : TypeId) :
    ((∀ i, i < l.length → i ∈ seen) ∧ (Instr.next (.pointer (some ⟨r, 0, none⟩)) false ty).run P w = .ok (.tuple #[.bool false]) w) ∨
    ∃ i, ∃ h : i < l.length, i ∉ seen ∧ ∃ w1 : World, (w1 = w ∨ w1 = w.drew) ∧ (Instr.next (.pointer (some ⟨r, 0, none⟩)) false ty).run P w = .ok (.tuple #[.bool true, ek l[i].1, ev l[i].2]) (setBlock w1 r (itO b l.length (seen ++ [i]))) := by
  have hm : ∀ e ∈ entL ek ev 0 l, ∃ i, ∃ h : i < l.length, e = { key := ek l[i].1, val := ev l[i].2, born := i } := fun e he => by
    obtain ⟨i, hi, rfl⟩ := List.getElem_of_mem he
    rw [entL_len] at hi
    refine ⟨i, hi, ?_⟩
    have := entL_get (ek := ek) (ev := ev) l 0 i hi
    rw [List.getElem?_eq_getElem (by rw [entL_len]; exact hi), Nat.zero_add] at this
    exact Option.some.inj this
  rcases run_next_at (P := P) w ty r b l.length l.length seen.toArray (entL ek ev 0 l).toArray l.length hr hb (fun e he => by obtain ⟨i, hi, rfl⟩ := hm e he; exact hi) (Nat.le_refl _) with ⟨h1, h2⟩ | ⟨e, he, w1, hw1, h2⟩
  · refine .inl ⟨fun i hi => ?_, h2⟩
    have h0 : leftOf (entL ek ev 0 l).toArray seen.toArray = #[] := Array.eq_empty_of_size_eq_zero h1
    unfold leftOf at h0
    rw [Array.filter_eq_empty_iff] at h0
    have := h0 { key := ek l[i].1, val := ev l[i].2, born := i } (by
      have := List.mem_of_getElem? (entL_get (ek := ek) (ev := ev) l 0 i hi)
      simpa using this)
    simpa using this
  · have hl : e ∈ entL ek ev 0 l ∧ e.born ∉ seen := by
      unfold leftOf at he
      simpa using he
    obtain ⟨i, hi, rfl⟩ := hm e hl.1
    refine .inr ⟨i, hi, hl.2, w1, hw1, ?_⟩
    rw [h2]
    congr 2
    simp [itO]
theorem run_entryM {i : Nat} (hr : w.heap[r]? = some (itO b l.length (seen ++ [i]))) (hb : w.heap[b]? = some (mapO ek ev l)) (hi : i < l.length) : (Instr.entry (.pointer (some ⟨r, 0, none⟩))).run P w = .ok (.tuple #[ek l[i].1, ev l[i].2]) w := by
  have hg := entL_get (ek := ek) (ev := ev) l 0 i hi
  rw [Nat.zero_add] at hg
  have hnd : ∀ (l : List (κ × α)) (j : Nat), ((entL ek ev j l).map (·.born)).Nodup ∧ ∀ x ∈ (entL ek ev j l).map (·.born), j ≤ x := by
    intro l
    induction l with
    | nil => intro j; simp [entL]
    | cons p l ih =>
      intro j
      obtain ⟨h1, h2⟩ := ih (j + 1)
      simp only [entL, List.map_cons, List.nodup_cons, List.mem_cons]
      refine ⟨⟨fun hm => ?_, h1⟩, fun x hx => ?_⟩
      · have := h2 _ hm
        omega
      · rcases hx with rfl | hx
        · exact Nat.le_refl _
        · have := h2 x hx; omega
  have h := run_entry_at (P := P) w r b l.length seen.toArray (entL ek ev 0 l).toArray l.length { key := ek l[i].1, val := ev l[i].2, born := i } (by
    rw [hr]
    simp [itO]) hb (List.mem_of_getElem? hg) (hnd l 0).1
  exact h
end
class MemO (b : Nat) (L : List Blk) (o : outParam Obj) (T : outParam TypeId) : Prop where
  out : (⟨b, .obj o, T⟩ : Blk) ∈ L
instance (priority := high) memOHere (b : Nat) (L : List Blk) (o : Obj) (T : TypeId) : MemO b (⟨b, .obj o, T⟩ :: L) o T := ⟨.head _⟩
instance (priority := low) memOThere (b : Nat) (e : Blk) (L : List Blk) (o : Obj) (T : TypeId) [h : MemO b L o T] : MemO b (e :: L) o T := ⟨.tail _ h.out⟩
instance (priority := low) memOSkip (b : Nat) (A L : List Blk) (o : Obj) (T : TypeId) [h : MemO b L o T] : MemO b (A ++ L) o T := ⟨List.mem_append_right _ h.out⟩
class UpdO (b : Nat) (o' : Obj) (L : List Blk) (o : outParam Obj) (T : outParam TypeId) (L' : outParam (List Blk)) : Prop where
  out : Upd b (.obj o) T (.obj o') L L'
instance (priority := high) updOHere (b : Nat) (o' : Obj) (L : List Blk) (o : Obj) (T : TypeId) : UpdO b o' (⟨b, .obj o, T⟩ :: L) o T (⟨b, .obj o', T⟩ :: L) := ⟨.here⟩
instance (priority := low) updOThere (b : Nat) (o' : Obj) (e : Blk) (L L' : List Blk) (o : Obj) (T : TypeId) [h : UpdO b o' L o T L'] : UpdO b o' (e :: L) o T (e :: L') := ⟨.there h.out⟩
theorem upd_app {b : Nat} {cs cs' : Cs} {T : TypeId} {L L' : List Blk} (h : Upd b cs T cs' L L') : ∀ A : List Blk, Upd b cs T cs' (A ++ L) (A ++ L')
  | [] => h
  | _ :: A => .there (upd_app h A)
instance (priority := low) updOSkip (b : Nat) (o' : Obj) (A L L' : List Blk) (o : Obj) (T : TypeId) [h : UpdO b o' L o T L'] : UpdO b o' (A ++ L) o T (A ++ L') := ⟨upd_app h.out A⟩
/-- An object that was there when the call began; one that is known. -/
class FoO (w0 : World) (b : Nat) (o : outParam Obj) : Prop where
  out : w0.heap[b]? = some o
class AtO (w0 : World) (L : List Blk) (b : Nat) (o : outParam Obj) : Prop where
  out : ∀ w, Own w0 L w → w.heap[b]? = some o
instance (priority := high) atOMem (w0 : World) (L : List Blk) (b : Nat) (o : Obj) (T : TypeId) [h : MemO b L o T] : AtO w0 L b o := ⟨fun _ hw => (hw.mem _ h.out).2⟩
instance (priority := low) atOFo (w0 : World) (L : List Blk) (b : Nat) (o : Obj) [h : FoO w0 b o] : AtO w0 L b o := ⟨fun w hw => by
  rw [hw.ext.block b (lt_of_block h.out)]
  exact h.out⟩
class KeyV {κ : Type} (ek : κ → Value) (kv : Value) (k0 : outParam κ) : Prop where
  out : kv = ek k0
instance keyVA {κ : Type} (enc : κ → Array Value) (z : κ) : KeyV (kA enc) (.agg (enc z)) z := ⟨rfl⟩
instance keyVB (z : Bool) : KeyV Value.bool (.bool z) z := ⟨rfl⟩
class ZeV {α : Type} (P : Program) (V : TypeId) (ev : α → Value) (z : outParam α) : Prop where
  out : ∀ w, (zeroValue V).run P w = .ok (ev z) w
theorem zeV_of {α : Type} {P : Program} {V : TypeId} {ev : α → Value} {z : α} (h : (P.info? V).bind (·.zero) = some (ev z)) : ZeV P V ev z := ⟨fun w => by
  cases hi : P.info? V with
  | none => simp [hi] at h
  | some i =>
    have hz : i.zero = some (ev z) := by simpa [hi] using h
    simp [zeroValue, typeInfo, hi, hz]⟩
instance zeVB {P : Program} {V : TypeId} {cs : Array Value} [h : ZeroC P V (.bool false) cs] : ZeV P V Value.bool false := zeV_of h.out
/-- How a type of maps is read. -/
class MapT {κ α : outParam Type} (P : Program) (T : TypeId) (ek : outParam (κ → Value)) (ev : outParam (α → Value)) : Prop where
  out : True
theorem turnedO_set {w : World} {b : Nat} {o : Obj} (h : w.heap[b]? = some o) (o' : Obj) : TurnedO b o' w (setBlock w b o') :=
  ⟨rfl, rfl, rfl, by simp [setBlock], rfl, fun j hj => by simp [setBlock, Array.getElem?_setIfInBounds_ne (Ne.symm hj)], by simp [setBlock, lt_of_block h]⟩
section
variable {P : Program} {w0 : World} {n : Nat} {ops : Array Oper} {L L' : List Blk} {E : Env}
variable {Q : Exit → Act → World → Prop} {rest : List Oper} {v : Value}
variable {d : Option Tmp} {ty : TypeId} {pos : String} {aft : Array Edge} {gd : Option (Nat × Bool)} {t : Tmp}
variable {x y k : Operand} {T T0 K V : TypeId} {b r : Nat}
variable {κ α : Type} [DecidableEq κ] {ek : κ → Value} {ev : α → Value} {l : List (κ × α)} {seen : List Nat}
instance yk_lenM [hx : IsC (evl E x) (.map (some b))] [hb : AtO w0 L b (mapO ek ev l)] [hT : UndC P T (.map K V)] : YlC P w0 n L E (.call ⟨.builtin .len, #[x], #[T]⟩) (.int .i64 l.length) := ⟨fun d ty pos aft gd => ⟨fun a w ha hw => by
  have h2 := run_lenM (P := P) hT.out (hb.out w hw) ty
  unfold calm
  have h1 : ∀ cs : Array Bool, (builtin .len #[T] ty cs #[.map (some b)]).run P w = .ok (.value (.int .i64 l.length)) w := fun cs => by
    show Sem.run P (do pure (Next.value (← Builtin.len_ #[T] ty #[.map (some b)])) : Sem Next) w = _
    rw [Sem.run_bind, h2]
    rfl
  have e : (execOp a.eval ⟨d, .call ⟨.builtin .len, #[x], #[T]⟩, ty, pos, aft, gd⟩).run P w = .ok (.value (.int .i64 l.length)) w := by
    simp only [execOp, resolve, Sem.run_bind, Sem.run_pure, Result.andThen, invoke, List.map_toArray, List.map_cons, List.map_nil, ha.ev isE]
    exact h1 _
  rw [e]
  exact ⟨rfl, Ext.refl _⟩⟩⟩
theorem yl_lookM {kv : Value} {k0 : κ} {z0 : α} [hx : IsC (evl E x) (.map (some b))] [hy : IsC (evl E y) kv] [hb : AtO w0 L b (mapO ek ev l)] [hT : UndC P T (.map K V)] [hK : KeyC P K ek] [hk : KeyV ek kv k0] [hz : ZeV P V ev z0] (ok : Bool) :
    Yl P w0 n L E ⟨d, .lookup T x y ok, ty, pos, aft, gd⟩ (if ok then .tuple #[ev ((mget l k0).getD z0), .bool (mget l k0).isSome] else ev ((mget l k0).getD z0)) :=
  yl_run (fun _ => Instr.lookup T (.map (some b)) (ek k0) ok) (fun a ha => by
    have e1 := ha.ev (isE (h := hx))
    have e2 := ha.ev (isE (h := hy))
    simp only [execOp, e1, e2, hk.out]) (fun a w _ hw => run_lookM hT.out hz.out (hb.out w hw) k0 ok)
instance yk_look2 {kv : Value} {k0 : κ} {z0 : α} [hx : IsC (evl E x) (.map (some b))] [hy : IsC (evl E y) kv] [hb : AtO w0 L b (mapO ek ev l)] [hT : UndC P T (.map K V)] [hK : KeyC P K ek] [hk : KeyV ek kv k0] [hz : ZeV P V ev z0] : YlC P w0 n L E (.lookup T x y true) (.tuple #[ev ((mget l k0).getD z0), .bool (mget l k0).isSome]) := ⟨fun _ _ _ _ _ => yl_lookM true⟩
instance yk_look1 {kv : Value} {k0 : κ} {z0 : α} [hx : IsC (evl E x) (.map (some b))] [hy : IsC (evl E y) kv] [hb : AtO w0 L b (mapO ek ev l)] [hT : UndC P T (.map K V)] [hK : KeyC P K ek] [hk : KeyV ek kv k0] [hz : ZeV P V ev z0] : YlC P w0 n L E (.lookup T x y false) (ev ((mget l k0).getD z0)) := ⟨fun _ _ _ _ _ => yl_lookM false⟩
/-- The entry that came last. -/
instance ys_entry [Inhabited (κ × α)] {m i : Nat} [hx : IsC (evl E x) (.pointer (some ⟨r, 0, none⟩))] [hr : AtO w0 L r (itO b m (seen ++ [i]))] [hb : AtO w0 L b (mapO ek ev l)] : YsC P w0 n L E (.entry x) (.tuple #[ek (gi l (i : Int)).1, ev (gi l (i : Int)).2]) (l.length = m ∧ i < m) := ⟨fun hs _ _ _ _ _ =>
  yl_run (fun _ => Instr.entry (.pointer (some ⟨r, 0, none⟩))) (fun a ha => by
    have e1 := ha.ev (isE (h := hx))
    simp only [execOp, e1]) (fun a w _ hw => by
    obtain ⟨rfl, hi⟩ := hs
    rw [gi_nat hi]
    exact run_entryM (hr.out w hw) (hb.out w hw) hi)⟩
instance bin_nilP {a : Addr} {e : TypeId} [hT : UndC P T (.pointer e)] : BinC P .eql T (.pointer (some a)) (.pointer none) (.bool false) := ⟨fun _ _ _ => by simp [eqGuard], fun w => by
  have h : ∀ d, (Op.equalIn (d + 1) T (.pointer (some a)) (.pointer none)).run P w = .ok false w := fun d => by
    unfold Op.equalIn
    simp only [Sem.run_bind, run_underlying hT.out, Result.andThen]
    rfl
  have h2 : (Op.equal T (.pointer (some a)) (.pointer none)).run P w = .ok false w := h 9999
  show (do pure (Value.bool (← Op.equal T (.pointer (some a)) (.pointer none))) : Sem Value).run P w = _
  rw [Sem.run_bind, h2]
  rfl⟩
theorem sMm [hm : MapT P T ek ev] (hg : guardB ops E gd = some true) (hd : Nat.blt t n = true) (h : ∀ b, JO P w0 n ops Q rest ((t, .map (some b)) :: E) (⟨b, .obj (mapO ek ev []), T⟩ :: L)) : JO P w0 n ops Q (⟨some t, .makeMap T none, ty, pos, aft, gd⟩ :: rest) E L :=
  jo_w (L' := Nat) (o := ⟨some t, .makeMap T none, ty, pos, aft, gd⟩) hg hd (fun b => .map (some b)) (fun b => ⟨b, .obj (mapO ek ev []), T⟩ :: L) (fun a w ha hw => ⟨w.heap.size, w.alloc (.map #[] 0), .inl (by simp [execOp, Instr.makeMap, newObj, Sem.run]), hw.allocO _ _⟩) h
theorem sRg [hx : IsC (evl E x) (.map (some b))] [hb : AtO w0 L b (mapO ek ev l)] [hT : UndC P T (.map K V)] (hg : guardB ops E gd = some true) (hd : Nat.blt t n = true) (h : ∀ r, JO P w0 n ops Q rest ((t, .pointer (some ⟨r, 0, none⟩)) :: E) (⟨r, .obj (itO b l.length []), T⟩ :: L)) : JO P w0 n ops Q (⟨some t, .range T x, ty, pos, aft, gd⟩ :: rest) E L :=
  jo_w (L' := Nat) (o := ⟨some t, .range T x, ty, pos, aft, gd⟩) hg hd (fun r => .pointer (some ⟨r, 0, none⟩)) (fun r => ⟨r, .obj (itO b l.length []), T⟩ :: L) (fun a w ha hw => ⟨w.heap.size, w.alloc (itO b l.length []), .inl (by
    have e1 := ha.ev (isE (h := hx))
    simp only [execOp, e1, Sem.run_bind, run_rangeM hT.out (hb.out w hw), Result.andThen, Sem.run_pure]), hw.allocO _ _⟩) h
theorem sMu {kv yv : Value} {k0 : κ} {v0 : α} [hx : IsC (evl E x) (.map (some b))] [hk : IsC (evl E k) kv] [hy : IsC (evl E y) yv] [hm : MemO b L (mapO ek ev l) T0] [hT : UndC P T (.map K V)] [hK : KeyC P K ek] [hkv : KeyV ek kv k0] [hyv : KeyV ev yv v0] [hu : UpdO b (mapO ek ev (mput l k0 v0)) L (mapO ek ev l) T0 L'] (hg : guardB ops E gd = some true)
    (h : JO P w0 n ops Q rest E L') : JO P w0 n ops Q (⟨none, .mapUpdate T x k y, ty, pos, aft, gd⟩ :: rest) E L :=
  jo_w (L' := Unit) (o := ⟨none, .mapUpdate T x k y, ty, pos, aft, gd⟩) hg rfl (fun _ => undef) (fun _ => L') (fun a w ha hw => by
    have e1 := ha.ev (isE (h := hx))
    have e2 := ha.ev (isE (h := hk))
    have e3 := ha.ev (isE (h := hy))
    have hb := (hw.mem _ hm.out).2
    refine ⟨(), _, .inr ⟨?_, rfl⟩, hw.turnO hu.out (turnedO_set hb (mapO ek ev (mput l k0 v0)))⟩
    simp only [execOp, e1, e2, e3, hkv.out, hyv.out, Sem.run_bind, run_updM hT.out hb, Result.andThen, Sem.run_pure]) (fun _ => h)
/-- The next entry, whichever; or none is left. -/
theorem sNx {m : Nat} {L1 : Nat → List Blk} [hx : IsC (evl E x) (.pointer (some ⟨r, 0, none⟩))] [hr : MemO r L (itO b m seen) T0] [hb : AtO w0 L b (mapO ek ev l)] [hu : ∀ i, UpdO r (itO b m (seen ++ [i])) L (itO b m seen) T0 (L1 i)] (hg : guardB ops E gd = some true) (hd : Nat.blt t n = true) (hl : l.length = m)
    (h0 : (∀ i, i < m → i ∈ seen) → JO P w0 n ops Q rest ((t, .tuple #[.bool false]) :: E) L)
    (h1 : ∀ i, (hi : i < l.length) → i ∉ seen → JO P w0 n ops Q rest ((t, .tuple #[.bool true, ek l[i].1, ev l[i].2]) :: E) (L1 i)) : JO P w0 n ops Q (⟨some t, .next x false, ty, pos, aft, gd⟩ :: rest) E L := by
  subst hl
  refine jo_w (L' := { s : Option Nat // (s = none ∧ ∀ i, i < l.length → i ∈ seen) ∨ ∃ i, s = some i ∧ i < l.length ∧ i ∉ seen }) (o := ⟨some t, .next x false, ty, pos, aft, gd⟩) hg hd
    (fun s => match s.1 with | none => .tuple #[.bool false] | some i => if h : i < l.length then .tuple #[.bool true, ek l[i].1, ev l[i].2] else undef)
    (fun s => match s.1 with | none => L | some i => L1 i) (fun a w ha hw => ?_) (fun s => ?_)
  · have e1 := ha.ev (isE (h := hx))
    have hr1 := (hw.mem _ hr.out).2
    rcases run_nextM (P := P) hr1 (hb.out w hw) ty with ⟨h2, h3⟩ | ⟨i, hi, hs, w1, hw1, h3⟩
    · exact ⟨⟨none, .inl ⟨rfl, h2⟩⟩, w, .inl (by simp only [execOp, e1, Sem.run_bind, h3, Result.andThen, Sem.run_pure]), hw⟩
    · refine ⟨⟨some i, .inr ⟨i, rfl, hi, hs⟩⟩, setBlock w1 r (itO b l.length (seen ++ [i])), .inl (by simp only [execOp, e1, Sem.run_bind, h3, Result.andThen, Sem.run_pure, dif_pos hi]), ?_⟩
      have hw' : Own w0 L w1 := by rcases hw1 with rfl | rfl; exact hw; exact hw.to (Ext.drew w)
      exact hw'.turnO (hu i).out (turnedO_set (hw'.mem _ hr.out).2 _)
  · obtain ⟨s, h2 | ⟨i, rfl, hi, hs⟩⟩ := s
    · obtain ⟨rfl, h2⟩ := h2
      exact h0 h2
    · simp only [dif_pos hi]
      exact h1 i hi hs
end
end Go.Vt
/- Lists of integers in the order of a dictionary; sorted lists with the same elements. Conditions: those that each statement names. -/
set_option linter.unusedSimpArgs false
set_option linter.unusedVariables false
set_option maxHeartbeats 2000000
namespace Go.Vt
def lexC : List Int → List Int → Int
  | [], [] => 0
  | [], _ :: _ => -1
  | _ :: _, [] => 1
  | a :: a2, b :: bs => if a < b then -1 else if b < a then 1 else lexC a2 bs
theorem lexC_eq : ∀ {a b : List Int}, lexC a b = 0 → a = b
  | [], [], _ => rfl
  | [], _ :: _, h => by simp [lexC] at h
  | _ :: _, [], h => by simp [lexC] at h
  | a :: a2, b :: bs, h => by
    simp only [lexC] at h
    split at h
    · cases h
    · split at h
      · cases h
      · rw [lexC_eq h, show a = b by omega]
theorem lexC_anti : ∀ (a b : List Int), lexC b a = - lexC a b
  | [], [] => rfl
  | [], _ :: _ => rfl
  | _ :: _, [] => rfl
  | a :: a2, b :: bs => by
    simp only [lexC]
    have := lexC_anti a2 bs
    split <;> split <;> first | omega | (split <;> omega) | skip
    all_goals (try split) <;> omega
theorem lexC_tr : ∀ {a b c : List Int}, lexC a b ≤ 0 → lexC b c ≤ 0 → lexC a c ≤ 0
  | [], _, [], _, _ => by simp [lexC]
  | [], _, _ :: _, _, _ => by simp [lexC]
  | _ :: _, [], _, h, _ => by simp [lexC] at h
  | _ :: _, _ :: _, [], _, h => by simp [lexC] at h
  | a :: a2, b :: bs, c :: cs, h1, h2 => by
    simp only [lexC] at h1 h2 ⊢
    have ih := lexC_tr (a := a2) (b := bs) (c := cs)
    split at h1
    · split at h2
      · rw [if_pos (by omega)]; decide
      · split at h2
        · exact absurd h2 (by decide)
        · rw [if_pos (by omega)]; decide
    · split at h1
      · exact absurd h1 (by decide)
      · split at h2
        · rw [if_pos (by omega)]; decide
        · split at h2
          · exact absurd h2 (by decide)
          · rw [if_neg (by omega), if_neg (by omega)]
            exact ih h1 h2
/-- Two sorted lists with the same elements are equal. -/
theorem sorted_uniq {α : Type} {le : α → α → Prop} (anti : ∀ x y, le x y → le y x → x = y) : ∀ {l l' : List α}, l.Perm l' → l.Pairwise le → l'.Pairwise le → l = l'
  | [], l', hp, _, _ => (List.nil_perm.1 hp).symm
  | a :: l, [], hp, _, _ => absurd (List.perm_nil.1 hp) (by simp)
  | a :: l, b :: l', hp, h, h' => by
    have e : a = b := by
      have ha : a ∈ b :: l' := hp.subset (.head _)
      have hb : b ∈ a :: l := hp.symm.subset (.head _)
      rcases List.mem_cons.1 ha with h1 | h1
      · exact h1
      · rcases List.mem_cons.1 hb with h2 | h2
        · exact h2.symm
        · exact anti _ _ ((List.pairwise_cons.1 h).1 _ h2) ((List.pairwise_cons.1 h').1 _ h1)
    subst e
    rw [sorted_uniq anti (List.Perm.cons_inv hp) (List.pairwise_cons.1 h).2 (List.pairwise_cons.1 h').2]
end Go.Vt
/- The order of reports; what is within a range. Conditions: those that each statement names. -/
set_option linter.unusedSimpArgs false
set_option linter.unusedVariables false
set_option maxHeartbeats 2000000
set_option maxRecDepth 100000
namespace Go.Vt
open Go.RowKit Go.Proofs
section
variable {P : Program} {w0 : World} {n : Nat} {L : List Blk} {E : Env} {x : Operand} {T : TypeId}
/-- A whole array as a slice. -/
instance yk_sliceA {N e s b : Nat} [hx : IsC (evl E x) (.pointer (some ⟨b, 0, none⟩))] [h : UndC P T (.array N e)] [hs : SizeC P e s] : YlC P w0 n L E (.slice T x none none none) (.slice (some ⟨b, 0, none⟩) N N) :=
  ⟨fun _ _ _ _ _ => yl_run (fun _ => Instr.sliceAt T (.pointer (some ⟨b, 0, none⟩)) none none none) (fun a ha => by
    have e1 := ha.ev (isE (h := hx))
    simp only [execOp, e1, Option.map_none]) (fun a w _ _ => by
    simp [Instr.sliceAt, run_underlying h.out, Instr.sureAddr, Instr.sliceBounds, Instr.sliceBound, asIntOf, run_sizeOf hs.out, Addr.add])⟩
end
instance sp_bitsLen (x : Nat) : SpecC Tryz.prog 156 [.int .u64 (x : Int)] (.int .i64 (Lib.bitLen x)) ((x : Int) ≤ 18446744073709551615) := ⟨fun hp w => (Tryz.bits_Len x w (by omega) hp).mono fun e w' ⟨h1, h2⟩ => by
  subst h2
  exact ⟨h1, Ext.refl _⟩⟩
/-- The fields of a report in the order in which they are compared. -/
def fldR (r : api_Report) : List Int := [r.Object, r.Seq, r.Version, r.Time, r.X, r.Y, r.Device, if r.Cancel then 1 else 0]
instance bd_8 (a b c d e f g h : Int) : BdC Tryz.prog 216 [(0, .int .i64 a), (1, .int .i64 b), (2, .int .i64 c), (3, .int .i64 d), (4, .int .i64 e), (5, .int .i64 f), (6, .int .i64 g), (7, .int .i64 h)] (.agg (nums .i64 [a, b, c, d, e, f, g, h])) := ⟨fun w => by kernel_rfl⟩
instance cs_8 (a b c d e f g h : Int) : CsC (nums .i64 [a, b, c, d, e, f, g, h]) 8 := ⟨by kernel_rfl, by kernel_rfl⟩
instance cs_fld (r : api_Report) : CsC (nums .i64 (fldR r)) 8 := ⟨by kernel_rfl, by kernel_rfl⟩
instance ld_8 (a b c d e f g h : Int) : LdC Tryz.prog 216 (nums .i64 [a, b, c, d, e, f, g, h]) 0 (.agg (nums .i64 [a, b, c, d, e, f, g, h])) := ⟨ldv_agg 8 (by kernel_rfl) (by kernel_rfl) (by kernel_rfl)⟩
instance sp_fields (r : api_Report) : SpecC Tryz.prog 129 [.agg (e_api_Report r)] (.agg (nums .i64 (fldR r))) True := ⟨fun _ w => by
  obtain ⟨a1, a2, a3, a4, a5, a6, a7, c⟩ := r
  cases c
  · show Calls _ _ _ _ (Ret (.agg (nums .i64 [a1, a2, a3, a5, a6, a7, a4, 0])) w)
    refine fn_intro Tryz.func129 rfl Tryz.ntmps129 rfl ?_
    repeat (refine wkB ?_; try intro _)
    exact wx_cell rfl rfl (fun w hw => ret_ok hw)
  · show Calls _ _ _ _ (Ret (.agg (nums .i64 [a1, a2, a3, a5, a6, a7, a4, 1])) w)
    refine fn_intro Tryz.func129 rfl Tryz.ntmps129 rfl ?_
    repeat (refine wkB ?_; try intro _)
    exact wx_cell rfl rfl (fun w hw => ret_ok hw)⟩
theorem compareInt_cases (a b : Int) : (a < b ∧ Lib.compareInt a b = -1) ∨ (b < a ∧ Lib.compareInt a b = 1) ∨ (a = b ∧ Lib.compareInt a b = 0) := by
  unfold Lib.compareInt
  split
  · exact .inl ⟨by assumption, rfl⟩
  · split
    · exact .inr (.inl ⟨by omega, rfl⟩)
    · exact .inr (.inr ⟨by omega, rfl⟩)
theorem lexC_cons (a b : Int) (ps qs : List Int) : lexC (a :: ps) (b :: qs) = if Lib.compareInt a b = 0 then lexC ps qs else Lib.compareInt a b := by
  simp only [lexC]
  rcases compareInt_cases a b with ⟨h1, h2⟩ | ⟨h1, h2⟩ | ⟨h1, h2⟩
  · rw [if_pos h1, h2]; rfl
  · rw [if_neg (by omega), if_pos h1, h2]; rfl
  · rw [if_neg (by omega), if_neg (by omega), h2]; rfl
theorem lexC_drop {xs ys : List Int} {m : Nat} (h1 : m < xs.length) (h2 : m < ys.length) : lexC (xs.drop m) (ys.drop m) = if Lib.compareInt (gi xs (m : Int)) (gi ys (m : Int)) = 0 then lexC (xs.drop (m + 1)) (ys.drop (m + 1)) else Lib.compareInt (gi xs (m : Int)) (gi ys (m : Int)) := by
  rw [List.drop_eq_getElem_cons h1, List.drop_eq_getElem_cons h2, lexC_cons, gi_nat h1, gi_nat h2]
theorem cmpL_spec (b1 c1 b2 c2 n : Nat) (xs ys : List Int) (T1 T2 : TypeId) (h1 : xs.length = n) (h2 : ys.length = n) (hl : n ≤ 1099511627776) (w : World) (hw1 : ∃ fz, w.heap[b1]? = some (.cells (row (eI .i64) xs []) T1 fz)) (hw2 : ∃ fz, w.heap[b2]? = some (.cells (row (eI .i64) ys []) T2 fz)) :
    Calls Tryz.prog 130 [.slice (some ⟨b1, 0, none⟩) n c1, .slice (some ⟨b2, 0, none⟩) n c2].toArray w (Ret (.int .i64 (lexC xs ys)) w) := by
  have f1 := FoC.mk hw1
  have f2 := FoC.mk hw2
  refine fn_intro Tryz.func130 rfl Tryz.ntmps130 rfl ?_
  repeat (refine wkB ?_; try intro _)
  refine j_loop (S := Nat) (fun m => m ≤ n ∧ lexC xs ys = lexC (xs.drop m) (ys.drop m)) (fun m => [(0, .slice (some ⟨b1, 0, none⟩) n c1), (1, .slice (some ⟨b2, 0, none⟩) n c2), (9, .slice (some ⟨b1, 0, none⟩) n c1), (10, .int .i64 n), (11, .int .i64 (m : Nat))]) (fun _ => []) (fun m => n - m) 0 ⟨Nat.zero_le _, rfl⟩ sbB slB (fun m hm => ?_)
  obtain ⟨hm, ho⟩ := hm
  repeat (refine wkB ?_; try intro _)
  refine j_cond rfl (fun h => ?_) (fun h => ?_)
  · have hlt : m < n := by have := of_decide_eq_true h; omega
    rw [lexC_drop (by omega) (by omega)] at ho
    repeat (refine wkB ?_; try intro _)
    simp only [decide_eq_false (show ¬ (n : Int) ≤ (m : Int) by omega)]
    repeat (refine wkB ?_; try intro _)
    by_cases h0 : Lib.compareInt (gi xs (m : Int)) (gi ys (m : Int)) = 0
    · rw [if_pos h0] at ho
      simp only [decide_eq_true h0, Bool.not_true]
      repeat (first | (refine wkB ?_; try intro _) | (refine sC rfl rfl ?_ ?_; focus (exact ⟨by omega, by omega⟩)) | (refine sN rfl rfl ?_ ?_; (focus (exact ⟨by omega, by omega⟩)); intro _; (try simp only [List.cons_append, List.nil_append, List.append_nil])))
      exact jx_loop (m + 1) ⟨hlt, ho⟩ sbB slB (by omega)
    · rw [if_neg h0] at ho
      simp only [decide_eq_false h0, Bool.not_false]
      repeat (refine wkB ?_; try intro _)
      rw [ho]
      exact jx_ret_tmp rfl rfl (fun w hw => ret_ok hw)
  · have hge : m = n := by have := of_decide_eq_false h; omega
    subst hge
    have e : lexC (xs.drop m) (ys.drop m) = 0 := by
      rw [List.drop_eq_nil_of_le (by omega), List.drop_eq_nil_of_le (by omega)]
      rfl
    rw [e] at ho
    repeat (refine wkB ?_; try intro _)
    simp only [decide_eq_false (show ¬ (m : Int) < (m : Int) by omega)]
    repeat (refine wkB ?_; try intro _)
    rw [ho]
    exact jx_ret_tmp rfl rfl (fun w hw => ret_ok hw)
instance sm_cmpL (w0 : World) (L : List Blk) (b1 c1 b2 c2 n : Nat) (xs ys : List Int) (T1 T2 : TypeId) [k1 : AtC w0 L b1 (row (eI .i64) xs []) T1] [k2 : AtC w0 L b2 (row (eI .i64) ys []) T2] : SpecM Tryz.prog w0 L 130 [.slice (some ⟨b1, 0, none⟩) n c1, .slice (some ⟨b2, 0, none⟩) n c2] (.int .i64 (lexC xs ys)) (xs.length = n ∧ ys.length = n ∧ n ≤ 1099511627776) :=
  ⟨fun hp w hw => cmpL_spec b1 c1 b2 c2 n xs ys T1 T2 hp.1 hp.2.1 hp.2.2 w (k1.out w hw) (k2.out w hw)⟩
abbrev RpOk (_ : api_Report) : Prop := True
def cmpRp (a b : api_Report) : Int := lexC (fldR a) (fldR b)
instance sp_cmpRp (a b : api_Report) : SpecC Tryz.prog 92 [.agg (e_api_Report a), .agg (e_api_Report b)] (.int .i64 (cmpRp a b)) (RpOk a ∧ RpOk b) := ⟨fun _ w => by
  refine fn_intro Tryz.func92 rfl Tryz.ntmps92 rfl ?_
  repeat (refine wkB ?_; try intro _)
  rename_i b2 b3
  (refine j_drawL [0, 1, 2, 3] [4, 5] [6, 7] (_) (h := ?_); refine wkI ?_)
  (repeat (refine wkH ?_))
  repeat (refine wkT ?_; try intro _)
  repeat (refine wkB ?_; try intro _)
  rw [nums_row .i64 (fldR a), nums_row .i64 (fldR b)]
  (refine jD 4 4 (h := ?_); (repeat (first | refine wkH ?_ | (refine tC rfl rfl ?_ ?_; focus (exact ⟨rfl, rfl, by decide⟩)))); refine jh_nil ?_; (repeat (refine wn_new ?_; intro _)); refine jn_nil ?_)
  repeat (refine wkB ?_; try intro _)
  exact jx_ret_tmp rfl rfl (fun w hw => ret_ok hw)⟩
end Go.Vt
/- Valid reports. Conditions: those that each statement names. -/
set_option linter.unusedSimpArgs false
set_option linter.unusedVariables false
set_option maxHeartbeats 2000000
set_option maxRecDepth 100000
namespace Go.Vt
open Go.RowKit Go.Proofs
instance call_idxI : CallC Tryz.prog 152 := ⟨by kernel_rfl⟩
instance sm_within1 (w0 : World) (L : List Blk) (b1 b2 : Nat) (lo hi z : Int) (T1 T2 : TypeId) [k1 : AtC w0 L b1 #[.int .i64 lo] T1] [k2 : AtC w0 L b2 #[.int .i64 hi] T2] : SpecM Tryz.prog w0 L 124 [.int .i64 z, .pointer (some ⟨b1, 0, none⟩), .pointer (some ⟨b2, 0, none⟩)] (.bool false) (lo ≤ z ∧ z ≤ hi) := ⟨fun hp w hw => by
  have f1 := FoC.mk (k1.out w hw)
  have f2 := FoC.mk (k2.out w hw)
  refine fn_intro Tryz.func124 rfl Tryz.ntmps124 rfl ?_
  repeat (refine wkB ?_; try intro _)
  simp only [decide_eq_false (show ¬ z < lo by omega)]
  repeat (refine wkB ?_; try intro _)
  simp only [decide_eq_false (show ¬ hi < z by omega)]
  repeat (refine wkB ?_; try intro _)
  exact jx_ret_tmp rfl rfl (fun w hw => ret_ok hw)⟩
theorem withinI_spec (b c n b1 b2 : Nat) (xs : List Int) (lo hi : Int) (T T1 T2 : TypeId) (hn : xs.length = n) (hl : n ≤ 1099511627776) (hin : ∀ z ∈ xs, lo ≤ z ∧ z ≤ hi) (w : World) (hw : ∃ fz, w.heap[b]? = some (.cells (row (eI .i64) xs []) T fz)) (hw1 : ∃ fz, w.heap[b1]? = some (.cells #[.int .i64 lo] T1 fz)) (hw2 : ∃ fz, w.heap[b2]? = some (.cells #[.int .i64 hi] T2 fz)) :
    Calls Tryz.prog 152 [.slice (some ⟨b, 0, none⟩) n c, .func (.func 124) #[] [.pointer (some ⟨b1, 0, none⟩), .pointer (some ⟨b2, 0, none⟩)].toArray].toArray w (Ret (.int .i64 (-1)) w) := by
  have f0 := FoC.mk hw
  have f1 := FoC.mk hw1
  have f2 := FoC.mk hw2
  refine fn_intro Tryz.func152 rfl Tryz.ntmps152 rfl ?_
  repeat (refine wkB ?_; try intro _)
  refine j_loop (S := Nat) (fun m => m ≤ n) (fun m => [(0, .slice (some ⟨b, 0, none⟩) n c), (1, .func (.func 124) #[] [.pointer (some ⟨b1, 0, none⟩), .pointer (some ⟨b2, 0, none⟩)].toArray), (7, .int .i64 n), (8, .int .i64 (m : Nat))]) (fun _ => []) (fun m => n - m) 0 (Nat.zero_le _) sbB slB (fun m hm => ?_)
  repeat (refine wkB ?_; try intro _)
  refine j_cond rfl (fun h => ?_) (fun h => ?_)
  · have hlt : m < n := by have := of_decide_eq_true h; omega
    have hz := hin (gi xs (m : Int)) (by rw [gi_nat (by omega)]; exact List.getElem_mem _)
    repeat (first | (refine wkB ?_; try intro _) | (refine sC rfl rfl ?_ ?_; focus (exact hz)) | (refine sN rfl rfl ?_ ?_; (focus (exact hz)); intro _; (try simp only [List.cons_append, List.nil_append, List.append_nil])))
    exact jx_loop (m + 1) hlt sbB slB (by omega)
  · repeat (refine wkB ?_; try intro _)
    exact jx_ret_tmp rfl rfl (fun w hw => ret_ok hw)
instance sm_withinI (w0 : World) (L : List Blk) (b c n b1 b2 : Nat) (xs : List Int) (lo hi : Int) (T T1 T2 : TypeId) [k0 : AtC w0 L b (row (eI .i64) xs []) T] [k1 : AtC w0 L b1 #[.int .i64 lo] T1] [k2 : AtC w0 L b2 #[.int .i64 hi] T2] : SpecM Tryz.prog w0 L 152 [.slice (some ⟨b, 0, none⟩) n c, .func (.func 124) #[] [.pointer (some ⟨b1, 0, none⟩), .pointer (some ⟨b2, 0, none⟩)].toArray] (.int .i64 (-1)) (xs.length = n ∧ n ≤ 1099511627776 ∧ ∀ z ∈ xs, lo ≤ z ∧ z ≤ hi) :=
  ⟨fun hp w hw => withinI_spec b c n b1 b2 xs lo hi T T1 T2 hp.1 hp.2.1 hp.2.2 w (k0.out w hw) (k1.out w hw) (k2.out w hw)⟩
instance sm_withinC (w0 : World) (L : List Blk) (b c n b1 b2 : Nat) (xs : List Int) (lo hi : Int) (T T1 T2 : TypeId) [k0 : AtC w0 L b (row (eI .i64) xs []) T] [k1 : AtC w0 L b1 #[.int .i64 lo] T1] [k2 : AtC w0 L b2 #[.int .i64 hi] T2] : SpecM Tryz.prog w0 L 123 [.slice (some ⟨b, 0, none⟩) n c, .func (.func 124) #[] [.pointer (some ⟨b1, 0, none⟩), .pointer (some ⟨b2, 0, none⟩)].toArray] (.bool false) (xs.length = n ∧ n ≤ 1099511627776 ∧ ∀ z ∈ xs, lo ≤ z ∧ z ≤ hi) := ⟨fun hp w hw => by
  have f0 := FoC.mk (k0.out w hw)
  have f1 := FoC.mk (k1.out w hw)
  have f2 := FoC.mk (k2.out w hw)
  refine fn_intro Tryz.func123 rfl Tryz.ntmps123 rfl ?_
  repeat (first | (refine wkB ?_; try intro _) | (refine sC rfl rfl ?_ ?_; focus (exact hp)) | (refine sN rfl rfl ?_ ?_; (focus (exact hp)); intro _; (try simp only [List.cons_append, List.nil_append, List.append_nil])))
  exact jx_ret_tmp rfl rfl (fun w hw => ret_ok hw)⟩
instance sm_within (w0 : World) (L : List Blk) (b n : Nat) (xs : List Int) (lo hi : Int) (T : TypeId) [k0 : AtC w0 L b (row (eI .i64) xs []) T] : SpecM Tryz.prog w0 L 83 [.int .i64 lo, .int .i64 hi, .slice (some ⟨b, 0, none⟩) n n] (.bool true) (xs.length = n ∧ n ≤ 1099511627776 ∧ ∀ z ∈ xs, lo ≤ z ∧ z ≤ hi) := ⟨fun hp w hw => by
  have f0 := FoC.mk (k0.out w hw)
  refine fn_intro Tryz.func83 rfl Tryz.ntmps83 rfl ?_
  repeat (first | (refine wkB ?_; try intro _) | (refine sC rfl rfl ?_ ?_; focus (exact hp)) | (refine sN rfl rfl ?_ ?_; (focus (exact hp)); intro _; (try simp only [List.cons_append, List.nil_append, List.append_nil])))
  exact jx_ret_tmp rfl rfl (fun w hw => ret_ok hw)⟩
/-- A report that is valid. -/
structure RepV (r : api_Report) : Prop where
  o : 1 ≤ r.Object ∧ r.Object ≤ 1073741824
  s : 0 ≤ r.Seq ∧ r.Seq ≤ 1073741824
  v : 0 ≤ r.Version ∧ r.Version ≤ 1073741824
  d : 0 ≤ r.Device ∧ r.Device ≤ 1073741824
  t : 0 ≤ r.Time ∧ r.Time ≤ 1073741824
  x : -1048576 ≤ r.X ∧ r.X ≤ 1048576
  y : -1048576 ≤ r.Y ∧ r.Y ≤ 1048576
theorem in1 {a lo hi : Int} (h : lo ≤ a ∧ a ≤ hi) : ([a] : List Int).length = 1 ∧ 1 ≤ 1099511627776 ∧ ∀ z ∈ [a], lo ≤ z ∧ z ≤ hi := ⟨rfl, by decide, fun z hz => by rw [List.mem_singleton] at hz; rw [hz]; exact h⟩
theorem in2 {a b lo hi : Int} (h : lo ≤ a ∧ a ≤ hi) (k : lo ≤ b ∧ b ≤ hi) : ([a, b] : List Int).length = 2 ∧ 2 ≤ 1099511627776 ∧ ∀ z ∈ [a, b], lo ≤ z ∧ z ≤ hi := ⟨rfl, by decide, fun z hz => by
  simp only [List.mem_cons, List.not_mem_nil, or_false] at hz
  rcases hz with rfl | rfl
  · exact h
  · exact k⟩
theorem in3 {a b c lo hi : Int} (h : lo ≤ a ∧ a ≤ hi) (k : lo ≤ b ∧ b ≤ hi) (j : lo ≤ c ∧ c ≤ hi) : ([a, b, c] : List Int).length = 3 ∧ 3 ≤ 1099511627776 ∧ ∀ z ∈ [a, b, c], lo ≤ z ∧ z ≤ hi := ⟨rfl, by decide, fun z hz => by
  simp only [List.mem_cons, List.not_mem_nil, or_false] at hz
  rcases hz with rfl | rfl | rfl
  · exact h
  · exact k
  · exact j⟩
instance sp_rCheck (r : api_Report) : SpecC Tryz.prog 54 [.agg (e_api_Report r)] (.int .i64 0) (RepV r) := ⟨fun hp w => by
  refine fn_intro Tryz.func54 rfl Tryz.ntmps54 rfl ?_
  have i1 := in1 hp.o
  have i2 := in3 hp.s hp.v hp.d
  have i3 := in1 hp.t
  have i4 := in2 hp.x hp.y
  repeat (first | (refine wkB ?_; try intro _) | (refine sC rfl rfl ?_ ?_; focus (first | exact i1 | exact i2 | exact i3 | exact i4)) | (refine sN rfl rfl ?_ ?_; (focus (first | exact i1 | exact i2 | exact i3 | exact i4)); intro _; (try simp only [List.cons_append, List.nil_append, List.append_nil])))
  exact jx_ret_tmp rfl rfl (fun w hw => ret_ok hw)⟩
end Go.Vt
/- What comparisons of keys of maps give. Conditions: those that each statement names. -/
set_option maxRecDepth 100000
namespace Go.Vt
open Go.RowKit Go.Proofs
theorem eqIn_161 (d : Nat) (w : World) (x y : report_identity) : (Op.equalIn (d + 2) 161 (.agg (e_report_identity x)) (.agg (e_report_identity y))).run Tryz.prog w = .ok (decide (x = y)) w := by
  have p0 : ∀ (z : report_identity) (u : World), (part 3 (e_report_identity z) 0).run Tryz.prog u = .ok (.int .i64 z.object) u := fun _ _ => by kernel_rfl
  have q0 : ∀ (u : World), (Op.equalIn (d + 1) 3 (.int .i64 x.object) (.int .i64 y.object)).run Tryz.prog u = .ok (decide (x.object = y.object)) u := fun u => by rw [run_equalIn_int u (d + 0) 3 .i64 .i64 _ _ (by kernel_rfl), beq_dec]
  have p1 : ∀ (z : report_identity) (u : World), (part 3 (e_report_identity z) 1).run Tryz.prog u = .ok (.int .i64 z.seq) u := fun _ _ => by kernel_rfl
  have q1 : ∀ (u : World), (Op.equalIn (d + 1) 3 (.int .i64 x.seq) (.int .i64 y.seq)).run Tryz.prog u = .ok (decide (x.seq = y.seq)) u := fun u => by rw [run_equalIn_int u (d + 0) 3 .i64 .i64 _ _ (by kernel_rfl), beq_dec]
  have hf : (Tryz.prog.fieldsOf 161).toList = [{ name := "object", type := 3, offset := 0, embedded := false, tag := "", pkgPath := "viator/report", byteOffset := 0 }, { name := "seq", type := 3, offset := 1, embedded := false, tag := "", pkgPath := "viator/report", byteOffset := 8 }] := by kernel_rfl
  rw [run_equalIn_struct w (d + 1) 161 _ _ (by kernel_rfl) (by kernel_rfl), hf]
  have hx : x = y ↔ (x.object = y.object ∧ x.seq = y.seq) := by cases x; cases y; simp
  simp only [Op.eqFields, Sem.run_bind, Result.andThen_ok, Sem.run_ite, Sem.run_pure, p0, p1, q0, q1]
  by_cases h0 : x.object = y.object <;> by_cases h1 : x.seq = y.seq <;> simp [hx, h0, h1]
instance eql_161 (x y : report_identity) : BinC Tryz.prog .eql 161 (.agg (e_report_identity x)) (.agg (e_report_identity y)) (.bool (decide (x = y))) := ⟨fun a b w => run_eqGuard_agg w _ _ _ _ _ _ (by kernel_rfl), fun w => by rw [run_eql_struct, eqIn_161 9998]; rfl⟩
end Go.Vt
/- Comparing rational instants, intervals and linear functions. Conditions: the lengths that each statement names, and that the instants are rational. -/
set_option linter.unusedSimpArgs false
set_option linter.unusedVariables false
set_option maxHeartbeats 2000000
set_option maxRecDepth 100000
namespace Go.Vt
open Go.RowKit Go.Proofs
abbrev vIv (I : R_api_Interval) : Value := .agg (e_api_Interval (q_api_Interval I))
abbrev vQd (q : R_api_Quad) : Value := .agg (e_api_Quad (q_api_Quad q))
theorem sg0e (b : Int) {r : Rat} (h : r = 0) : b * r.num.sign = 0 := by
  subst h
  rw [show (0 : Rat).num.sign = 0 from rfl, Int.mul_zero]
theorem sign_sub (a b : Rat) : (a - b).num.sign = cq a b := by
  unfold cq
  split
  · rename_i h
    exact Int.sign_eq_neg_one_iff_neg.2 (by
      have h3 : ¬ 0 ≤ (a - b).num := fun h1 => by
        have := Rat.num_nonneg.1 h1
        grind
      omega)
  · split
    · rename_i h1 h2
      refine Int.sign_eq_one_iff_pos.2 ?_
      have h3 : 0 ≤ (a - b).num := Rat.num_nonneg.2 (by grind)
      have h4 : (a - b).num ≠ 0 := fun h0 => by
        have := Rat.num_eq_zero.1 h0
        grind
      omega
    · rename_i h1 h2
      have : a = b := by grind
      subst this
      rw [show a - a = 0 by grind]
      rfl
instance sp_factor (x : R_api_Real) : SpecC Tryz.prog 137 [vR x] (vQ (if x.Neg then ((-1 : Int) : Rat) else ((1 : Int) : Rat))) True := ⟨fun _ w => by
  refine fn_intro Tryz.func137 rfl Tryz.ntmps137 rfl ?_
  obtain ⟨p, r, b⟩ := x
  cases b
  · repeat (first | (refine wkB ?_; try intro _) | (refine sC rfl rfl ?_ ?_; focus (exact ⟨by decide, by decide⟩)) | (refine sN rfl rfl ?_ ?_; (focus (exact ⟨by decide, by decide⟩)); intro _; (try simp only [List.cons_append, List.nil_append, List.append_nil])))
    exact wx_cell rfl rfl (fun w hw => ret_ok hw)
  · repeat (first | (refine wkB ?_; try intro _) | (refine sC rfl rfl ?_ ?_; focus (exact ⟨by decide, by decide⟩)) | (refine sN rfl rfl ?_ ?_; (focus (exact ⟨by decide, by decide⟩)); intro _; (try simp only [List.cons_append, List.nil_append, List.append_nil])))
    exact wx_cell rfl rfl (fun w hw => ret_ok hw)⟩
instance sp_sign0 (a b r : Rat) : SpecC Tryz.prog 138 [vQ a, vQ b, vQ r] (.int .i64 a.num.sign) (r = 0) := ⟨fun hr w => by
  refine fn_intro Tryz.func138 rfl Tryz.ntmps138 rfl ?_
  have hz := sg0e b.num.sign hr
  repeat (refine wkB ?_; try intro _)
  (refine j_late [0, 1, 2, 3, 4, 5, 6] [7, 8] (_) (h := ?_); refine wkI ?_)
  (repeat (first | refine wkH ?_ | (refine tC rfl rfl ?_ ?_; focus (exact trivial))))
  repeat (refine wkT ?_; try intro _)
  simp only [hz]
  repeat (refine wkB ?_; try intro _)
  exact jx_ret_tmp rfl rfl (fun w hw => ret_ok hw)⟩
instance sp_RealCmp (x y : R_api_Real) : SpecC Tryz.prog 102 [vR x, vR y] (.int .i64 (cq x.P y.P)) ((x.R = 0 ∧ y.R = 0) ∧ M x.P ≤ LQ ∧ M y.P ≤ LQ) := ⟨fun hp w => by
  obtain ⟨⟨hx, hy⟩, h1, h2⟩ := hp
  refine fn_intro Tryz.func102 rfl Tryz.ntmps102 rfl ?_
  have hz := sg0e (-(if y.Neg then ((-1 : Int) : Rat) else ((1 : Int) : Rat))).num.sign hy
  repeat (refine wkB ?_; try intro _)
  (refine jD 10 13 (h := ?_); (repeat (first | refine wkH ?_ | (refine tC rfl rfl ?_ ?_; focus (first | exact trivial | exact ⟨h1, h2⟩)))); refine jh_nil ?_; (repeat (refine wn_new ?_; intro _)); refine jn_nil ?_)
  repeat (refine wkB ?_; try intro _)
  (refine j_late [0, 1, 2, 3, 4, 5, 6, 7, 8, 9, 10] [11, 12] (_) (h := ?_); refine wkI ?_)
  (repeat (first | refine wkH ?_ | (refine tC rfl rfl ?_ ?_; focus (first | exact trivial | exact hx))))
  repeat (refine wkT ?_; try intro _)
  simp only [hz, sign_sub]
  repeat (refine wkB ?_; try intro _)
  exact jx_ret_tmp rfl rfl (fun w hw => ret_ok hw)⟩
instance call_cmpCompare : CallC Tryz.prog 81 := ⟨by kernel_rfl⟩
instance call_cmpOr : CallC Tryz.prog 121 := ⟨by kernel_rfl⟩
instance sp_instant (I : R_api_Interval) : SpecC Tryz.prog 105 [vIv I] (.bool (decide (I.From = I.To))) True := ⟨fun _ w => by
  refine fn_intro Tryz.func105 rfl Tryz.ntmps105 rfl ?_
  repeat (refine wkB ?_; try intro _)
  exact jx_ret_tmp rfl rfl (fun w hw => ret_ok hw)⟩
/-- Does 'b' begin behind 'a'? -/
def aprt (a b : R_api_Interval) : Bool := decide (a.To.P < b.From.P) || (decide (a.To.P = b.From.P) && (a.OpenTo || b.OpenFrom))
instance sp_apart (a b : R_api_Interval) : SpecC Tryz.prog 67 [vIv a, vIv b] (.bool (aprt a b)) ((a.To.R = 0 ∧ b.From.R = 0) ∧ M a.To.P ≤ LQ ∧ M b.From.P ≤ LQ) := ⟨fun hp w => by
  refine fn_intro Tryz.func67 rfl Tryz.ntmps67 rfl ?_
  repeat (first | (refine wkB ?_; try intro _) | (refine sC rfl rfl ?_ ?_; focus (exact hp)) | (refine sN rfl rfl ?_ ?_; (focus (exact hp)); intro _; (try simp only [List.cons_append, List.nil_append, List.append_nil])))
  unfold aprt
  by_cases h1 : a.To.P < b.From.P
  · simp only [decide_eq_true (cq_lt.2 h1)]
    repeat (refine wkB ?_; try intro _)
    simp only [decide_eq_true h1]
    exact jx_ret_tmp rfl rfl (fun w hw => ret_ok hw)
  · simp only [decide_eq_false (fun h => h1 (cq_lt.1 h))]
    repeat (refine wkB ?_; try intro _)
    by_cases h2 : a.To.P = b.From.P
    · simp only [decide_eq_true (cq_eq.2 h2)]
      repeat (refine wkB ?_; try intro _)
      obtain ⟨fa, ta, oa, ca⟩ := a
      simp only at h1 h2 ⊢
      cases ca
      · repeat (refine wkB ?_; try intro _)
        simp only [decide_eq_false h1, decide_eq_true h2]
        exact jx_ret_tmp rfl rfl (fun w hw => ret_ok hw)
      · repeat (refine wkB ?_; try intro _)
        simp only [decide_eq_false h1, decide_eq_true h2]
        exact jx_ret_tmp rfl rfl (fun w hw => ret_ok hw)
    · simp only [decide_eq_false (fun h => h2 (cq_eq.1 h))]
      repeat (refine wkB ?_; try intro _)
      simp only [decide_eq_false h1, decide_eq_false h2]
      exact jx_ret_tmp rfl rfl (fun w hw => ret_ok hw)⟩
instance sp_Constant (c : Rat) : SpecC Tryz.prog 302 [vQ c] (vQd ⟨c, 0, 0⟩) True := ⟨fun _ w => by
  refine fn_intro Tryz.func302 rfl Tryz.ntmps302 rfl ?_
  repeat (refine wkB ?_; try intro _)
  exact wx_cell rfl rfl (fun w hw => ret_ok hw)⟩
instance sp_QSub (p q : R_api_Quad) : SpecC Tryz.prog 305 [vQd p, vQd q] (vQd ⟨p.C0 - q.C0, p.C1 - q.C1, p.C2 - q.C2⟩) ((M p.C0 ≤ LQ ∧ M q.C0 ≤ LQ) ∧ (M p.C1 ≤ LQ ∧ M q.C1 ≤ LQ) ∧ (M p.C2 ≤ LQ ∧ M q.C2 ≤ LQ)) := ⟨fun hp w => by
  obtain ⟨h1, h2, h3⟩ := hp
  refine fn_intro Tryz.func305 rfl Tryz.ntmps305 rfl ?_
  repeat (refine wkB ?_; try intro _)
  (refine jD 16 16 (h := ?_); (repeat (first | refine wkH ?_ | (refine tC rfl rfl ?_ ?_; focus (first | exact h1 | exact h2 | exact h3)))); refine jh_nil ?_; (repeat (refine wn_new ?_; intro _)); refine jn_nil ?_)
  repeat (refine wkB ?_; try intro _)
  exact wx_cell rfl rfl (fun w hw => ret_ok hw)⟩
instance sp_QReduce (q : R_api_Quad) (t : R_api_Real) : SpecC Tryz.prog 299 [vQd q, vR t] (vQd ⟨q.C0 + t.P * (q.C1 + t.P * q.C2), 0, 0⟩) (t.R = 0 ∧ M q.C0 ≤ 34359738368 ∧ M q.C1 ≤ 34359738368 ∧ M q.C2 ≤ 34359738368 ∧ M t.P ≤ 34359738368) := ⟨fun hp w => by
  obtain ⟨h0, h1⟩ := hp
  refine fn_intro Tryz.func299 rfl Tryz.ntmps299 rfl ?_
  repeat (refine wkB ?_; try intro _)
  simp only [if_pos h0, decide_eq_true h0]
  repeat (first | (refine wkB ?_; try intro _) | (refine sC rfl rfl ?_ ?_; focus (first | exact trivial | exact h1)) | (refine sN rfl rfl ?_ ?_; (focus (first | exact trivial | exact h1)); intro _; (try simp only [List.cons_append, List.nil_append, List.append_nil])))
  exact wx_cell rfl rfl (fun w hw => ret_ok hw)⟩
/-- Have two functions the same value? -/
def qsame (p q : R_api_Quad) (t : Rat) : Bool := decide ((⟨p.C0 - q.C0 + t * (p.C1 - q.C1 + t * (p.C2 - q.C2)), 0, 0⟩ : R_api_Quad) = ⟨0, 0, 0⟩)
theorem qsame_iff {p q : R_api_Quad} {t : Rat} : qsame p q t = true ↔ p.C0 - q.C0 + t * (p.C1 - q.C1 + t * (p.C2 - q.C2)) = 0 := by
  unfold qsame
  rw [decide_eq_true_iff]
  simp
instance sp_QSame (p q : R_api_Quad) (t : R_api_Real) : SpecC Tryz.prog 300 [vQd p, vQd q, vR t] (.bool (qsame p q t.P)) (t.R = 0 ∧ (M p.C0 ≤ 8589934592 ∧ M p.C1 ≤ 8589934592 ∧ M p.C2 ≤ 8589934592) ∧ (M q.C0 ≤ 8589934592 ∧ M q.C1 ≤ 8589934592 ∧ M q.C2 ≤ 8589934592) ∧ M t.P ≤ 8589934592) := ⟨fun hp w => by
  obtain ⟨h0, ⟨h1, h2, h3⟩, ⟨h4, h5, h6⟩, h7⟩ := hp
  have := MB.mk h1
  have := MB.mk h2
  have := MB.mk h3
  have := MB.mk h4
  have := MB.mk h5
  have := MB.mk h6
  have := MB.mk h7
  refine fn_intro Tryz.func300 rfl Tryz.ntmps300 rfl ?_
  repeat (refine wkB ?_; try intro _)
  (refine jD 7 7 (h := ?_); (repeat (first | refine wkH ?_ | (refine tC rfl rfl ?_ ?_; focus (first | exact ⟨mb2 rfl rfl, mb2 rfl rfl, mb2 rfl rfl⟩ | exact ⟨h0, MB.lt rfl, MB.lt rfl, MB.lt rfl, MB.lt rfl⟩)))); refine jh_nil ?_; (repeat (refine wn_new ?_; intro _)); refine jn_nil ?_)
  repeat (refine wkB ?_; try intro _)
  exact jx_ret_tmp rfl rfl (fun w hw => ret_ok hw)⟩
def lnX (f : R_api_Line) : R_api_Quad := ⟨f.X0, f.X1, 0⟩
def lnY (f : R_api_Line) : R_api_Quad := ⟨f.Y0, f.Y1, 0⟩
instance sp_coordinates (f : R_api_Line) : SpecC Tryz.prog 298 [vLn f] (.tuple #[vQd (lnX f), vQd (lnY f)]) True := ⟨fun _ w => by
  refine fn_intro Tryz.func298 rfl Tryz.ntmps298 rfl ?_
  repeat (refine wkB ?_; try intro _)
  (refine jD 10 10 (h := ?_); (repeat (refine wkH ?_)); refine jh_nil ?_; (repeat (refine wn_new ?_; intro _)); refine jn_nil ?_)
  repeat (refine wkB ?_; try intro _)
  exact jx_ret_two rfl (wr_cell rfl) (wr_cell rfl) (fun w hw => ret_ok hw)⟩
instance sp_LSame (f g : R_api_Line) (t : R_api_Real) (z : Array Value) : SpecC Tryz.prog 297 [.agg z, vLn f, vLn g, vR t] (.bool (qsame (lnX f) (lnX g) t.P && qsame (lnY f) (lnY g) t.P)) (t.R = 0 ∧ ((M f.X0 ≤ 8589934592 ∧ M f.X1 ≤ 8589934592) ∧ M f.Y0 ≤ 8589934592 ∧ M f.Y1 ≤ 8589934592) ∧ ((M g.X0 ≤ 8589934592 ∧ M g.X1 ≤ 8589934592) ∧ M g.Y0 ≤ 8589934592 ∧ M g.Y1 ≤ 8589934592) ∧ M t.P ≤ 8589934592) := ⟨fun hp w => by
  obtain ⟨h0, ⟨⟨h1, h2⟩, h3, h4⟩, ⟨⟨h5, h6⟩, h7, h8⟩, h9⟩ := hp
  have hm0 : M 0 ≤ 8589934592 := Nat.le_trans mb_zero.out (by decide)
  refine fn_intro Tryz.func297 rfl Tryz.ntmps297 rfl ?_
  repeat (first | (refine wkB ?_; try intro _) | (refine sC rfl rfl ?_ ?_; focus (first | exact trivial | exact ⟨h0, ⟨h1, h2, hm0⟩, ⟨h5, h6, hm0⟩, h9⟩)) | (refine sN rfl rfl ?_ ?_; (focus (first | exact trivial | exact ⟨h0, ⟨h1, h2, hm0⟩, ⟨h5, h6, hm0⟩, h9⟩)); intro _; (try simp only [List.cons_append, List.nil_append, List.append_nil])))
  rcases hb : qsame (lnX f) (lnX g) t.P with _ | _
  · repeat (refine wkB ?_; try intro _)
    exact jx_ret_tmp rfl rfl (fun w hw => ret_ok hw)
  · repeat (first | (refine wkB ?_; try intro _) | (refine sC rfl rfl ?_ ?_; focus (exact ⟨h0, ⟨h3, h4, hm0⟩, ⟨h7, h8, hm0⟩, h9⟩)) | (refine sN rfl rfl ?_ ?_; (focus (exact ⟨h0, ⟨h3, h4, hm0⟩, ⟨h7, h8, hm0⟩, h9⟩)); intro _; (try simp only [List.cons_append, List.nil_append, List.append_nil])))
    exact jx_ret_tmp rfl rfl (fun w hw => ret_ok hw)⟩
instance sp_LEqual (f g : R_api_Line) (z : Array Value) : SpecC Tryz.prog 295 [.agg z, vLn f, vLn g] (.bool (decide (f = g))) True := ⟨fun _ w => by
  refine fn_intro Tryz.func295 rfl Tryz.ntmps295 rfl ?_
  repeat (refine wkB ?_; try intro _)
  exact jx_ret_tmp rfl rfl (fun w hw => ret_ok hw)⟩
/-- The function at one instant. -/
def lred (f : R_api_Line) (t : Rat) : R_api_Line := ⟨f.X0 + t * (f.X1 + t * 0), 0, f.Y0 + t * (f.Y1 + t * 0), 0⟩
instance sp_LReduce (f : R_api_Line) (t : R_api_Real) (z : Array Value) : SpecC Tryz.prog 296 [.agg z, vLn f, vR t] (vLn (lred f t.P)) (t.R = 0 ∧ ((M f.X0 ≤ 8589934592 ∧ M f.X1 ≤ 8589934592) ∧ M f.Y0 ≤ 8589934592 ∧ M f.Y1 ≤ 8589934592) ∧ M t.P ≤ 8589934592) := ⟨fun hp w => by
  obtain ⟨h0, ⟨⟨h1, h2⟩, h3, h4⟩, h9⟩ := hp
  have hm0 : M 0 ≤ 34359738368 := Nat.le_trans mb_zero.out (by decide)
  have := MB.mk h1
  have := MB.mk h2
  have := MB.mk h3
  have := MB.mk h4
  have := MB.mk h9
  refine fn_intro Tryz.func296 rfl Tryz.ntmps296 rfl ?_
  repeat (refine wkB ?_; try intro _)
  (refine jD 6 6 (h := ?_); (repeat (first | refine wkH ?_ | (refine tC rfl rfl ?_ ?_; focus (first | exact ⟨h0, Nat.le_trans h1 (by decide), Nat.le_trans h2 (by decide), hm0, Nat.le_trans h9 (by decide)⟩ | exact ⟨h0, Nat.le_trans h3 (by decide), Nat.le_trans h4 (by decide), hm0, Nat.le_trans h9 (by decide)⟩)))); refine jh_nil ?_; (repeat (refine wn_new ?_; intro _)); refine jn_nil ?_)
  repeat (refine wkB ?_; try intro _)
  exact wx_cell rfl rfl (fun w hw => ret_ok hw)⟩
end Go.Vt
/- Units of moving points as units of pieces, and back, walked. Conditions: those that each statement names. -/
set_option linter.unusedSimpArgs false
set_option linter.unusedVariables false
set_option maxHeartbeats 2000000
set_option maxRecDepth 100000
namespace Go.Vt
open Go.RowKit Go.Proofs
abbrev PU := R_api_PointUnit
abbrev UL := R_pieces_Unit_api_Line
abbrev rP := r_api_PointUnit
abbrev rU := r_pieces_Unit_api_Line
abbrev vPU (u : PU) : Value := .agg (e_api_PointUnit (q_api_PointUnit u))
abbrev vUL (u : UL) : Value := .agg (e_pieces_Unit_api_Line (q_pieces_Unit_api_Line u))
abbrev vFn (f : FuncId) : Value := .func (.func f) #[] [].toArray
def toU (u : PU) : UL := ⟨u.In, u.F⟩
def ofU (u : UL) : PU := ⟨u.In, u.F⟩
instance sp_to1 (u : PU) : SpecC Tryz.prog 71 [vPU u] (vUL (toU u)) True := ⟨fun _ w => by
  refine fn_intro Tryz.func71 rfl Tryz.ntmps71 rfl ?_
  repeat (refine wkB ?_; try intro _)
  exact wx_cell rfl rfl (fun w hw => ret_ok hw)⟩
instance sp_from1 (u : UL) : SpecC Tryz.prog 110 [vUL u] (vPU (ofU u)) True := ⟨fun _ w => by
  refine fn_intro Tryz.func110 rfl Tryz.ntmps110 rfl ?_
  repeat (refine wkB ?_; try intro _)
  exact wx_cell rfl rfl (fun w hw => ret_ok hw)⟩
theorem mapTo_spec (v : Value) (us : List PU) (w : World) (hv : ArgS w v rP us) (hl : us.length ≤ 1048576) :
    Calls Tryz.prog 70 [v, vFn 71].toArray w (RetM (SlS rU 36 (mpN toU us us.length)) (fun s => vSl s) (fun s => mS 136 s) w) := by
  refine fn_intro Tryz.func70 rfl Tryz.ntmps70 rfl ?_
  obtain ⟨p, cp, rfl⟩ := hv.form
  repeat (refine wkB ?_; try intro _)
  refine j_loop (S := (m : Nat) × SlS rU 36 (mpN toU us m)) (fun s => s.1 ≤ us.length) (fun s => [(1, vFn 71), (5, vSl s.2), (8, .slice p us.length cp), (9, .int .i64 us.length), (10, .int .i64 (s.1 : Nat))]) (fun s => mS 136 s.2) (fun s => us.length - s.1) ⟨0, SlS.no⟩
    (Nat.zero_le _) sbB slB (fun s hm => ?_)
  obtain ⟨m, s⟩ := s
  simp only at hm ⊢
  repeat (refine wkB ?_; try intro _)
  refine j_cond rfl (fun h => ?_) (fun h => ?_)
  · have hlt : m < us.length := by have := of_decide_eq_true h; omega
    have hne : us ≠ [] := fun h0 => by rw [h0] at hlt; simp at hlt
    obtain ⟨bw, ow, cw, hvw, hcw, hrow⟩ := hv.blk (k := 35) hne []
    injection hvw with e1 e2 e3
    subst e1
    subst e3
    have hrow' : ∀ L, RowC w L bw ow PU rP us := fun L => ⟨fun w' hw' => hrow.out w' (hw'.sub (List.nil_sublist _))⟩
    repeat (refine wkB ?_; try intro _)
    have hml := mpN_len toU us m
    refine sU rfl rfl ?_ ?_ ?_ ?_
    · rfl
    · rfl
    · exact ⟨by decide, by omega, by omega⟩
    intro s'
    repeat (first | (refine wkB ?_; try intro _) | (refine sC rfl rfl ?_ ?_; focus (exact ⟨by omega, by omega⟩)) | (refine sN rfl rfl ?_ ?_; (focus (exact ⟨by omega, by omega⟩)); intro _; (try simp only [List.cons_append, List.nil_append, List.append_nil])))
    exact jx_loop ⟨m + 1, s'⟩ hlt sbB suB (by show us.length - (m + 1) < us.length - m; omega)
  · have hge : m = us.length := by have := of_decide_eq_false h; omega
    subst hge
    repeat (refine wkB ?_; try intro _)
    exact jx_ret_tmp rfl rfl (fun w hw => ⟨s, rfl, hw.sub sbl⟩)
theorem mapFrom_spec (v : Value) (us : List UL) (w : World) (hv : ArgS w v rU us) (hl : us.length ≤ 1048576) :
    Calls Tryz.prog 109 [v, vFn 110].toArray w (RetM (SlS rP 36 (mpN ofU us us.length)) (fun s => vSl s) (fun s => mS 87 s) w) := by
  refine fn_intro Tryz.func109 rfl Tryz.ntmps109 rfl ?_
  obtain ⟨p, cp, rfl⟩ := hv.form
  repeat (refine wkB ?_; try intro _)
  refine j_loop (S := (m : Nat) × SlS rP 36 (mpN ofU us m)) (fun s => s.1 ≤ us.length) (fun s => [(1, vFn 110), (5, vSl s.2), (8, .slice p us.length cp), (9, .int .i64 us.length), (10, .int .i64 (s.1 : Nat))]) (fun s => mS 87 s.2) (fun s => us.length - s.1) ⟨0, SlS.no⟩
    (Nat.zero_le _) sbB slB (fun s hm => ?_)
  obtain ⟨m, s⟩ := s
  simp only at hm ⊢
  repeat (refine wkB ?_; try intro _)
  refine j_cond rfl (fun h => ?_) (fun h => ?_)
  · have hlt : m < us.length := by have := of_decide_eq_true h; omega
    have hne : us ≠ [] := fun h0 => by rw [h0] at hlt; simp at hlt
    obtain ⟨bw, ow, cw, hvw, hcw, hrow⟩ := hv.blk (k := 35) hne []
    injection hvw with e1 e2 e3
    subst e1
    subst e3
    have hrow' : ∀ L, RowC w L bw ow UL rU us := fun L => ⟨fun w' hw' => hrow.out w' (hw'.sub (List.nil_sublist _))⟩
    repeat (refine wkB ?_; try intro _)
    have hml := mpN_len ofU us m
    refine sU rfl rfl ?_ ?_ ?_ ?_
    · rfl
    · rfl
    · exact ⟨by decide, by omega, by omega⟩
    intro s'
    repeat (first | (refine wkB ?_; try intro _) | (refine sC rfl rfl ?_ ?_; focus (exact ⟨by omega, by omega⟩)) | (refine sN rfl rfl ?_ ?_; (focus (exact ⟨by omega, by omega⟩)); intro _; (try simp only [List.cons_append, List.nil_append, List.append_nil])))
    exact jx_loop ⟨m + 1, s'⟩ hlt sbB suB (by show us.length - (m + 1) < us.length - m; omega)
  · have hge : m = us.length := by have := of_decide_eq_false h; omega
    subst hge
    repeat (refine wkB ?_; try intro _)
    exact jx_ret_tmp rfl rfl (fun w hw => ⟨s, rfl, hw.sub sbl⟩)
instance sr_mapTo (w0 : World) (L : List Blk) (v : Value) (us : List PU) [h : LstC w0 L v PU rP us] : SpecR Tryz.prog w0 L 70 [v, vFn 71] (SlS rU 36 (mpN toU us us.length)) (fun s => vSl s) (fun s => mS 136 s) (us.length ≤ 1048576) := ⟨fun hl w hw => mapTo_spec v us w (h.out w hw) hl⟩
instance sr_mapFrom (w0 : World) (L : List Blk) (v : Value) (us : List UL) [h : LstC w0 L v UL rU us] : SpecR Tryz.prog w0 L 109 [v, vFn 110] (SlS rP 36 (mpN ofU us us.length)) (fun s => vSl s) (fun s => mS 87 s) (us.length ≤ 1048576) := ⟨fun hl w hw => mapFrom_spec v us w (h.out w hw) hl⟩
theorem to_spec (v : Value) (us : List PU) (w : World) (hv : ArgS w v rP us) (hl : us.length ≤ 1048576) :
    Calls Tryz.prog 37 [v].toArray w (RetM (SlS rU 36 (mpN toU us us.length)) (fun s => vSl s) (fun s => mS 136 s) w) := by
  have := ArgC.mk hv
  refine fn_intro Tryz.func37 rfl Tryz.ntmps37 rfl ?_
  repeat (first | (refine wkB ?_; try intro _) | (refine sC rfl rfl ?_ ?_; focus (exact hl)) | (refine sN rfl rfl ?_ ?_; (focus (exact hl)); intro _; (try simp only [List.cons_append, List.nil_append, List.append_nil])))
  rename_i s
  exact jx_ret_tmp rfl rfl (fun w hw => ⟨s, rfl, hw.sub suB⟩)
theorem from_spec (v : Value) (us : List UL) (w : World) (hv : ArgS w v rU us) (hl : us.length ≤ 1048576) :
    Calls Tryz.prog 72 [v].toArray w (RetM (SlS rP 36 (mpN ofU us us.length)) (fun s => vSl s) (fun s => mS 87 s) w) := by
  have := ArgC.mk hv
  refine fn_intro Tryz.func72 rfl Tryz.ntmps72 rfl ?_
  repeat (first | (refine wkB ?_; try intro _) | (refine sC rfl rfl ?_ ?_; focus (exact hl)) | (refine sN rfl rfl ?_ ?_; (focus (exact hl)); intro _; (try simp only [List.cons_append, List.nil_append, List.append_nil])))
  rename_i s
  exact jx_ret_tmp rfl rfl (fun w hw => ⟨s, rfl, hw.sub suB⟩)
instance sr_to (w0 : World) (L : List Blk) (v : Value) (us : List PU) [h : LstC w0 L v PU rP us] : SpecR Tryz.prog w0 L 37 [v] (SlS rU 36 (mpN toU us us.length)) (fun s => vSl s) (fun s => mS 136 s) (us.length ≤ 1048576) := ⟨fun hl w hw => to_spec v us w (h.out w hw) hl⟩
instance sr_from (w0 : World) (L : List Blk) (v : Value) (us : List UL) [h : LstC w0 L v UL rU us] : SpecR Tryz.prog w0 L 72 [v] (SlS rP 36 (mpN ofU us us.length)) (fun s => vSl s) (fun s => mS 87 s) (us.length ≤ 1048576) := ⟨fun hl w hw => from_spec v us w (h.out w hw) hl⟩
end Go.Vt
/- Sorting, walked. Conditions: those that each statement names. -/
set_option linter.unusedSimpArgs false
set_option linter.unusedVariables false
set_option maxHeartbeats 2000000
set_option maxRecDepth 100000
namespace Go.Vt
open Go.RowKit Go.Proofs
/-- Two neighbours change places. -/
def swpRp (xs : List api_Report) (j : Nat) : List api_Report := (xs.set (j + 1) (gi xs (j : Int))).set j (gi xs ((j + 1 : Nat) : Int))
/-- An element goes down as long as it is less than the one ahead of it. -/
def dwnRp (xs : List api_Report) : Nat → List api_Report
  | 0 => xs
  | j + 1 => if cmpRp (gi xs ((j + 1 : Nat) : Int)) (gi xs (j : Int)) < 0 then dwnRp (swpRp xs j) j else xs
/-- The first elements are in order. -/
def srtRp (xs : List api_Report) : Nat → List api_Report
  | 0 => xs
  | i + 1 => dwnRp (srtRp xs i) (i + 1)
theorem swp_lenRp (xs : List api_Report) (j : Nat) : (swpRp xs j).length = xs.length := by simp [swpRp]
theorem swp_memRp {xs : List api_Report} {j : Nat} (h : j + 1 < xs.length) {u : api_Report} (hu : u ∈ swpRp xs j) : u ∈ xs := by
  unfold swpRp at hu
  rcases List.mem_or_eq_of_mem_set hu with h1 | h1
  · rcases List.mem_or_eq_of_mem_set h1 with h2 | h2
    · exact h2
    · rw [h2, gi_nat (by omega)]
      exact List.getElem_mem _
  · rw [h1, gi_nat h]
    exact List.getElem_mem _
theorem dwn_lenRp : ∀ (j : Nat) (xs : List api_Report), (dwnRp xs j).length = xs.length
  | 0, _ => rfl
  | j + 1, xs => by
    rw [dwnRp]
    split
    · rw [dwn_lenRp j, swp_lenRp]
    · rfl
theorem dwn_memRp : ∀ (j : Nat) (xs : List api_Report), j < xs.length → ∀ u ∈ dwnRp xs j, u ∈ xs
  | 0, _, _, _, h => h
  | j + 1, xs, hj, u, h => by
    rw [dwnRp] at h
    split at h
    · exact swp_memRp hj (dwn_memRp j _ (by rw [swp_lenRp]; omega) u h)
    · exact h
theorem srt_lenRp (xs : List api_Report) : ∀ i, (srtRp xs i).length = xs.length
  | 0 => rfl
  | i + 1 => by rw [srtRp, dwn_lenRp, srt_lenRp xs i]
theorem srt_memRp (xs : List api_Report) : ∀ i, i < xs.length → ∀ u ∈ srtRp xs i, u ∈ xs
  | 0, _, _, h => h
  | i + 1, hi, u, h => by
    rw [srtRp] at h
    exact srt_memRp xs i (by omega) u (dwn_memRp _ _ (by rw [srt_lenRp]; exact hi) u h)
theorem ins_specRp (w0 w : World) (L1 : List Blk) (b c n : Nat) (xs : List api_Report) (sp : List Value) (T : TypeId) (hn : xs.length = n) (hl : n ≤ 1048576) (hok : ∀ u ∈ xs, RpOk u) (hw : Own w0 (⟨b, row e_api_Report xs sp, T⟩ :: L1) w) :
    Calls Tryz.prog 174 [.slice (some ⟨b, 0, none⟩) n c, .int .i64 0, .int .i64 n, vFn 92].toArray w (RetX w0 Unit (fun _ => .tuple #[]) (fun _ => ⟨b, row e_api_Report (srtRp xs (n - 1)) sp, T⟩ :: L1)) := by
  refine fn_introL Tryz.func174 rfl Tryz.ntmps174 rfl hw ?_
  repeat (refine wkB ?_; try intro _)
  refine j_loop (S := Nat) (fun m => m ≤ n - 1) (fun m => [(0, .slice (some ⟨b, 0, none⟩) n c), (1, .int .i64 0), (2, .int .i64 n), (3, vFn 92), (8, .int .i64 ((m + 1 : Nat)))]) (fun m => ⟨b, row e_api_Report (srtRp xs m) sp, T⟩ :: L1) (fun m => n - 1 - m) 0 (Nat.zero_le _) sbB slB (fun m hm => ?_)
  have hsl := srt_lenRp xs m
  repeat (refine wkB ?_; try intro _)
  refine j_cond rfl (fun h => ?_) (fun h => ?_)
  · have hlt : m + 1 < n := by have := of_decide_eq_true h; omega
    have hmem := srt_memRp xs m (by omega)
    repeat (refine wkB ?_; try intro _)
    refine j_loop (S := Nat × List api_Report) (fun s => dwnRp s.2 s.1 = srtRp xs (m + 1) ∧ s.2.length = n ∧ s.1 ≤ m + 1 ∧ ∀ u ∈ s.2, RpOk u) (fun s => [(0, .slice (some ⟨b, 0, none⟩) n c), (1, .int .i64 0), (2, .int .i64 n), (3, vFn 92), (8, .int .i64 ((m + 1 : Nat))), (9, .int .i64 ((s.1 : Nat)))]) (fun s => ⟨b, row e_api_Report s.2 sp, T⟩ :: L1) (fun s => s.1) (m + 1, srtRp xs m)
      ⟨rfl, by show (srtRp xs m).length = n; omega, Nat.le_refl _, fun u hu => hok u (hmem u hu)⟩ sbB slB (fun s hs => ?_)
    obtain ⟨j, ys⟩ := s
    obtain ⟨g1, g2, g3, g4⟩ := hs
    simp only at g1 g2 g3 g4 ⊢
    repeat (refine wkB ?_; try intro _)
    rcases j with _ | j
    · (refine jD 17 17 (h := ?_); (repeat (refine wkH ?_)); refine jh_nil ?_; (repeat (refine wn_new ?_; intro _)); refine jn_nil ?_)
      repeat (refine wkB ?_; try intro _)
      exact jx_loop (m + 1) (by omega) sbB (by rw [← g1]; exact List.Sublist.refl _) (by omega)
    · have hj1 : ((j : Int)).toNat < ys.length := by omega
      have hj2 : (((j + 1 : Nat) : Int)).toNat < ys.length := by omega
      have e1 : ((j + 1 : Nat) : Int) - 1 = (j : Int) := by omega
      have o1 := g4 _ (by rw [gi_nat (show j < ys.length by omega)]; exact List.getElem_mem _ : gi ys (j : Int) ∈ ys)
      have o2 := g4 _ (by rw [gi_nat (show j + 1 < ys.length by omega)]; exact List.getElem_mem _ : gi ys ((j + 1 : Nat) : Int) ∈ ys)
      rw [dwnRp] at g1
      refine jD 17 17 (h := ?_)
      (repeat (refine wkH ?_))
      simp only [decide_eq_true (show (0 : Int) < ((j + 1 : Nat) : Int) by omega), e1]
      (repeat (refine wkH ?_))
      simp only [e1]
      (repeat (first | refine wkH ?_ | (refine tC rfl rfl ?_ ?_; focus (exact ⟨o2, o1⟩))))
      refine jh_nil ?_
      refine jn_nil ?_
      repeat (refine wkB ?_; try intro _)
      by_cases hc : cmpRp (gi ys ((j + 1 : Nat) : Int)) (gi ys (j : Int)) < 0
      · rw [if_pos hc] at g1
        simp only [decide_eq_true hc]
        repeat (refine wkB ?_; try intro _)
        (refine j_seg [(true, [0, 1, 2, 3, 4, 5, 6, 7, 8]), (false, [9]), (true, [10, 11, 12]), (false, [13]), (true, [14])] [15, 16, 17] (h := ?_); refine wkS ?_)
        (repeat (refine wkH ?_))
        simp only [e1]
        refine jh_nil ?_
        refine eR rfl ?_ ?_
        · omega
        refine uS rfl rfl ?_ ?_
        · omega
        refine eR rfl ?_ ?_
        · rw [List.length_set]; omega
        refine je_nil ?_
        simp only [Int.toNat_natCast]
        repeat (first | (refine wkB ?_; try intro _) | (refine sC rfl rfl ?_ ?_; focus (exact ⟨by omega, by omega⟩)) | (refine sN rfl rfl ?_ ?_; (focus (exact ⟨by omega, by omega⟩)); intro _; (try simp only [List.cons_append, List.nil_append, List.append_nil])))
        simp only [e1]
        exact jx_loop (j, swpRp ys j) ⟨g1, by rw [swp_lenRp]; exact g2, by omega, fun u hu => g4 u (swp_memRp (by omega) hu)⟩ sbB slB (by show j < j + 1; omega)
      · rw [if_neg hc] at g1
        simp only [decide_eq_false hc]
        repeat (first | (refine wkB ?_; try intro _) | (refine sC rfl rfl ?_ ?_; focus (exact ⟨by omega, by omega⟩)) | (refine sN rfl rfl ?_ ?_; (focus (exact ⟨by omega, by omega⟩)); intro _; (try simp only [List.cons_append, List.nil_append, List.append_nil])))
        exact jx_loop (m + 1) (by omega) sbB (by rw [← g1]; exact List.Sublist.refl _) (by omega)
  · have hge : m = n - 1 := by have := of_decide_eq_false h; omega
    subst hge
    repeat (refine wkB ?_; try intro _)
    exact jx_end0 rfl (fun w hw => ⟨(), rfl, hw⟩)
abbrev SrtSRp (xs : List api_Report) (s : SlS e_api_Report 8 xs) : Type := { s' : SlS e_api_Report 8 (srtRp xs (xs.length - 1)) // vSl s' = vSl s }
theorem insS_specRp (w0 w : World) (L L1 : List Blk) (xs : List api_Report) (s : SlS e_api_Report 8 xs) (T : TypeId) [hd : OwnS T s L L1] (hl : xs.length ≤ 1048576) (hok : ∀ u ∈ xs, RpOk u) (hw : Own w0 L w) :
    Calls Tryz.prog 174 [vSl s, .int .i64 0, .int .i64 xs.length, vFn 92].toArray w (RetX w0 (SrtSRp xs s) (fun _ => .tuple #[]) (fun s' => mS T s'.1 ++ L1)) := by
  have hw1 := hw.perm hd.out
  rcases s.cases T with ⟨rfl, hv, hm⟩ | ⟨b, c, sp, h1, hv, hm, hne⟩
  · suffices h : Calls Tryz.prog 174 [.slice none 0 0, .int .i64 0, .int .i64 (([] : List api_Report).length : Nat), vFn 92].toArray w (RetX w0 (SrtSRp [] s) (fun _ => .tuple #[]) (fun s' => mS T s'.1 ++ L1)) by
      rw [← hv] at h
      exact h
    refine fn_introL Tryz.func174 rfl Tryz.ntmps174 rfl hw1 ?_
    repeat (refine wkB ?_; try intro _)
    refine j_loop (S := Unit) (fun _ => True) (fun _ => [(2, .int .i64 (([] : List api_Report).length : Nat)), (8, .int .i64 1)]) (fun _ => mS T s ++ L1) (fun _ => 0) () trivial sbB slB (fun _ _ => ?_)
    repeat (refine wkB ?_; try intro _)
    simp only [decide_eq_false (show ¬ (1 : Int) < ((([] : List api_Report).length : Nat) : Int) by simp)]
    repeat (refine wkB ?_; try intro _)
    exact jx_end0 rfl (fun w hw => ⟨⟨s, rfl⟩, rfl, hw⟩)
  · suffices h : Calls Tryz.prog 174 [.slice (some ⟨b, 0, none⟩) xs.length c, .int .i64 0, .int .i64 xs.length, vFn 92].toArray w (RetX w0 (SrtSRp xs s) (fun _ => .tuple #[]) (fun s' => mS T s'.1 ++ L1)) by
      rw [← hv] at h
      exact h
    rw [hm] at hw1
    have hsl := srt_lenRp xs (xs.length - 1)
    refine (ins_specRp w0 w L1 b c xs.length xs sp T rfl hl hok hw1).mono fun e w' ⟨_, he, hw'⟩ => ?_
    exact ⟨⟨SlS.at_ b c sp (by rw [hsl]; exact h1) (fun h0 => hne (List.length_eq_zero_iff.1 (by rw [h0, List.length_nil] at hsl; exact hsl.symm))), by rw [hv]; show Value.slice _ (srtRp xs (xs.length - 1)).length c = _; rw [hsl]⟩, he, hw'⟩
instance sx_insRp (w0 : World) (L L1 : List Blk) (xs : List api_Report) (s : SlS e_api_Report 8 xs) (T : TypeId) [hd : OwnS T s L L1] : SpecX Tryz.prog w0 L 174 [vSl s, .int .i64 0, .int .i64 xs.length, vFn 92] (SrtSRp xs s) (fun _ => .tuple #[]) (fun s' => mS T s'.1 ++ L1) (xs.length ≤ 1048576 ∧ ∀ u ∈ xs, RpOk u) := ⟨fun hp w hw => insS_specRp w0 w L L1 xs s T hp.1 hp.2 hw⟩
end Go.Vt
/- The sort of few events, walked. Conditions: those that each statement names. -/
set_option linter.unusedSimpArgs false
set_option linter.unusedVariables false
set_option maxHeartbeats 2000000
set_option maxRecDepth 100000
namespace Go.Vt
open Go.RowKit Go.Proofs
theorem pdqRp_spec (w0 w : World) (L L1 : List Blk) (xs : List api_Report) (s : SlS e_api_Report 8 xs) (T : TypeId) (lim : Int) [hd : OwnS T s L L1] (hl : xs.length ≤ 12) (hok : ∀ u ∈ xs, RpOk u) (hw : Own w0 L w) :
    Calls Tryz.prog 155 [vSl s, .int .i64 0, .int .i64 xs.length, .int .i64 lim, vFn 92].toArray w (RetX w0 (SrtSRp xs s) (fun _ => .tuple #[]) (fun s' => mS T s'.1 ++ L1)) := by
  refine fn_introL Tryz.func155 rfl Tryz.ntmps155 rfl hw ?_
  repeat (refine wkB ?_; try intro _)
  refine j_loop (S := Unit) (fun _ => True) (fun _ => [(0, vSl s), (1, .int .i64 0), (2, .int .i64 xs.length), (3, .int .i64 lim), (4, vFn 92), (10, .bool true), (11, .bool true)]) (fun _ => L) (fun _ => 0) () trivial sbB slB (fun _ _ => ?_)
  repeat (refine wkB ?_; try intro _)
  simp only [decide_eq_true (show (xs.length : Int) - 0 ≤ 12 by omega)]
  repeat (refine wkB ?_; try intro _)
  refine sZ rfl rfl ?_ ?_
  · exact ⟨by omega, hok⟩
  intro s'
  repeat (refine wkB ?_; try intro _)
  exact jx_ret0 rfl (fun w hw => ⟨s', rfl, hw⟩)
instance sx_pdqRp (w0 : World) (L L1 : List Blk) (xs : List api_Report) (s : SlS e_api_Report 8 xs) (T : TypeId) (lim : Int) [hd : OwnS T s L L1] : SpecX Tryz.prog w0 L 155 [vSl s, .int .i64 0, .int .i64 xs.length, .int .i64 lim, vFn 92] (SrtSRp xs s) (fun _ => .tuple #[]) (fun s' => mS T s'.1 ++ L1) (xs.length ≤ 12 ∧ ∀ u ∈ xs, RpOk u) := ⟨fun hp w hw => pdqRp_spec w0 w L L1 xs s T lim hp.1 hp.2 hw⟩
theorem sortRp_spec (w0 w : World) (L L1 : List Blk) (xs : List api_Report) (s : SlS e_api_Report 8 xs) (T : TypeId) [hd : OwnS T s L L1] (hl : xs.length ≤ 12) (hok : ∀ u ∈ xs, RpOk u) (hw : Own w0 L w) :
    Calls Tryz.prog 127 [vSl s, vFn 92].toArray w (RetX w0 (SrtSRp xs s) (fun _ => .tuple #[]) (fun s' => mS T s'.1 ++ L1)) := by
  refine fn_introL Tryz.func127 rfl Tryz.ntmps127 rfl hw ?_
  repeat (first | (refine wkB ?_; try intro _) | (refine sC rfl rfl ?_ ?_; focus (omega)) | (refine sN rfl rfl ?_ ?_; (focus (omega)); intro _; (try simp only [List.cons_append, List.nil_append, List.append_nil])))
  refine sZ rfl rfl ?_ ?_
  · exact ⟨hl, hok⟩
  intro s'
  repeat (refine wkB ?_; try intro _)
  exact jx_end0 rfl (fun w hw => ⟨s', rfl, hw⟩)
instance sx_sortRp (w0 : World) (L L1 : List Blk) (xs : List api_Report) (s : SlS e_api_Report 8 xs) (T : TypeId) [hd : OwnS T s L L1] : SpecX Tryz.prog w0 L 127 [vSl s, vFn 92] (SrtSRp xs s) (fun _ => .tuple #[]) (fun s' => mS T s'.1 ++ L1) (xs.length ≤ 12 ∧ ∀ u ∈ xs, RpOk u) := ⟨fun hp w hw => sortRp_spec w0 w L L1 xs s T hp.1 hp.2 hw⟩
end Go.Vt
/- Codes within a range over a function, under the program logic: the same rules inside a fence, in a round or none; the call of yield. Conditions: those that each rule names. -/
set_option linter.unusedSimpArgs false
set_option linter.unusedVariables false
set_option maxHeartbeats 2000000
set_option linter.unusedSectionVars false
namespace Go.Vt
open Go.RowKit
/-- The fence around all functions; 'r': the round in which the code stands. -/
def Fr (r : Option Nat) : Fence := { Fence.wide with round := r }
section
variable {P : Program} {w0 : World} {n : Nat} {ops : Array Oper} {L : List Blk} {E : Env} {Q : Exit → Act → World → Prop} {r : Option Nat} {N : Nat}
def noDef (o : Oper) : Bool := match o.op with
  | .defer _ => false
  | _ => true
theorem noDef_ne {o : Oper} (h : noDef o = true) (c : Call) : o.op ≠ .defer c := fun e => by
  unfold noDef at h
  rw [e] at h
  cases h
theorem callsI {f : FuncId} {args : Array Value} {w : World} {R : Ending → World → Prop} (h : Calls P f args w R) : CallsIn (Fr r) N P f args w R := (callsIn_wide (n := N)).2 h
theorem callsO {f : FuncId} {args : Array Value} {w : World} {R : Ending → World → Prop} (h : CallsIn (Fr r) N P f args w R) : Calls P f args w R := (callsIn_wide (n := N)).1 h
/-- No way out lets the program outgrow its memory. -/
def NoOut (Q : Exit → Act → World → Prop) : Prop := ∀ a w, ¬ Q .outgrown a w
theorem upon_in {o : Oper} {a : Act} {K : Act → World → Prop} {res : Result Next} (h : o.upon P a K Q res) : o.uponIn (Fr r) N P a K Q res := by
  cases res with
  | ok x w' =>
    cases x <;> simp only [Oper.upon] at h <;> simp only [Oper.uponIn]
    case value => exact h
    case skip => exact h
    case defer => exact h
    case enter => exact ⟨(fun hd => by cases hd), callsI h⟩
    case row => exact ⟨(fun hd => by cases hd), fun c cs _ => let ⟨v, w', r, s⟩ := h c cs; ⟨v, w', r, stepsIn_wide.2 s⟩⟩
  | halt x w' => cases x <;> simp only [Oper.upon] at h <;> simp only [Oper.uponIn] <;> exact h
theorem wpI_of {o : Oper} {a : Act} {w : World} {K : Act → World → Prop} (hd : noDef o = true) (h : o.wp P a w K Q) : o.wpIn (Fr r) N P a w K Q := by
  refine ⟨fun f _ => trivial, ?_⟩
  rw [Oper.semAt_eq _ _ _ (noDef_ne hd)]
  exact upon_in h
theorem wpListI_of (hQ : NoOut Q) : ∀ (l : List Oper) (a : Act) (w : World), l.all noDef = true → wpList P ops Q l a w → wpListIn (Fr r) N P ops Q l a w
  | [], _, _, _, h => h
  | o :: l, a, w, hd, h => by
    simp only [List.all_cons, Bool.and_eq_true] at hd
    simp only [wpList] at h
    simp only [wpListIn]
    split at h
    · rename_i hw
      rw [if_pos hw]
      rcases h with h | ⟨_, a0, w0, h⟩
      · exact Oper.wpIn_mono (fun a w h => wpListI_of hQ l a w hd.2 h) (wpI_of hd.1 h)
      · exact (hQ _ _ h).elim
    · rename_i hw
      rw [if_neg hw]
      exact ⟨fun f _ => trivial, wpListI_of hQ l _ _ hd.2 h⟩
/-- Lists of operations, codes: from what is known on. -/
structure JOI (r : Option Nat) (N : Nat) (P : Program) (w0 : World) (n : Nat) (ops : Array Oper) (Q : Exit → Act → World → Prop) (l : List Oper) (E : Env) (L : List Blk) : Prop where
  out : ∀ a w, Rep n E a → Own w0 L w → wpListIn (Fr r) N P ops Q l a w
structure JI (r : Option Nat) (N : Nat) (P : Program) (w0 : World) (n : Nat) (c : Code) (Q : Exit → Act → World → Prop) (E : Env) (L : List Blk) : Prop where
  out : ∀ a w, Rep n E a → Own w0 L w → c.wpIn (Fr r) N P Q a w
theorem joi_of {l : List Oper} (hQ : NoOut Q) (hd : l.all noDef = true) (h : JO P w0 n ops Q l E L) : JOI r N P w0 n ops Q l E L := ⟨fun a w ha hw => wpListI_of hQ l a w hd (h.out a w ha hw)⟩
def ThenI (r : Option Nat) (N : Nat) (P : Program) (c : Code) (Q : Exit → Act → World → Prop) : Exit → Act → World → Prop := Exit.then (c.wpIn (Fr r) N P Q) Q
theorem ji_region {l : List Oper} {id : Nat} (h : JOI r N P w0 n l.toArray Q l E L) : JI r N P w0 n (.region id l.toArray false) Q E L := ⟨fun a w ha hw => wpIn_region_lit (h.out a w ha hw)⟩
theorem ji_seq {x y : Code} (h : JI r N P w0 n x (ThenI r N P y Q) E L) : JI r N P w0 n (.seq x y) Q E L := ⟨fun a w ha hw => wpIn_seq (h.out a w ha hw)⟩
theorem ji_skip (h : JX w0 n .normal Q E L) : JI r N P w0 n .skip Q E L := ⟨fun a w ha hw => wpIn_skip (h.out a w ha hw)⟩
theorem ji_ret (h : JX w0 n .ret Q E L) : JI r N P w0 n .ret Q E L := ⟨fun a w ha hw => wpIn_ret (h.out a w ha hw)⟩
theorem ji_exit {id : Nat} (h : JX w0 n (.exit id) Q E L) : JI r N P w0 n (.exit id) Q E L := ⟨fun a w ha hw => wpIn_exit (h.out a w ha hw)⟩
theorem ji_block {id : Nat} {c : Code} (h : JI r N P w0 n c (Exit.inBlock id Q) E L) : JI r N P w0 n (.block id c) Q E L := ⟨fun a w ha hw => wpIn_block (h.out a w ha hw)⟩
theorem ji_cond {c : Operand} {x y : Code} {t : Bool} (hc : Env.ev E c = some (.bool t)) (ht : t = true → JI r N P w0 n x Q E L) (hf : t = false → JI r N P w0 n y Q E L) : JI r N P w0 n (.cond c x y) Q E L := ⟨fun a w ha hw => by
  cases t with
  | true => exact wpIn_cond_true (ha.ev hc) ((ht rfl).out a w ha hw)
  | false => exact wpIn_cond_false (ha.ev hc) ((hf rfl).out a w ha hw)⟩
theorem jxi_then {y : Code} (h : JI r N P w0 n y Q E L) : JX w0 n .normal (ThenI r N P y Q) E L := ⟨h.out⟩
theorem jxi_then_exit {y : Code} {id : Nat} (h : JX w0 n (.exit id) Q E L) : JX w0 n (.exit id) (ThenI r N P y Q) E L := ⟨h.out⟩
/-- A code outside every round, walked as everywhere, whatever comes behind it. -/
theorem ji_of {c : Code} (h : J P w0 n c Q E L) : JI none N P w0 n c Q E L := ⟨fun a w ha hw => wpIn_wide.2 (h.out a w ha hw)⟩
/-- What a round of a loop must come to, each from a world of its own. -/
def LoopI {S : Type} (n : Nat) (I : S → World → Prop) (Es : S → Env) (mu : S → Nat) (s : S) (Q : Exit → Act → World → Prop) : Exit → Act → World → Prop
  | .normal, a, w => ∃ t, I t w ∧ Rep n (Es t) a ∧ mu t < mu s
  | e, a, w => Q e a w
theorem ji_loop {S : Type} (I : S → World → Prop) (Es : S → Env) (mu : S → Nat) (s0 : S) {c : Code} (h0 : ∀ w, Own w0 L w → I s0 w) (hE : Sub E (Es s0))
    (round : ∀ s w1, I s w1 → JI r N P w1 n c (LoopI n I Es mu s Q) (Es s) []) : JI r N P w0 n (.loop c) Q E L := by
  refine ⟨fun a w ha hw => ?_⟩
  have hmin : ∀ (a : Act) (w : World), (∃ s, I s w ∧ Rep n (Es s) a) → ∃ s, (I s w ∧ Rep n (Es s) a) ∧ ∀ t, (I t w ∧ Rep n (Es t) a) → mu s ≤ mu t := by
    intro a w ⟨s, hs⟩
    obtain ⟨k, ⟨t, ht, hk⟩, hm⟩ := least (fun k => ∃ t, (I t w ∧ Rep n (Es t) a) ∧ mu t = k) (mu s) ⟨s, hs, rfl⟩
    exact ⟨t, ht, fun t' ht' => by rw [hk]; exact hm _ ⟨t', ht', rfl⟩⟩
  classical
  let pick : Act → World → Nat := fun a w => if h : ∃ s, I s w ∧ Rep n (Es s) a then mu (Classical.choose (hmin a w h)) else 0
  refine wpIn_loop (fun a w => ∃ s, I s w ∧ Rep n (Es s) a) pick ⟨s0, h0 w hw, ha.sub hE⟩ fun a' w' hI => ?_
  have hsp := Classical.choose_spec (hmin a' w' hI)
  have hr := (round _ _ hsp.1.1).out a' w' hsp.1.2 (Own.start w')
  refine wpIn_mono hr fun e a2 w2 hq => ?_
  cases e with
  | normal =>
    obtain ⟨t, ht, hr2, hlt⟩ := hq
    refine ⟨⟨t, ht, hr2⟩, ?_⟩
    have hex : ∃ s, I s w2 ∧ Rep n (Es s) a2 := ⟨t, ht, hr2⟩
    have h2 := (Classical.choose_spec (hmin a2 w2 hex)).2 t ⟨ht, hr2⟩
    simp only [pick, dif_pos hex, dif_pos hI]
    omega
  | _ => exact hq
theorem jxi_loop {S : Type} {I : S → World → Prop} {Es : S → Env} {mu : S → Nat} {s : S} (t : S) (ht : ∀ w, Own w0 L w → I t w) (hE : Sub E (Es t)) (hmu : mu t < mu s) : JX w0 n .normal (LoopI n I Es mu s Q) E L :=
  ⟨fun _ w ha hw => ⟨t, ht w hw, ha.sub hE, hmu⟩⟩
theorem jxi_loop_ret {S : Type} {I : S → World → Prop} {Es : S → Env} {mu : S → Nat} {s : S} (h : JX w0 n .ret Q E L) : JX w0 n .ret (LoopI n I Es mu s Q) E L := ⟨h.out⟩
theorem jxi_loop_exit {S : Type} {I : S → World → Prop} {Es : S → Env} {mu : S → Nat} {s : S} {id : Nat} (h : JX w0 n (.exit id) Q E L) : JX w0 n (.exit id) (LoopI n I Es mu s Q) E L := ⟨h.out⟩
theorem joi_yield {l : Nat} {args : Array Value} {o : Oper} {rest : List Oper} {R : Ending → World → Prop} (hg : guardB ops E o.guard = some true) (hd : dstOk n o.dst = true) (hdef : noDef o = true)
    (hr : ∀ a w, Rep n E a → (execOp a.eval o).run P w = (Instr.yield l args).run P w)
    (hY : ∀ w, Own w0 L w → YieldAt (Fr r) (N - 1) P l args w R)
    (h : ∀ e w', R e w' → ∃ v, e = .returned v ∧ JOI r N P w' n ops Q rest (Env.put E o.dst v) []) : JOI r N P w0 n ops Q (o :: rest) E L := by
  refine ⟨fun a w ha hw => ?_⟩
  obtain ⟨fn, tmps, assign, body, hy, hR⟩ := hY w hw
  refine wpListIn_step fun K hK => ?_
  rw [if_pos (guardB_spec ha hg)]
  refine ⟨fun f _ => trivial, ?_⟩
  rw [Oper.semAt_eq _ _ _ (noDef_ne hdef), hr a w ha, hy]
  refine ⟨(fun hd => by cases hd), hR.mono fun e w' he => ?_⟩
  obtain ⟨v, rfl, hj⟩ := h e w' he
  exact hK _ _ (hj.out _ _ (ha.put _ _ hd) (Own.start w'))
theorem run_callY {l : Nat} {g : Operand} {xs : List Operand} {vs : List Value} {ats : Array TypeId} {a : Act} {w : World} {d : Option Tmp} {ty : TypeId} {pos : String} {aft : Array Edge} {gd : Option (Nat × Bool)} (ha : Rep n E a) (hg : Env.ev E g = some (.func (.yield l) #[] #[])) (hl : Env.evs E xs = some vs) :
    (execOp a.eval ⟨d, .call ⟨.value g, xs.toArray, ats⟩, ty, pos, aft, gd⟩).run P w = (Instr.yield l vs.toArray).run P w := by
  have h1 : xs.toArray.map a.eval = vs.toArray := by rw [← ha.evs xs vs hl]; simp
  simp only [execOp, resolve, h1, ha.ev hg, Deferred.ofValue, Sem.run_bind, Sem.run_pure, Result.andThen, invoke]
  rw [show (#[] ++ vs.toArray : Array Value) = vs.toArray from Array.empty_append]
theorem fnI_intro {f : FuncId} {fn : Func} {c : Code} {l : List Value} {w : World} {R : Ending → World → Prop} (hf : P.funcs[f]? = some fn) (hb : fn.body = some c) (hn : fn.ntmps = n) (hl : Nat.ble l.length n = true) [hE : EnvC l E]
    (h : JI none N P w n c (bodyPost P fn R) E []) : CallsIn (Fr none) N P f l.toArray w R := by
  rw [← hE.out] at h
  have hl' : l.length ≤ n := Nat.le_of_ble_eq_true hl
  refine callsIn_of_wp hf hb trivial (h.out _ _ ⟨by simp [hn]; omega, rfl, fun k v hk => ?_⟩ (Own.start w))
  obtain ⟨_, h2⟩ := find_envOf l 0 k v hk
  have hlt : k < l.length := by
    rcases Nat.lt_or_ge k l.length with h' | h'
    · exact h'
    · simp [List.getElem?_eq_none h'] at h2
  simp only [Nat.sub_zero] at h2
  rw [Array.getElem?_append_left (by simpa using hlt)]
  simpa using h2
theorem fnM_intro {f : FuncId} {fn : Func} {c : Code} {l : List Value} {w : World} {R : Ending → World → Prop} (hf : P.funcs[f]? = some fn) (hb : fn.body = some c) (hn : fn.ntmps = n) (hl : Nat.ble l.length n = true) [hE : EnvC l E]
    (h : JI none N P w n c (bodyPostM (Fr none) N P fn R) E []) : Calls P f l.toArray w R := by
  rw [← hE.out] at h
  have hl' : l.length ≤ n := Nat.le_of_ble_eq_true hl
  refine callsO (r := none) (N := N) (callsIn_of_wp_marks hf hb trivial (h.out _ _ ⟨by simp [hn]; omega, rfl, fun k v hk => ?_⟩ (Own.start w)))
  obtain ⟨_, h2⟩ := find_envOf l 0 k v hk
  have hlt : k < l.length := by
    rcases Nat.lt_or_ge k l.length with h' | h'
    · exact h'
    · simp [List.getElem?_eq_none h'] at h2
  simp only [Nat.sub_zero] at h2
  rw [Array.getElem?_append_left (by simpa using hlt)]
  simpa using h2
end
end Go.Vt
/- The next entry of a map within a range over a function, under the program logic. Conditions: those that each rule names. -/
set_option linter.unusedSimpArgs false
set_option linter.unusedVariables false
set_option maxHeartbeats 2000000
set_option linter.unusedSectionVars false
namespace Go.Vt
open Go.RowKit
open Go.ChangeMaps (setBlock)
section
variable {P : Program} {w0 : World} {n N : Nat} {ops : Array Oper} {L : List Blk} {E : Env} {rd : Option Nat}
variable {Q : Exit → Act → World → Prop} {rest : List Oper}
variable {ty : TypeId} {pos : String} {aft : Array Edge} {gd : Option (Nat × Bool)} {t : Tmp} {x : Operand} {b r : Nat}
variable {κ α : Type} [DecidableEq κ] {ek : κ → Value} {ev : α → Value} {l : List (κ × α)} {seen : List Nat}
/-- The next entry, whichever; or none is left. The iterator lies in memory that the walk does not own. -/
theorem joi_next (hg : guardB ops E gd = some true) (hd : Nat.blt t n = true) [hx : IsC (evl E x) (.pointer (some ⟨r, 0, none⟩))] (hr : ∀ w, Own w0 L w → w.heap[r]? = some (itO b l.length seen)) (hb : ∀ w, Own w0 L w → w.heap[b]? = some (mapO ek ev l))
    (h0 : (∀ i, i < l.length → i ∈ seen) → JOI rd N P w0 n ops Q rest ((t, .tuple #[.bool false]) :: E) L)
    (h1 : ∀ w w1 : World, Own w0 L w → (w1 = w ∨ w1 = w.drew) → ∀ i, (hi : i < l.length) → i ∉ seen → JOI rd N P (setBlock w1 r (itO b l.length (seen ++ [i]))) n ops Q rest ((t, .tuple #[.bool true, ek l[i].1, ev l[i].2]) :: E) []) :
    JOI rd N P w0 n ops Q (⟨some t, .next x false, ty, pos, aft, gd⟩ :: rest) E L := by
  refine ⟨fun a w ha hw => ?_⟩
  refine wpListIn_step fun K hK => ?_
  rw [if_pos (guardB_spec ha hg)]
  refine ⟨fun f _ => trivial, ?_⟩
  rw [Oper.semAt_eq _ _ _ (fun c e => by cases e)]
  have e1 := ha.ev (isE (h := hx))
  rcases run_nextM (P := P) (hr w hw) (hb w hw) ty with ⟨h2, h3⟩ | ⟨i, hi, hs, w1, hw1, h3⟩
  · have e : (execOp a.eval ⟨some t, .next x false, ty, pos, aft, gd⟩).run P w = .ok (.value (.tuple #[.bool false])) w := by simp only [execOp, e1, Sem.run_bind, h3, Result.andThen, Sem.run_pure]
    rw [e]
    exact hK _ _ ((h0 h2).out _ _ (ha.put (some t) _ hd) hw)
  · have e : (execOp a.eval ⟨some t, .next x false, ty, pos, aft, gd⟩).run P w = .ok (.value (.tuple #[.bool true, ek l[i].1, ev l[i].2])) (setBlock w1 r (itO b l.length (seen ++ [i]))) := by simp only [execOp, e1, Sem.run_bind, h3, Result.andThen, Sem.run_pure]
    rw [e]
    exact hK _ _ ((h1 w w1 hw hw1 i hi hs).out _ _ (ha.put (some t) _ hd) (Own.start _))
theorem itO_walk (b n : Nat) (seen : List Nat) : (itO b n seen).isWalk = true := rfl
/-- What the next entry turns. -/
theorem grown_next {w w1 : World} {o : Obj} (hw : w1 = w ∨ w1 = w.drew) : w.grownBy (setBlock w1 r o) (some r) := by
  rcases hw with rfl | rfl
  · exact ⟨rfl, rfl, rfl, by simp [setBlock], fun k _ hk => Array.getElem?_setIfInBounds_ne (fun e => hk (by rw [e]))⟩
  · have e : w.drew.heap = w.heap := rfl
    exact ⟨rfl, rfl, rfl, by simp only [setBlock, Array.size_setIfInBounds, e]; exact Nat.le_refl _, fun k _ hk => by simp only [setBlock, e]; exact Array.getElem?_setIfInBounds_ne (fun e => hk (by rw [e]))⟩
theorem heap_next {w w1 : World} {o o0 : Obj} (hw : w1 = w ∨ w1 = w.drew) (h : w.heap[r]? = some o0) : (setBlock w1 r o).heap[r]? = some o := by
  have hl := lt_of_block h
  rcases hw with rfl | rfl
  · simp [setBlock, hl]
  · have e : w.drew.heap = w.heap := rfl
    simp [setBlock, e, hl]
end
section
theorem seen_all {n : Nat} {seen : List Nat} (hn : seen.Nodup) (hl : ∀ i ∈ seen, i < n) (ha : ∀ i, i < n → i ∈ seen) : seen.Perm (List.range n) :=
  (List.perm_ext_iff_of_nodup hn List.nodup_range).2 fun i => by rw [List.mem_range]; exact ⟨hl i, ha i⟩
/-- What has been seen of a list. -/
def seenL {α : Type} (l : List α) (seen : List Nat) : List α := seen.filterMap fun i => l[i]?
theorem seenL_snoc {α : Type} (l : List α) (seen : List Nat) (i : Nat) (h : i < l.length) : seenL l (seen ++ [i]) = seenL l seen ++ [l[i]] := by
  simp [seenL, List.filterMap_append, h]
theorem seenL_len {α : Type} (l : List α) {seen : List Nat} (h : ∀ i ∈ seen, i < l.length) : (seenL l seen).length = seen.length := by
  induction seen with
  | nil => rfl
  | cons i s ih =>
    have hi := h i (.head _)
    have := ih fun j hj => h j (.tail _ hj)
    simp only [seenL, List.filterMap_cons, List.getElem?_eq_getElem hi, List.length_cons]
    exact congrArg Nat.succ this
theorem seenL_range {α : Type} (l : List α) : seenL l (List.range l.length) = l := by
  have key : ∀ (m : Nat), m ≤ l.length → seenL l (List.range m) = l.take m := by
    intro m
    induction m with
    | zero => intro _; simp [seenL]
    | succ m ih =>
      intro hm
      rw [List.range_succ, seenL_snoc l _ m hm, ih (by omega), List.take_succ_eq_append_getElem hm]
  rw [key _ (Nat.le_refl _), List.take_length]
theorem seenL_perm {α : Type} {l : List α} {seen : List Nat} (hn : seen.Nodup) (hl : ∀ i ∈ seen, i < l.length) (ha : ∀ i, i < l.length → i ∈ seen) : (seenL l seen).Perm l := by
  have := (seen_all hn hl ha).filterMap fun i => l[i]?
  have e := seenL_range l
  unfold seenL at e ⊢
  rw [e] at this
  exact this
theorem seen_len : ∀ {n : Nat} {seen : List Nat}, seen.Nodup → (∀ i ∈ seen, i < n) → seen.length ≤ n
  | 0, [], _, _ => Nat.le_refl _
  | 0, i :: _, _, hl => absurd (hl i (.head _)) (by omega)
  | n + 1, seen, hn, hl => by
    by_cases h : n ∈ seen
    · have h1 := seen_len (n := n) (hn.erase n) fun i hi => by
        have h2 := hl i (List.mem_of_mem_erase hi)
        have h3 : i ≠ n := fun e => by
          subst e
          exact (hn.not_mem_erase) hi
        omega
      rw [List.length_erase_of_mem h] at h1
      omega
    · exact Nat.le_succ_of_le (seen_len hn fun i hi => by
        have h2 := hl i hi
        have h3 : i ≠ n := fun e => h (e ▸ hi)
        omega)
end
end Go.Vt
/- Intakes in memory: new ones, and what is added. Conditions: those that each statement names. -/
set_option linter.unusedSimpArgs false
set_option linter.unusedVariables false
set_option maxHeartbeats 2000000
set_option maxRecDepth 100000
namespace Go.Vt
open Go.RowKit Go.Proofs
instance (priority := 50) atCons (w0 : World) (e : Blk) (L : List Blk) (b : Nat) (cs : Array Value) (T : TypeId) [h : AtC w0 L b cs T] : AtC w0 (e :: L) b cs T := ⟨fun w hw => h.out w (hw.sub (.cons _ (.refl _)))⟩
instance (priority := 50) atOCons (w0 : World) (e : Blk) (L : List Blk) (b : Nat) (o : Obj) [h : AtO w0 L b o] : AtO w0 (e :: L) b o := ⟨fun w hw => h.out w (hw.sub (.cons _ (.refl _)))⟩
instance (priority := 40) yk_loadAt {P : Program} {w0 : World} {n : Nat} {L : List Blk} {E : Env} {x : Operand} {T T0 : TypeId} {v : Value} {b off : Nat} {cs : Array Value} [IsC (evl E x) (.pointer (some ⟨b, off, none⟩))] [h : AtC w0 L b cs T0] [hv : LdC P T cs off v] : YlC P w0 n L E (.load T x) v := ⟨fun _ _ _ _ _ => yl_loadA isE h.out hv.out⟩
class DelO (b : Nat) (L : List Blk) (o : outParam Obj) (T : outParam TypeId) (L1 : outParam (List Blk)) : Prop where
  out : L.Perm (⟨b, .obj o, T⟩ :: L1)
instance (priority := high) delOHere (b : Nat) (o : Obj) (T : TypeId) (L : List Blk) : DelO b (⟨b, .obj o, T⟩ :: L) o T L := ⟨.refl _⟩
instance (priority := low) delOThere (b : Nat) (e : Blk) (o : Obj) (T : TypeId) (L L1 : List Blk) [h : DelO b L o T L1] : DelO b (e :: L) o T (e :: L1) := ⟨(h.out.cons e).trans (.swap _ _ _)⟩
instance nth10 (a : Value) : NthC #[a] 0 a := ⟨rfl⟩
instance keyRp : KeyC Tryz.prog 34 (kA e_api_Report) where
  chk e x w := by kernel_rfl
  same := same_flat (fun x => rfl)
  find ev l x w := by
    obtain ⟨fs, hf⟩ : ∃ fs, Tryz.prog.underlying 34 = some (.struct fs) := ⟨_, Tryz.underlying34⟩
    exact find_struct hf (run_eql_of fun x y w => (inferInstance : BinC Tryz.prog .eql 34 (.agg (e_api_Report x)) (.agg (e_api_Report y)) (.bool (decide (x = y)))).run w) ev l x w
abbrev mRp (l : List (api_Report × Bool)) : Obj := mapO (kA e_api_Report) Value.bool l
abbrev mEx (l : List (api_Exchange × Bool)) : Obj := mapO (kA e_api_Exchange) Value.bool l
instance mapT_Rp : MapT Tryz.prog 113 (kA e_api_Report) Value.bool := ⟨trivial⟩
instance mapT_Ex : MapT Tryz.prog 114 (kA e_api_Exchange) Value.bool := ⟨trivial⟩
instance und_mRp : UndC Tryz.prog 113 (.map 34 4) := ⟨by kernel_rfl⟩
instance und_mEx : UndC Tryz.prog 114 (.map 119 4) := ⟨by kernel_rfl⟩
instance und_pIn : UndC Tryz.prog 68 (.pointer 116) := ⟨by kernel_rfl⟩
def vIn (m1 m2 : Nat) : Array Value := #[.map (some m1), .map (some m2)]
instance bd_In (m1 m2 : Nat) : BdC Tryz.prog 116 [(0, .map (some m1)), (1, .map (some m2))] (.agg (vIn m1 m2)) := ⟨fun w => by kernel_rfl⟩
instance ld_In0 (m1 m2 : Nat) : LdC Tryz.prog 113 (vIn m1 m2) 0 (.map (some m1)) := ⟨ldv_one (by kernel_rfl) (by kernel_rfl)⟩
instance ld_In1 (m1 m2 : Nat) : LdC Tryz.prog 114 (vIn m1 m2) 1 (.map (some m2)) := ⟨ldv_one (by kernel_rfl) (by kernel_rfl)⟩
instance fo_In0 : FaO Tryz.prog 116 0 0 0 := ⟨fun b w => by kernel_rfl⟩
instance fo_In1 : FaO Tryz.prog 116 1 0 1 := ⟨fun b w => by kernel_rfl⟩
theorem new_spec (w : World) : Calls Tryz.prog 29 ([] : List Value).toArray w (RetM (Nat × Nat × Nat) (fun s => .pointer (some ⟨s.1, 0, none⟩)) (fun s => [⟨s.1, vIn s.2.1 s.2.2, 116⟩, ⟨s.2.2, .obj (mEx []), 114⟩, ⟨s.2.1, .obj (mRp []), 113⟩]) w) := by
  refine fn_intro Tryz.func29 rfl Tryz.ntmps29 rfl ?_
  repeat (first | (refine wkB ?_; try intro _) | (refine sC rfl rfl ?_ ?_; focus (first | exact trivial | assumption | constructor <;> assumption | exact mb2 rfl rfl | exact mb4 rfl rfl rfl rfl)) | (refine sN rfl rfl ?_ ?_; (focus (first | exact trivial | assumption | constructor <;> assumption | exact mb2 rfl rfl | exact mb4 rfl rfl rfl rfl)); intro _; (try simp only [List.cons_append, List.nil_append, List.append_nil])) | refine sMu rfl ?_ | (refine sMm rfl rfl ?_; intro _) | (refine sRg rfl rfl ?_; intro _))
  rename_i b1 b2 b3
  exact jx_ret_tmp rfl rfl (fun w hw => ⟨(b3, b1, b2), rfl, hw⟩)
instance sr_new (w0 : World) (L : List Blk) : SpecR Tryz.prog w0 L 29 [] (Nat × Nat × Nat) (fun s => .pointer (some ⟨s.1, 0, none⟩)) (fun s => [⟨s.1, vIn s.2.1 s.2.2, 116⟩, ⟨s.2.2, .obj (mEx []), 114⟩, ⟨s.2.1, .obj (mRp []), 113⟩]) True := ⟨fun _ w _ => new_spec w⟩
def cpy {κ α : Type} [DecidableEq κ] (l : List (κ × α)) (q : List (κ × α)) : List (κ × α) := q.foldl (fun m p => mput m p.1 p.2) l
theorem cpy_snoc {κ α : Type} [DecidableEq κ] (l q : List (κ × α)) (p : κ × α) : cpy l (q ++ [p]) = mput (cpy l q) p.1 p.2 := by simp [cpy, List.foldl_append]
structure SeenOk (n : Nat) (seen : List Nat) : Prop where
  nd : seen.Nodup
  lt : ∀ i ∈ seen, i < n
theorem SeenOk.snoc {n i : Nat} {seen : List Nat} (h : SeenOk n seen) (hi : i < n) (hs : i ∉ seen) : SeenOk n (seen ++ [i]) :=
  ⟨List.nodup_append.2 ⟨h.nd, by simp, fun a ha b hb => by rw [List.mem_singleton] at hb; rintro rfl; exact hs (hb ▸ ha)⟩, fun j hj => by
    rcases List.mem_append.1 hj with h1 | h1
    · exact h.lt j h1
    · rw [List.mem_singleton] at h1; omega⟩
theorem copyRp_spec (w0 w : World) (L1 : List Blk) (b1 b2 : Nat) (l1 l2 : List (api_Report × Bool)) [h2 : AtO w0 L1 b2 (mRp l2)] (hw : Own w0 (⟨b1, .obj (mRp l1), 113⟩ :: L1) w) :
    Calls Tryz.prog 84 [.map (some b1), .map (some b2)].toArray w (RetX w0 { q : List (api_Report × Bool) // q.Perm l2 } (fun _ => .tuple #[]) (fun q => ⟨b1, .obj (mRp (cpy l1 q.1)), 113⟩ :: L1)) := by
  refine fn_introL Tryz.func84 rfl Tryz.ntmps84 rfl hw ?_
  repeat (first | (refine wkB ?_; try intro _) | (refine sC rfl rfl ?_ ?_; focus (first | exact trivial | assumption | constructor <;> assumption | exact mb2 rfl rfl | exact mb4 rfl rfl rfl rfl)) | (refine sN rfl rfl ?_ ?_; (focus (first | exact trivial | assumption | constructor <;> assumption | exact mb2 rfl rfl | exact mb4 rfl rfl rfl rfl)); intro _; (try simp only [List.cons_append, List.nil_append, List.append_nil])) | refine sMu rfl ?_ | (refine sMm rfl rfl ?_; intro _) | (refine sRg rfl rfl ?_; intro _))
  rename_i r
  refine j_loop (S := List Nat) (fun s => SeenOk l2.length s) (fun _ => [(0, .map (some b1)), (7, .pointer (some ⟨r, 0, none⟩))]) (fun s => ⟨r, .obj (itO b2 l2.length s), 113⟩ :: ⟨b1, .obj (mRp (cpy l1 (seenL l2 s))), 113⟩ :: L1) (fun s => l2.length - s.length) [] ⟨List.nodup_nil, fun i hi => by cases hi⟩ sbB slB (fun s hs => ?_)
  have hlen := seen_len hs.nd hs.lt
  refine cX ?_
  refine cX ?_
  refine sNx rfl rfl rfl (fun hall => ?h0) (fun i hi hni => ?h1)
  case h0 =>
    repeat (first | (refine wkB ?_; try intro _) | (refine sC rfl rfl ?_ ?_; focus (first | exact trivial | assumption | constructor <;> assumption | exact mb2 rfl rfl | exact mb4 rfl rfl rfl rfl)) | (refine sN rfl rfl ?_ ?_; (focus (first | exact trivial | assumption | constructor <;> assumption | exact mb2 rfl rfl | exact mb4 rfl rfl rfl rfl)); intro _; (try simp only [List.cons_append, List.nil_append, List.append_nil])) | refine sMu rfl ?_ | (refine sMm rfl rfl ?_; intro _) | (refine sRg rfl rfl ?_; intro _))
    exact jx_end0 rfl (fun w hw => ⟨⟨seenL l2 s, seenL_perm hs.nd hs.lt hall⟩, rfl, hw.sub (.cons _ (.refl _))⟩)
  case h1 =>
    have hs' := hs.snoc hi hni
    have hlen' := seen_len hs'.nd hs'.lt
    rw [List.length_append, List.length_singleton] at hlen'
    repeat (first | (refine wkB ?_; try intro _) | (refine sC rfl rfl ?_ ?_; focus (first | exact trivial | assumption | constructor <;> assumption | exact mb2 rfl rfl | exact mb4 rfl rfl rfl rfl)) | (refine sN rfl rfl ?_ ?_; (focus (first | exact trivial | assumption | constructor <;> assumption | exact mb2 rfl rfl | exact mb4 rfl rfl rfl rfl)); intro _; (try simp only [List.cons_append, List.nil_append, List.append_nil])) | refine sMu rfl ?_ | (refine sMm rfl rfl ?_; intro _) | (refine sRg rfl rfl ?_; intro _))
    refine jx_loop (s ++ [i]) hs' sbB ?_ (by simp only [List.length_append, List.length_singleton]; omega)
    rw [seenL_snoc _ _ _ hi, cpy_snoc, gi_nat hi]
    exact List.sublist_cons_self _ _
instance sx_copyRp (w0 : World) (L L1 : List Blk) (b1 b2 : Nat) (l1 l2 : List (api_Report × Bool)) [hd : DelO b1 L (mRp l1) 113 L1] [h2 : AtO w0 L1 b2 (mRp l2)] : SpecX Tryz.prog w0 L 84 [.map (some b1), .map (some b2)] { q : List (api_Report × Bool) // q.Perm l2 } (fun _ => .tuple #[]) (fun q => ⟨b1, .obj (mRp (cpy l1 q.1)), 113⟩ :: L1) True := ⟨fun _ w hw => copyRp_spec w0 w L1 b1 b2 l1 l2 (hw.perm hd.out)⟩
end Go.Vt
/- Reports are added to an intake. Conditions: those that each statement names. -/
set_option linter.unusedSimpArgs false
set_option linter.unusedVariables false
set_option maxHeartbeats 2000000
set_option maxRecDepth 100000
namespace Go.Vt
open Go.RowKit Go.Proofs
/-- What is new. -/
def nwS (R acc : List (api_Report × Bool)) (r : api_Report) : List (api_Report × Bool) := if (mget R r).getD false = true then acc else mput acc r true
def nwR (R : List (api_Report × Bool)) (rs : List api_Report) : List (api_Report × Bool) := rs.foldl (nwS R) []
theorem mput_len {κ α : Type} [DecidableEq κ] : ∀ (l : List (κ × α)) (x : κ) (v : α), (mput l x v).length ≤ l.length + 1
  | [], _, _ => by simp [mput]
  | p :: l, x, v => by
    have := mput_len l x v
    simp only [mput]
    split <;> simp <;> omega
theorem nwR_take {R : List (api_Report × Bool)} {rs : List api_Report} {m : Nat} (h : m < rs.length) : nwR R (rs.take (m + 1)) = nwS R (nwR R (rs.take m)) (gi rs (m : Int)) := by
  rw [List.take_succ_eq_append_getElem h, nwR, List.foldl_append, gi_nat h]
  rfl
theorem nwR_len (R : List (api_Report × Bool)) : ∀ (rs : List api_Report), (nwR R rs).length ≤ rs.length := by
  have key : ∀ (rs : List api_Report) (acc : List (api_Report × Bool)), (rs.foldl (nwS R) acc).length ≤ acc.length + rs.length := by
    intro rs
    induction rs with
    | nil => intro acc; simp
    | cons r rs ih =>
      intro acc
      have h1 := ih (nwS R acc r)
      have h2 : (nwS R acc r).length ≤ acc.length + 1 := by
        unfold nwS
        split
        · omega
        · exact mput_len _ _ _
      simp only [List.foldl_cons, List.length_cons]
      omega
  intro rs
  have := key rs []
  rw [List.length_nil, Nat.zero_add] at this
  exact this
instance (priority := high) yk_lenEx0 {P : Program} {w0 : World} {n : Nat} {L : List Blk} {E : Env} {x : Operand} {T K V : TypeId} {b : Nat} [hx : IsC (evl E x) (.map (some b))] [hb : AtO w0 L b (mEx [])] [hT : UndC P T (.map K V)] : YlC P w0 n L E (.call ⟨.builtin .len, #[x], #[T]⟩) (.int .i64 0) := yk_lenM (l := ([] : List (api_Exchange × Bool))) (ek := kA e_api_Exchange) (ev := Value.bool) (K := K) (V := V) (hb := hb)
/-- Nothing is copied. -/
instance sm_copyEx0 (w0 : World) (L : List Blk) (b1 b2 : Nat) [h2 : AtO w0 L b2 (mEx [])] : SpecM Tryz.prog w0 L 85 [.map (some b1), .map (some b2)] (.tuple #[]) True := ⟨fun _ w hw => by
  have f2 := FoO.mk (h2.out w hw)
  refine fn_intro Tryz.func85 rfl Tryz.ntmps85 rfl ?_
  repeat (first | (refine wkB ?_; try intro _) | (refine sC rfl rfl ?_ ?_; focus (first | exact trivial | assumption | constructor <;> assumption | exact mb2 rfl rfl | exact mb4 rfl rfl rfl rfl)) | (refine sN rfl rfl ?_ ?_; (focus (first | exact trivial | assumption | constructor <;> assumption | exact mb2 rfl rfl | exact mb4 rfl rfl rfl rfl)); intro _; (try simp only [List.cons_append, List.nil_append, List.append_nil])) | refine sMu rfl ?_ | (refine sMm rfl rfl ?_; intro _) | (refine sRg rfl rfl ?_; intro _))
  rename_i r
  refine j_loop (S := Unit) (fun _ => True) (fun _ => [(0, .map (some b1)), (7, .pointer (some ⟨r, 0, none⟩))]) (fun _ => [⟨r, .obj (itO b2 ([] : List (api_Exchange × Bool)).length []), 114⟩]) (fun _ => 0) () trivial sbB slB (fun _ _ => ?_)
  refine cX ?_
  refine cX ?_
  refine sNx rfl rfl rfl (fun hall => ?h0) (fun i hi hni => ?h1)
  case h0 =>
    repeat (first | (refine wkB ?_; try intro _) | (refine sC rfl rfl ?_ ?_; focus (first | exact trivial | assumption | constructor <;> assumption | exact mb2 rfl rfl | exact mb4 rfl rfl rfl rfl)) | (refine sN rfl rfl ?_ ?_; (focus (first | exact trivial | assumption | constructor <;> assumption | exact mb2 rfl rfl | exact mb4 rfl rfl rfl rfl)); intro _; (try simp only [List.cons_append, List.nil_append, List.append_nil])) | refine sMu rfl ?_ | (refine sMm rfl rfl ?_; intro _) | (refine sRg rfl rfl ?_; intro _))
    exact jx_end0 rfl (fun w hw => ret_ok hw)
  case h1 => cases hi⟩
set_option maxHeartbeats 4000000 in
theorem put_spec (w0 w : World) (L1 : List Blk) (px m1 m2 b c n : Nat) (R : List (api_Report × Bool)) (rs : List api_Report) (Tx Tb : TypeId) [kx : AtC w0 L1 px (vIn m1 m2) Tx] [k2 : AtO w0 L1 m2 (mEx [])] [kb : AtC w0 L1 b (row e_api_Report rs []) Tb] (hn : rs.length = n) (hR : R.length + n ≤ 4096) (hw : Own w0 (⟨m1, .obj (mRp R), 113⟩ :: L1) w) :
    Calls Tryz.prog 56 [.pointer (some ⟨px, 0, none⟩), .agg (e_api_Batch ⟨⟨some ⟨b, 0, none⟩, n, c⟩, ⟨none, 0, 0⟩⟩)].toArray w (RetX w0 { q : List (api_Report × Bool) // q.Perm (nwR R rs) } (fun _ => .tuple #[.int .i64 (((nwR R rs).length : Int) + 0), .int .i64 0]) (fun q => ⟨m1, .obj (mRp (cpy R q.1)), 113⟩ :: L1)) := by
  refine fn_introL Tryz.func56 rfl Tryz.ntmps56 rfl hw ?_
  repeat (first | (refine wkB ?_; try intro _) | (refine sC rfl rfl ?_ ?_; focus (first | exact trivial | assumption | constructor <;> assumption | exact mb2 rfl rfl | exact mb4 rfl rfl rfl rfl)) | (refine sN rfl rfl ?_ ?_; (focus (first | exact trivial | assumption | constructor <;> assumption | exact mb2 rfl rfl | exact mb4 rfl rfl rfl rfl)); intro _; (try simp only [List.cons_append, List.nil_append, List.append_nil])) | refine sMu rfl ?_ | (refine sMm rfl rfl ?_; intro _) | (refine sRg rfl rfl ?_; intro _))
  rename_i b3 b12 b13
  refine j_loop (S := Nat) (fun m => m ≤ n) (fun m => [(0, .pointer (some ⟨px, 0, none⟩)), (3, .pointer (some ⟨b3, 0, none⟩)), (6, .map (some b12)), (7, .map (some b13)), (15, .slice (some ⟨b, 0, none⟩) n c), (16, .int .i64 n), (17, .int .i64 (m : Nat))]) (fun m => ⟨b13, .obj (mEx []), 114⟩ :: ⟨b12, .obj (mRp (nwR R (rs.take m))), 113⟩ :: ⟨b3, e_api_Batch ⟨⟨some ⟨b, 0, none⟩, n, c⟩, ⟨none, 0, 0⟩⟩, 75⟩ :: ⟨m1, .obj (mRp R), 113⟩ :: L1) (fun m => n - m) 0 (Nat.zero_le _) sbB slB (fun m hm => ?_)
  repeat (first | (refine wkB ?_; try intro _) | (refine sC rfl rfl ?_ ?_; focus (first | exact trivial | assumption | constructor <;> assumption | exact mb2 rfl rfl | exact mb4 rfl rfl rfl rfl)) | (refine sN rfl rfl ?_ ?_; (focus (first | exact trivial | assumption | constructor <;> assumption | exact mb2 rfl rfl | exact mb4 rfl rfl rfl rfl)); intro _; (try simp only [List.cons_append, List.nil_append, List.append_nil])) | refine sMu rfl ?_ | (refine sMm rfl rfl ?_; intro _) | (refine sRg rfl rfl ?_; intro _))
  refine j_cond rfl (fun h => ?_) (fun h => ?_)
  · have hlt : m < n := by have := of_decide_eq_true h; omega
    have hnx := nwR_take (R := R) (rs := rs) (m := m) (by omega)
    unfold nwS at hnx
    repeat (first | (refine wkB ?_; try intro _) | (refine sC rfl rfl ?_ ?_; focus (first | exact trivial | assumption | constructor <;> assumption | exact mb2 rfl rfl | exact mb4 rfl rfl rfl rfl)) | (refine sN rfl rfl ?_ ?_; (focus (first | exact trivial | assumption | constructor <;> assumption | exact mb2 rfl rfl | exact mb4 rfl rfl rfl rfl)); intro _; (try simp only [List.cons_append, List.nil_append, List.append_nil])) | refine sMu rfl ?_ | (refine sMm rfl rfl ?_; intro _) | (refine sRg rfl rfl ?_; intro _))
    (refine jD 7 7 (h := ?_); (repeat (refine wkH ?_)); refine jh_nil ?_; (repeat (refine wn_new ?_; intro _)); refine jn_nil ?_)
    repeat (first | (refine wkB ?_; try intro _) | (refine sC rfl rfl ?_ ?_; focus (first | exact trivial | assumption | constructor <;> assumption | exact mb2 rfl rfl | exact mb4 rfl rfl rfl rfl)) | (refine sN rfl rfl ?_ ?_; (focus (first | exact trivial | assumption | constructor <;> assumption | exact mb2 rfl rfl | exact mb4 rfl rfl rfl rfl)); intro _; (try simp only [List.cons_append, List.nil_append, List.append_nil])) | refine sMu rfl ?_ | (refine sMm rfl rfl ?_; intro _) | (refine sRg rfl rfl ?_; intro _))
    cases hk : (mget R (gi rs (m : Int))).getD false
    · rw [if_neg (by rw [hk]; decide)] at hnx
      simp only [hk, Bool.not_false]
      repeat (first | (refine wkB ?_; try intro _) | (refine sC rfl rfl ?_ ?_; focus (exact ⟨by omega, by omega⟩)) | (refine sN rfl rfl ?_ ?_; (focus (exact ⟨by omega, by omega⟩)); intro _; (try simp only [List.cons_append, List.nil_append, List.append_nil])) | refine sMu rfl ?_ | (refine sMm rfl rfl ?_; intro _) | (refine sRg rfl rfl ?_; intro _))
      exact jx_loop (m + 1) hlt sbB (by rw [hnx]; exact List.sublist_cons_self _ _) (by omega)
    · rw [if_pos hk] at hnx
      simp only [hk, Bool.not_true]
      repeat (first | (refine wkB ?_; try intro _) | (refine sC rfl rfl ?_ ?_; focus (exact ⟨by omega, by omega⟩)) | (refine sN rfl rfl ?_ ?_; (focus (exact ⟨by omega, by omega⟩)); intro _; (try simp only [List.cons_append, List.nil_append, List.append_nil])) | refine sMu rfl ?_ | (refine sMm rfl rfl ?_; intro _) | (refine sRg rfl rfl ?_; intro _))
      exact jx_loop (m + 1) hlt sbB (by rw [hnx]; exact List.sublist_cons_self _ _) (by omega)
  · have hge : m = n := by have := of_decide_eq_false h; omega
    subst hge
    rw [← hn, List.take_length]
    have hnl := nwR_len R rs
    repeat (first | (refine wkB ?_; try intro _) | (refine sC rfl rfl ?_ ?_; focus (first | exact trivial | assumption | constructor <;> assumption | exact mb2 rfl rfl | exact mb4 rfl rfl rfl rfl)) | (refine sN rfl rfl ?_ ?_; (focus (first | exact trivial | assumption | constructor <;> assumption | exact mb2 rfl rfl | exact mb4 rfl rfl rfl rfl)); intro _; (try simp only [List.cons_append, List.nil_append, List.append_nil])) | refine sMu rfl ?_ | (refine sMm rfl rfl ?_; intro _) | (refine sRg rfl rfl ?_; intro _))
    refine j_loop (S := Unit) (fun _ => True) (fun _ => [(0, .pointer (some ⟨px, 0, none⟩)), (6, .map (some b12)), (7, .map (some b13)), (33, .int .i64 0), (34, .int .i64 0)]) (fun _ => ⟨b13, .obj (mEx []), 114⟩ :: ⟨b12, .obj (mRp (nwR R rs)), 113⟩ :: ⟨b3, e_api_Batch ⟨⟨some ⟨b, 0, none⟩, rs.length, c⟩, ⟨none, 0, 0⟩⟩, 75⟩ :: ⟨m1, .obj (mRp R), 113⟩ :: L1) (fun _ => 0) () trivial sbB slB (fun _ _ => ?_)
    repeat (first | (refine wkB ?_; try intro _) | (refine sC rfl rfl ?_ ?_; focus (first | exact trivial | assumption | constructor <;> assumption | exact mb2 rfl rfl | exact mb4 rfl rfl rfl rfl)) | (refine sN rfl rfl ?_ ?_; (focus (first | exact trivial | assumption | constructor <;> assumption | exact mb2 rfl rfl | exact mb4 rfl rfl rfl rfl)); intro _; (try simp only [List.cons_append, List.nil_append, List.append_nil])) | refine sMu rfl ?_ | (refine sMm rfl rfl ?_; intro _) | (refine sRg rfl rfl ?_; intro _))
    simp only [decide_eq_false (show ¬ (0 : Int) < 0 by decide)]
    repeat (first | (refine wkB ?_; try intro _) | (refine sC rfl rfl ?_ ?_; focus (first | exact trivial | assumption | constructor <;> assumption | exact mb2 rfl rfl | exact mb4 rfl rfl rfl rfl)) | (refine sN rfl rfl ?_ ?_; (focus (first | exact trivial | assumption | constructor <;> assumption | exact mb2 rfl rfl | exact mb4 rfl rfl rfl rfl)); intro _; (try simp only [List.cons_append, List.nil_append, List.append_nil])) | refine sMu rfl ?_ | (refine sMm rfl rfl ?_; intro _) | (refine sRg rfl rfl ?_; intro _))
    simp only [decide_eq_false (show ¬ (4096 : Int) < (R.length : Int) + ((nwR R rs).length : Int) by omega)]
    repeat (first | (refine wkB ?_; try intro _) | (refine sC rfl rfl ?_ ?_; focus (first | exact trivial | assumption | constructor <;> assumption | exact mb2 rfl rfl | exact mb4 rfl rfl rfl rfl)) | (refine sN rfl rfl ?_ ?_; (focus (first | exact trivial | assumption | constructor <;> assumption | exact mb2 rfl rfl | exact mb4 rfl rfl rfl rfl)); intro _; (try simp only [List.cons_append, List.nil_append, List.append_nil])) | refine sMu rfl ?_ | (refine sMm rfl rfl ?_; intro _) | (refine sRg rfl rfl ?_; intro _))
    refine sZ rfl rfl trivial ?_
    intro q
    repeat (first | (refine wkB ?_; try intro _) | (refine sC rfl rfl ?_ ?_; focus (first | exact trivial | assumption | constructor <;> assumption | exact mb2 rfl rfl | exact mb4 rfl rfl rfl rfl)) | (refine sN rfl rfl ?_ ?_; (focus (first | exact trivial | assumption | constructor <;> assumption | exact mb2 rfl rfl | exact mb4 rfl rfl rfl rfl)); intro _; (try simp only [List.cons_append, List.nil_append, List.append_nil])) | refine sMu rfl ?_ | (refine sMm rfl rfl ?_; intro _) | (refine sRg rfl rfl ?_; intro _))
    refine jx_ret_two rfl (resv_tmp rfl) (resv_tmp rfl) (fun w hw => ⟨q, rfl, ?_⟩)
    refine hw.sub ?_
    exact .cons_cons _ (.cons _ (.cons _ (.cons _ (.refl _))))
end Go.Vt
/- A batch is added to an intake. Conditions: those that each statement names. -/
set_option linter.unusedSimpArgs false
set_option linter.unusedVariables false
set_option maxHeartbeats 2000000
set_option maxRecDepth 100000
namespace Go.Vt
open Go.RowKit Go.Proofs
instance sx_put (w0 : World) (L L1 : List Blk) (px m1 m2 b c n : Nat) (R : List (api_Report × Bool)) (rs : List api_Report) (Tx Tx' Tb : TypeId) [kx0 : AtC w0 L px (vIn m1 m2) Tx'] [hd : DelO m1 L (mRp R) 113 L1] [kx : AtC w0 L1 px (vIn m1 m2) Tx] [k2 : AtO w0 L1 m2 (mEx [])] [kb : AtC w0 L1 b (row e_api_Report rs []) Tb] :
    SpecX Tryz.prog w0 L 56 [.pointer (some ⟨px, 0, none⟩), .agg (e_api_Batch ⟨⟨some ⟨b, 0, none⟩, n, c⟩, ⟨none, 0, 0⟩⟩)] { q : List (api_Report × Bool) // q.Perm (nwR R rs) } (fun _ => .tuple #[.int .i64 (((nwR R rs).length : Int) + 0), .int .i64 0]) (fun q => ⟨m1, .obj (mRp (cpy R q.1)), 113⟩ :: L1) (rs.length = n ∧ R.length + n ≤ 4096) :=
  ⟨fun hp w hw => put_spec w0 w L1 px m1 m2 b c n R rs Tx Tb hp.1 hp.2 (hw.perm hd.out)⟩
set_option maxHeartbeats 4000000 in
theorem iadd_spec (w0 w : World) (L1 : List Blk) (px m1 m2 b c n : Nat) (R : List (api_Report × Bool)) (rs : List api_Report) (Tx Tb : TypeId) [kx : AtC w0 L1 px (vIn m1 m2) Tx] [k2 : AtO w0 L1 m2 (mEx [])] [kb : AtC w0 L1 b (row e_api_Report rs []) Tb] (hn : rs.length = n) (hR : R.length + n ≤ 4096) (hv : ∀ r ∈ rs, RepV r) (hw : Own w0 (⟨m1, .obj (mRp R), 113⟩ :: L1) w) :
    Calls Tryz.prog 30 [.pointer (some ⟨px, 0, none⟩), .agg (e_api_Batch ⟨⟨some ⟨b, 0, none⟩, n, c⟩, ⟨none, 0, 0⟩⟩)].toArray w (RetX w0 { q : List (api_Report × Bool) // q.Perm (nwR R rs) } (fun _ => .tuple #[.int .i64 (((nwR R rs).length : Int) + 0), .int .i64 0]) (fun q => ⟨m1, .obj (mRp (cpy R q.1)), 113⟩ :: L1)) := by
  refine fn_introL Tryz.func30 rfl Tryz.ntmps30 rfl hw ?_
  repeat (first | (refine wkB ?_; try intro _) | (refine sC rfl rfl ?_ ?_; focus (first | exact trivial | assumption | constructor <;> assumption | exact mb2 rfl rfl | exact mb4 rfl rfl rfl rfl)) | (refine sN rfl rfl ?_ ?_; (focus (first | exact trivial | assumption | constructor <;> assumption | exact mb2 rfl rfl | exact mb4 rfl rfl rfl rfl)); intro _; (try simp only [List.cons_append, List.nil_append, List.append_nil])) | refine sMu rfl ?_ | (refine sMm rfl rfl ?_; intro _) | (refine sRg rfl rfl ?_; intro _))
  rename_i b3
  refine j_loop (S := Nat) (fun m => m ≤ n) (fun m => [(0, .pointer (some ⟨px, 0, none⟩)), (3, .pointer (some ⟨b3, 0, none⟩)), (15, .slice (some ⟨b, 0, none⟩) n c), (16, .int .i64 n), (17, .int .i64 (m : Nat))]) (fun m => ⟨b3, e_api_Batch ⟨⟨some ⟨b, 0, none⟩, n, c⟩, ⟨none, 0, 0⟩⟩, 75⟩ :: ⟨m1, .obj (mRp R), 113⟩ :: L1) (fun m => n - m) 0 (Nat.zero_le _) sbB slB (fun m hm => ?_)
  repeat (first | (refine wkB ?_; try intro _) | (refine sC rfl rfl ?_ ?_; focus (first | exact trivial | assumption | constructor <;> assumption | exact mb2 rfl rfl | exact mb4 rfl rfl rfl rfl)) | (refine sN rfl rfl ?_ ?_; (focus (first | exact trivial | assumption | constructor <;> assumption | exact mb2 rfl rfl | exact mb4 rfl rfl rfl rfl)); intro _; (try simp only [List.cons_append, List.nil_append, List.append_nil])) | refine sMu rfl ?_ | (refine sMm rfl rfl ?_; intro _) | (refine sRg rfl rfl ?_; intro _))
  refine j_cond rfl (fun h => ?_) (fun h => ?_)
  · have hlt : m < n := by have := of_decide_eq_true h; omega
    have hrv := hv (gi rs (m : Int)) (by rw [gi_nat (by omega)]; exact List.getElem_mem _)
    repeat (first | (refine wkB ?_; try intro _) | (refine sC rfl rfl ?_ ?_; focus (exact hrv)) | (refine sN rfl rfl ?_ ?_; (focus (exact hrv)); intro _; (try simp only [List.cons_append, List.nil_append, List.append_nil])) | refine sMu rfl ?_ | (refine sMm rfl rfl ?_; intro _) | (refine sRg rfl rfl ?_; intro _))
    exact jx_loop (m + 1) hlt sbB slB (by omega)
  · have hge : m = n := by have := of_decide_eq_false h; omega
    subst hge
    repeat (first | (refine wkB ?_; try intro _) | (refine sC rfl rfl ?_ ?_; focus (first | exact trivial | assumption | constructor <;> assumption | exact mb2 rfl rfl | exact mb4 rfl rfl rfl rfl)) | (refine sN rfl rfl ?_ ?_; (focus (first | exact trivial | assumption | constructor <;> assumption | exact mb2 rfl rfl | exact mb4 rfl rfl rfl rfl)); intro _; (try simp only [List.cons_append, List.nil_append, List.append_nil])) | refine sMu rfl ?_ | (refine sMm rfl rfl ?_; intro _) | (refine sRg rfl rfl ?_; intro _))
    refine j_loop (S := Unit) (fun _ => True) (fun _ => [(0, .pointer (some ⟨px, 0, none⟩)), (3, .pointer (some ⟨b3, 0, none⟩)), (29, .int .i64 0), (30, .int .i64 0)]) (fun _ => ⟨b3, e_api_Batch ⟨⟨some ⟨b, 0, none⟩, m, c⟩, ⟨none, 0, 0⟩⟩, 75⟩ :: ⟨m1, .obj (mRp R), 113⟩ :: L1) (fun _ => 0) () trivial sbB slB (fun _ _ => ?_)
    repeat (first | (refine wkB ?_; try intro _) | (refine sC rfl rfl ?_ ?_; focus (first | exact trivial | assumption | constructor <;> assumption | exact mb2 rfl rfl | exact mb4 rfl rfl rfl rfl)) | (refine sN rfl rfl ?_ ?_; (focus (first | exact trivial | assumption | constructor <;> assumption | exact mb2 rfl rfl | exact mb4 rfl rfl rfl rfl)); intro _; (try simp only [List.cons_append, List.nil_append, List.append_nil])) | refine sMu rfl ?_ | (refine sMm rfl rfl ?_; intro _) | (refine sRg rfl rfl ?_; intro _))
    simp only [decide_eq_false (show ¬ (0 : Int) < 0 by decide)]
    repeat (first | (refine wkB ?_; try intro _) | (refine sC rfl rfl ?_ ?_; focus (first | exact trivial | assumption | constructor <;> assumption | exact mb2 rfl rfl | exact mb4 rfl rfl rfl rfl)) | (refine sN rfl rfl ?_ ?_; (focus (first | exact trivial | assumption | constructor <;> assumption | exact mb2 rfl rfl | exact mb4 rfl rfl rfl rfl)); intro _; (try simp only [List.cons_append, List.nil_append, List.append_nil])) | refine sMu rfl ?_ | (refine sMm rfl rfl ?_; intro _) | (refine sRg rfl rfl ?_; intro _))
    refine sZ rfl rfl ⟨hn, hR⟩ ?_
    intro q
    repeat (first | (refine wkB ?_; try intro _) | (refine sC rfl rfl ?_ ?_; focus (first | exact trivial | assumption | constructor <;> assumption | exact mb2 rfl rfl | exact mb4 rfl rfl rfl rfl)) | (refine sN rfl rfl ?_ ?_; (focus (first | exact trivial | assumption | constructor <;> assumption | exact mb2 rfl rfl | exact mb4 rfl rfl rfl rfl)); intro _; (try simp only [List.cons_append, List.nil_append, List.append_nil])) | refine sMu rfl ?_ | (refine sMm rfl rfl ?_; intro _) | (refine sRg rfl rfl ?_; intro _))
    refine jx_ret_two rfl (resv_tmp rfl) (resv_tmp rfl) (fun w hw => ⟨q, rfl, ?_⟩)
    exact hw.sub (.cons_cons _ (.cons _ (.refl _)))
instance sx_add (w0 : World) (L L1 : List Blk) (px m1 m2 b c n : Nat) (R : List (api_Report × Bool)) (rs : List api_Report) (Tx Tx' Tb : TypeId) [kx0 : AtC w0 L px (vIn m1 m2) Tx'] [hd : DelO m1 L (mRp R) 113 L1] [kx : AtC w0 L1 px (vIn m1 m2) Tx] [k2 : AtO w0 L1 m2 (mEx [])] [kb : AtC w0 L1 b (row e_api_Report rs []) Tb] :
    SpecX Tryz.prog w0 L 30 [.pointer (some ⟨px, 0, none⟩), .agg (e_api_Batch ⟨⟨some ⟨b, 0, none⟩, n, c⟩, ⟨none, 0, 0⟩⟩)] { q : List (api_Report × Bool) // q.Perm (nwR R rs) } (fun _ => .tuple #[.int .i64 (((nwR R rs).length : Int) + 0), .int .i64 0]) (fun q => ⟨m1, .obj (mRp (cpy R q.1)), 113⟩ :: L1) (rs.length = n ∧ R.length + n ≤ 4096 ∧ ∀ r ∈ rs, RepV r) :=
  ⟨fun hp w hw => iadd_spec w0 w L1 px m1 m2 b c n R rs Tx Tb hp.1 hp.2.1 hp.2.2 (hw.perm hd.out)⟩
end Go.Vt
