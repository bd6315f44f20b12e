/- Rows of structs, memory of the caller, calls that read or make memory, closures, slices and appends under the program logic. Conditions: those that each rule names. -/
import Derived.Test.YtgcjapcminakdaaDoorLogicK
import Derived.Laws.AppendOwn
set_option linter.unusedSimpArgs false
set_option linter.unusedVariables false
set_option linter.unusedSectionVars false
namespace Go.Vt
open Go.RowKit

/-! ### Rows -/
section
variable {α : Type}
/-- The cells of a list's elements, one behind another. -/
def rowL (enc : α → Array Value) (xs : List α) : List Value := xs.flatMap fun x => (enc x).toList
/-- A row of elements, and what lies spare behind. -/
def row (enc : α → Array Value) (xs : List α) (sp : List Value) : Array Value := (rowL enc xs ++ sp).toArray
class EncC (enc : α → Array Value) (k : outParam Nat) : Prop where
  size : ∀ x, (enc x).size = k
  one : ∀ x, (enc x).all (·.oneCell') = true
def eI (k : IntKind) (z : Int) : Array Value := #[.int k z]
instance encI (k : IntKind) : EncC (eI k) 1 := ⟨fun _ => rfl, fun _ => by simp [eI, Value.oneCell']⟩
/-- The element at a place. -/
def gi [Inhabited α] (xs : List α) (i : Int) : α := xs.getD i.toNat default
theorem gi_eq [Inhabited α] {xs : List α} {i : Int} (h : i.toNat < xs.length) : gi xs i = xs[i.toNat] := by
  unfold gi
  rw [List.getD_eq_getElem?_getD, List.getElem?_eq_getElem h]
  rfl
theorem gi_nat [Inhabited α] {xs : List α} {i : Nat} (h : i < xs.length) : gi xs (i : Int) = xs[i] := gi_eq (i := (i : Int)) h
variable {enc : α → Array Value} {k : Nat}
theorem rowL_nil : rowL enc [] = [] := rfl
theorem rowL_append (xs ys : List α) : rowL enc (xs ++ ys) = rowL enc xs ++ rowL enc ys := by simp [rowL]
theorem rowL_len [h : EncC enc k] (xs : List α) : (rowL enc xs).length = xs.length * k := by
  induction xs with
  | nil => simp [rowL]
  | cons x xs ih =>
    have h1 := h.size x
    simp only [rowL, List.flatMap_cons, List.length_append, Array.length_toList, List.length_cons, h1, Nat.add_mul] at ih ⊢
    omega
theorem rowL_get [h : EncC enc k] (xs : List α) (i j : Nat) (hi : i < xs.length) (hj : j < k) : (rowL enc xs)[i * k + j]? = (enc xs[i])[j]? := by
  induction xs generalizing i with
  | nil => simp at hi
  | cons x xs ih =>
    have h1 := h.size x
    simp only [rowL, List.flatMap_cons] at ih ⊢
    cases i with
    | zero =>
      rw [Nat.zero_mul, Nat.zero_add, List.getElem?_append_left (by simp; omega)]
      simp
    | succ i =>
      rw [List.getElem?_append_right (by simp [Nat.add_mul]; omega)]
      have e : (i + 1) * k + j - (enc x).toList.length = i * k + j := by simp [Nat.add_mul, h1]; omega
      rw [e, ih i (by simpa using hi)]
      simp
theorem row_get [h : EncC enc k] (xs : List α) (sp : List Value) (i j : Nat) (hi : i < xs.length) (hj : j < k) : (row enc xs sp)[i * k + j]? = (enc xs[i])[j]? := by
  have hl := rowL_len (enc := enc) xs
  have hlt : i * k + j < xs.length * k := by
    have := Nat.mul_le_mul_right k (show i + 1 ≤ xs.length from hi)
    rw [Nat.add_mul] at this
    omega
  rw [row, List.getElem?_toArray, List.getElem?_append_left (by omega)]
  exact rowL_get xs i j hi hj
theorem row_size [h : EncC enc k] (xs : List α) (sp : List Value) : (row enc xs sp).size = xs.length * k + sp.length := by
  simp [row, rowL_len]
theorem ldv_row {P : Program} {T : TypeId} {f : Nat} {v : Value} [h : EncC enc k] {xs : List α} {sp : List Value} {i : Nat} (hi : i < xs.length) (hv : LdV P T (enc xs[i]) f v) : LdV P T (row enc xs sp) (i * k + f) v := by
  have hk := h.size xs[i]
  have hle := Nat.mul_le_mul_right k (show i + 1 ≤ xs.length from hi)
  rw [Nat.add_mul] at hle
  rcases hv with ⟨n, ha, hs, rfl⟩ | ⟨ho, hv⟩
  · refine .inl ⟨n, ha, by rw [row_size (k := k)]; omega, ?_⟩
    congr 1
    apply Array.ext_getElem?
    intro j
    rw [Array.getElem?_extract, Array.getElem?_extract]
    by_cases hj : j < n
    · rw [if_pos (by omega), if_pos (by rw [row_size (k := k)]; omega), Nat.add_assoc, row_get xs sp i (f + j) hi (by omega)]
    · rw [if_neg (by omega), if_neg (by rw [row_size (k := k)]; omega)]
  · have hf : f < k := by
      rcases Nat.lt_or_ge f k with h1 | h1
      · exact h1
      · rw [Array.getElem?_eq_none (by omega)] at hv
        cases hv
    exact .inr ⟨ho, by rw [row_get xs sp i f hi hf]; exact hv⟩
theorem spl_row [h : EncC enc k] (xs : List α) (sp : List Value) (i : Nat) (z : α) (hi : i < xs.length) : spl (row enc xs sp) (i * k) (enc z).toList = row enc (xs.set i z) sp := by
  have hle := Nat.mul_le_mul_right k (show i + 1 ≤ xs.length from hi)
  rw [Nat.add_mul] at hle
  have hz := h.size z
  apply Array.ext_getElem?
  intro j
  rw [spl_get _ _ _ _ (by rw [row_size (k := k)]; simp; omega)]
  simp only [Array.length_toList, hz]
  by_cases h1 : i * k ≤ j ∧ j < i * k + k
  · rw [if_pos h1]
    obtain ⟨m, rfl⟩ : ∃ m, j = i * k + m := ⟨j - i * k, by omega⟩
    rw [row_get _ sp i m (by simpa using hi) (by omega), Nat.add_sub_cancel_left]
    simp
  · rw [if_neg h1]
    rcases Nat.lt_or_ge j (xs.length * k) with h2 | h2
    · rcases Nat.eq_zero_or_pos k with h0 | h0
      · subst h0; simp at h2
      · obtain ⟨q, m, rfl, hm⟩ : ∃ q m, j = q * k + m ∧ m < k := ⟨j / k, j % k, by rw [Nat.mul_comm]; exact (Nat.div_add_mod j k).symm, Nat.mod_lt _ h0⟩
        have hq : q < xs.length := by
          rcases Nat.lt_or_ge q xs.length with h3 | h3
          · exact h3
          · have := Nat.mul_le_mul_right k h3
            omega
        have hqi : i ≠ q := by
          rintro rfl
          exact h1 ⟨by omega, by omega⟩
        rw [row_get xs sp q m hq hm, row_get _ sp q m (by simpa using hq) hm]
        simp [List.getElem_set_ne hqi]
    · rw [row, row, List.getElem?_toArray, List.getElem?_toArray, List.getElem?_append_right (by rw [rowL_len (k := k)]; exact h2), List.getElem?_append_right (by rw [rowL_len (k := k)]; simpa using h2)]
      simp [rowL_len (k := k)]
theorem row_one [h : EncC enc k] (xs : List α) : ∀ u ∈ rowL enc xs, u.oneCell' = true := fun u hu => by
  obtain ⟨x, _, hx⟩ := List.mem_flatMap.1 hu
  exact Array.all_eq_true_iff_forall_mem.1 (h.one x) u (Array.mem_toList_iff.1 hx)
end

/-! ### Memory of the caller -/
/-- A block that was there when the call began. -/
class FoC (w0 : World) (b : Nat) (cs : outParam (Array Value)) (T : outParam TypeId) : Prop where
  out : ∃ fz, w0.heap[b]? = some (.cells cs T fz)
/-- A block that is known, the call's own or not. -/
class AtC (w0 : World) (L : List Blk) (b : Nat) (cs : outParam (Array Value)) (T : outParam TypeId) : Prop where
  out : ∀ w, Own w0 L w → ∃ fz, w.heap[b]? = some (.cells cs T fz)
instance (priority := high) atMem (w0 : World) (L : List Blk) (b : Nat) (cs : Array Value) (T : TypeId) [h : MemC b L cs T] : AtC w0 L b cs T := ⟨fun _ hw => ⟨(0, 0), (hw.mem _ h.out).2⟩⟩
instance (priority := low) atFo (w0 : World) (L : List Blk) (b : Nat) (cs : Array Value) (T : TypeId) [h : FoC w0 b cs T] : AtC w0 L b cs T := ⟨fun w hw => by
  obtain ⟨fz, hf⟩ := h.out
  exact ⟨fz, by rw [hw.ext.block b (lt_of_block hf)]; exact hf⟩⟩
instance (priority := low) sblA (X A B : List Blk) [h : SblC A B] : SblC A (X ++ B) := ⟨h.out.trans (List.sublist_append_right _ _)⟩
instance (priority := low) memSkip (b : Nat) (A L : List Blk) (cs : Array Value) (T : TypeId) [h : MemC b L cs T] : MemC b (A ++ L) cs T := ⟨List.mem_append_right _ h.out⟩

section
variable {P : Program} {w0 : World} {n : Nat} {ops : Array Oper} {L L' : List Blk} {E : Env}
variable {Q : Exit → Act → World → Prop} {rest : List Oper} {v : Value}
variable {d : Option Tmp} {ty : TypeId} {pos : String} {aft : Array Edge} {gd : Option (Nat × Bool)} {t : Tmp}
variable {x y : Operand} {T : TypeId}
theorem yl_loadA {T0 : TypeId} {b off : Nat} {cs : Array Value} (hx : Env.ev E x = some (.pointer (some ⟨b, off, none⟩))) (h : ∀ w, Own w0 L w → ∃ fz, w.heap[b]? = some (.cells cs T0 fz)) (hv : LdV P T cs off v) : Yl P w0 n L E ⟨d, .load T x, ty, pos, aft, gd⟩ v :=
  yl_run (fun _ => loadVar T ⟨b, off, none⟩) (fun a ha => by
    simp only [execOp, ha.ev hx, Instr.loadAt, Instr.sureAddr]
    rfl) (fun a w _ hw => by
      obtain ⟨fz, hf⟩ := h w hw
      exact run_loadVar hf hv)
instance (priority := low) yk_loadF {T0 : TypeId} {b off : Nat} {cs : Array Value} [IsC (evl E x) (.pointer (some ⟨b, off, none⟩))] [h : FoC w0 b cs T0] [hv : LdC P T cs off v] : YlC P w0 n L E (.load T x) v := ⟨fun _ _ _ _ _ => yl_loadA isE (atFo w0 L b cs T0).out hv.out⟩
section
variable {α : Type} [Inhabited α] {enc : α → Array Value} {k b f : Nat} {xs : List α} {sp : List Value} {T0 : TypeId} {i lo : Int}
instance ldEI {k : IntKind} {z : Int} [h : UndC P T (.int k)] : LdC P T (eI k z) 0 (.int k z) := ⟨ldv_one (by simp [oneB, h.out]) rfl⟩
instance ys_row0 [IsC (evl E x) (.pointer (some ⟨b, 0 + i.toNat * k, none⟩))] [h : AtC w0 L b (row enc xs sp) T0] [EncC enc k] [hv : LdC P T (enc (gi xs i)) 0 v] : YsC P w0 n L E (.load T x) v (i.toNat < xs.length) := ⟨fun hi _ _ _ _ _ => yl_loadA isE h.out (by
  have h1 := ldv_row (P := P) (T := T) (v := v) (enc := enc) (k := k) (sp := sp) (f := 0) hi (by rw [← gi_eq hi]; exact hv.out)
  rwa [Nat.add_zero, ← Nat.zero_add (i.toNat * k)] at h1)⟩
instance ys_rowF [IsC (evl E x) (.pointer (some ⟨b, 0 + i.toNat * k + f, none⟩))] [h : AtC w0 L b (row enc xs sp) T0] [EncC enc k] [hv : LdC P T (enc (gi xs i)) f v] : YsC P w0 n L E (.load T x) v (i.toNat < xs.length) := ⟨fun hi _ _ _ _ _ => yl_loadA isE h.out (by
  have h1 := ldv_row (P := P) (T := T) (v := v) (enc := enc) (k := k) (sp := sp) (f := f) hi (by rw [← gi_eq hi]; exact hv.out)
  rwa [← Nat.zero_add (i.toNat * k)] at h1)⟩
/-- In a part of a slice. -/
instance (priority := high) ys_row1 [IsC (evl E x) (.pointer (some ⟨b, 0 + lo.toNat * k + i.toNat * k, none⟩))] [h : AtC w0 L b (row enc xs sp) T0] [EncC enc k] [hv : LdC P T (enc (gi xs (lo + i))) 0 v] : YsC P w0 n L E (.load T x) v (0 ≤ lo ∧ 0 ≤ i ∧ (lo + i).toNat < xs.length) := ⟨fun hi _ _ _ _ _ => yl_loadA isE h.out (by
  have h1 := ldv_row (P := P) (T := T) (v := v) (enc := enc) (k := k) (sp := sp) (f := 0) hi.2.2 (by rw [← gi_eq hi.2.2]; exact hv.out)
  rw [show (lo + i).toNat = lo.toNat + i.toNat by omega, Nat.add_mul, Nat.add_zero, ← Nat.zero_add (lo.toNat * k)] at h1
  exact h1)⟩
/-- What a value holds for an element. -/
class ValC {α : Type} (enc : α → Array Value) (u : Value) (z : outParam α) : Prop where
  out : u.cells = enc z
instance valI {k : IntKind} {z : Int} : ValC (eI k) (.int k z) z := ⟨rfl⟩
instance valA (enc : α → Array Value) (z : α) : ValC enc (.agg (enc z)) z := ⟨rfl⟩
/-- An element is turned. -/
theorem sR {u : Value} {z : α} [hx : IsC (evl E x) (.pointer (some ⟨b, 0 + i.toNat * k, none⟩))] [hy : IsC (evl E y) u] [hk : SizeC P T k] [MemC b L (row enc xs sp) T0] [he : EncC enc k] [hu : ValC enc u z] [hU : UpdC b (row enc (xs.set i.toNat z) sp) L (row enc xs sp) T0 L']
    (hg : guardB ops E gd = some true) (s : i.toNat < xs.length) (h : JO P w0 n ops Q rest E L') : JO P w0 n ops Q (⟨none, .store T x y, ty, pos, aft, gd⟩ :: rest) E L := by
  have h1 := he.size z
  have hle := Nat.mul_le_mul_right k (show i.toNat + 1 ≤ xs.length from s)
  rw [Nat.add_mul] at hle
  exact jo_store (u := u) k isE isE hU.out hk.out (by rw [hu.out, h1]) (by rw [row_size (k := k)]; exact Nat.ble_eq_true_of_le (by omega)) (by rw [hu.out]; exact he.one z) (by rw [hu.out, Nat.zero_add]; exact spl_row xs sp _ z s) hg rfl h
end

/-- A part of a struct is turned. -/
class StC (P : Program) (T : TypeId) (cs : Array Value) (off : Nat) (u : Value) (cs' : outParam (Array Value)) : Prop where
  size : (P.info? T).map (·.size) = some u.cells.size
  fit : Nat.ble (off + u.cells.size) cs.size = true
  one : u.cells.all (·.oneCell') = true
  out : spl cs off u.cells.toList = cs'
theorem sF {T0 : TypeId} {b off : Nat} {cs cs' : Array Value} {u : Value} [hx : IsC (evl E x) (.pointer (some ⟨b, off, none⟩))] [hy : IsC (evl E y) u] [MemC b L cs T0] [hs : StC P T cs off u cs'] [hU : UpdC b cs' L cs T0 L'] (hg : guardB ops E gd = some true)
    (h : JO P w0 n ops Q rest E L') : JO P w0 n ops Q (⟨none, .store T x y, ty, pos, aft, gd⟩ :: rest) E L := jo_store (u := u) u.cells.size isE isE hU.out hs.size rfl hs.fit hs.one hs.out hg rfl h
theorem eF {K : Env → List Blk → Prop} {Lw : List Blk} {T0 : TypeId} {b off : Nat} {cs cs' : Array Value} {u : Value} [hx : IsC (evl E x) (.pointer (some ⟨b, off, none⟩))] [hy : IsC (evl E y) u] [MemC b L cs T0] [hs : StC P T cs off u cs'] [hU : UpdC b cs' L cs T0 L'] (hg : guardB ops E gd = some true) [hw : SblC Lw L']
    (h : JE P w0 n ops Lw K rest E L') : JE P w0 n ops Lw K (⟨none, .store T x y, ty, pos, aft, gd⟩ :: rest) E L := je_store (u := u) u.cells.size isE isE hU.out hs.size rfl hs.fit hs.one hs.out hg hw.out h

/-! ### Calls that read memory; closures -/
class SpecM (P : Program) (w0 : World) (L : List Blk) (f : FuncId) (args : List Value) (v : outParam Value) (pre : outParam Prop) : Prop where
  out : pre → ∀ w, Own w0 L w → Calls P f args.toArray w (Ret v w)
instance (priority := low) specM_C {f : FuncId} {args : List Value} {pre : Prop} [h : SpecC P f args v pre] : SpecM P w0 L f args v pre := ⟨fun hp w _ => h.out hp w⟩
instance (priority := low) yc_callM {f : FuncId} {xs : List Operand} {l : List Value} {ats : Array TypeId} {pre : Prop} [hf : CallC P f] [IsC (evsl E xs) l] [h : SpecM P w0 L f l v pre] : YcC P w0 n L E (.call ⟨.value (.func f), xs.toArray, ats⟩) v pre := ⟨fun hp _ _ _ _ _ => yl_call hf.out isS (h.out hp)⟩
theorem yl_makeFunc {f : Fn} {xs : List Operand} {l : List Value} (hl : Env.evs E xs = some l) : Yl P w0 n L E ⟨d, .makeFunc f #[] xs.toArray, ty, pos, aft, gd⟩ (.func f #[] l.toArray) :=
  yl_run (fun _ => Instr.makeFunc f #[] l.toArray) (fun a ha => by
    have h1 : xs.toArray.map a.eval = l.toArray := by rw [← ha.evs xs l hl]; simp
    simp only [execOp, h1, Array.map_empty]) (fun a w _ _ => by simp [Instr.makeFunc])
instance yk_makeFunc {f : Fn} {xs : List Operand} {l : List Value} [IsC (evsl E xs) l] : YlC P w0 n L E (.makeFunc f #[] xs.toArray) (.func f #[] l.toArray) := ⟨fun _ _ _ _ _ => yl_makeFunc isS⟩
/-- Two lists, one behind the other. -/
class AppC (a b : List Value) (c : outParam (List Value)) : Prop where out : a ++ b = c
instance appN (b : List Value) : AppC [] b b := ⟨rfl⟩
instance appS (x : Value) (a b c : List Value) [h : AppC a b c] : AppC (x :: a) b (x :: c) := ⟨by rw [← h.out]; rfl⟩
theorem run_callcl {f : FuncId} {g : Operand} {xs : List Operand} {l cap c : List Value} {ats : Array TypeId} {a : Act} {w : World} (hf : callableB P f = true) (ha : Rep n E a) (hg : Env.ev E g = some (.func (.func f) #[] cap.toArray)) (hl : Env.evs E xs = some l) (hc : l ++ cap = c) :
    (execOp a.eval ⟨d, .call ⟨.value g, xs.toArray, ats⟩, ty, pos, aft, gd⟩).run P w = .ok (.enter f c.toArray) w := by
  have h1 : xs.toArray.map a.eval = l.toArray := by rw [← ha.evs xs l hl]; simp
  simp only [execOp, resolve, h1, ha.ev hg, Deferred.ofValue, Sem.run_bind, Sem.run_pure, Result.andThen, invoke]
  rw [show (#[] ++ l.toArray : Array Value) = l.toArray from Array.empty_append]
  have h2 : l.toArray ++ cap.toArray = c.toArray := by rw [← hc]; simp
  rw [h2]
  exact run_callFunc hf _ _
instance yc_callcl {f : FuncId} {u : Tmp} {xs : List Operand} {l cap c : List Value} {ats : Array TypeId} {pre : Prop} [hu : IsC (evl E (.tmp u)) (.func (.func f) #[] cap.toArray)] [hf : CallC P f] [IsC (evsl E xs) l] [hc : AppC l cap c] [h : SpecM P w0 L f c v pre] : YcC P w0 n L E (.call ⟨.value (.tmp u), xs.toArray, ats⟩) v pre := ⟨fun hp _ _ _ _ _ => ⟨fun a w ha hw => by
  unfold calm
  rw [run_callcl hf.out ha isE isS hc.out]
  exact ⟨rfl, h.out hp w hw⟩⟩⟩

/-! ### Calls that make memory -/
def RetM (S : Type) (val : S → Value) (mem : S → List Blk) (w : World) (e : Ending) (w' : World) : Prop := ∃ s, e = .returned (val s) ∧ Own w (mem s) w'
theorem Own.join {w w' : World} {G : List Blk} (h : Own w0 L w) (k : Own w G w') : Own w0 (G ++ L) w' := by
  have h' := h.to k.ext
  refine ⟨h'.ext, fun e he => ?_, ?_⟩
  · rcases List.mem_append.1 he with he | he
    · exact ⟨Nat.le_trans h.ext.size (k.mem e he).1, (k.mem e he).2⟩
    · exact h'.mem e he
  · rw [List.map_append]
    refine List.nodup_append.2 ⟨k.nd, h.nd, fun a ha b hb hab => ?_⟩
    obtain ⟨e1, h1, rfl⟩ := List.mem_map.1 ha
    obtain ⟨e2, h2, rfl⟩ := List.mem_map.1 hb
    have h3 := (k.mem e1 h1).1
    have h4 := h.lt h2
    omega
class SpecR (P : Program) (w0 : World) (L : List Blk) (f : FuncId) (args : List Value) (S : outParam Type) (val : outParam (S → Value)) (mem : outParam (S → List Blk)) (pre : outParam Prop) : Prop where
  out : pre → ∀ w, Own w0 L w → Calls P f args.toArray w (RetM S val mem w)
theorem wo_callM {S : Type} {val : S → Value} {mem : S → List Blk} {f : FuncId} {xs : List Operand} {l : List Value} {ats : Array TypeId} (hl : Env.evs E xs = some l) (hf : callableB P f = true) (hc : ∀ w, Own w0 L w → Calls P f l.toArray w (RetM S val mem w))
    (hg : guardB ops E gd = some true) (hd : Nat.blt t n = true) (h : ∀ s, JO P w0 n ops Q rest ((t, val s) :: E) (mem s ++ L)) : JO P w0 n ops Q (⟨some t, .call ⟨.value (.func f), xs.toArray, ats⟩, ty, pos, aft, gd⟩ :: rest) E L :=
  jo_c (S := S) (o := ⟨some t, .call ⟨.value (.func f), xs.toArray, ats⟩, ty, pos, aft, gd⟩) hg hd val (fun s => mem s ++ L) (fun _ _ ha => run_call hf ha hl)
    (fun w hw => (hc w hw).mono fun _ _ ⟨s, he, ho⟩ => ⟨s, he, hw.join ho⟩) h
theorem sN {S : Type} {val : S → Value} {mem : S → List Blk} {f : FuncId} {xs : List Operand} {l : List Value} {ats : Array TypeId} {pre : Prop} [hf : CallC P f] [hl : IsC (evsl E xs) l] [hc : SpecR P w0 L f l S val mem pre]
    (hg : guardB ops E gd = some true) (hd : Nat.blt t n = true) (s : pre) (h : ∀ s, JO P w0 n ops Q rest ((t, val s) :: E) (mem s ++ L)) : JO P w0 n ops Q (⟨some t, .call ⟨.value (.func f), xs.toArray, ats⟩, ty, pos, aft, gd⟩ :: rest) E L := wo_callM isS hf.out (hc.out s) hg hd h
theorem eN {K : Env → List Blk → Prop} {Lw : List Blk} {S : Type} {val : S → Value} {mem : S → List Blk} {f : FuncId} {xs : List Operand} {l : List Value} {ats : Array TypeId} {pre : Prop} [hf : CallC P f] [hl : IsC (evsl E xs) l] [hc : SpecR P w0 L f l S val mem pre]
    (hg : guardB ops E gd = some true) (hd : Nat.blt t n = true) [hw : SblC Lw L] (s : pre) (h : ∀ s, JE P w0 n ops Lw K rest ((t, val s) :: E) (mem s ++ L)) : JE P w0 n ops Lw K (⟨some t, .call ⟨.value (.func f), xs.toArray, ats⟩, ty, pos, aft, gd⟩ :: rest) E L :=
  je_c (S := S) (o := ⟨some t, .call ⟨.value (.func f), xs.toArray, ats⟩, ty, pos, aft, gd⟩) hg hd val (fun s => mem s ++ L) (fun _ _ ha => run_call hf.out ha isS)
    (fun w hw' => (hc.out s w hw').mono fun _ _ ⟨s, he, ho⟩ => ⟨s, he, hw'.join ho⟩) (fun _ => weak_sub (hw.out.trans (List.sublist_append_right _ _))) h
/-- The rest of a call's value operations, behind all others. -/
theorem eX {K : Env → List Blk → Prop} {Lw : List Blk} {op : Op} [h : YlC P w0 n L E op v] (hg : guardB ops E gd = some true) (hd : Nat.blt t n = true) [hw : SblC Lw L] (k : JE P w0 n ops Lw K rest ((t, v) :: E) L) : JE P w0 n ops Lw K (⟨some t, op, ty, pos, aft, gd⟩ :: rest) E L :=
  ⟨hg, hd, Unit, fun _ => v, fun _ => L, fun a w ha hw => by
    have h1 := (h.out (some t) ty pos aft gd).out a w ha hw
    unfold calm at h1
    generalize (execOp a.eval ⟨some t, op, ty, pos, aft, gd⟩).run P w = r at *
    cases r with
    | ok x w' =>
      cases x <;> simp only [calmUpon] at h1 <;> simp only [Hap]
      case value u => exact ⟨(), h1.1, hw.to h1.2⟩
      case skip => exact ⟨(), h1.1.symm, hw.to h1.2⟩
      case enter f args =>
        obtain ⟨rfl, h2⟩ := h1
        exact h2.mono fun e w'' ⟨he, hx⟩ => ⟨_, he, (), rfl, hw.to hx⟩
    | halt x w' => simp only [calmUpon] at h1, fun _ => weak_sub hw.out, fun _ => k⟩
theorem sB {len : Nat} {ps : List (Nat × Operand)} {l : List (Nat × Value)} {cs : Array Value} {e : TypeId} [hp : IsC (evpl E ps) l] [hb : BsC P T len l cs e] (hg : guardB ops E gd = some true) (hd : Nat.blt t n = true)
    (h : ∀ b, JO P w0 n ops Q rest ((t, .slice (some ⟨b, 0, none⟩) len len) :: E) (⟨b, cs, e⟩ :: L)) : JO P w0 n ops Q (⟨some t, .buildSlice T len ps.toArray, ty, pos, aft, gd⟩ :: rest) E L := wo_bslice isP hg hd h
theorem eB {K : Env → List Blk → Prop} {Lw : List Blk} {len : Nat} {ps : List (Nat × Operand)} {l : List (Nat × Value)} {cs : Array Value} {e : TypeId} [hp : IsC (evpl E ps) l] [hb : BsC P T len l cs e] (hg : guardB ops E gd = some true) (hd : Nat.blt t n = true) [hw : SblC Lw L]
    (h : ∀ b, JE P w0 n ops Lw K rest ((t, .slice (some ⟨b, 0, none⟩) len len) :: E) (⟨b, cs, e⟩ :: L)) : JE P w0 n ops Lw K (⟨some t, .buildSlice T len ps.toArray, ty, pos, aft, gd⟩ :: rest) E L := je_bslice isP hg hd hw.out h

/-! ### Slices of slices -/
/-- A slice of a slice, its capacity cut. -/
instance ys_slice3 {e s b l c : Nat} {i m : Int} {z1 z2 : Operand} [IsC (evl E x) (.slice (some ⟨b, 0, none⟩) l c)] [hy : IsC (evl E z1) (.int .i64 i)] [hz : IsC (evl E z2) (.int .i64 m)] [h : UndC P T (.slice e)] [hs : SizeC P e s] : YsC P w0 n L E (.slice T x none (some z1) (some z2)) (.slice (some ⟨b, 0, none⟩) i.toNat m.toNat) (0 ≤ i ∧ i ≤ m ∧ m ≤ c) := ⟨fun hi d ty pos aft gd =>
  yl_run (fun _ => Instr.sliceAt T (.slice (some ⟨b, 0, none⟩) l c) none (some (.int .i64 i)) (some (.int .i64 m))) (fun a ha => by simp only [execOp, ha.ev (isE (x := x)), Option.map_none, Option.map_some, ha.ev (isE (x := z1)), ha.ev (isE (x := z2))]) (fun a w _ _ => by
    have h1 : (0 : Int) ≤ m := by omega
    have h2 : i ≤ ((m.toNat : Nat) : Int) := by omega
    have h3 : max m 0 = m := by omega
    have h4 : ¬ m < i := by omega
    simp [Instr.sliceAt, Instr.slice, run_underlying h.out, Instr.sliceBounds, Instr.sliceBound, asIntOf, hi.1, h1, h2, h3, h4, hi.2.2, run_sizeOf hs.out, Addr.add])⟩
instance (priority := high) ys_slice3n {e s b l c i m : Nat} {z1 z2 : Operand} [IsC (evl E x) (.slice (some ⟨b, 0, none⟩) l c)] [hy : IsC (evl E z1) (.int .i64 (i : Nat))] [hz : IsC (evl E z2) (.int .i64 (m : Nat))] [h : UndC P T (.slice e)] [hs : SizeC P e s] : YsC P w0 n L E (.slice T x none (some z1) (some z2)) (.slice (some ⟨b, 0, none⟩) i m) (i ≤ m ∧ m ≤ c) := ⟨fun hi d ty pos aft gd => by
  have := (ys_slice3 (P := P) (w0 := w0) (n := n) (L := L) (E := E) (x := x) (T := T) (e := e) (s := s) (b := b) (l := l) (c := c) (i := (i : Int)) (m := (m : Int)) (z1 := z1) (z2 := z2)).out ⟨by omega, by omega, by omega⟩ d ty pos aft gd
  simpa only [Int.toNat_natCast] using this⟩
/-- A part of a slice. -/
instance ys_slice2 {e s b o l c : Nat} {i m : Int} {z1 z2 : Operand} [IsC (evl E x) (.slice (some ⟨b, o, none⟩) l c)] [hy : IsC (evl E z1) (.int .i64 i)] [hz : IsC (evl E z2) (.int .i64 m)] [h : UndC P T (.slice e)] [hs : SizeC P e s] : YsC P w0 n L E (.slice T x (some z1) (some z2) none) (.slice (some ⟨b, o + i.toNat * s, none⟩) (m - i).toNat (c - i).toNat) (0 ≤ i ∧ i ≤ m ∧ m ≤ c ∧ i < c) := ⟨fun hi d ty pos aft gd =>
  yl_run (fun _ => Instr.sliceAt T (.slice (some ⟨b, o, none⟩) l c) (some (.int .i64 i)) (some (.int .i64 m)) none) (fun a ha => by simp only [execOp, ha.ev (isE (x := x)), Option.map_none, Option.map_some, ha.ev (isE (x := z1)), ha.ev (isE (x := z2))]) (fun a w _ _ => by
    have h1 : (0 : Int) ≤ m := by omega
    have h2 : i ≤ ((m.toNat : Nat) : Int) := by omega
    have h3 : ¬ c = i.toNat := by omega
    have h4 : m.toNat - i.toNat = (m - i).toNat := by omega
    have h5 : c - i.toNat = ((c : Int) - i).toNat := by omega
    have h6 : max m 0 = m := by omega
    have h7 : ¬ m < i := by omega
    simp [Instr.sliceAt, Instr.slice, run_underlying h.out, Instr.sliceBounds, Instr.sliceBound, asIntOf, hi.1, h1, h2, hi.2.2.1, run_sizeOf hs.out, h3, h4, h5, h6, h7, addr_add])⟩
end

/-! ### Appends -/
/-- A block taken out of the list. -/
class DelC (b : Nat) (L : List Blk) (cs : outParam (Array Value)) (T : outParam TypeId) (L1 : outParam (List Blk)) : Prop where
  out : L.Perm (⟨b, cs, T⟩ :: L1)
instance (priority := high) delHere (b : Nat) (cs : Array Value) (T : TypeId) (L : List Blk) : DelC b (⟨b, cs, T⟩ :: L) cs T L := ⟨.refl _⟩
instance (priority := low) delThere (b : Nat) (e : Blk) (cs : Array Value) (T : TypeId) (L L1 : List Blk) [h : DelC b L cs T L1] : DelC b (e :: L) cs T (e :: L1) := ⟨(h.out.cons e).trans (.swap _ _ _)⟩
section
variable {P : Program} {w0 : World} {n : Nat} {ops : Array Oper} {L L1 : List Blk} {E : Env}
variable {Q : Exit → Act → World → Prop} {rest : List Oper}
variable {ty : TypeId} {pos : String} {aft : Array Edge} {gd : Option (Nat × Bool)} {t : Tmp} {x y : Operand}
theorem info_some {T : TypeId} {β : Type} {g : TypeInfo → β} {v : β} (h : (P.info? T).map g = some v) : ∃ i, P.info? T = some i ∧ g i = v := by
  cases hi : P.info? T with
  | none => simp [hi] at h
  | some i => exact ⟨i, rfl, by simpa [hi] using h⟩
/-- What an append onto a row of the call's own comes to. -/
theorem run_app {S T : TypeId} {b len c b2 off2 m c2 k B : Nat} {xs sp news : List Value} {cs2 : Array Value} {z : Value} {zc : Array Value} {w : World} (hT : P.underlying S = some (.slice T)) (hz : (P.info? T).bind (·.zero) = some z) (hzc : z.cells = zc) (hk : (P.info? T).map (·.size) = some k) (hB : (P.info? T).map (·.bytes) = some B)
    (hzk : zc.size = k) (hw : Own w0 L w) (hd : L.Perm (⟨b, (xs ++ sp).toArray, T⟩ :: L1)) (hx : xs.length = len * k) (hs : sp.length = (c - len) * k) (hc : len ≤ c) (h2 : ∃ T2 fz, w.heap[b2]? = some (.cells cs2 T2 fz)) (hn : news.length = m * k) (hcs : ∀ j u, news[j]? = some u → cs2[off2 + j]? = some u)
    (h1 : ∀ u ∈ news, u.oneCell' = true) (hbytes : (len + m) * B ≤ 140737488355328) (h63 : len + m ≤ 9223372036854775807) :
    ∃ s : { s : Nat × Nat × List Value // len + m ≤ s.2.1 ∧ s.2.2.length = (s.2.1 - (len + m)) * k }, ∃ w', (Builtin.append_ #[S, S] ty #[.slice (some ⟨b, 0, none⟩) len c, .slice (some ⟨b2, off2, none⟩) m c2]).run P w = .ok (.slice (some ⟨s.1.1, 0, none⟩) (len + m) s.1.2.1) w' ∧ Own w0 (⟨s.1.1, (xs ++ news ++ s.1.2.2).toArray, T⟩ :: L1) w' := by
  have hwp := hw.perm hd
  have hb := (hwp.mem _ (.head _)).2
  obtain ⟨i, hi, hik⟩ := info_some hk
  obtain ⟨i', hi', hiB⟩ := info_some hB
  obtain rfl : i' = i := Option.some.inj (hi'.symm.trans hi)
  have hz' : i'.zero = some z := by simpa [hi] using hz
  obtain ⟨T2, fz, h2⟩ := h2
  have hnew : ∀ j u, news[j]? = some u → w.cell? ((⟨b2, off2, none⟩ : Addr).add j) = some u := fun j u hu => by rw [addr_add, cell_block h2]; exact hcs j u hu
  by_cases hroom : len + m ≤ c
  · have hle : (c - len) * k = (c - (len + m)) * k + m * k := by rw [← Nat.add_mul, show c - (len + m) + m = c - len by omega]
    have hr := run_append_room w S ty T i' hT hi b len c (xs ++ sp).toArray hb ⟨b2, off2, none⟩ m c2 news (by rw [hik]; exact hn) hnew h1 hroom (by rw [hik]; simp; omega)
    refine ⟨⟨(b, c, sp.drop (m * k)), hroom, by rw [List.length_drop]; simp only; omega⟩, _, hr, ?_⟩
    have e1 : ((xs ++ sp).toArray.toList.take (len * i'.size) ++ news ++ (xs ++ sp).toArray.toList.drop (len * i'.size + news.length)) = xs ++ news ++ sp.drop (m * k) := by
      rw [hik, hn, ← hx]
      simp only [List.take_left', List.drop_append, List.append_assoc]
      rw [List.drop_eq_nil_of_le (by omega), Nat.add_sub_cancel_left]
      simp
    rw [e1]
    refine hwp.turn (b := b) (cs := (xs ++ sp).toArray) (T := T) .here ?_
    have hsz : b < w.heap.size := lt_of_block hb
    refine ⟨by simp [World.setRow], by simp [World.setRow], by simp [World.setRow], by simp [World.setRow], fun q hq => ?_, ?_⟩
    · simp [World.setRow, Array.getElem?_modify, Ne.symm hq]
    · simp [World.setRow, Array.getElem?_modify, hb]
  · have hold : ∀ j u, xs[j]? = some u → w.cell? ((⟨b, 0, none⟩ : Addr).add j) = some u := fun j u hu => by
      rw [addr_add, cell_block hb, Nat.zero_add, List.getElem?_toArray, List.getElem?_append_left (by
        rcases Nat.lt_or_ge j xs.length with h | h
        · exact h
        · rw [List.getElem?_eq_none h] at hu; cases hu)]
      exact hu
    have hr := run_append_grow w S ty T i' z hT hi hz' ⟨b, 0, none⟩ len c xs (by rw [hik]; exact hx) hold ⟨b2, off2, none⟩ m c2 news (by rw [hik]; exact hn) hnew (by omega) (by omega) (growslice_fits (by omega) (by rw [hiB]; exact hbytes))
    have hge := grownCap_ge w (len + m) c T
    refine ⟨⟨(w.heap.size, grownCap w (len + m) c T, (Builtin.zeroCells z.cells (grownCap w (len + m) c T - (len + m))).toList), hge, by rw [Array.length_toList, size_zeroCells, hzc, hzk]⟩, _, hr, ?_⟩
    have hL1 : Own w0 L1 w := hwp.sub (List.sublist_cons_self _ _)
    have h3 := (hL1.to (Ext.drew w)).alloc (xs.toArray ++ news.toArray ++ Builtin.zeroCells z.cells (grownCap w (len + m) c T - (len + m))) T
    have e2 : xs.toArray ++ news.toArray ++ Builtin.zeroCells z.cells (grownCap w (len + m) c T - (len + m)) = (xs ++ news ++ (Builtin.zeroCells z.cells (grownCap w (len + m) c T - (len + m))).toList).toArray := by
      apply Array.ext'
      simp
    rw [e2] at h3
    rw [e2]
    exact h3
theorem run_app_nil {S T : TypeId} {b2 off2 m c2 k B : Nat} {news : List Value} {cs2 : Array Value} {z : Value} {zc : Array Value} {w : World} (hT : P.underlying S = some (.slice T)) (hz : (P.info? T).bind (·.zero) = some z) (hzc : z.cells = zc) (hk : (P.info? T).map (·.size) = some k) (hB : (P.info? T).map (·.bytes) = some B)
    (hzk : zc.size = k) (hw : Own w0 L w) (h2 : ∃ T2 fz, w.heap[b2]? = some (.cells cs2 T2 fz)) (hn : news.length = m * k) (hcs : ∀ j u, news[j]? = some u → cs2[off2 + j]? = some u)
    (hm : 0 < m) (hbytes : m * B ≤ 140737488355328) (h63 : m ≤ 9223372036854775807) :
    ∃ s : { s : Nat × Nat × List Value // m ≤ s.2.1 ∧ s.2.2.length = (s.2.1 - m) * k }, ∃ w', (Builtin.append_ #[S, S] ty #[.slice none 0 0, .slice (some ⟨b2, off2, none⟩) m c2]).run P w = .ok (.slice (some ⟨s.1.1, 0, none⟩) m s.1.2.1) w' ∧ Own w0 (⟨s.1.1, (news ++ s.1.2.2).toArray, T⟩ :: L) w' := by
  obtain ⟨i, hi, hik⟩ := info_some hk
  obtain ⟨i', hi', hiB⟩ := info_some hB
  obtain rfl : i' = i := Option.some.inj (hi'.symm.trans hi)
  have hz' : i'.zero = some z := by simpa [hi] using hz
  obtain ⟨T2, fz, h2⟩ := h2
  have hnew : ∀ j u, news[j]? = some u → w.cell? ((⟨b2, off2, none⟩ : Addr).add j) = some u := fun j u hu => by rw [addr_add, cell_block h2]; exact hcs j u hu
  have hr := run_append_nil w S ty T i' z hT hi hz' ⟨b2, off2, none⟩ m c2 news (by rw [hik]; exact hn) hnew hm (by omega) (by rw [hiB]; omega)
  have hge := grownCap_ge w m 0 T
  refine ⟨⟨(w.heap.size, grownCap w m 0 T, (Builtin.zeroCells z.cells (grownCap w m 0 T - m)).toList), hge, by rw [Array.length_toList, size_zeroCells, hzc, hzk]⟩, _, hr, ?_⟩
  have h3 := (hw.to (Ext.drew w)).alloc (news.toArray ++ Builtin.zeroCells z.cells (grownCap w m 0 T - m)) T
  have e2 : news.toArray ++ Builtin.zeroCells z.cells (grownCap w m 0 T - m) = (news ++ (Builtin.zeroCells z.cells (grownCap w m 0 T - m)).toList).toArray := by
    apply Array.ext'
    simp
  rw [e2] at h3
  rw [e2]
  exact h3
theorem run_appop {S : TypeId} {vx vy : Value} {a : Act} {w w' : World} {r : Value} {d : Option Tmp} (ha : Rep n E a) (hx : Env.ev E x = some vx) (hy : Env.ev E y = some vy) (hr : (Builtin.append_ #[S, S] ty #[vx, vy]).run P w = .ok r w') :
    (execOp a.eval ⟨d, .call ⟨.builtin .append, #[x, y], #[S, S]⟩, ty, pos, aft, gd⟩).run P w = .ok (.value r) w' := by
  have h1 : (#[x, y] : Array Operand).map a.eval = #[vx, vy] := by simp [ha.ev hx, ha.ev hy]
  have h2 : ∀ cs : Array Bool, (builtin .append #[S, S] ty cs #[vx, vy]).run P w = .ok (.value r) w' := fun cs => by
    show Sem.run P (do pure (Next.value (← Builtin.append_ #[S, S] ty #[vx, vy])) : Sem Next) w = _
    rw [Sem.run_bind, hr]
    rfl
  simp only [execOp, resolve, h1, Sem.run_bind, Sem.run_pure, Result.andThen, invoke]
  exact h2 _
section
variable {α : Type} {enc : α → Array Value} {S T T2 : TypeId} {b c b2 m c2 k B : Nat} {xs ys : List α} {sp : List Value} {z : Value} {zc : Array Value}
variable [hx : IsC (evl E x) (.slice (some ⟨b, 0, none⟩) xs.length c)] [hy : IsC (evl E y) (.slice (some ⟨b2, 0, none⟩) m c2)] [hd : DelC b L (row enc xs sp) T L1] [h2 : AtC w0 L b2 (row enc ys []) T2] [hT : UndC P S (.slice T)] [hz : ZeroC P T z zc] [he : EncC enc k] [hk : SizeC P T k] [hB : BytesC P T B]
include hx hy hd h2 hT hz he hk hB
theorem app_run (hm : ys.length = m) (hc : xs.length ≤ c ∧ sp.length = (c - xs.length) * k) (hzk : zc.size = k) (hb : (xs.length + m) * B ≤ 140737488355328 ∧ xs.length + m ≤ 9223372036854775807) (a : Act) (w : World) (ha : Rep n E a) (hw : Own w0 L w) :
    ∃ s : { s : Nat × Nat × List Value // xs.length + m ≤ s.2.1 ∧ s.2.2.length = (s.2.1 - (xs.length + m)) * k }, ∃ w', (execOp a.eval ⟨some t, .call ⟨.builtin .append, #[x, y], #[S, S]⟩, ty, pos, aft, gd⟩).run P w = .ok (.value (.slice (some ⟨s.1.1, 0, none⟩) (xs.length + m) s.1.2.1)) w' ∧ Own w0 (⟨s.1.1, row enc (xs ++ ys) s.1.2.2, T⟩ :: L1) w' := by
  obtain ⟨fz, hf⟩ := h2.out w hw
  obtain ⟨s, w', hr, ho⟩ := run_app (ty := ty) (b := b) (len := xs.length) (c := c) (b2 := b2) (off2 := 0) (m := m) (c2 := c2) (xs := rowL enc xs) (sp := sp) (news := rowL enc ys) hT.out hz.out hz.cells hk.out hB.out hzk hw hd.out (rowL_len xs) hc.2 hc.1 ⟨T2, fz, hf⟩ (by rw [rowL_len (k := k), hm]) (fun j u hu => by rw [Nat.zero_add]; simpa [row] using hu) (row_one ys) hb.1 hb.2
  refine ⟨s, w', run_appop ha isE isE hr, ?_⟩
  rw [row, rowL_append]
  exact ho
theorem sP (hg : guardB ops E gd = some true) (hd' : Nat.blt t n = true) (hm : ys.length = m) (hc : xs.length ≤ c ∧ sp.length = (c - xs.length) * k) (hzk : zc.size = k) (hb : (xs.length + m) * B ≤ 140737488355328 ∧ xs.length + m ≤ 9223372036854775807)
    (h : ∀ b' c' sp', xs.length + m ≤ c' → sp'.length = (c' - (xs.length + m)) * k → JO P w0 n ops Q rest ((t, .slice (some ⟨b', 0, none⟩) (xs.length + m) c') :: E) (⟨b', row enc (xs ++ ys) sp', T⟩ :: L1)) : JO P w0 n ops Q (⟨some t, .call ⟨.builtin .append, #[x, y], #[S, S]⟩, ty, pos, aft, gd⟩ :: rest) E L :=
  jo_w (L' := { s : Nat × Nat × List Value // xs.length + m ≤ s.2.1 ∧ s.2.2.length = (s.2.1 - (xs.length + m)) * k }) (o := ⟨some t, .call ⟨.builtin .append, #[x, y], #[S, S]⟩, ty, pos, aft, gd⟩) hg hd' (fun s => .slice (some ⟨s.1.1, 0, none⟩) (xs.length + m) s.1.2.1) (fun s => ⟨s.1.1, row enc (xs ++ ys) s.1.2.2, T⟩ :: L1)
    (fun a w ha hw => by
      obtain ⟨s, w', hr, ho⟩ := app_run (hx := hx) (hy := hy) (hd := hd) (h2 := h2) (hT := hT) (hz := hz) (he := he) (hk := hk) (hB := hB) hm hc hzk hb a w ha hw
      exact ⟨s, w', .inl hr, ho⟩) (fun s => h _ _ _ s.2.1 s.2.2)
theorem eP {K : Env → List Blk → Prop} {Lw : List Blk} (hg : guardB ops E gd = some true) (hd' : Nat.blt t n = true) [hw : SblC Lw L1] (hm : ys.length = m) (hc : xs.length ≤ c ∧ sp.length = (c - xs.length) * k) (hzk : zc.size = k) (hb : (xs.length + m) * B ≤ 140737488355328 ∧ xs.length + m ≤ 9223372036854775807)
    (h : ∀ b' c' sp', xs.length + m ≤ c' → sp'.length = (c' - (xs.length + m)) * k → JE P w0 n ops Lw K rest ((t, .slice (some ⟨b', 0, none⟩) (xs.length + m) c') :: E) (⟨b', row enc (xs ++ ys) sp', T⟩ :: L1)) : JE P w0 n ops Lw K (⟨some t, .call ⟨.builtin .append, #[x, y], #[S, S]⟩, ty, pos, aft, gd⟩ :: rest) E L :=
  je_old (S := { s : Nat × Nat × List Value // xs.length + m ≤ s.2.1 ∧ s.2.2.length = (s.2.1 - (xs.length + m)) * k }) (o := ⟨some t, .call ⟨.builtin .append, #[x, y], #[S, S]⟩, ty, pos, aft, gd⟩) hg hd' (fun s => .slice (some ⟨s.1.1, 0, none⟩) (xs.length + m) s.1.2.1) (fun s => ⟨s.1.1, row enc (xs ++ ys) s.1.2.2, T⟩ :: L1)
    (fun a w ha hw => by
      obtain ⟨s, w', hr, ho⟩ := app_run (hx := hx) (hy := hy) (hd := hd) (h2 := h2) (hT := hT) (hz := hz) (he := he) (hk := hk) (hB := hB) hm hc hzk hb a w ha hw
      exact ⟨s, w', .inl hr, ho⟩) (fun _ => weak_sub (.cons _ hw.out)) (fun s => h _ _ _ s.2.1 s.2.2)
end
section
variable {α : Type} {enc : α → Array Value} {S T T2 : TypeId} {b2 m c2 k B : Nat} {ys : List α} {z : Value} {zc : Array Value}
variable [hx : IsC (evl E x) (.slice none 0 0)] [hy : IsC (evl E y) (.slice (some ⟨b2, 0, none⟩) m c2)] [h2 : AtC w0 L b2 (row enc ys []) T2] [hT : UndC P S (.slice T)] [hz : ZeroC P T z zc] [he : EncC enc k] [hk : SizeC P T k] [hB : BytesC P T B]
include hx hy h2 hT hz he hk hB
theorem app_run0 (hm : ys.length = m) (hzk : zc.size = k) (hb : 0 < m ∧ m * B ≤ 140737488355328 ∧ m ≤ 9223372036854775807) (a : Act) (w : World) (ha : Rep n E a) (hw : Own w0 L w) :
    ∃ s : { s : Nat × Nat × List Value // m ≤ s.2.1 ∧ s.2.2.length = (s.2.1 - m) * k }, ∃ w', (execOp a.eval ⟨some t, .call ⟨.builtin .append, #[x, y], #[S, S]⟩, ty, pos, aft, gd⟩).run P w = .ok (.value (.slice (some ⟨s.1.1, 0, none⟩) m s.1.2.1)) w' ∧ Own w0 (⟨s.1.1, row enc ys s.1.2.2, T⟩ :: L) w' := by
  obtain ⟨fz, hf⟩ := h2.out w hw
  obtain ⟨s, w', hr, ho⟩ := run_app_nil (ty := ty) (b2 := b2) (off2 := 0) (m := m) (c2 := c2) (news := rowL enc ys) hT.out hz.out hz.cells hk.out hB.out hzk hw ⟨T2, fz, hf⟩ (by rw [rowL_len (k := k), hm]) (fun j u hu => by rw [Nat.zero_add]; simpa [row] using hu) hb.1 hb.2.1 hb.2.2
  exact ⟨s, w', run_appop ha isE isE hr, ho⟩
theorem sP0 (hg : guardB ops E gd = some true) (hd' : Nat.blt t n = true) (hm : ys.length = m) (hzk : zc.size = k) (hb : 0 < m ∧ m * B ≤ 140737488355328 ∧ m ≤ 9223372036854775807)
    (h : ∀ b' c' sp', m ≤ c' → sp'.length = (c' - m) * k → JO P w0 n ops Q rest ((t, .slice (some ⟨b', 0, none⟩) m c') :: E) (⟨b', row enc ys sp', T⟩ :: L)) : JO P w0 n ops Q (⟨some t, .call ⟨.builtin .append, #[x, y], #[S, S]⟩, ty, pos, aft, gd⟩ :: rest) E L :=
  jo_w (L' := { s : Nat × Nat × List Value // m ≤ s.2.1 ∧ s.2.2.length = (s.2.1 - m) * k }) (o := ⟨some t, .call ⟨.builtin .append, #[x, y], #[S, S]⟩, ty, pos, aft, gd⟩) hg hd' (fun s => .slice (some ⟨s.1.1, 0, none⟩) m s.1.2.1) (fun s => ⟨s.1.1, row enc ys s.1.2.2, T⟩ :: L)
    (fun a w ha hw => by
      obtain ⟨s, w', hr, ho⟩ := app_run0 (hx := hx) (hy := hy) (h2 := h2) (hT := hT) (hz := hz) (he := he) (hk := hk) (hB := hB) hm hzk hb a w ha hw
      exact ⟨s, w', .inl hr, ho⟩) (fun s => h _ _ _ s.2.1 s.2.2)
theorem eP0 {K : Env → List Blk → Prop} {Lw : List Blk} (hg : guardB ops E gd = some true) (hd' : Nat.blt t n = true) [hw : SblC Lw L] (hm : ys.length = m) (hzk : zc.size = k) (hb : 0 < m ∧ m * B ≤ 140737488355328 ∧ m ≤ 9223372036854775807)
    (h : ∀ b' c' sp', m ≤ c' → sp'.length = (c' - m) * k → JE P w0 n ops Lw K rest ((t, .slice (some ⟨b', 0, none⟩) m c') :: E) (⟨b', row enc ys sp', T⟩ :: L)) : JE P w0 n ops Lw K (⟨some t, .call ⟨.builtin .append, #[x, y], #[S, S]⟩, ty, pos, aft, gd⟩ :: rest) E L :=
  je_old (S := { s : Nat × Nat × List Value // m ≤ s.2.1 ∧ s.2.2.length = (s.2.1 - m) * k }) (o := ⟨some t, .call ⟨.builtin .append, #[x, y], #[S, S]⟩, ty, pos, aft, gd⟩) hg hd' (fun s => .slice (some ⟨s.1.1, 0, none⟩) m s.1.2.1) (fun s => ⟨s.1.1, row enc ys s.1.2.2, T⟩ :: L)
    (fun a w ha hw => by
      obtain ⟨s, w', hr, ho⟩ := app_run0 (hx := hx) (hy := hy) (h2 := h2) (hT := hT) (hz := hz) (he := he) (hk := hk) (hB := hB) hm hzk hb a w ha hw
      exact ⟨s, w', .inl hr, ho⟩) (fun _ => weak_sub (.cons _ hw.out)) (fun s => h _ _ _ s.2.1 s.2.2)
end
/-! A slice without room, whosever it is. -/
section
variable {α : Type} {enc : α → Array Value} {S T T1 T2 : TypeId} {b b2 m c2 k B : Nat} {xs ys : List α} {sp : List Value} {z : Value} {zc : Array Value}
variable [hx : IsC (evl E x) (.slice (some ⟨b, 0, none⟩) xs.length xs.length)] [hy : IsC (evl E y) (.slice (some ⟨b2, 0, none⟩) m c2)] [h1 : AtC w0 L b (row enc xs sp) T1] [h2 : AtC w0 L b2 (row enc ys []) T2] [hT : UndC P S (.slice T)] [hz : ZeroC P T z zc] [he : EncC enc k] [hk : SizeC P T k] [hB : BytesC P T B]
include hx hy h1 h2 hT hz he hk hB
theorem app_runF (hm : ys.length = m) (hzk : zc.size = k) (hb : 0 < m ∧ (xs.length + m) * B ≤ 140737488355328 ∧ xs.length + m ≤ 9223372036854775807) (a : Act) (w : World) (ha : Rep n E a) (hw : Own w0 L w) :
    ∃ s : { s : Nat × Nat × List Value // xs.length + m ≤ s.2.1 ∧ s.2.2.length = (s.2.1 - (xs.length + m)) * k }, ∃ w', (execOp a.eval ⟨some t, .call ⟨.builtin .append, #[x, y], #[S, S]⟩, ty, pos, aft, gd⟩).run P w = .ok (.value (.slice (some ⟨s.1.1, 0, none⟩) (xs.length + m) s.1.2.1)) w' ∧ Own w0 (⟨s.1.1, row enc (xs ++ ys) s.1.2.2, T⟩ :: L) w' := by
  obtain ⟨fz1, hf1⟩ := h1.out w hw
  obtain ⟨fz2, hf2⟩ := h2.out w hw
  obtain ⟨i, hi, hik⟩ := info_some hk.out
  obtain ⟨i', hi', hiB⟩ := info_some hB.out
  obtain rfl : i' = i := Option.some.inj (hi'.symm.trans hi)
  have hz' : i'.zero = some z := by simpa [hi] using hz.out
  have hold : ∀ j u, (rowL enc xs)[j]? = some u → w.cell? ((⟨b, 0, none⟩ : Addr).add j) = some u := fun j u hu => by
    rw [addr_add, cell_block hf1, Nat.zero_add, row, List.getElem?_toArray, List.getElem?_append_left (by
      rcases Nat.lt_or_ge j (rowL enc xs).length with h | h
      · exact h
      · rw [List.getElem?_eq_none h] at hu; cases hu)]
    exact hu
  have hnew : ∀ j u, (rowL enc ys)[j]? = some u → w.cell? ((⟨b2, 0, none⟩ : Addr).add j) = some u := fun j u hu => by
    rw [addr_add, cell_block hf2, Nat.zero_add]
    simpa [row] using hu
  have hr := run_append_grow w S ty T i' z hT.out hi hz' ⟨b, 0, none⟩ xs.length xs.length (rowL enc xs) (by rw [hik]; exact rowL_len xs) hold ⟨b2, 0, none⟩ m c2 (rowL enc ys) (by rw [hik, rowL_len (k := k), hm]) hnew (by omega) (by omega) (growslice_fits (by omega) (by rw [hiB]; exact hb.2.1))
  have hge := grownCap_ge w (xs.length + m) xs.length T
  refine ⟨⟨(w.heap.size, grownCap w (xs.length + m) xs.length T, (Builtin.zeroCells z.cells (grownCap w (xs.length + m) xs.length T - (xs.length + m))).toList), hge, by rw [Array.length_toList, size_zeroCells, hz.cells, hzk]⟩, _, run_appop ha isE isE hr, ?_⟩
  have h3 := (hw.to (Ext.drew w)).alloc ((rowL enc xs).toArray ++ (rowL enc ys).toArray ++ Builtin.zeroCells z.cells (grownCap w (xs.length + m) xs.length T - (xs.length + m))) T
  have e2 : (rowL enc xs).toArray ++ (rowL enc ys).toArray ++ Builtin.zeroCells z.cells (grownCap w (xs.length + m) xs.length T - (xs.length + m)) = row enc (xs ++ ys) (Builtin.zeroCells z.cells (grownCap w (xs.length + m) xs.length T - (xs.length + m))).toList := by
    apply Array.ext'
    simp [row, rowL_append]
  rw [e2] at h3
  rw [e2]
  exact h3
theorem eQ {K : Env → List Blk → Prop} {Lw : List Blk} (hg : guardB ops E gd = some true) (hd' : Nat.blt t n = true) [hw : SblC Lw L] (hm : ys.length = m) (hzk : zc.size = k) (hb : 0 < m ∧ (xs.length + m) * B ≤ 140737488355328 ∧ xs.length + m ≤ 9223372036854775807)
    (h : ∀ b' c' sp', xs.length + m ≤ c' → sp'.length = (c' - (xs.length + m)) * k → JE P w0 n ops Lw K rest ((t, .slice (some ⟨b', 0, none⟩) (xs.length + m) c') :: E) (⟨b', row enc (xs ++ ys) sp', T⟩ :: L)) : JE P w0 n ops Lw K (⟨some t, .call ⟨.builtin .append, #[x, y], #[S, S]⟩, ty, pos, aft, gd⟩ :: rest) E L :=
  je_old (S := { s : Nat × Nat × List Value // xs.length + m ≤ s.2.1 ∧ s.2.2.length = (s.2.1 - (xs.length + m)) * k }) (o := ⟨some t, .call ⟨.builtin .append, #[x, y], #[S, S]⟩, ty, pos, aft, gd⟩) hg hd' (fun s => .slice (some ⟨s.1.1, 0, none⟩) (xs.length + m) s.1.2.1) (fun s => ⟨s.1.1, row enc (xs ++ ys) s.1.2.2, T⟩ :: L)
    (fun a w ha hw => by
      obtain ⟨s, w', hr, ho⟩ := app_runF (hx := hx) (hy := hy) (h1 := h1) (h2 := h2) (hT := hT) (hz := hz) (he := he) (hk := hk) (hB := hB) hm hzk hb a w ha hw
      exact ⟨s, w', .inl hr, ho⟩) (fun _ => weak_sub (.cons _ hw.out)) (fun s => h _ _ _ s.2.1 s.2.2)
end
theorem nums_row (k : IntKind) (xs : List Int) : nums k xs = row (eI k) xs [] := by
  have h : ∀ l : List Int, l.flatMap (fun x => [Value.int k x]) = l.map (Value.int k) := by
    intro l
    induction l with
    | nil => rfl
    | cons a l ih => simp [ih]
  simp [nums, row, rowL, eI, h]
/-- A new row of integers. -/
theorem sM {T e : TypeId} {k : IntKind} {B m : Nat} [hT : UndC P T (.slice e)] [hz : ZeroC P e (.int k 0) #[.int k 0]] [hs : SizeC P e 1] [hB : BytesC P e B] [hx : IsC (evl E x) (.int .i64 (m : Nat))] [hy : IsC (evl E y) (.int .i64 (m : Nat))] (hg : guardB ops E gd = some true) (hd : Nat.blt t n = true) (hm : B * m ≤ 281474976710656 ∧ m ≤ 281474976710656)
    (h : ∀ b, JO P w0 n ops Q rest ((t, .slice (some ⟨b, 0, none⟩) m m) :: E) (⟨b, row (eI k) (List.replicate m 0) [], e⟩ :: L)) : JO P w0 n ops Q (⟨some t, .makeSlice T x y, ty, pos, aft, gd⟩ :: rest) E L :=
  wo_make isE isE hm hg hd (fun b => by rw [nums_row]; exact h b)
end
end Go.Vt
