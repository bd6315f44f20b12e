/- SimplifySimplifies holds for every input that the card takes. Conditions: none. (part 3 of 6.) Conditions: those that each statement names. -/
import Derived.Laws.AppendOwn
import Derived.Test.YtgcjapcminakdaaGreatDoorCards
import Derived.Test.YtgcjapcminakdaaGreatDoorTie
import Derived.WalkKit
import Derived.ProofKit
import Derived.OpenShut
import Derived.Deep.DeepHandedRow
import Derived.Deep.DeepLaidRun
import Derived.Deep.SlicePairs
import Derived.Carry
import Derived.Lib.LaidU8
import Derived.Laws.Cover3
import Derived.Laws.Pointers
import Derived.Test.YtgcjapcminakdaaGreatDoorSm2
/- Rows of structs, memory of the caller, calls that read or make memory, closures, slices and appends under the program logic. Conditions: those that each rule names. -/
set_option linter.unusedSimpArgs false
set_option linter.unusedVariables false
set_option maxHeartbeats 2000000
set_option linter.unusedSectionVars false
namespace Go.Vt
open Go.RowKit
section
variable {α : Type}
/-- The cells of a list's elements, one behind another. -/
def rowL (enc : α → Array Value) (xs : List α) : List Value := xs.flatMap fun x => (enc x).toList
/-- A row of elements, and what lies spare behind. -/
def row (enc : α → Array Value) (xs : List α) (sp : List Value) : Array Value := (rowL enc xs ++ sp).toArray
class EncC (enc : α → Array Value) (k : outParam Nat) : Prop where
  size : ∀ x, (enc x).size = k
  one : ∀ x, (enc x).all (·.oneCell') = true
def eI (k : IntKind) (z : Int) : Array Value := #[.int k z]
instance encI (k : IntKind) : EncC (eI k) 1 := ⟨fun _ => rfl, fun _ => by simp [eI, Value.oneCell']⟩
/-- The element at a place. -/
def gi [Inhabited α] (xs : List α) (i : Int) : α := xs.getD i.toNat default
theorem gi_eq [Inhabited α] {xs : List α} {i : Int} (h : i.toNat < xs.length) : gi xs i = xs[i.toNat] := by
  unfold gi
  rw [List.getD_eq_getElem?_getD, List.getElem?_eq_getElem h]
  rfl
theorem gi_nat [Inhabited α] {xs : List α} {i : Nat} (h : i < xs.length) : gi xs (i : Int) = xs[i] := gi_eq (i := (i : Int)) h
variable {enc : α → Array Value} {k : Nat}
theorem rowL_nil : rowL enc [] = [] := rfl
theorem rowL_append (xs ys : List α) : rowL enc (xs ++ ys) = rowL enc xs ++ rowL enc ys := by simp [rowL]
theorem rowL_len [h : EncC enc k] (xs : List α) : (rowL enc xs).length = xs.length * k := by
  induction xs with
  | nil => simp [rowL]
  | cons x xs ih =>
    have h1 := h.size x
    simp only [rowL, List.flatMap_cons, List.length_append, Array.length_toList, List.length_cons, h1, Nat.add_mul] at ih ⊢
    omega
theorem rowL_get [h : EncC enc k] (xs : List α) (i j : Nat) (hi : i < xs.length) (hj : j < k) : (rowL enc xs)[i * k + j]? = (enc xs[i])[j]? := by
  induction xs generalizing i with
  | nil => simp at hi
  | cons x xs ih =>
    have h1 := h.size x
    simp only [rowL, List.flatMap_cons] at ih ⊢
    cases i with
    | zero =>
      rw [Nat.zero_mul, Nat.zero_add, List.getElem?_append_left (by simp; omega)]
      simp
    | succ i =>
      rw [List.getElem?_append_right (by simp [Nat.add_mul]; omega)]
      have e : (i + 1) * k + j - (enc x).toList.length = i * k + j := by simp [Nat.add_mul, h1]; omega
      rw [e, ih i (by simpa using hi)]
      simp
theorem row_get [h : EncC enc k] (xs : List α) (sp : List Value) (i j : Nat) (hi : i < xs.length) (hj : j < k) : (row enc xs sp)[i * k + j]? = (enc xs[i])[j]? := by
  have hl := rowL_len (enc := enc) xs
  have hlt : i * k + j < xs.length * k := by
    have := Nat.mul_le_mul_right k (show i + 1 ≤ xs.length from hi)
    rw [Nat.add_mul] at this
    omega
  rw [row, List.getElem?_toArray, List.getElem?_append_left (by omega)]
  exact rowL_get xs i j hi hj
theorem row_size [h : EncC enc k] (xs : List α) (sp : List Value) : (row enc xs sp).size = xs.length * k + sp.length := by
  simp [row, rowL_len]
theorem ldv_row {P : Program} {T : TypeId} {f : Nat} {v : Value} [h : EncC enc k] {xs : List α} {sp : List Value} {i : Nat} (hi : i < xs.length) (hv : LdV P T (enc xs[i]) f v) : LdV P T (row enc xs sp) (i * k + f) v := by
  have hk := h.size xs[i]
  have hle := Nat.mul_le_mul_right k (show i + 1 ≤ xs.length from hi)
  rw [Nat.add_mul] at hle
  rcases hv with ⟨n, ha, hs, rfl⟩ | ⟨ho, hv⟩
  · refine .inl ⟨n, ha, by rw [row_size (k := k)]; omega, ?_⟩
    congr 1
    apply Array.ext_getElem?
    intro j
    rw [Array.getElem?_extract, Array.getElem?_extract]
    by_cases hj : j < n
    · rw [if_pos (by omega), if_pos (by rw [row_size (k := k)]; omega), Nat.add_assoc, row_get xs sp i (f + j) hi (by omega)]
    · rw [if_neg (by omega), if_neg (by rw [row_size (k := k)]; omega)]
  · have hf : f < k := by
      rcases Nat.lt_or_ge f k with h1 | h1
      · exact h1
      · rw [Array.getElem?_eq_none (by omega)] at hv
        cases hv
    exact .inr ⟨ho, by rw [row_get xs sp i f hi hf]; exact hv⟩
theorem spl_row [h : EncC enc k] (xs : List α) (sp : List Value) (i : Nat) (z : α) (hi : i < xs.length) : spl (row enc xs sp) (i * k) (enc z).toList = row enc (xs.set i z) sp := by
  have hle := Nat.mul_le_mul_right k (show i + 1 ≤ xs.length from hi)
  rw [Nat.add_mul] at hle
  have hz := h.size z
  apply Array.ext_getElem?
  intro j
  rw [spl_get _ _ _ _ (by rw [row_size (k := k)]; simp; omega)]
  simp only [Array.length_toList, hz]
  by_cases h1 : i * k ≤ j ∧ j < i * k + k
  · rw [if_pos h1]
    obtain ⟨m, rfl⟩ : ∃ m, j = i * k + m := ⟨j - i * k, by omega⟩
    rw [row_get _ sp i m (by simpa using hi) (by omega), Nat.add_sub_cancel_left]
    simp
  · rw [if_neg h1]
    rcases Nat.lt_or_ge j (xs.length * k) with h2 | h2
    · rcases Nat.eq_zero_or_pos k with h0 | h0
      · subst h0; simp at h2
      · obtain ⟨q, m, rfl, hm⟩ : ∃ q m, j = q * k + m ∧ m < k := ⟨j / k, j % k, by rw [Nat.mul_comm]; exact (Nat.div_add_mod j k).symm, Nat.mod_lt _ h0⟩
        have hq : q < xs.length := by
          rcases Nat.lt_or_ge q xs.length with h3 | h3
          · exact h3
          · have := Nat.mul_le_mul_right k h3
            omega
        have hqi : i ≠ q := by
          rintro rfl
          exact h1 ⟨by omega, by omega⟩
        rw [row_get xs sp q m hq hm, row_get _ sp q m (by simpa using hq) hm]
        simp [List.getElem_set_ne hqi]
    · rw [row, row, List.getElem?_toArray, List.getElem?_toArray, List.getElem?_append_right (by rw [rowL_len (k := k)]; exact h2), List.getElem?_append_right (by rw [rowL_len (k := k)]; simpa using h2)]
      simp [rowL_len (k := k)]
theorem row_one [h : EncC enc k] (xs : List α) : ∀ u ∈ rowL enc xs, u.oneCell' = true := fun u hu => by
  obtain ⟨x, _, hx⟩ := List.mem_flatMap.1 hu
  exact Array.all_eq_true_iff_forall_mem.1 (h.one x) u (Array.mem_toList_iff.1 hx)
end
/-- A block that was there when the call began. -/
class FoC (w0 : World) (b : Nat) (cs : outParam (Array Value)) (T : outParam TypeId) : Prop where
  out : ∃ fz, w0.heap[b]? = some (.cells cs T fz)
/-- A block that is known, the call's own or not. -/
class AtC (w0 : World) (L : List Blk) (b : Nat) (cs : outParam (Array Value)) (T : outParam TypeId) : Prop where
  out : ∀ w, Own w0 L w → ∃ fz, w.heap[b]? = some (.cells cs T fz)
instance (priority := high) atMem (w0 : World) (L : List Blk) (b : Nat) (cs : Array Value) (T : TypeId) [h : MemC b L cs T] : AtC w0 L b cs T := ⟨fun _ hw => ⟨(0, 0), (hw.mem _ h.out).2⟩⟩
instance (priority := low) atFo (w0 : World) (L : List Blk) (b : Nat) (cs : Array Value) (T : TypeId) [h : FoC w0 b cs T] : AtC w0 L b cs T := ⟨fun w hw => by
  obtain ⟨fz, hf⟩ := h.out
  exact ⟨fz, by rw [hw.ext.block b (lt_of_block hf)]; exact hf⟩⟩
instance (priority := low) sblA (X A B : List Blk) [h : SblC A B] : SblC A (X ++ B) := ⟨h.out.trans (List.sublist_append_right _ _)⟩
instance (priority := low) memSkip (b : Nat) (A L : List Blk) (cs : Array Value) (T : TypeId) [h : MemC b L cs T] : MemC b (A ++ L) cs T := ⟨List.mem_append_right _ h.out⟩
section
variable {P : Program} {w0 : World} {n : Nat} {ops : Array Oper} {L L' : List Blk} {E : Env}
variable {Q : Exit → Act → World → Prop} {rest : List Oper} {v : Value}
variable {d : Option Tmp} {ty : TypeId} {pos : String} {aft : Array Edge} {gd : Option (Nat × Bool)} {t : Tmp}
variable {x y : Operand} {T : TypeId}
theorem yl_loadA {T0 : TypeId} {b off : Nat} {cs : Array Value} (hx : Env.ev E x = some (.pointer (some ⟨b, off, none⟩))) (h : ∀ w, Own w0 L w → ∃ fz, w.heap[b]? = some (.cells cs T0 fz)) (hv : LdV P T cs off v) : Yl P w0 n L E ⟨d, .load T x, ty, pos, aft, gd⟩ v :=
  yl_run (fun _ => loadVar T ⟨b, off, none⟩) (fun a ha => by
    simp only [execOp, ha.ev hx, Instr.loadAt, Instr.sureAddr]
    rfl) (fun a w _ hw => by
      obtain ⟨fz, hf⟩ := h w hw
      exact run_loadVar hf hv)
instance (priority := low) yk_loadF {T0 : TypeId} {b off : Nat} {cs : Array Value} [IsC (evl E x) (.pointer (some ⟨b, off, none⟩))] [h : FoC w0 b cs T0] [hv : LdC P T cs off v] : YlC P w0 n L E (.load T x) v := ⟨fun _ _ _ _ _ => yl_loadA isE (atFo w0 L b cs T0).out hv.out⟩
section
variable {α : Type} [Inhabited α] {enc : α → Array Value} {k b f : Nat} {xs : List α} {sp : List Value} {T0 : TypeId} {i lo : Int}
instance ldEI {k : IntKind} {z : Int} [h : UndC P T (.int k)] : LdC P T (eI k z) 0 (.int k z) := ⟨ldv_one (by simp [oneB, h.out]) rfl⟩
instance ys_row0 [IsC (evl E x) (.pointer (some ⟨b, 0 + i.toNat * k, none⟩))] [h : AtC w0 L b (row enc xs sp) T0] [EncC enc k] [hv : LdC P T (enc (gi xs i)) 0 v] : YsC P w0 n L E (.load T x) v (i.toNat < xs.length) := ⟨fun hi _ _ _ _ _ => yl_loadA isE h.out (by
  have h1 := ldv_row (P := P) (T := T) (v := v) (enc := enc) (k := k) (sp := sp) (f := 0) hi (by rw [← gi_eq hi]; exact hv.out)
  rwa [Nat.add_zero, ← Nat.zero_add (i.toNat * k)] at h1)⟩
instance ys_rowF [IsC (evl E x) (.pointer (some ⟨b, 0 + i.toNat * k + f, none⟩))] [h : AtC w0 L b (row enc xs sp) T0] [EncC enc k] [hv : LdC P T (enc (gi xs i)) f v] : YsC P w0 n L E (.load T x) v (i.toNat < xs.length) := ⟨fun hi _ _ _ _ _ => yl_loadA isE h.out (by
  have h1 := ldv_row (P := P) (T := T) (v := v) (enc := enc) (k := k) (sp := sp) (f := f) hi (by rw [← gi_eq hi]; exact hv.out)
  rwa [← Nat.zero_add (i.toNat * k)] at h1)⟩
/-- In a part of a slice. -/
instance (priority := high) ys_row1 [IsC (evl E x) (.pointer (some ⟨b, 0 + lo.toNat * k + i.toNat * k, none⟩))] [h : AtC w0 L b (row enc xs sp) T0] [EncC enc k] [hv : LdC P T (enc (gi xs (lo + i))) 0 v] : YsC P w0 n L E (.load T x) v (0 ≤ lo ∧ 0 ≤ i ∧ (lo + i).toNat < xs.length) := ⟨fun hi _ _ _ _ _ => yl_loadA isE h.out (by
  have h1 := ldv_row (P := P) (T := T) (v := v) (enc := enc) (k := k) (sp := sp) (f := 0) hi.2.2 (by rw [← gi_eq hi.2.2]; exact hv.out)
  rw [show (lo + i).toNat = lo.toNat + i.toNat by omega, Nat.add_mul, Nat.add_zero, ← Nat.zero_add (lo.toNat * k)] at h1
  exact h1)⟩
/-- What a value holds for an element. -/
class ValC {α : Type} (enc : α → Array Value) (u : Value) (z : outParam α) : Prop where
  out : u.cells = enc z
instance valI {k : IntKind} {z : Int} : ValC (eI k) (.int k z) z := ⟨rfl⟩
instance valA (enc : α → Array Value) (z : α) : ValC enc (.agg (enc z)) z := ⟨rfl⟩
/-- An element is turned. -/
theorem sR {u : Value} {z : α} [hx : IsC (evl E x) (.pointer (some ⟨b, 0 + i.toNat * k, none⟩))] [hy : IsC (evl E y) u] [hk : SizeC P T k] [MemC b L (row enc xs sp) T0] [he : EncC enc k] [hu : ValC enc u z] [hU : UpdC b (row enc (xs.set i.toNat z) sp) L (row enc xs sp) T0 L']
    (hg : guardB ops E gd = some true) (s : i.toNat < xs.length) (h : JO P w0 n ops Q rest E L') : JO P w0 n ops Q (⟨none, .store T x y, ty, pos, aft, gd⟩ :: rest) E L := by
  have h1 := he.size z
  have hle := Nat.mul_le_mul_right k (show i.toNat + 1 ≤ xs.length from s)
  rw [Nat.add_mul] at hle
  exact jo_store (u := u) k isE isE hU.out hk.out (by rw [hu.out, h1]) (by rw [row_size (k := k)]; exact Nat.ble_eq_true_of_le (by omega)) (by rw [hu.out]; exact he.one z) (by rw [hu.out, Nat.zero_add]; exact spl_row xs sp _ z s) hg rfl h
end
/-- A part of a struct is turned. -/
class StC (P : Program) (T : TypeId) (cs : Array Value) (off : Nat) (u : Value) (cs' : outParam (Array Value)) : Prop where
  size : (P.info? T).map (·.size) = some u.cells.size
  fit : Nat.ble (off + u.cells.size) cs.size = true
  one : u.cells.all (·.oneCell') = true
  out : spl cs off u.cells.toList = cs'
theorem sF {T0 : TypeId} {b off : Nat} {cs cs' : Array Value} {u : Value} [hx : IsC (evl E x) (.pointer (some ⟨b, off, none⟩))] [hy : IsC (evl E y) u] [MemC b L cs T0] [hs : StC P T cs off u cs'] [hU : UpdC b cs' L cs T0 L'] (hg : guardB ops E gd = some true)
    (h : JO P w0 n ops Q rest E L') : JO P w0 n ops Q (⟨none, .store T x y, ty, pos, aft, gd⟩ :: rest) E L := jo_store (u := u) u.cells.size isE isE hU.out hs.size rfl hs.fit hs.one hs.out hg rfl h
theorem eF {K : Env → List Blk → Prop} {Lw : List Blk} {T0 : TypeId} {b off : Nat} {cs cs' : Array Value} {u : Value} [hx : IsC (evl E x) (.pointer (some ⟨b, off, none⟩))] [hy : IsC (evl E y) u] [MemC b L cs T0] [hs : StC P T cs off u cs'] [hU : UpdC b cs' L cs T0 L'] (hg : guardB ops E gd = some true) [hw : SblC Lw L']
    (h : JE P w0 n ops Lw K rest E L') : JE P w0 n ops Lw K (⟨none, .store T x y, ty, pos, aft, gd⟩ :: rest) E L := je_store (u := u) u.cells.size isE isE hU.out hs.size rfl hs.fit hs.one hs.out hg hw.out h
class SpecM (P : Program) (w0 : World) (L : List Blk) (f : FuncId) (args : List Value) (v : outParam Value) (pre : outParam Prop) : Prop where
  out : pre → ∀ w, Own w0 L w → Calls P f args.toArray w (Ret v w)
instance (priority := low) specM_C {f : FuncId} {args : List Value} {pre : Prop} [h : SpecC P f args v pre] : SpecM P w0 L f args v pre := ⟨fun hp w _ => h.out hp w⟩
instance (priority := low) yc_callM {f : FuncId} {xs : List Operand} {l : List Value} {ats : Array TypeId} {pre : Prop} [hf : CallC P f] [IsC (evsl E xs) l] [h : SpecM P w0 L f l v pre] : YcC P w0 n L E (.call ⟨.value (.func f), xs.toArray, ats⟩) v pre := ⟨fun hp _ _ _ _ _ => yl_call hf.out isS (h.out hp)⟩
theorem yl_makeFunc {f : Fn} {xs : List Operand} {l : List Value} (hl : Env.evs E xs = some l) : Yl P w0 n L E ⟨d, .makeFunc f #[] xs.toArray, ty, pos, aft, gd⟩ (.func f #[] l.toArray) :=
  yl_run (fun _ => Instr.makeFunc f #[] l.toArray) (fun a ha => by
    have h1 : xs.toArray.map a.eval = l.toArray := by rw [← ha.evs xs l hl]; simp
    simp only [execOp, h1, Array.map_empty]) (fun a w _ _ => by simp [Instr.makeFunc])
instance yk_makeFunc {f : Fn} {xs : List Operand} {l : List Value} [IsC (evsl E xs) l] : YlC P w0 n L E (.makeFunc f #[] xs.toArray) (.func f #[] l.toArray) := ⟨fun _ _ _ _ _ => yl_makeFunc isS⟩
/-- Two lists, one behind the other. -/
class AppC (a b : List Value) (c : outParam (List Value)) : Prop where out : a ++ b = c
instance appN (b : List Value) : AppC [] b b := ⟨rfl⟩
instance appS (x : Value) (a b c : List Value) [h : AppC a b c] : AppC (x :: a) b (x :: c) := ⟨by rw [← h.out]; rfl⟩
theorem run_callcl {f : FuncId} {g : Operand} {xs : List Operand} {l cap c : List Value} {ats : Array TypeId} {a : Act} {w : World} (hf : callableB P f = true) (ha : Rep n E a) (hg : Env.ev E g = some (.func (.func f) #[] cap.toArray)) (hl : Env.evs E xs = some l) (hc : l ++ cap = c) :
    (execOp a.eval ⟨d, .call ⟨.value g, xs.toArray, ats⟩, ty, pos, aft, gd⟩).run P w = .ok (.enter f c.toArray) w := by
  have h1 : xs.toArray.map a.eval = l.toArray := by rw [← ha.evs xs l hl]; simp
  simp only [execOp, resolve, h1, ha.ev hg, Deferred.ofValue, Sem.run_bind, Sem.run_pure, Result.andThen, invoke]
  rw [show (#[] ++ l.toArray : Array Value) = l.toArray from Array.empty_append]
  have h2 : l.toArray ++ cap.toArray = c.toArray := by rw [← hc]; simp
  rw [h2]
  exact run_callFunc hf _ _
instance yc_callcl {f : FuncId} {u : Tmp} {xs : List Operand} {l cap c : List Value} {ats : Array TypeId} {pre : Prop} [hu : IsC (evl E (.tmp u)) (.func (.func f) #[] cap.toArray)] [hf : CallC P f] [IsC (evsl E xs) l] [hc : AppC l cap c] [h : SpecM P w0 L f c v pre] : YcC P w0 n L E (.call ⟨.value (.tmp u), xs.toArray, ats⟩) v pre := ⟨fun hp _ _ _ _ _ => ⟨fun a w ha hw => by
  unfold calm
  rw [run_callcl hf.out ha isE isS hc.out]
  exact ⟨rfl, h.out hp w hw⟩⟩⟩
def RetM (S : Type) (val : S → Value) (mem : S → List Blk) (w : World) (e : Ending) (w' : World) : Prop := ∃ s, e = .returned (val s) ∧ Own w (mem s) w'
theorem Own.join {w w' : World} {G : List Blk} (h : Own w0 L w) (k : Own w G w') : Own w0 (G ++ L) w' := by
  have h' := h.to k.ext
  refine ⟨h'.ext, fun e he => ?_, ?_⟩
  · rcases List.mem_append.1 he with he | he
    · exact ⟨Nat.le_trans h.ext.size (k.mem e he).1, (k.mem e he).2⟩
    · exact h'.mem e he
  · rw [List.map_append]
    refine List.nodup_append.2 ⟨k.nd, h.nd, fun a ha b hb hab => ?_⟩
    obtain ⟨e1, h1, rfl⟩ := List.mem_map.1 ha
    obtain ⟨e2, h2, rfl⟩ := List.mem_map.1 hb
    have h3 := (k.mem e1 h1).1
    have h4 := h.lt h2
    omega
class SpecR (P : Program) (w0 : World) (L : List Blk) (f : FuncId) (args : List Value) (S : outParam Type) (val : outParam (S → Value)) (mem : outParam (S → List Blk)) (pre : outParam Prop) : Prop where
  out : pre → ∀ w, Own w0 L w → Calls P f args.toArray w (RetM S val mem w)
theorem wo_callM {S : Type} {val : S → Value} {mem : S → List Blk} {f : FuncId} {xs : List Operand} {l : List Value} {ats : Array TypeId} (hl : Env.evs E xs = some l) (hf : callableB P f = true) (hc : ∀ w, Own w0 L w → Calls P f l.toArray w (RetM S val mem w))
    (hg : guardB ops E gd = some true) (hd : Nat.blt t n = true) (h : ∀ s, JO P w0 n ops Q rest ((t, val s) :: E) (mem s ++ L)) : JO P w0 n ops Q (⟨some t, .call ⟨.value (.func f), xs.toArray, ats⟩, ty, pos, aft, gd⟩ :: rest) E L :=
  jo_c (S := S) (o := ⟨some t, .call ⟨.value (.func f), xs.toArray, ats⟩, ty, pos, aft, gd⟩) hg hd val (fun s => mem s ++ L) (fun _ _ ha => run_call hf ha hl)
    (fun w hw => (hc w hw).mono fun _ _ ⟨s, he, ho⟩ => ⟨s, he, hw.join ho⟩) h
theorem sN {S : Type} {val : S → Value} {mem : S → List Blk} {f : FuncId} {xs : List Operand} {l : List Value} {ats : Array TypeId} {pre : Prop} [hf : CallC P f] [hl : IsC (evsl E xs) l] [hc : SpecR P w0 L f l S val mem pre]
    (hg : guardB ops E gd = some true) (hd : Nat.blt t n = true) (s : pre) (h : ∀ s, JO P w0 n ops Q rest ((t, val s) :: E) (mem s ++ L)) : JO P w0 n ops Q (⟨some t, .call ⟨.value (.func f), xs.toArray, ats⟩, ty, pos, aft, gd⟩ :: rest) E L := wo_callM isS hf.out (hc.out s) hg hd h
theorem eN {K : Env → List Blk → Prop} {Lw : List Blk} {S : Type} {val : S → Value} {mem : S → List Blk} {f : FuncId} {xs : List Operand} {l : List Value} {ats : Array TypeId} {pre : Prop} [hf : CallC P f] [hl : IsC (evsl E xs) l] [hc : SpecR P w0 L f l S val mem pre]
    (hg : guardB ops E gd = some true) (hd : Nat.blt t n = true) [hw : SblC Lw L] (s : pre) (h : ∀ s, JE P w0 n ops Lw K rest ((t, val s) :: E) (mem s ++ L)) : JE P w0 n ops Lw K (⟨some t, .call ⟨.value (.func f), xs.toArray, ats⟩, ty, pos, aft, gd⟩ :: rest) E L :=
  je_c (S := S) (o := ⟨some t, .call ⟨.value (.func f), xs.toArray, ats⟩, ty, pos, aft, gd⟩) hg hd val (fun s => mem s ++ L) (fun _ _ ha => run_call hf.out ha isS)
    (fun w hw' => (hc.out s w hw').mono fun _ _ ⟨s, he, ho⟩ => ⟨s, he, hw'.join ho⟩) (fun _ => weak_sub (hw.out.trans (List.sublist_append_right _ _))) h
/-- The rest of a call's value operations, behind all others. -/
theorem eX {K : Env → List Blk → Prop} {Lw : List Blk} {op : Op} [h : YlC P w0 n L E op v] (hg : guardB ops E gd = some true) (hd : Nat.blt t n = true) [hw : SblC Lw L] (k : JE P w0 n ops Lw K rest ((t, v) :: E) L) : JE P w0 n ops Lw K (⟨some t, op, ty, pos, aft, gd⟩ :: rest) E L :=
  ⟨hg, hd, Unit, fun _ => v, fun _ => L, fun a w ha hw => by
    have h1 := (h.out (some t) ty pos aft gd).out a w ha hw
    unfold calm at h1
    generalize (execOp a.eval ⟨some t, op, ty, pos, aft, gd⟩).run P w = r at *
    cases r with
    | ok x w' =>
      cases x <;> simp only [calmUpon] at h1 <;> simp only [Hap]
      case value u => exact ⟨(), h1.1, hw.to h1.2⟩
      case skip => exact ⟨(), h1.1.symm, hw.to h1.2⟩
      case enter f args =>
        obtain ⟨rfl, h2⟩ := h1
        exact h2.mono fun e w'' ⟨he, hx⟩ => ⟨_, he, (), rfl, hw.to hx⟩
    | halt x w' => simp only [calmUpon] at h1, fun _ => weak_sub hw.out, fun _ => k⟩
theorem sB {len : Nat} {ps : List (Nat × Operand)} {l : List (Nat × Value)} {cs : Array Value} {e : TypeId} [hp : IsC (evpl E ps) l] [hb : BsC P T len l cs e] (hg : guardB ops E gd = some true) (hd : Nat.blt t n = true)
    (h : ∀ b, JO P w0 n ops Q rest ((t, .slice (some ⟨b, 0, none⟩) len len) :: E) (⟨b, cs, e⟩ :: L)) : JO P w0 n ops Q (⟨some t, .buildSlice T len ps.toArray, ty, pos, aft, gd⟩ :: rest) E L := wo_bslice isP hg hd h
theorem eB {K : Env → List Blk → Prop} {Lw : List Blk} {len : Nat} {ps : List (Nat × Operand)} {l : List (Nat × Value)} {cs : Array Value} {e : TypeId} [hp : IsC (evpl E ps) l] [hb : BsC P T len l cs e] (hg : guardB ops E gd = some true) (hd : Nat.blt t n = true) [hw : SblC Lw L]
    (h : ∀ b, JE P w0 n ops Lw K rest ((t, .slice (some ⟨b, 0, none⟩) len len) :: E) (⟨b, cs, e⟩ :: L)) : JE P w0 n ops Lw K (⟨some t, .buildSlice T len ps.toArray, ty, pos, aft, gd⟩ :: rest) E L := je_bslice isP hg hd hw.out h
/-- A slice of a slice, its capacity cut. -/
instance ys_slice3 {e s b l c : Nat} {i m : Int} {z1 z2 : Operand} [IsC (evl E x) (.slice (some ⟨b, 0, none⟩) l c)] [hy : IsC (evl E z1) (.int .i64 i)] [hz : IsC (evl E z2) (.int .i64 m)] [h : UndC P T (.slice e)] [hs : SizeC P e s] : YsC P w0 n L E (.slice T x none (some z1) (some z2)) (.slice (some ⟨b, 0, none⟩) i.toNat m.toNat) (0 ≤ i ∧ i ≤ m ∧ m ≤ c) := ⟨fun hi d ty pos aft gd =>
  yl_run (fun _ => Instr.sliceAt T (.slice (some ⟨b, 0, none⟩) l c) none (some (.int .i64 i)) (some (.int .i64 m))) (fun a ha => by simp only [execOp, ha.ev (isE (x := x)), Option.map_none, Option.map_some, ha.ev (isE (x := z1)), ha.ev (isE (x := z2))]) (fun a w _ _ => by
    have h1 : (0 : Int) ≤ m := by omega
    have h2 : i ≤ ((m.toNat : Nat) : Int) := by omega
    have h3 : max m 0 = m := by omega
    have h4 : ¬ m < i := by omega
    simp [Instr.sliceAt, Instr.slice, run_underlying h.out, Instr.sliceBounds, Instr.sliceBound, asIntOf, hi.1, h1, h2, h3, h4, hi.2.2, run_sizeOf hs.out, Addr.add])⟩
instance (priority := high) ys_slice3n {e s b l c i m : Nat} {z1 z2 : Operand} [IsC (evl E x) (.slice (some ⟨b, 0, none⟩) l c)] [hy : IsC (evl E z1) (.int .i64 (i : Nat))] [hz : IsC (evl E z2) (.int .i64 (m : Nat))] [h : UndC P T (.slice e)] [hs : SizeC P e s] : YsC P w0 n L E (.slice T x none (some z1) (some z2)) (.slice (some ⟨b, 0, none⟩) i m) (i ≤ m ∧ m ≤ c) := ⟨fun hi d ty pos aft gd => by
  have := (ys_slice3 (P := P) (w0 := w0) (n := n) (L := L) (E := E) (x := x) (T := T) (e := e) (s := s) (b := b) (l := l) (c := c) (i := (i : Int)) (m := (m : Int)) (z1 := z1) (z2 := z2)).out ⟨by omega, by omega, by omega⟩ d ty pos aft gd
  simpa only [Int.toNat_natCast] using this⟩
/-- A part of a slice. -/
instance ys_slice2 {e s b o l c : Nat} {i m : Int} {z1 z2 : Operand} [IsC (evl E x) (.slice (some ⟨b, o, none⟩) l c)] [hy : IsC (evl E z1) (.int .i64 i)] [hz : IsC (evl E z2) (.int .i64 m)] [h : UndC P T (.slice e)] [hs : SizeC P e s] : YsC P w0 n L E (.slice T x (some z1) (some z2) none) (.slice (some ⟨b, o + i.toNat * s, none⟩) (m - i).toNat (c - i).toNat) (0 ≤ i ∧ i ≤ m ∧ m ≤ c ∧ i < c) := ⟨fun hi d ty pos aft gd =>
  yl_run (fun _ => Instr.sliceAt T (.slice (some ⟨b, o, none⟩) l c) (some (.int .i64 i)) (some (.int .i64 m)) none) (fun a ha => by simp only [execOp, ha.ev (isE (x := x)), Option.map_none, Option.map_some, ha.ev (isE (x := z1)), ha.ev (isE (x := z2))]) (fun a w _ _ => by
    have h1 : (0 : Int) ≤ m := by omega
    have h2 : i ≤ ((m.toNat : Nat) : Int) := by omega
    have h3 : ¬ c = i.toNat := by omega
    have h4 : m.toNat - i.toNat = (m - i).toNat := by omega
    have h5 : c - i.toNat = ((c : Int) - i).toNat := by omega
    have h6 : max m 0 = m := by omega
    have h7 : ¬ m < i := by omega
    simp [Instr.sliceAt, Instr.slice, run_underlying h.out, Instr.sliceBounds, Instr.sliceBound, asIntOf, hi.1, h1, h2, hi.2.2.1, run_sizeOf hs.out, h3, h4, h5, h6, h7, addr_add])⟩
end
/-- A block taken out of the list. -/
class DelC (b : Nat) (L : List Blk) (cs : outParam (Array Value)) (T : outParam TypeId) (L1 : outParam (List Blk)) : Prop where
  out : L.Perm (⟨b, cs, T⟩ :: L1)
instance (priority := high) delHere (b : Nat) (cs : Array Value) (T : TypeId) (L : List Blk) : DelC b (⟨b, cs, T⟩ :: L) cs T L := ⟨.refl _⟩
instance (priority := low) delThere (b : Nat) (e : Blk) (cs : Array Value) (T : TypeId) (L L1 : List Blk) [h : DelC b L cs T L1] : DelC b (e :: L) cs T (e :: L1) := ⟨(h.out.cons e).trans (.swap _ _ _)⟩
section
variable {P : Program} {w0 : World} {n : Nat} {ops : Array Oper} {L L1 : List Blk} {E : Env}
variable {Q : Exit → Act → World → Prop} {rest : List Oper}
variable {ty : TypeId} {pos : String} {aft : Array Edge} {gd : Option (Nat × Bool)} {t : Tmp} {x y : Operand}
theorem info_some {T : TypeId} {β : Type} {g : TypeInfo → β} {v : β} (h : (P.info? T).map g = some v) : ∃ i, P.info? T = some i ∧ g i = v := by
  cases hi : P.info? T with
  | none => simp [hi] at h
  | some i => exact ⟨i, rfl, by simpa [hi] using h⟩
/-- What an append onto a row of the call's own comes to. -/
theorem run_app {S T : TypeId} {b len c b2 off2 m c2 k B : Nat} {xs sp news : List Value} {cs2 : Array Value} {z : Value} {zc : Array Value} {w : World} (hT : P.underlying S = some (.slice T)) (hz : (P.info? T).bind (·.zero) = some z) (hzc : z.cells = zc) (hk : (P.info? T).map (·.size) = some k) (hB : (P.info? T).map (·.bytes) = some B)
    (hzk : zc.size = k) (hw : Own w0 L w) (hd : L.Perm (⟨b, (xs ++ sp).toArray, T⟩ :: L1)) (hx : xs.length = len * k) (hs : sp.length = (c - len) * k) (hc : len ≤ c) (h2 : ∃ T2 fz, w.heap[b2]? = some (.cells cs2 T2 fz)) (hn : news.length = m * k) (hcs : ∀ j u, news[j]? = some u → cs2[off2 + j]? = some u)
    (h1 : ∀ u ∈ news, u.oneCell' = true) (hbytes : (len + m) * B ≤ 140737488355328) (h63 : len + m ≤ 9223372036854775807) :
    ∃ s : { s : Nat × Nat × List Value // len + m ≤ s.2.1 ∧ s.2.2.length = (s.2.1 - (len + m)) * k }, ∃ w', (Builtin.append_ #[S, S] ty #[.slice (some ⟨b, 0, none⟩) len c, .slice (some ⟨b2, off2, none⟩) m c2]).run P w = .ok (.slice (some ⟨s.1.1, 0, none⟩) (len + m) s.1.2.1) w' ∧ Own w0 (⟨s.1.1, (xs ++ news ++ s.1.2.2).toArray, T⟩ :: L1) w' := by
  have hwp := hw.perm hd
  have hb := (hwp.mem _ (.head _)).2
  obtain ⟨i, hi, hik⟩ := info_some hk
  obtain ⟨i', hi', hiB⟩ := info_some hB
  obtain rfl : i' = i := Option.some.inj (hi'.symm.trans hi)
  have hz' : i'.zero = some z := by simpa [hi] using hz
  obtain ⟨T2, fz, h2⟩ := h2
  have hnew : ∀ j u, news[j]? = some u → w.cell? ((⟨b2, off2, none⟩ : Addr).add j) = some u := fun j u hu => by rw [addr_add, cell_block h2]; exact hcs j u hu
  by_cases hroom : len + m ≤ c
  · have hle : (c - len) * k = (c - (len + m)) * k + m * k := by rw [← Nat.add_mul, show c - (len + m) + m = c - len by omega]
    have hr := run_append_room w S ty T i' hT hi b len c (xs ++ sp).toArray hb ⟨b2, off2, none⟩ m c2 news (by rw [hik]; exact hn) hnew h1 hroom (by rw [hik]; simp; omega)
    refine ⟨⟨(b, c, sp.drop (m * k)), hroom, by rw [List.length_drop]; simp only; omega⟩, _, hr, ?_⟩
    have e1 : ((xs ++ sp).toArray.toList.take (len * i'.size) ++ news ++ (xs ++ sp).toArray.toList.drop (len * i'.size + news.length)) = xs ++ news ++ sp.drop (m * k) := by
      rw [hik, hn, ← hx]
      simp only [List.take_left', List.drop_append, List.append_assoc]
      rw [List.drop_eq_nil_of_le (by omega), Nat.add_sub_cancel_left]
      simp
    rw [e1]
    refine hwp.turn (b := b) (cs := (xs ++ sp).toArray) (T := T) .here ?_
    have hsz : b < w.heap.size := lt_of_block hb
    refine ⟨by simp [World.setRow], by simp [World.setRow], by simp [World.setRow], by simp [World.setRow], by simp [World.setRow], fun q hq => ?_, ?_⟩
    · simp [World.setRow, Array.getElem?_modify, Ne.symm hq]
    · simp [World.setRow, Array.getElem?_modify, hb]
  · have hold : ∀ j u, xs[j]? = some u → w.cell? ((⟨b, 0, none⟩ : Addr).add j) = some u := fun j u hu => by
      rw [addr_add, cell_block hb, Nat.zero_add, List.getElem?_toArray, List.getElem?_append_left (by
        rcases Nat.lt_or_ge j xs.length with h | h
        · exact h
        · rw [List.getElem?_eq_none h] at hu; cases hu)]
      exact hu
    have hr := run_append_grow w S ty T i' z hT hi hz' ⟨b, 0, none⟩ len c xs (by rw [hik]; exact hx) hold ⟨b2, off2, none⟩ m c2 news (by rw [hik]; exact hn) hnew (by omega) (by omega) (growslice_fits (by omega) (by rw [hiB]; exact hbytes))
    have hge := grownCap_ge w (len + m) c T
    refine ⟨⟨(w.heap.size, grownCap w (len + m) c T, (Builtin.zeroCells z.cells (grownCap w (len + m) c T - (len + m))).toList), hge, by rw [Array.length_toList, size_zeroCells, hzc, hzk]⟩, _, hr, ?_⟩
    have hL1 : Own w0 L1 w := hwp.sub (List.sublist_cons_self _ _)
    have h3 := (hL1.to (Ext.drew w)).alloc (xs.toArray ++ news.toArray ++ Builtin.zeroCells z.cells (grownCap w (len + m) c T - (len + m))) T
    have e2 : xs.toArray ++ news.toArray ++ Builtin.zeroCells z.cells (grownCap w (len + m) c T - (len + m)) = (xs ++ news ++ (Builtin.zeroCells z.cells (grownCap w (len + m) c T - (len + m))).toList).toArray := by
      apply Array.ext'
      simp
    rw [e2] at h3
    rw [e2]
    exact h3
theorem run_app_nil {S T : TypeId} {b2 off2 m c2 k B : Nat} {news : List Value} {cs2 : Array Value} {z : Value} {zc : Array Value} {w : World} (hT : P.underlying S = some (.slice T)) (hz : (P.info? T).bind (·.zero) = some z) (hzc : z.cells = zc) (hk : (P.info? T).map (·.size) = some k) (hB : (P.info? T).map (·.bytes) = some B)
    (hzk : zc.size = k) (hw : Own w0 L w) (h2 : ∃ T2 fz, w.heap[b2]? = some (.cells cs2 T2 fz)) (hn : news.length = m * k) (hcs : ∀ j u, news[j]? = some u → cs2[off2 + j]? = some u)
    (hm : 0 < m) (hbytes : m * B ≤ 140737488355328) (h63 : m ≤ 9223372036854775807) :
    ∃ s : { s : Nat × Nat × List Value // m ≤ s.2.1 ∧ s.2.2.length = (s.2.1 - m) * k }, ∃ w', (Builtin.append_ #[S, S] ty #[.slice none 0 0, .slice (some ⟨b2, off2, none⟩) m c2]).run P w = .ok (.slice (some ⟨s.1.1, 0, none⟩) m s.1.2.1) w' ∧ Own w0 (⟨s.1.1, (news ++ s.1.2.2).toArray, T⟩ :: L) w' := by
  obtain ⟨i, hi, hik⟩ := info_some hk
  obtain ⟨i', hi', hiB⟩ := info_some hB
  obtain rfl : i' = i := Option.some.inj (hi'.symm.trans hi)
  have hz' : i'.zero = some z := by simpa [hi] using hz
  obtain ⟨T2, fz, h2⟩ := h2
  have hnew : ∀ j u, news[j]? = some u → w.cell? ((⟨b2, off2, none⟩ : Addr).add j) = some u := fun j u hu => by rw [addr_add, cell_block h2]; exact hcs j u hu
  have hr := run_append_nil w S ty T i' z hT hi hz' ⟨b2, off2, none⟩ m c2 news (by rw [hik]; exact hn) hnew hm (by omega) (by rw [hiB]; omega)
  have hge := grownCap_ge w m 0 T
  refine ⟨⟨(w.heap.size, grownCap w m 0 T, (Builtin.zeroCells z.cells (grownCap w m 0 T - m)).toList), hge, by rw [Array.length_toList, size_zeroCells, hzc, hzk]⟩, _, hr, ?_⟩
  have h3 := (hw.to (Ext.drew w)).alloc (news.toArray ++ Builtin.zeroCells z.cells (grownCap w m 0 T - m)) T
  have e2 : news.toArray ++ Builtin.zeroCells z.cells (grownCap w m 0 T - m) = (news ++ (Builtin.zeroCells z.cells (grownCap w m 0 T - m)).toList).toArray := by
    apply Array.ext'
    simp
  rw [e2] at h3
  rw [e2]
  exact h3
theorem run_appop {S : TypeId} {vx vy : Value} {a : Act} {w w' : World} {r : Value} {d : Option Tmp} (ha : Rep n E a) (hx : Env.ev E x = some vx) (hy : Env.ev E y = some vy) (hr : (Builtin.append_ #[S, S] ty #[vx, vy]).run P w = .ok r w') :
    (execOp a.eval ⟨d, .call ⟨.builtin .append, #[x, y], #[S, S]⟩, ty, pos, aft, gd⟩).run P w = .ok (.value r) w' := by
  have h1 : (#[x, y] : Array Operand).map a.eval = #[vx, vy] := by simp [ha.ev hx, ha.ev hy]
  have h2 : ∀ cs : Array Bool, (builtin .append #[S, S] ty cs #[vx, vy]).run P w = .ok (.value r) w' := fun cs => by
    show Sem.run P (do pure (Next.value (← Builtin.append_ #[S, S] ty #[vx, vy])) : Sem Next) w = _
    rw [Sem.run_bind, hr]
    rfl
  simp only [execOp, resolve, h1, Sem.run_bind, Sem.run_pure, Result.andThen, invoke]
  exact h2 _
section
variable {α : Type} {enc : α → Array Value} {S T T2 : TypeId} {b c b2 m c2 k B : Nat} {xs ys : List α} {sp : List Value} {z : Value} {zc : Array Value}
variable [hx : IsC (evl E x) (.slice (some ⟨b, 0, none⟩) xs.length c)] [hy : IsC (evl E y) (.slice (some ⟨b2, 0, none⟩) m c2)] [hd : DelC b L (row enc xs sp) T L1] [h2 : AtC w0 L b2 (row enc ys []) T2] [hT : UndC P S (.slice T)] [hz : ZeroC P T z zc] [he : EncC enc k] [hk : SizeC P T k] [hB : BytesC P T B]
include hx hy hd h2 hT hz he hk hB
theorem app_run (hm : ys.length = m) (hc : xs.length ≤ c ∧ sp.length = (c - xs.length) * k) (hzk : zc.size = k) (hb : (xs.length + m) * B ≤ 140737488355328 ∧ xs.length + m ≤ 9223372036854775807) (a : Act) (w : World) (ha : Rep n E a) (hw : Own w0 L w) :
    ∃ s : { s : Nat × Nat × List Value // xs.length + m ≤ s.2.1 ∧ s.2.2.length = (s.2.1 - (xs.length + m)) * k }, ∃ w', (execOp a.eval ⟨some t, .call ⟨.builtin .append, #[x, y], #[S, S]⟩, ty, pos, aft, gd⟩).run P w = .ok (.value (.slice (some ⟨s.1.1, 0, none⟩) (xs.length + m) s.1.2.1)) w' ∧ Own w0 (⟨s.1.1, row enc (xs ++ ys) s.1.2.2, T⟩ :: L1) w' := by
  obtain ⟨fz, hf⟩ := h2.out w hw
  obtain ⟨s, w', hr, ho⟩ := run_app (ty := ty) (b := b) (len := xs.length) (c := c) (b2 := b2) (off2 := 0) (m := m) (c2 := c2) (xs := rowL enc xs) (sp := sp) (news := rowL enc ys) hT.out hz.out hz.cells hk.out hB.out hzk hw hd.out (rowL_len xs) hc.2 hc.1 ⟨T2, fz, hf⟩ (by rw [rowL_len (k := k), hm]) (fun j u hu => by rw [Nat.zero_add]; simpa [row] using hu) (row_one ys) hb.1 hb.2
  refine ⟨s, w', run_appop ha isE isE hr, ?_⟩
  rw [row, rowL_append]
  exact ho
theorem sP (hg : guardB ops E gd = some true) (hd' : Nat.blt t n = true) (hm : ys.length = m) (hc : xs.length ≤ c ∧ sp.length = (c - xs.length) * k) (hzk : zc.size = k) (hb : (xs.length + m) * B ≤ 140737488355328 ∧ xs.length + m ≤ 9223372036854775807)
    (h : ∀ b' c' sp', xs.length + m ≤ c' → sp'.length = (c' - (xs.length + m)) * k → JO P w0 n ops Q rest ((t, .slice (some ⟨b', 0, none⟩) (xs.length + m) c') :: E) (⟨b', row enc (xs ++ ys) sp', T⟩ :: L1)) : JO P w0 n ops Q (⟨some t, .call ⟨.builtin .append, #[x, y], #[S, S]⟩, ty, pos, aft, gd⟩ :: rest) E L :=
  jo_w (L' := { s : Nat × Nat × List Value // xs.length + m ≤ s.2.1 ∧ s.2.2.length = (s.2.1 - (xs.length + m)) * k }) (o := ⟨some t, .call ⟨.builtin .append, #[x, y], #[S, S]⟩, ty, pos, aft, gd⟩) hg hd' (fun s => .slice (some ⟨s.1.1, 0, none⟩) (xs.length + m) s.1.2.1) (fun s => ⟨s.1.1, row enc (xs ++ ys) s.1.2.2, T⟩ :: L1)
    (fun a w ha hw => by
      obtain ⟨s, w', hr, ho⟩ := app_run (hx := hx) (hy := hy) (hd := hd) (h2 := h2) (hT := hT) (hz := hz) (he := he) (hk := hk) (hB := hB) hm hc hzk hb a w ha hw
      exact ⟨s, w', .inl hr, ho⟩) (fun s => h _ _ _ s.2.1 s.2.2)
theorem eP {K : Env → List Blk → Prop} {Lw : List Blk} (hg : guardB ops E gd = some true) (hd' : Nat.blt t n = true) [hw : SblC Lw L1] (hm : ys.length = m) (hc : xs.length ≤ c ∧ sp.length = (c - xs.length) * k) (hzk : zc.size = k) (hb : (xs.length + m) * B ≤ 140737488355328 ∧ xs.length + m ≤ 9223372036854775807)
    (h : ∀ b' c' sp', xs.length + m ≤ c' → sp'.length = (c' - (xs.length + m)) * k → JE P w0 n ops Lw K rest ((t, .slice (some ⟨b', 0, none⟩) (xs.length + m) c') :: E) (⟨b', row enc (xs ++ ys) sp', T⟩ :: L1)) : JE P w0 n ops Lw K (⟨some t, .call ⟨.builtin .append, #[x, y], #[S, S]⟩, ty, pos, aft, gd⟩ :: rest) E L :=
  je_old (S := { s : Nat × Nat × List Value // xs.length + m ≤ s.2.1 ∧ s.2.2.length = (s.2.1 - (xs.length + m)) * k }) (o := ⟨some t, .call ⟨.builtin .append, #[x, y], #[S, S]⟩, ty, pos, aft, gd⟩) hg hd' (fun s => .slice (some ⟨s.1.1, 0, none⟩) (xs.length + m) s.1.2.1) (fun s => ⟨s.1.1, row enc (xs ++ ys) s.1.2.2, T⟩ :: L1)
    (fun a w ha hw => by
      obtain ⟨s, w', hr, ho⟩ := app_run (hx := hx) (hy := hy) (hd := hd) (h2 := h2) (hT := hT) (hz := hz) (he := he) (hk := hk) (hB := hB) hm hc hzk hb a w ha hw
      exact ⟨s, w', .inl hr, ho⟩) (fun _ => weak_sub (.cons _ hw.out)) (fun s => h _ _ _ s.2.1 s.2.2)
end
section
variable {α : Type} {enc : α → Array Value} {S T T2 : TypeId} {b2 m c2 k B : Nat} {ys : List α} {z : Value} {zc : Array Value}
variable [hx : IsC (evl E x) (.slice none 0 0)] [hy : IsC (evl E y) (.slice (some ⟨b2, 0, none⟩) m c2)] [h2 : AtC w0 L b2 (row enc ys []) T2] [hT : UndC P S (.slice T)] [hz : ZeroC P T z zc] [he : EncC enc k] [hk : SizeC P T k] [hB : BytesC P T B]
include hx hy h2 hT hz he hk hB
theorem app_run0 (hm : ys.length = m) (hzk : zc.size = k) (hb : 0 < m ∧ m * B ≤ 140737488355328 ∧ m ≤ 9223372036854775807) (a : Act) (w : World) (ha : Rep n E a) (hw : Own w0 L w) :
    ∃ s : { s : Nat × Nat × List Value // m ≤ s.2.1 ∧ s.2.2.length = (s.2.1 - m) * k }, ∃ w', (execOp a.eval ⟨some t, .call ⟨.builtin .append, #[x, y], #[S, S]⟩, ty, pos, aft, gd⟩).run P w = .ok (.value (.slice (some ⟨s.1.1, 0, none⟩) m s.1.2.1)) w' ∧ Own w0 (⟨s.1.1, row enc ys s.1.2.2, T⟩ :: L) w' := by
  obtain ⟨fz, hf⟩ := h2.out w hw
  obtain ⟨s, w', hr, ho⟩ := run_app_nil (ty := ty) (b2 := b2) (off2 := 0) (m := m) (c2 := c2) (news := rowL enc ys) hT.out hz.out hz.cells hk.out hB.out hzk hw ⟨T2, fz, hf⟩ (by rw [rowL_len (k := k), hm]) (fun j u hu => by rw [Nat.zero_add]; simpa [row] using hu) hb.1 hb.2.1 hb.2.2
  exact ⟨s, w', run_appop ha isE isE hr, ho⟩
theorem eP0 {K : Env → List Blk → Prop} {Lw : List Blk} (hg : guardB ops E gd = some true) (hd' : Nat.blt t n = true) [hw : SblC Lw L] (hm : ys.length = m) (hzk : zc.size = k) (hb : 0 < m ∧ m * B ≤ 140737488355328 ∧ m ≤ 9223372036854775807)
    (h : ∀ b' c' sp', m ≤ c' → sp'.length = (c' - m) * k → JE P w0 n ops Lw K rest ((t, .slice (some ⟨b', 0, none⟩) m c') :: E) (⟨b', row enc ys sp', T⟩ :: L)) : JE P w0 n ops Lw K (⟨some t, .call ⟨.builtin .append, #[x, y], #[S, S]⟩, ty, pos, aft, gd⟩ :: rest) E L :=
  je_old (S := { s : Nat × Nat × List Value // m ≤ s.2.1 ∧ s.2.2.length = (s.2.1 - m) * k }) (o := ⟨some t, .call ⟨.builtin .append, #[x, y], #[S, S]⟩, ty, pos, aft, gd⟩) hg hd' (fun s => .slice (some ⟨s.1.1, 0, none⟩) m s.1.2.1) (fun s => ⟨s.1.1, row enc ys s.1.2.2, T⟩ :: L)
    (fun a w ha hw => by
      obtain ⟨s, w', hr, ho⟩ := app_run0 (hx := hx) (hy := hy) (h2 := h2) (hT := hT) (hz := hz) (he := he) (hk := hk) (hB := hB) hm hzk hb a w ha hw
      exact ⟨s, w', .inl hr, ho⟩) (fun _ => weak_sub (.cons _ hw.out)) (fun s => h _ _ _ s.2.1 s.2.2)
end
section
variable {α : Type} {enc : α → Array Value} {S T T1 T2 : TypeId} {b b2 m c2 k B : Nat} {xs ys : List α} {sp : List Value} {z : Value} {zc : Array Value}
variable [hx : IsC (evl E x) (.slice (some ⟨b, 0, none⟩) xs.length xs.length)] [hy : IsC (evl E y) (.slice (some ⟨b2, 0, none⟩) m c2)] [h1 : AtC w0 L b (row enc xs sp) T1] [h2 : AtC w0 L b2 (row enc ys []) T2] [hT : UndC P S (.slice T)] [hz : ZeroC P T z zc] [he : EncC enc k] [hk : SizeC P T k] [hB : BytesC P T B]
include hx hy h1 h2 hT hz he hk hB
theorem app_runF (hm : ys.length = m) (hzk : zc.size = k) (hb : 0 < m ∧ (xs.length + m) * B ≤ 140737488355328 ∧ xs.length + m ≤ 9223372036854775807) (a : Act) (w : World) (ha : Rep n E a) (hw : Own w0 L w) :
    ∃ s : { s : Nat × Nat × List Value // xs.length + m ≤ s.2.1 ∧ s.2.2.length = (s.2.1 - (xs.length + m)) * k }, ∃ w', (execOp a.eval ⟨some t, .call ⟨.builtin .append, #[x, y], #[S, S]⟩, ty, pos, aft, gd⟩).run P w = .ok (.value (.slice (some ⟨s.1.1, 0, none⟩) (xs.length + m) s.1.2.1)) w' ∧ Own w0 (⟨s.1.1, row enc (xs ++ ys) s.1.2.2, T⟩ :: L) w' := by
  obtain ⟨fz1, hf1⟩ := h1.out w hw
  obtain ⟨fz2, hf2⟩ := h2.out w hw
  obtain ⟨i, hi, hik⟩ := info_some hk.out
  obtain ⟨i', hi', hiB⟩ := info_some hB.out
  obtain rfl : i' = i := Option.some.inj (hi'.symm.trans hi)
  have hz' : i'.zero = some z := by simpa [hi] using hz.out
  have hold : ∀ j u, (rowL enc xs)[j]? = some u → w.cell? ((⟨b, 0, none⟩ : Addr).add j) = some u := fun j u hu => by
    rw [addr_add, cell_block hf1, Nat.zero_add, row, List.getElem?_toArray, List.getElem?_append_left (by
      rcases Nat.lt_or_ge j (rowL enc xs).length with h | h
      · exact h
      · rw [List.getElem?_eq_none h] at hu; cases hu)]
    exact hu
  have hnew : ∀ j u, (rowL enc ys)[j]? = some u → w.cell? ((⟨b2, 0, none⟩ : Addr).add j) = some u := fun j u hu => by
    rw [addr_add, cell_block hf2, Nat.zero_add]
    simpa [row] using hu
  have hr := run_append_grow w S ty T i' z hT.out hi hz' ⟨b, 0, none⟩ xs.length xs.length (rowL enc xs) (by rw [hik]; exact rowL_len xs) hold ⟨b2, 0, none⟩ m c2 (rowL enc ys) (by rw [hik, rowL_len (k := k), hm]) hnew (by omega) (by omega) (growslice_fits (by omega) (by rw [hiB]; exact hb.2.1))
  have hge := grownCap_ge w (xs.length + m) xs.length T
  refine ⟨⟨(w.heap.size, grownCap w (xs.length + m) xs.length T, (Builtin.zeroCells z.cells (grownCap w (xs.length + m) xs.length T - (xs.length + m))).toList), hge, by rw [Array.length_toList, size_zeroCells, hz.cells, hzk]⟩, _, run_appop ha isE isE hr, ?_⟩
  have h3 := (hw.to (Ext.drew w)).alloc ((rowL enc xs).toArray ++ (rowL enc ys).toArray ++ Builtin.zeroCells z.cells (grownCap w (xs.length + m) xs.length T - (xs.length + m))) T
  have e2 : (rowL enc xs).toArray ++ (rowL enc ys).toArray ++ Builtin.zeroCells z.cells (grownCap w (xs.length + m) xs.length T - (xs.length + m)) = row enc (xs ++ ys) (Builtin.zeroCells z.cells (grownCap w (xs.length + m) xs.length T - (xs.length + m))).toList := by
    apply Array.ext'
    simp [row, rowL_append]
  rw [e2] at h3
  rw [e2]
  exact h3
theorem eQ {K : Env → List Blk → Prop} {Lw : List Blk} (hg : guardB ops E gd = some true) (hd' : Nat.blt t n = true) [hw : SblC Lw L] (hm : ys.length = m) (hzk : zc.size = k) (hb : 0 < m ∧ (xs.length + m) * B ≤ 140737488355328 ∧ xs.length + m ≤ 9223372036854775807)
    (h : ∀ b' c' sp', xs.length + m ≤ c' → sp'.length = (c' - (xs.length + m)) * k → JE P w0 n ops Lw K rest ((t, .slice (some ⟨b', 0, none⟩) (xs.length + m) c') :: E) (⟨b', row enc (xs ++ ys) sp', T⟩ :: L)) : JE P w0 n ops Lw K (⟨some t, .call ⟨.builtin .append, #[x, y], #[S, S]⟩, ty, pos, aft, gd⟩ :: rest) E L :=
  je_old (S := { s : Nat × Nat × List Value // xs.length + m ≤ s.2.1 ∧ s.2.2.length = (s.2.1 - (xs.length + m)) * k }) (o := ⟨some t, .call ⟨.builtin .append, #[x, y], #[S, S]⟩, ty, pos, aft, gd⟩) hg hd' (fun s => .slice (some ⟨s.1.1, 0, none⟩) (xs.length + m) s.1.2.1) (fun s => ⟨s.1.1, row enc (xs ++ ys) s.1.2.2, T⟩ :: L)
    (fun a w ha hw => by
      obtain ⟨s, w', hr, ho⟩ := app_runF (hx := hx) (hy := hy) (h1 := h1) (h2 := h2) (hT := hT) (hz := hz) (he := he) (hk := hk) (hB := hB) hm hzk hb a w ha hw
      exact ⟨s, w', .inl hr, ho⟩) (fun _ => weak_sub (.cons _ hw.out)) (fun s => h _ _ _ s.2.1 s.2.2)
end
theorem nums_row (k : IntKind) (xs : List Int) : nums k xs = row (eI k) xs [] := by
  have h : ∀ l : List Int, l.flatMap (fun x => [Value.int k x]) = l.map (Value.int k) := by
    intro l
    induction l with
    | nil => rfl
    | cons a l ih => simp [ih]
  simp [nums, row, rowL, eI, h]
/-- A new row of integers. -/
theorem sM {T e : TypeId} {k : IntKind} {B m : Nat} [hT : UndC P T (.slice e)] [hz : ZeroC P e (.int k 0) #[.int k 0]] [hs : SizeC P e 1] [hB : BytesC P e B] [hx : IsC (evl E x) (.int .i64 (m : Nat))] [hy : IsC (evl E y) (.int .i64 (m : Nat))] (hg : guardB ops E gd = some true) (hd : Nat.blt t n = true) (hm : B * m ≤ 281474976710656 ∧ m ≤ 281474976710656)
    (h : ∀ b, JO P w0 n ops Q rest ((t, .slice (some ⟨b, 0, none⟩) m m) :: E) (⟨b, row (eI k) (List.replicate m 0) [], e⟩ :: L)) : JO P w0 n ops Q (⟨some t, .makeSlice T x y, ty, pos, aft, gd⟩ :: rest) E L :=
  wo_make isE isE hm hg hd (fun b => by rw [nums_row]; exact h b)
end
/-- The walk, with rows. -/
theorem wkB {P Q : Prop} (k : Q) (h : Wr Q → P := by intro hq; (first | refine sX rfl rfl ?_ | (refine sS rfl rfl ?_ ?_; focus omega) | (refine sC rfl rfl ?_ ?_; focus (first | exact trivial | assumption | constructor <;> assumption | exact mb2 rfl rfl | exact mb4 rfl rfl rfl rfl)) | refine cX ?_ | refine cY ?_ | (refine sA rfl rfl ?_) | refine sT rfl ?_ | refine sF rfl ?_ | (refine sR rfl ?_ ?_; focus omega) | (refine sB rfl rfl ?_) | (refine sN rfl rfl ?_ ?_; (focus (first | exact trivial | assumption | constructor <;> assumption | exact mb2 rfl rfl | exact mb4 rfl rfl rfl rfl)); (try simp only [List.cons_append, List.nil_append, List.append_nil])) | refine sW rfl rfl ?_ | refine sK rfl rfl ?_ | refine j_if rfl ?_ | refine j_else rfl ?_ | refine pkT rfl rfl rfl rfl ?_ | refine pkF rfl rfl rfl rfl ?_); (repeat (first | refine sX rfl rfl ?_ | (refine sS rfl rfl ?_ ?_; focus omega) | (refine sC rfl rfl ?_ ?_; focus (first | exact trivial | assumption | constructor <;> assumption | exact mb2 rfl rfl | exact mb4 rfl rfl rfl rfl)) | refine cX ?_ | refine cY ?_ | (refine sA rfl rfl ?_) | refine sT rfl ?_ | refine sF rfl ?_ | (refine sR rfl ?_ ?_; focus omega) | (refine sB rfl rfl ?_) | (refine sN rfl rfl ?_ ?_; (focus (first | exact trivial | assumption | constructor <;> assumption | exact mb2 rfl rfl | exact mb4 rfl rfl rfl rfl)); (try simp only [List.cons_append, List.nil_append, List.append_nil])) | refine sW rfl rfl ?_ | refine sK rfl rfl ?_ | refine j_if rfl ?_ | refine j_else rfl ?_ | refine pkT rfl rfl rfl rfl ?_ | refine pkF rfl rfl rfl rfl ?_)); exact hq.out) : P := h ⟨k⟩
end Go.Vt
/- Rows of structs and integers: encodings, literals, stores of parts. Written by a program (gen_row.py). Conditions: none. -/
set_option linter.unusedVariables false
set_option maxRecDepth 100000
namespace Go.Vt
open Go.RowKit Go.Proofs
abbrev r_api_Real (x : R_api_Real) : Array Value := e_api_Real (q_api_Real x)
instance : Inhabited R_api_Real := ⟨zR_api_Real⟩
instance enc_api_Real : EncC r_api_Real 9 := ⟨fun _ => CsC.size, fun _ => CsC.one⟩
abbrev r_api_Interval (x : R_api_Interval) : Array Value := e_api_Interval (q_api_Interval x)
instance : Inhabited R_api_Interval := ⟨zR_api_Interval⟩
instance enc_api_Interval : EncC r_api_Interval 20 := ⟨fun _ => CsC.size, fun _ => CsC.one⟩
abbrev r_simplify_Run (x : R_simplify_Run) : Array Value := e_simplify_Run (q_simplify_Run x)
instance : Inhabited R_simplify_Run := ⟨zR_simplify_Run⟩
instance enc_simplify_Run : EncC r_simplify_Run 21 := ⟨fun _ => CsC.size, fun _ => CsC.one⟩
abbrev r_movingpoint_Sample (x : R_movingpoint_Sample) : Array Value := e_movingpoint_Sample (q_movingpoint_Sample x)
instance : Inhabited R_movingpoint_Sample := ⟨zR_movingpoint_Sample⟩
instance enc_movingpoint_Sample : EncC r_movingpoint_Sample 12 := ⟨fun _ => CsC.size, fun _ => CsC.one⟩
abbrev r_api_PointUnit (x : R_api_PointUnit) : Array Value := e_api_PointUnit (q_api_PointUnit x)
instance : Inhabited R_api_PointUnit := ⟨zR_api_PointUnit⟩
instance enc_api_PointUnit : EncC r_api_PointUnit 36 := ⟨fun _ => CsC.size, fun _ => CsC.one⟩
abbrev r_pieces_Unit_api_Line (x : R_pieces_Unit_api_Line) : Array Value := e_pieces_Unit_api_Line (q_pieces_Unit_api_Line x)
instance : Inhabited R_pieces_Unit_api_Line := ⟨zR_pieces_Unit_api_Line⟩
instance enc_pieces_Unit_api_Line : EncC r_pieces_Unit_api_Line 36 := ⟨fun _ => CsC.size, fun _ => CsC.one⟩
instance : Inhabited viatorlaw15_Step := ⟨z_viatorlaw15_Step⟩
instance enc_viatorlaw15_Step : EncC e_viatorlaw15_Step 4 := ⟨fun _ => CsC.size, fun _ => CsC.one⟩
instance st_32_0 (x : R_api_Interval) (v : R_api_Real) : StC Tryz.prog 30 (e_api_Interval (q_api_Interval x)) 0 (.agg (e_api_Real (q_api_Real v))) (e_api_Interval (q_api_Interval { x with From := v })) := ⟨by kernel_rfl, by kernel_rfl, by kernel_rfl, by kernel_rfl⟩
instance st_32_1 (x : R_api_Interval) (v : R_api_Real) : StC Tryz.prog 30 (e_api_Interval (q_api_Interval x)) 9 (.agg (e_api_Real (q_api_Real v))) (e_api_Interval (q_api_Interval { x with To := v })) := ⟨by kernel_rfl, by kernel_rfl, by kernel_rfl, by kernel_rfl⟩
instance st_32_2 (x : R_api_Interval) (v : Bool) : StC Tryz.prog 4 (e_api_Interval (q_api_Interval x)) 18 (.bool v) (e_api_Interval (q_api_Interval { x with OpenFrom := v })) := ⟨by kernel_rfl, by kernel_rfl, by kernel_rfl, by kernel_rfl⟩
instance st_32_3 (x : R_api_Interval) (v : Bool) : StC Tryz.prog 4 (e_api_Interval (q_api_Interval x)) 19 (.bool v) (e_api_Interval (q_api_Interval { x with OpenTo := v })) := ⟨by kernel_rfl, by kernel_rfl, by kernel_rfl, by kernel_rfl⟩
instance st_35_0_1 (x : R_simplify_Run) (v : R_api_Real) : StC Tryz.prog 30 (e_simplify_Run (q_simplify_Run x)) 9 (.agg (e_api_Real (q_api_Real v))) (e_simplify_Run (q_simplify_Run { x with In := { x.In with To := v } })) := ⟨by kernel_rfl, by kernel_rfl, by kernel_rfl, by kernel_rfl⟩
instance st_35_0_3 (x : R_simplify_Run) (v : Bool) : StC Tryz.prog 4 (e_simplify_Run (q_simplify_Run x)) 19 (.bool v) (e_simplify_Run (q_simplify_Run { x with In := { x.In with OpenTo := v } })) := ⟨by kernel_rfl, by kernel_rfl, by kernel_rfl, by kernel_rfl⟩
instance st_35_1 (x : R_simplify_Run) (a : Option Addr) (l c : Nat) : StC Tryz.prog 33 (e_simplify_Run (q_simplify_Run x)) 20 (.slice a l c) (e_simplify_Run (q_simplify_Run { x with Points := ⟨a, l, c⟩ })) := ⟨by kernel_rfl, by kernel_rfl, by kernel_rfl, by kernel_rfl⟩
instance st_47_1 (x : R_movingpoint_Sample) (v : R_api_Point) : StC Tryz.prog 45 (e_movingpoint_Sample (q_movingpoint_Sample x)) 4 (.agg (e_api_Point (q_api_Point v))) (e_movingpoint_Sample (q_movingpoint_Sample { x with P := v })) := ⟨by kernel_rfl, by kernel_rfl, by kernel_rfl, by kernel_rfl⟩
instance st_163_0_1 (x : R_pieces_Unit_api_Line) (v : R_api_Real) : StC Tryz.prog 30 (e_pieces_Unit_api_Line (q_pieces_Unit_api_Line x)) 9 (.agg (e_api_Real (q_api_Real v))) (e_pieces_Unit_api_Line (q_pieces_Unit_api_Line { x with In := { x.In with To := v } })) := ⟨by kernel_rfl, by kernel_rfl, by kernel_rfl, by kernel_rfl⟩
instance st_163_0_2 (x : R_pieces_Unit_api_Line) (v : Bool) : StC Tryz.prog 4 (e_pieces_Unit_api_Line (q_pieces_Unit_api_Line x)) 18 (.bool v) (e_pieces_Unit_api_Line (q_pieces_Unit_api_Line { x with In := { x.In with OpenFrom := v } })) := ⟨by kernel_rfl, by kernel_rfl, by kernel_rfl, by kernel_rfl⟩
instance st_163_0_3 (x : R_pieces_Unit_api_Line) (v : Bool) : StC Tryz.prog 4 (e_pieces_Unit_api_Line (q_pieces_Unit_api_Line x)) 19 (.bool v) (e_pieces_Unit_api_Line (q_pieces_Unit_api_Line { x with In := { x.In with OpenTo := v } })) := ⟨by kernel_rfl, by kernel_rfl, by kernel_rfl, by kernel_rfl⟩
instance st_163_1 (x : R_pieces_Unit_api_Line) (v : R_api_Line) : StC Tryz.prog 66 (e_pieces_Unit_api_Line (q_pieces_Unit_api_Line x)) 20 (.agg (e_api_Line (q_api_Line v))) (e_pieces_Unit_api_Line (q_pieces_Unit_api_Line { x with F := v })) := ⟨by kernel_rfl, by kernel_rfl, by kernel_rfl, by kernel_rfl⟩
theorem bsr_33_1 (x0 : R_movingpoint_Sample) (w : World) : (Instr.buildSlice 33 1 [(0, .agg (e_movingpoint_Sample (q_movingpoint_Sample x0)))].toArray).run Tryz.prog w = .ok (.slice (some ⟨w.heap.size, 0, none⟩) 1 1) (w.alloc (.cells (row (r_movingpoint_Sample) [x0] []) 47)) := by kernel_rfl
instance (priority := high) bsi_33_1 (x0 : R_movingpoint_Sample) : BsC Tryz.prog 33 1 [(0, .agg (e_movingpoint_Sample (q_movingpoint_Sample x0)))] (row (r_movingpoint_Sample) [x0] []) 47 := ⟨bsr_33_1 x0⟩
theorem bsr_33_3 (x0 x1 x2 : R_movingpoint_Sample) (w : World) : (Instr.buildSlice 33 3 [(0, .agg (e_movingpoint_Sample (q_movingpoint_Sample x0))), (1, .agg (e_movingpoint_Sample (q_movingpoint_Sample x1))), (2, .agg (e_movingpoint_Sample (q_movingpoint_Sample x2)))].toArray).run Tryz.prog w = .ok (.slice (some ⟨w.heap.size, 0, none⟩) 3 3) (w.alloc (.cells (row (r_movingpoint_Sample) [x0, x1, x2] []) 47)) := by kernel_rfl
instance (priority := high) bsi_33_3 (x0 x1 x2 : R_movingpoint_Sample) : BsC Tryz.prog 33 3 [(0, .agg (e_movingpoint_Sample (q_movingpoint_Sample x0))), (1, .agg (e_movingpoint_Sample (q_movingpoint_Sample x1))), (2, .agg (e_movingpoint_Sample (q_movingpoint_Sample x2)))] (row (r_movingpoint_Sample) [x0, x1, x2] []) 47 := ⟨bsr_33_3 x0 x1 x2⟩
theorem bsr_33_5 (x0 x1 x2 x3 x4 : R_movingpoint_Sample) (w : World) : (Instr.buildSlice 33 5 [(0, .agg (e_movingpoint_Sample (q_movingpoint_Sample x0))), (1, .agg (e_movingpoint_Sample (q_movingpoint_Sample x1))), (2, .agg (e_movingpoint_Sample (q_movingpoint_Sample x2))), (3, .agg (e_movingpoint_Sample (q_movingpoint_Sample x3))), (4, .agg (e_movingpoint_Sample (q_movingpoint_Sample x4)))].toArray).run Tryz.prog w = .ok (.slice (some ⟨w.heap.size, 0, none⟩) 5 5) (w.alloc (.cells (row (r_movingpoint_Sample) [x0, x1, x2, x3, x4] []) 47)) := by kernel_rfl
instance (priority := high) bsi_33_5 (x0 x1 x2 x3 x4 : R_movingpoint_Sample) : BsC Tryz.prog 33 5 [(0, .agg (e_movingpoint_Sample (q_movingpoint_Sample x0))), (1, .agg (e_movingpoint_Sample (q_movingpoint_Sample x1))), (2, .agg (e_movingpoint_Sample (q_movingpoint_Sample x2))), (3, .agg (e_movingpoint_Sample (q_movingpoint_Sample x3))), (4, .agg (e_movingpoint_Sample (q_movingpoint_Sample x4)))] (row (r_movingpoint_Sample) [x0, x1, x2, x3, x4] []) 47 := ⟨bsr_33_5 x0 x1 x2 x3 x4⟩
theorem bsr_41_1 (x0 : R_api_PointUnit) (w : World) : (Instr.buildSlice 41 1 [(0, .agg (e_api_PointUnit (q_api_PointUnit x0)))].toArray).run Tryz.prog w = .ok (.slice (some ⟨w.heap.size, 0, none⟩) 1 1) (w.alloc (.cells (row (r_api_PointUnit) [x0] []) 68)) := by kernel_rfl
instance (priority := high) bsi_41_1 (x0 : R_api_PointUnit) : BsC Tryz.prog 41 1 [(0, .agg (e_api_PointUnit (q_api_PointUnit x0)))] (row (r_api_PointUnit) [x0] []) 68 := ⟨bsr_41_1 x0⟩
theorem bsr_62_1 (x0 : R_simplify_Run) (w : World) : (Instr.buildSlice 62 1 [(0, .agg (e_simplify_Run (q_simplify_Run x0)))].toArray).run Tryz.prog w = .ok (.slice (some ⟨w.heap.size, 0, none⟩) 1 1) (w.alloc (.cells (row (r_simplify_Run) [x0] []) 35)) := by kernel_rfl
instance (priority := high) bsi_62_1 (x0 : R_simplify_Run) : BsC Tryz.prog 62 1 [(0, .agg (e_simplify_Run (q_simplify_Run x0)))] (row (r_simplify_Run) [x0] []) 35 := ⟨bsr_62_1 x0⟩
theorem bsr_87_1 (x0 : R_api_Interval) (w : World) : (Instr.buildSlice 87 1 [(0, .agg (e_api_Interval (q_api_Interval x0)))].toArray).run Tryz.prog w = .ok (.slice (some ⟨w.heap.size, 0, none⟩) 1 1) (w.alloc (.cells (row (r_api_Interval) [x0] []) 32)) := by kernel_rfl
instance (priority := high) bsi_87_1 (x0 : R_api_Interval) : BsC Tryz.prog 87 1 [(0, .agg (e_api_Interval (q_api_Interval x0)))] (row (r_api_Interval) [x0] []) 32 := ⟨bsr_87_1 x0⟩
theorem bsr_89_1 (x0 : Int) (w : World) : (Instr.buildSlice 89 1 [(0, .int .i64 x0)].toArray).run Tryz.prog w = .ok (.slice (some ⟨w.heap.size, 0, none⟩) 1 1) (w.alloc (.cells (row (eI .i64) [x0] []) 3)) := by kernel_rfl
instance (priority := high) bsi_89_1 (x0 : Int) : BsC Tryz.prog 89 1 [(0, .int .i64 x0)] (row (eI .i64) [x0] []) 3 := ⟨bsr_89_1 x0⟩
theorem bsr_89_2 (x0 x1 : Int) (w : World) : (Instr.buildSlice 89 2 [(0, .int .i64 x0), (1, .int .i64 x1)].toArray).run Tryz.prog w = .ok (.slice (some ⟨w.heap.size, 0, none⟩) 2 2) (w.alloc (.cells (row (eI .i64) [x0, x1] []) 3)) := by kernel_rfl
instance (priority := high) bsi_89_2 (x0 x1 : Int) : BsC Tryz.prog 89 2 [(0, .int .i64 x0), (1, .int .i64 x1)] (row (eI .i64) [x0, x1] []) 3 := ⟨bsr_89_2 x0 x1⟩
theorem bsr_89_3 (x0 x1 x2 : Int) (w : World) : (Instr.buildSlice 89 3 [(0, .int .i64 x0), (1, .int .i64 x1), (2, .int .i64 x2)].toArray).run Tryz.prog w = .ok (.slice (some ⟨w.heap.size, 0, none⟩) 3 3) (w.alloc (.cells (row (eI .i64) [x0, x1, x2] []) 3)) := by kernel_rfl
instance (priority := high) bsi_89_3 (x0 x1 x2 : Int) : BsC Tryz.prog 89 3 [(0, .int .i64 x0), (1, .int .i64 x1), (2, .int .i64 x2)] (row (eI .i64) [x0, x1, x2] []) 3 := ⟨bsr_89_3 x0 x1 x2⟩
theorem bsr_89_5 (x0 x1 x2 x3 x4 : Int) (w : World) : (Instr.buildSlice 89 5 [(0, .int .i64 x0), (1, .int .i64 x1), (2, .int .i64 x2), (3, .int .i64 x3), (4, .int .i64 x4)].toArray).run Tryz.prog w = .ok (.slice (some ⟨w.heap.size, 0, none⟩) 5 5) (w.alloc (.cells (row (eI .i64) [x0, x1, x2, x3, x4] []) 3)) := by kernel_rfl
instance (priority := high) bsi_89_5 (x0 x1 x2 x3 x4 : Int) : BsC Tryz.prog 89 5 [(0, .int .i64 x0), (1, .int .i64 x1), (2, .int .i64 x2), (3, .int .i64 x3), (4, .int .i64 x4)] (row (eI .i64) [x0, x1, x2, x3, x4] []) 3 := ⟨bsr_89_5 x0 x1 x2 x3 x4⟩
theorem bsr_116_1 (x0 : R_pieces_Unit_api_Line) (w : World) : (Instr.buildSlice 116 1 [(0, .agg (e_pieces_Unit_api_Line (q_pieces_Unit_api_Line x0)))].toArray).run Tryz.prog w = .ok (.slice (some ⟨w.heap.size, 0, none⟩) 1 1) (w.alloc (.cells (row (r_pieces_Unit_api_Line) [x0] []) 163)) := by kernel_rfl
instance (priority := high) bsi_116_1 (x0 : R_pieces_Unit_api_Line) : BsC Tryz.prog 116 1 [(0, .agg (e_pieces_Unit_api_Line (q_pieces_Unit_api_Line x0)))] (row (r_pieces_Unit_api_Line) [x0] []) 163 := ⟨bsr_116_1 x0⟩
theorem bsr_128_1 (x0 : R_api_Real) (w : World) : (Instr.buildSlice 128 1 [(0, .agg (e_api_Real (q_api_Real x0)))].toArray).run Tryz.prog w = .ok (.slice (some ⟨w.heap.size, 0, none⟩) 1 1) (w.alloc (.cells (row (r_api_Real) [x0] []) 30)) := by kernel_rfl
instance (priority := high) bsi_128_1 (x0 : R_api_Real) : BsC Tryz.prog 128 1 [(0, .agg (e_api_Real (q_api_Real x0)))] (row (r_api_Real) [x0] []) 30 := ⟨bsr_128_1 x0⟩
end Go.Vt
/- Straight ways between samples and their deviations. Conditions: the lengths and indexes that each statement names. -/
set_option linter.unusedSimpArgs false
set_option linter.unusedVariables false
set_option maxHeartbeats 2000000
set_option maxRecDepth 100000
namespace Go.Vt
open Go.RowKit Go.Proofs
abbrev vLn (f : R_api_Line) : Value := .agg (e_api_Line (q_api_Line f))
abbrev vRun (r : R_api_Interval) (b n c : Nat) : Value := .agg (e_simplify_Run (q_simplify_Run ⟨r, ⟨some ⟨b, 0, none⟩, n, c⟩⟩))
def stl (a b : R_movingpoint_Sample) : R_api_Line := ⟨(lin a.T a.P.X b.T b.P.X).C0, (lin a.T a.P.X b.T b.P.X).C1, (lin a.T a.P.Y b.T b.P.Y).C0, (lin a.T a.P.Y b.T b.P.Y).C1⟩
/-- The position of a line at a rational instant. -/
def pos (f : R_api_Line) (t : Rat) : R_api_Point := ⟨f.X0 + t * (f.X1 + t * 0), f.Y0 + t * (f.Y1 + t * 0)⟩
instance mb_lin0 (t v u x : Rat) (i j k l : Nat) [h1 : MB t i] [h2 : MB v j] [h3 : MB u k] [h4 : MB x l] : MB (lin t v u x).C0 (2 * i + 2 * j + k + l + 4) := ⟨by
  unfold lin
  split
  · exact Nat.le_trans (mb_zero.out) (by omega)
  · have := (inferInstance : MB (v - (x - v) / (u - t) * t) _).out
    simp only
    omega⟩
instance mb_lin1 (t v u x : Rat) (i j k l : Nat) [h1 : MB t i] [h2 : MB v j] [h3 : MB u k] [h4 : MB x l] : MB (lin t v u x).C1 (i + j + k + l + 3) := ⟨by
  unfold lin
  split
  · exact Nat.le_trans (mb_zero.out) (by omega)
  · have := (inferInstance : MB ((x - v) / (u - t)) _).out
    simp only
    omega⟩
instance mb_stlX0 (a b : R_movingpoint_Sample) (i j k l : Nat) [MB a.T i] [MB a.P.X j] [MB b.T k] [MB b.P.X l] : MB (stl a b).X0 (2 * i + 2 * j + k + l + 4) := inferInstanceAs (MB (lin a.T a.P.X b.T b.P.X).C0 _)
instance mb_stlX1 (a b : R_movingpoint_Sample) (i j k l : Nat) [MB a.T i] [MB a.P.X j] [MB b.T k] [MB b.P.X l] : MB (stl a b).X1 (i + j + k + l + 3) := inferInstanceAs (MB (lin a.T a.P.X b.T b.P.X).C1 _)
instance mb_stlY0 (a b : R_movingpoint_Sample) (i j k l : Nat) [MB a.T i] [MB a.P.Y j] [MB b.T k] [MB b.P.Y l] : MB (stl a b).Y0 (2 * i + 2 * j + k + l + 4) := inferInstanceAs (MB (lin a.T a.P.Y b.T b.P.Y).C0 _)
instance mb_stlY1 (a b : R_movingpoint_Sample) (i j k l : Nat) [MB a.T i] [MB a.P.Y j] [MB b.T k] [MB b.P.Y l] : MB (stl a b).Y1 (i + j + k + l + 3) := inferInstanceAs (MB (lin a.T a.P.Y b.T b.P.Y).C1 _)
instance mb_posX (f : R_api_Line) (t : Rat) (i j k : Nat) [MB f.X0 i] [MB f.X1 j] [MB t k] : MB (pos f t).X (i + (k + (j + (k + 1) + 1)) + 1) := inferInstanceAs (MB (f.X0 + t * (f.X1 + t * 0)) _)
instance mb_posY (f : R_api_Line) (t : Rat) (i j k : Nat) [MB f.Y0 i] [MB f.Y1 j] [MB t k] : MB (pos f t).Y (i + (k + (j + (k + 1) + 1)) + 1) := inferInstanceAs (MB (f.Y0 + t * (f.Y1 + t * 0)) _)
theorem mb5 {p q r s t : Rat} {i j k l m A B C D F : Nat} [MB p i] [MB q j] [MB r k] [MB s l] [MB t m] (h1 : Nat.ble i A = true) (h2 : Nat.ble j B = true) (h3 : Nat.ble k C = true) (h4 : Nat.ble l D = true) (h5 : Nat.ble m F = true) : M p ≤ A ∧ M q ≤ B ∧ M r ≤ C ∧ M s ≤ D ∧ M t ≤ F := ⟨MB.lt h1, MB.lt h2, MB.lt h3, MB.lt h4, MB.lt h5⟩
instance sp_straight (a b : R_movingpoint_Sample) : SpecC Tryz.prog 70 [vS a, vS b] (vLn (stl a b)) ((M a.T ≤ 34359738368 ∧ M a.P.X ≤ 34359738368 ∧ M a.P.Y ≤ 34359738368) ∧ (M b.T ≤ 34359738368 ∧ M b.P.X ≤ 34359738368 ∧ M b.P.Y ≤ 34359738368)) := ⟨fun hp w => by
  obtain ⟨⟨h1, h2, h3⟩, h4, h5, h6⟩ := hp
  refine fn_intro Tryz.func70 rfl Tryz.ntmps70 rfl ?_
  repeat (first | (refine wkB ?_; try intro _) | (refine sC rfl rfl ?_ ?_; focus (exact ⟨by assumption, by assumption, by assumption, by assumption⟩)) | (refine sN rfl rfl ?_ ?_; (focus (exact ⟨by assumption, by assumption, by assumption, by assumption⟩)); intro _; (try simp only [List.cons_append, List.nil_append, List.append_nil])))
  exact wx_cell rfl rfl (fun w hw => ret_ok hw)⟩
instance sp_sample (f : R_api_Line) (t : R_api_Real) : SpecC Tryz.prog 77 [vLn f, vR t] (vS ⟨t.P, pos f t.P⟩) (t.R = 0 ∧ M t.P ≤ 34359738368 ∧ M f.X0 ≤ 34359738368 ∧ M f.X1 ≤ 34359738368 ∧ M f.Y0 ≤ 34359738368 ∧ M f.Y1 ≤ 34359738368) := ⟨fun hp w => by
  obtain ⟨h0, h1, h2, h3, h4, h5⟩ := hp
  have h6 : M 0 ≤ 34359738368 := Nat.le_trans mb_zero.out (by decide)
  refine fn_intro Tryz.func77 rfl Tryz.ntmps77 rfl ?_
  repeat (refine wkB ?_; try intro _)
  simp only [if_pos h0]
  (refine jD 7 8 (h := ?_); (repeat (first | refine wkH ?_ | (refine tC rfl rfl ?_ ?_; focus (first | exact trivial | exact ⟨by assumption, by assumption, by assumption, by assumption⟩)))); refine jh_nil ?_; (repeat (refine wn_new ?_; intro _)); refine jn_nil ?_)
  repeat (refine wkB ?_; try intro _)
  (refine jD 7 8 (h := ?_); (repeat (first | refine wkH ?_ | (refine tC rfl rfl ?_ ?_; focus (first | exact trivial | exact ⟨by assumption, by assumption, by assumption, by assumption⟩)))); refine jh_nil ?_; (repeat (refine wn_new ?_; intro _)); refine jn_nil ?_)
  repeat (refine wkB ?_; try intro _)
  exact wx_cell rfl rfl (fun w hw => ret_ok hw)⟩
abbrev PB : Nat := 1048576
/-- The samples are short. -/
def Bnd (pts : List R_movingpoint_Sample) : Prop := ∀ i : Int, M (gi pts i).T ≤ PB ∧ M (gi pts i).P.X ≤ PB ∧ M (gi pts i).P.Y ≤ PB
/-- The greatest squared distance of the breakpoints behind 'i', of which there are 'n', from the straight way from 'i' to 'j'. -/
def dv (pts : List R_movingpoint_Sample) (i j : Nat) : Nat → Rat
  | 0 => 0
  | n + 1 => max (dv pts i j n) (d2 (gi pts ((i : Int) + 1 + n)).P (pos (stl (gi pts (i : Int)) (gi pts (j : Int))) (gi pts ((i : Int) + 1 + n)).T))
theorem M_max (a b : Rat) : M (max a b) ≤ max (M a) (M b) := by rw [Rat.max_def]; split <;> omega
theorem M_dv {pts : List R_movingpoint_Sample} (hB : Bnd pts) (i j : Nat) : ∀ n, M (dv pts i j n) ≤ 67108864
  | 0 => Nat.le_trans mb_zero.out (by decide)
  | n + 1 => by
    have g1 : ∀ i, MB (gi pts i).T PB := fun i => ⟨(hB i).1⟩
    have g2 : ∀ i, MB (gi pts i).P.X PB := fun i => ⟨(hB i).2.1⟩
    have g3 : ∀ i, MB (gi pts i).P.Y PB := fun i => ⟨(hB i).2.2⟩
    have h1 := M_dv hB i j n
    have h2 : M (d2 (gi pts ((i : Int) + 1 + n)).P (pos (stl (gi pts (i : Int)) (gi pts (j : Int))) (gi pts ((i : Int) + 1 + n)).T)) ≤ 67108864 := by
      exact MB.lt rfl
    exact Nat.le_trans (M_max _ _) (by omega)
theorem dev_spec (I : R_api_Interval) (b n c i j : Nat) (pts : List R_movingpoint_Sample) (sp : List Value) (T : TypeId) (hn : pts.length = n) (hc : n ≤ c) (hB : Bnd pts) (hij : i < j) (hj : j < n) (h63 : n ≤ 1099511627776) (w : World) (hw : ∃ fz, w.heap[b]? = some (.cells (row r_movingpoint_Sample pts sp) T fz)) :
    Calls Tryz.prog 46 [vRun I b n c, .int .i64 i, .int .i64 j].toArray w (Ret (vQ (dv pts i j (j - i - 1))) w) := by
  have := FoC.mk hw
  have g1 : ∀ i, MB (gi pts i).T PB := fun i => ⟨(hB i).1⟩
  have g2 : ∀ i, MB (gi pts i).P.X PB := fun i => ⟨(hB i).2.1⟩
  have g3 : ∀ i, MB (gi pts i).P.Y PB := fun i => ⟨(hB i).2.2⟩
  refine fn_intro Tryz.func46 rfl Tryz.ntmps46 rfl ?_
  repeat (refine wkB ?_; try intro _)
  refine j_cond rfl (fun h => ?_) (fun h => ?_)
  · have := of_decide_eq_true h
    omega
  repeat (refine wkB ?_; try intro _)
  (refine jD 11 12 (h := ?_); (repeat (first | refine wkH ?_ | (refine tC rfl rfl ?_ ?_; focus (exact ⟨mb3 rfl rfl rfl, mb3 rfl rfl rfl⟩)))); refine jh_nil ?_; (repeat (refine wn_new ?_; intro _)); refine jn_nil ?_)
  repeat (refine wkB ?_; try intro _)
  rename_i b3 b6 b7 b8
  refine j_loop (S := Nat) (fun m => m ≤ j - i - 1) (fun m => [(6, .pointer (some ⟨b6, 0, none⟩)), (7, .pointer (some ⟨b7, 0, none⟩)), (8, .pointer (some ⟨b8, 0, none⟩)), (32, .slice (some ⟨b, 0 + ((i : Int) + 1).toNat * 12, none⟩) ((j : Int) - ((i : Int) + 1)).toNat ((c : Int) - ((i : Int) + 1)).toNat), (33, .int .i64 (((j : Int) - ((i : Int) + 1)).toNat : Nat)), (34, .int .i64 (m : Nat))])
    (fun m => [⟨b8, e_api_Line (q_api_Line (stl (gi pts i) (gi pts j))), 66⟩, ⟨b7, e_api_Rat (Q (dv pts i j m)), 28⟩, ⟨b6, e_api_Rat (Q 0), 28⟩]) (fun m => j - i - 1 - m) 0 (Nat.zero_le _)
    sbB slB (fun m hm => ?_)
  repeat (refine wkB ?_; try intro _)
  refine j_cond rfl (fun h => ?_) (fun h => ?_)
  · have hlt : m < j - i - 1 := by have := of_decide_eq_true h; omega
    repeat (refine wkB ?_; try intro _)
    (refine jD 9 10 (h := ?_); (repeat (first | refine wkH ?_ | (refine tC rfl rfl ?_ ?_; focus (first | exact trivial | exact ⟨rfl, mb5 rfl rfl rfl rfl rfl⟩ | exact mb4 rfl rfl rfl rfl)))); refine jh_nil ?_; (repeat (refine wn_new ?_; intro _)); refine jn_nil ?_)
    have h1 := M_dv hB i j m
    repeat (first | (refine wkB ?_; try intro _) | (refine sC rfl rfl ?_ ?_; focus (exact ⟨Nat.le_trans h1 (by decide), MB.lt rfl⟩)) | (refine sN rfl rfl ?_ ?_; (focus (exact ⟨Nat.le_trans h1 (by decide), MB.lt rfl⟩)); intro _; (try simp only [List.cons_append, List.nil_append, List.append_nil])))
    exact jx_loop (m + 1) hlt sbB slB (by omega)
  · have hge : m = j - i - 1 := by have := of_decide_eq_false h; omega
    subst hge
    repeat (refine wkB ?_; try intro _)
    exact wx_cell rfl rfl (fun w hw => ret_ok hw)
instance sm_dev (w0 : World) (L : List Blk) (I : R_api_Interval) (b n c : Nat) (i j : Int) (pts : List R_movingpoint_Sample) (sp : List Value) (T : TypeId) [h : AtC w0 L b (row r_movingpoint_Sample pts sp) T] : SpecM Tryz.prog w0 L 46 [vRun I b n c, .int .i64 i, .int .i64 j] (vQ (dv pts i.toNat j.toNat (j.toNat - i.toNat - 1))) ((pts.length = n ∧ n ≤ c ∧ n ≤ 1099511627776 ∧ Bnd pts) ∧ 0 ≤ i ∧ i < j ∧ j < n) := ⟨fun hp w hw => by
  obtain ⟨⟨h1, h2, h3, h4⟩, h5, h6, h7⟩ := hp
  have := dev_spec I b n c i.toNat j.toNat pts sp T h1 h2 h4 (by omega) (by omega) h3 w (h.out w hw)
  rw [show ((i.toNat : Nat) : Int) = i by omega, show ((j.toNat : Nat) : Int) = j by omega] at this
  exact this⟩
end Go.Vt
/- The reference's deviations, and the functions on lists of indexes. Conditions: the lengths and indexes that each statement names. -/
set_option linter.unusedSimpArgs false
set_option linter.unusedVariables false
set_option maxHeartbeats 2000000
set_option maxRecDepth 100000
namespace Go.Vt
open Go.RowKit Go.Proofs
def btw (a b : R_movingpoint_Sample) (t : Rat) : R_api_Point := if b.T - a.T = 0 then a.P else ⟨a.P.X + (b.P.X - a.P.X) * ((t - a.T) / (b.T - a.T)), a.P.Y + (b.P.Y - a.P.Y) * ((t - a.T) / (b.T - a.T))⟩
theorem btw_pos (a b : R_movingpoint_Sample) (t : Rat) (h : a.T < b.T) : pos (stl a b) t = btw a b t := by
  have h1 : b.T - a.T ≠ 0 := by grind
  unfold pos stl btw lin
  simp only [if_neg h1]
  congr 1 <;> grind
instance mb_btwX (a b : R_movingpoint_Sample) (t : Rat) (i j k l m : Nat) [h1 : MB a.T i] [h2 : MB a.P.X j] [h3 : MB b.T k] [h4 : MB b.P.X l] [h5 : MB t m] : MB (btw a b t).X (2 * i + 2 * j + k + l + m + 6) := ⟨by
  unfold btw
  split
  · exact Nat.le_trans h2.out (by omega)
  · have := (inferInstance : MB (a.P.X + (b.P.X - a.P.X) * ((t - a.T) / (b.T - a.T))) _).out
    simp only
    omega⟩
instance mb_btwY (a b : R_movingpoint_Sample) (t : Rat) (i j k l m : Nat) [h1 : MB a.T i] [h2 : MB a.P.Y j] [h3 : MB b.T k] [h4 : MB b.P.Y l] [h5 : MB t m] : MB (btw a b t).Y (2 * i + 2 * j + k + l + m + 6) := ⟨by
  unfold btw
  split
  · exact Nat.le_trans h2.out (by omega)
  · have := (inferInstance : MB (a.P.Y + (b.P.Y - a.P.Y) * ((t - a.T) / (b.T - a.T))) _).out
    simp only
    omega⟩
instance sp_between (a b : R_movingpoint_Sample) (t : Rat) : SpecC Tryz.prog 48 [vS a, vS b, vQ t] (vP (btw a b t)) ((M a.T ≤ 1073741824 ∧ M a.P.X ≤ 1073741824 ∧ M a.P.Y ≤ 1073741824) ∧ (M b.T ≤ 1073741824 ∧ M b.P.X ≤ 1073741824 ∧ M b.P.Y ≤ 1073741824) ∧ M t ≤ 1073741824) := ⟨fun hp w => by
  obtain ⟨⟨h1, h2, h3⟩, ⟨h4, h5, h6⟩, h7⟩ := hp
  have := MB.mk h1
  have := MB.mk h2
  have := MB.mk h3
  have := MB.mk h4
  have := MB.mk h5
  have := MB.mk h6
  have := MB.mk h7
  refine fn_intro Tryz.func48 rfl Tryz.ntmps48 rfl ?_
  repeat (refine wkB ?_; try intro _)
  (refine j_late [0, 1, 2, 3, 4, 5, 6, 7, 8, 9, 10, 11, 12] [13, 14, 15] (_) (h := ?_); refine wkI ?_; (repeat (refine wkH ?_)); refine jh_nil ?_; (repeat (first | (refine eA rfl rfl ?_; intro _) | refine eT rfl ?_ | refine eS rfl rfl ?_ | refine eF rfl ?_ | refine eX rfl rfl ?_ | (refine eB rfl rfl ?_; intro _) | (refine eN rfl rfl ?_ ?_; (focus (first | exact trivial | assumption | constructor <;> assumption | exact mb2 rfl rfl | exact mb4 rfl rfl rfl rfl)); intro _; (try simp only [List.cons_append, List.nil_append, List.append_nil])))); refine je_nil ?_)
  repeat (refine wkB ?_; try intro _)
  by_cases hz : b.T - a.T = 0
  · unfold btw
    simp only [if_pos hz]
    repeat (refine wkB ?_; try intro _)
    exact wx_cell rfl rfl (fun w hw => ret_ok hw)
  · unfold btw
    simp only [if_neg hz]
    repeat (first | (refine wkB ?_; try intro _) | (refine sC rfl rfl ?_ ?_; focus (exact ⟨mb4 rfl rfl rfl rfl, MB.lt rfl⟩)) | (refine sN rfl rfl ?_ ?_; (focus (exact ⟨mb4 rfl rfl rfl rfl, MB.lt rfl⟩)); intro _; (try simp only [List.cons_append, List.nil_append, List.append_nil])))
    exact wx_cell rfl rfl (fun w hw => ret_ok hw)⟩
/-- The deviation of the reference. -/
def rv (pts : List R_movingpoint_Sample) (i j : Nat) : Nat → Rat
  | 0 => 0
  | n + 1 => max (rv pts i j n) (d2 (gi pts ((i : Int) + 1 + n)).P (btw (gi pts (i : Int)) (gi pts (j : Int)) (gi pts ((i : Int) + 1 + n)).T))
theorem M_rv {pts : List R_movingpoint_Sample} (hB : Bnd pts) (i j : Nat) : ∀ n, M (rv pts i j n) ≤ 67108864
  | 0 => Nat.le_trans mb_zero.out (by decide)
  | n + 1 => by
    have g1 : ∀ i, MB (gi pts i).T PB := fun i => ⟨(hB i).1⟩
    have g2 : ∀ i, MB (gi pts i).P.X PB := fun i => ⟨(hB i).2.1⟩
    have g3 : ∀ i, MB (gi pts i).P.Y PB := fun i => ⟨(hB i).2.2⟩
    have h1 := M_rv hB i j n
    have h2 : M (d2 (gi pts ((i : Int) + 1 + n)).P (btw (gi pts (i : Int)) (gi pts (j : Int)) (gi pts ((i : Int) + 1 + n)).T)) ≤ 67108864 := MB.lt rfl
    exact Nat.le_trans (M_max _ _) (by omega)
theorem rv_dv {pts : List R_movingpoint_Sample} {i j : Nat} (h : (gi pts (i : Int)).T < (gi pts (j : Int)).T) : ∀ n, rv pts i j n = dv pts i j n
  | 0 => rfl
  | n + 1 => by rw [rv, dv, rv_dv h n, btw_pos _ _ _ h]
theorem rdev_spec (I : R_api_Interval) (b n c i j : Nat) (pts : List R_movingpoint_Sample) (sp : List Value) (T : TypeId) (hn : pts.length = n) (hB : Bnd pts) (hij : i < j) (hj : j < n) (h63 : n ≤ 1099511627776) (w : World) (hw : ∃ fz, w.heap[b]? = some (.cells (row r_movingpoint_Sample pts sp) T fz)) :
    Calls Tryz.prog 12 [vRun I b n c, .int .i64 i, .int .i64 j].toArray w (Ret (vQ (rv pts i j (j - i - 1))) w) := by
  have := FoC.mk hw
  have g1 : ∀ i, MB (gi pts i).T PB := fun i => ⟨(hB i).1⟩
  have g2 : ∀ i, MB (gi pts i).P.X PB := fun i => ⟨(hB i).2.1⟩
  have g3 : ∀ i, MB (gi pts i).P.Y PB := fun i => ⟨(hB i).2.2⟩
  refine fn_intro Tryz.func12 rfl Tryz.ntmps12 rfl ?_
  repeat (refine wkB ?_; try intro _)
  rename_i b3 b6 b7
  refine j_loop (S := Nat) (fun m => m ≤ j - i - 1) (fun m => [(1, .int .i64 i), (2, .int .i64 j), (3, .pointer (some ⟨b3, 0, none⟩)), (6, .pointer (some ⟨b6, 0, none⟩)), (7, .pointer (some ⟨b7, 0, none⟩)), (8, .int .i64 ((i : Int) + 1 + (m : Nat)))])
    (fun m => [⟨b7, e_api_Rat (Q (rv pts i j m)), 28⟩, ⟨b6, e_api_Rat (Q 0), 28⟩, ⟨b3, e_simplify_Run (q_simplify_Run ⟨I, ⟨some ⟨b, 0, none⟩, n, c⟩⟩), 35⟩]) (fun m => j - i - 1 - m) 0 (Nat.zero_le _)
    (by rw [show ((i : Int) + 1 + ((0 : Nat) : Int)) = (i : Int) + 1 by omega]; repeat (first | exact sub_nil | refine sub_cons rfl ?_)) slB (fun m hm => ?_)
  repeat (refine wkB ?_; try intro _)
  refine j_cond rfl (fun h => ?_) (fun h => ?_)
  · have hlt : m < j - i - 1 := by have := of_decide_eq_true h; omega
    have h1 := M_rv hB i j m
    repeat (refine wkB ?_; try intro _)
    (refine jD 18 18 (h := ?_); (repeat (first | refine wkH ?_ | (refine tC rfl rfl ?_ ?_; focus (first | exact ⟨mb3 rfl rfl rfl, mb3 rfl rfl rfl, MB.lt rfl⟩ | exact mb4 rfl rfl rfl rfl | exact ⟨Nat.le_trans h1 (by decide), MB.lt rfl⟩)))); refine jh_nil ?_; (repeat (refine wn_new ?_; intro _)); refine jn_nil ?_)
    repeat (refine wkB ?_; try intro _)
    exact jx_loop (m + 1) hlt (by rw [show ((i : Int) + 1 + ((m + 1 : Nat) : Int)) = (i : Int) + 1 + m + 1 by omega]; repeat (first | exact sub_nil | refine sub_cons rfl ?_)) slB (by omega)
  · have hge : m = j - i - 1 := by have := of_decide_eq_false h; omega
    subst hge
    repeat (refine wkB ?_; try intro _)
    exact wx_cell rfl rfl (fun w hw => ret_ok hw)
instance sm_rdev (w0 : World) (L : List Blk) (I : R_api_Interval) (b n c : Nat) (i j : Int) (pts : List R_movingpoint_Sample) (sp : List Value) (T : TypeId) [h : AtC w0 L b (row r_movingpoint_Sample pts sp) T] : SpecM Tryz.prog w0 L 12 [vRun I b n c, .int .i64 i, .int .i64 j] (vQ (rv pts i.toNat j.toNat (j.toNat - i.toNat - 1))) ((pts.length = n ∧ n ≤ c ∧ n ≤ 1099511627776 ∧ Bnd pts) ∧ 0 ≤ i ∧ i < j ∧ j < n) := ⟨fun hp w hw => by
  obtain ⟨⟨h1, h2, h3, h4⟩, h5, h6, h7⟩ := hp
  have := rdev_spec I b n c i.toNat j.toNat pts sp T h1 h4 (by omega) (by omega) (by omega) w (h.out w hw)
  rw [show ((i.toNat : Nat) : Int) = i by omega, show ((j.toNat : Nat) : Int) = j by omega] at this
  exact this⟩
abbrev vL (b : Nat) (xs : List Int) (c : Nat) : Value := .slice (some ⟨b, 0, none⟩) xs.length c
theorem same_spec (a b ca cb : Nat) (xs ys : List Int) (spx spy : List Value) (Tx Ty : TypeId) (hx : xs.length ≤ 1099511627776) (w : World) (hwx : ∃ fz, w.heap[a]? = some (.cells (row (eI .i64) xs spx) Tx fz)) (hwy : ∃ fz, w.heap[b]? = some (.cells (row (eI .i64) ys spy) Ty fz)) :
    Calls Tryz.prog 43 [vL a xs ca, vL b ys cb].toArray w (Ret (.bool (decide (xs = ys))) w) := by
  have := FoC.mk hwx
  have := FoC.mk hwy
  refine fn_intro Tryz.func43 rfl Tryz.ntmps43 rfl ?_
  repeat (refine wkB ?_; try intro _)
  refine j_cond rfl (fun h => ?_) (fun h => ?_)
  · have hl : ¬ xs.length = ys.length := by
      have : ¬ (xs.length : Int) = ys.length := by simpa using h
      omega
    repeat (refine wkB ?_; try intro _)
    rw [decide_eq_false (fun h => hl (by rw [h]))]
    exact jx_ret_tmp rfl rfl (fun w hw => ret_ok hw)
  have hl : xs.length = ys.length := by
    have : (xs.length : Int) = ys.length := by simpa using h
    omega
  repeat (refine wkB ?_; try intro _)
  refine j_loop (S := Nat) (fun m => m ≤ xs.length ∧ xs.take m = ys.take m) (fun m => [(0, vL a xs ca), (1, vL b ys cb), (5, .int .i64 (m : Nat))]) (fun _ => []) (fun m => xs.length - m) 0 ⟨Nat.zero_le _, by simp⟩ sbB sbl (fun m hm => ?_)
  obtain ⟨hm, ht⟩ := hm
  repeat (refine wkB ?_; try intro _)
  refine j_cond rfl (fun h => ?_) (fun h => ?_)
  · have hlt : m < xs.length := by have := of_decide_eq_true h; omega
    repeat (refine wkB ?_; try intro _)
    (refine jD 9 9 (h := ?_); (repeat (refine wkH ?_)); refine jh_nil ?_; (repeat (refine wn_new ?_; intro _)); refine jn_nil ?_)
    repeat (refine wkB ?_; try intro _)
    rw [gi_nat hlt, gi_nat (xs := ys) (by omega)]
    refine j_cond rfl (fun h => ?_) (fun h => ?_)
    · have hne : ¬ xs[m] = ys[m] := by simpa using h
      repeat (refine wkB ?_; try intro _)
      rw [decide_eq_false (fun h => hne (by subst h; rfl))]
      exact jx_ret_tmp rfl rfl (fun w hw => ret_ok hw)
    · have heq : xs[m] = ys[m] := by simpa using h
      repeat (refine wkB ?_; try intro _)
      exact jx_loop (m + 1) ⟨hlt, by rw [List.take_succ_eq_append_getElem hlt, List.take_succ_eq_append_getElem (by omega), ht, heq]⟩ sbB sbl (by omega)
  · have hge : m = xs.length := by have := of_decide_eq_false h; omega
    subst hge
    rw [List.take_of_length_le (Nat.le_refl _), List.take_of_length_le (by omega)] at ht
    repeat (refine wkB ?_; try intro _)
    rw [decide_eq_true ht]
    exact jx_ret_tmp rfl rfl (fun w hw => ret_ok hw)
end Go.Vt
/- The best kept breakpoints: the program's table. Conditions: the lengths that each statement names. -/
set_option linter.unusedSimpArgs false
set_option linter.unusedVariables false
set_option maxHeartbeats 2000000
set_option maxRecDepth 100000
namespace Go.Vt
open Go.RowKit Go.Proofs
/-- The samples of a run in memory: how many, how short. -/
def RunOk (pts : List R_movingpoint_Sample) (n c : Nat) : Prop := pts.length = n ∧ n ≤ c ∧ n ≤ 1099511627776 ∧ Bnd pts
/-- Is the straight way from 'i' to 'k' enough? -/
def okd (pts : List R_movingpoint_Sample) (mo : Rat) (i k : Nat) : Bool := decide (dv pts i k (k - i - 1) ≤ mo)
abbrev rS := r_movingpoint_Sample
abbrev cRun (r : R_api_Interval) (b n c : Nat) : Array Value := e_simplify_Run (q_simplify_Run ⟨r, ⟨some ⟨b, 0, none⟩, n, c⟩⟩)
theorem enough1_spec (I : R_api_Interval) (b n c i j b1 b2 : Nat) (mo : Rat) (pts : List R_movingpoint_Sample) (sp : List Value) (T T1 T2 : TypeId) (hr : RunOk pts n c) (hmo : M mo ≤ LQ) (hij : i < j) (hj : j < n) (w : World) (hw : ∃ fz, w.heap[b]? = some (.cells (row rS pts sp) T fz)) (hw1 : ∃ fz, w.heap[b1]? = some (.cells (cRun I b n c) T1 fz)) (hw2 : ∃ fz, w.heap[b2]? = some (.cells (e_api_Rat (Q mo)) T2 fz)) :
    Calls Tryz.prog 130 [.int .i64 i, .int .i64 j, .pointer (some ⟨b1, 0, none⟩), .pointer (some ⟨b2, 0, none⟩)].toArray w (Ret (.bool (okd pts mo i j)) w) := by
  have := FoC.mk hw
  have := FoC.mk hw1
  have := FoC.mk hw2
  have h1 := M_dv hr.2.2.2 i j (j - i - 1)
  refine fn_intro Tryz.func130 rfl Tryz.ntmps130 rfl ?_
  repeat (refine wkB ?_; try intro _)
  (refine jD 7 7 (h := ?_); (repeat (first | refine wkH ?_ | (refine tC rfl rfl ?_ ?_; focus (first | exact ⟨hr, by omega, by omega, by omega⟩ | exact ⟨Nat.le_trans h1 (by decide), hmo⟩)))); refine jh_nil ?_; (repeat (refine wn_new ?_; intro _)); refine jn_nil ?_)
  repeat (refine wkB ?_; try intro _)
  simp only [Int.toNat_natCast]
  rw [show decide (cq (dv pts i j (j - i - 1)) mo ≤ 0) = okd pts mo i j by unfold okd; rw [decide_eq_decide]; exact cq_le]
  exact jx_ret_tmp rfl rfl (fun w hw => ret_ok hw)
instance sm_enough1 (w0 : World) (L : List Blk) (I : R_api_Interval) (b n c b1 b2 : Nat) (i j : Int) (mo : Rat) (pts : List R_movingpoint_Sample) (sp : List Value) (T T1 T2 : TypeId) [h1 : AtC w0 L b1 (cRun I b n c) T1] [h2 : AtC w0 L b2 (e_api_Rat (Q mo)) T2] [h : AtC w0 L b (row rS pts sp) T] : SpecM Tryz.prog w0 L 130 [.int .i64 i, .int .i64 j, .pointer (some ⟨b1, 0, none⟩), .pointer (some ⟨b2, 0, none⟩)] (.bool (okd pts mo i.toNat j.toNat)) (RunOk pts n c ∧ M mo ≤ LQ ∧ 0 ≤ i ∧ i < j ∧ j < n) := ⟨fun hp w hw => by
  obtain ⟨g1, g2, g3, g4, g5⟩ := hp
  have := enough1_spec I b n c i.toNat j.toNat b1 b2 mo pts sp T T1 T2 g1 g2 (by omega) (by omega) w (h.out w hw) (h1.out w hw) (h2.out w hw)
  rw [show ((i.toNat : Nat) : Int) = i by omega, show ((j.toNat : Nat) : Int) = j by omega] at this
  exact this⟩
instance sr_enough (w0 : World) (L : List Blk) (I : R_api_Interval) (b n c : Nat) (d : Rat) : SpecR Tryz.prog w0 L 90 [vRun I b n c, vQ d] (Nat × Nat) (fun s => .func (.func 130) #[] #[.pointer (some ⟨s.1, 0, none⟩), .pointer (some ⟨s.2, 0, none⟩)]) (fun s => [⟨s.2, e_api_Rat (Q (d * d)), 28⟩, ⟨s.1, cRun I b n c, 35⟩]) (M d ≤ LQ) := ⟨fun hp w _ => by
  refine fn_intro Tryz.func90 rfl Tryz.ntmps90 rfl ?_
  repeat (refine wkB ?_; try intro _)
  rename_i b1 b2 b3
  exact jx_ret_tmp rfl rfl (fun w hw => ⟨(b1, b3), rfl, hw.sub sbl⟩)⟩
theorem gi_set {xs : List Int} {i j : Nat} {z : Int} (hi : i < xs.length) : gi (xs.set i z) (j : Int) = if i = j then z else gi xs (j : Int) := by
  unfold gi
  simp only [Int.toNat_natCast, List.getD_eq_getElem?_getD, List.getElem?_set]
  split
  · simp [hi]
  · rfl
/-- One test: from 'i' by 'k'. -/
def stp (ok : Nat → Nat → Bool) (i k : Nat) (s : List Int × List Int) : List Int × List Int := if (gi s.1 (i : Int) = 0 ∨ gi s.2 (k : Int) + 1 ≤ gi s.2 (i : Int)) ∧ ok i k = true then (s.1.set i (k : Int), s.2.set i (gi s.2 (k : Int) + 1)) else s
/-- All tests from 'i', the last one first. -/
def inn (ok : Nat → Nat → Bool) (l i : Nat) : Nat → List Int × List Int → List Int × List Int
  | 0, s => s
  | q + 1, s => stp ok i (l - q) (inn ok l i q s)
/-- The last 'm' places. -/
def ou (ok : Nat → Nat → Bool) (l : Nat) : Nat → List Int × List Int
  | 0 => (List.replicate (l + 1) 0, List.replicate (l + 1) 0)
  | m + 1 => inn ok l (l - 1 - m) (m + 1) (ou ok l m)
structure WF (l : Nat) (s : List Int × List Int) : Prop where
  l1 : s.1.length = l + 1
  l2 : s.2.length = l + 1
  b2 : ∀ j : Nat, j ≤ l → 0 ≤ gi s.2 (j : Int) ∧ gi s.2 (j : Int) ≤ (l : Int) - j
  b1 : ∀ j : Nat, j ≤ l → gi s.1 (j : Int) = 0 ∨ ((j : Int) < gi s.1 (j : Int) ∧ gi s.1 (j : Int) ≤ l)
variable {ok : Nat → Nat → Bool} {l i k : Nat} {s : List Int × List Int}
theorem WF.stp (h : WF l s) (hik : i < k) (hk : k ≤ l) : WF l (Go.Vt.stp ok i k s) := by
  unfold Go.Vt.stp
  split
  · have hk2 := h.b2 k hk
    refine ⟨by simpa using h.l1, by simpa using h.l2, fun j hj => ?_, fun j hj => ?_⟩
    · rw [gi_set (by rw [h.l2]; omega)]
      split
      · omega
      · exact h.b2 j hj
    · rw [gi_set (by rw [h.l1]; omega)]
      split
      · omega
      · exact h.b1 j hj
  · exact h
theorem WF.inn (h : WF l s) (hi : i < l) : ∀ q, q ≤ l - i → WF l (Go.Vt.inn ok l i q s)
  | 0, _ => h
  | q + 1, hq => (WF.inn h hi q (by omega)).stp (by omega) (by omega)
theorem gi_rep (m j : Nat) : gi (List.replicate m (0 : Int)) (j : Int) = 0 := by
  unfold gi
  simp only [Int.toNat_natCast, List.getD_eq_getElem?_getD, List.getElem?_replicate]
  split <;> rfl
theorem WF.ou : ∀ m, m ≤ l → WF l (Go.Vt.ou ok l m)
  | 0, _ => ⟨by simp [Go.Vt.ou], by simp [Go.Vt.ou], fun j hj => by simp only [Go.Vt.ou, gi_rep]; omega, fun j hj => by simp only [Go.Vt.ou, gi_rep]; exact .inl trivial⟩
  | m + 1, hm => (WF.ou m (by omega)).inn (by omega) _ (by omega)
/-- Elsewhere nothing turns. -/
theorem stp_other {j : Nat} (h : WF l s) (hi : i ≤ l) (hij : i ≠ j) : gi (stp ok i k s).1 (j : Int) = gi s.1 (j : Int) ∧ gi (stp ok i k s).2 (j : Int) = gi s.2 (j : Int) := by
  unfold stp
  split
  · simp only [gi_set (show i < s.1.length by rw [h.l1]; omega), gi_set (show i < s.2.length by rw [h.l2]; omega), if_neg hij]
    exact ⟨trivial, trivial⟩
  · exact ⟨rfl, rfl⟩
theorem inn_other {j : Nat} (h : WF l s) (hi : i < l) (hij : i ≠ j) : ∀ q, q ≤ l - i → gi (inn ok l i q s).1 (j : Int) = gi s.1 (j : Int) ∧ gi (inn ok l i q s).2 (j : Int) = gi s.2 (j : Int)
  | 0, _ => ⟨rfl, rfl⟩
  | q + 1, hq => by
    have h1 := inn_other h hi hij q (by omega)
    have h2 := stp_other (ok := ok) (k := l - q) (h.inn (ok := ok) hi q (by omega)) (by omega) hij
    exact ⟨h2.1.trans h1.1, h2.2.trans h1.2⟩
theorem stp_set (h : WF l s) (hi : i ≤ l) (hk : k ≠ 0) (hok : ok i k = true) : gi (stp ok i k s).1 (i : Int) ≠ 0 := by
  unfold stp
  split
  · rw [gi_set (by rw [h.l1]; omega), if_pos rfl]
    omega
  · rename_i hn
    intro h0
    exact hn ⟨.inl h0, hok⟩
theorem ou_next (hok : ∀ i, i < l → ok i (i + 1) = true) : ∀ m, m ≤ l → ∀ j : Nat, j < l → l - m ≤ j → (j : Int) < gi (ou ok l m).1 (j : Int) ∧ gi (ou ok l m).1 (j : Int) ≤ l
  | 0, _, j, h1, h2 => by omega
  | m + 1, hm, j, h1, h2 => by
    have hw := WF.ou (ok := ok) m (show m ≤ l by omega)
    have hi : l - 1 - m < l := by omega
    by_cases hj : l - 1 - m = j
    · have hb := (WF.ou (ok := ok) (m + 1) hm).b1 j (by omega)
      have hne : gi (ou ok l (m + 1)).1 (j : Int) ≠ 0 := by
        rw [← hj, ou, inn]
        refine stp_set (hw.inn hi m (by omega)) (by omega) (by omega) ?_
        have := hok (l - 1 - m) hi
        rwa [show l - m = l - 1 - m + 1 by omega]
      exact hb.resolve_left hne
    · have h3 := ou_next hok m (by omega) j h1 (by omega)
      have h4 := inn_other (ok := ok) hw hi hj (m + 1) (by omega)
      rw [ou, h4.1]
      exact h3
/-- The way along the table. -/
def chn (nx : List Int) (l : Nat) : Nat → Int → List Int
  | 0, _ => []
  | f + 1, i => if i < l then gi nx i :: chn nx l f (gi nx i) else []
def keptL (ok : Nat → Nat → Bool) (l : Nat) : List Int := 0 :: chn (ou ok l l).1 l l 0
theorem okd_next {pts : List R_movingpoint_Sample} {d : Rat} (i : Nat) : okd pts (d * d) i (i + 1) = true := by
  unfold okd
  rw [show i + 1 - i - 1 = 0 by omega]
  refine decide_eq_true ?_
  have : 0 ≤ d * d := by
    rcases Rat.le_total (a := 0) (b := d) with h | h
    · exact Rat.mul_nonneg h h
    · have h2 : 0 ≤ -d := by grind
      have := Rat.mul_nonneg h2 h2
      grind
  exact this
theorem sign_nonneg {q : Rat} (h : 0 ≤ q) : ¬ q.num.sign < 0 := by
  intro h1
  have h2 := Int.sign_neg_iff.1 h1
  have h3 := Rat.num_nonneg.2 h
  omega
theorem kept_spec (I : R_api_Interval) (b l c : Nat) (d : Rat) (pts : List R_movingpoint_Sample) (sp : List Value) (T : TypeId) (hr : RunOk pts (l + 1) c) (hl : l ≤ 1048576) (hd : M d ≤ 1073741824) (hd0 : 0 ≤ d) (w : World) (hw : ∃ fz, w.heap[b]? = some (.cells (row rS pts sp) T fz)) :
    Calls Tryz.prog 39 [vRun I b (l + 1) c, vQ d].toArray w (RetM { s : Nat × Nat × List Value // (keptL (okd pts (d * d)) l).length ≤ s.2.1 } (fun s => .tuple #[vL s.1.1 (keptL (okd pts (d * d)) l) s.1.2.1, .int .i64 0]) (fun s => [⟨s.1.1, row (eI .i64) (keptL (okd pts (d * d)) l) s.1.2.2, 3⟩]) w) := by
  have := FoC.mk hw
  have hdd : M (d * d) ≤ LQ := Nat.le_trans (M_mul d d) (by have : LQ = 274877906944 := rfl; omega)
  have hd' : M d ≤ LQ := Nat.le_trans hd (by decide)
  refine fn_intro Tryz.func39 rfl Tryz.ntmps39 rfl ?_
  repeat (refine wkB ?_; try intro _)
  refine j_else (by rw [decide_eq_false (sign_nonneg hd0)]; rfl) ?_
  repeat (refine wkB ?_; try intro _)
  rename_i b2 b3 q
  obtain ⟨b1, bm⟩ := q
  have e1 : ((l + 1 : Nat) : Int) - 1 = (l : Int) := by omega
  have e2 : (l : Int) + 1 = ((l + 1 : Nat) : Int) := by omega
  simp only [e1, e2]
  refine sM rfl rfl ⟨by omega, by omega⟩ ?_
  intro bn
  repeat (refine wkB ?_; try intro _)
  simp only [e2]
  refine sM rfl rfl ⟨by omega, by omega⟩ ?_
  intro bl
  repeat (refine wkB ?_; try intro _)
  generalize hok : okd pts (d * d) = ok at *
  refine j_loop (S := Nat) (fun m => m ≤ l) (fun m => [(5, .int .i64 0), (6, .func (.func 130) #[] #[.pointer (some ⟨b1, 0, none⟩), .pointer (some ⟨bm, 0, none⟩)]), (7, .int .i64 (l : Nat)), (8, .slice (some ⟨bn, 0, none⟩) (l + 1) (l + 1)), (9, .slice (some ⟨bl, 0, none⟩) (l + 1) (l + 1)), (10, .int .i64 ((l : Int) - 1 - (m : Nat)))])
    (fun m => [⟨bl, row (eI .i64) (ou ok l m).2 [], 3⟩, ⟨bn, row (eI .i64) (ou ok l m).1 [], 3⟩, ⟨bm, e_api_Rat (Q (d * d)), 28⟩, ⟨b1, cRun I b (l + 1) c, 35⟩]) (fun m => l - m) 0 (Nat.zero_le _)
    sbB slB (fun m hm => ?_)
  have hwf := WF.ou (ok := ok) (l := l) m hm
  repeat (refine wkB ?_; try intro _)
  refine j_cond rfl (fun h => ?_) (fun h => ?_)
  · have hlt : m < l := by have := of_decide_eq_true h; omega
    obtain ⟨i, hi⟩ : ∃ i, i = l - 1 - m := ⟨_, rfl⟩
    have hil : i < l := by omega
    have ei : (l : Int) - 1 - (m : Int) = (i : Int) := by omega
    simp only [ei]
    repeat (refine wkB ?_; try intro _)
    refine j_loop (S := Nat) (fun q => q ≤ l - i) (fun q => [(5, .int .i64 0), (6, .func (.func 130) #[] #[.pointer (some ⟨b1, 0, none⟩), .pointer (some ⟨bm, 0, none⟩)]), (7, .int .i64 (l : Nat)), (8, .slice (some ⟨bn, 0, none⟩) (l + 1) (l + 1)), (9, .slice (some ⟨bl, 0, none⟩) (l + 1) (l + 1)), (10, .int .i64 (i : Nat)), (11, .int .i64 ((l : Int) - (q : Nat)))])
      (fun q => [⟨bl, row (eI .i64) (inn ok l i q (ou ok l m)).2 [], 3⟩, ⟨bn, row (eI .i64) (inn ok l i q (ou ok l m)).1 [], 3⟩, ⟨bm, e_api_Rat (Q (d * d)), 28⟩, ⟨b1, cRun I b (l + 1) c, 35⟩]) (fun q => l - i - q) 0 (Nat.zero_le _)
      sbB slB (fun q hq => ?_)
    have hwq := hwf.inn (ok := ok) hil q hq
    obtain ⟨s, hs⟩ : ∃ s, s = inn ok l i q (ou ok l m) := ⟨_, rfl⟩
    have hsn : inn ok l i (q + 1) (ou ok l m) = stp ok i (l - q) s := by rw [inn, ← hs]
    simp only [← hs] at hwq ⊢
    repeat (refine wkB ?_; try intro _)
    refine j_cond rfl (fun h => ?_) (fun h => ?_)
    · obtain ⟨k, hk⟩ : ∃ k, k = l - q := ⟨_, rfl⟩
      have hik : i < k := by have := of_decide_eq_true h; omega
      have hkl : k ≤ l := by omega
      have ek : (l : Int) - (q : Int) = (k : Int) := by omega
      rw [← hk] at hsn
      obtain ⟨w1, w2, w3, w4⟩ := hwq
      have b2i := w3 i (by omega)
      have b2k := w3 k hkl
      simp only [ek]
      repeat (refine wkB ?_; try intro _)
      have hcall : RunOk pts (l + 1) c ∧ M (d * d) ≤ LQ ∧ (0 : Int) ≤ (i : Int) ∧ (i : Int) < (k : Int) ∧ (k : Int) < ((l + 1 : Nat) : Int) := ⟨hr, hdd, by omega, by omega, by omega⟩
      have yes : ok i k = true → (gi s.1 (i : Int) = 0 ∨ gi s.2 (k : Int) + 1 ≤ gi s.2 (i : Int)) → stp ok i k s = (s.1.set i (k : Int), s.2.set i (gi s.2 (k : Int) + 1)) := fun h1 h2 => by unfold stp; rw [if_pos ⟨h2, h1⟩]
      have no : ¬ ((gi s.1 (i : Int) = 0 ∨ gi s.2 (k : Int) + 1 ≤ gi s.2 (i : Int)) ∧ ok i k = true) → stp ok i k s = s := fun h1 => by unfold stp; rw [if_neg h1]
      refine j_cut (S := Bool) (fun v => v = decide ((gi s.1 (i : Int) = 0 ∨ gi s.2 (k : Int) + 1 ≤ gi s.2 (i : Int)) ∧ ok i k = true)) (fun v => [(64, .bool v), (5, .int .i64 0), (6, .func (.func 130) #[] #[.pointer (some ⟨b1, 0, none⟩), .pointer (some ⟨bm, 0, none⟩)]), (7, .int .i64 (l : Nat)), (8, .slice (some ⟨bn, 0, none⟩) (l + 1) (l + 1)), (9, .slice (some ⟨bl, 0, none⟩) (l + 1) (l + 1)), (10, .int .i64 (i : Nat)), (11, .int .i64 (k : Nat))])
        (fun _ => [⟨bl, row (eI .i64) s.2 [], 3⟩, ⟨bn, row (eI .i64) s.1 [], 3⟩, ⟨bm, e_api_Rat (Q (d * d)), 28⟩, ⟨b1, cRun I b (l + 1) c, 35⟩]) ?_ (fun v hv => ?_)
      · by_cases h0 : gi s.1 (i : Int) = 0
        · refine jD 23 23 (h := ?_)
          (repeat (refine wkH ?_))
          simp only [decide_eq_true h0]
          (repeat (first | refine wkH ?_ | (refine tC rfl rfl ?_ ?_; focus (exact hcall))))
          refine jh_nil ?_
          refine jn_nil ?_
          repeat (refine wkB ?_; try intro _)
          simp only [Int.toNat_natCast, hok]
          exact jx_mid (ok i k) (by simp [h0]) sbB sbl
        · by_cases h1 : gi s.2 (k : Int) + 1 ≤ gi s.2 (i : Int)
          · refine jD 23 23 (h := ?_)
            (repeat (refine wkH ?_))
            simp only [decide_eq_false h0]
            (repeat (refine wkH ?_))
            simp only [decide_eq_true h1]
            (repeat (first | refine wkH ?_ | (refine tC rfl rfl ?_ ?_; focus (exact hcall))))
            refine jh_nil ?_
            refine jn_nil ?_
            repeat (refine wkB ?_; try intro _)
            simp only [Int.toNat_natCast, hok]
            exact jx_mid (ok i k) (by simp [h1]) sbB sbl
          · refine jD 23 23 (h := ?_)
            (repeat (refine wkH ?_))
            simp only [decide_eq_false h0]
            (repeat (refine wkH ?_))
            simp only [decide_eq_false h1]
            (repeat (first | refine wkH ?_ | (refine tC rfl rfl ?_ ?_; focus (exact hcall))))
            refine jh_nil ?_
            refine jn_nil ?_
            repeat (refine wkB ?_; try intro _)
            exact jx_mid false (by simp [h0, h1]) sbB sbl
      · have hst : stp ok i k s = if v = true then (s.1.set i (k : Int), s.2.set i (gi s.2 (k : Int) + 1)) else s := by
          rw [hv]
          by_cases hc : (gi s.1 (i : Int) = 0 ∨ gi s.2 (k : Int) + 1 ≤ gi s.2 (i : Int)) ∧ ok i k = true
          · rw [yes hc.2 hc.1, decide_eq_true hc, if_pos rfl]
          · rw [no hc, decide_eq_false hc, if_neg (by simp)]
        refine j_cond rfl (fun h => ?_) (fun h => ?_)
        · rw [h, if_pos rfl] at hst
          repeat (refine wkB ?_; try intro _)
          exact jx_loop (q + 1) (by omega) sbB (by simp only [Int.toNat_natCast]; rw [hsn, hst]; exact sbl) (by omega)
        · rw [h, if_neg (by simp)] at hst
          repeat (refine wkB ?_; try intro _)
          exact jx_loop (q + 1) (by omega) sbB (by rw [hsn, hst]; exact sbl) (by omega)
    · have hqe : q = m + 1 := by have := of_decide_eq_false h; omega
      rw [hqe, hi, ← ou] at hs
      subst hs
      repeat (refine wkB ?_; try intro _)
      exact jx_loop (m + 1) hlt sbB sbl (by omega)
  · have hme : m = l := by have := of_decide_eq_false h; omega
    rw [hme] at hwf
    obtain ⟨w1, w2, w3, w4⟩ := hwf
    have hnx := ou_next (ok := ok) (l := l) (fun i _ => by rw [← hok]; exact okd_next i) l (Nat.le_refl _)
    obtain ⟨nx, hnxe⟩ : ∃ nx, nx = (ou ok l l).1 := ⟨_, rfl⟩
    have hkl : keptL ok l = 0 :: chn nx l l 0 := by rw [hnxe]; rfl
    rw [hme]
    simp only [← hnxe] at w1 hnx ⊢
    repeat (refine wkB ?_; try intro _)
    rename_i bo
    refine j_loop (S := Nat × List Int × Nat × Nat × List Value) (fun s => s.1 ≤ l ∧ (∃ f, l - s.1 ≤ f ∧ s.2.1 ++ chn nx l f (s.1 : Int) = keptL ok l) ∧ s.2.1.length ≤ s.1 + 1 ∧ s.2.1.length ≤ s.2.2.2.1 ∧ s.2.2.2.2.length = (s.2.2.2.1 - s.2.1.length) * 1)
      (fun s => [(5, .int .i64 0), (7, .int .i64 (l : Nat)), (8, .slice (some ⟨bn, 0, none⟩) (l + 1) (l + 1)), (12, vL s.2.2.1 s.2.1 s.2.2.2.1), (13, .int .i64 (s.1 : Nat))]) (fun s => [⟨s.2.2.1, row (eI .i64) s.2.1 s.2.2.2.2, 3⟩, ⟨bn, row (eI .i64) nx [], 3⟩]) (fun s => l - s.1) (0, [0], bo, 1, [])
      ⟨Nat.zero_le _, ⟨l, Nat.le_refl _, hkl.symm⟩, Nat.le_refl _, Nat.le_refl _, rfl⟩ sbB slB (fun s hs => ?_)
    obtain ⟨i, acc, bo, co, so⟩ := s
    obtain ⟨hil, ⟨f, hf, hch⟩, ha1, ha2, ha3⟩ := hs
    simp only at hil hf hch ha1 ha2 ha3 ⊢
    repeat (refine wkB ?_; try intro _)
    refine j_cond rfl (fun h => ?_) (fun h => ?_)
    · have hlt : i < l := by have := of_decide_eq_true h; omega
      obtain ⟨g1, g2⟩ := hnx i hlt (by omega)
      obtain ⟨z, hz⟩ : ∃ z : Nat, gi nx (i : Int) = (z : Int) := ⟨(gi nx (i : Int)).toNat, by omega⟩
      repeat (refine wkB ?_; try intro _)
      simp only [hz]
      repeat (refine wkB ?_; try intro _)
      rename_i bz
      refine sP rfl rfl ?_ ⟨ha2, ha3⟩ rfl ?_ ?_
      · rfl
      · exact ⟨by omega, by omega⟩
      intro b' c' sp' h1 h2
      rw [show acc.length + 1 = (acc ++ [(z : Int)]).length by simp] at h1 h2 ⊢
      repeat (refine wkB ?_; try intro _)
      refine jx_loop (z, acc ++ [(z : Int)], b', c', sp') ⟨by simp only; omega, ?_, by simp only [List.length_append, List.length_singleton]; omega, h1, h2⟩ sbB slB (by simp only; omega)
      obtain ⟨f', rfl⟩ : ∃ f', f = f' + 1 := ⟨f - 1, by omega⟩
      refine ⟨f', by simp only; omega, ?_⟩
      rw [chn, if_pos (by omega), hz] at hch
      simp only
      rw [← hch, List.append_assoc]
      rfl
    · have hge : i = l := by have := of_decide_eq_false h; omega
      subst hge
      have hnil : chn nx i f (i : Int) = [] := by
        cases f with
        | zero => rfl
        | succ f => rw [chn, if_neg (by omega)]
      rw [hnil, List.append_nil] at hch
      subst hch
      repeat (refine wkB ?_; try intro _)
      exact jx_ret_two rfl (resv_tmp rfl) (resv_tmp rfl) (fun w hw => ⟨⟨(bo, co, so), ha2⟩, rfl, hw.sub sbl⟩)
abbrev SL3 (xs : List Int) := { s : Nat × Nat × List Value // xs.length ≤ s.2.1 }
instance sr_Kept (w0 : World) (L : List Blk) (I : R_api_Interval) (b n c : Nat) (d : Rat) (pts : List R_movingpoint_Sample) (sp : List Value) (T : TypeId) [h : AtC w0 L b (row rS pts sp) T] : SpecR Tryz.prog w0 L 39 [vRun I b n c, vQ d] (SL3 (keptL (okd pts (d * d)) (n - 1))) (fun s => .tuple #[vL s.1.1 (keptL (okd pts (d * d)) (n - 1)) s.1.2.1, .int .i64 0]) (fun s => [⟨s.1.1, row (eI .i64) (keptL (okd pts (d * d)) (n - 1)) s.1.2.2, 3⟩]) (RunOk pts n c ∧ (1 ≤ n ∧ n ≤ 1048576) ∧ M d ≤ 1073741824 ∧ 0 ≤ d) := ⟨fun hp w hw => by
  obtain ⟨g1, ⟨g2, g3⟩, g4, g5⟩ := hp
  obtain ⟨l, rfl⟩ : ∃ l, n = l + 1 := ⟨n - 1, by omega⟩
  exact kept_spec I b l c d pts sp T g1 (by omega) g4 g5 w (h.out w hw)⟩
end Go.Vt
/- The best kept breakpoints: the reference's search among all lists. Conditions: the lengths that each statement names. -/
set_option linter.unusedSimpArgs false
set_option linter.unusedVariables false
set_option maxHeartbeats 2000000
set_option maxRecDepth 100000
namespace Go.Vt
open Go.RowKit Go.Proofs
/-- Is the straight way enough, by the reference's deviation? -/
def okr (pts : List R_movingpoint_Sample) (mo : Rat) (i k : Nat) : Bool := decide (rv pts i k (k - i - 1) ≤ mo)
def lx : List Int → List Int → Bool
  | x :: xs, y :: ys => if x = y then lx xs ys else decide (x < y)
  | _, _ => false
def btr (xs ys : List Int) : Bool := if xs.length = ys.length then lx xs ys else decide (xs.length < ys.length)
theorem lx_nil (ys : List Int) : lx [] ys = false := by cases ys <;> rfl
theorem better_spec (a b ca cb : Nat) (xs ys : List Int) (spx spy : List Value) (Tx Ty : TypeId) (hx : xs.length ≤ 1099511627776) (w : World) (hwx : ∃ fz, w.heap[a]? = some (.cells (row (eI .i64) xs spx) Tx fz)) (hwy : ∃ fz, w.heap[b]? = some (.cells (row (eI .i64) ys spy) Ty fz)) :
    Calls Tryz.prog 162 [vL a xs ca, vL b ys cb].toArray w (Ret (.bool (btr xs ys)) w) := by
  have := FoC.mk hwx
  have := FoC.mk hwy
  refine fn_intro Tryz.func162 rfl Tryz.ntmps162 rfl ?_
  repeat (refine wkB ?_; try intro _)
  refine j_cond rfl (fun h => ?_) (fun h => ?_)
  · have hl : ¬ xs.length = ys.length := by
      have : ¬ (xs.length : Int) = ys.length := by simpa using h
      omega
    repeat (refine wkB ?_; try intro _)
    rw [show decide ((xs.length : Int) < (ys.length : Int)) = btr xs ys by unfold btr; rw [if_neg hl, decide_eq_decide]; omega]
    exact jx_ret_tmp rfl rfl (fun w hw => ret_ok hw)
  have hl : xs.length = ys.length := by
    have : (xs.length : Int) = ys.length := by simpa using h
    omega
  have hb : btr xs ys = lx xs ys := by unfold btr; rw [if_pos hl]
  rw [hb]
  repeat (refine wkB ?_; try intro _)
  refine j_loop (S := Nat) (fun m => m ≤ xs.length ∧ lx xs ys = lx (xs.drop m) (ys.drop m)) (fun m => [(0, vL a xs ca), (1, vL b ys cb), (5, .int .i64 (m : Nat))]) (fun _ => []) (fun m => xs.length - m) 0 ⟨Nat.zero_le _, rfl⟩ sbB sbl (fun m hm => ?_)
  obtain ⟨hm, ht⟩ := hm
  repeat (refine wkB ?_; try intro _)
  refine j_cond rfl (fun h => ?_) (fun h => ?_)
  · have hlt : m < xs.length := by have := of_decide_eq_true h; omega
    rw [List.drop_eq_getElem_cons hlt, List.drop_eq_getElem_cons (show m < ys.length by omega), lx] at ht
    repeat (refine wkB ?_; try intro _)
    (refine jD 9 9 (h := ?_); (repeat (refine wkH ?_)); refine jh_nil ?_; (repeat (refine wn_new ?_; intro _)); refine jn_nil ?_)
    repeat (refine wkB ?_; try intro _)
    rw [gi_nat hlt, gi_nat (xs := ys) (by omega)]
    refine j_cond rfl (fun h => ?_) (fun h => ?_)
    · have hne : ¬ xs[m] = ys[m] := by simpa using h
      rw [if_neg hne] at ht
      repeat (refine wkB ?_; try intro _)
      (refine j_late [0, 1, 2, 3, 4, 5, 6, 7, 8] [9] ([]) (h := ?_); refine wkI ?_; (repeat (refine wkH ?_)); refine jh_nil ?_; (repeat (first | (refine eA rfl rfl ?_; intro _) | refine eT rfl ?_ | refine eS rfl rfl ?_ | refine eF rfl ?_ | refine eX rfl rfl ?_ | (refine eB rfl rfl ?_; intro _) | (refine eN rfl rfl ?_ ?_; (focus (first | exact trivial | assumption | constructor <;> assumption | exact mb2 rfl rfl | exact mb4 rfl rfl rfl rfl)); intro _; (try simp only [List.cons_append, List.nil_append, List.append_nil])))); refine je_nil ?_)
      repeat (refine wkB ?_; try intro _)
      rw [gi_nat hlt, gi_nat (xs := ys) (by omega), ← ht]
      exact jx_ret_tmp rfl rfl (fun w hw => ret_ok hw)
    · have heq : xs[m] = ys[m] := by simpa using h
      rw [if_pos heq] at ht
      repeat (refine wkB ?_; try intro _)
      exact jx_loop (m + 1) ⟨hlt, ht⟩ sbB sbl (by omega)
  · have hge : m = xs.length := by have := of_decide_eq_false h; omega
    subst hge
    have hf : lx xs ys = false := by rw [ht, List.drop_length]; exact lx_nil _
    rw [hf]
    repeat (refine wkB ?_; try intro _)
    exact jx_ret_tmp rfl rfl (fun w hw => ret_ok hw)
instance sm_better (w0 : World) (L : List Blk) (a b ca cb : Nat) (xs ys : List Int) (spx spy : List Value) (Tx Ty : TypeId) [h1 : AtC w0 L a (row (eI .i64) xs spx) Tx] [h2 : AtC w0 L b (row (eI .i64) ys spy) Ty] : SpecM Tryz.prog w0 L 162 [vL a xs ca, vL b ys cb] (.bool (btr xs ys)) (xs.length ≤ 1099511627776) := ⟨fun hp w hw => better_spec a b ca cb xs ys spx spy Tx Ty hp w (h1.out w hw) (h2.out w hw)⟩
/-- The first 'q' breakpoints behind 'i' are tried. -/
def bf (g : Nat → List Int) (ok : Nat → Bool) (i : Nat) : Nat → List Int
  | 0 => []
  | q + 1 => if ok (i + 1 + q) = true ∧ (bf g ok i q = [] ∨ btr (g (i + 1 + q)) (bf g ok i q) = true) then g (i + 1 + q) else bf g ok i q
/-- The last one of a list. -/
def lst (bg : List Int) : Nat := (gi bg ((bg.length : Int) - 1)).toNat
/-- The best list that begins with 'bg'. -/
def bst (ok : Nat → Nat → Bool) (l : Nat) : Nat → List Int → List Int
  | 0, bg => bg
  | f + 1, bg => if lst bg = l then bg else bf (fun k : Nat => bst ok l f (bg ++ [(k : Int)])) (ok (lst bg)) (lst bg) (l - lst bg)
theorem lst_snoc (bg : List Int) (k : Nat) : lst (bg ++ [(k : Int)]) = k := by
  unfold lst gi
  have e : ((((bg ++ [(k : Int)]).length : Nat) : Int) - 1).toNat = bg.length := by rw [List.length_append, List.length_singleton]; omega
  rw [e, List.getD_eq_getElem?_getD, List.getElem?_append_right (Nat.le_refl _), Nat.sub_self]
  rfl
theorem bf_ne {g : Nat → List Int} {ok : Nat → Bool} {i : Nat} (h0 : ok (i + 1) = true) : ∀ q, (∀ k, i < k → k ≤ i + q → g k ≠ []) → 1 ≤ q → bf g ok i q ≠ []
  | 0, _, h => by omega
  | q + 1, hg, _ => by
    rw [bf]
    split
    · exact hg _ (by omega) (by omega)
    · rename_i hn
      rcases Nat.eq_zero_or_pos q with h | h
      · subst h
        exact absurd ⟨h0, .inl rfl⟩ hn
      · exact bf_ne h0 q (fun k h1 h2 => hg k h1 (by omega)) h
theorem bst_ne {ok : Nat → Nat → Bool} {l : Nat} (h0 : ∀ i, i < l → ok i (i + 1) = true) : ∀ (f : Nat) (bg : List Int), bg ≠ [] → lst bg ≤ l → bst ok l f bg ≠ []
  | 0, bg, h, _ => h
  | f + 1, bg, h, hl => by
    rw [bst]
    split
    · exact h
    · rename_i hn
      exact bf_ne (h0 _ (by omega)) _ (fun k _ h2 => bst_ne h0 f _ (by simp) (by rw [lst_snoc]; omega)) (by omega)
theorem bf_len {g : Nat → List Int} {ok : Nat → Bool} {i m : Nat} : ∀ q, (∀ k, i < k → k ≤ i + q → (g k).length ≤ m) → (bf g ok i q).length ≤ m
  | 0, _ => Nat.zero_le _
  | q + 1, hg => by
    rw [bf]
    split
    · exact hg _ (by omega) (by omega)
    · exact bf_len q (fun k h1 h2 => hg k h1 (by omega))
theorem bst_len {ok : Nat → Nat → Bool} {l : Nat} : ∀ (f : Nat) (bg : List Int), bg.length ≤ lst bg + 1 → lst bg ≤ l → (bst ok l f bg).length ≤ l + 1
  | 0, bg, h, hl => by rw [bst]; omega
  | f + 1, bg, h, hl => by
    rw [bst]
    split
    · omega
    · exact bf_len _ (fun k h1 h2 => bst_len f _ (by rw [lst_snoc]; simp; omega) (by rw [lst_snoc]; omega))
theorem okr_next {pts : List R_movingpoint_Sample} {mo : Rat} (h : 0 ≤ mo) (i : Nat) : okr pts mo i (i + 1) = true := by
  unfold okr
  rw [show i + 1 - i - 1 = 0 by omega]
  exact decide_eq_true h
/-- What the search returns: the list that it was given, or a new one. -/
abbrev SBst (bg r : List Int) := { o : Option (Nat × Nat × List Value) // o = none → r = bg }
def vBst (bb : Nat) (bg : List Int) (cb : Nat) (r : List Int) : Option (Nat × Nat × List Value) → Value
  | none => vL bb bg cb
  | some s => vL s.1 r s.2.1
def mBst (T : TypeId) (r : List Int) : Option (Nat × Nat × List Value) → List Blk
  | none => []
  | some s => [⟨s.1, row (eI .i64) r s.2.2, T⟩]
/-- The list found so far, none yet or in memory. -/
def vOut (r : List Int) : Option (Nat × Nat × List Value) → Value
  | none => .slice none 0 0
  | some s => vL s.1 r s.2.1
theorem best_spec (I : R_api_Interval) (b l c : Nat) (mo : Rat) (pts : List R_movingpoint_Sample) (sp : List Value) (T : TypeId) (hr : RunOk pts (l + 1) c) (hl : l ≤ 1048576) (hmo : M mo ≤ LQ) (h0 : 0 ≤ mo) : ∀ (f : Nat) (bg : List Int) (bb cb : Nat) (spb : List Value) (Tb : TypeId), l - lst bg ≤ f → 1 ≤ bg.length → bg.length ≤ cb → (lst bg ≤ l ∧ bg.length ≤ lst bg + 1 ∧ 0 ≤ gi bg ((bg.length : Int) - 1)) → ∀ w : World, (∃ fz, w.heap[b]? = some (.cells (row rS pts sp) T fz)) → (∃ fz, w.heap[bb]? = some (.cells (row (eI .i64) bg spb) Tb fz)) →
    Calls Tryz.prog 127 [vRun I b (l + 1) c, vL bb bg cb, vQ mo].toArray w (RetM (SBst bg (bst (okr pts mo) l f bg)) (fun s => vBst bb bg cb (bst (okr pts mo) l f bg) s.1) (fun s => mBst 3 (bst (okr pts mo) l f bg) s.1) w) := by
  intro f
  induction f with
  | zero =>
    intro bg bb cb spb Tb hf hb1 hcb hbg w hw hwb
    obtain ⟨hg1, hg2, hg3⟩ := hbg
    have := FoC.mk hw
    have := FoC.mk hwb
    have hlast : gi bg ((bg.length : Int) - 1) = (l : Int) := by unfold lst at hf hg1; omega
    refine fn_intro Tryz.func127 rfl Tryz.ntmps127 rfl ?_
    repeat (refine wkB ?_; try intro _)
    refine j_if (by rw [hlast, decide_eq_true (by omega)]; rfl) ?_
    repeat (refine wkB ?_; try intro _)
    exact jx_ret_tmp rfl rfl (fun w hw => ⟨⟨none, fun _ => rfl⟩, rfl, hw.sub (List.nil_sublist _)⟩)
  | succ f ih =>
    intro bg bb cb spb Tb hf hb1 hcb hbg w hw hwb
    obtain ⟨hg1, hg2, hg3⟩ := hbg
    have := FoC.mk hw
    have := FoC.mk hwb
    refine fn_intro Tryz.func127 rfl Tryz.ntmps127 rfl ?_
    repeat (refine wkB ?_; try intro _)
    by_cases hlast : lst bg = l
    · have hli : gi bg ((bg.length : Int) - 1) = (l : Int) := by unfold lst at hlast; omega
      refine j_if (by rw [hli, decide_eq_true (by omega)]; rfl) ?_
      have hbst : bst (okr pts mo) l (f + 1) bg = bg := by rw [bst, if_pos hlast]
      rw [hbst]
      repeat (refine wkB ?_; try intro _)
      exact jx_ret_tmp rfl rfl (fun w hw => ⟨⟨none, fun _ => rfl⟩, rfl, hw.sub (List.nil_sublist _)⟩)
    have hli : gi bg ((bg.length : Int) - 1) = (lst bg : Int) := by unfold lst; omega
    obtain ⟨i, hi⟩ : ∃ i, i = lst bg := ⟨_, rfl⟩
    rw [← hi] at hli hg1 hg2 hlast hf
    refine j_else (by rw [hli, decide_eq_false (by omega)]; rfl) ?_
    have hbst : bst (okr pts mo) l (f + 1) bg = bf (fun k : Nat => bst (okr pts mo) l f (bg ++ [(k : Int)])) (okr pts mo i) i (l - i) := by rw [bst, if_neg (by rw [← hi]; exact hlast), ← hi]
    rw [hbst]
    obtain ⟨g, hgd⟩ : ∃ g : Nat → List Int, g = fun k : Nat => bst (okr pts mo) l f (bg ++ [(k : Int)]) := ⟨_, rfl⟩
    rw [← hgd]
    rw [hli]
    repeat (refine wkB ?_; try intro _)
    rename_i b3 b5
    have hlen : ∀ k q, i < k → k ≤ l → btr (g k) q = btr (g k) q := fun _ _ _ _ => rfl
    have hgne : ∀ k, i < k → k ≤ l → g k ≠ [] := fun k h1 h2 => by rw [hgd]; exact bst_ne (fun i _ => okr_next h0 i) f _ (by simp) (by rw [lst_snoc]; exact h2)
    obtain ⟨o, ho⟩ : ∃ o : Nat → List Int, o = bf g (okr pts mo i) i := ⟨_, rfl⟩
    have hone : ∀ q, i + q ≤ l → 1 ≤ q → o q ≠ [] := fun q h1 h2 => by rw [ho]; exact bf_ne (okr_next h0 i) q (fun k g1 g2 => hgne k g1 (by omega)) h2
    have hstep : ∀ q, o (q + 1) = if okr pts mo i (i + 1 + q) = true ∧ (o q = [] ∨ btr (g (i + 1 + q)) (o q) = true) then g (i + 1 + q) else o q := fun q => by rw [ho, bf]
    rw [← ho]
    have hL1 : ((l + 1 : Nat) : Int) - 1 = (l : Int) := by omega
    simp only [hL1]
    refine j_loop (S := Nat × Option (Nat × Nat × List Value)) (fun s => i + s.1 ≤ l ∧ (s.2 = none ↔ s.1 = 0)) (fun s => [(1, vL bb bg cb), (3, .pointer (some ⟨b3, 0, none⟩)), (5, .pointer (some ⟨b5, 0, none⟩)), (7, .int .i64 (l : Nat)), (8, .int .i64 (i : Nat)), (9, vOut (o s.1) s.2), (10, .int .i64 ((i : Int) + 1 + (s.1 : Nat)))])
      (fun s => mBst 3 (o s.1) s.2 ++ [⟨b5, e_api_Rat (Q mo), 28⟩, ⟨b3, cRun I b (l + 1) c, 35⟩]) (fun s => l - i - s.1) (0, none) ⟨by simp only; omega, by simp⟩ sbB slB (fun s hs => ?_)
    obtain ⟨q, og⟩ := s
    obtain ⟨hq, hog⟩ := hs
    simp only at hq hog ⊢
    have ek : (i : Int) + 1 + (q : Int) = ((i + 1 + q : Nat) : Int) := by omega
    simp only [ek]
    obtain ⟨k, hk⟩ : ∃ k, k = i + 1 + q := ⟨_, rfl⟩
    simp only [← hk]
    repeat (refine wkB ?_; try intro _)
    refine j_cond rfl (fun h => ?_) (fun h => ?_)
    · have hkl : k ≤ l := by have := of_decide_eq_true h; omega
      repeat (refine wkB ?_; try intro _)
      (refine jD 7 7 (h := ?_); (repeat (first | refine wkH ?_ | (refine tC rfl rfl ?_ ?_; focus (first | exact ⟨hr, by omega, by omega, by omega⟩ | exact ⟨Nat.le_trans (M_rv hr.2.2.2 _ _ _) (by decide), hmo⟩)))); refine jh_nil ?_; (repeat (refine wn_new ?_; intro _)); refine jn_nil ?_)
      repeat (refine wkB ?_; try intro _)
      simp only [Int.toNat_natCast]
      have hokc : decide (0 < cq (rv pts i k (k - i - 1)) mo) = !okr pts mo i k := by
        unfold okr
        rw [← decide_not, decide_eq_decide, cq_gt]
        exact Rat.not_le.symm
      rw [hokc]
      have hsk := hstep q
      rw [← hk] at hsk
      cases hcase : okr pts mo i k with
      | false =>
        have hq0 : q ≠ 0 := fun h0 => by
          subst h0
          rw [hk, show i + 1 + 0 = i + 1 by omega, okr_next h0] at hcase
          cases hcase
        rw [if_neg (by rw [hcase]; simp)] at hsk
        rw [← hsk]
        repeat (refine wkB ?_; try intro _)
        exact jx_loop (q + 1, og) ⟨by simp only; omega, fun h => absurd (hog.1 h) hq0, fun h => absurd h (by simp only; omega)⟩ sbB slB (by simp only; omega)
      | true =>
        repeat (refine wkB ?_; try intro _)
        have ihI : ∀ (L : List Blk) (bb' cb' : Nat) (spb' : List Value) (Tb' : TypeId) [AtC w L bb' (row (eI .i64) (bg ++ [(k : Int)]) spb') Tb'], SpecR Tryz.prog w L 127 [vRun I b (l + 1) c, vL bb' (bg ++ [(k : Int)]) cb', vQ mo] (SBst (bg ++ [(k : Int)]) (g k)) (fun s => vBst bb' (bg ++ [(k : Int)]) cb' (g k) s.1) (fun s => mBst 3 (g k) s.1) (bg.length + 1 ≤ cb') := fun L bb' cb' spb' Tb' hA => ⟨fun hp w' hw' => by
          have hgk : g k = bst (okr pts mo) l f (bg ++ [(k : Int)]) := by rw [hgd]
          rw [hgk]
          obtain ⟨fz, hf1⟩ := hw
          have hlk := lst_snoc bg k
          refine ih (bg ++ [(k : Int)]) bb' cb' spb' Tb' (by rw [hlk]; omega) (by simp) (by simpa using hp) ⟨by rw [hlk]; exact hkl, by rw [hlk]; simp; omega, ?_⟩ w' ⟨fz, by rw [hw'.ext.block b (lt_of_block hf1)]; exact hf1⟩ (hA.out w' hw')
          have h3 : gi (bg ++ [(k : Int)]) (((bg ++ [(k : Int)]).length : Int) - 1) = (k : Int) := by
            have e : ((((bg ++ [(k : Int)]).length : Nat) : Int) - 1).toNat = bg.length := by rw [List.length_append, List.length_singleton]; omega
            unfold gi
            rw [e, List.getD_eq_getElem?_getD, List.getElem?_append_right (Nat.le_refl _), Nat.sub_self]
            rfl
          rw [h3]
          omega⟩
        refine j_cut (S := Nat × Nat × List Value) (fun _ => True) (fun s => [(11, vL s.1 (g k) s.2.1), (1, vL bb bg cb), (3, .pointer (some ⟨b3, 0, none⟩)), (5, .pointer (some ⟨b5, 0, none⟩)), (7, .int .i64 (l : Nat)), (8, .int .i64 (i : Nat)), (9, vOut (o q) og), (10, .int .i64 (k : Nat))])
          (fun s => ⟨s.1, row (eI .i64) (g k) s.2.2, 3⟩ :: (mBst 3 (o q) og ++ [⟨b5, e_api_Rat (Q mo), 28⟩, ⟨b3, cRun I b (l + 1) c, 35⟩])) ?_ (fun s _ => ?_)
        · (refine j_late [0, 1, 2, 3, 4, 5, 6, 7, 10] [8, 9, 11, 12] ([⟨b5, e_api_Rat (Q mo), 28⟩, ⟨b3, cRun I b (l + 1) c, 35⟩]) (h := ?_); refine wkI ?_)
          (repeat (refine wkH ?_))
          refine jh_nil ?_
          refine eB rfl rfl ?_
          intro bz
          refine eQ rfl rfl ?_ rfl ?_ ?_
          · rfl
          · exact ⟨by omega, by omega, by omega⟩
          intro bA cA spA h1 h2
          rw [show bg.length + 1 = (bg ++ [(k : Int)]).length by simp]
          refine eN rfl rfl h1 ?_
          intro sx
          obtain ⟨x, hx⟩ := sx
          refine eS rfl rfl ?_
          refine je_nil ?_
          rcases x with _ | ⟨bx, cx, spx⟩
          · have hgk := hx rfl
            simp only [vBst, mBst, List.nil_append]
            rw [← hgk]
            exact jx_mid (bA, cA, spA) trivial sbB slB
          · simp only [vBst, mBst, List.nil_append, List.cons_append]
            exact jx_mid (bx, cx, spx) trivial sbB slB
        · obtain ⟨bx, cx, spx⟩ := s
          simp only
          rcases og with _ | ⟨bo, co, spo⟩
          · have hq0 : q = 0 := hog.1 rfl
            have ho0 : o q = [] := by rw [hq0, ho]; rfl
            rw [if_pos ⟨hcase, .inl ho0⟩] at hsk
            simp only [vOut, mBst, List.nil_append]
            rw [← hsk]
            repeat (refine wkB ?_; try intro _)
            exact jx_loop (q + 1, some (bx, cx, spx)) ⟨by simp only; omega, by simp⟩ sbB slB (by simp only; omega)
          · have hq1 : q ≠ 0 := fun h0 => by
              have := hog.2 h0
              cases this
            have hon := hone q (by omega) (by omega)
            have hol : ¬ ((o q).length : Int) = 0 := fun h0 => hon (List.length_eq_zero_iff.1 (by omega))
            simp only [vOut, mBst, List.cons_append, List.nil_append]
            repeat (refine wkB ?_; try intro _)
            simp only [decide_eq_false hol]
            repeat (first | (refine wkB ?_; try intro _) | (refine sC rfl rfl ?_ ?_; focus (first | exact trivial | omega)) | (refine sN rfl rfl ?_ ?_; (focus (first | exact trivial | omega)); intro _; (try simp only [List.cons_append, List.nil_append, List.append_nil])))
            have hgl : (g k).length ≤ 1099511627776 := by
              rw [hgd]
              have := bst_len (ok := okr pts mo) (l := l) f (bg ++ [(k : Int)]) (by rw [lst_snoc]; simp; omega) (by rw [lst_snoc]; exact hkl)
              simp only
              omega
            repeat (refine wkB ?_; try intro _)
            refine j_cond rfl (fun h => ?_) (fun h => ?_)
            · rw [if_pos ⟨hcase, .inr h⟩] at hsk
              rw [← hsk]
              repeat (refine wkB ?_; try intro _)
              exact jx_loop (q + 1, some (bx, cx, spx)) ⟨by simp only; omega, by simp⟩ sbB slB (by simp only; omega)
            · rw [if_neg (fun h1 => h1.2.elim hon (fun h2 => by rw [h] at h2; cases h2))] at hsk
              rw [← hsk]
              repeat (refine wkB ?_; try intro _)
              exact jx_loop (q + 1, some (bo, co, spo)) ⟨by simp only; omega, by simp⟩ sbB slB (by simp only; omega)
    · have hqe : q = l - i := by have := of_decide_eq_false h; omega
      subst hqe
      rcases og with _ | ⟨bo, co, spo⟩
      · have := hog.1 rfl
        omega
      · simp only [vOut, mBst, List.cons_append, List.nil_append]
        repeat (refine wkB ?_; try intro _)
        refine jx_ret_tmp rfl rfl (fun w hw => ⟨⟨some (bo, co, spo), fun h => by cases h⟩, rfl, hw.sub ?_⟩)
        exact slB
end Go.Vt
/- Slices that came in, wherever they lie, under the program logic. Conditions: those that each rule names. -/
set_option linter.unusedSimpArgs false
set_option linter.unusedVariables false
set_option maxHeartbeats 2000000
set_option linter.unusedSectionVars false
namespace Go.Vt
open Go.RowKit
/-- At place 'o' of block 'b' lies a row. -/
class RowC (w0 : World) (L : List Blk) (b o : Nat) (α : outParam Type) (enc : outParam (α → Array Value)) (xs : outParam (List α)) : Prop where
  out : ∀ w, Own w0 L w → ∃ cs T fz, w.heap[b]? = some (.cells cs T fz) ∧ ∀ (i f k : Nat) (u : Value) (hi : i < xs.length), (∀ x, (enc x).size = k) → (enc xs[i])[f]? = some u → cs[o + i * k + f]? = some u ∧ o + xs.length * k ≤ cs.size
/-- A slice that came in. -/
structure ArgS {α : Type} (w0 : World) (v : Value) (enc : α → Array Value) (xs : List α) : Prop where
  out : (v = .slice none 0 0 ∧ xs = []) ∨ ∃ (a : Addr) (c : Nat), v = .slice (some a) xs.length c ∧ xs.length ≤ c ∧ ∀ (i f k : Nat) (u : Value) (hi : i < xs.length), (∀ x, (enc x).size = k) → (enc xs[i])[f]? = some u → w0.cell? (a.add (i * k + f)) = some u
class ArgC (w0 : World) (v : Value) (α : outParam Type) (enc : outParam (α → Array Value)) (xs : outParam (List α)) : Prop where
  out : ArgS w0 v enc xs
theorem cell_some {w : World} {a : Addr} {v : Value} (h : w.cell? a = some v) : a = ⟨a.block, a.off, none⟩ ∧ ∃ cs T fz, w.heap[a.block]? = some (.cells cs T fz) ∧ cs[a.off]? = some v := by
  unfold World.cell? at h
  split at h
  · rename_i c T fz hb
    split at h
    · cases h
    · rename_i hs
      obtain ⟨b, o, s⟩ := a
      cases s with
      | none => exact ⟨rfl, c, T, fz, hb, h⟩
      | some s => exact absurd rfl hs
  · cases h
/-- A slice that is not empty: its block. -/
theorem ArgS.blk {α : Type} {w0 : World} {v : Value} {enc : α → Array Value} {xs : List α} {k : Nat} [he : EncC enc (k + 1)] (h : ArgS w0 v enc xs) (hne : xs ≠ []) (L : List Blk) : ∃ b o c, v = .slice (some ⟨b, o, none⟩) xs.length c ∧ xs.length ≤ c ∧ RowC w0 L b o α enc xs := by
  rcases h.out with ⟨_, h0⟩ | ⟨a, c, hv, hc, hcell⟩
  · exact absurd h0 hne
  have hlen : 0 < xs.length := List.length_pos_iff.2 hne
  have hfirst : ∃ u, (enc xs[0])[0]? = some u := by
    have := he.size xs[0]
    exact ⟨(enc xs[0])[0]'(by omega), by simp⟩
  obtain ⟨u, hu⟩ := hfirst
  have h0 := hcell 0 0 (k + 1) u hlen he.size hu
  rw [Nat.zero_mul, Nat.add_zero] at h0
  have ha : a.add 0 = a := by simp [Addr.add]
  rw [ha] at h0
  obtain ⟨hae, cs, T, fz, hb, _⟩ := cell_some h0
  obtain ⟨b, o, s⟩ := a
  simp only [Addr.mk.injEq, true_and] at hae
  subst hae
  refine ⟨b, o, c, hv, hc, ⟨fun w hw => ⟨cs, T, fz, by rw [hw.ext.block b (lt_of_block hb)]; exact hb, fun i f k' u hi hk hu => ?_⟩⟩⟩
  have h1 := hcell i f k' u hi hk hu
  rw [addr_add, cell_block hb] at h1
  refine ⟨by rw [Nat.add_assoc]; exact h1, ?_⟩
  have hkk : k' = k + 1 := by rw [← hk xs[0], he.size xs[0]]
  subst hkk
  have hl : xs.length - 1 < xs.length := by omega
  obtain ⟨u2, hu2⟩ : ∃ u, (enc xs[xs.length - 1])[k]? = some u := ⟨(enc xs[xs.length - 1])[k]'(by rw [he.size]; omega), by simp⟩
  have h2 := hcell (xs.length - 1) k (k + 1) u2 hl he.size hu2
  rw [addr_add, cell_block hb] at h2
  have h3 : o + ((xs.length - 1) * (k + 1) + k) < cs.size := by
    rcases Nat.lt_or_ge (o + ((xs.length - 1) * (k + 1) + k)) cs.size with h | h
    · exact h
    · rw [Array.getElem?_eq_none h] at h2; cases h2
  have h4 : xs.length * (k + 1) = (xs.length - 1) * (k + 1) + (k + 1) := by
    rw [← Nat.succ_mul]
    congr 1
    omega
  omega
section
variable {P : Program} {w0 : World} {n : Nat} {ops : Array Oper} {L : List Blk} {E : Env} {v : Value} {x : Operand} {T : TypeId}
variable {α : Type} [Inhabited α] {enc : α → Array Value} {k b o f : Nat} {xs : List α} {i : Int}
theorem yl_rowG [he : EncC enc k] [h : RowC w0 L b o α enc xs] {d : Option Tmp} {ty : TypeId} {pos : String} {aft : Array Edge} {gd : Option (Nat × Bool)} (hk : 0 < k) (hx : Env.ev E x = some (.pointer (some ⟨b, o + i.toNat * k + f, none⟩))) (hi : i.toNat < xs.length) (hv : LdV P T (enc (gi xs i)) f v) : Yl P w0 n L E ⟨d, .load T x, ty, pos, aft, gd⟩ v :=
  yl_run (fun _ => loadVar T ⟨b, o + i.toNat * k + f, none⟩) (fun a ha => by
    simp only [execOp, ha.ev hx, Instr.loadAt, Instr.sureAddr]
    rfl) (fun a w _ hw => by
      obtain ⟨cs, T0, fz, hb, hc⟩ := h.out w hw
      rw [gi_eq hi] at hv
      refine run_loadVar hb ?_
      have hsz := he.size xs[i.toNat]
      have hle := Nat.mul_le_mul_right k (show i.toNat + 1 ≤ xs.length from hi)
      rw [Nat.add_mul, Nat.one_mul] at hle
      rcases hv with ⟨m, ha, hs, rfl⟩ | ⟨ho, hv⟩
      · have hbig := (hc i.toNat 0 k _ hi he.size (show (enc xs[i.toNat])[0]? = some ((enc xs[i.toNat])[0]'(by omega)) by simp)).2
        refine .inl ⟨m, ha, by omega, ?_⟩
        congr 1
        apply Array.ext_getElem?
        intro j
        rw [Array.getElem?_extract, Array.getElem?_extract]
        by_cases hj : j < m
        · rw [if_pos (by omega), if_pos (by omega)]
          have hfj : f + j < (enc xs[i.toNat]).size := by omega
          have := (hc i.toNat (f + j) k _ hi he.size (show (enc xs[i.toNat])[f + j]? = some ((enc xs[i.toNat])[f + j]'hfj) by simp)).1
          rw [show o + i.toNat * k + f + j = o + i.toNat * k + (f + j) by omega, this]
          simp
        · rw [if_neg (by omega), if_neg (by omega)]
      · exact .inr ⟨ho, (hc i.toNat f k v hi he.size hv).1⟩)
instance (priority := low) ys_rowG0 [IsC (evl E x) (.pointer (some ⟨b, o + i.toNat * k, none⟩))] [h : RowC w0 L b o α enc xs] [he : EncC enc k] [hv : LdC P T (enc (gi xs i)) 0 v] : YsC P w0 n L E (.load T x) v (0 < k ∧ i.toNat < xs.length) := ⟨fun hi _ _ _ _ _ => yl_rowG (f := 0) (k := k) hi.1 (by rw [Nat.add_zero]; exact isE) hi.2 hv.out⟩
instance (priority := low) ys_rowGF [IsC (evl E x) (.pointer (some ⟨b, o + i.toNat * k + f, none⟩))] [h : RowC w0 L b o α enc xs] [he : EncC enc k] [hv : LdC P T (enc (gi xs i)) f v] : YsC P w0 n L E (.load T x) v (0 < k ∧ i.toNat < xs.length) := ⟨fun hi _ _ _ _ _ => yl_rowG hi.1 isE hi.2 hv.out⟩
instance (priority := low) ys_remk {kd : IntKind} {T' : TypeId} {y : Operand} {a c : Int} [hx : IsC (evl E x) (.int kd a)] [hy : IsC (evl E y) (.int kd c)] : YsC P w0 n L E (.binOp .rem T x y T') (.int kd (a % c)) (0 ≤ a ∧ 1 ≤ c) := ⟨fun h _ _ _ _ _ => yl_arith isE isE fun w => by rw [run_rem _ _ (by omega), IntWalk.rem_in _ _ h.1]⟩
end
end Go.Vt
/- The runs of the statements: their decoding. Conditions: those that each statement names. -/
set_option linter.unusedSimpArgs false
set_option linter.unusedVariables false
set_option maxHeartbeats 2000000
set_option maxRecDepth 100000
namespace Go.Vt
open Go.RowKit Go.Proofs
instance sp_at (t x y : Int) : SpecC Tryz.prog 42 [.int .i64 t, .int .i64 x, .int .i64 y] (vS ⟨(t : Rat), ⟨(x : Rat), (y : Rat)⟩⟩) ((-9223372036854775808 ≤ t ∧ t ≤ 9223372036854775807) ∧ (-9223372036854775808 ≤ x ∧ x ≤ 9223372036854775807) ∧ (-9223372036854775808 ≤ y ∧ y ≤ 9223372036854775807)) := ⟨fun hp w => by
  obtain ⟨h1, h2, h3⟩ := hp
  refine fn_intro Tryz.func42 rfl Tryz.ntmps42 rfl ?_
  repeat (refine wkB ?_; try intro _)
  exact wx_cell rfl rfl (fun w hw => ret_ok hw)⟩
def dst (n : Int) : Rat := Rat.divInt (n % 128) 4
instance sp_distance (n : Int) : SpecC Tryz.prog 30 [.int .u8 n] (vQ (dst n)) (0 ≤ n ∧ n ≤ 255) := ⟨fun hp w => by
  refine fn_intro Tryz.func30 rfl Tryz.ntmps30 rfl ?_
  repeat (first | (refine wkB ?_; try intro _) | (refine sC rfl rfl ?_ ?_; focus (exact ⟨⟨by omega, by omega⟩, ⟨by omega, by omega⟩⟩)) | (refine sN rfl rfl ?_ ?_; (focus (exact ⟨⟨by omega, by omega⟩, ⟨by omega, by omega⟩⟩)); intro _; (try simp only [List.cons_append, List.nil_append, List.append_nil])))
  exact wx_cell rfl rfl (fun w hw => ret_ok hw)⟩
theorem Upd.app {b : Nat} {cs cs' : Array Value} {T : TypeId} {L L' : List Blk} (h : Upd b cs T cs' L L') : ∀ A : List Blk, Upd b cs T cs' (A ++ L) (A ++ L')
  | [] => h
  | _ :: A => (h.app A).there
instance (priority := low) updSkip (b : Nat) (cs' : Array Value) (A L L' : List Blk) (cs : Array Value) (T : TypeId) [h : UpdC b cs' L cs T L'] : UpdC b cs' (A ++ L) cs T (A ++ L') := ⟨h.out.app A⟩
/-- The header of a slice that grows, and its block. -/
def hSl (n : Nat) : Option (Nat × Nat × List Value) → Sl
  | none => ⟨none, 0, 0⟩
  | some s => ⟨some ⟨s.1, 0, none⟩, n, s.2.1⟩
def mSl (T : TypeId) (ps : List R_movingpoint_Sample) : Option (Nat × Nat × List Value) → List Blk
  | none => []
  | some s => [⟨s.1, row rS ps s.2.2, T⟩]
theorem ArgS.form {α : Type} {w0 : World} {v : Value} {enc : α → Array Value} {xs : List α} (h : ArgS w0 v enc xs) : ∃ p c, v = .slice p xs.length c := by
  rcases h.out with ⟨h1, h2⟩ | ⟨a, c, h1, _⟩
  · subst h2
    exact ⟨none, 0, h1⟩
  · exact ⟨some a, c, h1⟩
theorem ArgS.to {α : Type} {w0 w : World} {v : Value} {enc : α → Array Value} {xs : List α} (h : ArgS w0 v enc xs) (hx : Ext w0 w) : ArgS w v enc xs := by
  rcases h.out with h1 | ⟨a, c, h1, h2, h3⟩
  · exact ⟨.inl h1⟩
  · refine ⟨.inr ⟨a, c, h1, h2, fun i f k u hi hk hu => ?_⟩⟩
    have h4 := h3 i f k u hi hk hu
    obtain ⟨hae, cs, T, fz, hb, hc⟩ := cell_some h4
    rw [hae]
    have hb' : w.heap[(a.add (i * k + f)).block]? = some (.cells cs T fz) := by rw [hx.block _ (lt_of_block hb)]; exact hb
    rw [cell_block hb']
    exact hc
end Go.Vt
/- What the rows of this seat share: the witness's world with its two tables, and the reading of a way. Conditions: none. -/
set_option linter.unusedSimpArgs false
set_option linter.unusedVariables false
set_option maxHeartbeats 2000000
namespace Go.Proofs.YtgcjapcminakdaaGreatDoor
open Go.ChangeShapes Go.WideShapes Go.ChangeAt Go.RowKit Go.Deep Go.Vt
set_option maxRecDepth 100000
theorem rown : ownKnob Tryz.prog.godebug = none := by kernel_rfl
theorem rlaidOut : laidOutB Tryz.prog = true := by kernel_rfl
theorem runder5 : Tryz.prog.underlying 5 = some (.int .u8) := by kernel_rfl
theorem rcells5 : Tryz.prog.cellsOf 5 = 1 := by kernel_rfl
theorem u8_wf {n : Int} (h : (Lit.int .u8 n).wf = true) : 0 ≤ n ∧ n ≤ 255 := by
  simp only [Lit.wf, Bool.and_eq_true, decide_eq_true_eq] at h
  exact ⟨h.1, h.2⟩
def cAcc : Array Value := #[.int .u8 128, .int .u8 191, .int .u8 160, .int .u8 191, .int .u8 128, .int .u8 159, .int .u8 144, .int .u8 191, .int .u8 128, .int .u8 143, .int .u8 0, .int .u8 0, .int .u8 0, .int .u8 0, .int .u8 0, .int .u8 0, .int .u8 0, .int .u8 0, .int .u8 0, .int .u8 0, .int .u8 0, .int .u8 0, .int .u8 0, .int .u8 0, .int .u8 0, .int .u8 0, .int .u8 0, .int .u8 0, .int .u8 0, .int .u8 0, .int .u8 0, .int .u8 0]
def cFirst : Array Value := (Pinned.utf8FirstZ.map fun (n : Nat) => Value.int .u8 (n : Int)).toArray
def putCells (cs : Array Value) : Obj → Obj
  | .cells _ t frozen => .cells cs t frozen
  | o => o
/-- The settled world, its tables as their initialisers lay them. -/
noncomputable def laidWorld (os : Os) : World :=
  { World.holding Tryz.prog os ⟨#[], #[], []⟩ with heap := ((World.holding Tryz.prog os ⟨#[], #[], []⟩).heap.modify 1 (putCells cFirst)).modify 2 (putCells cAcc) }
theorem laid_met (os : Os) (args : Array Value) : laidMet Tryz.prog Rows.simplifyDeviatesRow.laid ((laidWorld os).forCall (fun _ _ => 0) ⟨#[], args, []⟩).memory :=
  laidMet_of_run3 8 (by kernel_rfl) (by kernel_rfl) (by kernel_rfl)
end Go.Proofs.YtgcjapcminakdaaGreatDoor
/- A region that draws its order: values, then effects, then values that look at what the effects brought. Conditions: the closed check 'late3B'. -/
set_option linter.unusedSimpArgs false
set_option linter.unusedVariables false
set_option maxHeartbeats 2000000
set_option linter.unusedSectionVars false
namespace Go.Vt
open Go.RowKit
section
variable {P : Program} {w0 : World} {n : Nat} {ops : Array Oper} {L L' Lw : List Blk} {E : Env}
variable {Q : Exit → Act → World → Prop} {Z : List Nat}
def lexF (ops : Array Oper) (k : Array Bool → Bool) : List Nat → Array Bool → Bool
  | [], listed => k listed
  | h :: hs, listed => (Region.ready .any ops listed).contains h && Region.free .any ops listed h && lexF ops k hs (listed.setIfInBounds h true)
def seqF (ops : Array Oper) (k : Array Bool → Bool) : List Nat → Array Bool → Bool
  | [], listed => k listed
  | i :: es, listed => decide (Region.ready .any ops listed = [i]) && seqF ops k es (listed.setIfInBounds i true)
def late3B (ops : Array Oper) (hs es ts : List Nat) : Bool :=
  Region.noSelect ops && decide (hs.length + (es.length + ts.length) = ops.size) && lexF ops (seqF ops (lexG ops [] ts) es) hs (Array.replicate ops.size false)
theorem wpG_of_ecF {F G : List Blk → Act → Prop} {N : Nat} {k : Array Bool → Bool} (hk : ∀ listed L a, k listed = true → Weak w0 Lw L → G L a → wpG P w0 ops [] Lw F N listed [] L a) : ∀ (es : List Nat) (listed : Array Bool) (L : List Blk) (a : Act), seqF ops k es listed = true → Weak w0 Lw L → EC P w0 ops [] Lw G es L a → wpG P w0 ops [] Lw F (es.length + N) listed es L a
  | [], listed, L, a, hB, hw, h => by
    rw [List.length_nil, Nat.zero_add]
    exact hk listed L a hB hw h
  | i :: es, listed, L, a, hB, hw, h => by
    simp only [seqF, Bool.and_eq_true, decide_eq_true_eq] at hB
    rw [show (i :: es).length + N = (es.length + N) + 1 by simp only [List.length_cons]; omega]
    refine ⟨by rw [hB.1]; simp, fun j hj => ?_⟩
    rw [hB.1] at hj
    have : j = i := by simpa using hj
    subst this
    obtain ⟨o, ho, hE⟩ := h
    exact ⟨o, ho, .inr ⟨es, rfl, hE.mono fun L' u hw' hK => wpG_of_ecF hk es _ _ _ hB.2 hw' hK⟩⟩
theorem wpG_of_ahF {l : List Oper} {F : List Blk → Act → Prop} {es : List Nat} {G : Act → Prop} {N : Nat} {k : Array Bool → Bool} (hk : ∀ listed a, k listed = true → G a → wpG P w0 l.toArray [] Lw F N listed es L a) (hsel : Region.noSelect l.toArray = true) (hw : Weak w0 Lw L) : ∀ (hs : List Nat) (listed : Array Bool) (a : Act), lexF l.toArray k hs listed = true →
    AH P w0 Lw l.toArray G (picks l hs) a → wpG P w0 l.toArray [] Lw F (hs.length + N) listed es L a
  | [], listed, a, hB, h => by
    rw [List.length_nil, Nat.zero_add]
    exact hk listed a hB h
  | i :: hs, listed, a, hB, h => by
    simp only [lexF, Bool.and_eq_true] at hB
    obtain ⟨⟨hr, hf⟩, hB'⟩ := hB
    have hr' : i ∈ Region.ready .any l.toArray listed := by simpa using hr
    obtain ⟨_, o, ho, _⟩ := mem_ready.1 hr'
    have ho' : l[i]? = some o := by simpa using ho
    simp only [picks, ho', AH] at h
    obtain ⟨v, hy, h⟩ := h
    rw [show (i :: hs).length + N = (hs.length + N) + 1 by simp only [List.length_cons]; omega]
    exact wpG_first ho (Region.noSelect_spec hsel) (fun z o hz _ => by simp at hz) _ _ _ _ _ (Region.free_spec ho hf) hr' hy hw (wpG_of_ahF hk hsel hw hs _ _ hB' h)
theorem j_late3 {id : Nat} {l : List Oper} (hs es ts : List Nat) (Lw : List Blk) (hm : P.follows .mixedOrders = true := by exact mixed) (hB : late3B l.toArray hs es ts = true := by kernel_rfl) (he : es.all (fun i => decide (i < l.length)) = true := by decide) (hL : Lw.Sublist L := by first | exact List.Sublist.refl _ | exact List.nil_sublist _ | exact sbl | (repeat (first | exact List.Sublist.refl _ | exact List.nil_sublist _ | refine List.Sublist.cons_cons _ ?_ | refine List.Sublist.cons _ ?_ | refine List.Sublist.trans ?_ (List.sublist_append_right _ _))))
    (h : JH P w0 n Lw l.toArray (fun E' => JE P w0 n l.toArray Lw (fun E1 L1 => JH P w0 n Lw l.toArray (fun E2 => JX w0 n .normal Q E2 L1) (picks l ts) E1) (picks l es) E' L) (picks l hs) E) : J P w0 n (.region id l.toArray true) Q E L := by
  refine ⟨fun a w ha hw => ?_⟩
  simp only [late3B, Bool.and_eq_true, decide_eq_true_eq] at hB
  obtain ⟨⟨hsel, hlen⟩, hlex⟩ := hB
  refine wp_region_any hm ?_
  have H : wpG P w0 l.toArray [] Lw (fun L a => ∀ w, Own w0 L w → Q .normal a w) (hs.length + (es.length + (ts.length + ([] : List Nat).length))) (Array.replicate l.toArray.size false) es L a :=
    wpG_of_ahF (k := seqF l.toArray (lexG l.toArray [] ts) es) (G := fun a => EC P w0 l.toArray [] Lw (fun L1 a1 => AH P w0 Lw l.toArray (fun a2 => ∀ w, Own w0 L1 w → Q .normal a2 w) (picks l ts) a1) es L a) (fun listed a hb hG => wpG_of_ecF (fun listed L1 a1 hb1 hw1 hG1 => wpG_of_ah hsel hw1 ts listed a1 rfl hb1 hG1) es listed L a hb (weak_sub hL) hG) hsel (weak_sub hL) hs _ a hlex
      (ah_of_jh (n := n) (fun E' a' ha' hK => ec_of_je (n := n) (Lj := Lw) (fun E1 L1 a1 ha1 h1 => ah_of_jh (n := n) (fun E2 a2 ha2 hx w hw => hx.out a2 w ha2 hw) _ _ _ ha1 h1) es E' L a' he (fun _ _ => rfl) ha' hK) _ _ _ ha h)
  have := wpAny_of_wpG (P := P) (Q := Q) (fun L a w hF hw => hF w hw) _ _ _ _ _ w.drew (hw.to (Ext.drew w)) H
  rw [List.length_nil, Nat.add_zero, hlen] at this
  exact this
def phB (ops : Array Oper) : List (List Nat × List Nat) → Array Bool → Bool
  | [], listed => (Region.ready .any ops listed).isEmpty
  | p :: ps, listed => lexF ops (seqF ops (phB ops ps) p.2) p.1 listed
def phN : List (List Nat × List Nat) → Nat
  | [] => 0
  | p :: ps => p.1.length + (p.2.length + phN ps)
def phE : List (List Nat × List Nat) → List Nat
  | [] => []
  | p :: ps => p.2 ++ phE ps
def phA (ops : Array Oper) (ps : List (List Nat × List Nat)) : Bool :=
  Region.noSelect ops && decide (phN ps = ops.size) && ps.all (fun p => p.2.all (fun i => decide (i < ops.size))) && phB ops ps (Array.replicate ops.size false)
def PH (P : Program) (w0 : World) (l : List Oper) (Lw : List Blk) (F : List Blk → Act → Prop) : List (List Nat × List Nat) → List Blk → Act → Prop
  | [], L, a => F L a
  | p :: ps, L, a => AH P w0 Lw l.toArray (fun a1 => EC P w0 l.toArray [] Lw (fun L1 a2 => PH P w0 l Lw F ps L1 a2) p.2 L a1) (picks l p.1) a
/-- The phases under an environment. -/
def JP (P : Program) (w0 : World) (n : Nat) (l : List Oper) (Lw : List Blk) (K : Env → List Blk → Prop) : List (List Nat × List Nat) → Env → List Blk → Prop
  | [], E, L => K E L
  | p :: ps, E, L => JH P w0 n Lw l.toArray (fun E' => JE P w0 n l.toArray Lw (fun E1 L1 => JP P w0 n l Lw K ps E1 L1) (picks l p.2) E' L) (picks l p.1) E
theorem wpG_of_ecR {F G : List Blk → Act → Prop} {N : Nat} {R : List Nat} {k : Array Bool → Bool} (hk : ∀ listed L a, k listed = true → Weak w0 Lw L → G L a → wpG P w0 ops [] Lw F N listed R L a) : ∀ (es : List Nat) (listed : Array Bool) (L : List Blk) (a : Act), seqF ops k es listed = true → Weak w0 Lw L → EC P w0 ops [] Lw G es L a → wpG P w0 ops [] Lw F (es.length + N) listed (es ++ R) L a
  | [], listed, L, a, hB, hw, h => by
    rw [List.length_nil, Nat.zero_add]
    exact hk listed L a hB hw h
  | i :: es, listed, L, a, hB, hw, h => by
    simp only [seqF, Bool.and_eq_true, decide_eq_true_eq] at hB
    rw [show (i :: es).length + N = (es.length + N) + 1 by simp only [List.length_cons]; omega]
    refine ⟨by rw [hB.1]; simp, fun j hj => ?_⟩
    rw [hB.1] at hj
    have : j = i := by simpa using hj
    subst this
    obtain ⟨o, ho, hE⟩ := h
    exact ⟨o, ho, .inr ⟨es ++ R, rfl, hE.mono fun L' u hw' hK => wpG_of_ecR hk es _ _ _ hB.2 hw' hK⟩⟩
theorem wpG_of_ph {l : List Oper} {F : List Blk → Act → Prop} (hsel : Region.noSelect l.toArray = true) : ∀ (ps : List (List Nat × List Nat)) (listed : Array Bool) (L : List Blk) (a : Act), phB l.toArray ps listed = true → Weak w0 Lw L → PH P w0 l Lw F ps L a → wpG P w0 l.toArray [] Lw F (phN ps) listed (phE ps) L a
  | [], listed, L, a, hB, hw, h => ⟨rfl, by simpa [phB] using hB, h⟩
  | p :: ps, listed, L, a, hB, hw, h =>
    wpG_of_ahF (fun listed a1 hb hG => wpG_of_ecR (fun listed L1 a2 hb2 hw2 hG2 => wpG_of_ph hsel ps listed L1 a2 hb2 hw2 hG2) p.2 listed L a1 hb hw hG) hsel hw p.1 listed a hB h
theorem ph_of_jp {l : List Oper} {K : Env → List Blk → Prop} {F : List Blk → Act → Prop} (hK : ∀ E L a, Rep n E a → K E L → F L a) : ∀ (ps : List (List Nat × List Nat)) (E : Env) (L : List Blk) (a : Act), ps.all (fun p => p.2.all (fun i => decide (i < l.length))) = true → Rep n E a → JP P w0 n l Lw K ps E L → PH P w0 l Lw F ps L a
  | [], E, L, a, _, ha, h => hK E L a ha h
  | p :: ps, E, L, a, hi, ha, h => by
    simp only [List.all_cons, Bool.and_eq_true] at hi
    exact ah_of_jh (n := n) (fun E' a' ha' hK' => ec_of_je (n := n) (Lj := Lw) (fun E1 L1 a1 ha1 h1 => ph_of_jp hK ps E1 L1 a1 hi.2 ha1 h1) p.2 E' L a' hi.1 (fun _ _ => rfl) ha' hK') _ _ _ ha h
theorem j_phases {id : Nat} {l : List Oper} (ps : List (List Nat × List Nat)) (Lw : List Blk) (hm : P.follows .mixedOrders = true := by exact mixed) (hB : phA l.toArray ps = true := by kernel_rfl) (hL : Lw.Sublist L := by first | exact List.Sublist.refl _ | exact List.nil_sublist _ | exact sbl | (repeat (first | exact List.Sublist.refl _ | exact List.nil_sublist _ | refine List.Sublist.cons_cons _ ?_ | refine List.Sublist.cons _ ?_ | refine List.Sublist.trans ?_ (List.sublist_append_right _ _))))
    (h : JP P w0 n l Lw (fun E2 L2 => JX w0 n .normal Q E2 L2) ps E L) : J P w0 n (.region id l.toArray true) Q E L := by
  refine ⟨fun a w ha hw => ?_⟩
  simp only [phA, Bool.and_eq_true, decide_eq_true_eq] at hB
  obtain ⟨⟨⟨hsel, hlen⟩, hall⟩, hlex⟩ := hB
  refine wp_region_any hm ?_
  have H := wpG_of_ph (P := P) (F := fun L a => ∀ w, Own w0 L w → Q .normal a w) hsel ps _ L a hlex (weak_sub hL) (ph_of_jp (n := n) (fun E2 L2 a2 ha2 hx w hw => hx.out a2 w ha2 hw) ps E L a (by simpa using hall) ha h)
  have := wpAny_of_wpG (P := P) (Q := Q) (fun L a w hF hw => hF w hw) _ _ _ _ _ w.drew (hw.to (Ext.drew w)) H
  rw [hlen] at this
  exact this
end
section
variable {P : Program} {w0 : World} {n : Nat} {ops : Array Oper} {L Lw : List Blk} {E : Env} {K : Env → List Blk → Prop} {rest : List Oper} {v : Value} {op : Op} {S : Prop}
variable {ty : TypeId} {pos : String} {aft : Array Edge} {gd : Option (Nat × Bool)} {t : Tmp}
theorem eV (h : Yl P w0 n L E ⟨some t, op, ty, pos, aft, gd⟩ v) (hg : guardB ops E gd = some true) (hd : Nat.blt t n = true) (hw : Lw.Sublist L) (k : JE P w0 n ops Lw K rest ((t, v) :: E) L) : JE P w0 n ops Lw K (⟨some t, op, ty, pos, aft, gd⟩ :: rest) E L :=
  ⟨hg, hd, Unit, fun _ => v, fun _ => L, fun a w ha hw => by
    have h1 := h.out a w ha hw
    unfold calm at h1
    generalize (execOp a.eval ⟨some t, op, ty, pos, aft, gd⟩).run P w = r at *
    cases r with
    | ok x w' =>
      cases x <;> simp only [calmUpon] at h1 <;> simp only [Hap]
      case value u => exact ⟨(), h1.1, hw.to h1.2⟩
      case skip => exact ⟨(), h1.1.symm, hw.to h1.2⟩
      case enter f args =>
        obtain ⟨rfl, h2⟩ := h1
        exact h2.mono fun e w'' ⟨he, hx⟩ => ⟨_, he, (), rfl, hw.to hx⟩
    | halt x w' => simp only [calmUpon] at h1, fun _ => weak_sub hw, fun _ => k⟩
theorem uS [h : YsC P w0 n L E op v S] (hg : guardB ops E gd = some true) (hd : Nat.blt t n = true) [hw : SblC Lw L] (s : S) (k : JE P w0 n ops Lw K rest ((t, v) :: E) L) : JE P w0 n ops Lw K (⟨some t, op, ty, pos, aft, gd⟩ :: rest) E L := eV (h.out s _ _ _ _ _) hg hd hw.out k
theorem uC [h : YcC P w0 n L E op v S] (hg : guardB ops E gd = some true) (hd : Nat.blt t n = true) [hw : SblC Lw L] (s : S) (k : JE P w0 n ops Lw K rest ((t, v) :: E) L) : JE P w0 n ops Lw K (⟨some t, op, ty, pos, aft, gd⟩ :: rest) E L := eV (h.out s _ _ _ _ _) hg hd hw.out k
theorem uW [h : YwC P w0 n L E op v] (hg : guardB ops E gd = some true) (hd : Nat.blt t n = true) [hw : SblC Lw L] (k : JE P w0 n ops Lw K rest ((t, v) :: E) L) : JE P w0 n ops Lw K (⟨some t, op, ty, pos, aft, gd⟩ :: rest) E L := eV (h.out _ _ _ _ _) hg hd hw.out k
theorem uP {c x y : Operand} (hc : Env.ev E c = some (.bool true)) (hx : Env.ev E x = some v) (hg : guardB ops E gd = some true) (hd : Nat.blt t n = true) [hw : SblC Lw L] (k : JE P w0 n ops Lw K rest ((t, v) :: E) L) : JE P w0 n ops Lw K (⟨some t, .pick c x y, ty, pos, aft, gd⟩ :: rest) E L := eV (wl_pickT hc hx) hg hd hw.out k
theorem uQ {c x y : Operand} (hc : Env.ev E c = some (.bool false)) (hx : Env.ev E y = some v) (hg : guardB ops E gd = some true) (hd : Nat.blt t n = true) [hw : SblC Lw L] (k : JE P w0 n ops Lw K rest ((t, v) :: E) L) : JE P w0 n ops Lw K (⟨some t, .pick c x y, ty, pos, aft, gd⟩ :: rest) E L := eV (wl_pickF hc hx) hg hd hw.out k
end
theorem wkP {P Q : Prop} (k : Q) (h : Wr Q → P := by intro hq; simp only [JP, picks, List.getElem?_cons_succ, List.getElem?_cons_zero]; exact hq.out) : P := h ⟨k⟩
/-- The walk in tails. -/
theorem wkT {P Q : Prop} (k : Q) (h : Wr Q → P := by intro hq; (first | refine eS rfl rfl ?_ | refine uP rfl rfl rfl rfl ?_ | refine uQ rfl rfl rfl rfl ?_ | refine eX rfl rfl ?_ | (refine uS rfl rfl ?_ ?_; focus omega) | (refine uC rfl rfl ?_ ?_; focus (first | exact trivial | assumption | constructor <;> assumption | exact mb2 rfl rfl | exact mb4 rfl rfl rfl rfl)) | refine uW rfl rfl ?_ | refine eF rfl ?_ | refine eT rfl ?_ | (refine eA rfl rfl ?_) | (refine eB rfl rfl ?_) | (refine eN rfl rfl ?_ ?_; (focus (first | exact trivial | assumption | constructor <;> assumption | exact mb2 rfl rfl | exact mb4 rfl rfl rfl rfl)); (try simp only [List.cons_append, List.nil_append, List.append_nil])) | refine je_nil ?_ | refine tX rfl rfl ?_ | (refine tS rfl rfl ?_ ?_; focus omega) | (refine tC rfl rfl ?_ ?_; focus (first | exact trivial | assumption | constructor <;> assumption | exact mb2 rfl rfl | exact mb4 rfl rfl rfl rfl)) | refine tW rfl rfl ?_ | refine tK rfl rfl ?_ | refine Go.Vt.hq (wl_pickT rfl rfl) rfl rfl ?_ | refine Go.Vt.hq (wl_pickF rfl rfl) rfl rfl ?_ | refine jh_nil ?_ | (refine wn_new ?_) | refine jn_nil ?_); (repeat (first | refine eS rfl rfl ?_ | refine uP rfl rfl rfl rfl ?_ | refine uQ rfl rfl rfl rfl ?_ | refine eX rfl rfl ?_ | (refine uS rfl rfl ?_ ?_; focus omega) | (refine uC rfl rfl ?_ ?_; focus (first | exact trivial | assumption | constructor <;> assumption | exact mb2 rfl rfl | exact mb4 rfl rfl rfl rfl)) | refine uW rfl rfl ?_ | refine eF rfl ?_ | refine eT rfl ?_ | (refine eA rfl rfl ?_) | (refine eB rfl rfl ?_) | (refine eN rfl rfl ?_ ?_; (focus (first | exact trivial | assumption | constructor <;> assumption | exact mb2 rfl rfl | exact mb4 rfl rfl rfl rfl)); (try simp only [List.cons_append, List.nil_append, List.append_nil])) | refine je_nil ?_ | refine tX rfl rfl ?_ | (refine tS rfl rfl ?_ ?_; focus omega) | (refine tC rfl rfl ?_ ?_; focus (first | exact trivial | assumption | constructor <;> assumption | exact mb2 rfl rfl | exact mb4 rfl rfl rfl rfl)) | refine tW rfl rfl ?_ | refine tK rfl rfl ?_ | refine Go.Vt.hq (wl_pickT rfl rfl) rfl rfl ?_ | refine Go.Vt.hq (wl_pickF rfl rfl) rfl rfl ?_ | refine jh_nil ?_ | (refine wn_new ?_) | refine jn_nil ?_)); exact hq.out) : P := h ⟨k⟩
end Go.Vt
/- Slices of the call's own that may be nil, under the program logic: how they lie, appends onto them, their handing on. Conditions: those that each rule names. -/
set_option linter.unusedSimpArgs false
set_option linter.unusedVariables false
set_option maxHeartbeats 2000000
set_option linter.unusedSectionVars false
namespace Go.Vt
open Go.RowKit
/-- How a list lies: nowhere, or in a block: its number, its capacity, what lies spare. -/
structure SlS {α : Type} (enc : α → Array Value) (k : Nat) (xs : List α) where
  s : Option (Nat × Nat × List Value)
  nil : s = none ↔ xs = []
  ok : ∀ t, s = some t → xs.length ≤ t.2.1 ∧ t.2.2.length = (t.2.1 - xs.length) * k
section
variable {α : Type} {enc : α → Array Value} {k : Nat} {xs : List α}
def SlS.no : SlS enc k [] := ⟨none, ⟨fun _ => rfl, fun _ => rfl⟩, (fun _ h => by cases h)⟩
def SlS.at_ (b c : Nat) (sp : List Value) (h : xs.length ≤ c ∧ sp.length = (c - xs.length) * k) (h0 : xs ≠ []) : SlS enc k xs := ⟨some (b, c, sp), ⟨fun h => by (cases h), fun h => absurd h h0⟩, (fun t ht => by injection ht with ht; subst ht; exact h)⟩
def vO (n : Nat) : Option (Nat × Nat × List Value) → Value
  | none => .slice none 0 0
  | some t => .slice (some ⟨t.1, 0, none⟩) n t.2.1
def mO (enc : α → Array Value) (T : TypeId) (xs : List α) : Option (Nat × Nat × List Value) → List Blk
  | none => []
  | some t => [⟨t.1, row enc xs t.2.2, T⟩]
/-- The slice, and its block. -/
def vSl (s : SlS enc k xs) : Value := vO xs.length s.s
def mS (T : TypeId) (s : SlS enc k xs) : List Blk := mO enc T xs s.s
theorem SlS.cases (T : TypeId) (s : SlS enc k xs) : (xs = [] ∧ vSl s = .slice none 0 0 ∧ mS T s = []) ∨ ∃ b c sp, (xs.length ≤ c ∧ sp.length = (c - xs.length) * k) ∧ vSl s = .slice (some ⟨b, 0, none⟩) xs.length c ∧ mS T s = [⟨b, row enc xs sp, T⟩] ∧ xs ≠ [] := by
  obtain ⟨s, h1, h2⟩ := s
  cases s with
  | none => exact .inl ⟨h1.1 rfl, rfl, rfl⟩
  | some t => exact .inr ⟨t.1, t.2.1, t.2.2, h2 t rfl, rfl, rfl, fun h => by have := h1.2 h; cases this⟩
end
/-- The list of blocks begins, after turns, with those of a slice. -/
class OwnS {α : Type} {enc : α → Array Value} {k : Nat} {xs : List α} (T : outParam TypeId) (s : SlS enc k xs) (L : List Blk) (L1 : outParam (List Blk)) : Prop where
  out : L.Perm (mS T s ++ L1)
section
variable {α : Type} {enc : α → Array Value} {k : Nat} {xs : List α}
instance (priority := high) osHere (T : TypeId) (s : SlS enc k xs) (L : List Blk) : OwnS T s (mS T s ++ L) L := ⟨.refl _⟩
instance (priority := high) osHere0 (T : TypeId) (s : SlS enc k xs) : OwnS T s (mS T s) [] := ⟨by rw [List.append_nil]⟩
instance (priority := low) osThere (T : TypeId) (s : SlS enc k xs) (e : Blk) (L L1 : List Blk) [h : OwnS T s L L1] : OwnS T s (e :: L) (e :: L1) := ⟨(h.out.cons e).trans (List.perm_middle.symm)⟩
instance (priority := low) osSkip {β : Type} {enc' : β → Array Value} {k' : Nat} {ys : List β} (T T' : TypeId) (s : SlS enc k xs) (u : SlS enc' k' ys) (L L1 : List Blk) [h : OwnS T s L L1] : OwnS T s (mS T' u ++ L) (mS T' u ++ L1) := ⟨by
  refine (h.out.append_left _).trans ?_
  rw [← List.append_assoc, ← List.append_assoc]
  exact (List.perm_append_comm).append_right _⟩
instance (priority := low) delSkip (A : List Blk) (b : Nat) (cs : Array Value) (T : TypeId) (L L1 : List Blk) [h : DelC b L cs T L1] : DelC b (A ++ L) cs T (A ++ L1) := ⟨(h.out.append_left A).trans List.perm_middle⟩
instance (priority := high) sblP (X A B : List Blk) [h : SblC A B] : SblC (X ++ A) (X ++ B) := ⟨h.out.append_left X⟩
instance (priority := high) sblR (X : List Blk) : SblC X X := ⟨List.Sublist.refl _⟩
/-- A slice that is known, the call's own or not. -/
class LstC (w0 : World) (L : List Blk) (v : Value) (α : outParam Type) (enc : outParam (α → Array Value)) (xs : outParam (List α)) : Prop where
  out : ∀ w, Own w0 L w → ArgS w v enc xs
end
instance (priority := low) lstArg (w0 : World) (L : List Blk) (v : Value) (α : Type) (enc : α → Array Value) (xs : List α) [h : ArgC w0 v α enc xs] : LstC w0 L v α enc xs := ⟨fun _ hw => h.out.to hw.ext⟩
theorem argS_row {α : Type} {enc : α → Array Value} {k : Nat} [he : EncC enc k] {w : World} {b c : Nat} {xs : List α} {sp : List Value} {T : TypeId} {fz : Nat × Nat} (hb : w.heap[b]? = some (.cells (row enc xs sp) T fz)) (hc : xs.length ≤ c) : ArgS w (.slice (some ⟨b, 0, none⟩) xs.length c) enc xs := by
  refine ⟨.inr ⟨⟨b, 0, none⟩, c, rfl, hc, fun i f k' u hi hk hu => ?_⟩⟩
  rw [addr_add, cell_block hb]
  obtain rfl : k' = k := by rw [← hk xs[i]]; exact he.size _
  have hf : f < k' := by
    rcases Nat.lt_or_ge f k' with h1 | h1
    · exact h1
    · rw [Array.getElem?_eq_none (by rw [hk]; exact h1)] at hu
      cases hu
  rw [Nat.zero_add, row_get xs sp i f hi hf]
  exact hu
instance lstOwn {α : Type} {enc : α → Array Value} {k : Nat} {xs : List α} [he : EncC enc k] (w0 : World) (L L1 : List Blk) (T : TypeId) (s : SlS enc k xs) [h : OwnS T s L L1] : LstC w0 L (vSl s) α enc xs := ⟨fun w hw => by
  have hp := hw.perm h.out
  rcases s.cases T with ⟨rfl, hv, hm⟩ | ⟨b, c, sp, h1, hv, hm, -⟩
  · rw [hv]
    exact ⟨.inl ⟨rfl, rfl⟩⟩
  · rw [hm] at hp
    rw [hv]
    obtain ⟨fz, hb⟩ : ∃ fz, w.heap[b]? = some (.cells (row enc xs sp) T fz) := ⟨(0, 0), (hp.mem _ (.head _)).2⟩
    exact argS_row hb h1.1⟩
section
variable {P : Program} {w0 : World} {n : Nat} {ops : Array Oper} {L L1 : List Blk} {E : Env}
variable {Q : Exit → Act → World → Prop} {rest : List Oper}
variable {ty : TypeId} {pos : String} {aft : Array Edge} {gd : Option (Nat × Bool)} {t : Tmp} {x y : Operand}
instance yk_len_vS {α : Type} {enc : α → Array Value} {k : Nat} {xs : List α} {S e : TypeId} {s : SlS enc k xs} [hx : IsC (evl E x) (vSl s)] [hu : UndC P S (.slice e)] : YlC P w0 n L E (.call ⟨.builtin .len, #[x], #[S]⟩) (.int .i64 xs.length) := ⟨fun d ty pos aft gd => by
  rcases s.cases 0 with ⟨rfl, hv, -⟩ | ⟨b, c, sp, h1, hv, -, -⟩
  · have : IsC (evl E x) (.slice none 0 0) := ⟨by rw [hx.out, hv]⟩
    exact (yk_len_sl (P := P) (w0 := w0) (n := n) (L := L) (E := E) (x := x) (S := S) (e := e) (p := none) (l := 0) (c := 0)).out d ty pos aft gd
  · have : IsC (evl E x) (.slice (some ⟨b, 0, none⟩) xs.length c) := ⟨by rw [hx.out, hv]⟩
    exact (yk_len_sl (P := P) (w0 := w0) (n := n) (L := L) (E := E) (x := x) (S := S) (e := e) (p := some ⟨b, 0, none⟩) (l := xs.length) (c := c)).out d ty pos aft gd⟩
section
variable {α : Type} {enc : α → Array Value} {S T T2 : TypeId} {b2 m c2 k B : Nat} {xs ys : List α} {z : Value} {zc : Array Value} {s : SlS enc k xs}
variable [hx : IsC (evl E x) (vSl s)] [hy : IsC (evl E y) (.slice (some ⟨b2, 0, none⟩) m c2)] [hd : OwnS T s L L1] [h2 : AtC w0 L b2 (row enc ys []) T2] [hT : UndC P S (.slice T)] [hz : ZeroC P T z zc] [he : EncC enc k] [hk : SizeC P T k] [hB : BytesC P T B]
include hx hy hd h2 hT hz he hk hB
theorem app_runU (hm : ys.length = m) (hzk : zc.size = k) (hb : 0 < m ∧ (xs.length + m) * B ≤ 140737488355328 ∧ xs.length + m ≤ 9223372036854775807) (a : Act) (w : World) (ha : Rep n E a) (hw : Own w0 L w) :
    ∃ s' : SlS enc k (xs ++ ys), ∃ w', (execOp a.eval ⟨some t, .call ⟨.builtin .append, #[x, y], #[S, S]⟩, ty, pos, aft, gd⟩).run P w = .ok (.value (vSl s')) w' ∧ Own w0 (mS T s' ++ L1) w' := by
  have hp := hw.perm hd.out
  have hlen : (xs ++ ys).length = xs.length + m := by rw [List.length_append, hm]
  have hne : xs ++ ys ≠ [] := fun h0 => by rw [h0, List.length_nil] at hlen; omega
  obtain ⟨fz, hf⟩ := h2.out w hw
  rcases s.cases T with ⟨rfl, hv, hm0⟩ | ⟨b, c, sp, h1, hv, hm1, -⟩
  · have hx' : Env.ev E x = some (.slice none 0 0) := by rw [← evl_ev, hx.out, hv]
    rw [hm0, List.nil_append] at hp
    obtain ⟨s, w', hr, ho⟩ := run_app_nil (L := L1) (ty := ty) (b2 := b2) (off2 := 0) (m := m) (c2 := c2) (news := rowL enc ys) hT.out hz.out hz.cells hk.out hB.out hzk hp ⟨T2, fz, hf⟩ (by rw [rowL_len (k := k), hm]) (fun j u hu => by rw [Nat.zero_add]; simpa [row] using hu) hb.1 (by simpa using hb.2.1) (by simpa using hb.2.2)
    refine ⟨SlS.at_ s.1.1 s.1.2.1 s.1.2.2 (by rw [List.nil_append, hm]; exact s.2) hne, w', ?_, ho⟩
    have h3 := run_appop (d := some t) (pos := pos) (aft := aft) (gd := gd) ha hx' (isE (x := y)) hr
    rw [h3]
    show _ = Result.ok (Next.value (Value.slice _ ([] ++ ys).length _)) w'
    rw [List.nil_append, hm]
  · have hx' : Env.ev E x = some (.slice (some ⟨b, 0, none⟩) xs.length c) := by rw [← evl_ev, hx.out, hv]
    rw [hm1] at hp
    obtain ⟨s, w', hr, ho⟩ := run_app (L1 := L1) (ty := ty) (b := b) (len := xs.length) (c := c) (b2 := b2) (off2 := 0) (m := m) (c2 := c2) (xs := rowL enc xs) (sp := sp) (news := rowL enc ys) hT.out hz.out hz.cells hk.out hB.out hzk hp (.refl _) (rowL_len xs) h1.2 h1.1 ⟨T2, fz, hf⟩ (by rw [rowL_len (k := k), hm]) (fun j u hu => by rw [Nat.zero_add]; simpa [row] using hu) (row_one ys) hb.2.1 hb.2.2
    refine ⟨SlS.at_ s.1.1 s.1.2.1 s.1.2.2 (by rw [hlen]; exact s.2) hne, w', ?_, ?_⟩
    · have h3 := run_appop (d := some t) (pos := pos) (aft := aft) (gd := gd) ha hx' (isE (x := y)) hr
      rw [h3]
      show _ = Result.ok (Next.value (Value.slice _ (xs ++ ys).length _)) w'
      rw [hlen]
    · show Own w0 (⟨s.1.1, row enc (xs ++ ys) s.1.2.2, T⟩ :: L1) w'
      rw [row, rowL_append]
      exact ho
theorem sU (hg : guardB ops E gd = some true) (hd' : Nat.blt t n = true) (hm : ys.length = m) (hzk : zc.size = k) (hb : 0 < m ∧ (xs.length + m) * B ≤ 140737488355328 ∧ xs.length + m ≤ 9223372036854775807)
    (h : ∀ s' : SlS enc k (xs ++ ys), JO P w0 n ops Q rest ((t, vSl s') :: E) (mS T s' ++ L1)) : JO P w0 n ops Q (⟨some t, .call ⟨.builtin .append, #[x, y], #[S, S]⟩, ty, pos, aft, gd⟩ :: rest) E L :=
  jo_w (L' := SlS enc k (xs ++ ys)) (o := ⟨some t, .call ⟨.builtin .append, #[x, y], #[S, S]⟩, ty, pos, aft, gd⟩) hg hd' (fun s => vSl s) (fun s => mS T s ++ L1)
    (fun a w ha hw => by
      obtain ⟨s, w', hr, ho⟩ := app_runU (hx := hx) (hy := hy) (hd := hd) (h2 := h2) (hT := hT) (hz := hz) (he := he) (hk := hk) (hB := hB) hm hzk hb a w ha hw
      exact ⟨s, w', .inl hr, ho⟩) h
theorem eU {K : Env → List Blk → Prop} {Lw : List Blk} (hg : guardB ops E gd = some true) (hd' : Nat.blt t n = true) [hw : SblC Lw L1] (hm : ys.length = m) (hzk : zc.size = k) (hb : 0 < m ∧ (xs.length + m) * B ≤ 140737488355328 ∧ xs.length + m ≤ 9223372036854775807)
    (h : ∀ s' : SlS enc k (xs ++ ys), JE P w0 n ops Lw K rest ((t, vSl s') :: E) (mS T s' ++ L1)) : JE P w0 n ops Lw K (⟨some t, .call ⟨.builtin .append, #[x, y], #[S, S]⟩, ty, pos, aft, gd⟩ :: rest) E L :=
  je_old (S := SlS enc k (xs ++ ys)) (o := ⟨some t, .call ⟨.builtin .append, #[x, y], #[S, S]⟩, ty, pos, aft, gd⟩) hg hd' (fun s => vSl s) (fun s => mS T s ++ L1)
    (fun a w ha hw => by
      obtain ⟨s, w', hr, ho⟩ := app_runU (hx := hx) (hy := hy) (hd := hd) (h2 := h2) (hT := hT) (hz := hz) (he := he) (hk := hk) (hB := hB) hm hzk hb a w ha hw
      exact ⟨s, w', .inl hr, ho⟩) (fun _ => weak_sub (hw.out.trans (List.sublist_append_right _ _))) h
end
section
variable {α : Type} {enc : α → Array Value} {S T : TypeId} {b c b2 o2 m c2 k B : Nat} {ys : List α} {sp : List Value} {z : Value} {zc : Array Value}
variable [hx : IsC (evl E x) (.slice (some ⟨b, 0, none⟩) 0 c)] [hy : IsC (evl E y) (.slice (some ⟨b2, o2, none⟩) m c2)] [hd : DelC b L (row enc [] sp) T L1] [h2 : RowC w0 L b2 o2 α enc ys] [hT : UndC P S (.slice T)] [hz : ZeroC P T z zc] [he : EncC enc k] [hk : SizeC P T k] [hB : BytesC P T B]
include hx hy hd h2 hT hz he hk hB
theorem app_runG (hm : ys.length = m) (hne : ys ≠ []) (hs : sp.length = c * k) (hzk : zc.size = k) (hk0 : 0 < k) (hb : m * B ≤ 140737488355328 ∧ m ≤ 9223372036854775807) (a : Act) (w : World) (ha : Rep n E a) (hw : Own w0 L w) :
    ∃ s' : SlS enc k ys, ∃ w', (execOp a.eval ⟨some t, .call ⟨.builtin .append, #[x, y], #[S, S]⟩, ty, pos, aft, gd⟩).run P w = .ok (.value (vSl s')) w' ∧ Own w0 (mS T s' ++ L1) w' := by
  obtain ⟨cs, T2, fz, hf, hcell⟩ := h2.out w hw
  have hcs : ∀ j u, (rowL enc ys)[j]? = some u → cs[o2 + j]? = some u := fun j u hu => by
    have hj : j < (rowL enc ys).length := by
      rcases Nat.lt_or_ge j (rowL enc ys).length with h | h
      · exact h
      · rw [List.getElem?_eq_none h] at hu; cases hu
    rw [rowL_len (k := k)] at hj
    obtain ⟨q, f, rfl, hf'⟩ : ∃ q f, j = q * k + f ∧ f < k := ⟨j / k, j % k, by rw [Nat.mul_comm]; exact (Nat.div_add_mod j k).symm, Nat.mod_lt _ hk0⟩
    have hq : q < ys.length := by
      rcases Nat.lt_or_ge q ys.length with h3 | h3
      · exact h3
      · have := Nat.mul_le_mul_right k h3
        omega
    rw [rowL_get ys q f hq hf'] at hu
    rw [← Nat.add_assoc]
    exact (hcell q f k u hq he.size hu).1
  obtain ⟨⟨⟨b', c', sp'⟩, hs1⟩, w', hr, ho⟩ := run_app (L1 := L1) (ty := ty) (b := b) (len := 0) (c := c) (b2 := b2) (off2 := o2) (m := m) (c2 := c2) (xs := []) (sp := sp) (news := rowL enc ys) hT.out hz.out hz.cells hk.out hB.out hzk hw (by simpa [row, rowL_nil] using hd.out) (by simp) (by simpa using hs) (Nat.zero_le _) ⟨T2, fz, hf⟩ (by rw [rowL_len (k := k), hm]) hcs (row_one ys) (by simpa using hb.1) (by simpa using hb.2)
  simp only [Nat.zero_add] at hs1 hr ho
  refine ⟨SlS.at_ b' c' sp' (by rw [hm]; exact hs1) hne, w', ?_, ?_⟩
  · have h3 := run_appop (d := some t) (pos := pos) (aft := aft) (gd := gd) ha (isE (x := x)) (isE (x := y)) hr
    rw [h3]
    show _ = Result.ok (Next.value (Value.slice _ ys.length _)) w'
    rw [hm]
  · show Own w0 (⟨b', row enc ys sp', T⟩ :: L1) w'
    simpa [row] using ho
theorem sG (hg : guardB ops E gd = some true) (hd' : Nat.blt t n = true) (hm : ys.length = m) (hne : ys ≠ []) (hs : sp.length = c * k) (hzk : zc.size = k) (hk0 : 0 < k) (hb : m * B ≤ 140737488355328 ∧ m ≤ 9223372036854775807)
    (h : ∀ s' : SlS enc k ys, JO P w0 n ops Q rest ((t, vSl s') :: E) (mS T s' ++ L1)) : JO P w0 n ops Q (⟨some t, .call ⟨.builtin .append, #[x, y], #[S, S]⟩, ty, pos, aft, gd⟩ :: rest) E L :=
  jo_w (L' := SlS enc k ys) (o := ⟨some t, .call ⟨.builtin .append, #[x, y], #[S, S]⟩, ty, pos, aft, gd⟩) hg hd' (fun s => vSl s) (fun s => mS T s ++ L1)
    (fun a w ha hw => by
      obtain ⟨s, w', hr, ho⟩ := app_runG (hx := hx) (hy := hy) (hd := hd) (h2 := h2) (hT := hT) (hz := hz) (he := he) (hk := hk) (hB := hB) hm hne hs hzk hk0 hb a w ha hw
      exact ⟨s, w', .inl hr, ho⟩) h
end
end
/-- A list that is made from another one, element by element. -/
def mpN {α β : Type} [Inhabited α] (f : α → β) (xs : List α) : Nat → List β
  | 0 => []
  | m + 1 => mpN f xs m ++ [f (gi xs (m : Int))]
theorem mpN_len {α β : Type} [Inhabited α] (f : α → β) (xs : List α) : ∀ m, (mpN f xs m).length = m
  | 0 => rfl
  | m + 1 => by rw [mpN, List.length_append, mpN_len f xs m]; rfl
theorem mpN_take {α β : Type} [Inhabited α] (f : α → β) (xs : List α) : ∀ m, m ≤ xs.length → mpN f xs m = (xs.take m).map f
  | 0, _ => rfl
  | m + 1, h => by
    rw [mpN, mpN_take f xs m (by omega), List.take_succ_eq_append_getElem (by omega), List.map_append, gi_nat (by omega)]
    rfl
theorem mpN_all {α β : Type} [Inhabited α] (f : α → β) (xs : List α) : mpN f xs xs.length = xs.map f := by rw [mpN_take f xs _ (Nat.le_refl _), List.take_length]
end Go.Vt
/- Calls that turn their caller's own memory, under the program logic. Conditions: those that each rule names. -/
set_option linter.unusedSimpArgs false
set_option linter.unusedVariables false
set_option maxHeartbeats 2000000
set_option linter.unusedSectionVars false
namespace Go.Vt
open Go.RowKit
/-- What a call comes to that turns memory of its caller's own. -/
def RetX (w0 : World) (S : Type) (val : S → Value) (mem : S → List Blk) (e : Ending) (w' : World) : Prop := ∃ s, e = .returned (val s) ∧ Own w0 (mem s) w'
class SpecX (P : Program) (w0 : World) (L : List Blk) (f : FuncId) (args : List Value) (S : outParam Type) (val : outParam (S → Value)) (mem : outParam (S → List Blk)) (pre : outParam Prop) : Prop where
  out : pre → ∀ w, Own w0 L w → Calls P f args.toArray w (RetX w0 S val mem)
section
variable {P : Program} {w0 : World} {n : Nat} {ops : Array Oper} {L : List Blk} {E : Env}
variable {Q : Exit → Act → World → Prop} {rest : List Oper}
variable {ty : TypeId} {pos : String} {aft : Array Edge} {gd : Option (Nat × Bool)} {t : Tmp}
theorem fn_introL {f : FuncId} {fn : Func} {c : Code} {l : List Value} {w : World} {R : Ending → World → Prop} (hf : P.funcs[f]? = some fn) (hb : fn.body = some c) (hn : fn.ntmps = n) (hl : Nat.ble l.length n = true) [hE : EnvC l E]
    (hw : Own w0 L w) (h : J P w0 n c (bodyPost P fn R) E L) : Calls P f l.toArray w R := by
  rw [← hE.out] at h
  have hl' : l.length ≤ n := Nat.le_of_ble_eq_true hl
  refine calls_of_wp hf hb (h.out _ _ ⟨by simp [hn]; omega, rfl, fun k v hk => ?_⟩ hw)
  obtain ⟨_, h2⟩ := find_envOf l 0 k v hk
  have hlt : k < l.length := by
    rcases Nat.lt_or_ge k l.length with h' | h'
    · exact h'
    · simp [List.getElem?_eq_none h'] at h2
  simp only [Nat.sub_zero] at h2
  rw [Array.getElem?_append_left (by simpa using hlt)]
  simpa using h2
theorem jx_end0 {fn : Func} {R : Ending → World → Prop} (hres : fn.results = #[]) (h : ∀ w, Own w0 L w → R (.returned (.tuple #[])) w) : JX w0 n .normal (bodyPost P fn R) E L := jx_end (fun a w ha _ => by simp [results, hres]) h
theorem jx_ret0 {fn : Func} {R : Ending → World → Prop} (hres : fn.results = #[]) (h : ∀ w, Own w0 L w → R (.returned (.tuple #[])) w) : JX w0 n .ret (bodyPost P fn R) E L := jx_ret (fun a w ha _ => by simp [results, hres]) h
section
variable {S : Type} {val : S → Value} {mem : S → List Blk} {f : FuncId} {xs : List Operand} {l : List Value} {ats : Array TypeId} {pre : Prop}
theorem sZ [hf : CallC P f] [hl : IsC (evsl E xs) l] [hc : SpecX P w0 L f l S val mem pre] (hg : guardB ops E gd = some true) (hd : Nat.blt t n = true) (s : pre) (h : ∀ s, JO P w0 n ops Q rest ((t, val s) :: E) (mem s)) : JO P w0 n ops Q (⟨some t, .call ⟨.value (.func f), xs.toArray, ats⟩, ty, pos, aft, gd⟩ :: rest) E L :=
  jo_c (S := S) (o := ⟨some t, .call ⟨.value (.func f), xs.toArray, ats⟩, ty, pos, aft, gd⟩) hg hd val mem (fun _ _ ha => run_call hf.out ha isS) (fun w hw => hc.out s w hw) h
theorem sY {u : Tmp} {cap c : List Value} [hu : IsC (evl E (.tmp u)) (.func (.func f) #[] cap.toArray)] [hf : CallC P f] [hl : IsC (evsl E xs) l] [ha : AppC l cap c] [hc : SpecX P w0 L f c S val mem pre] (hg : guardB ops E gd = some true) (hd : Nat.blt t n = true) (s : pre) (h : ∀ s, JO P w0 n ops Q rest ((t, val s) :: E) (mem s)) : JO P w0 n ops Q (⟨some t, .call ⟨.value (.tmp u), xs.toArray, ats⟩, ty, pos, aft, gd⟩ :: rest) E L :=
  jo_c (S := S) (o := ⟨some t, .call ⟨.value (.tmp u), xs.toArray, ats⟩, ty, pos, aft, gd⟩) hg hd val mem (fun _ _ hr => run_callcl hf.out hr isE isS ha.out) (fun w hw => hc.out s w hw) h
end
end
end Go.Vt
/- A region that draws its order: values that look at memory ahead of all effects, values that look at no memory anywhere, then effects. Conditions: the closed check 'sgA'. -/
set_option linter.unusedSimpArgs false
set_option linter.unusedVariables false
set_option maxHeartbeats 2000000
set_option linter.unusedSectionVars false
namespace Go.Vt
open Go.RowKit
section
variable {P : Program} {w0 : World} {n : Nat} {ops : Array Oper} {L L' Lw : List Blk} {E : Env}
variable {Q : Exit → Act → World → Prop} {rest : List Oper} {v : Value} {Z : List Nat}
theorem wpG_first0 {i : Nat} {oi : Oper} {F : List Blk → Act → Prop} (hi : ops[i]? = some oi) (hsel : ∀ (j : Nat) (o : Oper) cs b, ops[j]? = some o → o.op ≠ .select cs b) :
    ∀ (f : Nat) (listed : Array Bool) (es : List Nat) (L : List Blk) (a : Act),
      (∀ j oj, ops[j]? = some oj → j ≠ i → listed.getD j true = false → (∀ e ∈ oj.after, Region.binds .any e = true → e.on ≠ i) → oi.apart ops oj = true) →
      i ∈ Region.ready .any ops listed → YieldsC P w0 [] ops oi v a →
      wpG P w0 ops Z Lw F f (listed.setIfInBounds i true) es L (a.put oi.dst v) → wpG P w0 ops Z Lw F (f + 1) listed es L a := by
  intro f
  induction f with
  | zero =>
    intro listed es L a _ hr hy H
    refine ⟨fun h => (by rw [h] at hr; cases hr), fun j hj => ?_⟩
    by_cases hji : j = i
    · subst hji
      exact ⟨oi, hi, .inl ⟨v, hy.weak (weak_sub (List.nil_sublist _)), H⟩⟩
    · have := ready_mono hj hji
      rw [H.2.1] at this
      cases this
  | succ f ih =>
    intro listed es L a hfree hr hy H
    have hun := (mem_ready.1 hr).1
    refine ⟨fun h => (by rw [h] at hr; cases hr), fun j hj => ?_⟩
    by_cases hji : j = i
    · subst hji
      exact ⟨oi, hi, .inl ⟨v, hy.weak (weak_sub (List.nil_sublist _)), H⟩⟩
    · obtain ⟨hjun, oj, hoj, hall⟩ := mem_ready.1 hj
      have hnot : ∀ e ∈ oj.after, Region.binds .any e = true → e.on ≠ i := fun e he hb heq => by
        have h1 := hall e he hb
        rw [heq, getD_both hun] at h1
        cases h1
      obtain ⟨h1, h2, h3⟩ := Oper.apart_spec (hfree j oj hoj hji hjun hnot)
      have hfree' : ∀ q oq, ops[q]? = some oq → q ≠ i → (listed.setIfInBounds j true).getD q true = false →
          (∀ e ∈ oq.after, Region.binds .any e = true → e.on ≠ i) → oi.apart ops oq = true := fun q oq hq hqi hun' hno => by
        refine hfree q oq hq hqi ?_ hno
        by_cases hjq : j = q
        · subst hjq; exact hjun
        · rw [getD_set_ne true hjq] at hun'; exact hun'
      have keep : ∀ u, YieldsC P w0 [] ops oi v (a.put oj.dst u) := fun u => hy.same (execOp_put oi (fun cs b => hsel i oi cs b hi) a oj.dst u h3) (wanted_put oi a oj.dst u h3)
      have hex : execOp (a.put oi.dst v).eval oj = execOp a.eval oj := execOp_put oj (fun cs b => hsel j oj cs b hoj) a oi.dst v h1
      have hwa : Region.wanted oj (yielded ops (a.put oi.dst v).tmps) = Region.wanted oj (yielded ops a.tmps) := wanted_put oj a oi.dst v h1
      have step : ∀ es' L' u, wpG P w0 ops Z Lw F f ((listed.setIfInBounds i true).setIfInBounds j true) es' L' ((a.put oi.dst v).put oj.dst u) → wpG P w0 ops Z Lw F (f + 1) (listed.setIfInBounds j true) es' L' (a.put oj.dst u) := fun es' L' u hh => by
        refine ih _ _ _ _ hfree' (ready_mono hr (Ne.symm hji)) (keep u) ?_
        rw [Array.setIfInBounds_comm _ _ hji, ← Act.put_comm a v u h2]
        exact hh
      obtain ⟨o, ho, hH⟩ := H.2 j (ready_mono hj hji)
      have : o = oj := Option.some.inj (ho.symm.trans hoj)
      subst this
      refine ⟨o, ho, ?_⟩
      rcases hH with ⟨u, hu, hK⟩ | ⟨es', he, hE⟩
      · exact .inl ⟨u, hu.same hex.symm hwa.symm, step _ _ _ hK⟩
      · refine .inr ⟨es', he, hwa ▸ hE.1, fun w hw1 => ?_⟩
        have hH := hE.2 w hw1
        rw [hex] at hH
        exact hH.mono fun u w' ⟨L', h5, h6, h7⟩ => ⟨L', h5, h6, step _ _ _ h7⟩
/-- What a value may look at. -/
def lk (b : Bool) (L : List Blk) : List Blk := match b with | true => [] | false => L
def sgN : List (Bool × List Nat) → Nat
  | [] => 0
  | p :: ps => p.2.length + sgN ps
def sgB (ops : Array Oper) (es : List Nat) : List (Bool × List Nat) → Array Bool → Bool
  | [], listed => seqE ops es listed
  | p :: ps, listed => (p.1 || zB ops es p.2) && lexF ops (sgB ops es ps) p.2 listed
def sgA (ops : Array Oper) (ps : List (Bool × List Nat)) (es : List Nat) : Bool :=
  Region.noSelect ops && decide (sgN ps + es.length = ops.size) && es.all (fun i => decide (i < ops.size)) && sgB ops es ps (Array.replicate ops.size false)
def SG (P : Program) (w0 : World) (L : List Blk) (l : List Oper) (G : Act → Prop) : List (Bool × List Nat) → Act → Prop
  | [], a => G a
  | p :: ps, a => AH P w0 (lk p.1 L) l.toArray (SG P w0 L l G ps) (picks l p.2) a
def JS (P : Program) (w0 : World) (n : Nat) (L : List Blk) (l : List Oper) (K : Env → Prop) : List (Bool × List Nat) → Env → Prop
  | [], E => K E
  | p :: ps, E => JH P w0 n (lk p.1 L) l.toArray (JS P w0 n L l K ps) (picks l p.2) E
theorem wpG_of_ahS {l : List Oper} {F : List Blk → Act → Prop} {es : List Nat} {G : Act → Prop} {N : Nat} {k : Array Bool → Bool} {pu : Bool} (hk : ∀ listed a, k listed = true → G a → wpG P w0 l.toArray Z L F N listed es L a) (hsel : Region.noSelect l.toArray = true) : ∀ (hs : List Nat) (listed : Array Bool) (a : Act), (pu || zB l.toArray Z hs) = true → lexF l.toArray k hs listed = true →
    AH P w0 (lk pu L) l.toArray G (picks l hs) a → wpG P w0 l.toArray Z L F (hs.length + N) listed es L a
  | [], listed, a, _, hB, h => by
    rw [List.length_nil, Nat.zero_add]
    exact hk listed a hB h
  | i :: hs, listed, a, hz, hB, h => by
    simp only [lexF, Bool.and_eq_true] at hB
    obtain ⟨⟨hr, hf⟩, hB'⟩ := hB
    have hr' : i ∈ Region.ready .any l.toArray listed := by simpa using hr
    obtain ⟨_, o, ho, _⟩ := mem_ready.1 hr'
    have ho' : l[i]? = some o := by simpa using ho
    simp only [picks, ho', AH] at h
    obtain ⟨v, hy, h⟩ := h
    rw [show (i :: hs).length + N = (hs.length + N) + 1 by simp only [List.length_cons]; omega]
    cases pu with
    | true => exact wpG_first0 ho (Region.noSelect_spec hsel) _ _ _ _ _ (Region.free_spec ho hf) hr' hy (wpG_of_ahS hk hsel hs _ _ rfl hB' h)
    | false =>
      simp only [Bool.false_or] at hz
      have hz' : zB l.toArray Z hs = true := by
        refine List.all_eq_true.2 fun z hzz => ?_
        have h1 := List.all_eq_true.1 hz z hzz
        cases ho : l.toArray[z]? with
        | none => rfl
        | some o =>
          simp only [ho] at h1
          exact List.all_eq_true.2 fun x hx => List.all_eq_true.1 h1 x (.tail _ hx)
      exact wpG_first ho (Region.noSelect_spec hsel) (zB_spec hz (.head _)) _ _ _ _ _ (Region.free_spec ho hf) hr' hy (weak_sub (List.Sublist.refl _)) (wpG_of_ahS hk hsel hs _ _ (by rw [Bool.false_or]; exact hz') hB' h)
theorem wpG_of_sg {l : List Oper} {F : List Blk → Act → Prop} {es : List Nat} (hsel : Region.noSelect l.toArray = true) : ∀ (ps : List (Bool × List Nat)) (listed : Array Bool) (a : Act), sgB l.toArray es ps listed = true → SG P w0 L l (EC P w0 l.toArray es L F es L) ps a → wpG P w0 l.toArray es L F (sgN ps + es.length) listed es L a
  | [], listed, a, hB, h => by
    rw [sgN, Nat.zero_add]
    exact wpG_of_ec es listed L a hB h
  | p :: ps, listed, a, hB, h => by
    simp only [sgB, Bool.and_eq_true] at hB
    rw [sgN, Nat.add_assoc]
    exact wpG_of_ahS (pu := p.1) (k := sgB l.toArray es ps) (G := SG P w0 L l (EC P w0 l.toArray es L F es L) ps) (fun listed a hb hG => wpG_of_sg hsel ps listed a hb hG) hsel p.2 listed a hB.1 hB.2 h
theorem sg_of_js {l : List Oper} {K : Env → Prop} {G : Act → Prop} (hK : ∀ E a, Rep n E a → K E → G a) : ∀ (ps : List (Bool × List Nat)) (E : Env) (a : Act), Rep n E a → JS P w0 n L l K ps E → SG P w0 L l G ps a
  | [], E, a, ha, h => hK E a ha h
  | p :: ps, E, a, ha, h => ah_of_jh (n := n) (fun E' a' ha' hK' => sg_of_js hK ps E' a' ha' hK') _ _ _ ha h
theorem j_seg {id : Nat} {l : List Oper} (ps : List (Bool × List Nat)) (es : List Nat) (hm : P.follows .mixedOrders = true := by exact mixed) (hB : sgA l.toArray ps es = true := by kernel_rfl)
    (h : JS P w0 n L l (fun E' => JE P w0 n l.toArray [] (fun E2 L2 => JX w0 n .normal Q E2 L2) (picks l es) E' L) ps E) : J P w0 n (.region id l.toArray true) Q E L := by
  refine ⟨fun a w ha hw => ?_⟩
  simp only [sgA, Bool.and_eq_true, decide_eq_true_eq] at hB
  obtain ⟨⟨⟨hsel, hlen⟩, hall⟩, hlex⟩ := hB
  refine wp_region_any hm ?_
  have hz : ∀ i ∈ es, lwZ es i L = [] := fun i hi => by
    unfold lwZ
    rw [if_pos (by simpa using hi)]
  have H := wpG_of_sg (P := P) (w0 := w0) (L := L) (F := fun L a => ∀ w, Own w0 L w → Q .normal a w) (es := es) hsel ps _ a hlex
    (sg_of_js (n := n) (fun E' a' ha' hK => ec_of_je (n := n) (fun E2 L2 a2 ha2 hx w hw => hx.out a2 w ha2 hw) es E' L a' (by simpa using hall) hz ha' hK) ps E a ha h)
  have := wpAny_of_wpG (P := P) (Q := Q) (fun L a w hF hw => hF w hw) _ _ _ _ _ w.drew (hw.to (Ext.drew w)) H
  rw [hlen] at this
  exact this
end
section
variable {P : Program} {w0 : World} {n : Nat} {ops : Array Oper} {L L' Lw : List Blk} {E : Env} {K : Env → List Blk → Prop}
variable {rest : List Oper} {ty : TypeId} {pos : String} {aft : Array Edge} {gd : Option (Nat × Bool)} {x y : Operand} {T T0 : TypeId}
variable {α : Type} {enc : α → Array Value} {k b : Nat} {xs : List α} {sp : List Value} {i : Int}
/-- An element is turned, in the tail. -/
theorem eR {u : Value} {z : α} [hx : IsC (evl E x) (.pointer (some ⟨b, 0 + i.toNat * k, none⟩))] [hy : IsC (evl E y) u] [hk : SizeC P T k] [MemC b L (row enc xs sp) T0] [he : EncC enc k] [hu : ValC enc u z] [hU : UpdC b (row enc (xs.set i.toNat z) sp) L (row enc xs sp) T0 L'] [hw : SblC Lw L']
    (hg : guardB ops E gd = some true) (s : i.toNat < xs.length) (h : JE P w0 n ops Lw K rest E L') : JE P w0 n ops Lw K (⟨none, .store T x y, ty, pos, aft, gd⟩ :: rest) E L := by
  have h1 := he.size z
  have hle := Nat.mul_le_mul_right k (show i.toNat + 1 ≤ xs.length from s)
  rw [Nat.add_mul] at hle
  exact je_store (u := u) k isE isE hU.out hk.out (by rw [hu.out, h1]) (by rw [row_size (k := k)]; exact Nat.ble_eq_true_of_le (by omega)) (by rw [hu.out]; exact he.one z) (by rw [hu.out, Nat.zero_add]; exact spl_row xs sp _ z s) hg hw.out h
end
theorem wkS {P Q : Prop} (k : Q) (h : Wr Q → P := by intro hq; simp only [JS, lk, picks, List.getElem?_cons_succ, List.getElem?_cons_zero]; exact hq.out) : P := h ⟨k⟩
end Go.Vt
/- Nil tests, methods of interface values under the program logic. Conditions: those that each rule names. -/
set_option linter.unusedSimpArgs false
set_option linter.unusedVariables false
set_option maxHeartbeats 2000000
set_option linter.unusedSectionVars false
set_option maxRecDepth 100000
namespace Go.Vt
open Go.RowKit Go.Proofs
section
variable {P : Program} {T e : TypeId}
theorem run_eql_slice_nil' (w : World) (a : Option Addr) (l c : Nat) (h : P.underlying T = some (.slice e)) : (binOp .eql T (.slice a l c) (.slice none 0 0)).run P w = .ok (.bool a.isNone) w := by
  simp only [binOp]
  simp [run_equal_slice_nil w T e a l c h]
instance bin_eql_nil0 [h : UndC P T (.slice e)] : BinC P .eql T (.slice none 0 0) (.slice none 0 0) (.bool true) := ⟨fun x y w => by rw [eqGuard_at_slice]; rfl, fun w => run_eql_slice_nil' w none 0 0 h.out⟩
instance bin_eql_nil1 {a : Addr} {l c : Nat} [h : UndC P T (.slice e)] : BinC P .eql T (.slice (some a) l c) (.slice none 0 0) (.bool false) := ⟨fun x y w => by rw [eqGuard_at_slice]; rfl, fun w => run_eql_slice_nil' w (some a) l c h.out⟩
/-- What a pointer points at. -/
class PtrC (P : Program) (T : TypeId) : Prop where
  out : P.underlying T = some (.pointer (P.pointee T))
instance bin_neq_ptr0 [h : PtrC P T] : BinC P .neq T (.pointer none) (.pointer none) (.bool false) := ⟨fun x y w => by rw [eqGuard_at_pointer]; rfl, fun w => run_neq_pointer_nil w T none h.out⟩
instance bin_neq_ptr1 {a : Addr} [h : PtrC P T] : BinC P .neq T (.pointer (some a)) (.pointer none) (.bool true) := ⟨fun x y w => by rw [eqGuard_at_pointer]; rfl, fun w => run_neq_pointer_nil w T (some a) h.out⟩
end
/-- No interface type. -/
class NifC (P : Program) (T : TypeId) : Prop where
  out : ∀ v w, (Instr.makeInterface T v).run P w = .ok (.iface T v) w
class MethC (P : Program) (t : TypeId) (v : Value) (name : String) (f : outParam FuncId) (r : outParam Value) : Prop where
  out : ∀ w, (method (P.types.size + Made.depth) t v name).run P w = .ok (f, r) w
class NahC (P : Program) (t : TypeId) (v : Value) (name : String) : Prop where
  out : ∀ w, (nilAhead (P.types.size + Made.depth) t v name).run P w = .ok (some false) w
section
variable {P : Program} {w0 : World} {n : Nat} {L : List Blk} {E : Env} {x : Operand} {v : Value}
variable {d : Option Tmp} {ty : TypeId} {pos : String} {aft : Array Edge} {gd : Option (Nat × Bool)}
instance yk_nilCheckP {a : Addr} [IsC (evl E x) (.pointer (some a))] : YlC P w0 n L E (.nilCheck x) (.pointer (some a)) := ⟨fun d ty pos aft gd => ⟨fun b w hb _ => by
  unfold calm
  simp only [execOp, hb.ev (isE (x := x)), Sem.run_pure]
  exact ⟨rfl, Ext.refl _⟩⟩⟩
instance yk_mkIface {T : TypeId} [hx : IsC (evl E x) v] [h : NifC P T] : YlC P w0 n L E (.makeInterface T x) (.iface T v) := ⟨fun d ty pos aft gd => yl_run (fun _ => Instr.makeInterface T v) (fun a ha => by simp only [execOp, ha.ev (isE (x := x))]) (fun a w _ _ => h.out v w)⟩
instance yk_mkMeth {name : String} {xs : List Operand} {l : List Value} [h : IsC (evsl E xs) l] : YlC P w0 n L E (.makeFunc (.method name) xs.toArray #[]) (.func (.method name) l.toArray #[]) := ⟨fun d ty pos aft gd => yl_run (fun _ => Instr.makeFunc (.method name) l.toArray #[]) (fun a ha => by
  have h1 : xs.toArray.map a.eval = l.toArray := by rw [← ha.evs xs l isS]; simp
  simp only [execOp, h1, Array.map_empty]) (fun a w _ _ => by simp [Instr.makeFunc])⟩
instance yk_nilCheckM {name : String} {t : TypeId} {u : Value} [hx : IsC (evl E x) (.func (.method name) [.iface t u].toArray #[])] [h : NahC P t u name] : YlC P w0 n L E (.nilCheck x) (.func (.method name) [.iface t u].toArray #[]) := ⟨fun d ty pos aft gd => ⟨fun b w hb _ => by
  unfold calm
  have h1 := h.out w
  have h2 : (execOp b.eval ⟨d, .nilCheck x, ty, pos, aft, gd⟩).run P w = .ok (.value (.func (.method name) [.iface t u].toArray #[])) w := by
    simp only [execOp, hb.ev (isE (x := x))]
    simp [Sem.run_bind, h1]
  rw [h2]
  exact ⟨rfl, Ext.refl _⟩⟩⟩
theorem run_invoke {name : String} {t : TypeId} {u r : Value} {f : FuncId} {xs : List Operand} {l : List Value} {ats : Array TypeId} {a : Act} {w : World} (hf : callableB P f = true) (hm : ∀ w, (method (P.types.size + Made.depth) t u name).run P w = .ok (f, r) w) (ha : Rep n E a) (hx : Env.ev E x = some (.iface t u)) (hl : Env.evs E xs = some l) :
    (execOp a.eval ⟨d, .call ⟨.invoke x name, xs.toArray, ats⟩, ty, pos, aft, gd⟩).run P w = .ok (.enter f (r :: l).toArray) w := by
  have h1 : xs.toArray.map a.eval = l.toArray := by rw [← ha.evs xs l hl]; simp
  simp only [execOp, resolve, h1, ha.ev hx, Sem.run_bind, Sem.run_pure, Result.andThen, invoke]
  have h2 : (#[Value.iface t u] ++ l.toArray)[0]? = some (.iface t u) := by simp
  have h3 : (#[Value.iface t u] ++ l.toArray).extract 1 (#[Value.iface t u] ++ l.toArray).size = l.toArray := by apply Array.ext'; simp
  simp only [h2, h3, callMethod, Sem.run_bind, hm, Result.andThen]
  have h4 : (#[r] ++ l.toArray) = (r :: l).toArray := by simp
  rw [show Sem.run P program w = Result.ok P w from rfl]
  simp only [hm, h4]
  exact run_callFunc hf _ _
instance yc_invoke {name : String} {t : TypeId} {u r : Value} {f : FuncId} {xs : List Operand} {l : List Value} {ats : Array TypeId} {pre : Prop} [hx : IsC (evl E x) (.iface t u)] [hl : IsC (evsl E xs) l] [hm : MethC P t u name f r] [hf : CallC P f] [h : SpecM P w0 L f (r :: l) v pre] : YcC P w0 n L E (.call ⟨.invoke x name, xs.toArray, ats⟩) v pre := ⟨fun hp _ _ _ _ _ => ⟨fun a w ha hw => by
  unfold calm
  rw [run_invoke hf.out hm.out ha isE isS]
  exact ⟨rfl, h.out hp w hw⟩⟩⟩
end
end Go.Vt
/- A part of an element of a row is turned. Conditions: those that the rule names. -/
set_option linter.unusedSimpArgs false
set_option linter.unusedVariables false
set_option maxHeartbeats 2000000
set_option linter.unusedSectionVars false
namespace Go.Vt
open Go.RowKit
section
variable {α : Type} {enc : α → Array Value} {k : Nat}
theorem spl_rowF [h : EncC enc k] (xs : List α) (sp : List Value) (i f : Nat) (z : α) (us : List Value) (hi : i < xs.length) (hf : f + us.length ≤ k) (hz : spl (enc xs[i]) f us = enc z) : spl (row enc xs sp) (i * k + f) us = row enc (xs.set i z) sp := by
  have hle := Nat.mul_le_mul_right k (show i + 1 ≤ xs.length from hi)
  rw [Nat.add_mul] at hle
  have hsz := h.size z
  have hsx := h.size xs[i]
  apply Array.ext_getElem?
  intro j
  rw [spl_get _ _ _ _ (by rw [row_size (k := k)]; omega)]
  by_cases h1 : i * k ≤ j ∧ j < i * k + k
  · obtain ⟨m, rfl⟩ : ∃ m, j = i * k + m := ⟨j - i * k, by omega⟩
    have hr := row_get (enc := enc) (k := k) (xs.set i z) sp i m (by simpa using hi) (by omega)
    rw [List.getElem_set_self] at hr
    rw [hr, ← hz, spl_get _ _ _ _ (by omega), row_get xs sp i m hi (by omega)]
    by_cases h2 : f ≤ m ∧ m < f + us.length
    · rw [if_pos (by omega), if_pos h2, show i * k + m - (i * k + f) = m - f by omega]
    · rw [if_neg (by omega), if_neg h2]
  · rw [if_neg (by omega)]
    rcases Nat.lt_or_ge j (xs.length * k) with h2 | h2
    · rcases Nat.eq_zero_or_pos k with h0 | h0
      · subst h0; simp at h2
      · obtain ⟨q, m, rfl, hm⟩ : ∃ q m, j = q * k + m ∧ m < k := ⟨j / k, j % k, by rw [Nat.mul_comm]; exact (Nat.div_add_mod j k).symm, Nat.mod_lt _ h0⟩
        have hq : q < xs.length := by
          rcases Nat.lt_or_ge q xs.length with h3 | h3
          · exact h3
          · have := Nat.mul_le_mul_right k h3
            omega
        have hqi : i ≠ q := by
          rintro rfl
          exact h1 ⟨by omega, by omega⟩
        rw [row_get xs sp q m hq hm, row_get _ sp q m (by simpa using hq) hm]
        simp [List.getElem_set_ne hqi]
    · rw [row, row, List.getElem?_toArray, List.getElem?_toArray, List.getElem?_append_right (by rw [rowL_len (k := k)]; exact h2), List.getElem?_append_right (by rw [rowL_len (k := k)]; simpa using h2)]
      simp [rowL_len (k := k)]
end
section
variable {P : Program} {w0 : World} {n : Nat} {ops : Array Oper} {L L' : List Blk} {E : Env}
variable {Q : Exit → Act → World → Prop} {rest : List Oper}
variable {ty : TypeId} {pos : String} {aft : Array Edge} {gd : Option (Nat × Bool)} {x y : Operand} {T T0 : TypeId}
variable {α : Type} [Inhabited α] {enc : α → Array Value} {k b f : Nat} {xs : List α} {sp : List Value} {i : Int}
/-- A part of an element is turned. -/
theorem sRF {u : Value} {cs1 : Array Value} [hx : IsC (evl E x) (.pointer (some ⟨b, 0 + i.toNat * k + f, none⟩))] [hy : IsC (evl E y) u] [MemC b L (row enc xs sp) T0] [he : EncC enc k] [hs : StC P T (enc (gi xs i)) f u cs1] (z : α) (hz : cs1 = enc z) [hU : UpdC b (row enc (xs.set i.toNat z) sp) L (row enc xs sp) T0 L']
    (hg : guardB ops E gd = some true) (s : i.toNat < xs.length) (h : JO P w0 n ops Q rest E L') : JO P w0 n ops Q (⟨none, .store T x y, ty, pos, aft, gd⟩ :: rest) E L := by
  have h1 := he.size (gi xs i)
  have hfit := Nat.le_of_ble_eq_true hs.fit
  have hle := Nat.mul_le_mul_right k (show i.toNat + 1 ≤ xs.length from s)
  rw [Nat.add_mul] at hle
  refine jo_store (u := u) u.cells.size isE isE hU.out hs.size rfl (by rw [row_size (k := k)]; exact Nat.ble_eq_true_of_le (by omega)) hs.one ?_ hg rfl h
  rw [Nat.zero_add]
  refine spl_rowF xs sp i.toNat f z u.cells.toList s (by simp only [Array.length_toList]; omega) ?_
  rw [← gi_eq s, hs.out, hz]
end
end Go.Vt
/- Comparing rational instants, intervals and linear functions. Conditions: the lengths that each statement names, and that the instants are rational. -/
set_option linter.unusedSimpArgs false
set_option linter.unusedVariables false
set_option maxHeartbeats 2000000
set_option maxRecDepth 100000
namespace Go.Vt
open Go.RowKit Go.Proofs
abbrev vIv (I : R_api_Interval) : Value := .agg (e_api_Interval (q_api_Interval I))
abbrev vQd (q : R_api_Quad) : Value := .agg (e_api_Quad (q_api_Quad q))
theorem sg0e (b : Int) {r : Rat} (h : r = 0) : b * r.num.sign = 0 := by
  subst h
  rw [show (0 : Rat).num.sign = 0 from rfl, Int.mul_zero]
theorem sign_sub (a b : Rat) : (a - b).num.sign = cq a b := by
  unfold cq
  split
  · rename_i h
    exact Int.sign_eq_neg_one_iff_neg.2 (by
      have h3 : ¬ 0 ≤ (a - b).num := fun h1 => by
        have := Rat.num_nonneg.1 h1
        grind
      omega)
  · split
    · rename_i h1 h2
      refine Int.sign_eq_one_iff_pos.2 ?_
      have h3 : 0 ≤ (a - b).num := Rat.num_nonneg.2 (by grind)
      have h4 : (a - b).num ≠ 0 := fun h0 => by
        have := Rat.num_eq_zero.1 h0
        grind
      omega
    · rename_i h1 h2
      have : a = b := by grind
      subst this
      rw [show a - a = 0 by grind]
      rfl
instance sp_factor (x : R_api_Real) : SpecC Tryz.prog 148 [vR x] (vQ (if x.Neg then ((-1 : Int) : Rat) else ((1 : Int) : Rat))) True := ⟨fun _ w => by
  refine fn_intro Tryz.func148 rfl Tryz.ntmps148 rfl ?_
  obtain ⟨p, r, b⟩ := x
  cases b
  · repeat (first | (refine wkB ?_; try intro _) | (refine sC rfl rfl ?_ ?_; focus (exact ⟨by decide, by decide⟩)) | (refine sN rfl rfl ?_ ?_; (focus (exact ⟨by decide, by decide⟩)); intro _; (try simp only [List.cons_append, List.nil_append, List.append_nil])))
    exact wx_cell rfl rfl (fun w hw => ret_ok hw)
  · repeat (first | (refine wkB ?_; try intro _) | (refine sC rfl rfl ?_ ?_; focus (exact ⟨by decide, by decide⟩)) | (refine sN rfl rfl ?_ ?_; (focus (exact ⟨by decide, by decide⟩)); intro _; (try simp only [List.cons_append, List.nil_append, List.append_nil])))
    exact wx_cell rfl rfl (fun w hw => ret_ok hw)⟩
instance sp_sign0 (a b r : Rat) : SpecC Tryz.prog 149 [vQ a, vQ b, vQ r] (.int .i64 a.num.sign) (r = 0) := ⟨fun hr w => by
  refine fn_intro Tryz.func149 rfl Tryz.ntmps149 rfl ?_
  have hz := sg0e b.num.sign hr
  repeat (refine wkB ?_; try intro _)
  (refine j_late [0, 1, 2, 3, 4, 5, 6] [7, 8] (_) (h := ?_); refine wkI ?_)
  (repeat (first | refine wkH ?_ | (refine tC rfl rfl ?_ ?_; focus (exact trivial))))
  repeat (refine wkT ?_; try intro _)
  simp only [hz]
  repeat (refine wkB ?_; try intro _)
  exact jx_ret_tmp rfl rfl (fun w hw => ret_ok hw)⟩
instance sp_RealCmp (x y : R_api_Real) : SpecC Tryz.prog 109 [vR x, vR y] (.int .i64 (cq x.P y.P)) ((x.R = 0 ∧ y.R = 0) ∧ M x.P ≤ LQ ∧ M y.P ≤ LQ) := ⟨fun hp w => by
  obtain ⟨⟨hx, hy⟩, h1, h2⟩ := hp
  refine fn_intro Tryz.func109 rfl Tryz.ntmps109 rfl ?_
  have hz := sg0e (-(if y.Neg then ((-1 : Int) : Rat) else ((1 : Int) : Rat))).num.sign hy
  repeat (refine wkB ?_; try intro _)
  (refine jD 10 13 (h := ?_); (repeat (first | refine wkH ?_ | (refine tC rfl rfl ?_ ?_; focus (first | exact trivial | exact ⟨h1, h2⟩)))); refine jh_nil ?_; (repeat (refine wn_new ?_; intro _)); refine jn_nil ?_)
  repeat (refine wkB ?_; try intro _)
  (refine j_late [0, 1, 2, 3, 4, 5, 6, 7, 8, 9, 10] [11, 12] (_) (h := ?_); refine wkI ?_)
  (repeat (first | refine wkH ?_ | (refine tC rfl rfl ?_ ?_; focus (first | exact trivial | exact hx))))
  repeat (refine wkT ?_; try intro _)
  simp only [hz, sign_sub]
  repeat (refine wkB ?_; try intro _)
  exact jx_ret_tmp rfl rfl (fun w hw => ret_ok hw)⟩
instance call_cmpCompare : CallC Tryz.prog 112 := ⟨by kernel_rfl⟩
instance call_cmpOr : CallC Tryz.prog 145 := ⟨by kernel_rfl⟩
instance sp_instant (I : R_api_Interval) : SpecC Tryz.prog 136 [vIv I] (.bool (decide (I.From = I.To))) True := ⟨fun _ w => by
  refine fn_intro Tryz.func136 rfl Tryz.ntmps136 rfl ?_
  repeat (refine wkB ?_; try intro _)
  exact jx_ret_tmp rfl rfl (fun w hw => ret_ok hw)⟩
/-- Does 'b' begin behind 'a'? -/
def aprt (a b : R_api_Interval) : Bool := decide (a.To.P < b.From.P) || (decide (a.To.P = b.From.P) && (a.OpenTo || b.OpenFrom))
instance sp_apart (a b : R_api_Interval) : SpecC Tryz.prog 134 [vIv a, vIv b] (.bool (aprt a b)) ((a.To.R = 0 ∧ b.From.R = 0) ∧ M a.To.P ≤ LQ ∧ M b.From.P ≤ LQ) := ⟨fun hp w => by
  refine fn_intro Tryz.func134 rfl Tryz.ntmps134 rfl ?_
  repeat (first | (refine wkB ?_; try intro _) | (refine sC rfl rfl ?_ ?_; focus (exact hp)) | (refine sN rfl rfl ?_ ?_; (focus (exact hp)); intro _; (try simp only [List.cons_append, List.nil_append, List.append_nil])))
  unfold aprt
  by_cases h1 : a.To.P < b.From.P
  · simp only [decide_eq_true (cq_lt.2 h1)]
    repeat (refine wkB ?_; try intro _)
    simp only [decide_eq_true h1]
    exact jx_ret_tmp rfl rfl (fun w hw => ret_ok hw)
  · simp only [decide_eq_false (fun h => h1 (cq_lt.1 h))]
    repeat (refine wkB ?_; try intro _)
    by_cases h2 : a.To.P = b.From.P
    · simp only [decide_eq_true (cq_eq.2 h2)]
      repeat (refine wkB ?_; try intro _)
      obtain ⟨fa, ta, oa, ca⟩ := a
      simp only at h1 h2 ⊢
      cases ca
      · repeat (refine wkB ?_; try intro _)
        simp only [decide_eq_false h1, decide_eq_true h2]
        exact jx_ret_tmp rfl rfl (fun w hw => ret_ok hw)
      · repeat (refine wkB ?_; try intro _)
        simp only [decide_eq_false h1, decide_eq_true h2]
        exact jx_ret_tmp rfl rfl (fun w hw => ret_ok hw)
    · simp only [decide_eq_false (fun h => h2 (cq_eq.1 h))]
      repeat (refine wkB ?_; try intro _)
      simp only [decide_eq_false h1, decide_eq_false h2]
      exact jx_ret_tmp rfl rfl (fun w hw => ret_ok hw)⟩
instance sp_Constant (c : Rat) : SpecC Tryz.prog 218 [vQ c] (vQd ⟨c, 0, 0⟩) True := ⟨fun _ w => by
  refine fn_intro Tryz.func218 rfl Tryz.ntmps218 rfl ?_
  repeat (refine wkB ?_; try intro _)
  exact wx_cell rfl rfl (fun w hw => ret_ok hw)⟩
instance sp_QSub (p q : R_api_Quad) : SpecC Tryz.prog 208 [vQd p, vQd q] (vQd ⟨p.C0 - q.C0, p.C1 - q.C1, p.C2 - q.C2⟩) ((M p.C0 ≤ LQ ∧ M q.C0 ≤ LQ) ∧ (M p.C1 ≤ LQ ∧ M q.C1 ≤ LQ) ∧ (M p.C2 ≤ LQ ∧ M q.C2 ≤ LQ)) := ⟨fun hp w => by
  obtain ⟨h1, h2, h3⟩ := hp
  refine fn_intro Tryz.func208 rfl Tryz.ntmps208 rfl ?_
  repeat (refine wkB ?_; try intro _)
  (refine jD 16 16 (h := ?_); (repeat (first | refine wkH ?_ | (refine tC rfl rfl ?_ ?_; focus (first | exact h1 | exact h2 | exact h3)))); refine jh_nil ?_; (repeat (refine wn_new ?_; intro _)); refine jn_nil ?_)
  repeat (refine wkB ?_; try intro _)
  exact wx_cell rfl rfl (fun w hw => ret_ok hw)⟩
instance sp_QReduce (q : R_api_Quad) (t : R_api_Real) : SpecC Tryz.prog 207 [vQd q, vR t] (vQd ⟨q.C0 + t.P * (q.C1 + t.P * q.C2), 0, 0⟩) (t.R = 0 ∧ M q.C0 ≤ 34359738368 ∧ M q.C1 ≤ 34359738368 ∧ M q.C2 ≤ 34359738368 ∧ M t.P ≤ 34359738368) := ⟨fun hp w => by
  obtain ⟨h0, h1⟩ := hp
  refine fn_intro Tryz.func207 rfl Tryz.ntmps207 rfl ?_
  repeat (refine wkB ?_; try intro _)
  simp only [if_pos h0, decide_eq_true h0]
  repeat (first | (refine wkB ?_; try intro _) | (refine sC rfl rfl ?_ ?_; focus (first | exact trivial | exact h1)) | (refine sN rfl rfl ?_ ?_; (focus (first | exact trivial | exact h1)); intro _; (try simp only [List.cons_append, List.nil_append, List.append_nil])))
  exact wx_cell rfl rfl (fun w hw => ret_ok hw)⟩
/-- Have two functions the same value? -/
def qsame (p q : R_api_Quad) (t : Rat) : Bool := decide ((⟨p.C0 - q.C0 + t * (p.C1 - q.C1 + t * (p.C2 - q.C2)), 0, 0⟩ : R_api_Quad) = ⟨0, 0, 0⟩)
theorem qsame_iff {p q : R_api_Quad} {t : Rat} : qsame p q t = true ↔ p.C0 - q.C0 + t * (p.C1 - q.C1 + t * (p.C2 - q.C2)) = 0 := by
  unfold qsame
  rw [decide_eq_true_iff]
  simp
instance sp_QSame (p q : R_api_Quad) (t : R_api_Real) : SpecC Tryz.prog 192 [vQd p, vQd q, vR t] (.bool (qsame p q t.P)) (t.R = 0 ∧ (M p.C0 ≤ 8589934592 ∧ M p.C1 ≤ 8589934592 ∧ M p.C2 ≤ 8589934592) ∧ (M q.C0 ≤ 8589934592 ∧ M q.C1 ≤ 8589934592 ∧ M q.C2 ≤ 8589934592) ∧ M t.P ≤ 8589934592) := ⟨fun hp w => by
  obtain ⟨h0, ⟨h1, h2, h3⟩, ⟨h4, h5, h6⟩, h7⟩ := hp
  have := MB.mk h1
  have := MB.mk h2
  have := MB.mk h3
  have := MB.mk h4
  have := MB.mk h5
  have := MB.mk h6
  have := MB.mk h7
  refine fn_intro Tryz.func192 rfl Tryz.ntmps192 rfl ?_
  repeat (refine wkB ?_; try intro _)
  (refine jD 7 7 (h := ?_); (repeat (first | refine wkH ?_ | (refine tC rfl rfl ?_ ?_; focus (first | exact ⟨mb2 rfl rfl, mb2 rfl rfl, mb2 rfl rfl⟩ | exact ⟨h0, MB.lt rfl, MB.lt rfl, MB.lt rfl, MB.lt rfl⟩)))); refine jh_nil ?_; (repeat (refine wn_new ?_; intro _)); refine jn_nil ?_)
  repeat (refine wkB ?_; try intro _)
  exact jx_ret_tmp rfl rfl (fun w hw => ret_ok hw)⟩
def lnX (f : R_api_Line) : R_api_Quad := ⟨f.X0, f.X1, 0⟩
def lnY (f : R_api_Line) : R_api_Quad := ⟨f.Y0, f.Y1, 0⟩
instance sp_coordinates (f : R_api_Line) : SpecC Tryz.prog 191 [vLn f] (.tuple #[vQd (lnX f), vQd (lnY f)]) True := ⟨fun _ w => by
  refine fn_intro Tryz.func191 rfl Tryz.ntmps191 rfl ?_
  repeat (refine wkB ?_; try intro _)
  (refine jD 10 10 (h := ?_); (repeat (refine wkH ?_)); refine jh_nil ?_; (repeat (refine wn_new ?_; intro _)); refine jn_nil ?_)
  repeat (refine wkB ?_; try intro _)
  exact jx_ret_two rfl (wr_cell rfl) (wr_cell rfl) (fun w hw => ret_ok hw)⟩
instance sp_LSame (f g : R_api_Line) (t : R_api_Real) (z : Array Value) : SpecC Tryz.prog 179 [.agg z, vLn f, vLn g, vR t] (.bool (qsame (lnX f) (lnX g) t.P && qsame (lnY f) (lnY g) t.P)) (t.R = 0 ∧ ((M f.X0 ≤ 8589934592 ∧ M f.X1 ≤ 8589934592) ∧ M f.Y0 ≤ 8589934592 ∧ M f.Y1 ≤ 8589934592) ∧ ((M g.X0 ≤ 8589934592 ∧ M g.X1 ≤ 8589934592) ∧ M g.Y0 ≤ 8589934592 ∧ M g.Y1 ≤ 8589934592) ∧ M t.P ≤ 8589934592) := ⟨fun hp w => by
  obtain ⟨h0, ⟨⟨h1, h2⟩, h3, h4⟩, ⟨⟨h5, h6⟩, h7, h8⟩, h9⟩ := hp
  have hm0 : M 0 ≤ 8589934592 := Nat.le_trans mb_zero.out (by decide)
  refine fn_intro Tryz.func179 rfl Tryz.ntmps179 rfl ?_
  repeat (first | (refine wkB ?_; try intro _) | (refine sC rfl rfl ?_ ?_; focus (first | exact trivial | exact ⟨h0, ⟨h1, h2, hm0⟩, ⟨h5, h6, hm0⟩, h9⟩)) | (refine sN rfl rfl ?_ ?_; (focus (first | exact trivial | exact ⟨h0, ⟨h1, h2, hm0⟩, ⟨h5, h6, hm0⟩, h9⟩)); intro _; (try simp only [List.cons_append, List.nil_append, List.append_nil])))
  rcases hb : qsame (lnX f) (lnX g) t.P with _ | _
  · repeat (refine wkB ?_; try intro _)
    exact jx_ret_tmp rfl rfl (fun w hw => ret_ok hw)
  · repeat (first | (refine wkB ?_; try intro _) | (refine sC rfl rfl ?_ ?_; focus (exact ⟨h0, ⟨h3, h4, hm0⟩, ⟨h7, h8, hm0⟩, h9⟩)) | (refine sN rfl rfl ?_ ?_; (focus (exact ⟨h0, ⟨h3, h4, hm0⟩, ⟨h7, h8, hm0⟩, h9⟩)); intro _; (try simp only [List.cons_append, List.nil_append, List.append_nil])))
    exact jx_ret_tmp rfl rfl (fun w hw => ret_ok hw)⟩
instance sp_LEqual (f g : R_api_Line) (z : Array Value) : SpecC Tryz.prog 258 [.agg z, vLn f, vLn g] (.bool (decide (f = g))) True := ⟨fun _ w => by
  refine fn_intro Tryz.func258 rfl Tryz.ntmps258 rfl ?_
  repeat (refine wkB ?_; try intro _)
  exact jx_ret_tmp rfl rfl (fun w hw => ret_ok hw)⟩
/-- The function at one instant. -/
def lred (f : R_api_Line) (t : Rat) : R_api_Line := ⟨f.X0 + t * (f.X1 + t * 0), 0, f.Y0 + t * (f.Y1 + t * 0), 0⟩
instance sp_LReduce (f : R_api_Line) (t : R_api_Real) (z : Array Value) : SpecC Tryz.prog 259 [.agg z, vLn f, vR t] (vLn (lred f t.P)) (t.R = 0 ∧ ((M f.X0 ≤ 8589934592 ∧ M f.X1 ≤ 8589934592) ∧ M f.Y0 ≤ 8589934592 ∧ M f.Y1 ≤ 8589934592) ∧ M t.P ≤ 8589934592) := ⟨fun hp w => by
  obtain ⟨h0, ⟨⟨h1, h2⟩, h3, h4⟩, h9⟩ := hp
  have hm0 : M 0 ≤ 34359738368 := Nat.le_trans mb_zero.out (by decide)
  have := MB.mk h1
  have := MB.mk h2
  have := MB.mk h3
  have := MB.mk h4
  have := MB.mk h9
  refine fn_intro Tryz.func259 rfl Tryz.ntmps259 rfl ?_
  repeat (refine wkB ?_; try intro _)
  (refine jD 6 6 (h := ?_); (repeat (first | refine wkH ?_ | (refine tC rfl rfl ?_ ?_; focus (first | exact ⟨h0, Nat.le_trans h1 (by decide), Nat.le_trans h2 (by decide), hm0, Nat.le_trans h9 (by decide)⟩ | exact ⟨h0, Nat.le_trans h3 (by decide), Nat.le_trans h4 (by decide), hm0, Nat.le_trans h9 (by decide)⟩)))); refine jh_nil ?_; (repeat (refine wn_new ?_; intro _)); refine jn_nil ?_)
  repeat (refine wkB ?_; try intro _)
  exact wx_cell rfl rfl (fun w hw => ret_ok hw)⟩
end Go.Vt
/- Units of moving points as units of pieces, and back, walked. Conditions: those that each statement names. -/
set_option linter.unusedSimpArgs false
set_option linter.unusedVariables false
set_option maxHeartbeats 2000000
set_option maxRecDepth 100000
namespace Go.Vt
open Go.RowKit Go.Proofs
abbrev PU := R_api_PointUnit
abbrev UL := R_pieces_Unit_api_Line
abbrev rP := r_api_PointUnit
abbrev rU := r_pieces_Unit_api_Line
abbrev vPU (u : PU) : Value := .agg (e_api_PointUnit (q_api_PointUnit u))
abbrev vUL (u : UL) : Value := .agg (e_pieces_Unit_api_Line (q_pieces_Unit_api_Line u))
abbrev vFn (f : FuncId) : Value := .func (.func f) #[] [].toArray
def toU (u : PU) : UL := ⟨u.In, u.F⟩
def ofU (u : UL) : PU := ⟨u.In, u.F⟩
instance sp_to1 (u : PU) : SpecC Tryz.prog 111 [vPU u] (vUL (toU u)) True := ⟨fun _ w => by
  refine fn_intro Tryz.func111 rfl Tryz.ntmps111 rfl ?_
  repeat (refine wkB ?_; try intro _)
  exact wx_cell rfl rfl (fun w hw => ret_ok hw)⟩
instance sp_from1 (u : UL) : SpecC Tryz.prog 139 [vUL u] (vPU (ofU u)) True := ⟨fun _ w => by
  refine fn_intro Tryz.func139 rfl Tryz.ntmps139 rfl ?_
  repeat (refine wkB ?_; try intro _)
  exact wx_cell rfl rfl (fun w hw => ret_ok hw)⟩
theorem mapTo_spec (v : Value) (us : List PU) (w : World) (hv : ArgS w v rP us) (hl : us.length ≤ 1048576) :
    Calls Tryz.prog 110 [v, vFn 111].toArray w (RetM (SlS rU 36 (mpN toU us us.length)) (fun s => vSl s) (fun s => mS 163 s) w) := by
  refine fn_intro Tryz.func110 rfl Tryz.ntmps110 rfl ?_
  obtain ⟨p, cp, rfl⟩ := hv.form
  repeat (refine wkB ?_; try intro _)
  refine j_loop (S := (m : Nat) × SlS rU 36 (mpN toU us m)) (fun s => s.1 ≤ us.length) (fun s => [(1, vFn 111), (5, vSl s.2), (8, .slice p us.length cp), (9, .int .i64 us.length), (10, .int .i64 (s.1 : Nat))]) (fun s => mS 163 s.2) (fun s => us.length - s.1) ⟨0, SlS.no⟩
    (Nat.zero_le _) sbB slB (fun s hm => ?_)
  obtain ⟨m, s⟩ := s
  simp only at hm ⊢
  repeat (refine wkB ?_; try intro _)
  refine j_cond rfl (fun h => ?_) (fun h => ?_)
  · have hlt : m < us.length := by have := of_decide_eq_true h; omega
    have hne : us ≠ [] := fun h0 => by rw [h0] at hlt; simp at hlt
    obtain ⟨bw, ow, cw, hvw, hcw, hrow⟩ := hv.blk (k := 35) hne []
    injection hvw with e1 e2 e3
    subst e1
    subst e3
    have hrow' : ∀ L, RowC w L bw ow PU rP us := fun L => ⟨fun w' hw' => hrow.out w' (hw'.sub (List.nil_sublist _))⟩
    repeat (refine wkB ?_; try intro _)
    have hml := mpN_len toU us m
    refine sU rfl rfl ?_ ?_ ?_ ?_
    · rfl
    · rfl
    · exact ⟨by decide, by omega, by omega⟩
    intro s'
    repeat (first | (refine wkB ?_; try intro _) | (refine sC rfl rfl ?_ ?_; focus (exact ⟨by omega, by omega⟩)) | (refine sN rfl rfl ?_ ?_; (focus (exact ⟨by omega, by omega⟩)); intro _; (try simp only [List.cons_append, List.nil_append, List.append_nil])))
    exact jx_loop ⟨m + 1, s'⟩ hlt sbB suB (by show us.length - (m + 1) < us.length - m; omega)
  · have hge : m = us.length := by have := of_decide_eq_false h; omega
    subst hge
    repeat (refine wkB ?_; try intro _)
    exact jx_ret_tmp rfl rfl (fun w hw => ⟨s, rfl, hw.sub sbl⟩)
theorem mapFrom_spec (v : Value) (us : List UL) (w : World) (hv : ArgS w v rU us) (hl : us.length ≤ 1048576) :
    Calls Tryz.prog 138 [v, vFn 139].toArray w (RetM (SlS rP 36 (mpN ofU us us.length)) (fun s => vSl s) (fun s => mS 68 s) w) := by
  refine fn_intro Tryz.func138 rfl Tryz.ntmps138 rfl ?_
  obtain ⟨p, cp, rfl⟩ := hv.form
  repeat (refine wkB ?_; try intro _)
  refine j_loop (S := (m : Nat) × SlS rP 36 (mpN ofU us m)) (fun s => s.1 ≤ us.length) (fun s => [(1, vFn 139), (5, vSl s.2), (8, .slice p us.length cp), (9, .int .i64 us.length), (10, .int .i64 (s.1 : Nat))]) (fun s => mS 68 s.2) (fun s => us.length - s.1) ⟨0, SlS.no⟩
    (Nat.zero_le _) sbB slB (fun s hm => ?_)
  obtain ⟨m, s⟩ := s
  simp only at hm ⊢
  repeat (refine wkB ?_; try intro _)
  refine j_cond rfl (fun h => ?_) (fun h => ?_)
  · have hlt : m < us.length := by have := of_decide_eq_true h; omega
    have hne : us ≠ [] := fun h0 => by rw [h0] at hlt; simp at hlt
    obtain ⟨bw, ow, cw, hvw, hcw, hrow⟩ := hv.blk (k := 35) hne []
    injection hvw with e1 e2 e3
    subst e1
    subst e3
    have hrow' : ∀ L, RowC w L bw ow UL rU us := fun L => ⟨fun w' hw' => hrow.out w' (hw'.sub (List.nil_sublist _))⟩
    repeat (refine wkB ?_; try intro _)
    have hml := mpN_len ofU us m
    refine sU rfl rfl ?_ ?_ ?_ ?_
    · rfl
    · rfl
    · exact ⟨by decide, by omega, by omega⟩
    intro s'
    repeat (first | (refine wkB ?_; try intro _) | (refine sC rfl rfl ?_ ?_; focus (exact ⟨by omega, by omega⟩)) | (refine sN rfl rfl ?_ ?_; (focus (exact ⟨by omega, by omega⟩)); intro _; (try simp only [List.cons_append, List.nil_append, List.append_nil])))
    exact jx_loop ⟨m + 1, s'⟩ hlt sbB suB (by show us.length - (m + 1) < us.length - m; omega)
  · have hge : m = us.length := by have := of_decide_eq_false h; omega
    subst hge
    repeat (refine wkB ?_; try intro _)
    exact jx_ret_tmp rfl rfl (fun w hw => ⟨s, rfl, hw.sub sbl⟩)
instance sr_mapTo (w0 : World) (L : List Blk) (v : Value) (us : List PU) [h : LstC w0 L v PU rP us] : SpecR Tryz.prog w0 L 110 [v, vFn 111] (SlS rU 36 (mpN toU us us.length)) (fun s => vSl s) (fun s => mS 163 s) (us.length ≤ 1048576) := ⟨fun hl w hw => mapTo_spec v us w (h.out w hw) hl⟩
instance sr_mapFrom (w0 : World) (L : List Blk) (v : Value) (us : List UL) [h : LstC w0 L v UL rU us] : SpecR Tryz.prog w0 L 138 [v, vFn 139] (SlS rP 36 (mpN ofU us us.length)) (fun s => vSl s) (fun s => mS 68 s) (us.length ≤ 1048576) := ⟨fun hl w hw => mapFrom_spec v us w (h.out w hw) hl⟩
theorem to_spec (v : Value) (us : List PU) (w : World) (hv : ArgS w v rP us) (hl : us.length ≤ 1048576) :
    Calls Tryz.prog 61 [v].toArray w (RetM (SlS rU 36 (mpN toU us us.length)) (fun s => vSl s) (fun s => mS 163 s) w) := by
  have := ArgC.mk hv
  refine fn_intro Tryz.func61 rfl Tryz.ntmps61 rfl ?_
  repeat (first | (refine wkB ?_; try intro _) | (refine sC rfl rfl ?_ ?_; focus (exact hl)) | (refine sN rfl rfl ?_ ?_; (focus (exact hl)); intro _; (try simp only [List.cons_append, List.nil_append, List.append_nil])))
  rename_i s
  exact jx_ret_tmp rfl rfl (fun w hw => ⟨s, rfl, hw.sub suB⟩)
theorem from_spec (v : Value) (us : List UL) (w : World) (hv : ArgS w v rU us) (hl : us.length ≤ 1048576) :
    Calls Tryz.prog 97 [v].toArray w (RetM (SlS rP 36 (mpN ofU us us.length)) (fun s => vSl s) (fun s => mS 68 s) w) := by
  have := ArgC.mk hv
  refine fn_intro Tryz.func97 rfl Tryz.ntmps97 rfl ?_
  repeat (first | (refine wkB ?_; try intro _) | (refine sC rfl rfl ?_ ?_; focus (exact hl)) | (refine sN rfl rfl ?_ ?_; (focus (exact hl)); intro _; (try simp only [List.cons_append, List.nil_append, List.append_nil])))
  rename_i s
  exact jx_ret_tmp rfl rfl (fun w hw => ⟨s, rfl, hw.sub suB⟩)
instance sr_to (w0 : World) (L : List Blk) (v : Value) (us : List PU) [h : LstC w0 L v PU rP us] : SpecR Tryz.prog w0 L 61 [v] (SlS rU 36 (mpN toU us us.length)) (fun s => vSl s) (fun s => mS 163 s) (us.length ≤ 1048576) := ⟨fun hl w hw => to_spec v us w (h.out w hw) hl⟩
instance sr_from (w0 : World) (L : List Blk) (v : Value) (us : List UL) [h : LstC w0 L v UL rU us] : SpecR Tryz.prog w0 L 97 [v] (SlS rP 36 (mpN ofU us us.length)) (fun s => vSl s) (fun s => mS 68 s) (us.length ≤ 1048576) := ⟨fun hl w hw => from_spec v us w (h.out w hw) hl⟩
end Go.Vt
/- The order of units and their sorting, walked. Conditions: those that each statement names. -/
set_option linter.unusedSimpArgs false
set_option linter.unusedVariables false
set_option maxHeartbeats 2000000
set_option maxRecDepth 100000
namespace Go.Vt
open Go.RowKit Go.Proofs
/-- The first of some numbers that is not zero. -/
def orL : List Int → Int
  | [] => 0
  | x :: r => if x = 0 then orL r else x
theorem orL_drop (xs : List Int) (m : Nat) (hm : m < xs.length) : orL (xs.drop m) = if gi xs (m : Int) = 0 then orL (xs.drop (m + 1)) else gi xs (m : Int) := by
  rw [List.drop_eq_getElem_cons hm, orL, gi_nat hm]
theorem cmpOr_spec (b c n : Nat) (xs : List Int) (sp : List Value) (T : TypeId) (hn : n = xs.length) (hl : n ≤ 1099511627776) (w : World) (hw : ∃ fz, w.heap[b]? = some (.cells (row (eI .i64) xs sp) T fz)) :
    Calls Tryz.prog 145 [.slice (some ⟨b, 0, none⟩) n c].toArray w (Ret (.int .i64 (orL xs)) w) := by
  have := FoC.mk hw
  refine fn_intro Tryz.func145 rfl Tryz.ntmps145 rfl ?_
  repeat (refine wkB ?_; try intro _)
  refine j_loop (S := Nat) (fun m => m ≤ n ∧ orL xs = orL (xs.drop m)) (fun m => [(3, .int .i64 0), (6, .slice (some ⟨b, 0, none⟩) n c), (7, .int .i64 n), (8, .int .i64 (m : Nat))]) (fun _ => []) (fun m => n - m) 0 ⟨Nat.zero_le _, by rw [List.drop_zero]⟩ sbB slB (fun m hm => ?_)
  obtain ⟨hm, ho⟩ := hm
  repeat (refine wkB ?_; try intro _)
  refine j_cond rfl (fun h => ?_) (fun h => ?_)
  · have hlt : m < n := by have := of_decide_eq_true h; omega
    have hlp : (m : Int).toNat < xs.length := by omega
    rw [orL_drop xs m (by omega)] at ho
    repeat (refine wkB ?_; try intro _)
    by_cases h0 : gi xs (m : Int) = 0
    · rw [if_pos h0] at ho
      simp only [decide_eq_true h0, Bool.not_true]
      repeat (first | (refine wkB ?_; try intro _) | (refine sC rfl rfl ?_ ?_; focus (exact ⟨by omega, by omega⟩)) | (refine sN rfl rfl ?_ ?_; (focus (exact ⟨by omega, by omega⟩)); intro _; (try simp only [List.cons_append, List.nil_append, List.append_nil])))
      exact jx_loop (m + 1) ⟨hlt, ho⟩ sbB slB (by omega)
    · rw [if_neg h0] at ho
      simp only [decide_eq_false h0, Bool.not_false]
      repeat (refine wkB ?_; try intro _)
      rw [ho]
      exact jx_ret_tmp rfl rfl (fun w hw => ret_ok hw)
  · have hge : m = n := by have := of_decide_eq_false h; omega
    subst hge
    rw [hn, List.drop_length] at ho
    repeat (refine wkB ?_; try intro _)
    rw [ho]
    exact jx_ret_tmp rfl rfl (fun w hw => ret_ok hw)
instance sm_cmpOr (w0 : World) (L : List Blk) (b c n : Nat) (xs : List Int) (sp : List Value) (T : TypeId) [h : AtC w0 L b (row (eI .i64) xs sp) T] : SpecM Tryz.prog w0 L 145 [.slice (some ⟨b, 0, none⟩) n c] (.int .i64 (orL xs)) (n = xs.length ∧ n ≤ 1099511627776) := ⟨fun hp w hw => cmpOr_spec b c n xs sp T hp.1 hp.2 w (h.out w hw)⟩
def opn (I : R_api_Interval) : Int := if I.OpenFrom then 1 else 0
instance sp_opn (I : R_api_Interval) : SpecC Tryz.prog 170 [vIv I] (.int .i64 (opn I)) True := ⟨fun _ w => by
  refine fn_intro Tryz.func170 rfl Tryz.ntmps170 rfl ?_
  obtain ⟨f, t, o, c⟩ := I
  cases o
  · repeat (refine wkB ?_; try intro _)
    exact jx_ret_tmp rfl rfl (fun w hw => ret_ok hw)
  · repeat (refine wkB ?_; try intro _)
    exact jx_ret_tmp rfl rfl (fun w hw => ret_ok hw)⟩
/-- Both ends are rational and short. -/
structure IvOk (K : Nat) (I : R_api_Interval) : Prop where
  r1 : I.From.R = 0
  r2 : I.To.R = 0
  n1 : I.From.Neg = false
  n2 : I.To.Neg = false
  m1 : M I.From.P ≤ K
  m2 : M I.To.P ≤ K
theorem IvOk.mono {K K' : Nat} {I : R_api_Interval} (h : IvOk K I) (hk : K ≤ K') : IvOk K' I := ⟨h.r1, h.r2, h.n1, h.n2, Nat.le_trans h.m1 hk, Nat.le_trans h.m2 hk⟩
abbrev BQ : Nat := 8589934592
/-- The order of units. -/
def cmpU (a b : UL) : Int := orL [cq a.In.From.P b.In.From.P, Lib.compareInt (opn a.In) (opn b.In), cq a.In.To.P b.In.To.P]
instance sp_cmpU (a b : UL) : SpecC Tryz.prog 169 [vUL a, vUL b] (.int .i64 (cmpU a b)) (IvOk BQ a.In ∧ IvOk BQ b.In) := ⟨fun hp w => by
  obtain ⟨h1, h2⟩ := hp
  refine fn_intro Tryz.func169 rfl Tryz.ntmps169 rfl ?_
  repeat (refine wkB ?_; try intro _)
  rename_i b2 b3
  (refine j_phases [([0, 1, 2, 3, 4, 5, 6, 7, 8, 9, 10, 11, 12, 13, 14, 15, 16, 17, 18, 19, 20, 21, 22], [23, 24, 25])] ([⟨b3, rU b, 163⟩, ⟨b2, rU a, 163⟩]) (h := ?_); refine wkP ?_)
  (repeat (first | refine wkH ?_ | (refine tC rfl rfl ?_ ?_; focus (first | exact trivial | exact ⟨⟨h1.r1, h2.r1⟩, Nat.le_trans h1.m1 (by decide), Nat.le_trans h2.m1 (by decide)⟩ | exact ⟨⟨h1.r2, h2.r2⟩, Nat.le_trans h1.m2 (by decide), Nat.le_trans h2.m2 (by decide)⟩))))
  repeat (first | (refine wkT ?_; try intro _) | (refine tC rfl rfl ?_ ?_; focus (exact ⟨rfl, by decide⟩)) | (refine uC rfl rfl ?_ ?_; focus (exact ⟨rfl, by decide⟩)) | (refine eN rfl rfl ?_ ?_; (focus (exact ⟨rfl, by decide⟩)); intro _; (try simp only [List.cons_append, List.nil_append, List.append_nil])))
  repeat (refine wkB ?_; try intro _)
  exact jx_ret_tmp rfl rfl (fun w hw => ret_ok hw)⟩
/-- Two neighbours change places. -/
def swp (xs : List UL) (j : Nat) : List UL := (xs.set (j + 1) (gi xs (j : Int))).set j (gi xs ((j + 1 : Nat) : Int))
/-- An element goes down as long as it is less than the one ahead of it. -/
def dwn (xs : List UL) : Nat → List UL
  | 0 => xs
  | j + 1 => if cmpU (gi xs ((j + 1 : Nat) : Int)) (gi xs (j : Int)) < 0 then dwn (swp xs j) j else xs
/-- The first elements are in order. -/
def srt (xs : List UL) : Nat → List UL
  | 0 => xs
  | i + 1 => dwn (srt xs i) (i + 1)
theorem swp_len (xs : List UL) (j : Nat) : (swp xs j).length = xs.length := by simp [swp]
theorem swp_mem {xs : List UL} {j : Nat} (h : j + 1 < xs.length) {u : UL} (hu : u ∈ swp xs j) : u ∈ xs := by
  unfold swp at hu
  rcases List.mem_or_eq_of_mem_set hu with h1 | h1
  · rcases List.mem_or_eq_of_mem_set h1 with h2 | h2
    · exact h2
    · rw [h2, gi_nat (by omega)]
      exact List.getElem_mem _
  · rw [h1, gi_nat h]
    exact List.getElem_mem _
theorem dwn_len : ∀ (j : Nat) (xs : List UL), (dwn xs j).length = xs.length
  | 0, _ => rfl
  | j + 1, xs => by
    rw [dwn]
    split
    · rw [dwn_len j, swp_len]
    · rfl
theorem dwn_mem : ∀ (j : Nat) (xs : List UL), j < xs.length → ∀ u ∈ dwn xs j, u ∈ xs
  | 0, _, _, _, h => h
  | j + 1, xs, hj, u, h => by
    rw [dwn] at h
    split at h
    · exact swp_mem hj (dwn_mem j _ (by rw [swp_len]; omega) u h)
    · exact h
theorem srt_len (xs : List UL) : ∀ i, (srt xs i).length = xs.length
  | 0 => rfl
  | i + 1 => by rw [srt, dwn_len, srt_len xs i]
theorem srt_mem (xs : List UL) : ∀ i, i < xs.length → ∀ u ∈ srt xs i, u ∈ xs
  | 0, _, _, h => h
  | i + 1, hi, u, h => by
    rw [srt] at h
    exact srt_mem xs i (by omega) u (dwn_mem _ _ (by rw [srt_len]; exact hi) u h)
theorem ins_spec (w0 w : World) (L1 : List Blk) (b c n : Nat) (xs : List UL) (sp : List Value) (T : TypeId) (hn : xs.length = n) (hl : n ≤ 1048576) (hok : ∀ u ∈ xs, IvOk BQ u.In) (hw : Own w0 (⟨b, row rU xs sp, T⟩ :: L1) w) :
    Calls Tryz.prog 201 [.slice (some ⟨b, 0, none⟩) n c, .int .i64 0, .int .i64 n, vFn 169].toArray w (RetX w0 Unit (fun _ => .tuple #[]) (fun _ => ⟨b, row rU (srt xs (n - 1)) sp, T⟩ :: L1)) := by
  refine fn_introL Tryz.func201 rfl Tryz.ntmps201 rfl hw ?_
  repeat (refine wkB ?_; try intro _)
  refine j_loop (S := Nat) (fun m => m ≤ n - 1) (fun m => [(0, .slice (some ⟨b, 0, none⟩) n c), (1, .int .i64 0), (2, .int .i64 n), (3, vFn 169), (8, .int .i64 ((m + 1 : Nat)))]) (fun m => ⟨b, row rU (srt xs m) sp, T⟩ :: L1) (fun m => n - 1 - m) 0 (Nat.zero_le _) sbB slB (fun m hm => ?_)
  have hsl := srt_len xs m
  repeat (refine wkB ?_; try intro _)
  refine j_cond rfl (fun h => ?_) (fun h => ?_)
  · have hlt : m + 1 < n := by have := of_decide_eq_true h; omega
    have hmem := srt_mem xs m (by omega)
    repeat (refine wkB ?_; try intro _)
    refine j_loop (S := Nat × List UL) (fun s => dwn s.2 s.1 = srt xs (m + 1) ∧ s.2.length = n ∧ s.1 ≤ m + 1 ∧ ∀ u ∈ s.2, IvOk BQ u.In) (fun s => [(0, .slice (some ⟨b, 0, none⟩) n c), (1, .int .i64 0), (2, .int .i64 n), (3, vFn 169), (8, .int .i64 ((m + 1 : Nat))), (9, .int .i64 ((s.1 : Nat)))]) (fun s => ⟨b, row rU s.2 sp, T⟩ :: L1) (fun s => s.1) (m + 1, srt xs m)
      ⟨rfl, by show (srt xs m).length = n; omega, Nat.le_refl _, fun u hu => hok u (hmem u hu)⟩ sbB slB (fun s hs => ?_)
    obtain ⟨j, ys⟩ := s
    obtain ⟨g1, g2, g3, g4⟩ := hs
    simp only at g1 g2 g3 g4 ⊢
    repeat (refine wkB ?_; try intro _)
    rcases j with _ | j
    · (refine jD 17 17 (h := ?_); (repeat (refine wkH ?_)); refine jh_nil ?_; (repeat (refine wn_new ?_; intro _)); refine jn_nil ?_)
      repeat (refine wkB ?_; try intro _)
      exact jx_loop (m + 1) (by omega) sbB (by rw [← g1]; exact List.Sublist.refl _) (by omega)
    · have hj1 : ((j : Int)).toNat < ys.length := by omega
      have hj2 : (((j + 1 : Nat) : Int)).toNat < ys.length := by omega
      have e1 : ((j + 1 : Nat) : Int) - 1 = (j : Int) := by omega
      have o1 := g4 _ (by rw [gi_nat (show j < ys.length by omega)]; exact List.getElem_mem _ : gi ys (j : Int) ∈ ys)
      have o2 := g4 _ (by rw [gi_nat (show j + 1 < ys.length by omega)]; exact List.getElem_mem _ : gi ys ((j + 1 : Nat) : Int) ∈ ys)
      rw [dwn] at g1
      refine jD 17 17 (h := ?_)
      (repeat (refine wkH ?_))
      simp only [decide_eq_true (show (0 : Int) < ((j + 1 : Nat) : Int) by omega), e1]
      (repeat (refine wkH ?_))
      simp only [e1]
      (repeat (first | refine wkH ?_ | (refine tC rfl rfl ?_ ?_; focus (exact ⟨o2, o1⟩))))
      refine jh_nil ?_
      refine jn_nil ?_
      repeat (refine wkB ?_; try intro _)
      by_cases hc : cmpU (gi ys ((j + 1 : Nat) : Int)) (gi ys (j : Int)) < 0
      · rw [if_pos hc] at g1
        simp only [decide_eq_true hc]
        repeat (refine wkB ?_; try intro _)
        (refine j_seg [(true, [0, 1, 2, 3, 4, 5, 6, 7, 8]), (false, [9]), (true, [10, 11, 12]), (false, [13]), (true, [14])] [15, 16, 17] (h := ?_); refine wkS ?_)
        (repeat (refine wkH ?_))
        simp only [e1]
        refine jh_nil ?_
        refine eR rfl ?_ ?_
        · omega
        refine uS rfl rfl ?_ ?_
        · omega
        refine eR rfl ?_ ?_
        · rw [List.length_set]; omega
        refine je_nil ?_
        simp only [Int.toNat_natCast]
        repeat (first | (refine wkB ?_; try intro _) | (refine sC rfl rfl ?_ ?_; focus (exact ⟨by omega, by omega⟩)) | (refine sN rfl rfl ?_ ?_; (focus (exact ⟨by omega, by omega⟩)); intro _; (try simp only [List.cons_append, List.nil_append, List.append_nil])))
        simp only [e1]
        exact jx_loop (j, swp ys j) ⟨g1, by rw [swp_len]; exact g2, by omega, fun u hu => g4 u (swp_mem (by omega) hu)⟩ sbB slB (by show j < j + 1; omega)
      · rw [if_neg hc] at g1
        simp only [decide_eq_false hc]
        repeat (first | (refine wkB ?_; try intro _) | (refine sC rfl rfl ?_ ?_; focus (exact ⟨by omega, by omega⟩)) | (refine sN rfl rfl ?_ ?_; (focus (exact ⟨by omega, by omega⟩)); intro _; (try simp only [List.cons_append, List.nil_append, List.append_nil])))
        exact jx_loop (m + 1) (by omega) sbB (by rw [← g1]; exact List.Sublist.refl _) (by omega)
  · have hge : m = n - 1 := by have := of_decide_eq_false h; omega
    subst hge
    repeat (refine wkB ?_; try intro _)
    exact jx_end0 rfl (fun w hw => ⟨(), rfl, hw⟩)
abbrev SrtS (xs : List UL) (s : SlS rU 36 xs) : Type := { s' : SlS rU 36 (srt xs (xs.length - 1)) // vSl s' = vSl s }
theorem insS_spec (w0 w : World) (L L1 : List Blk) (xs : List UL) (s : SlS rU 36 xs) (T : TypeId) [hd : OwnS T s L L1] (hl : xs.length ≤ 1048576) (hok : ∀ u ∈ xs, IvOk BQ u.In) (hw : Own w0 L w) :
    Calls Tryz.prog 201 [vSl s, .int .i64 0, .int .i64 xs.length, vFn 169].toArray w (RetX w0 (SrtS xs s) (fun _ => .tuple #[]) (fun s' => mS T s'.1 ++ L1)) := by
  have hw1 := hw.perm hd.out
  rcases s.cases T with ⟨rfl, hv, hm⟩ | ⟨b, c, sp, h1, hv, hm, hne⟩
  · suffices h : Calls Tryz.prog 201 [.slice none 0 0, .int .i64 0, .int .i64 (([] : List UL).length : Nat), vFn 169].toArray w (RetX w0 (SrtS [] s) (fun _ => .tuple #[]) (fun s' => mS T s'.1 ++ L1)) by
      rw [← hv] at h
      exact h
    refine fn_introL Tryz.func201 rfl Tryz.ntmps201 rfl hw1 ?_
    repeat (refine wkB ?_; try intro _)
    refine j_loop (S := Unit) (fun _ => True) (fun _ => [(2, .int .i64 (([] : List UL).length : Nat)), (8, .int .i64 1)]) (fun _ => mS T s ++ L1) (fun _ => 0) () trivial sbB slB (fun _ _ => ?_)
    repeat (refine wkB ?_; try intro _)
    simp only [decide_eq_false (show ¬ (1 : Int) < ((([] : List UL).length : Nat) : Int) by simp)]
    repeat (refine wkB ?_; try intro _)
    exact jx_end0 rfl (fun w hw => ⟨⟨s, rfl⟩, rfl, hw⟩)
  · suffices h : Calls Tryz.prog 201 [.slice (some ⟨b, 0, none⟩) xs.length c, .int .i64 0, .int .i64 xs.length, vFn 169].toArray w (RetX w0 (SrtS xs s) (fun _ => .tuple #[]) (fun s' => mS T s'.1 ++ L1)) by
      rw [← hv] at h
      exact h
    rw [hm] at hw1
    have hsl := srt_len xs (xs.length - 1)
    refine (ins_spec w0 w L1 b c xs.length xs sp T rfl hl hok hw1).mono fun e w' ⟨_, he, hw'⟩ => ?_
    exact ⟨⟨SlS.at_ b c sp (by rw [hsl]; exact h1) (fun h0 => hne (List.length_eq_zero_iff.1 (by rw [h0, List.length_nil] at hsl; exact hsl.symm))), by rw [hv]; show Value.slice _ (srt xs (xs.length - 1)).length c = _; rw [hsl]⟩, he, hw'⟩
instance sx_ins (w0 : World) (L L1 : List Blk) (xs : List UL) (s : SlS rU 36 xs) (T : TypeId) [hd : OwnS T s L L1] : SpecX Tryz.prog w0 L 201 [vSl s, .int .i64 0, .int .i64 xs.length, vFn 169] (SrtS xs s) (fun _ => .tuple #[]) (fun s' => mS T s'.1 ++ L1) (xs.length ≤ 1048576 ∧ ∀ u ∈ xs, IvOk BQ u.In) := ⟨fun hp w hw => insS_spec w0 w L L1 xs s T hp.1 hp.2 hw⟩
theorem stable_spec (w0 w : World) (L L1 : List Blk) (xs : List UL) (s : SlS rU 36 xs) (T : TypeId) [hd : OwnS T s L L1] (hl : xs.length ≤ 19) (hok : ∀ u ∈ xs, IvOk BQ u.In) (hw : Own w0 L w) :
    Calls Tryz.prog 184 [vSl s, .int .i64 xs.length, vFn 169].toArray w (RetX w0 (SrtS xs s) (fun _ => .tuple #[]) (fun s' => mS T s'.1 ++ L1)) := by
  refine fn_introL Tryz.func184 rfl Tryz.ntmps184 rfl hw ?_
  repeat (refine wkB ?_; try intro _)
  refine j_loop (S := Unit) (fun _ => True) (fun _ => [(0, vSl s), (1, .int .i64 xs.length), (2, vFn 169), (6, .int .i64 20), (7, .int .i64 0), (8, .int .i64 20)]) (fun _ => L) (fun _ => 0) () trivial sbB slB (fun _ _ => ?_)
  repeat (refine wkB ?_; try intro _)
  simp only [decide_eq_false (show ¬ (20 : Int) ≤ (xs.length : Int) by omega)]
  repeat (refine wkB ?_; try intro _)
  refine sZ rfl rfl ?_ ?_
  · exact ⟨by omega, hok⟩
  intro s'
  repeat (refine wkB ?_; try intro _)
  refine j_loop (S := Unit) (fun _ => True) (fun _ => [(1, .int .i64 xs.length), (6, .int .i64 20)]) (fun _ => mS T s'.1 ++ L1) (fun _ => 0) () trivial sbB slB (fun _ _ => ?_)
  repeat (refine wkB ?_; try intro _)
  simp only [decide_eq_false (show ¬ (20 : Int) < (xs.length : Int) by omega)]
  repeat (refine wkB ?_; try intro _)
  exact jx_end0 rfl (fun w hw => ⟨s', rfl, hw⟩)
instance sx_stable (w0 : World) (L L1 : List Blk) (xs : List UL) (s : SlS rU 36 xs) (T : TypeId) [hd : OwnS T s L L1] : SpecX Tryz.prog w0 L 184 [vSl s, .int .i64 xs.length, vFn 169] (SrtS xs s) (fun _ => .tuple #[]) (fun s' => mS T s'.1 ++ L1) (xs.length ≤ 19 ∧ ∀ u ∈ xs, IvOk BQ u.In) := ⟨fun hp w hw => stable_spec w0 w L L1 xs s T hp.1 hp.2 hw⟩
theorem sortStable_spec (w0 w : World) (L L1 : List Blk) (xs : List UL) (s : SlS rU 36 xs) (T : TypeId) [hd : OwnS T s L L1] (hl : xs.length ≤ 19) (hok : ∀ u ∈ xs, IvOk BQ u.In) (hw : Own w0 L w) :
    Calls Tryz.prog 168 [vSl s, vFn 169].toArray w (RetX w0 (SrtS xs s) (fun _ => .tuple #[]) (fun s' => mS T s'.1 ++ L1)) := by
  refine fn_introL Tryz.func168 rfl Tryz.ntmps168 rfl hw ?_
  repeat (refine wkB ?_; try intro _)
  refine sZ rfl rfl ?_ ?_
  · exact ⟨hl, hok⟩
  intro s'
  repeat (refine wkB ?_; try intro _)
  exact jx_end0 rfl (fun w hw => ⟨s', rfl, hw⟩)
instance sx_sortStable (w0 : World) (L L1 : List Blk) (xs : List UL) (s : SlS rU 36 xs) (T : TypeId) [hd : OwnS T s L L1] : SpecX Tryz.prog w0 L 168 [vSl s, vFn 169] (SrtS xs s) (fun _ => .tuple #[]) (fun s' => mS T s'.1 ++ L1) (xs.length ≤ 19 ∧ ∀ u ∈ xs, IvOk BQ u.In) := ⟨fun hp w hw => sortStable_spec w0 w L L1 xs s T hp.1 hp.2 hw⟩
end Go.Vt
/- Units sorted and divided into single instants and open intervals, walked. Conditions: those that each statement names. -/
set_option linter.unusedSimpArgs false
set_option linter.unusedVariables false
set_option maxHeartbeats 2000000
set_option maxRecDepth 100000
namespace Go.Vt
open Go.RowKit Go.Proofs
/-- A slice that is known, and nil where it is empty. -/
class LstN (w0 : World) (L : List Blk) (v : Value) (α : outParam Type) (enc : outParam (α → Array Value)) (xs : outParam (List α)) : Prop where
  out : ∀ w, Own w0 L w → ArgS w v enc xs
  nil : xs = [] → v = .slice none 0 0
instance lstNOwn {α : Type} {enc : α → Array Value} {k : Nat} {xs : List α} [he : EncC enc k] (w0 : World) (L L1 : List Blk) (T : TypeId) (s : SlS enc k xs) [h : OwnS T s L L1] : LstN w0 L (vSl s) α enc xs := ⟨(lstOwn w0 L L1 T s).out, fun h0 => by
  rcases s.cases T with ⟨-, hv, -⟩ | ⟨b, c, sp, h1, hv, hm, hne⟩
  · exact hv
  · exact absurd h0 hne⟩
instance bs_116_0 : BsC Tryz.prog 116 0 [] (row rU [] []) 163 := ⟨fun w => by kernel_rfl⟩
theorem clone_spec (v : Value) (us : List UL) (w : World) (hv : ArgS w v rU us) (hn : us = [] → v = .slice none 0 0) (hl : us.length ≤ 1048576) :
    Calls Tryz.prog 167 [v].toArray w (RetM (SlS rU 36 us) (fun s => vSl s) (fun s => mS 163 s) w) := by
  by_cases h0 : us = []
  · obtain rfl := hn h0
    subst h0
    refine fn_intro Tryz.func167 rfl Tryz.ntmps167 rfl ?_
    repeat (refine wkB ?_; try intro _)
    exact jx_ret_tmp rfl rfl (fun w hw => ⟨SlS.no, rfl, hw⟩)
  · obtain ⟨bw, ow, cw, rfl, hcw, hrow⟩ := hv.blk (k := 35) h0 []
    have hrow' : ∀ L, RowC w L bw ow UL rU us := fun L => ⟨fun w' hw' => hrow.out w' (hw'.sub (List.nil_sublist _))⟩
    refine fn_intro Tryz.func167 rfl Tryz.ntmps167 rfl ?_
    repeat (refine wkB ?_; try intro _)
    refine sG rfl rfl ?_ h0 ?_ ?_ ?_ ?_ ?_
    · rfl
    · rfl
    · rfl
    · decide
    · exact ⟨by omega, by omega⟩
    intro s'
    repeat (refine wkB ?_; try intro _)
    exact jx_ret_tmp rfl rfl (fun w hw => ⟨s', rfl, hw.sub suB⟩)
instance sr_clone (w0 : World) (L : List Blk) (v : Value) (us : List UL) [h : LstN w0 L v UL rU us] : SpecR Tryz.prog w0 L 167 [v] (SlS rU 36 us) (fun s => vSl s) (fun s => mS 163 s) (us.length ≤ 1048576) := ⟨fun hl w hw => clone_spec v us w (h.out w hw) h.nil hl⟩
instance call_sortStable : CallC Tryz.prog 168 := ⟨by kernel_rfl⟩
/-- Units in order. -/
def sor (us : List UL) : List UL := srt us (us.length - 1)
theorem sorted_spec (v : Value) (us : List UL) (w : World) (hv : ArgS w v rU us) (hn : us = [] → v = .slice none 0 0) (hl : us.length ≤ 19) (hok : ∀ u ∈ us, IvOk BQ u.In) :
    Calls Tryz.prog 133 [v].toArray w (RetM (SlS rU 36 (sor us)) (fun s => vSl s) (fun s => mS 163 s) w) := by
  have : ∀ L, LstN w L v UL rU us := fun L => ⟨fun w' hw' => hv.to hw'.ext, hn⟩
  refine fn_intro Tryz.func133 rfl Tryz.ntmps133 rfl ?_
  repeat (first | (refine wkB ?_; try intro _) | (refine sC rfl rfl ?_ ?_; focus (omega)) | (refine sN rfl rfl ?_ ?_; (focus (omega)); intro _; (try simp only [List.cons_append, List.nil_append, List.append_nil])))
  rename_i s
  refine sZ rfl rfl ?_ ?_
  · exact ⟨hl, hok⟩
  intro s'
  repeat (refine wkB ?_; try intro _)
  exact jx_ret_tmp rfl rfl (fun w hw => ⟨s'.1, by show Ending.returned (vSl s) = Ending.returned (vSl s'.1); rw [s'.2], hw.sub suB⟩)
instance sr_sorted (w0 : World) (L : List Blk) (v : Value) (us : List UL) [h : LstN w0 L v UL rU us] : SpecR Tryz.prog w0 L 133 [v] (SlS rU 36 (sor us)) (fun s => vSl s) (fun s => mS 163 s) (us.length ≤ 19 ∧ ∀ u ∈ us, IvOk BQ u.In) := ⟨fun hp w hw => sorted_spec v us w (h.out w hw) h.nil hp.1 hp.2⟩
end Go.Vt
/- Units divided into single instants and open intervals, walked. Conditions: those that each statement names. -/
set_option linter.unusedSimpArgs false
set_option linter.unusedVariables false
set_option maxHeartbeats 2000000
set_option maxRecDepth 100000
namespace Go.Vt
open Go.RowKit Go.Proofs
section
variable {P : Program} {α : Type} {enc : α → Array Value} {k : Nat} {xs ys : List α}
instance ldVS {T e : TypeId} {s : SlS enc k xs} [h : UndC P T (.slice e)] : LdC P T #[vSl s] 0 (vSl s) := ⟨ldv_one (by simp [oneB, h.out]) rfl⟩
theorem vSl_cells (s : SlS enc k xs) : (vSl s).cells = #[vSl s] := by
  rcases s.cases 0 with ⟨-, hv, -⟩ | ⟨b, c, sp, -, hv, -, -⟩ <;> rw [hv] <;> rfl
theorem vSl_one (s : SlS enc k xs) : (vSl s).oneCell' = true := by
  rcases s.cases 0 with ⟨-, hv, -⟩ | ⟨b, c, sp, -, hv, -, -⟩ <;> rw [hv] <;> rfl
instance stVS {T : TypeId} {v : Value} {s : SlS enc k xs} [h : SizeC P T 1] : StC P T #[v] 0 (vSl s) #[vSl s] := ⟨by rw [vSl_cells]; exact h.out, by rw [vSl_cells]; rfl, by rw [vSl_cells]; simp [vSl_one], by rw [vSl_cells]; rfl⟩
end
theorem j_permL {P : Program} {w0 : World} {n : Nat} {c : Code} {Q : Exit → Act → World → Prop} {E : Env} {L : List Blk} (L' : List Blk) (p : L.Perm L') (h : J P w0 n c Q E L') : J P w0 n c Q E L := ⟨fun a w ha hw => h.out a w ha (hw.perm p)⟩
/-- One instant. -/
def at1 (t : R_api_Real) (f : R_api_Line) : UL := ⟨⟨t, t, false, false⟩, f⟩
theorem atom1_spec (w0 w : World) (L2 : List Blk) (b : Nat) (xs : List UL) (s : SlS rU 36 xs) (t : R_api_Real) (f : R_api_Line) (hl : xs.length ≤ 1048576) (hw : Own w0 (mS 163 s ++ ⟨b, #[vSl s], 116⟩ :: L2) w) :
    Calls Tryz.prog 171 [vR t, vLn f, .pointer (some ⟨b, 0, none⟩)].toArray w (RetX w0 (SlS rU 36 (xs ++ [at1 t f])) (fun _ => .tuple #[]) (fun s' => mS 163 s' ++ ⟨b, #[vSl s'], 116⟩ :: L2)) := by
  refine fn_introL Tryz.func171 rfl Tryz.ntmps171 rfl hw ?_
  repeat (refine wkB ?_; try intro _)
  refine sU rfl rfl ?_ ?_ ?_ ?_
  · rfl
  · rfl
  · exact ⟨by decide, by omega, by omega⟩
  intro s'
  repeat (refine wkB ?_; try intro _)
  exact jx_end0 rfl (fun w hw => ⟨s', rfl, hw.sub suB⟩)
instance sx_atom1 (w0 : World) (L L1 L2 : List Blk) (b : Nat) {xs : List UL} (s : SlS rU 36 xs) (t : R_api_Real) (f : R_api_Line) [h1 : DelC b L #[vSl s] 116 L1] [h2 : OwnS 163 s L1 L2] : SpecX Tryz.prog w0 L 171 [vR t, vLn f, .pointer (some ⟨b, 0, none⟩)] (SlS rU 36 (xs ++ [at1 t f])) (fun _ => .tuple #[]) (fun s' => mS 163 s' ++ ⟨b, #[vSl s'], 116⟩ :: L2) (xs.length ≤ 1048576) := ⟨fun hl w hw =>
  atom1_spec w0 w L2 b xs s t f hl (hw.perm ((h1.out.trans (h2.out.cons _)).trans List.perm_middle.symm))⟩
/-- Without its ends. -/
def inn1 (u : UL) : UL := ⟨⟨u.In.From, u.In.To, true, true⟩, u.F⟩
/-- The parts of a unit. -/
def atU (u : UL) : List UL := (if u.In.OpenFrom = true then [] else [at1 u.In.From u.F]) ++ (if u.In.From = u.In.To then [] else inn1 u :: if u.In.OpenTo = true then [] else [at1 u.In.To u.F])
def atm (us : List UL) : Nat → List UL
  | 0 => []
  | m + 1 => atm us m ++ atU (gi us (m : Int))
theorem atU_len (u : UL) : (atU u).length ≤ 3 := by
  unfold atU
  split <;> split <;> (try split) <;> simp
theorem atm_len (us : List UL) : ∀ m, (atm us m).length ≤ 3 * m
  | 0 => Nat.le_refl _
  | m + 1 => by
    have := atm_len us m
    have := atU_len (gi us (m : Int))
    rw [atm, List.length_append]
    omega
theorem atoms_spec (v : Value) (us : List UL) (w : World) (hv : ArgS w v rU us) (hl : us.length ≤ 65536) :
    Calls Tryz.prog 135 [v].toArray w (RetM (SlS rU 36 (atm us us.length)) (fun s => vSl s) (fun s => mS 163 s) w) := by
  refine fn_intro Tryz.func135 rfl Tryz.ntmps135 rfl ?_
  obtain ⟨p, cp, rfl⟩ := hv.form
  repeat (refine wkB ?_; try intro _)
  rename_i b3
  refine j_loop (S := (xs : List UL) × Nat × SlS rU 36 xs) (fun s => s.2.1 ≤ us.length ∧ s.1 = atm us s.2.1) (fun s => [(3, .pointer (some ⟨b3, 0, none⟩)), (4, .func (.func 171) #[] [.pointer (some ⟨b3, 0, none⟩)].toArray), (8, .slice p us.length cp), (9, .int .i64 us.length), (10, .int .i64 (s.2.1 : Nat))]) (fun s => mS 163 s.2.2 ++ [⟨b3, #[vSl s.2.2], 116⟩]) (fun s => us.length - s.2.1) ⟨[], 0, SlS.no⟩
    ⟨Nat.zero_le _, rfl⟩ sbB slB (fun s hs => ?_)
  obtain ⟨xs, m, s⟩ := s
  obtain ⟨hm, hxs⟩ := hs
  simp only at hm hxs ⊢
  repeat (refine wkB ?_; try intro _)
  refine j_cond rfl (fun h => ?_) (fun h => ?_)
  · have hlt : m < us.length := by have := of_decide_eq_true h; omega
    have hne : us ≠ [] := fun h0 => by rw [h0] at hlt; simp at hlt
    obtain ⟨bw, ow, cw, hvw, hcw, hrow⟩ := hv.blk (k := 35) hne []
    injection hvw with e1 e2 e3
    subst e1
    subst e3
    have hrow' : ∀ L, RowC w L bw ow UL rU us := fun L => ⟨fun w' hw' => hrow.out w' (hw'.sub (List.nil_sublist _))⟩
    have hxl := atm_len us m
    rw [← hxs] at hxl
    obtain ⟨u, hu⟩ : ∃ u, u = gi us (m : Int) := ⟨_, rfl⟩
    have hnx : atm us (m + 1) = xs ++ atU u := by rw [atm, hxs, hu]
    repeat (refine wkB ?_; try intro _)
    simp only [← hu]
    rename_i b6
    refine j_permL (mS 163 s ++ [⟨b3, #[vSl s], 116⟩, ⟨b6, rU u, 163⟩]) (by
      have h1 := (List.perm_append_singleton (⟨b6, rU u, 163⟩ : Blk) (mS 163 s ++ [⟨b3, #[vSl s], 116⟩])).symm
      rw [List.append_assoc] at h1
      exact h1) ?_
    refine j_cut (S := (ys : List UL) × SlS rU 36 ys) (fun s' => s'.1 = xs ++ (if u.In.OpenFrom = true then [] else [at1 u.In.From u.F])) (fun s' => [(6, .pointer (some ⟨b6, 0, none⟩)), (3, .pointer (some ⟨b3, 0, none⟩)), (4, .func (.func 171) #[] [.pointer (some ⟨b3, 0, none⟩)].toArray), (8, .slice (some ⟨bw, ow, none⟩) us.length cp), (9, .int .i64 us.length), (10, .int .i64 (m : Nat))])
      (fun s' => mS 163 s'.2 ++ [⟨b3, #[vSl s'.2], 116⟩, ⟨b6, rU u, 163⟩]) ?_ (fun s' hs' => ?_)
    · rcases ho : u.In.OpenFrom with _ | _
      · repeat (refine wkB ?_; try intro _)
        refine sY rfl rfl ?_ ?_
        · omega
        intro s'
        repeat (refine wkB ?_; try intro _)
        exact jx_mid ⟨_, s'⟩ rfl sbB suB
      · repeat (refine wkB ?_; try intro _)
        exact jx_mid ⟨_, s⟩ (by rw [if_pos rfl, List.append_nil]) sbB suB
    obtain ⟨ys, s'⟩ := s'
    simp only at hs' ⊢
    have hyl : ys.length ≤ 3 * m + 1 := by rw [hs', List.length_append]; split <;> simp <;> omega
    repeat (refine wkB ?_; try intro _)
    by_cases hi : u.In.From = u.In.To
    · simp only [decide_eq_true hi]
      repeat (first | (refine wkB ?_; try intro _) | (refine sC rfl rfl ?_ ?_; focus (exact ⟨by omega, by omega⟩)) | (refine sN rfl rfl ?_ ?_; (focus (exact ⟨by omega, by omega⟩)); intro _; (try simp only [List.cons_append, List.nil_append, List.append_nil])))
      exact jx_loop ⟨ys, m + 1, s'⟩ ⟨hlt, by rw [hnx, atU, if_pos hi, List.append_nil]; exact hs'⟩ sbB suB (by show us.length - (m + 1) < us.length - m; omega)
    · simp only [decide_eq_false hi]
      repeat (refine wkB ?_; try intro _)
      refine sU rfl rfl ?_ ?_ ?_ ?_
      · rfl
      · rfl
      · exact ⟨by decide, by omega, by omega⟩
      intro s2
      repeat (refine wkB ?_; try intro _)
      rcases hc : u.In.OpenTo with _ | _
      · have e3 : ys ++ [inn1 u] ++ [at1 u.In.To u.F] = atm us (m + 1) := by
          rw [hnx, hs']
          unfold atU
          rw [if_neg hi, hc]
          simp
        repeat (refine wkB ?_; try intro _)
        refine sY rfl rfl ?_ ?_
        · simp only [List.length_append, List.length_singleton]; omega
        intro s3
        repeat (first | (refine wkB ?_; try intro _) | (refine sC rfl rfl ?_ ?_; focus (exact ⟨by omega, by omega⟩)) | (refine sN rfl rfl ?_ ?_; (focus (exact ⟨by omega, by omega⟩)); intro _; (try simp only [List.cons_append, List.nil_append, List.append_nil])))
        exact jx_loop ⟨_, m + 1, s3⟩ ⟨hlt, e3⟩ sbB suB (by show us.length - (m + 1) < us.length - m; omega)
      · have e3 : ys ++ [inn1 u] = atm us (m + 1) := by
          rw [hnx, hs']
          unfold atU
          rw [if_neg hi, hc]
          simp
        repeat (first | (refine wkB ?_; try intro _) | (refine sC rfl rfl ?_ ?_; focus (exact ⟨by omega, by omega⟩)) | (refine sN rfl rfl ?_ ?_; (focus (exact ⟨by omega, by omega⟩)); intro _; (try simp only [List.cons_append, List.nil_append, List.append_nil])))
        exact jx_loop ⟨_, m + 1, s2⟩ ⟨hlt, e3⟩ sbB suB (by show us.length - (m + 1) < us.length - m; omega)
  · have hge : m = us.length := by have := of_decide_eq_false h; omega
    subst hge
    subst hxs
    repeat (refine wkB ?_; try intro _)
    exact jx_ret_tmp rfl rfl (fun w hw => ⟨s, rfl, hw.sub suB⟩)
instance sr_atoms (w0 : World) (L : List Blk) (v : Value) (us : List UL) [h : LstC w0 L v UL rU us] : SpecR Tryz.prog w0 L 135 [v] (SlS rU 36 (atm us us.length)) (fun s => vSl s) (fun s => mS 163 s) (us.length ≤ 65536) := ⟨fun hl w hw => atoms_spec v us w (h.out w hw) hl⟩
end Go.Vt
/- Does the last unit hold an instant? Walked. Conditions: those that each statement names. -/
set_option linter.unusedSimpArgs false
set_option linter.unusedVariables false
set_option maxHeartbeats 2000000
set_option maxRecDepth 100000
namespace Go.Vt
open Go.RowKit Go.Proofs
/-- The last unit. -/
abbrev lstU (xs : List UL) : UL := gi xs ((xs.length : Int) - 1)
def hld (xs : List UL) (t : R_api_Real) : Bool := decide (0 < xs.length) && (decide ((lstU xs).In.To = t) && !(lstU xs).In.OpenTo)
theorem held_spec (v : Value) (xs : List UL) (t : R_api_Real) (w : World) (hv : ArgS w v rU xs) (hl : xs.length ≤ 1048576) :
    Calls Tryz.prog 137 [v, vR t].toArray w (Ret (.bool (hld xs t)) w) := by
  refine fn_intro Tryz.func137 rfl Tryz.ntmps137 rfl ?_
  obtain ⟨p, cp, rfl⟩ := hv.form
  repeat (refine wkB ?_; try intro _)
  by_cases h0 : 0 < xs.length
  · have hne : xs ≠ [] := fun h => by rw [h] at h0; simp at h0
    obtain ⟨bw, ow, cw, hvw, hcw, hrow⟩ := hv.blk (k := 35) hne []
    injection hvw with e1 e2 e3
    subst e1
    subst e3
    have hrow' : ∀ L, RowC w L bw ow UL rU xs := fun L => ⟨fun w' hw' => hrow.out w' (hw'.sub (List.nil_sublist _))⟩
    (refine j_late [0, 1, 2, 3, 4, 5, 6, 7, 8, 9, 10, 11, 12, 13, 14, 15, 16, 17, 18, 19, 20, 21, 22] [23] (_) (h := ?_); refine wkI ?_)
    (repeat (refine wkH ?_))
    simp only [decide_eq_true (show (0 : Int) < (xs.length : Int) by omega)]
    (repeat (refine wkH ?_))
    rcases h1 : decide ((lstU xs).In.To = t) with _ | _
    · repeat (refine wkT ?_; try intro _)
      repeat (refine wkB ?_; try intro _)
      unfold hld
      rw [h1, decide_eq_true h0]
      exact jx_ret_tmp rfl rfl (fun w hw => ret_ok hw)
    · repeat (refine wkT ?_; try intro _)
      repeat (refine wkB ?_; try intro _)
      unfold hld
      rw [h1, decide_eq_true h0]
      exact jx_ret_tmp rfl rfl (fun w hw => ret_ok hw)
  · (refine j_late [0, 1, 2, 3, 4, 5, 6, 7, 8, 9, 10, 11, 12, 13, 14, 15, 16, 17, 18, 19, 20, 21, 22] [23] (_) (h := ?_); refine wkI ?_)
    (repeat (refine wkH ?_))
    simp only [decide_eq_false (show ¬ (0 : Int) < (xs.length : Int) by omega)]
    (repeat (refine wkH ?_))
    repeat (refine wkT ?_; try intro _)
    repeat (refine wkB ?_; try intro _)
    unfold hld
    rw [decide_eq_false h0]
    exact jx_ret_tmp rfl rfl (fun w hw => ret_ok hw)
instance sm_held (w0 : World) (L : List Blk) (v : Value) (xs : List UL) (t : R_api_Real) [h : LstC w0 L v UL rU xs] : SpecM Tryz.prog w0 L 137 [v, vR t] (.bool (hld xs t)) (xs.length ≤ 1048576) := ⟨fun hl w hw => held_spec v xs t w (h.out w hw) hl⟩
abbrev vLines : Value := .iface 152 (.agg #[])
instance meth_Same : MethC Tryz.prog 152 (.agg #[]) "Same" 179 (.agg #[]) := ⟨fun w => by kernel_rfl⟩
instance meth_Equal : MethC Tryz.prog 152 (.agg #[]) "Equal" 258 (.agg #[]) := ⟨fun w => by kernel_rfl⟩
instance meth_Reduce : MethC Tryz.prog 152 (.agg #[]) "Reduce" 259 (.agg #[]) := ⟨fun w => by kernel_rfl⟩
instance nah_Same : NahC Tryz.prog 152 (.agg #[]) "Same" := ⟨fun w => by kernel_rfl⟩
instance nah_Equal : NahC Tryz.prog 152 (.agg #[]) "Equal" := ⟨fun w => by kernel_rfl⟩
instance nif_Lines : NifC Tryz.prog 152 := ⟨fun v w => by kernel_rfl⟩
instance ptr_Unit : PtrC Tryz.prog 193 := ⟨by kernel_rfl⟩
end Go.Vt
