/- that the order in which batches arrive does not matter (part 9 of 27.) Conditions: those that each statement names. -/
import Derived.Laws.AppendOwn
import Derived.Test.YtjicdlilgjdefaaGreatDoorKO3
import Derived.Test.YtjicdlilgjdefaaGreatDoorKO8
/- Rows of structs, memory of the caller, calls that read or make memory, closures, slices and appends under the program logic. Conditions: those that each rule names. -/
set_option linter.unusedSimpArgs false
set_option linter.unusedVariables false
set_option maxHeartbeats 2000000
set_option linter.unusedSectionVars false
namespace Go.Vt
open Go.RowKit
section
variable {α : Type}
def rowL (enc : α → Array Value) (xs : List α) : List Value := xs.flatMap fun x => (enc x).toList
def row (enc : α → Array Value) (xs : List α) (sp : List Value) : Array Value := (rowL enc xs ++ sp).toArray
class EncC (enc : α → Array Value) (k : outParam Nat) : Prop where
 size : ∀ x, (enc x).size = k
 one : ∀ x, (enc x).all (·.oneCell') = true
def eI (k : IntKind) (z : Int) : Array Value := #[.int k z]
instance encI (k : IntKind) : EncC (eI k) 1 := ⟨fun _ => rfl, fun _ => by simp [eI, Value.oneCell']⟩
def gi [Inhabited α] (xs : List α) (i : Int) : α := xs.getD i.toNat default
theorem ZcV [Inhabited α] {xs : List α} {i : Int} (h : i.toNat < xs.length) : gi xs i = xs[i.toNat] := by
 unfold gi
 rw [List.getD_eq_getElem?_getD, List.getElem?_eq_getElem h]
 rfl
theorem Zi [Inhabited α] {xs : List α} {i : Nat} (h : i < xs.length) : gi xs (i : Int) = xs[i] := ZcV (i := (i : Int)) h
variable {enc : α → Array Value} {k : Nat}
theorem ZpD : rowL enc [] = [] := rfl
theorem Zbp (xs ys : List α) : rowL enc (xs ++ ys) = rowL enc xs ++ rowL enc ys := by simp [rowL]
theorem Zah [h : EncC enc k] (xs : List α) : (rowL enc xs).length = xs.length * k := by
 induction xs with
 | nil => simp [rowL]
 | cons x xs ih =>
  have h1 := h.size x
  simp only [rowL, List.flatMap_cons, List.length_append, Array.length_toList, List.length_cons, h1, Nat.add_mul] at ih ⊢
  omega
theorem Zf9 [h : EncC enc k] (xs : List α) (i j : Nat) (hi : i < xs.length) (hj : j < k) : (rowL enc xs)[i * k + j]? = (enc xs[i])[j]? := by
 induction xs generalizing i with
 | nil => simp at hi
 | cons x xs ih =>
  have h1 := h.size x
  simp only [rowL, List.flatMap_cons] at ih ⊢
  cases i with
  | zero =>
   rw [Nat.zero_mul, Nat.zero_add, List.getElem?_append_left (by simp; omega)]
   simp
  | succ i =>
   rw [List.getElem?_append_right (by simp [Nat.add_mul]; omega)]
   have e : (i + 1) * k + j - (enc x).toList.length = i * k + j := by simp [Nat.add_mul, h1]; omega
   rw [e, ih i (by simpa using hi)]
   simp
theorem ZbT [h : EncC enc k] (xs : List α) (sp : List Value) (i j : Nat) (hi : i < xs.length) (hj : j < k) : (row enc xs sp)[i * k + j]? = (enc xs[i])[j]? := by
 have hl := Zah (enc := enc) xs
 have hlt : i * k + j < xs.length * k := by
  have := Nat.mul_le_mul_right k (show i + 1 ≤ xs.length from hi)
  rw [Nat.add_mul] at this
  omega
 rw [row, List.getElem?_toArray, List.getElem?_append_left (by omega)]
 exact Zf9 xs i j hi hj
theorem Zb0 [h : EncC enc k] (xs : List α) (sp : List Value) : (row enc xs sp).size = xs.length * k + sp.length := by
 simp [row, Zah]
theorem Zhq {P : Program} {T : TypeId} {f : Nat} {v : Value} [h : EncC enc k] {xs : List α} {sp : List Value} {i : Nat} (hi : i < xs.length) (hv : LdV P T (enc xs[i]) f v) : LdV P T (row enc xs sp) (i * k + f) v := by
 have hk := h.size xs[i]
 have hle := Nat.mul_le_mul_right k (show i + 1 ≤ xs.length from hi)
 rw [Nat.add_mul] at hle
 rcases hv with ⟨n, ha, hs, rfl⟩ | ⟨ho, hv⟩
 ·refine .inl ⟨n, ha, by rw [Zb0 (k := k)]; omega, ?_⟩
  congr 1
  apply Array.ext_getElem?
  intro j
  rw [Array.getElem?_extract, Array.getElem?_extract]
  by_cases hj : j < n
  ·rw [if_pos (by omega), if_pos (by rw [Zb0 (k := k)]; omega), Nat.add_assoc, ZbT xs sp i (f + j) hi (by omega)]
  ·rw [if_neg (by omega), if_neg (by rw [Zb0 (k := k)]; omega)]
 ·have hf : f < k := by
   rcases Nat.lt_or_ge f k with h1 | h1
   ·exact h1
   ·rw [Array.getElem?_eq_none (by omega)] at hv
    cases hv
  exact .inr ⟨ho, by rw [ZbT xs sp i f hi hf]; exact hv⟩
theorem Zli [h : EncC enc k] (xs : List α) (sp : List Value) (i : Nat) (z : α) (hi : i < xs.length) : spl (row enc xs sp) (i * k) (enc z).toList = row enc (xs.set i z) sp := by
 have hle := Nat.mul_le_mul_right k (show i + 1 ≤ xs.length from hi)
 rw [Nat.add_mul] at hle
 have hz := h.size z
 apply Array.ext_getElem?
 intro j
 rw [ZcS _ _ _ _ (by rw [Zb0 (k := k)]; simp; omega)]
 simp only [Array.length_toList, hz]
 by_cases h1 : i * k ≤ j ∧ j < i * k + k
 ·rw [if_pos h1]
  obtain ⟨m, rfl⟩ : ∃ m, j = i * k + m := ⟨j - i * k, by omega⟩
  rw [ZbT _ sp i m (by simpa using hi) (by omega), Nat.add_sub_cancel_left]
  simp
 ·rw [if_neg h1]
  rcases Nat.lt_or_ge j (xs.length * k) with h2 | h2
  ·rcases Nat.eq_zero_or_pos k with h0 | h0
   ·subst h0; simp at h2
   ·obtain ⟨q, m, rfl, hm⟩ : ∃ q m, j = q * k + m ∧ m < k := ⟨j / k, j % k, by rw [Nat.mul_comm]; exact (Nat.div_add_mod j k).symm, Nat.mod_lt _ h0⟩
    have hq : q < xs.length := by
     rcases Nat.lt_or_ge q xs.length with h3 | h3
     ·exact h3
     ·have := Nat.mul_le_mul_right k h3
      omega
    have hqi : i ≠ q := by
     rintro rfl
     exact h1 ⟨by omega, by omega⟩
    rw [ZbT xs sp q m hq hm, ZbT _ sp q m (by simpa using hq) hm]
    simp [List.getElem_set_ne hqi]
  ·rw [row, row, List.getElem?_toArray, List.getElem?_toArray, List.getElem?_append_right (by rw [Zah (k := k)]; exact h2), List.getElem?_append_right (by rw [Zah (k := k)]; simpa using h2)]
   simp [Zah (k := k)]
theorem ZcJ [h : EncC enc k] (xs : List α) : ∀ u ∈ rowL enc xs, u.oneCell' = true := fun u hu => by
 obtain ⟨x, _, hx⟩ := List.mem_flatMap.1 hu
 exact Array.all_eq_true_iff_forall_mem.1 (h.one x) u (Array.mem_toList_iff.1 hx)
end
class FoC (w0 : World) (b : Nat) (cs : outParam (Array Value)) (T : outParam TypeId) : Prop where
 out : ∃ fz, w0.heap[b]? = some (.cells cs T fz)
class AtC (w0 : World) (L : List Blk) (b : Nat) (cs : outParam (Array Value)) (T : outParam TypeId) : Prop where
 out : ∀ w, Own w0 L w → ∃ fz, w.heap[b]? = some (.cells cs T fz)
instance (priority := high) atMem (w0 : World) (L : List Blk) (b : Nat) (cs : Array Value) (T : TypeId) [h : MemC b L cs T] : AtC w0 L b cs T := ⟨fun _ hw => ⟨(0, 0), (hw.mem _ h.out).2⟩⟩
instance (priority := low) atFo (w0 : World) (L : List Blk) (b : Nat) (cs : Array Value) (T : TypeId) [h : FoC w0 b cs T] : AtC w0 L b cs T := ⟨fun w hw => by
 obtain ⟨fz, hf⟩ := h.out
 exact ⟨fz, by rw [hw.ext.block b (Zm hf)]; exact hf⟩⟩
instance (priority := low) sblA (X A B : List Blk) [h : SblC A B] : SblC A (X ++ B) := ⟨h.out.trans (List.sublist_append_right _ _)⟩
instance (priority := low) memSkip (b : Nat) (A L : List Blk) (cs : Array Value) (T : TypeId) [h : MemC b L cs T] : MemC b (A ++ L) cs T := ⟨List.mem_append_right _ h.out⟩
section
variable {P : Program} {w0 : World} {n : Nat} {ops : Array Oper} {L L' : List Blk} {E : Env}
variable {Q : Exit → Act → World → Prop} {rest : List Oper} {v : Value}
variable {d : Option Tmp} {ty : TypeId} {pos : String} {aft : Array Edge} {gd : Option (Nat × Bool)} {t : Tmp}
variable {x y : Operand} {T : TypeId}
theorem Zdt {T0 : TypeId} {b off : Nat} {cs : Array Value} (hx : Env.ev E x = some (.pointer (some ⟨b, off, none⟩))) (h : ∀ w, Own w0 L w → ∃ fz, w.heap[b]? = some (.cells cs T0 fz)) (hv : LdV P T cs off v) : Yl P w0 n L E ⟨d, .load T x, ty, pos, aft, gd⟩ v :=
 Zaz (fun _ => loadVar T ⟨b, off, none⟩) (fun a ha => by
  simp only [execOp, ha.ev hx, Instr.loadAt, Instr.sureAddr]
  rfl) (fun a w _ hw => by
   obtain ⟨fz, hf⟩ := h w hw
   exact ZbO hf hv)
instance (priority := low) ZDx {T0 : TypeId} {b off : Nat} {cs : Array Value} [IsC (evl E x) (.pointer (some ⟨b, off, none⟩))] [h : FoC w0 b cs T0] [hv : LdC P T cs off v] : YlC P w0 n L E (.load T x) v := ⟨fun _ _ _ _ _ => Zdt isE (atFo w0 L b cs T0).out hv.out⟩
section
variable {α : Type} [Inhabited α] {enc : α → Array Value} {k b f : Nat} {xs : List α} {sp : List Value} {T0 : TypeId} {i lo : Int}
instance ldEI {k : IntKind} {z : Int} [h : UndC P T (.int k)] : LdC P T (eI k z) 0 (.int k z) := ⟨Zy (by simp [oneB, h.out]) rfl⟩
instance ZEG [IsC (evl E x) (.pointer (some ⟨b, 0 + i.toNat * k, none⟩))] [h : AtC w0 L b (row enc xs sp) T0] [EncC enc k] [hv : LdC P T (enc (gi xs i)) 0 v] : YsC P w0 n L E (.load T x) v (i.toNat < xs.length) := ⟨fun hi _ _ _ _ _ => Zdt isE h.out (by
 have h1 := Zhq (P := P) (T := T) (v := v) (enc := enc) (k := k) (sp := sp) (f := 0) hi (by rw [← ZcV hi]; exact hv.out)
 rwa [Nat.add_zero, ← Nat.zero_add (i.toNat * k)] at h1)⟩
instance ZD9 [IsC (evl E x) (.pointer (some ⟨b, 0 + i.toNat * k + f, none⟩))] [h : AtC w0 L b (row enc xs sp) T0] [EncC enc k] [hv : LdC P T (enc (gi xs i)) f v] : YsC P w0 n L E (.load T x) v (i.toNat < xs.length) := ⟨fun hi _ _ _ _ _ => Zdt isE h.out (by
 have h1 := Zhq (P := P) (T := T) (v := v) (enc := enc) (k := k) (sp := sp) (f := f) hi (by rw [← ZcV hi]; exact hv.out)
 rwa [← Nat.zero_add (i.toNat * k)] at h1)⟩
class ValC {α : Type} (enc : α → Array Value) (u : Value) (z : outParam α) : Prop where
 out : u.cells = enc z
instance valI {k : IntKind} {z : Int} : ValC (eI k) (.int k z) z := ⟨rfl⟩
instance valA (enc : α → Array Value) (z : α) : ValC enc (.agg (enc z)) z := ⟨rfl⟩
theorem sR {u : Value} {z : α} [hx : IsC (evl E x) (.pointer (some ⟨b, 0 + i.toNat * k, none⟩))] [hy : IsC (evl E y) u] [hk : SizeC P T k] [MemC b L (row enc xs sp) T0] [he : EncC enc k] [hu : ValC enc u z] [hU : UpdC b (row enc (xs.set i.toNat z) sp) L (row enc xs sp) T0 L']
  (hg : guardB ops E gd = some true) (s : i.toNat < xs.length) (h : JO P w0 n ops Q rest E L') : JO P w0 n ops Q (⟨none, .store T x y, ty, pos, aft, gd⟩ :: rest) E L := by
 have h1 := he.size z
 have hle := Nat.mul_le_mul_right k (show i.toNat + 1 ≤ xs.length from s)
 rw [Nat.add_mul] at hle
 exact ZcK (u := u) k isE isE hU.out hk.out (by rw [hu.out, h1]) (by rw [Zb0 (k := k)]; exact Nat.ble_eq_true_of_le (by omega)) (by rw [hu.out]; exact he.one z) (by rw [hu.out, Nat.zero_add]; exact Zli xs sp _ z s) hg rfl h
end
class StC (P : Program) (T : TypeId) (cs : Array Value) (off : Nat) (u : Value) (cs' : outParam (Array Value)) : Prop where
 size : (P.info? T).map (·.size) = some u.cells.size
 fit : Nat.ble (off + u.cells.size) cs.size = true
 one : u.cells.all (·.oneCell') = true
 out : spl cs off u.cells.toList = cs'
theorem sF {T0 : TypeId} {b off : Nat} {cs cs' : Array Value} {u : Value} [hx : IsC (evl E x) (.pointer (some ⟨b, off, none⟩))] [hy : IsC (evl E y) u] [MemC b L cs T0] [hs : StC P T cs off u cs'] [hU : UpdC b cs' L cs T0 L'] (hg : guardB ops E gd = some true)
  (h : JO P w0 n ops Q rest E L') : JO P w0 n ops Q (⟨none, .store T x y, ty, pos, aft, gd⟩ :: rest) E L := ZcK (u := u) u.cells.size isE isE hU.out hs.size rfl hs.fit hs.one hs.out hg rfl h
theorem eF {K : Env → List Blk → Prop} {Lw : List Blk} {T0 : TypeId} {b off : Nat} {cs cs' : Array Value} {u : Value} [hx : IsC (evl E x) (.pointer (some ⟨b, off, none⟩))] [hy : IsC (evl E y) u] [MemC b L cs T0] [hs : StC P T cs off u cs'] [hU : UpdC b cs' L cs T0 L'] (hg : guardB ops E gd = some true) [hw : SblC Lw L']
  (h : JE P w0 n ops Lw K rest E L') : JE P w0 n ops Lw K (⟨none, .store T x y, ty, pos, aft, gd⟩ :: rest) E L := Zeu (u := u) u.cells.size isE isE hU.out hs.size rfl hs.fit hs.one hs.out hg hw.out h
class SpecM (P : Program) (w0 : World) (L : List Blk) (f : FuncId) (args : List Value) (v : outParam Value) (pre : outParam Prop) : Prop where
 out : pre → ∀ w, Own w0 L w → Calls P f args.toArray w (Ret v w)
instance (priority := low) ZDJ {f : FuncId} {args : List Value} {pre : Prop} [h : SpecC P f args v pre] : SpecM P w0 L f args v pre := ⟨fun hp w _ => h.out hp w⟩
instance (priority := low) Zzx {f : FuncId} {xs : List Operand} {l : List Value} {ats : Array TypeId} {pre : Prop} [hf : CallC P f] [IsC (evsl E xs) l] [h : SpecM P w0 L f l v pre] : YcC P w0 n L E (.call ⟨.value (.func f), xs.toArray, ats⟩) v pre := ⟨fun hp _ _ _ _ _ => Zg3 hf.out isS (h.out hp)⟩
theorem Zkb {f : Fn} {xs : List Operand} {l : List Value} (hl : Env.evs E xs = some l) : Yl P w0 n L E ⟨d, .makeFunc f #[] xs.toArray, ty, pos, aft, gd⟩ (.func f #[] l.toArray) :=
 Zaz (fun _ => Instr.makeFunc f #[] l.toArray) (fun a ha => by
  have h1 : xs.toArray.map a.eval = l.toArray := by rw [← ha.evs xs l hl]; simp
  simp only [execOp, h1, Array.map_empty]) (fun a w _ _ => by simp [Instr.makeFunc])
instance Zuj {f : Fn} {xs : List Operand} {l : List Value} [IsC (evsl E xs) l] : YlC P w0 n L E (.makeFunc f #[] xs.toArray) (.func f #[] l.toArray) := ⟨fun _ _ _ _ _ => Zkb isS⟩
class AppC (a b : List Value) (c : outParam (List Value)) : Prop where out : a ++ b = c
instance appN (b : List Value) : AppC [] b b := ⟨rfl⟩
instance appS (x : Value) (a b c : List Value) [h : AppC a b c] : AppC (x :: a) b (x :: c) := ⟨by rw [← h.out]; rfl⟩
theorem ZgH {f : FuncId} {g : Operand} {xs : List Operand} {l cap c : List Value} {ats : Array TypeId} {a : Act} {w : World} (hf : callableB P f = true) (ha : Rep n E a) (hg : Env.ev E g = some (.func (.func f) #[] cap.toArray)) (hl : Env.evs E xs = some l) (hc : l ++ cap = c) :
  (execOp a.eval ⟨d, .call ⟨.value g, xs.toArray, ats⟩, ty, pos, aft, gd⟩).run P w = .ok (.enter f c.toArray) w := by
 have h1 : xs.toArray.map a.eval = l.toArray := by rw [← ha.evs xs l hl]; simp
 simp only [execOp, resolve, h1, ha.ev hg, Deferred.ofValue, Sem.run_bind, Sem.run_pure, Result.andThen, invoke]
 rw [show (#[] ++ l.toArray : Array Value) = l.toArray from Array.empty_append]
 have h2 : l.toArray ++ cap.toArray = c.toArray := by rw [← hc]; simp
 rw [h2]
 exact Zbu hf _ _
instance ZyS {f : FuncId} {u : Tmp} {xs : List Operand} {l cap c : List Value} {ats : Array TypeId} {pre : Prop} [hu : IsC (evl E (.tmp u)) (.func (.func f) #[] cap.toArray)] [hf : CallC P f] [IsC (evsl E xs) l] [hc : AppC l cap c] [h : SpecM P w0 L f c v pre] : YcC P w0 n L E (.call ⟨.value (.tmp u), xs.toArray, ats⟩) v pre := ⟨fun hp _ _ _ _ _ => ⟨fun a w ha hw => by
 unfold calm
 rw [ZgH hf.out ha isE isS hc.out]
 exact ⟨rfl, h.out hp w hw⟩⟩⟩
def RetM (S : Type) (val : S → Value) (mem : S → List Blk) (w : World) (e : Ending) (w' : World) : Prop := ∃ s, e = .returned (val s) ∧ Own w (mem s) w'
theorem Own.join {w w' : World} {G : List Blk} (h : Own w0 L w) (k : Own w G w') : Own w0 (G ++ L) w' := by
 have h' := h.to k.ext
 refine ⟨h'.ext, fun e he => ?_, ?_⟩
 ·rcases List.mem_append.1 he with he | he
  ·exact ⟨Nat.le_trans h.ext.size (k.mem e he).1, (k.mem e he).2⟩
  ·exact h'.mem e he
 ·rw [List.map_append]
  refine List.nodup_append.2 ⟨k.nd, h.nd, fun a ha b hb hab => ?_⟩
  obtain ⟨e1, h1, rfl⟩ := List.mem_map.1 ha
  obtain ⟨e2, h2, rfl⟩ := List.mem_map.1 hb
  have h3 := (k.mem e1 h1).1
  have h4 := h.lt h2
  omega
class SpecR (P : Program) (w0 : World) (L : List Blk) (f : FuncId) (args : List Value) (S : outParam Type) (val : outParam (S → Value)) (mem : outParam (S → List Blk)) (pre : outParam Prop) : Prop where
 out : pre → ∀ w, Own w0 L w → Calls P f args.toArray w (RetM S val mem w)
theorem Zps {S : Type} {val : S → Value} {mem : S → List Blk} {f : FuncId} {xs : List Operand} {l : List Value} {ats : Array TypeId} (hl : Env.evs E xs = some l) (hf : callableB P f = true) (hc : ∀ w, Own w0 L w → Calls P f l.toArray w (RetM S val mem w))
  (hg : guardB ops E gd = some true) (hd : Nat.blt t n = true) (h : ∀ s, JO P w0 n ops Q rest ((t, val s) :: E) (mem s ++ L)) : JO P w0 n ops Q (⟨some t, .call ⟨.value (.func f), xs.toArray, ats⟩, ty, pos, aft, gd⟩ :: rest) E L :=
 ZiB (S := S) (o := ⟨some t, .call ⟨.value (.func f), xs.toArray, ats⟩, ty, pos, aft, gd⟩) hg hd val (fun s => mem s ++ L) (fun _ _ ha => Zch hf ha hl)
  (fun w hw => (hc w hw).mono fun _ _ ⟨s, he, ho⟩ => ⟨s, he, hw.join ho⟩) h
theorem sN {S : Type} {val : S → Value} {mem : S → List Blk} {f : FuncId} {xs : List Operand} {l : List Value} {ats : Array TypeId} {pre : Prop} [hf : CallC P f] [hl : IsC (evsl E xs) l] [hc : SpecR P w0 L f l S val mem pre]
  (hg : guardB ops E gd = some true) (hd : Nat.blt t n = true) (s : pre) (h : ∀ s, JO P w0 n ops Q rest ((t, val s) :: E) (mem s ++ L)) : JO P w0 n ops Q (⟨some t, .call ⟨.value (.func f), xs.toArray, ats⟩, ty, pos, aft, gd⟩ :: rest) E L := Zps isS hf.out (hc.out s) hg hd h
theorem eN {K : Env → List Blk → Prop} {Lw : List Blk} {S : Type} {val : S → Value} {mem : S → List Blk} {f : FuncId} {xs : List Operand} {l : List Value} {ats : Array TypeId} {pre : Prop} [hf : CallC P f] [hl : IsC (evsl E xs) l] [hc : SpecR P w0 L f l S val mem pre]
  (hg : guardB ops E gd = some true) (hd : Nat.blt t n = true) [hw : SblC Lw L] (s : pre) (h : ∀ s, JE P w0 n ops Lw K rest ((t, val s) :: E) (mem s ++ L)) : JE P w0 n ops Lw K (⟨some t, .call ⟨.value (.func f), xs.toArray, ats⟩, ty, pos, aft, gd⟩ :: rest) E L :=
 ZsA (S := S) (o := ⟨some t, .call ⟨.value (.func f), xs.toArray, ats⟩, ty, pos, aft, gd⟩) hg hd val (fun s => mem s ++ L) (fun _ _ ha => Zch hf.out ha isS)
  (fun w hw' => (hc.out s w hw').mono fun _ _ ⟨s, he, ho⟩ => ⟨s, he, hw'.join ho⟩) (fun _ => Zaq (hw.out.trans (List.sublist_append_right _ _))) h
theorem eX {K : Env → List Blk → Prop} {Lw : List Blk} {op : Op} [h : YlC P w0 n L E op v] (hg : guardB ops E gd = some true) (hd : Nat.blt t n = true) [hw : SblC Lw L] (k : JE P w0 n ops Lw K rest ((t, v) :: E) L) : JE P w0 n ops Lw K (⟨some t, op, ty, pos, aft, gd⟩ :: rest) E L :=
 ⟨hg, hd, Unit, fun _ => v, fun _ => L, fun a w ha hw => by
  have h1 := (h.out (some t) ty pos aft gd).out a w ha hw
  unfold calm at h1
  generalize (execOp a.eval ⟨some t, op, ty, pos, aft, gd⟩).run P w = r at *
  cases r with
  | ok x w' =>
   cases x <;> simp only [calmUpon] at h1 <;> simp only [Hap]
   case value u => exact ⟨(), h1.1, hw.to h1.2⟩
   case skip => exact ⟨(), h1.1.symm, hw.to h1.2⟩
   case enter f args =>
    obtain ⟨rfl, h2⟩ := h1
    exact h2.mono fun e w'' ⟨he, hx⟩ => ⟨_, he, (), rfl, hw.to hx⟩
  | halt x w' => simp only [calmUpon] at h1, fun _ => Zaq hw.out, fun _ => k⟩
theorem sB {len : Nat} {ps : List (Nat × Operand)} {l : List (Nat × Value)} {cs : Array Value} {e : TypeId} [hp : IsC (evpl E ps) l] [hb : BsC P T len l cs e] (hg : guardB ops E gd = some true) (hd : Nat.blt t n = true)
  (h : ∀ b, JO P w0 n ops Q rest ((t, .slice (some ⟨b, 0, none⟩) len len) :: E) (⟨b, cs, e⟩ :: L)) : JO P w0 n ops Q (⟨some t, .buildSlice T len ps.toArray, ty, pos, aft, gd⟩ :: rest) E L := Zh9 isP hg hd h
theorem eB {K : Env → List Blk → Prop} {Lw : List Blk} {len : Nat} {ps : List (Nat × Operand)} {l : List (Nat × Value)} {cs : Array Value} {e : TypeId} [hp : IsC (evpl E ps) l] [hb : BsC P T len l cs e] (hg : guardB ops E gd = some true) (hd : Nat.blt t n = true) [hw : SblC Lw L]
  (h : ∀ b, JE P w0 n ops Lw K rest ((t, .slice (some ⟨b, 0, none⟩) len len) :: E) (⟨b, cs, e⟩ :: L)) : JE P w0 n ops Lw K (⟨some t, .buildSlice T len ps.toArray, ty, pos, aft, gd⟩ :: rest) E L := ZnW isP hg hd hw.out h
end
class DelC (b : Nat) (L : List Blk) (cs : outParam (Array Value)) (T : outParam TypeId) (L1 : outParam (List Blk)) : Prop where
 out : L.Perm (⟨b, cs, T⟩ :: L1)
instance (priority := high) delHere (b : Nat) (cs : Array Value) (T : TypeId) (L : List Blk) : DelC b (⟨b, cs, T⟩ :: L) cs T L := ⟨.refl _⟩
instance (priority := low) delThere (b : Nat) (e : Blk) (cs : Array Value) (T : TypeId) (L L1 : List Blk) [h : DelC b L cs T L1] : DelC b (e :: L) cs T (e :: L1) := ⟨(h.out.cons e).trans (.swap _ _ _)⟩
section
variable {P : Program} {w0 : World} {n : Nat} {ops : Array Oper} {L L1 : List Blk} {E : Env}
variable {Q : Exit → Act → World → Prop} {rest : List Oper}
variable {ty : TypeId} {pos : String} {aft : Array Edge} {gd : Option (Nat × Bool)} {t : Tmp} {x y : Operand}
theorem ZbD {T : TypeId} {β : Type} {g : TypeInfo → β} {v : β} (h : (P.info? T).map g = some v) : ∃ i, P.info? T = some i ∧ g i = v := by
 cases hi : P.info? T with
 | none => simp [hi] at h
 | some i => exact ⟨i, rfl, by simpa [hi] using h⟩
theorem Zfs {S T : TypeId} {b len c b2 off2 m c2 k B : Nat} {xs sp news : List Value} {cs2 : Array Value} {z : Value} {zc : Array Value} {w : World} (hT : P.underlying S = some (.slice T)) (hz : (P.info? T).bind (·.zero) = some z) (hzc : z.cells = zc) (hk : (P.info? T).map (·.size) = some k) (hB : (P.info? T).map (·.bytes) = some B)
  (hzk : zc.size = k) (hw : Own w0 L w) (hd : L.Perm (⟨b, (xs ++ sp).toArray, T⟩ :: L1)) (hx : xs.length = len * k) (hs : sp.length = (c - len) * k) (hc : len ≤ c) (h2 : ∃ T2 fz, w.heap[b2]? = some (.cells cs2 T2 fz)) (hn : news.length = m * k) (hcs : ∀ j u, news[j]? = some u → cs2[off2 + j]? = some u)
  (h1 : ∀ u ∈ news, u.oneCell' = true) (hbytes : (len + m) * B ≤ 140737488355328) (h63 : len + m ≤ 9223372036854775807) :
  ∃ s : { s : Nat × Nat × List Value // len + m ≤ s.2.1 ∧ s.2.2.length = (s.2.1 - (len + m)) * k }, ∃ w', (Builtin.append_ #[S, S] ty #[.slice (some ⟨b, 0, none⟩) len c, .slice (some ⟨b2, off2, none⟩) m c2]).run P w = .ok (.slice (some ⟨s.1.1, 0, none⟩) (len + m) s.1.2.1) w' ∧ Own w0 (⟨s.1.1, (xs ++ news ++ s.1.2.2).toArray, T⟩ :: L1) w' := by
 have hwp := hw.perm hd
 have hb := (hwp.mem _ (.head _)).2
 obtain ⟨i, hi, hik⟩ := ZbD hk
 obtain ⟨i', hi', hiB⟩ := ZbD hB
 obtain rfl : i' = i := Option.some.inj (hi'.symm.trans hi)
 have hz' : i'.zero = some z := by simpa [hi] using hz
 obtain ⟨T2, fz, h2⟩ := h2
 have hnew : ∀ j u, news[j]? = some u → w.cell? ((⟨b2, off2, none⟩ : Addr).add j) = some u := fun j u hu => by rw [ZaA, Zas h2]; exact hcs j u hu
 by_cases hroom : len + m ≤ c
 ·have hle : (c - len) * k = (c - (len + m)) * k + m * k := by rw [← Nat.add_mul, show c - (len + m) + m = c - len by omega]
  have hr := run_append_room w S ty T i' hT hi b len c (xs ++ sp).toArray hb ⟨b2, off2, none⟩ m c2 news (by rw [hik]; exact hn) hnew h1 hroom (by rw [hik]; simp; omega)
  refine ⟨⟨(b, c, sp.drop (m * k)), hroom, by rw [List.length_drop]; simp only; omega⟩, _, hr, ?_⟩
  have e1 : ((xs ++ sp).toArray.toList.take (len * i'.size) ++ news ++ (xs ++ sp).toArray.toList.drop (len * i'.size + news.length)) = xs ++ news ++ sp.drop (m * k) := by
   rw [hik, hn, ← hx]
   simp only [List.take_left', List.drop_append, List.append_assoc]
   rw [List.drop_eq_nil_of_le (by omega), Nat.add_sub_cancel_left]
   simp
  rw [e1]
  refine hwp.turn (b := b) (cs := (xs ++ sp).toArray) (T := T) .here ?_
  have hsz : b < w.heap.size := Zm hb
  refine ⟨by simp [World.setRow], by simp [World.setRow], by simp [World.setRow], by simp [World.setRow], by simp [World.setRow], fun q hq => ?_, ?_⟩
  ·simp [World.setRow, Array.getElem?_modify, Ne.symm hq]
  ·simp [World.setRow, Array.getElem?_modify, hb]
 ·have hold : ∀ j u, xs[j]? = some u → w.cell? ((⟨b, 0, none⟩ : Addr).add j) = some u := fun j u hu => by
   rw [ZaA, Zas hb, Nat.zero_add, List.getElem?_toArray, List.getElem?_append_left (by
    rcases Nat.lt_or_ge j xs.length with h | h
    ·exact h
    ·rw [List.getElem?_eq_none h] at hu; cases hu)]
   exact hu
  have hr := run_append_grow w S ty T i' z hT hi hz' ⟨b, 0, none⟩ len c xs (by rw [hik]; exact hx) hold ⟨b2, off2, none⟩ m c2 news (by rw [hik]; exact hn) hnew (by omega) (by omega) (growslice_fits (by omega) (by rw [hiB]; exact hbytes))
  have hge := grownCap_ge w (len + m) c T
  refine ⟨⟨(w.heap.size, grownCap w (len + m) c T, (Builtin.zeroCells z.cells (grownCap w (len + m) c T - (len + m))).toList), hge, by rw [Array.length_toList, size_zeroCells, hzc, hzk]⟩, _, hr, ?_⟩
  have hL1 : Own w0 L1 w := hwp.sub (List.sublist_cons_self _ _)
  have h3 := (hL1.to (Ext.drew w)).alloc (xs.toArray ++ news.toArray ++ Builtin.zeroCells z.cells (grownCap w (len + m) c T - (len + m))) T
  have e2 : xs.toArray ++ news.toArray ++ Builtin.zeroCells z.cells (grownCap w (len + m) c T - (len + m)) = (xs ++ news ++ (Builtin.zeroCells z.cells (grownCap w (len + m) c T - (len + m))).toList).toArray := by
   apply Array.ext'
   simp
  rw [e2] at h3
  rw [e2]
  exact h3
theorem ZdX {S T : TypeId} {b2 off2 m c2 k B : Nat} {news : List Value} {cs2 : Array Value} {z : Value} {zc : Array Value} {w : World} (hT : P.underlying S = some (.slice T)) (hz : (P.info? T).bind (·.zero) = some z) (hzc : z.cells = zc) (hk : (P.info? T).map (·.size) = some k) (hB : (P.info? T).map (·.bytes) = some B)
  (hzk : zc.size = k) (hw : Own w0 L w) (h2 : ∃ T2 fz, w.heap[b2]? = some (.cells cs2 T2 fz)) (hn : news.length = m * k) (hcs : ∀ j u, news[j]? = some u → cs2[off2 + j]? = some u)
  (hm : 0 < m) (hbytes : m * B ≤ 140737488355328) (h63 : m ≤ 9223372036854775807) :
  ∃ s : { s : Nat × Nat × List Value // m ≤ s.2.1 ∧ s.2.2.length = (s.2.1 - m) * k }, ∃ w', (Builtin.append_ #[S, S] ty #[.slice none 0 0, .slice (some ⟨b2, off2, none⟩) m c2]).run P w = .ok (.slice (some ⟨s.1.1, 0, none⟩) m s.1.2.1) w' ∧ Own w0 (⟨s.1.1, (news ++ s.1.2.2).toArray, T⟩ :: L) w' := by
 obtain ⟨i, hi, hik⟩ := ZbD hk
 obtain ⟨i', hi', hiB⟩ := ZbD hB
 obtain rfl : i' = i := Option.some.inj (hi'.symm.trans hi)
 have hz' : i'.zero = some z := by simpa [hi] using hz
 obtain ⟨T2, fz, h2⟩ := h2
 have hnew : ∀ j u, news[j]? = some u → w.cell? ((⟨b2, off2, none⟩ : Addr).add j) = some u := fun j u hu => by rw [ZaA, Zas h2]; exact hcs j u hu
 have hr := run_append_nil w S ty T i' z hT hi hz' ⟨b2, off2, none⟩ m c2 news (by rw [hik]; exact hn) hnew hm (by omega) (by rw [hiB]; omega)
 have hge := grownCap_ge w m 0 T
 refine ⟨⟨(w.heap.size, grownCap w m 0 T, (Builtin.zeroCells z.cells (grownCap w m 0 T - m)).toList), hge, by rw [Array.length_toList, size_zeroCells, hzc, hzk]⟩, _, hr, ?_⟩
 have h3 := (hw.to (Ext.drew w)).alloc (news.toArray ++ Builtin.zeroCells z.cells (grownCap w m 0 T - m)) T
 have e2 : news.toArray ++ Builtin.zeroCells z.cells (grownCap w m 0 T - m) = (news ++ (Builtin.zeroCells z.cells (grownCap w m 0 T - m)).toList).toArray := by
  apply Array.ext'
  simp
 rw [e2] at h3
 rw [e2]
 exact h3
theorem Za9 {S : TypeId} {vx vy : Value} {a : Act} {w w' : World} {r : Value} {d : Option Tmp} (ha : Rep n E a) (hx : Env.ev E x = some vx) (hy : Env.ev E y = some vy) (hr : (Builtin.append_ #[S, S] ty #[vx, vy]).run P w = .ok r w') :
  (execOp a.eval ⟨d, .call ⟨.builtin .append, #[x, y], #[S, S]⟩, ty, pos, aft, gd⟩).run P w = .ok (.value r) w' := by
 have h1 : (#[x, y] : Array Operand).map a.eval = #[vx, vy] := by simp [ha.ev hx, ha.ev hy]
 have h2 : ∀ cs : Array Bool, (builtin .append #[S, S] ty cs #[vx, vy]).run P w = .ok (.value r) w' := fun cs => by
  show Sem.run P (do pure (Next.value (← Builtin.append_ #[S, S] ty #[vx, vy])) : Sem Next) w = _
  rw [Sem.run_bind, hr]
  rfl
 simp only [execOp, resolve, h1, Sem.run_bind, Sem.run_pure, Result.andThen, invoke]
 exact h2 _
theorem Zgt (k : IntKind) (xs : List Int) : nums k xs = row (eI k) xs [] := by
 have h : ∀ l : List Int, l.flatMap (fun x => [Value.int k x]) = l.map (Value.int k) := by
  intro l
  induction l with
  | nil => rfl
  | cons a l ih => simp [ih]
 simp [nums, row, rowL, eI, h]
theorem sM {T e : TypeId} {k : IntKind} {B m : Nat} [hT : UndC P T (.slice e)] [hz : ZeroC P e (.int k 0) #[.int k 0]] [hs : SizeC P e 1] [hB : BytesC P e B] [hx : IsC (evl E x) (.int .i64 (m : Nat))] [hy : IsC (evl E y) (.int .i64 (m : Nat))] (hg : guardB ops E gd = some true) (hd : Nat.blt t n = true) (hm : B * m ≤ 281474976710656 ∧ m ≤ 281474976710656)
  (h : ∀ b, JO P w0 n ops Q rest ((t, .slice (some ⟨b, 0, none⟩) m m) :: E) (⟨b, row (eI k) (List.replicate m 0) [], e⟩ :: L)) : JO P w0 n ops Q (⟨some t, .makeSlice T x y, ty, pos, aft, gd⟩ :: rest) E L :=
 ZkV isE isE hm hg hd (fun b => by rw [Zgt]; exact h b)
end
theorem wkB {P Q : Prop} (k : Q) (h : Wr Q → P := by intro hq; (first | refine sX rfl rfl ?_ | (refine sS rfl rfl ?_ ?_; focus omega) | (refine sC rfl rfl ?_ ?_; focus (first | exact trivial | assumption | constructor <;> assumption | exact mb2 rfl rfl | exact mb4 rfl rfl rfl rfl)) | refine cX ?_ | refine cY ?_ | (refine sA rfl rfl ?_) | refine sT rfl ?_ | refine sF rfl ?_ | (refine sR rfl ?_ ?_; focus omega) | (refine sB rfl rfl ?_) | (refine sN rfl rfl ?_ ?_; (focus (first | exact trivial | assumption | constructor <;> assumption | exact mb2 rfl rfl | exact mb4 rfl rfl rfl rfl)); (try simp only [List.cons_append, List.nil_append, List.append_nil])) | refine sW rfl rfl ?_ | refine sK rfl rfl ?_ | refine Zek rfl ?_ | refine Zb9 rfl ?_ | refine pkT rfl rfl rfl rfl ?_ | refine pkF rfl rfl rfl rfl ?_); (repeat (first | refine sX rfl rfl ?_ | (refine sS rfl rfl ?_ ?_; focus omega) | (refine sC rfl rfl ?_ ?_; focus (first | exact trivial | assumption | constructor <;> assumption | exact mb2 rfl rfl | exact mb4 rfl rfl rfl rfl)) | refine cX ?_ | refine cY ?_ | (refine sA rfl rfl ?_) | refine sT rfl ?_ | refine sF rfl ?_ | (refine sR rfl ?_ ?_; focus omega) | (refine sB rfl rfl ?_) | (refine sN rfl rfl ?_ ?_; (focus (first | exact trivial | assumption | constructor <;> assumption | exact mb2 rfl rfl | exact mb4 rfl rfl rfl rfl)); (try simp only [List.cons_append, List.nil_append, List.append_nil])) | refine sW rfl rfl ?_ | refine sK rfl rfl ?_ | refine Zek rfl ?_ | refine Zb9 rfl ?_ | refine pkT rfl rfl rfl rfl ?_ | refine pkF rfl rfl rfl rfl ?_)); exact hq.out) : P := h ⟨k⟩
end Go.Vt
/- Rows of structs and integers: encodings, literals, stores of parts. Written by a program (gen_row.py). Conditions: none. -/
set_option maxRecDepth 100000
namespace Go.Vt
open Go.RowKit Go.Proofs
instance : Inhabited Z8 := ⟨Ze5⟩
instance Zms : EncC Z5 8 := ⟨fun _ => CsC.size, fun _ => CsC.one⟩
instance : Inhabited Zb := ⟨Zap⟩
instance Zrk : EncC Zc 8 := ⟨fun _ => CsC.size, fun _ => CsC.one⟩
instance : Inhabited Zar := ⟨Zca⟩
instance Zsr : EncC Zp 2 := ⟨fun _ => CsC.size, fun _ => CsC.one⟩
abbrev Zo (x : Ze) : Array Value := ZJ (ZF x)
instance : Inhabited Ze := ⟨Zco⟩
instance ZoM : EncC Zo 12 := ⟨fun _ => CsC.size, fun _ => CsC.one⟩
instance : Inhabited ZaB := ⟨Zdr⟩
instance Zsl : EncC Zaa 2 := ⟨fun _ => CsC.size, fun _ => CsC.one⟩
abbrev Zbb (x : ZB) : Array Value := Zw (ZC x)
instance Zqs : EncC Zbb 20 := ⟨fun _ => CsC.size, fun _ => CsC.one⟩
abbrev ZbU (x : Zab) : Array Value := ZS (ZR x)
instance : Inhabited Zab := ⟨Zcf⟩
instance Zow : EncC ZbU 36 := ⟨fun _ => CsC.size, fun _ => CsC.one⟩
instance : Inhabited ZU := ⟨Zfe⟩
instance ZlW : EncC Zaj 2 := ⟨fun _ => CsC.size, fun _ => CsC.one⟩
instance : Inhabited Za := ⟨ZcB⟩
instance ZpV : EncC Zd 5 := ⟨fun _ => CsC.size, fun _ => CsC.one⟩
instance : Inhabited Zai := ⟨ZeU⟩
instance ZmG : EncC Zaf 6 := ⟨fun _ => CsC.size, fun _ => CsC.one⟩
abbrev Za6 (x : ZO) : Array Value := Z3 (Z7 x)
instance : Inhabited ZO := ⟨Zbx⟩
instance Zkd : EncC Za6 12 := ⟨fun _ => CsC.size, fun _ => CsC.one⟩
abbrev ZaU (x : ZK) : Array Value := Zs (Zu x)
instance : Inhabited ZK := ⟨Zbk⟩
instance Ziy : EncC ZaU 36 := ⟨fun _ => CsC.size, fun _ => CsC.one⟩
instance ZEr (x : Zar) (a : Option Addr) (l c : Nat) : StC Tryz.prog 37 (Zp x) 0 (.slice a l c) (Zp { x with Reports := ⟨a, l, c⟩ }) := ⟨by kernel_rfl, by kernel_rfl, by kernel_rfl, by kernel_rfl⟩
instance ZD2 (x : Zar) (a : Option Addr) (l c : Nat) : StC Tryz.prog 38 (Zp x) 1 (.slice a l c) (Zp { x with Exchanges := ⟨a, l, c⟩ }) := ⟨by kernel_rfl, by kernel_rfl, by kernel_rfl, by kernel_rfl⟩
instance ZvX (x : ZK) (v : ZH) : StC Tryz.prog 97 (Zs (Zu x)) 9 (.agg (Zz (ZD v))) (Zs (Zu { x with In := { x.In with To := v } })) := ⟨by kernel_rfl, by kernel_rfl, by kernel_rfl, by kernel_rfl⟩
instance Zwl (x : ZK) (v : Bool) : StC Tryz.prog 4 (Zs (Zu x)) 18 (.bool v) (Zs (Zu { x with In := { x.In with OpenFrom := v } })) := ⟨by kernel_rfl, by kernel_rfl, by kernel_rfl, by kernel_rfl⟩
instance ZvC (x : ZK) (v : Bool) : StC Tryz.prog 4 (Zs (Zu x)) 19 (.bool v) (Zs (Zu { x with In := { x.In with OpenTo := v } })) := ⟨by kernel_rfl, by kernel_rfl, by kernel_rfl, by kernel_rfl⟩
instance ZzW (x : ZK) (v : ZG) : StC Tryz.prog 113 (Zs (Zu x)) 20 (.agg (ZW (ZY v))) (Zs (Zu { x with F := v })) := ⟨by kernel_rfl, by kernel_rfl, by kernel_rfl, by kernel_rfl⟩
instance Zzj (x : Za8) (a : Option Addr) (l c : Nat) : StC Tryz.prog 106 (ZL x) 1 (.slice a l c) (ZL { x with some := ⟨a, l, c⟩ }) := ⟨by kernel_rfl, by kernel_rfl, by kernel_rfl, by kernel_rfl⟩
theorem ZoB (x0 : Zar) (w : World) : (Instr.buildSlice 29 1 [(0, .agg (Zp x0))].toArray).run Tryz.prog w = .ok (.slice (some ⟨w.heap.size, 0, none⟩) 1 1) (w.alloc (.cells (row (Zp) [x0] []) 40)) := by kernel_rfl
instance (priority := high) Zzr (x0 : Zar) : BsC Tryz.prog 29 1 [(0, .agg (Zp x0))] (row (Zp) [x0] []) 40 := ⟨ZoB x0⟩
theorem ZoO (x0 : Zb) (w : World) : (Instr.buildSlice 37 1 [(0, .agg (Zc x0))].toArray).run Tryz.prog w = .ok (.slice (some ⟨w.heap.size, 0, none⟩) 1 1) (w.alloc (.cells (row (Zc) [x0] []) 35)) := by kernel_rfl
instance (priority := high) Zz3 (x0 : Zb) : BsC Tryz.prog 37 1 [(0, .agg (Zc x0))] (row (Zc) [x0] []) 35 := ⟨ZoO x0⟩
theorem Zpm (x0 x1 x2 x3 : Zb) (w : World) : (Instr.buildSlice 37 4 [(0, .agg (Zc x0)), (1, .agg (Zc x1)), (2, .agg (Zc x2)), (3, .agg (Zc x3))].toArray).run Tryz.prog w = .ok (.slice (some ⟨w.heap.size, 0, none⟩) 4 4) (w.alloc (.cells (row (Zc) [x0, x1, x2, x3] []) 35)) := by kernel_rfl
instance (priority := high) ZC2 (x0 x1 x2 x3 : Zb) : BsC Tryz.prog 37 4 [(0, .agg (Zc x0)), (1, .agg (Zc x1)), (2, .agg (Zc x2)), (3, .agg (Zc x3))] (row (Zc) [x0, x1, x2, x3] []) 35 := ⟨Zpm x0 x1 x2 x3⟩
theorem Zqm (x0 : Za) (w : World) : (Instr.buildSlice 38 1 [(0, .agg (Zd x0))].toArray).run Tryz.prog w = .ok (.slice (some ⟨w.heap.size, 0, none⟩) 1 1) (w.alloc (.cells (row (Zd) [x0] []) 122)) := by kernel_rfl
instance (priority := high) ZCP (x0 : Za) : BsC Tryz.prog 38 1 [(0, .agg (Zd x0))] (row (Zd) [x0] []) 122 := ⟨Zqm x0⟩
theorem Zpl (x0 : Ze) (w : World) : (Instr.buildSlice 48 1 [(0, .agg (ZJ (ZF x0)))].toArray).run Tryz.prog w = .ok (.slice (some ⟨w.heap.size, 0, none⟩) 1 1) (w.alloc (.cells (row (Zo) [x0] []) 56)) := by kernel_rfl
instance (priority := high) ZDl (x0 : Ze) : BsC Tryz.prog 48 1 [(0, .agg (ZJ (ZF x0)))] (row (Zo) [x0] []) 56 := ⟨Zpl x0⟩
theorem ZpX (x0 x1 x2 : Ze) (w : World) : (Instr.buildSlice 48 3 [(0, .agg (ZJ (ZF x0))), (1, .agg (ZJ (ZF x1))), (2, .agg (ZJ (ZF x2)))].toArray).run Tryz.prog w = .ok (.slice (some ⟨w.heap.size, 0, none⟩) 3 3) (w.alloc (.cells (row (Zo) [x0, x1, x2] []) 56)) := by kernel_rfl
instance (priority := high) ZBE (x0 x1 x2 : Ze) : BsC Tryz.prog 48 3 [(0, .agg (ZJ (ZF x0))), (1, .agg (ZJ (ZF x1))), (2, .agg (ZJ (ZF x2)))] (row (Zo) [x0, x1, x2] []) 56 := ⟨ZpX x0 x1 x2⟩
theorem Zp1 (x0 x1 x2 x3 : Ze) (w : World) : (Instr.buildSlice 48 4 [(0, .agg (ZJ (ZF x0))), (1, .agg (ZJ (ZF x1))), (2, .agg (ZJ (ZF x2))), (3, .agg (ZJ (ZF x3)))].toArray).run Tryz.prog w = .ok (.slice (some ⟨w.heap.size, 0, none⟩) 4 4) (w.alloc (.cells (row (Zo) [x0, x1, x2, x3] []) 56)) := by kernel_rfl
instance (priority := high) ZCB (x0 x1 x2 x3 : Ze) : BsC Tryz.prog 48 4 [(0, .agg (ZJ (ZF x0))), (1, .agg (ZJ (ZF x1))), (2, .agg (ZJ (ZF x2))), (3, .agg (ZJ (ZF x3)))] (row (Zo) [x0, x1, x2, x3] []) 56 := ⟨Zp1 x0 x1 x2 x3⟩
theorem ZoR (x0 : Zab) (w : World) : (Instr.buildSlice 58 1 [(0, .agg (ZS (ZR x0)))].toArray).run Tryz.prog w = .ok (.slice (some ⟨w.heap.size, 0, none⟩) 1 1) (w.alloc (.cells (row (ZbU) [x0] []) 115)) := by kernel_rfl
instance (priority := high) ZCq (x0 : Zab) : BsC Tryz.prog 58 1 [(0, .agg (ZS (ZR x0)))] (row (ZbU) [x0] []) 115 := ⟨ZoR x0⟩
theorem Zpr (x0 : ZaB) (w : World) : (Instr.buildSlice 62 1 [(0, .agg (Zaa x0))].toArray).run Tryz.prog w = .ok (.slice (some ⟨w.heap.size, 0, none⟩) 1 1) (w.alloc (.cells (row (Zaa) [x0] []) 82)) := by kernel_rfl
instance (priority := high) ZBF (x0 : ZaB) : BsC Tryz.prog 62 1 [(0, .agg (Zaa x0))] (row (Zaa) [x0] []) 82 := ⟨Zpr x0⟩
theorem Zqj (x0 : ZB) (w : World) : (Instr.buildSlice 84 1 [(0, .agg (Zw (ZC x0)))].toArray).run Tryz.prog w = .ok (.slice (some ⟨w.heap.size, 0, none⟩) 1 1) (w.alloc (.cells (row (Zbb) [x0] []) 111)) := by kernel_rfl
instance (priority := high) ZAU (x0 : ZB) : BsC Tryz.prog 84 1 [(0, .agg (Zw (ZC x0)))] (row (Zbb) [x0] []) 111 := ⟨Zqj x0⟩
theorem ZmW (x0 : Int) (w : World) : (Instr.buildSlice 106 1 [(0, .int .i64 x0)].toArray).run Tryz.prog w = .ok (.slice (some ⟨w.heap.size, 0, none⟩) 1 1) (w.alloc (.cells (row (eI .i64) [x0] []) 3)) := by kernel_rfl
instance (priority := high) Zya (x0 : Int) : BsC Tryz.prog 106 1 [(0, .int .i64 x0)] (row (eI .i64) [x0] []) 3 := ⟨ZmW x0⟩
theorem Znd (x0 x1 : Int) (w : World) : (Instr.buildSlice 106 2 [(0, .int .i64 x0), (1, .int .i64 x1)].toArray).run Tryz.prog w = .ok (.slice (some ⟨w.heap.size, 0, none⟩) 2 2) (w.alloc (.cells (row (eI .i64) [x0, x1] []) 3)) := by kernel_rfl
instance (priority := high) Zx0 (x0 x1 : Int) : BsC Tryz.prog 106 2 [(0, .int .i64 x0), (1, .int .i64 x1)] (row (eI .i64) [x0, x1] []) 3 := ⟨Znd x0 x1⟩
theorem Zm6 (x0 x1 x2 : Int) (w : World) : (Instr.buildSlice 106 3 [(0, .int .i64 x0), (1, .int .i64 x1), (2, .int .i64 x2)].toArray).run Tryz.prog w = .ok (.slice (some ⟨w.heap.size, 0, none⟩) 3 3) (w.alloc (.cells (row (eI .i64) [x0, x1, x2] []) 3)) := by kernel_rfl
instance (priority := high) ZyL (x0 x1 x2 : Int) : BsC Tryz.prog 106 3 [(0, .int .i64 x0), (1, .int .i64 x1), (2, .int .i64 x2)] (row (eI .i64) [x0, x1, x2] []) 3 := ⟨Zm6 x0 x1 x2⟩
theorem ZnK (x0 x1 x2 x3 : Int) (w : World) : (Instr.buildSlice 106 4 [(0, .int .i64 x0), (1, .int .i64 x1), (2, .int .i64 x2), (3, .int .i64 x3)].toArray).run Tryz.prog w = .ok (.slice (some ⟨w.heap.size, 0, none⟩) 4 4) (w.alloc (.cells (row (eI .i64) [x0, x1, x2, x3] []) 3)) := by kernel_rfl
instance (priority := high) Zxw (x0 x1 x2 x3 : Int) : BsC Tryz.prog 106 4 [(0, .int .i64 x0), (1, .int .i64 x1), (2, .int .i64 x2), (3, .int .i64 x3)] (row (eI .i64) [x0, x1, x2, x3] []) 3 := ⟨ZnK x0 x1 x2 x3⟩
theorem ZnJ (x0 x1 x2 x3 x4 : Int) (w : World) : (Instr.buildSlice 106 5 [(0, .int .i64 x0), (1, .int .i64 x1), (2, .int .i64 x2), (3, .int .i64 x3), (4, .int .i64 x4)].toArray).run Tryz.prog w = .ok (.slice (some ⟨w.heap.size, 0, none⟩) 5 5) (w.alloc (.cells (row (eI .i64) [x0, x1, x2, x3, x4] []) 3)) := by kernel_rfl
instance (priority := high) Zxv (x0 x1 x2 x3 x4 : Int) : BsC Tryz.prog 106 5 [(0, .int .i64 x0), (1, .int .i64 x1), (2, .int .i64 x2), (3, .int .i64 x3), (4, .int .i64 x4)] (row (eI .i64) [x0, x1, x2, x3, x4] []) 3 := ⟨ZnJ x0 x1 x2 x3 x4⟩
theorem Zoa (x0 : ZO) (w : World) : (Instr.buildSlice 141 1 [(0, .agg (Z3 (Z7 x0)))].toArray).run Tryz.prog w = .ok (.slice (some ⟨w.heap.size, 0, none⟩) 1 1) (w.alloc (.cells (row (Za6) [x0] []) 143)) := by kernel_rfl
instance (priority := high) Zy5 (x0 : ZO) : BsC Tryz.prog 141 1 [(0, .agg (Z3 (Z7 x0)))] (row (Za6) [x0] []) 143 := ⟨Zoa x0⟩
theorem Zom (x0 : ZK) (w : World) : (Instr.buildSlice 157 1 [(0, .agg (Zs (Zu x0)))].toArray).run Tryz.prog w = .ok (.slice (some ⟨w.heap.size, 0, none⟩) 1 1) (w.alloc (.cells (row (ZaU) [x0] []) 224)) := by kernel_rfl
instance (priority := high) Zxs (x0 : ZK) : BsC Tryz.prog 157 1 [(0, .agg (Zs (Zu x0)))] (row (ZaU) [x0] []) 224 := ⟨Zom x0⟩
end Go.Vt
/- Straight ways between samples and their deviations. Conditions: the lengths and indexes that each statement names. -/
namespace Go.Vt
open Go.RowKit Go.Proofs
abbrev vLn (f : ZG) : Value := .agg (ZW (ZY f))
def stl (a b : ZO) : ZG := ⟨(lin a.T a.P.X b.T b.P.X).C0, (lin a.T a.P.X b.T b.P.X).C1, (lin a.T a.P.Y b.T b.P.Y).C0, (lin a.T a.P.Y b.T b.P.Y).C1⟩
def pos (f : ZG) (t : Rat) : Zak := ⟨f.X0 + t * (f.X1 + t * 0), f.Y0 + t * (f.Y1 + t * 0)⟩
instance ZFD (t v u x : Rat) (i j k l : Nat) [h1 : MB t i] [h2 : MB v j] [h3 : MB u k] [h4 : MB x l] : MB (lin t v u x).C0 (2 * i + 2 * j + k + l + 4) := ⟨by
 unfold lin
 split
 ·exact Nat.le_trans (ZfH.out) (by omega)
 ·have := (inferInstance : MB (v - (x - v) / (u - t) * t) _).out
  simp only
  omega⟩
instance ZGm (t v u x : Rat) (i j k l : Nat) [h1 : MB t i] [h2 : MB v j] [h3 : MB u k] [h4 : MB x l] : MB (lin t v u x).C1 (i + j + k + l + 3) := ⟨by
 unfold lin
 split
 ·exact Nat.le_trans (ZfH.out) (by omega)
 ·have := (inferInstance : MB ((x - v) / (u - t)) _).out
  simp only
  omega⟩
instance ZB2 (a b : ZO) (i j k l : Nat) [MB a.T i] [MB a.P.X j] [MB b.T k] [MB b.P.X l] : MB (stl a b).X0 (2 * i + 2 * j + k + l + 4) := inferInstanceAs (MB (lin a.T a.P.X b.T b.P.X).C0 _)
instance ZC1 (a b : ZO) (i j k l : Nat) [MB a.T i] [MB a.P.X j] [MB b.T k] [MB b.P.X l] : MB (stl a b).X1 (i + j + k + l + 3) := inferInstanceAs (MB (lin a.T a.P.X b.T b.P.X).C1 _)
instance ZAE (a b : ZO) (i j k l : Nat) [MB a.T i] [MB a.P.Y j] [MB b.T k] [MB b.P.Y l] : MB (stl a b).Y0 (2 * i + 2 * j + k + l + 4) := inferInstanceAs (MB (lin a.T a.P.Y b.T b.P.Y).C0 _)
instance ZC4 (a b : ZO) (i j k l : Nat) [MB a.T i] [MB a.P.Y j] [MB b.T k] [MB b.P.Y l] : MB (stl a b).Y1 (i + j + k + l + 3) := inferInstanceAs (MB (lin a.T a.P.Y b.T b.P.Y).C1 _)
abbrev PB : Nat := 1048576
def Bnd (pts : List ZO) : Prop := ∀ i : Int, M (gi pts i).T ≤ PB ∧ M (gi pts i).P.X ≤ PB ∧ M (gi pts i).P.Y ≤ PB
end Go.Vt
/- The best kept breakpoints: the program's table. Conditions: the lengths that each statement names. -/
namespace Go.Vt
open Go.RowKit Go.Proofs
abbrev rS := Za6
variable {ok : Nat → Nat → Bool} {l i k : Nat} {s : List Int × List Int}
end Go.Vt
/- Slices that came in, wherever they lie, under the program logic. Conditions: those that each rule names. -/
set_option linter.unusedSectionVars false
namespace Go.Vt
open Go.RowKit
class RowC (w0 : World) (L : List Blk) (b o : Nat) (α : outParam Type) (enc : outParam (α → Array Value)) (xs : outParam (List α)) : Prop where
 out : ∀ w, Own w0 L w → ∃ cs T fz, w.heap[b]? = some (.cells cs T fz) ∧ ∀ (i f k : Nat) (u : Value) (hi : i < xs.length), (∀ x, (enc x).size = k) → (enc xs[i])[f]? = some u → cs[o + i * k + f]? = some u ∧ o + xs.length * k ≤ cs.size
structure ArgS {α : Type} (w0 : World) (v : Value) (enc : α → Array Value) (xs : List α) : Prop where
 out : (v = .slice none 0 0 ∧ xs = []) ∨ ∃ (a : Addr) (c : Nat), v = .slice (some a) xs.length c ∧ xs.length ≤ c ∧ ∀ (i f k : Nat) (u : Value) (hi : i < xs.length), (∀ x, (enc x).size = k) → (enc xs[i])[f]? = some u → w0.cell? (a.add (i * k + f)) = some u
class ArgC (w0 : World) (v : Value) (α : outParam Type) (enc : outParam (α → Array Value)) (xs : outParam (List α)) : Prop where
 out : ArgS w0 v enc xs
theorem ZhM {w : World} {a : Addr} {v : Value} (h : w.cell? a = some v) : a = ⟨a.block, a.off, none⟩ ∧ ∃ cs T fz, w.heap[a.block]? = some (.cells cs T fz) ∧ cs[a.off]? = some v := by
 unfold World.cell? at h
 split at h
 ·rename_i c T fz hb
  split at h
  ·cases h
  ·rename_i hs
   obtain ⟨b, o, s⟩ := a
   cases s with
   | none => exact ⟨rfl, c, T, fz, hb, h⟩
   | some s => exact absurd rfl hs
 ·cases h
theorem ArgS.blk {α : Type} {w0 : World} {v : Value} {enc : α → Array Value} {xs : List α} {k : Nat} [he : EncC enc (k + 1)] (h : ArgS w0 v enc xs) (hne : xs ≠ []) (L : List Blk) : ∃ b o c, v = .slice (some ⟨b, o, none⟩) xs.length c ∧ xs.length ≤ c ∧ RowC w0 L b o α enc xs := by
 rcases h.out with ⟨_, h0⟩ | ⟨a, c, hv, hc, hcell⟩
 ·exact absurd h0 hne
 have hlen : 0 < xs.length := List.length_pos_iff.2 hne
 have hfirst : ∃ u, (enc xs[0])[0]? = some u := by
  have := he.size xs[0]
  exact ⟨(enc xs[0])[0]'(by omega), by simp⟩
 obtain ⟨u, hu⟩ := hfirst
 have h0 := hcell 0 0 (k + 1) u hlen he.size hu
 rw [Nat.zero_mul, Nat.add_zero] at h0
 have ha : a.add 0 = a := by simp [Addr.add]
 rw [ha] at h0
 obtain ⟨hae, cs, T, fz, hb, _⟩ := ZhM h0
 obtain ⟨b, o, s⟩ := a
 simp only [Addr.mk.injEq, true_and] at hae
 subst hae
 refine ⟨b, o, c, hv, hc, ⟨fun w hw => ⟨cs, T, fz, by rw [hw.ext.block b (Zm hb)]; exact hb, fun i f k' u hi hk hu => ?_⟩⟩⟩
 have h1 := hcell i f k' u hi hk hu
 rw [ZaA, Zas hb] at h1
 refine ⟨by rw [Nat.add_assoc]; exact h1, ?_⟩
 have hkk : k' = k + 1 := by rw [← hk xs[0], he.size xs[0]]
 subst hkk
 have hl : xs.length - 1 < xs.length := by omega
 obtain ⟨u2, hu2⟩ : ∃ u, (enc xs[xs.length - 1])[k]? = some u := ⟨(enc xs[xs.length - 1])[k]'(by rw [he.size]; omega), by simp⟩
 have h2 := hcell (xs.length - 1) k (k + 1) u2 hl he.size hu2
 rw [ZaA, Zas hb] at h2
 have h3 : o + ((xs.length - 1) * (k + 1) + k) < cs.size := by
  rcases Nat.lt_or_ge (o + ((xs.length - 1) * (k + 1) + k)) cs.size with h | h
  ·exact h
  ·rw [Array.getElem?_eq_none h] at h2; cases h2
 have h4 : xs.length * (k + 1) = (xs.length - 1) * (k + 1) + (k + 1) := by
  rw [← Nat.succ_mul]
  congr 1
  omega
 omega
section
variable {P : Program} {w0 : World} {n : Nat} {ops : Array Oper} {L : List Blk} {E : Env} {v : Value} {x : Operand} {T : TypeId}
variable {α : Type} [Inhabited α] {enc : α → Array Value} {k b o f : Nat} {xs : List α} {i : Int}
theorem Zll [he : EncC enc k] [h : RowC w0 L b o α enc xs] {d : Option Tmp} {ty : TypeId} {pos : String} {aft : Array Edge} {gd : Option (Nat × Bool)} (hk : 0 < k) (hx : Env.ev E x = some (.pointer (some ⟨b, o + i.toNat * k + f, none⟩))) (hi : i.toNat < xs.length) (hv : LdV P T (enc (gi xs i)) f v) : Yl P w0 n L E ⟨d, .load T x, ty, pos, aft, gd⟩ v :=
 Zaz (fun _ => loadVar T ⟨b, o + i.toNat * k + f, none⟩) (fun a ha => by
  simp only [execOp, ha.ev hx, Instr.loadAt, Instr.sureAddr]
  rfl) (fun a w _ hw => by
   obtain ⟨cs, T0, fz, hb, hc⟩ := h.out w hw
   rw [ZcV hi] at hv
   refine ZbO hb ?_
   have hsz := he.size xs[i.toNat]
   have hle := Nat.mul_le_mul_right k (show i.toNat + 1 ≤ xs.length from hi)
   rw [Nat.add_mul, Nat.one_mul] at hle
   rcases hv with ⟨m, ha, hs, rfl⟩ | ⟨ho, hv⟩
   ·have hbig := (hc i.toNat 0 k _ hi he.size (show (enc xs[i.toNat])[0]? = some ((enc xs[i.toNat])[0]'(by omega)) by simp)).2
    refine .inl ⟨m, ha, by omega, ?_⟩
    congr 1
    apply Array.ext_getElem?
    intro j
    rw [Array.getElem?_extract, Array.getElem?_extract]
    by_cases hj : j < m
    ·rw [if_pos (by omega), if_pos (by omega)]
     have hfj : f + j < (enc xs[i.toNat]).size := by omega
     have := (hc i.toNat (f + j) k _ hi he.size (show (enc xs[i.toNat])[f + j]? = some ((enc xs[i.toNat])[f + j]'hfj) by simp)).1
     rw [show o + i.toNat * k + f + j = o + i.toNat * k + (f + j) by omega, this]
     simp
    ·rw [if_neg (by omega), if_neg (by omega)]
   ·exact .inr ⟨ho, (hc i.toNat f k v hi he.size hv).1⟩)
instance (priority := low) ZDw [IsC (evl E x) (.pointer (some ⟨b, o + i.toNat * k, none⟩))] [h : RowC w0 L b o α enc xs] [he : EncC enc k] [hv : LdC P T (enc (gi xs i)) 0 v] : YsC P w0 n L E (.load T x) v (0 < k ∧ i.toNat < xs.length) := ⟨fun hi _ _ _ _ _ => Zll (f := 0) (k := k) hi.1 (by rw [Nat.add_zero]; exact isE) hi.2 hv.out⟩
instance (priority := low) ZBc [IsC (evl E x) (.pointer (some ⟨b, o + i.toNat * k + f, none⟩))] [h : RowC w0 L b o α enc xs] [he : EncC enc k] [hv : LdC P T (enc (gi xs i)) f v] : YsC P w0 n L E (.load T x) v (0 < k ∧ i.toNat < xs.length) := ⟨fun hi _ _ _ _ _ => Zll hi.1 isE hi.2 hv.out⟩
instance (priority := low) ZFj {kd : IntKind} {T' : TypeId} {y : Operand} {a c : Int} [hx : IsC (evl E x) (.int kd a)] [hy : IsC (evl E y) (.int kd c)] : YsC P w0 n L E (.binOp .rem T x y T') (.int kd (a % c)) (0 ≤ a ∧ 1 ≤ c) := ⟨fun h _ _ _ _ _ => Zbc isE isE fun w => by rw [Zhm _ _ (by omega), IntWalk.rem_in _ _ h.1]⟩
end
end Go.Vt
/- The runs of the statements: their decoding. Conditions: those that each statement names. -/
namespace Go.Vt
open Go.RowKit Go.Proofs
theorem Upd.app {b : Nat} {cs cs' : Array Value} {T : TypeId} {L L' : List Blk} (h : Upd b cs T cs' L L') : ∀ A : List Blk, Upd b cs T cs' (A ++ L) (A ++ L')
 | [] => h
 | _ :: A => (h.app A).there
instance (priority := low) updSkip (b : Nat) (cs' : Array Value) (A L L' : List Blk) (cs : Array Value) (T : TypeId) [h : UpdC b cs' L cs T L'] : UpdC b cs' (A ++ L) cs T (A ++ L') := ⟨h.out.app A⟩
theorem ArgS.form {α : Type} {w0 : World} {v : Value} {enc : α → Array Value} {xs : List α} (h : ArgS w0 v enc xs) : ∃ p c, v = .slice p xs.length c := by
 rcases h.out with ⟨h1, h2⟩ | ⟨a, c, h1, _⟩
 ·subst h2
  exact ⟨none, 0, h1⟩
 ·exact ⟨some a, c, h1⟩
theorem ArgS.to {α : Type} {w0 w : World} {v : Value} {enc : α → Array Value} {xs : List α} (h : ArgS w0 v enc xs) (hx : Ext w0 w) : ArgS w v enc xs := by
 rcases h.out with h1 | ⟨a, c, h1, h2, h3⟩
 ·exact ⟨.inl h1⟩
 ·refine ⟨.inr ⟨a, c, h1, h2, fun i f k u hi hk hu => ?_⟩⟩
  have h4 := h3 i f k u hi hk hu
  obtain ⟨hae, cs, T, fz, hb, hc⟩ := ZhM h4
  rw [hae]
  have hb' : w.heap[(a.add (i * k + f)).block]? = some (.cells cs T fz) := by rw [hx.block _ (Zm hb)]; exact hb
  rw [Zas hb']
  exact hc
end Go.Vt
/- A region that draws its order: values, then effects, then values that look at what the effects brought. Conditions: the closed check 'late3B'. -/
set_option linter.unusedSectionVars false
namespace Go.Vt
open Go.RowKit
section
variable {P : Program} {w0 : World} {n : Nat} {ops : Array Oper} {L L' Lw : List Blk} {E : Env}
variable {Q : Exit → Act → World → Prop} {Z : List Nat}
def lexF (ops : Array Oper) (k : Array Bool → Bool) : List Nat → Array Bool → Bool
 | [], listed => k listed
 | h :: hs, listed => (Region.ready .any ops listed).contains h && Region.free .any ops listed h && lexF ops k hs (listed.setIfInBounds h true)
def seqF (ops : Array Oper) (k : Array Bool → Bool) : List Nat → Array Bool → Bool
 | [], listed => k listed
 | i :: es, listed => decide (Region.ready .any ops listed = [i]) && seqF ops k es (listed.setIfInBounds i true)
theorem ZlS {F G : List Blk → Act → Prop} {N : Nat} {k : Array Bool → Bool} (hk : ∀ listed L a, k listed = true → Weak w0 Lw L → G L a → wpG P w0 ops [] Lw F N listed [] L a) : ∀ (es : List Nat) (listed : Array Bool) (L : List Blk) (a : Act), seqF ops k es listed = true → Weak w0 Lw L → EC P w0 ops [] Lw G es L a → wpG P w0 ops [] Lw F (es.length + N) listed es L a
 | [], listed, L, a, hB, hw, h => by
  rw [List.length_nil, Nat.zero_add]
  exact hk listed L a hB hw h
 | i :: es, listed, L, a, hB, hw, h => by
  simp only [seqF, Bool.and_eq_true, decide_eq_true_eq] at hB
  rw [show (i :: es).length + N = (es.length + N) + 1 by simp only [List.length_cons]; omega]
  refine ⟨by rw [hB.1]; simp, fun j hj => ?_⟩
  rw [hB.1] at hj
  have : j = i := by simpa using hj
  subst this
  obtain ⟨o, ho, hE⟩ := h
  exact ⟨o, ho, .inr ⟨es, rfl, hE.mono fun L' u hw' hK => ZlS hk es _ _ _ hB.2 hw' hK⟩⟩
theorem ZgI {l : List Oper} {F : List Blk → Act → Prop} {es : List Nat} {G : Act → Prop} {N : Nat} {k : Array Bool → Bool} (hk : ∀ listed a, k listed = true → G a → wpG P w0 l.toArray [] Lw F N listed es L a) (hsel : Region.noSelect l.toArray = true) (hw : Weak w0 Lw L) : ∀ (hs : List Nat) (listed : Array Bool) (a : Act), lexF l.toArray k hs listed = true →
  AH P w0 Lw l.toArray G (picks l hs) a → wpG P w0 l.toArray [] Lw F (hs.length + N) listed es L a
 | [], listed, a, hB, h => by
  rw [List.length_nil, Nat.zero_add]
  exact hk listed a hB h
 | i :: hs, listed, a, hB, h => by
  simp only [lexF, Bool.and_eq_true] at hB
  obtain ⟨⟨hr, hf⟩, hB'⟩ := hB
  have hr' : i ∈ Region.ready .any l.toArray listed := by simpa using hr
  obtain ⟨_, o, ho, _⟩ := mem_ready.1 hr'
  have ho' : l[i]? = some o := by simpa using ho
  simp only [picks, ho', AH] at h
  obtain ⟨v, hy, h⟩ := h
  rw [show (i :: hs).length + N = (hs.length + N) + 1 by simp only [List.length_cons]; omega]
  exact ZeM ho (Region.noSelect_spec hsel) (fun z o hz _ => by simp at hz) _ _ _ _ _ (Region.free_spec ho hf) hr' hy hw (ZgI hk hsel hw hs _ _ hB' h)
def phB (ops : Array Oper) : List (List Nat × List Nat) → Array Bool → Bool
 | [], listed => (Region.ready .any ops listed).isEmpty
 | p :: ps, listed => lexF ops (seqF ops (phB ops ps) p.2) p.1 listed
def phN : List (List Nat × List Nat) → Nat
 | [] => 0
 | p :: ps => p.1.length + (p.2.length + phN ps)
def phE : List (List Nat × List Nat) → List Nat
 | [] => []
 | p :: ps => p.2 ++ phE ps
def phA (ops : Array Oper) (ps : List (List Nat × List Nat)) : Bool :=
 Region.noSelect ops && decide (phN ps = ops.size) && ps.all (fun p => p.2.all (fun i => decide (i < ops.size))) && phB ops ps (Array.replicate ops.size false)
def PH (P : Program) (w0 : World) (l : List Oper) (Lw : List Blk) (F : List Blk → Act → Prop) : List (List Nat × List Nat) → List Blk → Act → Prop
 | [], L, a => F L a
 | p :: ps, L, a => AH P w0 Lw l.toArray (fun a1 => EC P w0 l.toArray [] Lw (fun L1 a2 => PH P w0 l Lw F ps L1 a2) p.2 L a1) (picks l p.1) a
def JP (P : Program) (w0 : World) (n : Nat) (l : List Oper) (Lw : List Blk) (K : Env → List Blk → Prop) : List (List Nat × List Nat) → Env → List Blk → Prop
 | [], E, L => K E L
 | p :: ps, E, L => JH P w0 n Lw l.toArray (fun E' => JE P w0 n l.toArray Lw (fun E1 L1 => JP P w0 n l Lw K ps E1 L1) (picks l p.2) E' L) (picks l p.1) E
theorem ZgS {F G : List Blk → Act → Prop} {N : Nat} {R : List Nat} {k : Array Bool → Bool} (hk : ∀ listed L a, k listed = true → Weak w0 Lw L → G L a → wpG P w0 ops [] Lw F N listed R L a) : ∀ (es : List Nat) (listed : Array Bool) (L : List Blk) (a : Act), seqF ops k es listed = true → Weak w0 Lw L → EC P w0 ops [] Lw G es L a → wpG P w0 ops [] Lw F (es.length + N) listed (es ++ R) L a
 | [], listed, L, a, hB, hw, h => by
  rw [List.length_nil, Nat.zero_add]
  exact hk listed L a hB hw h
 | i :: es, listed, L, a, hB, hw, h => by
  simp only [seqF, Bool.and_eq_true, decide_eq_true_eq] at hB
  rw [show (i :: es).length + N = (es.length + N) + 1 by simp only [List.length_cons]; omega]
  refine ⟨by rw [hB.1]; simp, fun j hj => ?_⟩
  rw [hB.1] at hj
  have : j = i := by simpa using hj
  subst this
  obtain ⟨o, ho, hE⟩ := h
  exact ⟨o, ho, .inr ⟨es ++ R, rfl, hE.mono fun L' u hw' hK => ZgS hk es _ _ _ hB.2 hw' hK⟩⟩
theorem ZhT {l : List Oper} {F : List Blk → Act → Prop} (hsel : Region.noSelect l.toArray = true) : ∀ (ps : List (List Nat × List Nat)) (listed : Array Bool) (L : List Blk) (a : Act), phB l.toArray ps listed = true → Weak w0 Lw L → PH P w0 l Lw F ps L a → wpG P w0 l.toArray [] Lw F (phN ps) listed (phE ps) L a
 | [], listed, L, a, hB, hw, h => ⟨rfl, by simpa [phB] using hB, h⟩
 | p :: ps, listed, L, a, hB, hw, h =>
  ZgI (fun listed a1 hb hG => ZgS (fun listed L1 a2 hb2 hw2 hG2 => ZhT hsel ps listed L1 a2 hb2 hw2 hG2) p.2 listed L a1 hb hw hG) hsel hw p.1 listed a hB h
theorem Zi5 {l : List Oper} {K : Env → List Blk → Prop} {F : List Blk → Act → Prop} (hK : ∀ E L a, Rep n E a → K E L → F L a) : ∀ (ps : List (List Nat × List Nat)) (E : Env) (L : List Blk) (a : Act), ps.all (fun p => p.2.all (fun i => decide (i < l.length))) = true → Rep n E a → JP P w0 n l Lw K ps E L → PH P w0 l Lw F ps L a
 | [], E, L, a, _, ha, h => hK E L a ha h
 | p :: ps, E, L, a, hi, ha, h => by
  simp only [List.all_cons, Bool.and_eq_true] at hi
  exact Zcg (n := n) (fun E' a' ha' hK' => ZbL (n := n) (Lj := Lw) (fun E1 L1 a1 ha1 h1 => Zi5 hK ps E1 L1 a1 hi.2 ha1 h1) p.2 E' L a' hi.1 (fun _ _ => rfl) ha' hK') _ _ _ ha h
theorem Zf8 {id : Nat} {l : List Oper} (ps : List (List Nat × List Nat)) (Lw : List Blk) (hm : P.follows .mixedOrders = true := by exact mixed) (hB : phA l.toArray ps = true := by kernel_rfl) (hL : Lw.Sublist L := by first | exact List.Sublist.refl _ | exact List.nil_sublist _ | exact sbl | (repeat (first | exact List.Sublist.refl _ | exact List.nil_sublist _ | refine List.Sublist.cons_cons _ ?_ | refine List.Sublist.cons _ ?_ | refine List.Sublist.trans ?_ (List.sublist_append_right _ _))))
  (h : JP P w0 n l Lw (fun E2 L2 => JX w0 n .normal Q E2 L2) ps E L) : J P w0 n (.region id l.toArray true) Q E L := by
 refine ⟨fun a w ha hw => ?_⟩
 simp only [phA, Bool.and_eq_true, decide_eq_true_eq] at hB
 obtain ⟨⟨⟨hsel, hlen⟩, hall⟩, hlex⟩ := hB
 refine wp_region_any hm ?_
 have H := ZhT (P := P) (F := fun L a => ∀ w, Own w0 L w → Q .normal a w) hsel ps _ L a hlex (Zaq hL) (Zi5 (n := n) (fun E2 L2 a2 ha2 hx w hw => hx.out a2 w ha2 hw) ps E L a (by simpa using hall) ha h)
 have := Zbz (P := P) (Q := Q) (fun L a w hF hw => hF w hw) _ _ _ _ _ w.drew (hw.to (Ext.drew w)) H
 rw [hlen] at this
 exact this
end
section
variable {P : Program} {w0 : World} {n : Nat} {ops : Array Oper} {L Lw : List Blk} {E : Env} {K : Env → List Blk → Prop} {rest : List Oper} {v : Value} {op : Op} {S : Prop}
variable {ty : TypeId} {pos : String} {aft : Array Edge} {gd : Option (Nat × Bool)} {t : Tmp}
theorem eV (h : Yl P w0 n L E ⟨some t, op, ty, pos, aft, gd⟩ v) (hg : guardB ops E gd = some true) (hd : Nat.blt t n = true) (hw : Lw.Sublist L) (k : JE P w0 n ops Lw K rest ((t, v) :: E) L) : JE P w0 n ops Lw K (⟨some t, op, ty, pos, aft, gd⟩ :: rest) E L :=
 ⟨hg, hd, Unit, fun _ => v, fun _ => L, fun a w ha hw => by
  have h1 := h.out a w ha hw
  unfold calm at h1
  generalize (execOp a.eval ⟨some t, op, ty, pos, aft, gd⟩).run P w = r at *
  cases r with
  | ok x w' =>
   cases x <;> simp only [calmUpon] at h1 <;> simp only [Hap]
   case value u => exact ⟨(), h1.1, hw.to h1.2⟩
   case skip => exact ⟨(), h1.1.symm, hw.to h1.2⟩
   case enter f args =>
    obtain ⟨rfl, h2⟩ := h1
    exact h2.mono fun e w'' ⟨he, hx⟩ => ⟨_, he, (), rfl, hw.to hx⟩
  | halt x w' => simp only [calmUpon] at h1, fun _ => Zaq hw, fun _ => k⟩
theorem uS [h : YsC P w0 n L E op v S] (hg : guardB ops E gd = some true) (hd : Nat.blt t n = true) [hw : SblC Lw L] (s : S) (k : JE P w0 n ops Lw K rest ((t, v) :: E) L) : JE P w0 n ops Lw K (⟨some t, op, ty, pos, aft, gd⟩ :: rest) E L := eV (h.out s _ _ _ _ _) hg hd hw.out k
theorem uC [h : YcC P w0 n L E op v S] (hg : guardB ops E gd = some true) (hd : Nat.blt t n = true) [hw : SblC Lw L] (s : S) (k : JE P w0 n ops Lw K rest ((t, v) :: E) L) : JE P w0 n ops Lw K (⟨some t, op, ty, pos, aft, gd⟩ :: rest) E L := eV (h.out s _ _ _ _ _) hg hd hw.out k
end
theorem wkP {P Q : Prop} (k : Q) (h : Wr Q → P := by intro hq; simp only [JP, picks, List.getElem?_cons_succ, List.getElem?_cons_zero]; exact hq.out) : P := h ⟨k⟩
theorem wkT {P Q : Prop} (k : Q) (h : Wr Q → P := by intro hq; (first | refine eS rfl rfl ?_ | refine uP rfl rfl rfl rfl ?_ | refine uQ rfl rfl rfl rfl ?_ | refine eX rfl rfl ?_ | (refine uS rfl rfl ?_ ?_; focus omega) | (refine uC rfl rfl ?_ ?_; focus (first | exact trivial | assumption | constructor <;> assumption | exact mb2 rfl rfl | exact mb4 rfl rfl rfl rfl)) | refine uW rfl rfl ?_ | refine eF rfl ?_ | refine eT rfl ?_ | (refine eA rfl rfl ?_) | (refine eB rfl rfl ?_) | (refine eN rfl rfl ?_ ?_; (focus (first | exact trivial | assumption | constructor <;> assumption | exact mb2 rfl rfl | exact mb4 rfl rfl rfl rfl)); (try simp only [List.cons_append, List.nil_append, List.append_nil])) | refine Zbf ?_ | refine tX rfl rfl ?_ | (refine tS rfl rfl ?_ ?_; focus omega) | (refine tC rfl rfl ?_ ?_; focus (first | exact trivial | assumption | constructor <;> assumption | exact mb2 rfl rfl | exact mb4 rfl rfl rfl rfl)) | refine tW rfl rfl ?_ | refine tK rfl rfl ?_ | refine Go.Vt.hq (Zdx rfl rfl) rfl rfl ?_ | refine Go.Vt.hq (ZdC rfl rfl) rfl rfl ?_ | refine Zr ?_ | (refine Z6 ?_) | refine Zt ?_); (repeat (first | refine eS rfl rfl ?_ | refine uP rfl rfl rfl rfl ?_ | refine uQ rfl rfl rfl rfl ?_ | refine eX rfl rfl ?_ | (refine uS rfl rfl ?_ ?_; focus omega) | (refine uC rfl rfl ?_ ?_; focus (first | exact trivial | assumption | constructor <;> assumption | exact mb2 rfl rfl | exact mb4 rfl rfl rfl rfl)) | refine uW rfl rfl ?_ | refine eF rfl ?_ | refine eT rfl ?_ | (refine eA rfl rfl ?_) | (refine eB rfl rfl ?_) | (refine eN rfl rfl ?_ ?_; (focus (first | exact trivial | assumption | constructor <;> assumption | exact mb2 rfl rfl | exact mb4 rfl rfl rfl rfl)); (try simp only [List.cons_append, List.nil_append, List.append_nil])) | refine Zbf ?_ | refine tX rfl rfl ?_ | (refine tS rfl rfl ?_ ?_; focus omega) | (refine tC rfl rfl ?_ ?_; focus (first | exact trivial | assumption | constructor <;> assumption | exact mb2 rfl rfl | exact mb4 rfl rfl rfl rfl)) | refine tW rfl rfl ?_ | refine tK rfl rfl ?_ | refine Go.Vt.hq (Zdx rfl rfl) rfl rfl ?_ | refine Go.Vt.hq (ZdC rfl rfl) rfl rfl ?_ | refine Zr ?_ | (refine Z6 ?_) | refine Zt ?_)); exact hq.out) : P := h ⟨k⟩
end Go.Vt
