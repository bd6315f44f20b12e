/- ReconstructThrough: for at most 12 reports and any settings, Through returns the trajectory through the reports of their chain. (part 1 of 6.) Conditions: those that each statement names. -/
import Derived.Below
import Derived.StillTail
import Derived.Laws.Rows
import Derived.KernelRfl
import Derived.WalkKit
import Derived.Laws.IdiomStrings
import Derived.Laws.Slices
import Derived.Laws.BytesArg
import Derived.Shelf.Spec.BitsCarry
import Derived.Test.YtecgnhneekbhgaaGreatDoorProg
import Derived.Lib.Bytealg
import Derived.Lib.Small
import Derived.Lib.BitFns
import Derived.Shelf.Strings.Trim
import Derived.Shelf.Small.Utf8
import Derived.Shelf.Small.Bits
import Derived.Shelf.Small.Strs
import Derived.Shelf.Small.Wraps
import Derived.Shelf.Strconv.Itoa0
import Derived.Shelf.Strings.Search1
import Derived.Shelf.Strings.Prefix
import Derived.Shelf.Unicode.Decode
import Derived.Shelf.Strings.Runes
import Derived.Shelf.Strings.AsciiSet
import Derived.Shelf.Bits.Mul64
import Derived.Shelf.Unicode.DecodeSlow
import Derived.Ground.Names2Prog
import Derived.Shelf.Slices.SearchI
/- A program logic over the walk's weakest preconditions: what is known of a frame is a list of temporaries, what is known of memory is a list of blocks of the call's own. Conditions: none. -/
set_option linter.unusedSimpArgs false
set_option linter.unusedVariables false
set_option maxHeartbeats 2000000
namespace Go.Vt
open Go.RowKit
/-- Memory has grown; what was there is as it was. -/
structure Ext (w w' : World) : Prop where
  bel : Below w.heap.size w w'
  dr : True
theorem Ext.size {w w' : World} (h : Ext w w') : w.heap.size ≤ w'.heap.size := h.bel.size
theorem Ext.block {w w' : World} (h : Ext w w') : ∀ k, k < w.heap.size → w'.heap[k]? = w.heap[k]? := h.bel.block
theorem Ext.refl (w : World) : Ext w w := ⟨Below.refl _ _, trivial⟩
theorem Ext.tr {a b c : World} (h : Ext a b) (k : Ext b c) : Ext a c := ⟨h.bel.trans (k.bel.mono h.size), trivial⟩
theorem Ext.alloc (w : World) (o : Obj) : Ext w (w.alloc o) := ⟨(Below.refl _ _).alloc (Nat.le_refl _) o, trivial⟩
theorem Ext.drew (w : World) : Ext w w.drew := ⟨(Below.refl _ _).drew, trivial⟩
/-- What is known of the temporaries. -/
abbrev Env := List (Nat × Value)
def Env.find : Env → Nat → Option Value
  | [], _ => none
  | (k, v) :: E, n => cond (Nat.beq k n) (some v) (Env.find E n)
def Env.ev (E : Env) : Operand → Option Value
  | .tmp t => Env.find E t
  | .const v => some v
  | .global g => some (.pointer (some ⟨g, 0, none⟩))
  | .func f => some (.func (.func f) #[] #[])
def Env.put (E : Env) (d : Option Tmp) (v : Value) : Env :=
  match d with
  | some d => (d, v) :: E
  | none => E
structure Rep (n : Nat) (E : Env) (a : Act) : Prop where
  size : a.tmps.size = n
  defers : a.defers = []
  val : ∀ k v, Env.find E k = some v → a.tmps[k]? = some v
theorem Rep.ev {n : Nat} {E : Env} {a : Act} (h : Rep n E a) {x : Operand} {v : Value} (hx : Env.ev E x = some v) : a.eval x = v := by
  cases x with
  | tmp t =>
    have := h.val t v hx
    simp [Act.eval, this]
  | const u => simpa [Env.ev, Act.eval] using hx
  | global g => simpa [Env.ev, Act.eval] using hx
  | func f => simpa [Env.ev, Act.eval] using hx
def dstOk (n : Nat) (d : Option Tmp) : Bool :=
  match d with
  | some d => Nat.blt d n
  | none => true
theorem Rep.put {n : Nat} {E : Env} {a : Act} (h : Rep n E a) (d : Option Tmp) (v : Value) (hd : dstOk n d = true) : Rep n (Env.put E d v) (a.put d v) := by
  cases d with
  | none => exact h
  | some d =>
    refine ⟨by simpa [Act.put] using h.size, by simpa [Act.put] using h.defers, fun k u hk => ?_⟩
    have hlt : d < a.tmps.size := by rw [h.size]; simpa [dstOk, Nat.blt_eq] using hd
    by_cases hdk : d = k
    · subst hdk
      simp only [Env.put, Env.find, Nat.beq_refl, cond_true, Option.some.injEq] at hk
      subst hk
      simp [Act.put, hlt]
    · have hb : Nat.beq d k = false := by
        cases hq : Nat.beq d k with
        | false => rfl
        | true => exact absurd (Nat.eq_of_beq_eq_true hq) hdk
      simp only [Env.put, Env.find, hb, cond_false] at hk
      simp only [Act.put, Array.getElem?_setIfInBounds_ne hdk]
      exact h.val k u hk
/-- 'E' knows all that 'F' says. -/
def Sub (E F : Env) : Prop := ∀ k v, Env.find F k = some v → Env.find E k = some v
theorem Sub.refl (E : Env) : Sub E E := fun _ _ h => h
theorem sub_nil {E : Env} : Sub E [] := fun k v h => by simp [Env.find] at h
theorem sub_cons {E F : Env} {k : Nat} {v : Value} (h : Env.find E k = some v) (hs : Sub E F) : Sub E ((k, v) :: F) := by
  intro j u hj
  by_cases hjk : k = j
  · subst hjk
    simp only [Env.find, Nat.beq_refl, cond_true, Option.some.injEq] at hj
    subst hj
    exact h
  · have hb : Nat.beq k j = false := by
      cases hq : Nat.beq k j with
      | false => rfl
      | true => exact absurd (Nat.eq_of_beq_eq_true hq) hjk
    simp only [Env.find, hb, cond_false] at hj
    exact hs j u hj
theorem sub_cons' {E F : Env} {k : Nat} {v v' : Value} (h : Env.find E k = some v') (hv : v' = v) (hs : Sub E F) : Sub E ((k, v) :: F) := sub_cons (hv ▸ h) hs
theorem Rep.sub {n : Nat} {E F : Env} {a : Act} (h : Rep n E a) (hs : Sub E F) : Rep n F a := ⟨h.size, h.defers, fun k v hk => h.val k v (hs k v hk)⟩
/-- What a block of the call's own holds: a row of cells, no string's bytes; or another object (a map, an iterator). -/
inductive Cs where
  | cells (a : Array Value)
  | obj (o : Obj)
instance : Coe (Array Value) Cs := ⟨Cs.cells⟩
/-- A block of the call's own. -/
structure Blk where
  b : Nat
  cs : Cs
  T : TypeId
@[reducible] def Blk.obj (e : Blk) : Obj := match e with
  | ⟨_, .cells a, T⟩ => .cells a T (0, 0)
  | ⟨_, .obj o, _⟩ => o
/-- Forgetting, paid by itself. -/
theorem sbB {E F : Env} (h : Sub E F := by repeat (first | exact sub_nil | refine sub_cons rfl ?_ | refine sub_cons' rfl (by congr 1; omega) ?_)) : Sub E F := h
theorem slB {A B : List Blk} (h : A.Sublist B := by repeat (first | exact List.Sublist.refl _ | exact List.nil_sublist _ | refine List.Sublist.cons_cons _ ?_ | refine List.Sublist.cons _ ?_)) : A.Sublist B := h
theorem suB {A B : List Blk} (h : A.Sublist B := by repeat (first | exact List.Sublist.refl _ | exact List.nil_sublist _ | exact List.sublist_append_left _ _ | refine List.Sublist.append_left ?_ _ | refine List.Sublist.cons_cons _ ?_ | refine List.Sublist.cons _ ?_ | refine List.Sublist.trans ?_ (List.sublist_append_right _ _))) : A.Sublist B := h
structure Own (w0 : World) (L : List Blk) (w : World) : Prop where
  ext : Ext w0 w
  mem : ∀ e ∈ L, w0.heap.size ≤ e.b ∧ w.heap[e.b]? = some e.obj
  nd : (L.map (·.b)).Nodup
theorem Own.start (w : World) : Own w [] w := ⟨Ext.refl _, fun _ h => by simp at h, by simp⟩
theorem lt_of_block {w : World} {b : Nat} {o : Obj} (h : w.heap[b]? = some o) : b < w.heap.size := by
  rcases Nat.lt_or_ge b w.heap.size with h' | h'
  · exact h'
  · simp [Array.getElem?_eq_none h'] at h
theorem Own.lt {w0 w : World} {L : List Blk} (h : Own w0 L w) {e : Blk} (he : e ∈ L) : e.b < w.heap.size := lt_of_block (h.mem e he).2
theorem Own.to {w0 w w' : World} {L : List Blk} (h : Own w0 L w) (k : Ext w w') : Own w0 L w' :=
  ⟨h.ext.tr k, fun e he => ⟨(h.mem e he).1, by rw [k.block _ (h.lt he)]; exact (h.mem e he).2⟩, h.nd⟩
theorem Own.sub {w0 w : World} {L M : List Blk} (h : Own w0 L w) (hs : M.Sublist L) : Own w0 M w :=
  ⟨h.ext, fun e he => h.mem e (hs.subset he), h.nd.sublist (hs.map _)⟩
/-- A block that was not there before. -/
theorem Own.more {w0 w w' : World} {L : List Blk} (h : Own w0 L w) (k : Ext w w') {e : Blk} (hb : w.heap.size ≤ e.b) (hc : w'.heap[e.b]? = some e.obj) : Own w0 (e :: L) w' := by
  have h' := h.to k
  refine ⟨h'.ext, fun x hx => ?_, ?_⟩
  · rcases List.mem_cons.1 hx with rfl | hx
    · exact ⟨Nat.le_trans h.ext.size hb, hc⟩
    · exact h'.mem x hx
  · simp only [List.map_cons, List.nodup_cons]
    refine ⟨fun hm => ?_, h.nd⟩
    obtain ⟨y, hy, hyb⟩ := List.mem_map.1 hm
    have := h.lt hy
    omega
theorem Own.alloc {w0 w : World} {L : List Blk} (h : Own w0 L w) (cs : Array Value) (T : TypeId) : Own w0 (⟨w.heap.size, cs, T⟩ :: L) (w.alloc (.cells cs T)) :=
  h.more (e := ⟨w.heap.size, cs, T⟩) (Ext.alloc _ _) (Nat.le_refl _) (heap_alloc_new _ _)
theorem Own.allocO {w0 w : World} {L : List Blk} (h : Own w0 L w) (o : Obj) (T : TypeId) : Own w0 (⟨w.heap.size, .obj o, T⟩ :: L) (w.alloc o) :=
  h.more (e := ⟨w.heap.size, .obj o, T⟩) (Ext.alloc _ _) (Nat.le_refl _) (heap_alloc_new _ _)
/-- One entry's cells turned. -/
inductive Upd (b : Nat) (cs : Cs) (T : TypeId) (cs' : Cs) : List Blk → List Blk → Prop where
  | here {L : List Blk} : Upd b cs T cs' (⟨b, cs, T⟩ :: L) (⟨b, cs', T⟩ :: L)
  | there {e : Blk} {L L' : List Blk} : Upd b cs T cs' L L' → Upd b cs T cs' (e :: L) (e :: L')
theorem Upd.mem {b : Nat} {cs cs' : Cs} {T : TypeId} {L L' : List Blk} (h : Upd b cs T cs' L L') : (⟨b, cs, T⟩ : Blk) ∈ L := by
  induction h with
  | here => exact .head _
  | there _ ih => exact .tail _ ih
theorem Upd.mem' {b : Nat} {cs cs' : Cs} {T : TypeId} {L L' : List Blk} (h : Upd b cs T cs' L L') (hn : (L.map (·.b)).Nodup) : ∀ e ∈ L', e = ⟨b, cs', T⟩ ∨ (e ∈ L ∧ e.b ≠ b) := by
  induction h with
  | here =>
    intro e he
    rcases List.mem_cons.1 he with rfl | he
    · exact .inl rfl
    · refine .inr ⟨.tail _ he, fun hb => ?_⟩
      simp only [List.map_cons, List.nodup_cons] at hn
      exact hn.1 (List.mem_map.2 ⟨e, he, hb⟩)
  | there h ih =>
    intro e he
    simp only [List.map_cons, List.nodup_cons] at hn
    rcases List.mem_cons.1 he with rfl | he
    · refine .inr ⟨.head _, fun hb => ?_⟩
      exact hn.1 (List.mem_map.2 ⟨_, h.mem, hb.symm⟩)
    · rcases ih hn.2 e he with h1 | h1
      · exact .inl h1
      · exact .inr ⟨.tail _ h1.1, h1.2⟩
theorem Upd.map {b : Nat} {cs cs' : Cs} {T : TypeId} {L L' : List Blk} (h : Upd b cs T cs' L L') : L'.map (·.b) = L.map (·.b) := by
  induction h with
  | here => rfl
  | there _ ih => simp only [List.map_cons, ih]
/-- The block is turned, nothing else. -/
structure TurnedO (b : Nat) (o : Obj) (w w' : World) : Prop where
  os : w'.os = w.os
  tape : w'.tape = w.tape
  output : w'.output = w.output
  size : w'.heap.size = w.heap.size
  dr : w'.drawn = w.drawn
  block : ∀ k, k ≠ b → w'.heap[k]? = w.heap[k]?
  here : w'.heap[b]? = some o
abbrev Turned (b : Nat) (cs' : Array Value) (T : TypeId) (w w' : World) : Prop := TurnedO b (.cells cs' T (0, 0)) w w'
theorem Own.turnO {w0 w w' : World} {L L' : List Blk} {b : Nat} {cs cs' : Cs} {T : TypeId} (h : Own w0 L w) (hu : Upd b cs T cs' L L') (ht : TurnedO b (Blk.obj ⟨b, cs', T⟩) w w') : Own w0 L' w' := by
  have hb := (h.mem _ hu.mem).1
  refine ⟨⟨h.ext.bel.trans ⟨ht.os, ht.tape, ht.output, by rw [ht.size]; exact Nat.le_refl _, fun k hk => ht.block k (by simp at hb; omega)⟩, trivial⟩, fun e he => ?_, by rw [hu.map]; exact h.nd⟩
  rcases hu.mem' h.nd e he with rfl | ⟨h1, h2⟩
  · exact ⟨hb, ht.here⟩
  · exact ⟨(h.mem e h1).1, by rw [ht.block _ h2]; exact (h.mem e h1).2⟩
theorem Own.turn {w0 w w' : World} {L L' : List Blk} {b : Nat} {cs cs' : Array Value} {T : TypeId} (h : Own w0 L w) (hu : Upd b cs T cs' L L') (ht : Turned b cs' T w w') : Own w0 L' w' := h.turnO hu ht
section
variable {P : Program} {w0 : World} {n : Nat} {ops : Array Oper} {L : List Blk} {E : Env}
def calmUpon (P : Program) (w : World) (v : Value) : Result Next → Prop
  | .ok (.value u) w' => u = v ∧ Ext w w'
  | .ok .skip w' => v = undef ∧ Ext w w'
  | .ok (.enter f args) w' => w' = w ∧ Calls P f args w (fun e w'' => e = .returned v ∧ Ext w w'')
  | _ => False
def calm (P : Program) (o : Oper) (a : Act) (w : World) (v : Value) : Prop := calmUpon P w v ((execOp a.eval o).run P w)
/-- Operation 'o' yields 'v' in every frame and world that are as known. -/
structure Yl (P : Program) (w0 : World) (n : Nat) (L : List Blk) (E : Env) (o : Oper) (v : Value) : Prop where
  out : ∀ a w, Rep n E a → Own w0 L w → calm P o a w v
theorem wp_of_calm {o : Oper} {a : Act} {w : World} {v : Value} {K : Act → World → Prop} {Q : Exit → Act → World → Prop} (hc : calm P o a w v)
    (h : ∀ w', Ext w w' → K (a.put o.dst v) w') : o.wp P a w K Q := by
  unfold calm at hc
  unfold Oper.wp
  generalize (execOp a.eval o).run P w = r at *
  cases r with
  | ok x w' =>
    cases x <;> simp only [calmUpon] at hc <;> simp only [Oper.upon]
    case value u => obtain ⟨rfl, hx⟩ := hc; exact h _ hx
    case skip => obtain ⟨rfl, hx⟩ := hc; exact h _ hx
    case enter f args =>
      obtain ⟨rfl, hx⟩ := hc
      exact hx.mono fun e w'' ⟨he, hw⟩ => by subst he; exact h _ hw
  | halt x w' => simp only [calmUpon] at hc
/-- What a guard says, as far as the temporaries are known. -/
def guardB (ops : Array Oper) (E : Env) : Option (Nat × Bool) → Option Bool
  | none => some true
  | some (j, want) =>
    match (ops[j]?).bind (·.dst) with
    | some t => match Env.find E t with
      | some (.bool b) => some (b == want)
      | some (.tuple _) => some false
      | _ => none
    | none => none
theorem guardB_spec {a : Act} {o : Oper} {b : Bool} (ha : Rep n E a) (h : guardB ops E o.guard = some b) : Region.wanted o (yielded ops a.tmps) = b := by
  unfold Region.wanted
  cases hg : o.guard with
  | none => simp only [hg, guardB, Option.some.injEq] at h; exact h
  | some jw =>
    obtain ⟨j, want⟩ := jw
    simp only [hg, guardB] at h
    unfold yielded
    split at h
    · rename_i t ht
      split at h
      · rename_i c hc
        have := ha.val t _ hc
        simp only [Option.some.injEq] at h
        subst h
        simp [ht, this]
      · rename_i c hc
        have := ha.val t _ hc
        simp only [Option.some.injEq] at h
        subst h
        simp [ht, this]
      · cases h
    · cases h
structure JO (P : Program) (w0 : World) (n : Nat) (ops : Array Oper) (Q : Exit → Act → World → Prop) (l : List Oper) (E : Env) (L : List Blk) : Prop where
  out : ∀ a w, Rep n E a → Own w0 L w → wpList P ops Q l a w
/-- A code, from what is known on. -/
structure J (P : Program) (w0 : World) (n : Nat) (c : Code) (Q : Exit → Act → World → Prop) (E : Env) (L : List Blk) : Prop where
  out : ∀ a w, Rep n E a → Own w0 L w → c.wp P Q a w
/-- A way out. -/
structure JX (w0 : World) (n : Nat) (e : Exit) (Q : Exit → Act → World → Prop) (E : Env) (L : List Blk) : Prop where
  out : ∀ a w, Rep n E a → Own w0 L w → Q e a w
variable {Q : Exit → Act → World → Prop} {o : Oper} {rest : List Oper} {v : Value}
theorem jo_nil (h : JX w0 n .normal Q E L) : JO P w0 n ops Q [] E L := ⟨fun a w ha hw => wpList_nil (h.out a w ha hw)⟩
theorem jo_q (hy : Yl P w0 n L E o v) (hg : guardB ops E o.guard = some true) (hd : dstOk n o.dst = true) (h : JO P w0 n ops Q rest (Env.put E o.dst v) L) : JO P w0 n ops Q (o :: rest) E L := by
  refine ⟨fun a w ha hw => ?_⟩
  refine wpList_step fun K hK => ?_
  rw [if_pos (guardB_spec ha hg)]
  exact wp_of_calm (hy.out a w ha hw) fun w' hx => hK _ _ (h.out _ _ (ha.put _ _ hd) (hw.to hx))
theorem jo_skip (hg : guardB ops E o.guard = some false) (hd : dstOk n o.dst = true) (h : JO P w0 n ops Q rest (Env.put E o.dst undef) L) : JO P w0 n ops Q (o :: rest) E L := by
  refine ⟨fun a w ha hw => ?_⟩
  refine wpList_step fun K hK => ?_
  rw [if_neg (by rw [guardB_spec ha hg]; simp)]
  exact hK _ _ (h.out _ _ (ha.put _ _ hd) hw)
/-- An operation that makes a block or turns one. -/
theorem jo_w {L' : Type} (hg : guardB ops E o.guard = some true) (hd : dstOk n o.dst = true) (val : L' → Value) (mem : L' → List Blk)
    (hy : ∀ a w, Rep n E a → Own w0 L w → ∃ s w', ((execOp a.eval o).run P w = .ok (.value (val s)) w' ∨ ((execOp a.eval o).run P w = .ok .skip w' ∧ val s = undef)) ∧ Own w0 (mem s) w')
    (h : ∀ s, JO P w0 n ops Q rest (Env.put E o.dst (val s)) (mem s)) : JO P w0 n ops Q (o :: rest) E L := by
  refine ⟨fun a w ha hw => ?_⟩
  refine wpList_step fun K hK => ?_
  rw [if_pos (guardB_spec ha hg)]
  obtain ⟨s, w', hr, hw'⟩ := hy a w ha hw
  unfold Oper.wp
  rcases hr with hr | ⟨hr, hs⟩
  · rw [hr]
    exact hK _ _ ((h s).out _ _ (ha.put _ _ hd) hw')
  · rw [hr]
    have := (h s).out _ _ (ha.put _ _ hd) hw'
    rw [hs] at this
    exact hK _ _ this
/-- A call whose results lie in memory of its own. -/
theorem jo_c {S : Type} {f : FuncId} {args : Array Value} (hg : guardB ops E o.guard = some true) (hd : dstOk n o.dst = true) (val : S → Value) (mem : S → List Blk)
    (hr : ∀ a w, Rep n E a → (execOp a.eval o).run P w = .ok (.enter f args) w)
    (hc : ∀ w, Own w0 L w → Calls P f args w fun e w' => ∃ s, e = .returned (val s) ∧ Own w0 (mem s) w')
    (h : ∀ s, JO P w0 n ops Q rest (Env.put E o.dst (val s)) (mem s)) : JO P w0 n ops Q (o :: rest) E L := by
  refine ⟨fun a w ha hw => ?_⟩
  refine wpList_step fun K hK => ?_
  rw [if_pos (guardB_spec ha hg)]
  unfold Oper.wp
  rw [hr a w ha]
  exact (hc w hw).mono fun e w' ⟨s, he, hw'⟩ => by subst he; exact hK _ _ ((h s).out _ _ (ha.put _ _ hd) hw')
def Then (P : Program) (c : Code) (Q : Exit → Act → World → Prop) : Exit → Act → World → Prop := Exit.then (c.wp P Q) Q
theorem j_region {l : List Oper} {id : Nat} (h : JO P w0 n l.toArray Q l E L) : J P w0 n (.region id l.toArray false) Q E L := ⟨fun a w ha hw => wp_region_lit (h.out a w ha hw)⟩
theorem j_seq {x y : Code} (h : J P w0 n x (Then P y Q) E L) : J P w0 n (.seq x y) Q E L := ⟨fun a w ha hw => wp_seq (h.out a w ha hw)⟩
theorem j_skip (h : JX w0 n .normal Q E L) : J P w0 n .skip Q E L := ⟨fun a w ha hw => wp_skip (h.out a w ha hw)⟩
theorem j_ret (h : JX w0 n .ret Q E L) : J P w0 n .ret Q E L := ⟨fun a w ha hw => wp_ret (h.out a w ha hw)⟩
theorem j_exit {id : Nat} (h : JX w0 n (.exit id) Q E L) : J P w0 n (.exit id) Q E L := ⟨fun a w ha hw => wp_exit (h.out a w ha hw)⟩
theorem j_block {id : Nat} {c : Code} (h : J P w0 n c (Exit.inBlock id Q) E L) : J P w0 n (.block id c) Q E L := ⟨fun a w ha hw => wp_block (h.out a w ha hw)⟩
theorem j_cond {c : Operand} {x y : Code} {t : Bool} (hc : Env.ev E c = some (.bool t)) (ht : t = true → J P w0 n x Q E L) (hf : t = false → J P w0 n y Q E L) : J P w0 n (.cond c x y) Q E L := ⟨fun a w ha hw => by
  cases t with
  | true => exact wp_cond_true (ha.ev hc) ((ht rfl).out a w ha hw)
  | false => exact wp_cond_false (ha.ev hc) ((hf rfl).out a w ha hw)⟩
theorem j_if {c : Operand} {x y : Code} (hc : Env.ev E c = some (.bool true)) (h : J P w0 n x Q E L) : J P w0 n (.cond c x y) Q E L := ⟨fun a w ha hw => wp_cond_true (ha.ev hc) (h.out a w ha hw)⟩
theorem j_else {c : Operand} {x y : Code} (hc : Env.ev E c = some (.bool false)) (h : J P w0 n y Q E L) : J P w0 n (.cond c x y) Q E L := ⟨fun a w ha hw => wp_cond_false (ha.ev hc) (h.out a w ha hw)⟩
theorem jx_then {y : Code} (h : J P w0 n y Q E L) : JX w0 n .normal (Then P y Q) E L := ⟨h.out⟩
theorem jx_then_ret {y : Code} (h : JX w0 n .ret Q E L) : JX w0 n .ret (Then P y Q) E L := ⟨h.out⟩
theorem jx_then_exit {y : Code} {id : Nat} (h : JX w0 n (.exit id) Q E L) : JX w0 n (.exit id) (Then P y Q) E L := ⟨h.out⟩
theorem jx_block {id : Nat} (h : JX w0 n .normal Q E L) : JX w0 n .normal (Exit.inBlock id Q) E L := ⟨h.out⟩
theorem jx_block_ret {id : Nat} (h : JX w0 n .ret Q E L) : JX w0 n .ret (Exit.inBlock id Q) E L := ⟨h.out⟩
theorem jx_block_here {id : Nat} (h : JX w0 n .normal Q E L) : JX w0 n (.exit id) (Exit.inBlock id Q) E L := ⟨fun a w ha hw => by
  simp only [Exit.inBlock, if_true]
  exact h.out a w ha hw⟩
theorem jx_block_past {id j : Nat} (hj : Nat.beq j id = false) (h : JX w0 n (.exit j) Q E L) : JX w0 n (.exit j) (Exit.inBlock id Q) E L := ⟨fun a w ha hw => by
  have : ¬ j = id := fun e => by subst e; simp at hj
  simp only [Exit.inBlock, if_neg this]
  exact h.out a w ha hw⟩
/-- A place where the ways meet: what is known there, by a ghost. -/
def MidQ {S : Type} (w0 : World) (n : Nat) (I : S → Prop) (Es : S → Env) (Ls : S → List Blk) (K : Act → World → Prop) (Q : Exit → Act → World → Prop) : Exit → Act → World → Prop
  | .normal, a, w => (∃ s, I s ∧ Rep n (Es s) a ∧ Own w0 (Ls s) w) ∧ K a w
  | e, a, w => Q e a w
theorem j_mid {S : Type} (I : S → Prop) (Es : S → Env) (Ls : S → List Blk) {x y : Code} (h1 : J P w0 n x (MidQ w0 n I Es Ls (fun _ _ => True) Q) E L) (h2 : ∀ s, I s → J P w0 n y Q (Es s) (Ls s)) : J P w0 n (.seq x y) Q E L := ⟨fun a w ha hw => by
  refine wp_seq (wp_mono (h1.out a w ha hw) fun e a' w' hq => ?_)
  cases e with
  | normal => obtain ⟨⟨s, hs, hr, ho⟩, _⟩ := hq; exact (h2 s hs).out a' w' hr ho
  | _ => exact hq⟩
theorem jx_mid {S : Type} {I : S → Prop} {Es : S → Env} {Ls : S → List Blk} (s : S) (hs : I s) (hE : Sub E (Es s)) (hL : (Ls s).Sublist L) : JX w0 n .normal (MidQ w0 n I Es Ls (fun _ _ => True) Q) E L :=
  ⟨fun _ _ ha hw => ⟨⟨s, hs, ha.sub hE, hw.sub hL⟩, trivial⟩⟩
theorem j_cut {S : Type} (I : S → Prop) (Es : S → Env) (Ls : S → List Blk) {x y : Code} (h1 : J P w0 n x (MidQ w0 n I Es Ls (fun _ _ => True) Q) E L) (h2 : ∀ s, I s → J P w0 n y Q (Es s) (Ls s)) : J P w0 n x (Then P y Q) E L := ⟨fun a w ha hw => by
  refine wp_mono (h1.out a w ha hw) fun e a' w' hq => ?_
  cases e with
  | normal => obtain ⟨⟨s, hs, hr, ho⟩, _⟩ := hq; exact (h2 s hs).out a' w' hr ho
  | _ => exact hq⟩
theorem jx_mid_ret {S : Type} {I : S → Prop} {Es : S → Env} {Ls : S → List Blk} {K : Act → World → Prop} (h : JX w0 n .ret Q E L) : JX w0 n .ret (MidQ w0 n I Es Ls K Q) E L := ⟨h.out⟩
theorem jx_mid_exit {S : Type} {I : S → Prop} {Es : S → Env} {Ls : S → List Blk} {K : Act → World → Prop} {id : Nat} (h : JX w0 n (.exit id) Q E L) : JX w0 n (.exit id) (MidQ w0 n I Es Ls K Q) E L := ⟨h.out⟩
theorem least (p : Nat → Prop) : ∀ m, p m → ∃ k, p k ∧ ∀ j, p j → k ≤ j := by
  intro m
  induction m using Nat.strongRecOn with
  | _ m ih =>
    intro hm
    by_cases h : ∃ j, j < m ∧ p j
    · obtain ⟨j, hj, hp⟩ := h
      exact ih j hj hp
    · refine ⟨m, hm, fun j hp => ?_⟩
      rcases Nat.lt_or_ge j m with hj | hj
      · exact absurd ⟨j, hj, hp⟩ h
      · exact hj
/-- What a round must come to. -/
def LoopQ {S : Type} (w0 : World) (n : Nat) (I : S → Prop) (Es : S → Env) (Ls : S → List Blk) (mu : S → Nat) (s : S) (Q : Exit → Act → World → Prop) : Exit → Act → World → Prop
  | .normal, a, w => ∃ t, I t ∧ Rep n (Es t) a ∧ Own w0 (Ls t) w ∧ mu t < mu s
  | e, a, w => Q e a w
theorem j_loop {S : Type} (I : S → Prop) (Es : S → Env) (Ls : S → List Blk) (mu : S → Nat) (s0 : S) {c : Code} (h0 : I s0) (hE : Sub E (Es s0)) (hL : (Ls s0).Sublist L)
    (round : ∀ s, I s → J P w0 n c (LoopQ w0 n I Es Ls mu s Q) (Es s) (Ls s)) : J P w0 n (.loop c) Q E L := by
  refine ⟨fun a w ha hw => ?_⟩
  have hmin : ∀ (a : Act) (w : World), (∃ s, I s ∧ Rep n (Es s) a ∧ Own w0 (Ls s) w) → ∃ s, (I s ∧ Rep n (Es s) a ∧ Own w0 (Ls s) w) ∧ ∀ t, (I t ∧ Rep n (Es t) a ∧ Own w0 (Ls t) w) → mu s ≤ mu t := by
    intro a w ⟨s, hs⟩
    obtain ⟨k, ⟨t, ht, hk⟩, hm⟩ := least (fun k => ∃ t, (I t ∧ Rep n (Es t) a ∧ Own w0 (Ls t) w) ∧ mu t = k) (mu s) ⟨s, hs, rfl⟩
    exact ⟨t, ht, fun t' ht' => by rw [hk]; exact hm _ ⟨t', ht', rfl⟩⟩
  classical
  let pick : Act → World → Nat := fun a w => if h : ∃ s, I s ∧ Rep n (Es s) a ∧ Own w0 (Ls s) w then mu (Classical.choose (hmin a w h)) else 0
  refine wp_loop (fun a w => ∃ s, I s ∧ Rep n (Es s) a ∧ Own w0 (Ls s) w) pick ⟨s0, h0, ha.sub hE, hw.sub hL⟩ fun a' w' hI => ?_
  have hsp := Classical.choose_spec (hmin a' w' hI)
  have hr := (round _ hsp.1.1).out a' w' hsp.1.2.1 hsp.1.2.2
  refine wp_mono hr fun e a2 w2 hq => ?_
  cases e with
  | normal =>
    obtain ⟨t, ht, hr2, ho2, hlt⟩ := hq
    refine ⟨⟨t, ht, hr2, ho2⟩, ?_⟩
    have hex : ∃ s, I s ∧ Rep n (Es s) a2 ∧ Own w0 (Ls s) w2 := ⟨t, ht, hr2, ho2⟩
    have h2 := (Classical.choose_spec (hmin a2 w2 hex)).2 t ⟨ht, hr2, ho2⟩
    simp only [pick, dif_pos hex, dif_pos hI]
    omega
  | _ => exact hq
theorem jx_loop {S : Type} {I : S → Prop} {Es : S → Env} {Ls : S → List Blk} {mu : S → Nat} {s : S} (t : S) (ht : I t) (hE : Sub E (Es t)) (hL : (Ls t).Sublist L) (hmu : mu t < mu s) : JX w0 n .normal (LoopQ w0 n I Es Ls mu s Q) E L :=
  ⟨fun _ _ ha hw => ⟨t, ht, ha.sub hE, hw.sub hL, hmu⟩⟩
theorem jx_loop_ret {S : Type} {I : S → Prop} {Es : S → Env} {Ls : S → List Blk} {mu : S → Nat} {s : S} (h : JX w0 n .ret Q E L) : JX w0 n .ret (LoopQ w0 n I Es Ls mu s Q) E L := ⟨h.out⟩
theorem jx_loop_exit {S : Type} {I : S → Prop} {Es : S → Env} {Ls : S → List Blk} {mu : S → Nat} {s : S} {id : Nat} (h : JX w0 n (.exit id) Q E L) : JX w0 n (.exit id) (LoopQ w0 n I Es Ls mu s Q) E L := ⟨h.out⟩
theorem Own.perm {w0 w : World} {L M : List Blk} (h : Own w0 L w) (hp : L.Perm M) : Own w0 M w :=
  ⟨h.ext, fun e he => h.mem e (hp.mem_iff.2 he), (hp.map _).nodup_iff.1 h.nd⟩
theorem jx_perm {e : Exit} {M : List Blk} (hp : L.Perm M) (h : JX w0 n e Q E M) : JX w0 n e Q E L := ⟨fun a w ha hw => h.out a w ha (hw.perm hp)⟩
def envOf (k : Nat) : List Value → Env
  | [] => []
  | v :: l => (k, v) :: envOf (k + 1) l
theorem find_envOf (l : List Value) : ∀ k j v, Env.find (envOf k l) j = some v → k ≤ j ∧ l[j - k]? = some v := by
  induction l with
  | nil => intro k j v h; simp [envOf, Env.find] at h
  | cons x l ih =>
    intro k j v h
    by_cases hkj : k = j
    · subst hkj
      simp only [envOf, Env.find, Nat.beq_refl, cond_true, Option.some.injEq] at h
      exact ⟨Nat.le_refl _, by simp [h]⟩
    · have hb : Nat.beq k j = false := by
        cases hq : Nat.beq k j with
        | false => rfl
        | true => exact absurd (Nat.eq_of_beq_eq_true hq) hkj
      simp only [envOf, Env.find, hb, cond_false] at h
      obtain ⟨h1, h2⟩ := ih _ _ _ h
      refine ⟨by omega, ?_⟩
      rw [show j - k = (j - (k + 1)) + 1 by omega]
      simpa using h2
/-- The frame in which a call begins. -/
class EnvC (l : List Value) (E : outParam Env) : Prop where out : envOf 0 l = E
instance envC0 : EnvC [] [] := ⟨rfl⟩
instance envC1 (v0 : Value) : EnvC [v0] [(0, v0)] := ⟨rfl⟩
instance envC2 (v0 v1 : Value) : EnvC [v0, v1] [(0, v0), (1, v1)] := ⟨rfl⟩
instance envC3 (v0 v1 v2 : Value) : EnvC [v0, v1, v2] [(0, v0), (1, v1), (2, v2)] := ⟨rfl⟩
instance envC4 (v0 v1 v2 v3 : Value) : EnvC [v0, v1, v2, v3] [(0, v0), (1, v1), (2, v2), (3, v3)] := ⟨rfl⟩
instance envC5 (v0 v1 v2 v3 v4 : Value) : EnvC [v0, v1, v2, v3, v4] [(0, v0), (1, v1), (2, v2), (3, v3), (4, v4)] := ⟨rfl⟩
theorem fn_intro {f : FuncId} {fn : Func} {c : Code} {l : List Value} {w : World} {R : Ending → World → Prop} (hf : P.funcs[f]? = some fn) (hb : fn.body = some c) (hn : fn.ntmps = n) (hl : Nat.ble l.length n = true) [hE : EnvC l E]
    (h : J P w n c (bodyPost P fn R) E []) : Calls P f l.toArray w R := by
  rw [← hE.out] at h
  have hl' : l.length ≤ n := Nat.le_of_ble_eq_true hl
  refine calls_of_wp hf hb (h.out _ _ ⟨by simp [hn]; omega, rfl, fun k v hk => ?_⟩ (Own.start w))
  obtain ⟨_, h2⟩ := find_envOf l 0 k v hk
  have hlt : k < l.length := by
    rcases Nat.lt_or_ge k l.length with h' | h'
    · exact h'
    · simp [List.getElem?_eq_none h'] at h2
  simp only [Nat.sub_zero] at h2
  rw [Array.getElem?_append_left (by simpa using hlt)]
  simpa using h2
/-- What a call comes to whose result lies in no memory: a value, and memory has only grown. -/
def Ret (v : Value) (w : World) (e : Ending) (w' : World) : Prop := e = .returned v ∧ Ext w w'
theorem jx_ret {fn : Func} {R : Ending → World → Prop} (hr : ∀ a w, Rep n E a → Own w0 L w → (results fn a.tmps).run P w = .ok v w) (h : ∀ w, Own w0 L w → R (.returned v) w) : JX w0 n .ret (bodyPost P fn R) E L :=
  ⟨fun a w ha hw => ⟨ha.defers, v, hr a w ha hw, h w hw⟩⟩
theorem jx_end {fn : Func} {R : Ending → World → Prop} (hr : ∀ a w, Rep n E a → Own w0 L w → (results fn a.tmps).run P w = .ok v w) (h : ∀ w, Own w0 L w → R (.returned v) w) : JX w0 n .normal (bodyPost P fn R) E L :=
  ⟨fun a w ha hw => ⟨ha.defers, v, hr a w ha hw, h w hw⟩⟩
end
end Go.Vt
/- The operations of a straight text under the program logic of XLogicA: moves, loads, boxes, stores, calls. Conditions: those that each theorem names. -/
set_option linter.unusedSimpArgs false
set_option linter.unusedVariables false
set_option maxHeartbeats 2000000
namespace Go.Vt
open Go.RowKit
section
variable {P : Program} {w0 : World} {n : Nat} {ops : Array Oper} {L : List Blk} {E : Env}
variable {Q : Exit → Act → World → Prop} {rest : List Oper} {v : Value}
variable {d : Option Tmp} {ty : TypeId} {pos : String} {aft : Array Edge} {gd : Option (Nat × Bool)}
theorem calm_run {o : Oper} {a : Act} {w w' : World} {s : Sem Value} (he : execOp a.eval o = (do pure (.value (← s)))) (hr : s.run P w = .ok v w') (hx : Ext w w') : calm P o a w v := by
  unfold calm
  rw [he, Sem.run_bind, hr]
  exact ⟨rfl, hx⟩
theorem yl_run {o : Oper} (s : Act → Sem Value) (he : ∀ a, Rep n E a → execOp a.eval o = (do pure (.value (← s a)))) (hr : ∀ a w, Rep n E a → Own w0 L w → (s a).run P w = .ok v w) : Yl P w0 n L E o v :=
  ⟨fun a w ha hw => calm_run (he a ha) (hr a w ha hw) (Ext.refl _)⟩
theorem yl_move {x : Operand} (hx : Env.ev E x = some v) : Yl P w0 n L E ⟨d, .move x, ty, pos, aft, gd⟩ v := ⟨fun a w ha _ => by
  unfold calm
  simp only [execOp, ha.ev hx, Sem.run_pure]
  exact ⟨rfl, Ext.refl _⟩⟩
theorem yl_assign {x : Operand} (hx : Env.ev E x = some v) : Yl P w0 n L E ⟨d, .assign x, ty, pos, aft, gd⟩ v := ⟨fun a w ha _ => by
  unfold calm
  simp only [execOp, ha.ev hx, Sem.run_pure]
  exact ⟨rfl, Ext.refl _⟩⟩
theorem yl_extract {x : Operand} {vs : Array Value} {i : Nat} (hx : Env.ev E x = some (.tuple vs)) (hi : vs[i]? = some v) : Yl P w0 n L E ⟨d, .extract x i, ty, pos, aft, gd⟩ v :=
  yl_run (fun _ => Instr.extract (.tuple vs) i) (fun a ha => by simp only [execOp, ha.ev hx]) (fun a w _ _ => by simp [Instr.extract, hi])
theorem yl_bin {op : BinOp} {T T' : TypeId} {x y : Operand} {vx vy : Value} (hx : Env.ev E x = some vx) (hy : Env.ev E y = some vy) (hg : ∀ w, (eqGuard op T x y vx vy).run P w = .ok () w) (hr : ∀ w, (binOp op T vx vy).run P w = .ok v w) : Yl P w0 n L E ⟨d, .binOp op T x y T', ty, pos, aft, gd⟩ v :=
  yl_run (fun _ => do eqGuard op T x y vx vy; binOp op T vx vy) (fun a ha => by simp only [execOp, ha.ev hx, ha.ev hy]) (fun a w _ _ => by rw [Sem.run_bind, hg]; exact hr w)
theorem yl_un {op : UnOp} {T : TypeId} {x : Operand} {vx : Value} (hx : Env.ev E x = some vx) (hr : ∀ w, (Op.unary op vx).run P w = .ok v w) : Yl P w0 n L E ⟨d, .unOp op T x, ty, pos, aft, gd⟩ v :=
  yl_run (fun _ => Op.unary op vx) (fun a ha => by simp only [execOp, ha.ev hx]) (fun a w _ _ => hr w)
theorem yl_conv {S T : TypeId} {x : Operand} {vx : Value} (hx : Env.ev E x = some vx) (hr : ∀ w, (convert S T vx).run P w = .ok v w) : Yl P w0 n L E ⟨d, .convert S T x, ty, pos, aft, gd⟩ v :=
  yl_run (fun _ => convert S T vx) (fun a ha => by simp only [execOp, ha.ev hx]) (fun a w _ _ => hr w)
theorem yl_faddr {T : TypeId} {x : Operand} {f : Nat} {vx : Value} (hx : Env.ev E x = some vx) (hr : ∀ w, (Instr.fieldAt T vx f).run P w = .ok v w) : Yl P w0 n L E ⟨d, .fieldAddr T x f, ty, pos, aft, gd⟩ v :=
  yl_run (fun _ => Instr.fieldAt T vx f) (fun a ha => by simp only [execOp, ha.ev hx]) (fun a w _ _ => hr w)
theorem yl_iaddr {T : TypeId} {x y : Operand} {vx vy : Value} (hx : Env.ev E x = some vx) (hy : Env.ev E y = some vy) (hr : ∀ w, (Instr.indexAt T vx vy).run P w = .ok v w) : Yl P w0 n L E ⟨d, .indexAddr T x y, ty, pos, aft, gd⟩ v :=
  yl_run (fun _ => Instr.indexAt T vx vy) (fun a ha => by simp only [execOp, ha.ev hx, ha.ev hy]) (fun a w _ _ => hr w)
theorem yl_index {T : TypeId} {x y : Operand} {vx vy : Value} (hx : Env.ev E x = some vx) (hy : Env.ev E y = some vy) (hr : ∀ w, (Instr.index T vx vy).run P w = .ok v w) : Yl P w0 n L E ⟨d, .index T x y, ty, pos, aft, gd⟩ v :=
  yl_run (fun _ => Instr.index T vx vy) (fun a ha => by simp only [execOp, ha.ev hx, ha.ev hy]) (fun a w _ _ => hr w)
/-- The operands of a composite literal. -/
def Env.evp (E : Env) : List (Nat × Operand) → Option (List (Nat × Value))
  | [] => some []
  | (i, x) :: r => match Env.ev E x, Env.evp E r with
    | some v, some l => some ((i, v) :: l)
    | _, _ => none
theorem Rep.evp {a : Act} (ha : Rep n E a) : ∀ (ps : List (Nat × Operand)) (l : List (Nat × Value)), Env.evp E ps = some l → ps.map (fun (i, x) => (i, a.eval x)) = l
  | [], l, h => by simp only [Env.evp, Option.some.injEq] at h; subst h; rfl
  | (i, x) :: r, l, h => by
    simp only [Env.evp] at h
    split at h
    · rename_i v l' hv hl
      simp only [Option.some.injEq] at h
      subst h
      simp only [List.map_cons, ha.ev hv, Rep.evp ha r l' hl]
    · cases h
theorem yl_build {T : TypeId} {ps : List (Nat × Operand)} {l : List (Nat × Value)} (hp : Env.evp E ps = some l) (hr : ∀ w, (Instr.build T l.toArray).run P w = .ok v w) : Yl P w0 n L E ⟨d, .build T ps.toArray, ty, pos, aft, gd⟩ v :=
  yl_run (fun _ => Instr.build T l.toArray) (fun a ha => by
    have : ps.toArray.map (fun (i, x) => (i, a.eval x)) = l.toArray := by rw [← ha.evp ps l hp]; simp
    simp only [execOp, this]) (fun a w _ _ => hr w)
/-- 'T' is a struct or an array of 'k' cells. -/
def aggB (P : Program) (T : TypeId) (k : Nat) : Bool :=
  (match P.underlying T with
   | some (.struct _) | some (.array _ _) => true
   | _ => false) && ((P.info? T).map (·.size) == some k)
def oneB (P : Program) (T : TypeId) : Bool :=
  match P.underlying T with
  | some (.struct _) | some (.array _ _) => false
  | some _ => true
  | none => false
theorem run_isAgg_true {T : TypeId} {k : Nat} (h : aggB P T k = true) (w : World) : (isAgg T).run P w = .ok true w := by
  unfold aggB at h
  unfold isAgg
  rw [Sem.run_bind]
  cases hu : P.underlying T with
  | none => simp [hu] at h
  | some dd =>
    rw [run_underlying hu w]
    cases dd <;> simp_all
theorem run_isAgg_false {T : TypeId} (h : oneB P T = true) (w : World) : (isAgg T).run P w = .ok false w := by
  unfold oneB at h
  unfold isAgg
  rw [Sem.run_bind]
  cases hu : P.underlying T with
  | none => simp [hu] at h
  | some dd =>
    rw [run_underlying hu w]
    cases dd <;> simp_all
theorem run_sizeOf {T : TypeId} {k : Nat} (h : (P.info? T).map (·.size) = some k) (w : World) : (sizeOf T).run P w = .ok k w := by
  cases hi : P.info? T with
  | none => simp [hi] at h
  | some i =>
    have : i.size = k := by simpa [hi] using h
    simp [sizeOf, typeInfo, hi, this]
theorem aggB_size {T : TypeId} {k : Nat} (h : aggB P T k = true) : (P.info? T).map (·.size) = some k := by
  unfold aggB at h
  simp only [Bool.and_eq_true, beq_iff_eq] at h
  exact h.2
/-- What a load of type 'T' at offset 'off' of the cells 'cs' gives. -/
def LdV (P : Program) (T : TypeId) (cs : Array Value) (off : Nat) (v : Value) : Prop :=
  (∃ k, aggB P T k = true ∧ off + k ≤ cs.size ∧ v = .agg (cs.extract off (off + k))) ∨ (oneB P T = true ∧ cs[off]? = some v)
theorem ldv_agg {T : TypeId} {cs cs' : Array Value} {off : Nat} (k : Nat) (h : aggB P T k = true) (hs : Nat.ble (off + k) cs.size = true) (hv : cs.extract off (off + k) = cs') : LdV P T cs off (.agg cs') :=
  .inl ⟨k, h, Nat.le_of_ble_eq_true hs, by rw [hv]⟩
theorem ldv_one {T : TypeId} {cs : Array Value} {off : Nat} (h : oneB P T = true) (hv : cs[off]? = some v) : LdV P T cs off v := .inr ⟨h, hv⟩
theorem cell_block {w : World} {b : Nat} {cs : Array Value} {T : TypeId} {fz : Nat × Nat} (h : w.heap[b]? = some (.cells cs T fz)) (off : Nat) : w.cell? ⟨b, off, none⟩ = cs[off]? := by
  simp [World.cell?, h]
theorem addr_add (b off k : Nat) : Addr.add ⟨b, off, none⟩ k = ⟨b, off + k, none⟩ := by
  unfold Addr.add
  split
  · rename_i h; subst h; rfl
  · rfl
theorem run_loadVar {w : World} {b off : Nat} {cs : Array Value} {T T0 : TypeId} {fz : Nat × Nat} (h : w.heap[b]? = some (.cells cs T0 fz)) (hv : LdV P T cs off v) : (loadVar T ⟨b, off, none⟩).run P w = .ok v w := by
  rcases hv with ⟨k, ha, hs, rfl⟩ | ⟨ho, hv⟩
  · have hl : (loadCells ⟨b, off, none⟩ (cs.extract off (off + k)).toList.length).run P w = .ok (cs.extract off (off + k)).toList.toArray w :=
      run_loadCells_list (P := P) w ⟨b, off, none⟩ _ (fun j u hu => by
        rw [addr_add, cell_block h]
        simp only [Array.getElem?_toList] at hu
        rw [Array.getElem?_extract] at hu
        split at hu
        · exact hu
        · cases hu)
    have hlen : (cs.extract off (off + k)).toList.length = k := by simp; omega
    rw [hlen, Array.toArray_toList] at hl
    simp [loadVar, Sem.run_bind, run_isAgg_true ha, run_sizeOf (aggB_size ha), hl]
  · simp [loadVar, Sem.run_bind, run_isAgg_false ho, run_load, cell_block h, hv]
theorem yl_load {T T0 : TypeId} {x : Operand} {b off : Nat} {cs : Array Value} (hx : Env.ev E x = some (.pointer (some ⟨b, off, none⟩))) (hm : (⟨b, cs, T0⟩ : Blk) ∈ L) (hv : LdV P T cs off v) : Yl P w0 n L E ⟨d, .load T x, ty, pos, aft, gd⟩ v :=
  yl_run (fun _ => loadVar T ⟨b, off, none⟩) (fun a ha => by
    simp only [execOp, ha.ev hx, Instr.loadAt, Instr.sureAddr]
    rfl) (fun a w _ hw => run_loadVar (hw.mem _ hm).2 hv)
/-- A load out of a block that was there when the call began. -/
theorem yl_loadF {T T0 : TypeId} {x : Operand} {b off : Nat} {cs : Array Value} {fz : Nat × Nat} (hx : Env.ev E x = some (.pointer (some ⟨b, off, none⟩))) (hm : w0.heap[b]? = some (.cells cs T0 fz)) (hv : LdV P T cs off v) : Yl P w0 n L E ⟨d, .load T x, ty, pos, aft, gd⟩ v :=
  yl_run (fun _ => loadVar T ⟨b, off, none⟩) (fun a ha => by
    simp only [execOp, ha.ev hx, Instr.loadAt, Instr.sureAddr]
    rfl) (fun a w _ hw => run_loadVar (fz := fz) (by rw [hw.ext.block b (lt_of_block hm)]; exact hm) hv)
def callableB (P : Program) (f : FuncId) : Bool :=
  match P.funcs[f]? with
  | some fn => !(fn.name == "runtime.NumGoroutine") && fn.body.isSome
  | none => false
theorem run_callFunc {f : FuncId} (h : callableB P f = true) (args : Array Value) (w : World) : (callFunc f args).run P w = .ok (.enter f args) w := by
  unfold callableB at h
  cases hf : P.funcs[f]? with
  | none => simp [hf] at h
  | some fn =>
    simp only [hf, Bool.and_eq_true, Bool.not_eq_true'] at h
    obtain ⟨h1, h2⟩ := h
    obtain ⟨c, hc⟩ := Option.isSome_iff_exists.1 h2
    have h3 : ¬ fn.name = "runtime.NumGoroutine" := by simpa using h1
    simp [callFunc, hf, h3, hc]
def Env.evs (E : Env) : List Operand → Option (List Value)
  | [] => some []
  | x :: r => match Env.ev E x, Env.evs E r with
    | some v, some l => some (v :: l)
    | _, _ => none
theorem Rep.evs {a : Act} (ha : Rep n E a) : ∀ (ps : List Operand) (l : List Value), Env.evs E ps = some l → ps.map a.eval = l
  | [], l, h => by simp only [Env.evs, Option.some.injEq] at h; subst h; rfl
  | x :: r, l, h => by
    simp only [Env.evs] at h
    split at h
    · rename_i v l' hv hl
      simp only [Option.some.injEq] at h
      subst h
      simp only [List.map_cons, ha.ev hv, Rep.evs ha r l' hl]
    · cases h
theorem run_call {f : FuncId} {xs : List Operand} {l : List Value} {ats : Array TypeId} {a : Act} {w : World} (hf : callableB P f = true) (ha : Rep n E a) (hl : Env.evs E xs = some l) :
    (execOp a.eval ⟨d, .call ⟨.value (.func f), xs.toArray, ats⟩, ty, pos, aft, gd⟩).run P w = .ok (.enter f l.toArray) w := by
  have h1 : xs.toArray.map a.eval = l.toArray := by rw [← ha.evs xs l hl]; simp
  simp only [execOp, resolve, h1, Act.eval, Deferred.ofValue, Sem.run_bind, Sem.run_pure, Result.andThen, invoke]
  rw [show (#[] ++ l.toArray : Array Value) = l.toArray from Array.empty_append, Array.append_empty]
  exact run_callFunc hf _ _
theorem yl_call {f : FuncId} {xs : List Operand} {l : List Value} {ats : Array TypeId} (hf : callableB P f = true) (hl : Env.evs E xs = some l) (hc : ∀ w, Own w0 L w → Calls P f l.toArray w (Ret v w)) :
    Yl P w0 n L E ⟨d, .call ⟨.value (.func f), xs.toArray, ats⟩, ty, pos, aft, gd⟩ v := ⟨fun a w ha hw => by
  unfold calm
  rw [run_call hf ha hl]
  exact ⟨rfl, hc w hw⟩⟩
theorem jo_box {T : TypeId} {x : Operand} (hx : Env.ev E x = some v) (hg : guardB ops E gd = some true) (hd : dstOk n d = true)
    (h : ∀ b, JO P w0 n ops Q rest (Env.put E d (.pointer (some ⟨b, 0, none⟩))) (⟨b, v.cells, T⟩ :: L)) : JO P w0 n ops Q (⟨d, .box T x, ty, pos, aft, gd⟩ :: rest) E L :=
  jo_w (L' := Nat) (o := ⟨d, .box T x, ty, pos, aft, gd⟩) hg hd (fun b => .pointer (some ⟨b, 0, none⟩)) (fun b => ⟨b, v.cells, T⟩ :: L)
    (fun a w ha hw => ⟨w.heap.size, w.alloc (.cells v.cells T), .inl (by simp [execOp, ha.ev hx, Instr.box, newVar, newRow]), hw.alloc _ _⟩) h
theorem jo_alloc {T : TypeId} {z : Value} (hz : (P.info? T).bind (·.zero) = some z) (hg : guardB ops E gd = some true) (hd : dstOk n d = true)
    (h : ∀ b, JO P w0 n ops Q rest (Env.put E d (.pointer (some ⟨b, 0, none⟩))) (⟨b, z.cells, T⟩ :: L)) : JO P w0 n ops Q (⟨d, .alloc T, ty, pos, aft, gd⟩ :: rest) E L := by
  cases hi : P.info? T with
  | none => simp [hi] at hz
  | some i =>
    have hz' : i.zero = some z := by simpa [hi] using hz
    exact jo_w (L' := Nat) (o := ⟨d, .alloc T, ty, pos, aft, gd⟩) hg hd (fun b => .pointer (some ⟨b, 0, none⟩)) (fun b => ⟨b, z.cells, T⟩ :: L)
      (fun a w ha hw => ⟨w.heap.size, w.alloc (.cells z.cells T), .inl (by simp [execOp, Instr.alloc, zeroValue, typeInfo, hi, hz', newVar, newRow]), hw.alloc _ _⟩) h
def spl : Array Value → Nat → List Value → Array Value
  | cs, _, [] => cs
  | cs, k, v :: vs => spl (cs.setIfInBounds k v) (k + 1) vs
theorem spl_get : ∀ (vs : List Value) (cs : Array Value) (k i : Nat), k + vs.length ≤ cs.size → (spl cs k vs)[i]? = if k ≤ i ∧ i < k + vs.length then vs[i - k]? else cs[i]?
  | [], cs, k, i, _ => by rw [if_neg (by simp)]; rfl
  | v :: vs, cs, k, i, h => by
    have h' : k + (vs.length + 1) ≤ cs.size := h
    rw [spl, spl_get vs _ _ _ (by simp only [Array.size_setIfInBounds]; omega)]
    have hlen : (v :: vs).length = vs.length + 1 := rfl
    rw [hlen]
    by_cases h1 : k + 1 ≤ i ∧ i < k + 1 + vs.length
    · rw [if_pos h1, if_pos (by omega), show i - k = (i - (k + 1)) + 1 by omega]
      simp
    · rw [if_neg h1]
      by_cases h2 : i = k
      · subst h2
        rw [if_pos (by omega)]
        simp [show i < cs.size by omega]
      · rw [if_neg (by omega), Array.getElem?_setIfInBounds_ne (by omega)]
theorem spl_all {cs : Array Value} {vs : Array Value} (h : vs.size = cs.size) : spl cs 0 vs.toList = vs := by
  apply Array.ext_getElem?
  intro i
  rw [spl_get _ _ _ _ (by simp; omega)]
  simp only [Array.length_toList, Nat.zero_le, true_and, Nat.zero_add, Nat.sub_zero, Array.getElem?_toList]
  split
  · rfl
  · rw [Array.getElem?_eq_none (by omega), Array.getElem?_eq_none (by omega)]
theorem turned_set {w : World} {b k : Nat} {cs : Array Value} {T : TypeId} (h : w.heap[b]? = some (.cells cs T (0, 0))) (u : Value) : Turned b (cs.setIfInBounds k u) T w (w.setCell ⟨b, k, none⟩ u) :=
  ⟨rfl, rfl, rfl, by simp, rfl, fun j hj => heap_setCell_other _ _ _ _ hj, heap_setCell_same _ _ _ _ _ _ h⟩
theorem Turned.tr {b : Nat} {cs cs' : Array Value} {T : TypeId} {w w1 w2 : World} (h : Turned b cs T w w1) (k : Turned b cs' T w1 w2) : Turned b cs' T w w2 :=
  ⟨k.os.trans h.os, k.tape.trans h.tape, k.output.trans h.output, k.size.trans h.size, k.dr.trans h.dr, fun j hj => (k.block j hj).trans (h.block j hj), k.here⟩
theorem run_storeCells {b off : Nat} {T : TypeId} : ∀ (vs : List Value) (i : Nat) (cs : Array Value) (w : World), w.heap[b]? = some (.cells cs T (0, 0)) → off + i + vs.length ≤ cs.size → (∀ u ∈ vs, u.oneCell' = true) →
    ∃ w', (storeCells ⟨b, off, none⟩ vs i).run P w = .ok () w' ∧ Turned b (spl cs (off + i) vs) T w w'
  | [], i, cs, w, h, _, _ => ⟨w, by simp [storeCells], rfl, rfl, rfl, rfl, rfl, fun _ _ => rfl, h⟩
  | u :: vs, i, cs, w, h, hs, h1 => by
    simp only [List.length_cons] at hs
    have hlt : off + i < cs.size := by omega
    have hc : w.cell? ⟨b, off + i, none⟩ = some cs[off + i] := by rw [cell_block h, Array.getElem?_eq_getElem hlt]
    have hf : w.frozen? ⟨b, off + i, none⟩ = false := frozen_of_row _ _ _ _ _ h
    have ht := turned_set (k := off + i) h u
    obtain ⟨w', hr, ht'⟩ := run_storeCells (off := off) vs (i + 1) _ _ ht.here (by simp; omega) (fun x hx => h1 x (.tail _ hx))
    refine ⟨w', ?_, ?_⟩
    · simp only [storeCells, Sem.run_bind, addr_add, run_store P w _ u _ (h1 u (.head _)), hc, hf, Bool.false_eq_true, if_false, Result.andThen]
      exact hr
    · rw [spl]
      exact ht.tr ht'
theorem jo_store {T T0 : TypeId} {x y : Operand} {b off : Nat} {cs cs' : Array Value} {L' : List Blk} {u : Value} (k : Nat) (hx : Env.ev E x = some (.pointer (some ⟨b, off, none⟩))) (hy : Env.ev E y = some u) (hu : Upd b cs T0 cs' L L')
    (hk : (P.info? T).map (·.size) = some k) (hsz : u.cells.size = k) (hs : Nat.ble (off + k) cs.size = true) (h1 : u.cells.all (·.oneCell') = true) (hc : spl cs off u.cells.toList = cs')
    (hg : guardB ops E gd = some true) (hd : dstOk n d = true) (h : JO P w0 n ops Q rest (Env.put E d undef) L') : JO P w0 n ops Q (⟨d, .store T x y, ty, pos, aft, gd⟩ :: rest) E L := by
  refine jo_w (L' := Unit) (o := ⟨d, .store T x y, ty, pos, aft, gd⟩) hg hd (fun _ => undef) (fun _ => L') (fun a w ha hw => ?_) (fun _ => h)
  have hb := (hw.mem _ hu.mem).2
  have hs' := Nat.le_of_ble_eq_true hs
  obtain ⟨w', hr, ht⟩ := run_storeCells (P := P) (b := b) (off := off) u.cells.toList 0 cs w hb (by simp; omega) (fun q hq => Array.all_eq_true_iff_forall_mem.1 h1 q (Array.mem_toList_iff.1 hq))
  rw [Nat.add_zero, hc] at ht
  refine ⟨(), w', .inr ⟨?_, rfl⟩, hw.turn hu ht⟩
  simp [execOp, ha.ev hx, ha.ev hy, Instr.storeAt, Instr.sureAddr, storeVar, run_sizeOf hk, hsz, hr]
/-- A whole variable is turned. -/
theorem jo_storeW {T T0 : TypeId} {x y : Operand} {b : Nat} {cs cs' : Array Value} {L' : List Blk} (k : Nat) (hx : Env.ev E x = some (.pointer (some ⟨b, 0, none⟩))) (hy : Env.ev E y = some (.agg cs')) (hu : Upd b cs T0 cs' L L')
    (hk : (P.info? T).map (·.size) = some k) (hsz : cs'.size = k) (hs : cs.size = k) (h1 : cs'.all (·.oneCell') = true)
    (hg : guardB ops E gd = some true) (hd : dstOk n d = true) (h : JO P w0 n ops Q rest (Env.put E d undef) L') : JO P w0 n ops Q (⟨d, .store T x y, ty, pos, aft, gd⟩ :: rest) E L :=
  jo_store (u := .agg cs') k hx hy hu hk hsz (by rw [hs]; simp) h1 (spl_all (hsz.trans hs.symm)) hg hd h
theorem jx_ret_tmp {fn : Func} {R : Ending → World → Prop} {t : Tmp} (hres : fn.results = #[.tmp t]) (ht : Env.find E t = some v) (h : ∀ w, Own w0 L w → R (.returned v) w) : JX w0 n .ret (bodyPost P fn R) E L :=
  jx_ret (fun a w ha _ => by rw [results_tmp hres]; have := ha.val t v ht; simp [this]) h
theorem jx_ret_cell {fn : Func} {R : Ending → World → Prop} {t : Tmp} {T T0 : TypeId} {b off : Nat} {cs : Array Value} (hres : fn.results = #[.cell t T]) (ht : Env.find E t = some (.pointer (some ⟨b, off, none⟩))) (hm : (⟨b, cs, T0⟩ : Blk) ∈ L) (hv : LdV P T cs off v)
    (h : ∀ w, Own w0 L w → R (.returned v) w) : JX w0 n .ret (bodyPost P fn R) E L :=
  jx_ret (fun a w ha hw => by
    have h1 := ha.val t _ ht
    simp [results, hres, h1, asAddr, run_loadVar (hw.mem _ hm).2 hv]) h
/-- What one result variable holds. -/
def ResV (P : Program) (E : Env) (L : List Blk) (r : ResultVar) (v : Value) : Prop :=
  match r with
  | .tmp t => Env.find E t = some v
  | .cell t T => ∃ (b off : Nat) (cs : Array Value) (T0 : TypeId), Env.find E t = some (.pointer (some ⟨b, off, none⟩)) ∧ (⟨b, cs, T0⟩ : Blk) ∈ L ∧ LdV P T cs off v
theorem resv_tmp {t : Tmp} (h : Env.find E t = some v) : ResV P E L (.tmp t) v := h
theorem resv_cell {t : Tmp} {T T0 : TypeId} {b off : Nat} {cs : Array Value} (h : Env.find E t = some (.pointer (some ⟨b, off, none⟩))) (hm : (⟨b, cs, T0⟩ : Blk) ∈ L) (hv : LdV P T cs off v) : ResV P E L (.cell t T) v := ⟨b, off, cs, T0, h, hm, hv⟩
/-- A result variable as a list of facts, for the frame and the world at hand. -/
theorem resv_run {a : Act} {w : World} {r : ResultVar} (ha : Rep n E a) (hw : Own w0 L w) (h : ResV P E L r v) :
    (∃ t, r = .tmp t ∧ a.tmps[t]? = some v) ∨ (∃ t T p, r = .cell t T ∧ a.tmps[t]? = some (.pointer (some p)) ∧ (loadVar T p).run P w = .ok v w) := by
  cases r with
  | tmp t => exact .inl ⟨t, rfl, ha.val t v h⟩
  | cell t T =>
    obtain ⟨b, off, cs, T0, h1, hm, hv⟩ := h
    exact .inr ⟨t, T, _, rfl, ha.val t _ h1, run_loadVar (hw.mem _ hm).2 hv⟩
theorem jx_ret_two {fn : Func} {R : Ending → World → Prop} {r1 r2 : ResultVar} {v1 v2 : Value} (hres : fn.results = #[r1, r2]) (h1 : ResV P E L r1 v1) (h2 : ResV P E L r2 v2) (h : ∀ w, Own w0 L w → R (.returned (.tuple #[v1, v2])) w) : JX w0 n .ret (bodyPost P fn R) E L :=
  jx_ret (fun a w ha hw => by
    rcases resv_run ha hw h1 with ⟨t, rfl, e1⟩ | ⟨t, T, p, rfl, e1, f1⟩ <;> rcases resv_run ha hw h2 with ⟨u, rfl, e2⟩ | ⟨u, U, q, rfl, e2, f2⟩ <;> simp [results, hres, asAddr, Sem.run_bind, *]) h
theorem jx_ret_three {fn : Func} {R : Ending → World → Prop} {r1 r2 r3 : ResultVar} {v1 v2 v3 : Value} (hres : fn.results = #[r1, r2, r3]) (h1 : ResV P E L r1 v1) (h2 : ResV P E L r2 v2) (h3 : ResV P E L r3 v3) (h : ∀ w, Own w0 L w → R (.returned (.tuple #[v1, v2, v3])) w) : JX w0 n .ret (bodyPost P fn R) E L :=
  jx_ret (fun a w ha hw => by
    rcases resv_run ha hw h1 with ⟨t, rfl, e1⟩ | ⟨t, T, p, rfl, e1, f1⟩ <;> rcases resv_run ha hw h2 with ⟨u, rfl, e2⟩ | ⟨u, U, q, rfl, e2, f2⟩ <;> rcases resv_run ha hw h3 with ⟨z, rfl, e3⟩ | ⟨z, Z, q3, rfl, e3, f3⟩ <;> simp [results, hres, asAddr, Sem.run_bind, *]) h
theorem ret_ok {w : World} (hw : Own w0 L w) : Ret v w0 (.returned v) w := ⟨rfl, hw.ext⟩
end
end Go.Vt
/- A region that draws its order, under the program logic: operations that have one value in every world of the class, then allocations, then stores in a forced order: one walk of the text serves every order. Conditions: the closed check 'headB'. -/
set_option linter.unusedSimpArgs false
set_option linter.unusedVariables false
set_option maxHeartbeats 2000000
namespace Go.Vt
open Go.RowKit
section
variable {P : Program} {w0 : World} {n : Nat} {ops : Array Oper} {L : List Blk} {E : Env}
variable {Q : Exit → Act → World → Prop} {rest : List Oper} {v : Value}
/-- In state 'a' operation 'o' leaves 'v', in every world of the class. -/
def YieldsC (P : Program) (w0 : World) (L : List Blk) (ops : Array Oper) (o : Oper) (v : Value) (a : Act) : Prop :=
  (Region.wanted o (yielded ops a.tmps) = true ∧ ∀ w, Own w0 L w → calm P o a w v) ∨ (Region.wanted o (yielded ops a.tmps) = false ∧ v = undef)
theorem YieldsC.same {o : Oper} {a a' : Act} (hy : YieldsC P w0 L ops o v a) (he : execOp a'.eval o = execOp a.eval o) (hw : Region.wanted o (yielded ops a'.tmps) = Region.wanted o (yielded ops a.tmps)) : YieldsC P w0 L ops o v a' := by
  unfold YieldsC calm at *
  rw [he, hw]
  exact hy
/-- An allocation of a variable of type 'T'. -/
def isNew (o : Oper) : Option TypeId :=
  match o.op, o.guard, o.dst with
  | .alloc T, none, some _ => some T
  | _, _, _ => none
theorem isNew_spec {o : Oper} {T : TypeId} (h : isNew o = some T) : o.op = .alloc T ∧ o.guard = none ∧ ∃ d, o.dst = some d := by
  unfold isNew at h
  split at h
  · rename_i h1 h2 h3
    simp only [Option.some.injEq] at h
    subst h
    exact ⟨h1, h2, _, h3⟩
  · cases h
/-- Operation number 'i' comes up in the head: below 'm' it has one value, from 'm' on it is an allocation. -/
def hOp (P : Program) (w0 : World) (L : List Blk) (ops : Array Oper) (m : Nat) (i : Nat) (K : Act → Prop) (a : Act) : Prop :=
  match ops[i]? with
  | none => False
  | some o => if i < m then ∃ v, YieldsC P w0 L ops o v a ∧ K (a.put o.dst v) else ∀ b, K (a.put o.dst (.pointer (some ⟨b, 0, none⟩)))
/-- Whatever order the head is carried out in. 'k': the number of operations of the head. -/
def wpH (P : Program) (w0 : World) (L : List Blk) (ops : Array Oper) (m k : Nat) (F : Array Bool → Act → Prop) : Nat → Array Bool → Act → Prop
  | 0, listed, a => F listed a
  | f + 1, listed, a => Region.ready .any ops listed ≠ [] ∧ ∀ i ∈ Region.ready .any ops listed, i < k ∧ hOp P w0 L ops m i (wpH P w0 L ops m k F f (listed.setIfInBounds i true)) a
theorem hOp_mono {m i : Nat} {K K' : Act → Prop} {a : Act} (h : ∀ a, K a → K' a) (hh : hOp P w0 L ops m i K a) : hOp P w0 L ops m i K' a := by
  unfold hOp at *
  split at hh
  · exact hh.elim
  · split at hh
    · rename_i hlt
      rw [if_pos hlt]
      obtain ⟨v, h1, h2⟩ := hh
      exact ⟨v, h1, h _ h2⟩
    · rename_i hlt
      rw [if_neg hlt]
      exact fun b => h _ (hh b)
/-- What stands apart does not matter. -/
theorem hOp_put {m j : Nat} {oi oj : Oper} {v : Value} (hj : ops[j]? = some oj) (hap : oi.apart ops oj = true) (hsi : ∀ cs b, oi.op ≠ .select cs b) (hsj : ∀ cs b, oj.op ≠ .select cs b) {K : Act → Prop} {a : Act}
    (hy : YieldsC P w0 L ops oi v a) (h : hOp P w0 L ops m j K (a.put oi.dst v)) : hOp P w0 L ops m j (fun a' => YieldsC P w0 L ops oi v a' ∧ K (a'.put oi.dst v)) a := by
  obtain ⟨h1, h2, h3⟩ := Oper.apart_spec hap
  have keep : ∀ u, YieldsC P w0 L ops oi v (a.put oj.dst u) := fun u => hy.same (execOp_put oi hsi a oj.dst u h3) (wanted_put oi a oj.dst u h3)
  unfold hOp at *
  simp only [hj] at *
  split at h
  · rename_i hlt
    rw [if_pos hlt]
    obtain ⟨u, hu, hK⟩ := h
    refine ⟨u, hu.same ?_ ?_, keep u, by rw [← Act.put_comm a v u h2]; exact hK⟩
    · exact (execOp_put oj hsj a oi.dst v h1).symm
    · exact (wanted_put oj a oi.dst v h1).symm
  · rename_i hlt
    rw [if_neg hlt]
    exact fun b => ⟨keep _, by rw [← Act.put_comm a v _ h2]; exact h b⟩
theorem hOp_put_new {m j : Nat} {oi oj : Oper} {u : Value} (hmj : m ≤ j) (hj : ops[j]? = some oj) (hap : oi.apart ops oj = true) {K : Act → Prop} {a : Act}
    (h : hOp P w0 L ops m j K (a.put oi.dst u)) : hOp P w0 L ops m j (fun a' => K (a'.put oi.dst u)) a := by
  obtain ⟨h1, h2, h3⟩ := Oper.apart_spec hap
  unfold hOp at *
  simp only [hj] at *
  rw [if_neg (by omega)] at *
  exact fun b => by rw [← Act.put_comm a u _ h2]; exact h b
section
variable {m k i : Nat} {oi : Oper} {F : Array Bool → Act → Prop}
/-- An operation of the head that may come up now may be taken first. -/
theorem wpH_first (hi : ops[i]? = some oi) (hsel : ∀ (j : Nat) (o : Oper) cs b, ops[j]? = some o → o.op ≠ .select cs b)
    (hjk : ∀ listed, HeadInv .any ops k listed → listed.getD i true = false → ∀ j ∈ Region.ready .any ops listed, j < k) (him : i < m) (hdone : ∀ listed a, F listed a → ∀ j ∈ Region.ready .any ops listed, k ≤ j) :
    ∀ (f : Nat) (listed : Array Bool) (a : Act), HeadInv .any ops k listed →
      (∀ j oj, ops[j]? = some oj → j ≠ i → listed.getD j true = false → (∀ e ∈ oj.after, Region.binds .any e = true → e.on ≠ i) → oi.apart ops oj = true) →
      i ∈ Region.ready .any ops listed → YieldsC P w0 L ops oi v a →
      wpH P w0 L ops m k F f (listed.setIfInBounds i true) (a.put oi.dst v) → wpH P w0 L ops m k F (f + 1) listed a := by
  intro f
  induction f with
  | zero =>
    intro listed a inv _ hr hy H
    have hun := (mem_ready.1 hr).1
    refine ⟨fun h => (by rw [h] at hr; cases hr), fun j hj => ?_⟩
    have hjn : j < k := hjk listed inv hun j hj
    refine ⟨hjn, ?_⟩
    by_cases hji : j = i
    · subst hji
      unfold hOp
      simp only [hi]
      rw [if_pos him]
      exact ⟨v, hy, H⟩
    · have := hdone _ _ H j (ready_mono hj hji)
      omega
  | succ f ih =>
    intro listed a inv hfree hr hy H
    have hun := (mem_ready.1 hr).1
    refine ⟨fun h => (by rw [h] at hr; cases hr), fun j hj => ?_⟩
    have hjn : j < k := hjk listed inv hun j hj
    refine ⟨hjn, ?_⟩
    by_cases hji : j = i
    · subst hji
      unfold hOp
      simp only [hi]
      rw [if_pos him]
      exact ⟨v, hy, H⟩
    · have h1 := (H.2 j (ready_mono hj hji)).2
      obtain ⟨hjun, oj, hoj, hall⟩ := mem_ready.1 hj
      have hnot : ∀ e ∈ oj.after, Region.binds .any e = true → e.on ≠ i := fun e he hb heq => by
        have h1 := hall e he hb
        rw [heq, getD_both hun] at h1
        cases h1
      have h2 := hOp_put hoj (hfree j oj hoj hji hjun hnot) (fun cs b => hsel i oi cs b hi) (fun cs b => hsel j oj cs b hoj) hy h1
      have hfree' : ∀ q oq, ops[q]? = some oq → q ≠ i → (listed.setIfInBounds j true).getD q true = false →
          (∀ e ∈ oq.after, Region.binds .any e = true → e.on ≠ i) → oi.apart ops oq = true := fun q oq hq hqi hun' hno => by
        refine hfree q oq hq hqi ?_ hno
        by_cases hjq : j = q
        · subst hjq; exact hjun
        · rw [getD_set_ne true hjq] at hun'; exact hun'
      refine hOp_mono (fun a' h3 => ih (listed.setIfInBounds j true) a' (inv.set hj hjn) hfree' (ready_mono hr (Ne.symm hji)) h3.1 ?_) h2
      rw [Array.setIfInBounds_comm _ _ hji]
      exact h3.2
/-- An allocation, once all operations with one value have come up. -/
theorem wpH_new (hi : ops[i]? = some oi) (hjk : ∀ listed, HeadInv .any ops k listed → listed.getD i true = false → ∀ j ∈ Region.ready .any ops listed, j < k) (him : m ≤ i) (hdone : ∀ listed a, F listed a → ∀ j ∈ Region.ready .any ops listed, k ≤ j) :
    ∀ (f : Nat) (listed : Array Bool) (a : Act), HeadInv .any ops k listed → (∀ j, j < m → listed.getD j false = true) →
      (∀ j oj, ops[j]? = some oj → j ≠ i → listed.getD j true = false → (∀ e ∈ oj.after, Region.binds .any e = true → e.on ≠ i) → oi.apart ops oj = true) →
      i ∈ Region.ready .any ops listed →
      (∀ b, wpH P w0 L ops m k F f (listed.setIfInBounds i true) (a.put oi.dst (.pointer (some ⟨b, 0, none⟩)))) → wpH P w0 L ops m k F (f + 1) listed a := by
  intro f
  induction f with
  | zero =>
    intro listed a inv _ _ hr H
    have hun := (mem_ready.1 hr).1
    refine ⟨fun h => (by rw [h] at hr; cases hr), fun j hj => ?_⟩
    have hjn : j < k := hjk listed inv hun j hj
    refine ⟨hjn, ?_⟩
    by_cases hji : j = i
    · subst hji
      unfold hOp
      simp only [hi]
      rw [if_neg (by omega)]
      exact H
    · have := hdone _ _ (H 0) j (ready_mono hj hji)
      omega
  | succ f ih =>
    intro listed a inv hall0 hfree hr H
    have hun := (mem_ready.1 hr).1
    refine ⟨fun h => (by rw [h] at hr; cases hr), fun j hj => ?_⟩
    have hjn : j < k := hjk listed inv hun j hj
    refine ⟨hjn, ?_⟩
    by_cases hji : j = i
    · subst hji
      unfold hOp
      simp only [hi]
      rw [if_neg (by omega)]
      exact H
    · obtain ⟨hjun, oj, hoj, hall⟩ := mem_ready.1 hj
      have hmj : m ≤ j := by
        rcases Nat.lt_or_ge j m with h | h
        · have := hall0 j h
          rw [getD_both hjun] at this
          cases this
        · exact h
      have hnot : ∀ e ∈ oj.after, Region.binds .any e = true → e.on ≠ i := fun e he hb heq => by
        have h1 := hall e he hb
        rw [heq, getD_both hun] at h1
        cases h1
      have hap := hfree j oj hoj hji hjun hnot
      have h2 : ∀ b, hOp P w0 L ops m j (fun a' => wpH P w0 L ops m k F f ((listed.setIfInBounds i true).setIfInBounds j true) (a'.put oi.dst (.pointer (some ⟨b, 0, none⟩)))) a := fun b =>
        hOp_put_new hmj hoj hap ((H b).2 j (ready_mono hj hji)).2
      have hfree' : ∀ q oq, ops[q]? = some oq → q ≠ i → (listed.setIfInBounds j true).getD q true = false →
          (∀ e ∈ oq.after, Region.binds .any e = true → e.on ≠ i) → oi.apart ops oq = true := fun q oq hq hqi hun' hno => by
        refine hfree q oq hq hqi ?_ hno
        by_cases hjq : j = q
        · subst hjq; exact hjun
        · rw [getD_set_ne true hjq] at hun'; exact hun'
      unfold hOp
      simp only [hoj]
      rw [if_neg (by omega)]
      intro c
      refine ih (listed.setIfInBounds j true) _ (inv.set hj hjn) (fun q hq => getD_set_true (hall0 q hq)) hfree' (ready_mono hr (Ne.symm hji)) (fun b => ?_)
      have h3 := h2 b
      unfold hOp at h3
      simp only [hoj] at h3
      rw [if_neg (by omega)] at h3
      rw [Array.setIfInBounds_comm _ _ hji]
      exact h3 c
end
/-- What is known of the allocations that have come up. -/
structure News (ops : Array Oper) (w0w : World) (P : Program) (m k : Nat) (listed : Array Bool) (a : Act) (w : World) : Prop where
  new : ∀ j o T, m ≤ j → j < k → ops[j]? = some o → isNew o = some T → listed.getD j false = true →
    ∃ d b z, o.dst = some d ∧ a.tmps[d]? = some (.pointer (some ⟨b, 0, none⟩)) ∧ (P.info? T).bind (·.zero) = some z ∧ w0w.heap.size ≤ b ∧ w.heap[b]? = some (.cells z.cells T (0, 0))
  ne : ∀ j j' o o' d d' b b', m ≤ j → j < k → m ≤ j' → j' < k → j ≠ j' → ops[j]? = some o → ops[j']? = some o' → listed.getD j false = true → listed.getD j' false = true → o.dst = some d → o'.dst = some d' →
    a.tmps[d]? = some (.pointer (some ⟨b, 0, none⟩)) → a.tmps[d']? = some (.pointer (some ⟨b', 0, none⟩)) → b ≠ b'
/-- All destinations of the head differ, the allocations are allocations of types with a zero. -/
def dstsB (P : Program) (N : Nat) (ops : Array Oper) (m k : Nat) : Bool :=
  ((List.range k).all fun i => (List.range k).all fun j => i == j || (match (ops[i]?).bind (·.dst), (ops[j]?).bind (·.dst) with | some d, some e => d != e | _, _ => true)) &&
  (List.range k).all fun i => decide (i < m) || (match ops[i]? with
    | some o => (match isNew o with | some T => ((P.info? T).bind (·.zero)).isSome | none => false) && dstOk N o.dst
    | none => false)
theorem dstsB_ne {N m k i j : Nat} {oi oj : Oper} {d e : Tmp} (h : dstsB P N ops m k = true) (hi : i < k) (hj : j < k) (hij : i ≠ j) (hoi : ops[i]? = some oi) (hoj : ops[j]? = some oj) (hd : oi.dst = some d) (he : oj.dst = some e) : d ≠ e := by
  unfold dstsB at h
  simp only [Bool.and_eq_true, List.all_eq_true, List.mem_range] at h
  have := h.1 i hi j hj
  simp [hij, hoi, hoj, hd, he] at this
  exact this
theorem dstsB_new {N m k i : Nat} {o : Oper} (h : dstsB P N ops m k = true) (hi : i < k) (hm : m ≤ i) (ho : ops[i]? = some o) : ∃ T z, isNew o = some T ∧ (P.info? T).bind (·.zero) = some z ∧ dstOk N o.dst = true := by
  unfold dstsB at h
  simp only [Bool.and_eq_true, List.all_eq_true, List.mem_range] at h
  have := h.2 i hi
  simp only [show ¬ i < m by omega, decide_false, Bool.false_or, ho] at this
  cases hN : isNew o with
  | none => simp [hN] at this
  | some T =>
    simp only [hN, Bool.and_eq_true] at this
    obtain ⟨z, hz⟩ := Option.isSome_iff_exists.1 this.1
    exact ⟨T, z, rfl, hz, this.2⟩
/-- A step of the head, as it is run. -/
theorem wpAny_of_wpH {N m k g : Nat} {F : Array Bool → Act → Prop} {Wd : World} (hdB : dstsB P N ops m k = true)
    (hF : ∀ listed a w, F listed a → a.tmps.size = N → Own w0 L w → Ext Wd w → HeadInv .any ops k listed → News ops Wd P m k listed a w → wpAny P .any ops Q g listed a w) :
    ∀ (f : Nat) (listed : Array Bool) (a : Act) (w : World), a.tmps.size = N → Own w0 L w → Ext Wd w → HeadInv .any ops k listed → News ops Wd P m k listed a w → wpH P w0 L ops m k F f listed a → wpAny P .any ops Q (f + g) listed a w
  | 0, listed, a, w, hN, hw, hx, inv, hn, h => by rw [Nat.zero_add]; exact hF _ _ _ h hN hw hx inv hn
  | f + 1, listed, a, w, hN, hw, hx, inv, hn, h => by
    rw [show f + 1 + g = (f + g) + 1 by omega]
    refine ⟨fun h0 => absurd h0 h.1, fun i hi => ?_⟩
    obtain ⟨hik, ho⟩ := h.2 i hi
    obtain ⟨hiun, oi, hoi, _⟩ := mem_ready.1 hi
    have hlist : ∀ j, (listed.setIfInBounds i true).getD j false = true → j ≠ i → listed.getD j false = true := fun j hj hji => by
      rw [getD_set_ne false (Ne.symm hji)] at hj; exact hj
    unfold hOp at ho
    simp only [hoi] at ho
    unfold wpOp
    simp only [hoi]
    -- what the allocations of before look like behind the step
    have old : ∀ (u : Value) (w' : World), Ext w w' → i < m → News ops Wd P m k (listed.setIfInBounds i true) (a.put oi.dst u) w' := fun u w' hxw him => by
      have same : ∀ j o d, m ≤ j → j < k → ops[j]? = some o → o.dst = some d → (a.put oi.dst u).tmps[d]? = a.tmps[d]? := fun j o d hmj hjk hoj hd => by
        cases hid : oi.dst with
        | none => rfl
        | some e =>
          have hne : e ≠ d := dstsB_ne hdB hik hjk (by omega) hoi hoj hid hd
          simp [Act.put, Array.getElem?_setIfInBounds_ne hne]
      refine ⟨fun j o T hmj hjk hoj hT hl => ?_, fun j j' o o' d d' b b' h1 h2 h3 h4 h5 h6 h7 h8 h9 h10 h11 h12 h13 => ?_⟩
      · obtain ⟨d, b, z, hd, hv, hz, hb, hc⟩ := hn.new j o T hmj hjk hoj hT (hlist j hl (by omega))
        exact ⟨d, b, z, hd, by rw [same j o d hmj hjk hoj hd]; exact hv, hz, hb, by rw [hxw.block b (lt_of_block hc)]; exact hc⟩
      · rw [same j o d h1 h2 h6 h10] at h12
        rw [same j' o' d' h3 h4 h7 h11] at h13
        exact hn.ne j j' o o' d d' b b' h1 h2 h3 h4 h5 h6 h7 (hlist j h8 (by omega)) (hlist j' h9 (by omega)) h10 h11 h12 h13
    split at ho
    · rename_i him
      obtain ⟨v, hy, hK⟩ := ho
      rcases hy with ⟨hwt, hy⟩ | ⟨hwt, rfl⟩
      · rw [if_pos hwt]
        exact .inl (wp_of_calm (hy w hw) fun w' hxw => wpAny_of_wpH hdB hF f _ _ _ (by cases oi.dst <;> simpa [Act.put] using hN) (hw.to hxw) (hx.tr hxw) (inv.set hi hik) (old v w' hxw him) hK)
      · rw [if_neg (by rw [hwt]; simp)]
        exact wpAny_of_wpH hdB hF f _ _ _ (by cases oi.dst <;> simpa [Act.put] using hN) hw hx (inv.set hi hik) (old undef w (Ext.refl _) him) hK
    · rename_i him
      obtain ⟨T, z, hT, hz, hdo⟩ := dstsB_new hdB hik (by omega) hoi
      obtain ⟨hop, hgd, d, hd⟩ := isNew_spec hT
      have hwt : Region.wanted oi (yielded ops a.tmps) = true := by simp [Region.wanted, hgd]
      rw [if_pos hwt]
      have hdN : d < a.tmps.size := by rw [hN]; simpa [dstOk, hd, Nat.blt_eq] using hdo
      have hrun : (execOp a.eval oi).run P w = .ok (.value (.pointer (some ⟨w.heap.size, 0, none⟩))) (w.alloc (.cells z.cells T)) := by
        cases hinf : P.info? T with
        | none => simp [hinf] at hz
        | some ti =>
          have hz' : ti.zero = some z := by simpa [hinf] using hz
          obtain ⟨dst, op, ty, pos, aft, gd⟩ := oi
          simp only at hop
          subst hop
          simp [execOp, Instr.alloc, zeroValue, typeInfo, hinf, hz', newVar, newRow]
      refine .inl ?_
      unfold Oper.wp
      rw [hrun]
      have hxw : Ext w (w.alloc (.cells z.cells T)) := Ext.alloc _ _
      have hput : ∀ q, q ≠ d → (a.put oi.dst (.pointer (some ⟨w.heap.size, 0, none⟩))).tmps[q]? = a.tmps[q]? := fun q hq => by
        simp [Act.put, hd, Array.getElem?_setIfInBounds_ne (Ne.symm hq)]
      have hputd : (a.put oi.dst (.pointer (some ⟨w.heap.size, 0, none⟩))).tmps[d]? = some (.pointer (some ⟨w.heap.size, 0, none⟩)) := by simp [Act.put, hd, hdN]
      refine wpAny_of_wpH hdB hF f _ _ _ (by rw [hd]; simpa [Act.put] using hN) (hw.to hxw) (hx.tr hxw) (inv.set hi hik) ⟨fun j o T' hmj hjk hoj hT' hl => ?_, fun j j' o o' e e' b b' h1 h2 h3 h4 h5 h6 h7 h8 h9 h10 h11 h12 h13 => ?_⟩ (ho _)
      · by_cases hji : j = i
        · subst hji
          have : o = oi := Option.some.inj (hoj.symm.trans hoi)
          subst this
          have : T' = T := Option.some.inj (hT'.symm.trans hT)
          subst this
          exact ⟨d, w.heap.size, z, hd, hputd, hz, hx.size, heap_alloc_new _ _⟩
        · obtain ⟨e, b, z', he, hv, hz', hb, hc⟩ := hn.new j o T' hmj hjk hoj hT' (hlist j hl hji)
          exact ⟨e, b, z', he, by rw [hput e (dstsB_ne hdB hjk hik hji hoj hoi he hd)]; exact hv, hz', hb, by rw [hxw.block b (lt_of_block hc)]; exact hc⟩
      · have oldlt : ∀ q oq eq bq, m ≤ q → q < k → q ≠ i → ops[q]? = some oq → (listed.setIfInBounds i true).getD q false = true → oq.dst = some eq → (a.put oi.dst (.pointer (some ⟨w.heap.size, 0, none⟩))).tmps[eq]? = some (.pointer (some ⟨bq, 0, none⟩)) → bq < w.heap.size := fun q oq eq bq k1 k2 k3 k4 k5 k6 k7 => by
          obtain ⟨Tq, zq, hTq, _, _⟩ := dstsB_new hdB k2 k1 k4
          obtain ⟨e2, b2, z2, he2, hv2, _, _, hc2⟩ := hn.new q oq Tq k1 k2 k4 hTq (hlist q k5 k3)
          have : e2 = eq := Option.some.inj (he2.symm.trans k6)
          subst this
          rw [hput e2 (dstsB_ne hdB k2 hik k3 k4 hoi he2 hd), hv2] at k7
          simp only [Option.some.injEq, Value.pointer.injEq, Addr.mk.injEq] at k7
          rw [← k7.1]
          exact lt_of_block hc2
        by_cases hji : j = i
        · subst hji
          have : o = oi := Option.some.inj (h6.symm.trans hoi)
          subst this
          have : e = d := Option.some.inj (h10.symm.trans hd)
          subst this
          rw [hputd] at h12
          simp only [Option.some.injEq, Value.pointer.injEq, Addr.mk.injEq] at h12
          have := oldlt j' o' e' b' h3 h4 (Ne.symm h5) h7 h9 h11 h13
          omega
        · by_cases hji' : j' = i
          · subst hji'
            have : o' = oi := Option.some.inj (h7.symm.trans hoi)
            subst this
            have : e' = d := Option.some.inj (h11.symm.trans hd)
            subst this
            rw [hputd] at h13
            simp only [Option.some.injEq, Value.pointer.injEq, Addr.mk.injEq] at h13
            have := oldlt j o e b h1 h2 hji h6 h8 h10 h12
            omega
          · rw [hput e (dstsB_ne hdB h2 hik hji h6 hoi h10 hd)] at h12
            rw [hput e' (dstsB_ne hdB h4 hik hji' h7 hoi h11 hd)] at h13
            exact hn.ne j j' o o' e e' b b' h1 h2 h3 h4 h5 h6 h7 (hlist j h8 hji) (hlist j' h9 hji') h10 h11 h12 h13
/-- The operations of the head in the order of the text. -/
def JH (P : Program) (w0 : World) (n : Nat) (L : List Blk) (ops : Array Oper) (K : Env → Prop) : List Oper → Env → Prop
  | [], E => K E
  | o :: rest, E => ∃ v, ((guardB ops E o.guard = some true ∧ Yl P w0 n L E o v) ∨ (guardB ops E o.guard = some false ∧ v = undef)) ∧ dstOk n o.dst = true ∧ JH P w0 n L ops K rest (Env.put E o.dst v)
theorem jh_nil {K : Env → Prop} (h : K E) : JH P w0 n L ops K [] E := h
theorem jh_q {K : Env → Prop} {o : Oper} (hy : Yl P w0 n L E o v) (hg : guardB ops E o.guard = some true) (hd : dstOk n o.dst = true) (h : JH P w0 n L ops K rest (Env.put E o.dst v)) : JH P w0 n L ops K (o :: rest) E := ⟨v, .inl ⟨hg, hy⟩, hd, h⟩
theorem jh_skip {K : Env → Prop} {o : Oper} (hg : guardB ops E o.guard = some false) (hd : dstOk n o.dst = true) (h : JH P w0 n L ops K rest (Env.put E o.dst undef)) : JH P w0 n L ops K (o :: rest) E := ⟨undef, .inr ⟨hg, rfl⟩, hd, h⟩
/-- The allocations. -/
def JN (P : Program) (n : Nat) (K : Env → List Blk → Prop) : List Oper → Env → List Blk → Prop
  | [], E, L => K E L
  | o :: rest, E, L => ∃ T z, isNew o = some T ∧ (P.info? T).bind (·.zero) = some z ∧ ∀ b, JN P n K rest (Env.put E o.dst (.pointer (some ⟨b, 0, none⟩))) (⟨b, z.cells, T⟩ :: L)
theorem jn_nil {K : Env → List Blk → Prop} (h : K E L) : JN P n K [] E L := h
theorem jn_new {K : Env → List Blk → Prop} {o : Oper} {T : TypeId} {z : Value} (hT : isNew o = some T) (hz : (P.info? T).bind (·.zero) = some z) (h : ∀ b, JN P n K rest (Env.put E o.dst (.pointer (some ⟨b, 0, none⟩))) (⟨b, z.cells, T⟩ :: L)) : JN P n K (o :: rest) E L := ⟨T, z, hT, hz, h⟩
def allListed (listed : Array Bool) (k : Nat) : Prop := ∀ j, j < k → listed.getD j false = true
/-- The walk of the text, for a frame at hand. -/
def AH (P : Program) (w0 : World) (L : List Blk) (ops : Array Oper) (F : Act → Prop) : List Oper → Act → Prop
  | [], a => F a
  | o :: rest, a => ∃ v, YieldsC P w0 L ops o v a ∧ AH P w0 L ops F rest (a.put o.dst v)
def AN (F : Act → Prop) : List Oper → Act → Prop
  | [], a => F a
  | o :: rest, a => ∀ b, AN F rest (a.put o.dst (.pointer (some ⟨b, 0, none⟩)))
theorem ah_of_jh {K : Env → Prop} {F : Act → Prop} (hK : ∀ E a, Rep n E a → K E → F a) : ∀ (l : List Oper) (E : Env) (a : Act), Rep n E a → JH P w0 n L ops K l E → AH P w0 L ops F l a
  | [], E, a, ha, h => hK E a ha h
  | o :: rest, E, a, ha, ⟨v, hv, hd, h⟩ => by
    refine ⟨v, ?_, ah_of_jh hK rest _ _ (ha.put _ _ hd) h⟩
    rcases hv with ⟨hg, hy⟩ | ⟨hg, rfl⟩
    · exact .inl ⟨guardB_spec ha hg, fun w hw => hy.out a w ha hw⟩
    · exact .inr ⟨guardB_spec ha hg, rfl⟩
/-- The closed check of a region: 'm' operations with one value, then allocations up to 'k', then what comes in a forced order. -/
def lexK (ops : Array Oper) (g : Nat) : Nat → Nat → Array Bool → Bool
  | 0, k, listed => Region.seqB .any ops g k listed
  | f + 1, k, listed => (Region.ready .any ops listed).contains k && Region.free .any ops listed k && lexK ops g f (k + 1) (listed.setIfInBounds k true)
def headB (P : Program) (N : Nat) (ops : Array Oper) (m k : Nat) : Bool :=
  Region.noSelect ops && decide (m ≤ k) && (decide (k = ops.size) || (decide (k < ops.size) && Region.sinkB .any ops k && Region.chainB .any ops k)) && dstsB P N ops m k && lexK ops (ops.size - k) k 0 (Array.replicate ops.size false)
theorem wpH_lex {m k g : Nat} {F : Act → Prop} (hsel : Region.noSelect ops = true) (hmk : m ≤ k) (hks : k ≤ ops.size)
    (hjk : ∀ i, i < k → ∀ listed, HeadInv .any ops k listed → listed.getD i true = false → ∀ j ∈ Region.ready .any ops listed, j < k) :
    ∀ (d p : Nat) (listed : Array Bool) (a : Act), p + d = k → HeadInv .any ops k listed → allListed listed p → lexK ops g d p listed = true →
      (if p ≤ m then AH P w0 L ops (AN F ((ops.toList.take k).drop m)) ((ops.toList.take m).drop p) a else AN F ((ops.toList.take k).drop p) a) →
      wpH P w0 L ops m k (fun listed' a' => Region.seqB .any ops g k listed' = true ∧ allListed listed' k ∧ F a') d listed a
  | 0, p, listed, a, hp, _, hall, hB, h => by
    have hp' : p = k := by omega
    subst hp'
    refine ⟨by simpa [lexK] using hB, hall, ?_⟩
    split at h
    · rename_i hpm
      have : m = p := by omega
      subst this
      simpa [AH, AN] using h
    · simpa [AN] using h
  | d + 1, p, listed, a, hp, inv, hall, hB, h => by
    have hpk : p < k := by omega
    obtain ⟨o, ho⟩ : ∃ o, ops[p]? = some o := ⟨ops[p]'(by omega), by simp [show p < ops.size by omega]⟩
    simp only [lexK, Bool.and_eq_true] at hB
    obtain ⟨⟨hr, hf⟩, hB'⟩ := hB
    have hr' : p ∈ Region.ready .any ops listed := by simpa using hr
    have hall' : allListed (listed.setIfInBounds p true) (p + 1) := fun j hj => by
      by_cases hjp : p = j
      · subst hjp
        simp [show p < listed.size by rw [inv.size]; omega]
      · exact getD_set_true (hall j (by omega))
    have hdone : ∀ (listed' : Array Bool) (a' : Act), (Region.seqB .any ops g k listed' = true ∧ allListed listed' k ∧ F a') → ∀ j ∈ Region.ready .any ops listed', k ≤ j := fun _ _ hh => seqB_ready hh.1
    have hget : ops.toList[p]? = some o := by simpa using ho
    by_cases hpm : p < m
    · rw [if_pos (by omega)] at h
      have hcons : (ops.toList.take m).drop p = o :: (ops.toList.take m).drop (p + 1) := by
        rw [List.drop_eq_getElem_cons (by simp; omega)]
        congr 1
        rw [List.getElem_take]
        exact Option.some.inj (by rw [← hget]; simp [show p < ops.size by omega])
      rw [hcons] at h
      obtain ⟨v, hy, h⟩ := h
      exact wpH_first ho (Region.noSelect_spec hsel) (hjk p hpk) hpm hdone d listed a inv (Region.free_spec ho hf) hr' hy
        (wpH_lex hsel hmk hks hjk d (p + 1) _ _ (by omega) (inv.set hr' hpk) hall' hB' (by rw [if_pos (by omega)]; exact h))
    · have h' : AN F ((ops.toList.take k).drop p) a := by
        split at h
        · have : p = m := by omega
          subst this
          simpa [AH] using h
        · exact h
      have hcons : (ops.toList.take k).drop p = o :: (ops.toList.take k).drop (p + 1) := by
        rw [List.drop_eq_getElem_cons (by simp; omega)]
        congr 1
        rw [List.getElem_take]
        exact Option.some.inj (by rw [← hget]; simp [show p < ops.size by omega])
      rw [hcons] at h'
      exact wpH_new ho (hjk p hpk) (by omega) hdone d listed a inv (fun j hj => hall j (by omega)) (Region.free_spec ho hf) hr'
        (fun b => wpH_lex hsel hmk hks hjk d (p + 1) _ _ (by omega) (inv.set hr' hpk) hall' hB' (by rw [if_neg (by omega)]; exact h' b))
/-- Behind the allocations: the blocks that the frame names are there, in whatever order they came. -/
def Behind (P : Program) (w0 : World) (L : List Blk) (ops : Array Oper) (m k : Nat) (Wd : World) (Q : Exit → Act → World → Prop) (a : Act) : Prop :=
  ∀ listed w, allListed listed k → Own w0 L w → Ext Wd w → News ops Wd P m k listed a w → wpList P ops Q (ops.toList.drop k) a w
theorem an_of_jn {m k : Nat} {Wd : World} (hdB : dstsB P n ops m k = true) (hks : k ≤ ops.size) (hWd : Own w0 L Wd) :
    ∀ (d p : Nat) (E : Env) (A : List Blk) (a : Act), p + d = k → m ≤ p → Rep n E a →
      (∀ e ∈ A, ∃ j o dd, m ≤ j ∧ j < p ∧ ops[j]? = some o ∧ o.dst = some dd ∧ a.tmps[dd]? = some (.pointer (some ⟨e.b, 0, none⟩))) →
      (∀ listed w af, (∀ j o dd, m ≤ j → j < p → ops[j]? = some o → o.dst = some dd → af.tmps[dd]? = a.tmps[dd]?) → allListed listed k → Own w0 L w → Ext Wd w → News ops Wd P m k listed af w → Own w0 (A ++ L) w) →
      JN P n (fun E2 L2 => JO P w0 n ops Q (ops.toList.drop k) E2 L2) ((ops.toList.take k).drop p) E (A ++ L) → AN (Behind P w0 L ops m k Wd Q) ((ops.toList.take k).drop p) a
  | 0, p, E, A, a, hp, _, ha, _, hO, h => by
    have hp' : p = k := by omega
    subst hp'
    have hnil : (ops.toList.take p).drop p = [] := List.drop_eq_nil_of_le (by simp; omega)
    rw [hnil] at h ⊢
    intro listed w hall hw hx hn
    exact h.out a w ha (hO listed w a (fun _ _ _ _ _ _ _ => rfl) hall hw hx hn)
  | d + 1, p, E, A, a, hp, hmp, ha, hA, hO, h => by
    have hpk : p < k := by omega
    obtain ⟨o, ho⟩ : ∃ o, ops[p]? = some o := ⟨ops[p]'(by omega), by simp [show p < ops.size by omega]⟩
    have hget : ops.toList[p]? = some o := by simpa using ho
    have hcons : (ops.toList.take k).drop p = o :: (ops.toList.take k).drop (p + 1) := by
      rw [List.drop_eq_getElem_cons (by simp; omega)]
      congr 1
      rw [List.getElem_take]
      exact Option.some.inj (by rw [← hget]; simp [show p < ops.size by omega])
    rw [hcons] at h ⊢
    obtain ⟨T, z, hT, hz, h⟩ := h
    obtain ⟨T', z', hT', hz', hdo⟩ := dstsB_new hdB hpk hmp ho
    obtain ⟨_, _, dd, hdd⟩ := isNew_spec hT
    intro b
    have hlt : dd < a.tmps.size := by rw [ha.size]; simpa [dstOk, hdd, Nat.blt_eq] using hdo
    have hput : ∀ q, q ≠ dd → (a.put o.dst (.pointer (some ⟨b, 0, none⟩))).tmps[q]? = a.tmps[q]? := fun q hq => by
      simp [Act.put, hdd, Array.getElem?_setIfInBounds_ne (Ne.symm hq)]
    have hputd : (a.put o.dst (.pointer (some ⟨b, 0, none⟩))).tmps[dd]? = some (.pointer (some ⟨b, 0, none⟩)) := by simp [Act.put, hdd, hlt]
    have hne : ∀ j oj dj, m ≤ j → j < p → ops[j]? = some oj → oj.dst = some dj → dj ≠ dd := fun j oj dj h1 h2 h3 h4 => dstsB_ne hdB (by omega) hpk (by omega) h3 ho h4 hdd
    refine an_of_jn hdB hks hWd d (p + 1) _ (⟨b, z.cells, T⟩ :: A) _ (by omega) (by omega) (ha.put _ _ hdo) (fun e he => ?_) (fun listed w af hsame hall hw hx hn => ?_) (h b)
    · rcases List.mem_cons.1 he with rfl | he
      · exact ⟨p, o, dd, hmp, by omega, ho, hdd, hputd⟩
      · obtain ⟨j, oj, dj, h1, h2, h3, h4, h5⟩ := hA e he
        exact ⟨j, oj, dj, h1, by omega, h3, h4, by rw [hput dj (hne j oj dj h1 h2 h3 h4)]; exact h5⟩
    · have hold := hO listed w af (fun j oj dj h1 h2 h3 h4 => by rw [hsame j oj dj h1 (by omega) h3 h4, hput dj (hne j oj dj h1 h2 h3 h4)]) hall hw hx hn
      have hafd : af.tmps[dd]? = some (.pointer (some ⟨b, 0, none⟩)) := by rw [hsame p o dd hmp (by omega) ho hdd]; exact hputd
      obtain ⟨d2, b2, z2, hd2, hv2, hz2, hb2, hc2⟩ := hn.new p o T hmp hpk ho hT (hall p hpk)
      have e1 : d2 = dd := Option.some.inj (hd2.symm.trans hdd)
      subst e1
      rw [hafd] at hv2
      simp only [Option.some.injEq, Value.pointer.injEq, Addr.mk.injEq] at hv2
      obtain ⟨e2, _⟩ := hv2
      subst e2
      have e3 : z2 = z := Option.some.inj (hz2.symm.trans hz)
      subst e3
      refine ⟨hold.ext, fun e he => ?_, ?_⟩
      · rcases List.mem_cons.1 he with rfl | he
        · exact ⟨Nat.le_trans hWd.ext.size hb2, hc2⟩
        · exact hold.mem e he
      · show (b :: (A ++ L).map (·.b)).Nodup
        refine List.nodup_cons.2 ⟨fun hm => ?_, hold.nd⟩
        obtain ⟨e, he, heb⟩ := List.mem_map.1 hm
        rcases List.mem_append.1 he with he | he
        · obtain ⟨j, oj, dj, h1, h2, h3, h4, h5⟩ := hA e he
          have h6 : af.tmps[dj]? = some (.pointer (some ⟨e.b, 0, none⟩)) := by rw [hsame j oj dj h1 (by omega) h3 h4, hput dj (hne j oj dj h1 h2 h3 h4)]; exact h5
          exact hn.ne j p oj o dj d2 e.b b h1 (by omega) hmp hpk (by omega) h3 ho (hall j (by omega)) (hall p hpk) h4 hdd h6 hafd heb
        · have := hWd.lt he
          omega
theorem j_draw {id : Nat} {l : List Oper} (m k : Nat) (hm : P.follows .mixedOrders = true) (hB : headB P n l.toArray m k = true)
    (h : JH P w0 n L l.toArray (fun E' => JN P n (fun E2 L2 => JO P w0 n l.toArray Q (l.drop k) E2 L2) ((l.take k).drop m) E' L) (l.take m) E) : J P w0 n (.region id l.toArray true) Q E L := by
  refine ⟨fun a w ha hw => ?_⟩
  simp only [headB, Bool.and_eq_true, Bool.or_eq_true, decide_eq_true_eq] at hB
  obtain ⟨⟨⟨⟨hsel, hmk⟩, htl⟩, hdB⟩, hlex⟩ := hB
  have hks : k ≤ l.toArray.size := by rcases htl with h | h <;> omega
  have hks' : k ≤ l.length := by simpa using hks
  have hjk : ∀ i, i < k → ∀ listed, HeadInv .any l.toArray k listed → listed.getD i true = false → ∀ j ∈ Region.ready .any l.toArray listed, j < k := by
    intro i hik listed inv hun j hj
    rcases htl with h | ⟨⟨hlt, hs⟩, hc⟩
    · obtain ⟨_, o, ho, _⟩ := mem_ready.1 hj
      rw [h]
      exact (Array.getElem?_eq_some_iff.1 ho).1
    · rcases Nat.lt_or_ge j k with h | h
      · exact h
      · exact absurd hj (tail_waits hs hc hlt inv _ i rfl hik hun j h)
  have hw' : Own w0 L w.drew := hw.to (Ext.drew w)
  have inv0 : HeadInv .any l.toArray k (Array.replicate l.toArray.size false) :=
    ⟨by simp, fun j oj _ hl => (by rw [getD_replicate_false] at hl; cases hl), fun t _ ht => getD_in (by simpa using ht) (getD_replicate_false _ _)⟩
  have news0 : News l.toArray w.drew P m k (Array.replicate l.toArray.size false) a w.drew :=
    ⟨fun j o T _ _ _ _ hl => (by rw [getD_replicate_false] at hl; cases hl), fun j j' o o' d d' b b' _ _ _ _ _ _ _ hl => (by rw [getD_replicate_false] at hl; cases hl)⟩
  have H : wpH P w0 L l.toArray m k (fun listed' a' => Region.seqB .any l.toArray (l.toArray.size - k) k listed' = true ∧ allListed listed' k ∧ Behind P w0 L l.toArray m k w.drew Q a') k (Array.replicate l.toArray.size false) a := by
    refine wpH_lex hsel hmk hks hjk k 0 _ a (by omega) inv0 (fun j hj => by omega) hlex ?_
    rw [if_pos (by omega)]
    show AH P w0 L l.toArray (AN (Behind P w0 L l.toArray m k w.drew Q) ((l.take k).drop m)) ((l.take m).drop 0) a
    rw [List.drop_zero]
    refine ah_of_jh (n := n) (fun E' a' ha' hK => ?_) _ _ _ ha h
    exact an_of_jn (n := n) hdB hks hw' (k - m) m E' [] a' (by omega) (Nat.le_refl _) ha' (fun e he => by simp at he) (fun listed w af _ _ hw _ _ => hw) hK
  refine wp_region_any hm ?_
  have := wpAny_of_wpH (Q := Q) (N := n) (g := l.toArray.size - k) (Wd := w.drew) hdB (fun listed a' w' hF hN hw1 hx _ hn => by
    obtain ⟨hseq, hall, hb⟩ := hF
    have hdl : (l.drop k).length = l.toArray.size - k := by simp
    have := wpAny_of_seq (P := P) (md := .any) (ops := l.toArray) (Q' := Q) (l.drop k) k listed a' w' (fun j => by simp [List.getElem?_drop]) (by rw [hdl]; exact hseq) (hb listed w' hall hw1 hx hn)
    rwa [hdl] at this) k _ a w.drew ha.size hw' (Ext.refl _) inv0 news0 H
  rw [show k + (l.toArray.size - k) = l.toArray.size by omega] at this
  exact this
end
end Go.Vt
/- What the walk looks up: sizes, field offsets, what a load, a literal, a comparison and a call give. Conditions: those that each rule names. -/
set_option linter.unusedSimpArgs false
set_option linter.unusedVariables false
set_option maxHeartbeats 2000000
namespace Go.Vt
open Go.RowKit
/-- The block 'b' among the call's own holds 'cs'. -/
class MemC (b : Nat) (L : List Blk) (cs : outParam (Array Value)) (T : outParam TypeId) : Prop where
  out : (⟨b, cs, T⟩ : Blk) ∈ L
instance (priority := high) memHere (b : Nat) (L : List Blk) (cs : Array Value) (T : TypeId) : MemC b (⟨b, cs, T⟩ :: L) cs T := ⟨.head _⟩
instance (priority := low) memThere (b : Nat) (e : Blk) (L : List Blk) (cs : Array Value) (T : TypeId) [h : MemC b L cs T] : MemC b (e :: L) cs T := ⟨.tail _ h.out⟩
/-- The block 'b' among the call's own is turned to 'cs''. -/
class UpdC (b : Nat) (cs' : Array Value) (L : List Blk) (cs : outParam (Array Value)) (T : outParam TypeId) (L' : outParam (List Blk)) : Prop where
  out : Upd b cs T cs' L L'
instance (priority := high) updHere (b : Nat) (cs' : Array Value) (L : List Blk) (cs : Array Value) (T : TypeId) : UpdC b cs' (⟨b, cs, T⟩ :: L) cs T (⟨b, cs', T⟩ :: L) := ⟨.here⟩
instance (priority := low) updThere (b : Nat) (cs' : Array Value) (e : Blk) (L L' : List Blk) (cs : Array Value) (T : TypeId) [h : UpdC b cs' L cs T L'] : UpdC b cs' (e :: L) cs T (e :: L') := ⟨.there h.out⟩
class LdC (P : Program) (T : TypeId) (cs : Array Value) (off : Nat) (v : outParam Value) : Prop where
  out : LdV P T cs off v
class FaC (P : Program) (T : TypeId) (f : Nat) (off : outParam Nat) : Prop where
  out : ∀ b o w, (Instr.fieldAt T (.pointer (some ⟨b, o, none⟩)) f).run P w = .ok (.pointer (some ⟨b, o + off, none⟩)) w
/-- The field's offset, reckoned. -/
class FaO (P : Program) (T : TypeId) (f o : Nat) (o' : outParam Nat) : Prop where
  out : ∀ b w, (Instr.fieldAt T (.pointer (some ⟨b, o, none⟩)) f).run P w = .ok (.pointer (some ⟨b, o', none⟩)) w
instance (priority := low) faAny (P : Program) (T : TypeId) (f o off : Nat) [h : FaC P T f off] : FaO P T f o (o + off) := ⟨fun b w => h.out b o w⟩
class ZeroC (P : Program) (T : TypeId) (z : outParam Value) (cs : outParam (Array Value)) : Prop where
  out : (P.info? T).bind (·.zero) = some z
  cells : z.cells = cs
class SizeC (P : Program) (T : TypeId) (k : outParam Nat) : Prop where
  out : (P.info? T).map (·.size) = some k
class BdC (P : Program) (T : TypeId) (l : List (Nat × Value)) (v : outParam Value) : Prop where
  out : ∀ w, (Instr.build T l.toArray).run P w = .ok v w
class CallC (P : Program) (f : FuncId) : Prop where
  out : callableB P f = true
/-- A row of cells that fits a variable of 'k' cells. -/
class CsC (cs : Array Value) (k : outParam Nat) : Prop where
  size : cs.size = k
  one : cs.all (·.oneCell') = true
/-- What a binary operation gives. -/
class BinC (P : Program) (op : BinOp) (T : TypeId) (vx vy : Value) (v : outParam Value) : Prop where
  guard : ∀ x y w, (eqGuard op T x y vx vy).run P w = .ok () w
  run : ∀ w, (binOp op T vx vy).run P w = .ok v w
class UnC (P : Program) (op : UnOp) (vx : Value) (v : outParam Value) : Prop where
  out : ∀ w, (Op.unary op vx).run P w = .ok v w
/-- A component of a tuple. -/
class NthC (vs : Array Value) (i : Nat) (v : outParam Value) : Prop where
  out : vs[i]? = some v
instance nth20 (a b : Value) : NthC #[a, b] 0 a := ⟨rfl⟩
instance nth21 (a b : Value) : NthC #[a, b] 1 b := ⟨rfl⟩
instance nth30 (a b c : Value) : NthC #[a, b, c] 0 a := ⟨rfl⟩
instance nth31 (a b c : Value) : NthC #[a, b, c] 1 b := ⟨rfl⟩
instance nth32 (a b c : Value) : NthC #[a, b, c] 2 c := ⟨rfl⟩
/-- A contract: the value, and what is asked ahead of the call. -/
class SpecC (P : Program) (f : FuncId) (args : List Value) (v : outParam Value) (pre : outParam Prop) : Prop where
  out : pre → ∀ w, Calls P f args.toArray w (Ret v w)
section
variable {P : Program} {w0 : World} {n : Nat} {ops : Array Oper} {L L' : List Blk} {E : Env}
variable {Q : Exit → Act → World → Prop} {rest : List Oper} {v : Value}
variable {d : Option Tmp} {ty : TypeId} {pos : String} {aft : Array Edge} {gd : Option (Nat × Bool)}
theorem jx_id {e : Exit} (h : JX w0 n e Q E L) : JX w0 n e Q E L := h
/-- One operation with a value. -/
theorem jq {t : Tmp} {op : Op} (hy : Yl P w0 n L E ⟨some t, op, ty, pos, aft, gd⟩ v) (hg : guardB ops E gd = some true) (hd : Nat.blt t n = true) (h : JO P w0 n ops Q rest ((t, v) :: E) L) : JO P w0 n ops Q (⟨some t, op, ty, pos, aft, gd⟩ :: rest) E L := jo_q hy hg hd h
theorem jq_skip {t : Tmp} {op : Op} (hg : guardB ops E gd = some false) (hd : Nat.blt t n = true) (h : JO P w0 n ops Q rest ((t, undef) :: E) L) : JO P w0 n ops Q (⟨some t, op, ty, pos, aft, gd⟩ :: rest) E L := jo_skip hg hd h
/-- The same in the head of a region that draws its order. -/
theorem hq {K : Env → Prop} {t : Tmp} {op : Op} (hy : Yl P w0 n L E ⟨some t, op, ty, pos, aft, gd⟩ v) (hg : guardB ops E gd = some true) (hd : Nat.blt t n = true) (h : JH P w0 n L ops K rest ((t, v) :: E)) : JH P w0 n L ops K (⟨some t, op, ty, pos, aft, gd⟩ :: rest) E := jh_q hy hg hd h
theorem hq_skip {K : Env → Prop} {t : Tmp} {op : Op} (hg : guardB ops E gd = some false) (hd : Nat.blt t n = true) (h : JH P w0 n L ops K rest ((t, undef) :: E)) : JH P w0 n L ops K (⟨some t, op, ty, pos, aft, gd⟩ :: rest) E := jh_skip hg hd h
theorem wl_load {T T0 : TypeId} {x : Operand} {b off : Nat} {cs : Array Value} (hx : Env.ev E x = some (.pointer (some ⟨b, off, none⟩))) [hm : MemC b L cs T0] [hv : LdC P T cs off v] : Yl P w0 n L E ⟨d, .load T x, ty, pos, aft, gd⟩ v := yl_load hx hm.out hv.out
theorem wl_extract {x : Operand} {vs : Array Value} {i : Nat} (hx : Env.ev E x = some (.tuple vs)) [h : NthC vs i v] : Yl P w0 n L E ⟨d, .extract x i, ty, pos, aft, gd⟩ v := yl_extract hx h.out
theorem wl_pickT {c x y : Operand} (hc : Env.ev E c = some (.bool true)) (hx : Env.ev E x = some v) : Yl P w0 n L E ⟨d, .pick c x y, ty, pos, aft, gd⟩ v := ⟨fun a w ha _ => by
  unfold calm
  simp [execOp, ha.ev hx, ha.ev hc, Sem.run_pure, asBool, calmUpon, Ext.refl]⟩
theorem wl_pickF {c x y : Operand} (hc : Env.ev E c = some (.bool false)) (hy : Env.ev E y = some v) : Yl P w0 n L E ⟨d, .pick c x y, ty, pos, aft, gd⟩ v := ⟨fun a w ha _ => by
  unfold calm
  simp [execOp, ha.ev hy, ha.ev hc, Sem.run_pure, asBool, calmUpon, Ext.refl]⟩
theorem pkT {t : Tmp} {c x y : Operand} (hc : Env.ev E c = some (.bool true)) (hx : Env.ev E x = some v) (hg : guardB ops E gd = some true) (hd : Nat.blt t n = true) (h : JO P w0 n ops Q rest ((t, v) :: E) L) : JO P w0 n ops Q (⟨some t, .pick c x y, ty, pos, aft, gd⟩ :: rest) E L := jq (wl_pickT hc hx) hg hd h
theorem pkF {t : Tmp} {c x y : Operand} (hc : Env.ev E c = some (.bool false)) (hx : Env.ev E y = some v) (hg : guardB ops E gd = some true) (hd : Nat.blt t n = true) (h : JO P w0 n ops Q rest ((t, v) :: E) L) : JO P w0 n ops Q (⟨some t, .pick c x y, ty, pos, aft, gd⟩ :: rest) E L := jq (wl_pickF hc hx) hg hd h
theorem wl_faddr {T : TypeId} {x : Operand} {f b o o' : Nat} (hx : Env.ev E x = some (.pointer (some ⟨b, o, none⟩))) [h : FaO P T f o o'] : Yl P w0 n L E ⟨d, .fieldAddr T x f, ty, pos, aft, gd⟩ (.pointer (some ⟨b, o', none⟩)) := yl_faddr hx (h.out b)
theorem wl_build {T : TypeId} {ps : List (Nat × Operand)} {l : List (Nat × Value)} (hp : Env.evp E ps = some l) [h : BdC P T l v] : Yl P w0 n L E ⟨d, .build T ps.toArray, ty, pos, aft, gd⟩ v := yl_build hp h.out
theorem wl_bin {op : BinOp} {T T' : TypeId} {x y : Operand} {vx vy : Value} (hx : Env.ev E x = some vx) (hy : Env.ev E y = some vy) [h : BinC P op T vx vy v] : Yl P w0 n L E ⟨d, .binOp op T x y T', ty, pos, aft, gd⟩ v := yl_bin hx hy (h.guard x y) h.run
theorem wl_un {op : UnOp} {T : TypeId} {x : Operand} {vx : Value} (hx : Env.ev E x = some vx) [h : UnC P op vx v] : Yl P w0 n L E ⟨d, .unOp op T x, ty, pos, aft, gd⟩ v := yl_un hx h.out
theorem wl_call {f : FuncId} {xs : List Operand} {l : List Value} {ats : Array TypeId} {pre : Prop} (hl : Env.evs E xs = some l) [hf : CallC P f] [hs : SpecC P f l v pre] (hp : pre) :
    Yl P w0 n L E ⟨d, .call ⟨.value (.func f), xs.toArray, ats⟩, ty, pos, aft, gd⟩ v := yl_call hf.out hl (fun w _ => hs.out hp w)
theorem wl_callW {f : FuncId} {xs : List Operand} {l : List Value} {ats : Array TypeId} (hl : Env.evs E xs = some l) [hf : CallC P f] (hc : ∀ w, Own w0 L w → Calls P f l.toArray w (Ret v w)) :
    Yl P w0 n L E ⟨d, .call ⟨.value (.func f), xs.toArray, ats⟩, ty, pos, aft, gd⟩ v := yl_call hf.out hl hc
theorem wo_alloc {T : TypeId} {z : Value} {cs : Array Value} [hz : ZeroC P T z cs] {t : Tmp} (hg : guardB ops E gd = some true) (hd : Nat.blt t n = true)
    (h : ∀ b, JO P w0 n ops Q rest ((t, .pointer (some ⟨b, 0, none⟩)) :: E) (⟨b, cs, T⟩ :: L)) : JO P w0 n ops Q (⟨some t, .alloc T, ty, pos, aft, gd⟩ :: rest) E L := jo_alloc hz.out hg hd (by rw [hz.cells]; exact h)
theorem wo_box {T : TypeId} {x : Operand} {cs : Array Value} (hx : Env.ev E x = some (.agg cs)) {t : Tmp} (hg : guardB ops E gd = some true) (hd : Nat.blt t n = true)
    (h : ∀ b, JO P w0 n ops Q rest ((t, .pointer (some ⟨b, 0, none⟩)) :: E) (⟨b, cs, T⟩ :: L)) : JO P w0 n ops Q (⟨some t, .box T x, ty, pos, aft, gd⟩ :: rest) E L := jo_box hx hg hd h
theorem wo_boxI {T : TypeId} {x : Operand} {k : IntKind} {i : Int} (hx : Env.ev E x = some (.int k i)) {t : Tmp} (hg : guardB ops E gd = some true) (hd : Nat.blt t n = true)
    (h : ∀ b, JO P w0 n ops Q rest ((t, .pointer (some ⟨b, 0, none⟩)) :: E) (⟨b, #[Value.int k i], T⟩ :: L)) : JO P w0 n ops Q (⟨some t, .box T x, ty, pos, aft, gd⟩ :: rest) E L := jo_box hx hg hd h
theorem wo_store {T T0 : TypeId} {x y : Operand} {b k : Nat} {cs cs' : Array Value} (hx : Env.ev E x = some (.pointer (some ⟨b, 0, none⟩))) (hy : Env.ev E y = some (.agg cs')) [hk : SizeC P T k] [hc' : CsC cs' k] [hu : UpdC b cs' L cs T0 L'] [hc : CsC cs k]
    (hg : guardB ops E gd = some true) (h : JO P w0 n ops Q rest E L') : JO P w0 n ops Q (⟨none, .store T x y, ty, pos, aft, gd⟩ :: rest) E L :=
  jo_storeW k hx hy hu.out hk.out hc'.size hc.size hc'.one hg rfl h
theorem wn_new {K : Env → List Blk → Prop} {T : TypeId} {z : Value} {cs : Array Value} {t : Tmp} [hz : ZeroC P T z cs] (h : ∀ b, JN P n K rest ((t, .pointer (some ⟨b, 0, none⟩)) :: E) (⟨b, cs, T⟩ :: L)) : JN P n K (⟨some t, .alloc T, ty, pos, aft, none⟩ :: rest) E L :=
  jn_new (o := ⟨some t, .alloc T, ty, pos, aft, none⟩) rfl hz.out (by rw [hz.cells]; exact h)
/-- The result in a variable. -/
theorem wx_cell {fn : Func} {R : Ending → World → Prop} {t : Tmp} {T T0 : TypeId} {b : Nat} {cs : Array Value} (hres : fn.results = #[.cell t T]) (ht : Env.find E t = some (.pointer (some ⟨b, 0, none⟩))) [hm : MemC b L cs T0] [hv : LdC P T cs 0 v]
    (h : ∀ w, Own w0 L w → R (.returned v) w) : JX w0 n .ret (bodyPost P fn R) E L := jx_ret_cell hres ht hm.out hv.out h
theorem wr_cell {t : Tmp} {T T0 : TypeId} {b : Nat} {cs : Array Value} (h : Env.find E t = some (.pointer (some ⟨b, 0, none⟩))) [hm : MemC b L cs T0] [hv : LdC P T cs 0 v] : ResV P E L (.cell t T) v := resv_cell h hm.out hv.out
end
theorem beq_dec (a b : Int) : (a == b) = decide (a = b) := by rw [Bool.eq_iff_iff]; simp
theorem beq_decO (a b : Bool) : (a == b) = decide (a = b) := by cases a <;> cases b <;> rfl
theorem beq_decB (a b : ByteArray) : (a == b) = decide (a = b) := by
  obtain ⟨⟨x⟩⟩ := a
  obtain ⟨⟨y⟩⟩ := b
  show ((⟨x⟩ : Array UInt8) == ⟨y⟩) = _
  rw [Bool.eq_iff_iff]
  simp
/-- What a type is. -/
class UndC (P : Program) (T : TypeId) (d : outParam TypeDesc) : Prop where
  out : P.underlying T = some d
section
variable {P : Program} {T : TypeId}
instance bin_eql_int {k : IntKind} {a b : Int} : BinC P .eql T (.int k a) (.int k b) (.bool (decide (a = b))) := ⟨fun x y w => by rw [eqGuard_at_int]; rfl, fun w => by rw [binOp_eql, beq_dec]; rfl⟩
instance bin_neq_int {k : IntKind} {a b : Int} : BinC P .neq T (.int k a) (.int k b) (.bool (!decide (a = b))) := ⟨fun x y w => by rw [eqGuard_at_int]; rfl, fun w => by rw [binOp_neq, bne, beq_dec]; rfl⟩
instance bin_lss_int {k : IntKind} {a b : Int} : BinC P .lss T (.int k a) (.int k b) (.bool (decide (a < b))) := ⟨fun x y w => by rw [eqGuard_at_int]; rfl, fun w => by rw [binOp_lss]; simp⟩
instance bin_leq_int {k : IntKind} {a b : Int} : BinC P .leq T (.int k a) (.int k b) (.bool (decide (a ≤ b))) := ⟨fun x y w => by rw [eqGuard_at_int]; rfl, fun w => by rw [binOp_leq]; simp⟩
instance bin_gtr_int {k : IntKind} {a b : Int} : BinC P .gtr T (.int k a) (.int k b) (.bool (decide (b < a))) := ⟨fun x y w => by rw [eqGuard_at_int]; rfl, fun w => by rw [binOp_gtr]; simp⟩
instance bin_geq_int {k : IntKind} {a b : Int} : BinC P .geq T (.int k a) (.int k b) (.bool (decide (b ≤ a))) := ⟨fun x y w => by rw [eqGuard_at_int]; rfl, fun w => by rw [binOp_geq]; simp⟩
instance bin_eql_bool {a b : Bool} [h : UndC P T .bool] : BinC P .eql T (.bool a) (.bool b) (.bool (a == b)) := ⟨fun x y w => by rw [eqGuard_at_bool]; rfl, fun w => by
  simp only [binOp]
  simp [Op.equal, Op.maxDepth, run_equalIn_bool' w 9999 T a b h.out]⟩
instance bin_neq_bool {a b : Bool} [h : UndC P T .bool] : BinC P .neq T (.bool a) (.bool b) (.bool (a != b)) := ⟨fun x y w => by rw [eqGuard_at_bool]; rfl, fun w => by
  simp only [binOp]
  simp [Op.equal, Op.maxDepth, run_equalIn_bool' w 9999 T a b h.out, bne]⟩
instance bin_eql_string {a b : ByteArray} : BinC P .eql T (.string a) (.string b) (.bool (decide (a = b))) := ⟨fun x y w => by rw [eqGuard_at_string]; rfl, fun w => by simp [go_sem, ← beq_toListBytes, beq_decB]⟩
instance bin_neq_string {a b : ByteArray} : BinC P .neq T (.string a) (.string b) (.bool (!decide (a = b))) := ⟨fun x y w => by rw [eqGuard_at_string]; rfl, fun w => by simp [go_sem, ← beq_toListBytes, beq_decB]⟩
instance un_not {a : Bool} : UnC P .not (.bool a) (.bool (!a)) := ⟨fun w => by simp [go_sem]⟩
end
end Go.Vt
/- Integers, strings, slices and arrays under the program logic. Conditions: those that each rule names (ranges of integers, bounds of indexes). -/
set_option linter.unusedSimpArgs false
set_option linter.unusedVariables false
set_option maxHeartbeats 2000000
namespace Go.Vt
open Go.RowKit
section
variable {P : Program} {w0 : World} {n : Nat} {ops : Array Oper} {L L' : List Blk} {E : Env}
variable {Q : Exit → Act → World → Prop} {rest : List Oper} {v : Value}
variable {d : Option Tmp} {ty : TypeId} {pos : String} {aft : Array Edge} {gd : Option (Nat × Bool)}
variable {T T' : TypeId} {x y : Operand} {a b : Int}
theorem yl_arith {op : BinOp} {k : IntKind} {r : Int} (hx : Env.ev E x = some (.int k a)) (hy : Env.ev E y = some (.int k b)) (hr : ∀ w, (binOp op T (.int k a) (.int k b)).run P w = .ok (.int k r) w) : Yl P w0 n L E ⟨d, .binOp op T x y T', ty, pos, aft, gd⟩ (.int k r) :=
  yl_bin hx hy (fun w => by rw [eqGuard_at_int]; rfl) hr
theorem run_add (k : IntKind) (w : World) : (binOp .add T (.int k a) (.int k b)).run P w = .ok (.int k (k.wrap (a + b))) w := by simp [binOp_add, Op.intArith]
theorem run_sub (k : IntKind) (w : World) : (binOp .sub T (.int k a) (.int k b)).run P w = .ok (.int k (k.wrap (a - b))) w := by simp [binOp_sub, Op.intArith]
theorem run_mul (k : IntKind) (w : World) : (binOp .mul T (.int k a) (.int k b)).run P w = .ok (.int k (k.wrap (a * b))) w := by simp [binOp_mul, Op.intArith]
theorem run_quo (k : IntKind) (w : World) (h : b ≠ 0) : (binOp .quo T (.int k a) (.int k b)).run P w = .ok (.int k (k.wrap (a.tdiv b))) w := by simp [binOp_quo, Op.intDiv, h]
theorem run_rem (k : IntKind) (w : World) (h : b ≠ 0) : (binOp .rem T (.int k a) (.int k b)).run P w = .ok (.int k (a.tmod b)) w := by simp [binOp_rem, Op.intDiv, h]
/-- What an operation gives that wraps around. -/
class BinW (P : Program) (op : BinOp) (T : TypeId) (vx vy : Value) (v : outParam Value) : Prop where
  guard : ∀ x y w, (eqGuard op T x y vx vy).run P w = .ok () w
  run : ∀ w, (binOp op T vx vy).run P w = .ok v w
theorem wl_binW {op : BinOp} {vx vy : Value} (hx : Env.ev E x = some vx) (hy : Env.ev E y = some vy) [h : BinW P op T vx vy v] : Yl P w0 n L E ⟨d, .binOp op T x y T', ty, pos, aft, gd⟩ v := yl_bin hx hy (h.guard x y) h.run
instance bin_add {k : IntKind} : BinW P .add T (.int k a) (.int k b) (.int k (k.wrap (a + b))) := ⟨fun x y w => by rw [eqGuard_at_int]; rfl, run_add k⟩
instance bin_sub {k : IntKind} : BinW P .sub T (.int k a) (.int k b) (.int k (k.wrap (a - b))) := ⟨fun x y w => by rw [eqGuard_at_int]; rfl, run_sub k⟩
section
variable (hx : Env.ev E x = some (.int .i64 a)) (hy : Env.ev E y = some (.int .i64 b))
include hx hy
theorem wl_add64 (h : -9223372036854775808 ≤ a + b ∧ a + b ≤ 9223372036854775807) : Yl P w0 n L E ⟨d, .binOp .add T x y T', ty, pos, aft, gd⟩ (.int .i64 (a + b)) := yl_arith hx hy fun w => by rw [run_add, IntWalk.i64_in _ h]
theorem wl_sub64 (h : -9223372036854775808 ≤ a - b ∧ a - b ≤ 9223372036854775807) : Yl P w0 n L E ⟨d, .binOp .sub T x y T', ty, pos, aft, gd⟩ (.int .i64 (a - b)) := yl_arith hx hy fun w => by rw [run_sub, IntWalk.i64_in _ h]
theorem wl_mul64 (h : -9223372036854775808 ≤ a * b ∧ a * b ≤ 9223372036854775807) : Yl P w0 n L E ⟨d, .binOp .mul T x y T', ty, pos, aft, gd⟩ (.int .i64 (a * b)) := yl_arith hx hy fun w => by rw [run_mul, IntWalk.i64_in _ h]
theorem wl_quo64 (h : 0 ≤ a ∧ a ≤ 9223372036854775807 ∧ 1 ≤ b) : Yl P w0 n L E ⟨d, .binOp .quo T x y T', ty, pos, aft, gd⟩ (.int .i64 (a / b)) := yl_arith hx hy fun w => by rw [run_quo _ _ (by omega), IntWalk.i64_quo _ _ h]
theorem wl_rem64 (h : 0 ≤ a ∧ 1 ≤ b) : Yl P w0 n L E ⟨d, .binOp .rem T x y T', ty, pos, aft, gd⟩ (.int .i64 (a % b)) := yl_arith hx hy fun w => by rw [run_rem _ _ (by omega), IntWalk.rem_in _ _ h.1]
end
section
variable (hx : Env.ev E x = some (.int .u64 a)) (hy : Env.ev E y = some (.int .u64 b))
include hx hy
theorem wl_addu (h : 0 ≤ a + b ∧ a + b ≤ 18446744073709551615) : Yl P w0 n L E ⟨d, .binOp .add T x y T', ty, pos, aft, gd⟩ (.int .u64 (a + b)) := yl_arith hx hy fun w => by rw [run_add, IntWalk.u64_in _ h]
theorem wl_mulu (h : 0 ≤ a * b ∧ a * b ≤ 18446744073709551615) : Yl P w0 n L E ⟨d, .binOp .mul T x y T', ty, pos, aft, gd⟩ (.int .u64 (a * b)) := yl_arith hx hy fun w => by rw [run_mul, IntWalk.u64_in _ h]
theorem wl_quou (h : 0 ≤ a ∧ a ≤ 18446744073709551615 ∧ 1 ≤ b) : Yl P w0 n L E ⟨d, .binOp .quo T x y T', ty, pos, aft, gd⟩ (.int .u64 (a / b)) := yl_arith hx hy fun w => by rw [run_quo _ _ (by omega), IntWalk.u64_quo _ _ h]
theorem wl_remu (h : 0 ≤ a ∧ 1 ≤ b) : Yl P w0 n L E ⟨d, .binOp .rem T x y T', ty, pos, aft, gd⟩ (.int .u64 (a % b)) := yl_arith hx hy fun w => by rw [run_rem _ _ (by omega), IntWalk.rem_in _ _ h.1]
end
/-- A shift to the right or the left by an amount that is in range. -/
theorem wl_shr {k k' : IntKind} (hx : Env.ev E x = some (.int k a)) (hy : Env.ev E y = some (.int k' b)) (h : 0 ≤ b ∧ b ≤ k.bits) : Yl P w0 n L E ⟨d, .binOp .shr T x y T', ty, pos, aft, gd⟩ (.int k (a / 2 ^ b.toNat)) :=
  yl_bin hx hy (fun w => by rw [eqGuard_at_int]; rfl) (fun w => by rw [binOp_shr, shift_shr _ _ _ _ h.1 h.2]; rfl)
theorem wl_shl {k k' : IntKind} (hx : Env.ev E x = some (.int k a)) (hy : Env.ev E y = some (.int k' b)) (h : 0 ≤ b ∧ b ≤ k.bits) : Yl P w0 n L E ⟨d, .binOp .shl T x y T', ty, pos, aft, gd⟩ (.int k (k.wrap (a * 2 ^ b.toNat))) :=
  yl_bin hx hy (fun w => by rw [eqGuard_at_int]; rfl) (fun w => by rw [binOp_shl, shift_shl _ _ _ _ h.1 h.2]; rfl)
theorem wl_or {k : IntKind} (hx : Env.ev E x = some (.int k a)) (hy : Env.ev E y = some (.int k b)) : Yl P w0 n L E ⟨d, .binOp .or T x y T', ty, pos, aft, gd⟩ (.int k (bits .or k a b)) := yl_arith hx hy fun w => by rw [binOp_or, intBits_or]; rfl
theorem run_conv {S : TypeId} {k k' : IntKind} [hs : UndC P S (.int k)] [hd : UndC P T (.int k')] (w : World) : (convert S T (.int k a)).run P w = .ok (.int k' (k'.wrap a)) w := by
  have h1 : P.intKind T = k' := by simp [Program.intKind, hd.out]
  have := run_convert_int (P := P) w S T k a (by rw [hs.out]; rfl) (by rw [h1]; exact hd.out)
  rw [h1] at this
  exact this
theorem wl_cv {S : TypeId} {k k' : IntKind} [hs : UndC P S (.int k)] [hd : UndC P T (.int k')] (hx : Env.ev E x = some (.int k a)) : Yl P w0 n L E ⟨d, .convert S T x, ty, pos, aft, gd⟩ (.int k' (k'.wrap a)) := yl_conv hx run_conv
theorem wl_cv64 {S : TypeId} {k : IntKind} [hs : UndC P S (.int k)] [hd : UndC P T (.int .i64)] (hx : Env.ev E x = some (.int k a)) (h : -9223372036854775808 ≤ a ∧ a ≤ 9223372036854775807) : Yl P w0 n L E ⟨d, .convert S T x, ty, pos, aft, gd⟩ (.int .i64 a) := yl_conv hx fun w => by rw [run_conv (k' := .i64), IntWalk.i64_in _ h]
theorem wl_cvu {S : TypeId} {k : IntKind} [hs : UndC P S (.int k)] [hd : UndC P T (.int .u64)] (hx : Env.ev E x = some (.int k a)) (h : 0 ≤ a ∧ a ≤ 18446744073709551615) : Yl P w0 n L E ⟨d, .convert S T x, ty, pos, aft, gd⟩ (.int .u64 a) := yl_conv hx fun w => by rw [run_conv (k' := .u64), IntWalk.u64_in _ h]
theorem wl_cv32 {S : TypeId} {k : IntKind} [hs : UndC P S (.int k)] [hd : UndC P T (.int .u32)] (hx : Env.ev E x = some (.int k a)) (h : 0 ≤ a ∧ a ≤ 4294967295) : Yl P w0 n L E ⟨d, .convert S T x, ty, pos, aft, gd⟩ (.int .u32 a) := yl_conv hx fun w => by rw [run_conv (k' := .u32), IntWalk.u32_in _ h]
instance un_neg {k : IntKind} : UnC P .neg (.int k a) (.int k (k.wrap (-a))) := ⟨fun w => by simp [Op.unary, Op.intArith]⟩
theorem wl_len_str {S : TypeId} {s : ByteArray} [h : UndC P S .string] (hx : Env.ev E x = some (.string s)) : Yl P w0 n L E ⟨d, .call ⟨.builtin .len, #[x], #[S]⟩, ty, pos, aft, gd⟩ (.int .i64 s.size) := ⟨fun a w ha _ => by
  unfold calm
  simp [execOp, resolve, ha.ev hx, invoke, builtin, Builtin.len_, run_underlying h.out, goInt, calmUpon, Ext.refl]⟩
theorem wl_len_sl {S e : TypeId} {p : Option Addr} {l c : Nat} [h : UndC P S (.slice e)] (hx : Env.ev E x = some (.slice p l c)) : Yl P w0 n L E ⟨d, .call ⟨.builtin .len, #[x], #[S]⟩, ty, pos, aft, gd⟩ (.int .i64 l) := ⟨fun a w ha _ => by
  unfold calm
  simp [execOp, resolve, ha.ev hx, invoke, builtin, Builtin.len_, run_underlying h.out, goInt, calmUpon, Ext.refl]⟩
theorem wl_index_str {s : ByteArray} {i : Int} {u : UInt8} [h : UndC P T .string] (hx : Env.ev E x = some (.string s)) (hy : Env.ev E y = some (.int .i64 i)) (h0 : 0 ≤ i) (hu : s[i.toNat]? = some u) : Yl P w0 n L E ⟨d, .index T x y, ty, pos, aft, gd⟩ (.int .u8 u.toNat) :=
  yl_index hx hy fun w => by simp [Instr.index, asIntOf, run_underlying h.out, h0, hu]
/-- A row of integers of one kind. -/
def nums (k : IntKind) (xs : List Int) : Array Value := (xs.map (.int k)).toArray
theorem size_nums (k : IntKind) (xs : List Int) : (nums k xs).size = xs.length := by simp [nums]
theorem nums_get (k : IntKind) (xs : List Int) (i : Nat) : (nums k xs)[i]? = (xs[i]?).map (.int k) := by simp [nums]
theorem nums_set (k : IntKind) (xs : List Int) (i : Nat) (z : Int) : (nums k xs).setIfInBounds i (.int k z) = nums k (xs.set i z) := by
  simp [nums, List.map_set]
theorem nums_all (k : IntKind) (xs : List Int) : (nums k xs).all (·.oneCell') = true := by
  simp [nums, Value.oneCell']
theorem wl_iaddr_arr {N e s b off : Nat} {i : Int} [h : UndC P T (.array N e)] [hs : SizeC P e s] (hx : Env.ev E x = some (.pointer (some ⟨b, off, none⟩))) (hy : Env.ev E y = some (.int .i64 i)) (hi : 0 ≤ i ∧ i < N) :
    Yl P w0 n L E ⟨d, .indexAddr T x y, ty, pos, aft, gd⟩ (.pointer (some ⟨b, off + i.toNat * s, none⟩)) :=
  yl_iaddr hx hy fun w => by simp [Instr.indexAt, asIntOf, run_underlying h.out, Instr.sureAddr, hi.1, hi.2, run_sizeOf hs.out, addr_add]
theorem wl_iaddr_sl {e s b off l c : Nat} {i : Int} [h : UndC P T (.slice e)] [hs : SizeC P e s] (hx : Env.ev E x = some (.slice (some ⟨b, off, none⟩) l c)) (hy : Env.ev E y = some (.int .i64 i)) (hi : 0 ≤ i ∧ i < l) :
    Yl P w0 n L E ⟨d, .indexAddr T x y, ty, pos, aft, gd⟩ (.pointer (some ⟨b, off + i.toNat * s, none⟩)) :=
  yl_iaddr hx hy fun w => by simp [Instr.indexAt, asIntOf, run_underlying h.out, hi.1, hi.2, run_sizeOf hs.out, addr_add]
/-- One cell is read. -/
theorem wl_load1 {T0 : TypeId} {b off : Nat} {cs : Array Value} (hx : Env.ev E x = some (.pointer (some ⟨b, off, none⟩))) [hm : MemC b L cs T0] (ho : oneB P T = true) (hv : cs[off]? = some v) : Yl P w0 n L E ⟨d, .load T x, ty, pos, aft, gd⟩ v := yl_load hx hm.out (ldv_one ho hv)
theorem wo_storeN {T0 : TypeId} {b off : Nat} {k : IntKind} {xs : List Int} {z : Int} (hx : Env.ev E x = some (.pointer (some ⟨b, off, none⟩))) (hy : Env.ev E y = some (.int k z)) [hk : SizeC P T 1] [MemC b L (nums k xs) T0] (hs : off < xs.length) [hu : UpdC b (nums k (xs.set off z)) L (nums k xs) T0 L']
    (hg : guardB ops E gd = some true) (h : JO P w0 n ops Q rest E L') : JO P w0 n ops Q (⟨none, .store T x y, ty, pos, aft, gd⟩ :: rest) E L :=
  jo_store (u := .int k z) 1 hx hy hu.out hk.out rfl (Nat.ble_eq_true_of_le (by rw [size_nums]; omega)) (by simp [Value.cells, Value.oneCell']) (nums_set k xs off z) hg rfl h
/-- Bytes of a row of the call's own as a string. -/
theorem wl_str_bytes {S e b off l c : Nat} {T0 : TypeId} {cs : Array Value} {bs : List UInt8} [hs : UndC P S (.slice e)] [he : UndC P e (.int .u8)] [hd : UndC P T .string] (hx : Env.ev E x = some (.slice (some ⟨b, off, none⟩) l c)) [hm : MemC b L cs T0] (hl : bs.length = l)
    (hc : ∀ i u, bs[i]? = some u → cs[off + i]? = some (.int .u8 u.toNat)) : Yl P w0 n L E ⟨d, .convert S T x, ty, pos, aft, gd⟩ (.string ⟨bs.toArray⟩) :=
  yl_run (fun _ => convert S T (.slice (some ⟨b, off, none⟩) l c)) (fun a ha => by simp only [execOp, ha.ev hx]) (fun a w _ hw => by
    have hb := (hw.mem _ hm.out).2
    have := run_convert_bytes_arg (P := P) w S e hs.out he.out b off l c (bs.map fun u => (u.toNat : Int)) (by simpa using hl) (fun i hi => by
      rw [cell_block hb]
      have hi' : i < bs.length := by omega
      rw [hc i bs[i] (by simp [hi'])]
      simp [hi']) T hd.out
    rw [this]
    have e1 : strOfNums (bs.map fun u => (u.toNat : Int)) = ⟨bs.toArray⟩ := by
      unfold strOfNums
      congr 2
      rw [List.map_map]
      have : ∀ u ∈ bs, ((fun n : Int => UInt8.ofNat n.toNat) ∘ fun u : UInt8 => (u.toNat : Int)) u = id u := fun u _ => by simp
      rw [List.map_congr_left this, List.map_id]
    rw [e1])
/-- A slice of an array variable, from its beginning on. -/
theorem wl_slice_arr {N e b off s : Nat} {i : Int} [h : UndC P T (.array N e)] [hs : SizeC P e s] (hx : Env.ev E x = some (.pointer (some ⟨b, off, none⟩))) (hy : Env.ev E y = some (.int .i64 i)) (hi : 0 ≤ i ∧ i ≤ N) :
    Yl P w0 n L E ⟨d, .slice T x none (some y) none, ty, pos, aft, gd⟩ (.slice (some ⟨b, off, none⟩) i.toNat N) :=
  yl_run (fun _ => Instr.sliceAt T (.pointer (some ⟨b, off, none⟩)) none (some (.int .i64 i)) none) (fun a ha => by simp only [execOp, ha.ev hx, Option.map_none, Option.map_some, ha.ev hy]) (fun a w _ _ => by
    simp [Instr.sliceAt, run_underlying h.out, Instr.sureAddr, Instr.sliceBounds, Instr.sliceBound, asIntOf, hi.1, hi.2, run_sizeOf hs.out, Addr.add])
end
end Go.Vt
/- Slices of integers under the program logic: literals, make, copy, slicing; calls of the library that run at once. Conditions: those that each rule names. -/
set_option linter.unusedSimpArgs false
set_option linter.unusedVariables false
set_option maxHeartbeats 2000000
namespace Go.Vt
open Go.RowKit
/-- The bytes of one value of a type. -/
class BytesC (P : Program) (T : TypeId) (k : outParam Nat) : Prop where
  out : (P.info? T).map (·.bytes) = some k
/-- A literal of a slice type. -/
class BsC (P : Program) (T : TypeId) (len : Nat) (l : List (Nat × Value)) (cs : outParam (Array Value)) (e : outParam TypeId) : Prop where
  out : ∀ w, (Instr.buildSlice T len l.toArray).run P w = .ok (.slice (some ⟨w.heap.size, 0, none⟩) len len) (w.alloc (.cells cs e))
/-- A call that the model answers at once. -/
class ExtC (P : Program) (f : FuncId) (args : List Value) (v : outParam Value) (pre : outParam Prop) : Prop where
  out : pre → ∀ w, (callFunc f args.toArray).run P w = .ok (.value v) w
section
variable {P : Program} {w0 : World} {n : Nat} {ops : Array Oper} {L L' : List Blk} {E : Env}
variable {Q : Exit → Act → World → Prop} {rest : List Oper} {v : Value}
variable {d : Option Tmp} {ty : TypeId} {pos : String} {aft : Array Edge} {gd : Option (Nat × Bool)}
variable {T T' : TypeId} {x y : Operand} {a b : Int} {t : Tmp}
theorem wl_ext {f : FuncId} {xs : List Operand} {l : List Value} {ats : Array TypeId} {pre : Prop} (hl : Env.evs E xs = some l) [hs : ExtC P f l v pre] (hp : pre) :
    Yl P w0 n L E ⟨d, .call ⟨.value (.func f), xs.toArray, ats⟩, ty, pos, aft, gd⟩ v := ⟨fun a w ha _ => by
  have h1 : xs.toArray.map a.eval = l.toArray := by rw [← ha.evs xs l hl]; simp
  have h2 : (execOp a.eval ⟨d, .call ⟨.value (.func f), xs.toArray, ats⟩, ty, pos, aft, gd⟩).run P w = .ok (.value v) w := by
    simp only [execOp, resolve, h1, Act.eval, Deferred.ofValue, Sem.run_bind, Sem.run_pure, Result.andThen, invoke]
    rw [show (#[] ++ l.toArray : Array Value) = l.toArray from Array.empty_append, Array.append_empty]
    exact hs.out hp w
  unfold calm
  rw [h2]
  exact ⟨rfl, Ext.refl _⟩⟩
theorem wo_bslice {len : Nat} {ps : List (Nat × Operand)} {l : List (Nat × Value)} {cs : Array Value} {e : TypeId} (hp : Env.evp E ps = some l) [hb : BsC P T len l cs e] (hg : guardB ops E gd = some true) (hd : Nat.blt t n = true)
    (h : ∀ b, JO P w0 n ops Q rest ((t, .slice (some ⟨b, 0, none⟩) len len) :: E) (⟨b, cs, e⟩ :: L)) : JO P w0 n ops Q (⟨some t, .buildSlice T len ps.toArray, ty, pos, aft, gd⟩ :: rest) E L :=
  jo_w (L' := Nat) (o := ⟨some t, .buildSlice T len ps.toArray, ty, pos, aft, gd⟩) hg hd (fun b => .slice (some ⟨b, 0, none⟩) len len) (fun b => ⟨b, cs, e⟩ :: L)
    (fun a w ha hw => ⟨w.heap.size, w.alloc (.cells cs e), .inl (by
      have h1 : ps.toArray.map (fun (i, x) => (i, a.eval x)) = l.toArray := by rw [← ha.evp ps l hp]; simp
      simp only [execOp, h1, Sem.run_bind, hb.out, Result.andThen, Sem.run_pure]), hw.alloc _ _⟩) h
theorem zeros_row (m : Nat) (z : Value) : (Array.range m).map (fun i => ([z] : List Value)[i % 1]?.getD default) = Array.replicate m z := by
  apply Array.ext_getElem?
  intro i
  by_cases h : i < m
  · simp [h, Nat.mod_one]
  · simp [h]
theorem zeros_none (z : Value) : (Array.range 0).map (fun _ => z) = #[] := by rw [Array.range_zero']; simp
theorem run_make {e : TypeId} {B : Nat} {z : Value} {m : Nat} (hT : P.underlying T = some (.slice e)) (hz : (P.info? e).bind (·.zero) = some z) (hz1 : z.cells = #[z]) (hs : (P.info? e).map (·.size) = some 1) (hB : (P.info? e).map (·.bytes) = some B) (hm : B * m ≤ 281474976710656) (hm2 : m ≤ 281474976710656) (w : World) :
    (Instr.makeSlice T (.int .i64 m) (.int .i64 m)).run P w = .ok (.slice (some ⟨w.heap.size, 0, none⟩) m m) (w.alloc (.cells (Array.replicate m z) e)) := by
  cases hi : P.info? e with
  | none => simp [hi] at hz
  | some ti =>
    have hz' : ti.zero = some z := by simpa [hi] using hz
    have hs' : ti.size = 1 := by simpa [hi] using hs
    have hB' : ti.bytes = B := by simpa [hi] using hB
    have hw : IntKind.i64.wrap (m : Int) = m := IntWalk.i64_in _ (by omega)
    have h1 : ¬ ((m : Int) < 0) := by omega
    have h3 : ((B * m : Nat) : Int) ≤ ((281474976710656 : Nat) : Int) := Int.ofNat_le.mpr hm
    rw [Int.natCast_mul] at h3
    have h2 : ¬ (281474976710656 < (B : Int) * (m : Int)) := Int.not_lt.mpr h3
    have hw0 : IntKind.i64.wrap 0 = 0 := IntWalk.i64_in 0 (by omega)
    by_cases h0 : m = 0
    · subst h0
      simp [Instr.makeSlice, run_underlying hT, asInt, asIntOf, typeInfo, hi, hB', hw0, sizeOf, hs', newRow, zeros_none]
    · simp [Instr.makeSlice, run_underlying hT, asInt, asIntOf, typeInfo, hi, hB', hw, h1, h2, sizeOf, hs', h0, zeroValue, hz', hz1, newRow, zeros_row]
theorem wo_make {k : IntKind} {e : TypeId} {B : Nat} {m : Nat} [hT : UndC P T (.slice e)] [hz : ZeroC P e (.int k 0) #[.int k 0]] [hs : SizeC P e 1] [hB : BytesC P e B] (hx : Env.ev E x = some (.int .i64 m)) (hy : Env.ev E y = some (.int .i64 m)) (hm : B * m ≤ 281474976710656 ∧ m ≤ 281474976710656)
    (hg : guardB ops E gd = some true) (hd : Nat.blt t n = true)
    (h : ∀ b, JO P w0 n ops Q rest ((t, .slice (some ⟨b, 0, none⟩) m m) :: E) (⟨b, nums k (List.replicate m 0), e⟩ :: L)) : JO P w0 n ops Q (⟨some t, .makeSlice T x y, ty, pos, aft, gd⟩ :: rest) E L :=
  jo_w (L' := Nat) (o := ⟨some t, .makeSlice T x y, ty, pos, aft, gd⟩) hg hd (fun b => .slice (some ⟨b, 0, none⟩) m m) (fun b => ⟨b, nums k (List.replicate m 0), e⟩ :: L)
    (fun a w ha hw => ⟨w.heap.size, w.alloc (.cells (nums k (List.replicate m 0)) e), .inl (by
      have e1 : nums k (List.replicate m 0) = Array.replicate m (.int k 0) := by simp [nums]
      simp only [execOp, ha.ev hx, ha.ev hy, Sem.run_bind, run_make hT.out hz.out rfl hs.out hB.out hm.1 hm.2, Result.andThen, Sem.run_pure, e1]), hw.alloc _ _⟩) h
theorem spl_nums (k : IntKind) (xs ys : List Int) (h : ys.length ≤ xs.length) : spl (nums k xs) 0 (nums k ys).toList = nums k (ys ++ xs.drop ys.length) := by
  apply Array.ext_getElem?
  intro i
  rw [spl_get _ _ _ _ (by simp [nums]; omega)]
  simp only [nums, List.length_map, Nat.zero_le, true_and, Nat.zero_add, Nat.sub_zero, List.getElem?_map, List.getElem?_toArray]
  split
  · rename_i hi
    rw [List.getElem?_append_left hi]
  · rename_i hi
    rw [List.getElem?_append_right (by omega), List.getElem?_drop, show ys.length + (i - ys.length) = i by omega]
/-- A copy from the beginning of one row of the call's own to that of another one. -/
theorem wo_copy {k : IntKind} {S S2 e T1 T2 : TypeId} {b1 l1 c1 b2 l2 c2 : Nat} {xs ys : List Int} [hS : UndC P S (.slice e)] [hs : SizeC P e 1] (hx : Env.ev E x = some (.slice (some ⟨b1, 0, none⟩) l1 c1)) (hy : Env.ev E y = some (.slice (some ⟨b2, 0, none⟩) l2 c2))
    [MemC b1 L (nums k xs) T1] [hm2 : MemC b2 L (nums k ys) T2] (h1 : l1 ≤ xs.length) (h2 : l2 ≤ ys.length) [hu : UpdC b1 (nums k (ys.take (min l2 l1) ++ xs.drop (min l2 l1))) L (nums k xs) T1 L']
    (hg : guardB ops E gd = some true) (hd : Nat.blt t n = true) (h : JO P w0 n ops Q rest ((t, .int .i64 ((min l2 l1 : Nat) : Int)) :: E) L') : JO P w0 n ops Q (⟨some t, .call ⟨.builtin .copy, #[x, y], #[S, S2]⟩, ty, pos, aft, gd⟩ :: rest) E L := by
  refine jo_w (L' := Unit) (o := ⟨some t, .call ⟨.builtin .copy, #[x, y], #[S, S2]⟩, ty, pos, aft, gd⟩) hg hd (fun _ => .int .i64 ((min l2 l1 : Nat) : Int)) (fun _ => L') (fun a w ha hw => ?_) (fun _ => h)
  have hb1 := (hw.mem _ hu.out.mem).2
  have hb2 := (hw.mem _ hm2.out).2
  have hlen : (ys.take (min l2 l1)).length = min l2 l1 := by simp; omega
  have hld : (loadCells ⟨b2, 0, none⟩ (nums k (ys.take (min l2 l1))).toList.length).run P w = .ok (nums k (ys.take (min l2 l1))).toList.toArray w :=
    run_loadCells_list (P := P) w ⟨b2, 0, none⟩ _ (fun j u hju => by
      rw [addr_add, cell_block hb2, Nat.zero_add, nums_get]
      simp only [nums, List.getElem?_map] at hju
      rw [List.getElem?_take] at hju
      split at hju
      · exact hju
      · cases hju)
  have hll : (nums k (ys.take (min l2 l1))).toList.length = min l2 l1 := by simp [nums]; omega
  rw [hll, Array.toArray_toList] at hld
  obtain ⟨w', hr, ht⟩ := run_storeCells (P := P) (b := b1) (off := 0) (nums k (ys.take (min l2 l1))).toList 0 (nums k xs) w hb1 (by rw [hll, size_nums]; omega) (fun q hq => by
    have := nums_all k (ys.take (min l2 l1))
    exact Array.all_eq_true_iff_forall_mem.1 this q (Array.mem_toList_iff.1 hq))
  rw [Nat.add_zero, spl_nums k xs _ (by omega), hlen] at ht
  refine ⟨(), w', .inl ?_, hw.turn hu.out ht⟩
  have hmin : l2.min l1 = min l2 l1 := rfl
  simp [execOp, resolve, ha.ev hx, ha.ev hy, invoke, builtin, Builtin.copy_, run_underlying hS.out, Builtin.lenOf, Builtin.firstCells, run_sizeOf hs.out, hmin, hld, hr, goInt]
end
end Go.Vt
/- Rows of natural numbers, slices of slices, results in new memory, under the program logic. Conditions: those that each rule names. -/
set_option linter.unusedSimpArgs false
set_option linter.unusedVariables false
set_option maxHeartbeats 2000000
namespace Go.Vt
open Go.RowKit
/-- A row of natural numbers. -/
def dig (k : IntKind) (ds : List Nat) : Array Value := nums k (ds.map Int.ofNat)
theorem size_dig (k : IntKind) (ds : List Nat) : (dig k ds).size = ds.length := by simp [dig, size_nums]
theorem dig_get (k : IntKind) (ds : List Nat) (i : Nat) : (dig k ds)[i]? = (ds[i]?).map fun d => .int k (d : Int) := by
  rw [dig, nums_get, List.getElem?_map, Option.map_map]
  rfl
theorem dig_set (k : IntKind) (ds : List Nat) (i z : Nat) : nums k ((ds.map Int.ofNat).set i (z : Int)) = dig k (ds.set i z) := by
  rw [dig, List.map_set]
  rfl
theorem dig_zero (k : IntKind) (m : Nat) : nums k (List.replicate m 0) = dig k (List.replicate m 0) := by simp [dig]
/-- A call whose result lies in one new block. -/
def RetB (val : Nat → Value) (cs : Array Value) (T : TypeId) (w : World) (e : Ending) (w' : World) : Prop :=
  ∃ b, e = .returned (val b) ∧ w.heap.size ≤ b ∧ Ext w w' ∧ w'.heap[b]? = some (.cells cs T (0, 0))
section
variable {P : Program} {w0 : World} {n : Nat} {ops : Array Oper} {L L' : List Blk} {E : Env}
variable {Q : Exit → Act → World → Prop} {rest : List Oper} {v : Value}
variable {d : Option Tmp} {ty : TypeId} {pos : String} {aft : Array Edge} {gd : Option (Nat × Bool)}
variable {T T' : TypeId} {x y : Operand} {t : Tmp} {k : IntKind}
theorem wl_loadD {T0 : TypeId} {b off : Nat} {ds : List Nat} {z : Nat} [hu : UndC P T (.int k)] (hx : Env.ev E x = some (.pointer (some ⟨b, off, none⟩))) [hm : MemC b L (dig k ds) T0] (hv : ds[off]? = some z) : Yl P w0 n L E ⟨d, .load T x, ty, pos, aft, gd⟩ (.int k (z : Int)) :=
  wl_load1 hx (by simp [oneB, hu.out]) (by rw [dig_get, hv]; rfl)
theorem wl_loadDF {T0 : TypeId} {b off : Nat} {ds : List Nat} {z : Nat} {fz : Nat × Nat} [hu : UndC P T (.int k)] (hx : Env.ev E x = some (.pointer (some ⟨b, off, none⟩))) (hm : w0.heap[b]? = some (.cells (dig k ds) T0 fz)) (hv : ds[off]? = some z) : Yl P w0 n L E ⟨d, .load T x, ty, pos, aft, gd⟩ (.int k (z : Int)) :=
  yl_loadF hx hm (ldv_one (by simp [oneB, hu.out]) (by rw [dig_get, hv]; rfl))
theorem wo_storeD {T0 : TypeId} {b off : Nat} {ds : List Nat} {z : Nat} (hx : Env.ev E x = some (.pointer (some ⟨b, off, none⟩))) (hy : Env.ev E y = some (.int k (z : Int))) [hk : SizeC P T 1] [MemC b L (dig k ds) T0] (hs : off < ds.length) [hu : UpdC b (dig k (ds.set off z)) L (dig k ds) T0 L']
    (hg : guardB ops E gd = some true) (h : JO P w0 n ops Q rest E L') : JO P w0 n ops Q (⟨none, .store T x y, ty, pos, aft, gd⟩ :: rest) E L :=
  jo_store (u := .int k (z : Int)) 1 hx hy hu.out hk.out rfl (Nat.ble_eq_true_of_le (by rw [size_dig]; omega)) (by simp [Value.cells, Value.oneCell']) ((nums_set k _ off z).trans (dig_set k ds off z)) hg rfl h
theorem wo_makeD {e : TypeId} {B : Nat} {m : Nat} [UndC P T (.slice e)] [ZeroC P e (.int k 0) #[.int k 0]] [SizeC P e 1] [BytesC P e B] (hx : Env.ev E x = some (.int .i64 m)) (hy : Env.ev E y = some (.int .i64 m)) (hm : B * m ≤ 281474976710656 ∧ m ≤ 281474976710656)
    (hg : guardB ops E gd = some true) (hd : Nat.blt t n = true)
    (h : ∀ b, JO P w0 n ops Q rest ((t, .slice (some ⟨b, 0, none⟩) m m) :: E) (⟨b, dig k (List.replicate m 0), e⟩ :: L)) : JO P w0 n ops Q (⟨some t, .makeSlice T x y, ty, pos, aft, gd⟩ :: rest) E L :=
  wo_make (k := k) hx hy hm hg hd (by rw [dig_zero]; exact h)
theorem wo_copyD {S S2 e T1 T2 : TypeId} {b1 l1 c1 b2 l2 c2 : Nat} {xs ys : List Nat} [UndC P S (.slice e)] [SizeC P e 1] (hx : Env.ev E x = some (.slice (some ⟨b1, 0, none⟩) l1 c1)) (hy : Env.ev E y = some (.slice (some ⟨b2, 0, none⟩) l2 c2))
    [h1' : MemC b1 L (dig k xs) T1] [h2' : MemC b2 L (dig k ys) T2] (h1 : l1 ≤ xs.length) (h2 : l2 ≤ ys.length) [hu : UpdC b1 (dig k (ys.take (min l2 l1) ++ xs.drop (min l2 l1))) L (dig k xs) T1 L']
    (hg : guardB ops E gd = some true) (hd : Nat.blt t n = true) (h : JO P w0 n ops Q rest ((t, .int .i64 ((min l2 l1 : Nat) : Int)) :: E) L') : JO P w0 n ops Q (⟨some t, .call ⟨.builtin .copy, #[x, y], #[S, S2]⟩, ty, pos, aft, gd⟩ :: rest) E L := by
  haveI : MemC b1 L (nums k (xs.map Int.ofNat)) T1 := ⟨h1'.out⟩
  haveI : MemC b2 L (nums k (ys.map Int.ofNat)) T2 := ⟨h2'.out⟩
  haveI : UpdC b1 (nums k ((ys.map Int.ofNat).take (min l2 l1) ++ (xs.map Int.ofNat).drop (min l2 l1))) L (nums k (xs.map Int.ofNat)) T1 L' := ⟨by
    have := hu.out
    simp only [dig, List.map_append, List.map_take, List.map_drop] at this
    exact this⟩
  exact wo_copy (k := k) (xs := xs.map Int.ofNat) (ys := ys.map Int.ofNat) (T1 := T1) (T2 := T2) hx hy (by simpa using h1) (by simpa using h2) hg hd h
/-- A slice of a slice, from its beginning on. -/
theorem wl_slice_hi {e s b l c : Nat} {i : Int} [h : UndC P T (.slice e)] [hs : SizeC P e s] (hx : Env.ev E x = some (.slice (some ⟨b, 0, none⟩) l c)) (hy : Env.ev E y = some (.int .i64 i)) (hi : 0 ≤ i ∧ i ≤ c) :
    Yl P w0 n L E ⟨d, .slice T x none (some y) none, ty, pos, aft, gd⟩ (.slice (some ⟨b, 0, none⟩) i.toNat c) :=
  yl_run (fun _ => Instr.sliceAt T (.slice (some ⟨b, 0, none⟩) l c) none (some (.int .i64 i)) none) (fun a ha => by simp only [execOp, ha.ev hx, Option.map_none, Option.map_some, ha.ev hy]) (fun a w _ _ => by
    simp [Instr.sliceAt, Instr.slice, run_underlying h.out, Instr.sliceBounds, Instr.sliceBound, asIntOf, hi.1, hi.2, run_sizeOf hs.out, Addr.add])
/-- A call whose result lies in one new block. -/
theorem wo_callB {f : FuncId} {xs : List Operand} {l : List Value} {ats : Array TypeId} {val : Nat → Value} {cs : Array Value} {Tb : TypeId} (hl : Env.evs E xs = some l) [hf : CallC P f] (hc : ∀ w, Own w0 L w → Calls P f l.toArray w (RetB val cs Tb w))
    (hg : guardB ops E gd = some true) (hd : Nat.blt t n = true) (h : ∀ b, JO P w0 n ops Q rest ((t, val b) :: E) (⟨b, cs, Tb⟩ :: L)) : JO P w0 n ops Q (⟨some t, .call ⟨.value (.func f), xs.toArray, ats⟩, ty, pos, aft, gd⟩ :: rest) E L :=
  jo_c (S := Nat) (o := ⟨some t, .call ⟨.value (.func f), xs.toArray, ats⟩, ty, pos, aft, gd⟩) hg hd val (fun b => ⟨b, cs, Tb⟩ :: L) (fun _ _ ha => run_call hf.out ha hl)
    (fun w hw => (hc w hw).mono fun _ _ ⟨b, he, hb, hx, hh⟩ => ⟨b, he, hw.more hx hb hh⟩) h
theorem retB_ok {w : World} {b : Nat} {cs : Array Value} {Tb : TypeId} {val : Nat → Value} (hw : Own w0 L w) [hm : MemC b L cs Tb] : RetB val cs Tb w0 (.returned (val b)) w := ⟨b, rfl, (hw.mem _ hm.out).1, hw.ext, (hw.mem _ hm.out).2⟩
end
end Go.Vt
/- Calls that turn a block of the caller's own, under the program logic. Conditions: those that each rule names. -/
set_option linter.unusedSimpArgs false
set_option linter.unusedVariables false
set_option maxHeartbeats 2000000
namespace Go.Vt
open Go.RowKit
/-- A call that returns 'v' and leaves the caller's blocks as 'L''. -/
def RetO (v : Value) (w0 : World) (L' : List Blk) (e : Ending) (w' : World) : Prop := e = .returned v ∧ Own w0 L' w'
section
variable {P : Program} {w0 : World} {n : Nat} {ops : Array Oper} {L L' : List Blk} {E : Env}
variable {Q : Exit → Act → World → Prop} {rest : List Oper} {v : Value}
variable {ty : TypeId} {pos : String} {aft : Array Edge} {gd : Option (Nat × Bool)}
/-- A call's proof with blocks of the caller's own in hand. -/
theorem fn_own {f : FuncId} {fn : Func} {c : Code} {l : List Value} {w : World} {R : Ending → World → Prop} (hw : Own w0 L w) (hf : P.funcs[f]? = some fn) (hb : fn.body = some c) (hn : fn.ntmps = n) (hl : Nat.ble l.length n = true) [hE : EnvC l E]
    (h : J P w0 n c (bodyPost P fn R) E L) : Calls P f l.toArray w R := by
  rw [← hE.out] at h
  have hl' : l.length ≤ n := Nat.le_of_ble_eq_true hl
  refine calls_of_wp hf hb (h.out _ _ ⟨by simp [hn]; omega, rfl, fun k v hk => ?_⟩ hw)
  obtain ⟨_, h2⟩ := find_envOf l 0 k v hk
  have hlt : k < l.length := by
    rcases Nat.lt_or_ge k l.length with h' | h'
    · exact h'
    · simp [List.getElem?_eq_none h'] at h2
  simp only [Nat.sub_zero] at h2
  rw [Array.getElem?_append_left (by simpa using hlt)]
  simpa using h2
theorem retO_ok {w : World} (hw : Own w0 L' w) : RetO v w0 L' (.returned v) w := ⟨rfl, hw⟩
end
end Go.Vt
/- A region that draws its order, in which operations with one value may come behind stores and assignments: they may be taken first, if they look at no block that is stored to. Conditions: the closed check 'lateB'. -/
set_option linter.unusedSimpArgs false
set_option linter.unusedVariables false
set_option maxHeartbeats 2000000
namespace Go.Vt
open Go.RowKit
section
variable {P : Program} {w0 : World} {n : Nat} {ops : Array Oper} {L L' Lw : List Blk} {E : Env}
variable {Q : Exit → Act → World → Prop} {rest : List Oper} {v : Value} {Z : List Nat}
def Weak (w0 : World) (Lw L : List Blk) : Prop := ∀ w, Own w0 L w → Own w0 Lw w
theorem weak_sub (h : Lw.Sublist L) : Weak w0 Lw L := fun _ hw => hw.sub h
theorem YieldsC.weak {o : Oper} {a : Act} (hy : YieldsC P w0 Lw ops o v a) (hw : Weak w0 Lw L) : YieldsC P w0 L ops o v a := hy.imp (fun h => ⟨h.1, fun w h' => h.2 w (hw w h')⟩) id
/-- What an operation that turns memory or a variable comes to; calls too. -/
def Hap (P : Program) (r : Result Next) (K : Value → World → Prop) : Prop :=
  match r with
  | .ok (.value u) w' => K u w'
  | .ok .skip w' => K undef w'
  | .ok (.enter f args) w' => Calls P f args w' fun e w'' => ∃ u, e = .returned u ∧ K u w''
  | _ => False
theorem Hap.mono {r : Result Next} {K K' : Value → World → Prop} (h : Hap P r K) (hk : ∀ u w, K u w → K' u w) : Hap P r K' := by
  cases r with
  | ok x w' =>
    cases x <;> simp only [Hap] at h ⊢
    case value u => exact hk _ _ h
    case skip => exact hk _ _ h
    case enter f args => exact h.mono fun e w'' ⟨u, he, hK⟩ => ⟨u, he, hk _ _ hK⟩
  | halt x w' => exact h
theorem wp_of_hap {o : Oper} {a : Act} {w : World} {R : Act → World → Prop} (h : Hap P ((execOp a.eval o).run P w) fun u w' => R (a.put o.dst u) w') : o.wp P a w R Q := by
  unfold Oper.wp
  generalize (execOp a.eval o).run P w = r at *
  cases r with
  | ok x w' =>
    cases x <;> simp only [Hap] at h <;> simp only [Oper.upon]
    case value u => exact h
    case skip => exact h
    case enter f args => exact h.mono fun e w'' ⟨u, he, hK⟩ => by subst he; exact hK
  | halt x w' => simp only [Hap] at h
def Eff (P : Program) (w0 : World) (Lw : List Blk) (ops : Array Oper) (L : List Blk) (o : Oper) (a : Act) (K : List Blk → Value → Prop) : Prop :=
  Region.wanted o (yielded ops a.tmps) = true ∧ ∀ w, Own w0 L w → Hap P ((execOp a.eval o).run P w) fun u w' => ∃ L', Own w0 L' w' ∧ Weak w0 Lw L' ∧ K L' u
theorem Eff.mono {o : Oper} {a : Act} {K K' : List Blk → Value → Prop} (h : Eff P w0 Lw ops L o a K) (hk : ∀ L' u, Weak w0 Lw L' → K L' u → K' L' u) : Eff P w0 Lw ops L o a K' :=
  ⟨h.1, fun w hw => (h.2 w hw).mono fun u w' ⟨L', h2, h3, h4⟩ => ⟨L', h2, h3, hk _ _ h3 h4⟩⟩
/-- What an effect must leave: those of 'Z' come behind all else. -/
def lwZ (Z : List Nat) (i : Nat) (Lw : List Blk) : List Blk := if Z.contains i then [] else Lw
/-- Whatever order is drawn. 'es': the operations of the tail that are still to come, in their order. -/
def wpG (P : Program) (w0 : World) (ops : Array Oper) (Z : List Nat) (Lw : List Blk) (F : List Blk → Act → Prop) : Nat → Array Bool → List Nat → List Blk → Act → Prop
  | 0, listed, es, L, a => es = [] ∧ Region.ready .any ops listed = [] ∧ F L a
  | f + 1, listed, es, L, a => Region.ready .any ops listed ≠ [] ∧ ∀ i ∈ Region.ready .any ops listed, ∃ o, ops[i]? = some o ∧
      ((∃ v, YieldsC P w0 L ops o v a ∧ wpG P w0 ops Z Lw F f (listed.setIfInBounds i true) es L (a.put o.dst v)) ∨
       ∃ es', es = i :: es' ∧ Eff P w0 (lwZ Z i Lw) ops L o a fun L' u => wpG P w0 ops Z Lw F f (listed.setIfInBounds i true) es' L' (a.put o.dst u))
theorem wpG_first {i : Nat} {oi : Oper} {F : List Blk → Act → Prop} (hi : ops[i]? = some oi) (hsel : ∀ (j : Nat) (o : Oper) cs b, ops[j]? = some o → o.op ≠ .select cs b) (hZ : ∀ z o, Z.contains z = true → ops[z]? = some o → ∃ e ∈ o.after, Region.binds .any e = true ∧ e.on = i) :
    ∀ (f : Nat) (listed : Array Bool) (es : List Nat) (L : List Blk) (a : Act),
      (∀ j oj, ops[j]? = some oj → j ≠ i → listed.getD j true = false → (∀ e ∈ oj.after, Region.binds .any e = true → e.on ≠ i) → oi.apart ops oj = true) →
      i ∈ Region.ready .any ops listed → YieldsC P w0 Lw ops oi v a → Weak w0 Lw L →
      wpG P w0 ops Z Lw F f (listed.setIfInBounds i true) es L (a.put oi.dst v) → wpG P w0 ops Z Lw F (f + 1) listed es L a := by
  intro f
  induction f with
  | zero =>
    intro listed es L a _ hr hy hw H
    refine ⟨fun h => (by rw [h] at hr; cases hr), fun j hj => ?_⟩
    by_cases hji : j = i
    · subst hji
      exact ⟨oi, hi, .inl ⟨v, hy.weak hw, H⟩⟩
    · have := ready_mono hj hji
      rw [H.2.1] at this
      cases this
  | succ f ih =>
    intro listed es L a hfree hr hy hw H
    have hun := (mem_ready.1 hr).1
    refine ⟨fun h => (by rw [h] at hr; cases hr), fun j hj => ?_⟩
    by_cases hji : j = i
    · subst hji
      exact ⟨oi, hi, .inl ⟨v, hy.weak hw, H⟩⟩
    · obtain ⟨hjun, oj, hoj, hall⟩ := mem_ready.1 hj
      have hnot : ∀ e ∈ oj.after, Region.binds .any e = true → e.on ≠ i := fun e he hb heq => by
        have h1 := hall e he hb
        rw [heq, getD_both hun] at h1
        cases h1
      obtain ⟨h1, h2, h3⟩ := Oper.apart_spec (hfree j oj hoj hji hjun hnot)
      have hfree' : ∀ q oq, ops[q]? = some oq → q ≠ i → (listed.setIfInBounds j true).getD q true = false →
          (∀ e ∈ oq.after, Region.binds .any e = true → e.on ≠ i) → oi.apart ops oq = true := fun q oq hq hqi hun' hno => by
        refine hfree q oq hq hqi ?_ hno
        by_cases hjq : j = q
        · subst hjq; exact hjun
        · rw [getD_set_ne true hjq] at hun'; exact hun'
      have keep : ∀ u, YieldsC P w0 Lw ops oi v (a.put oj.dst u) := fun u => hy.same (execOp_put oi (fun cs b => hsel i oi cs b hi) a oj.dst u h3) (wanted_put oi a oj.dst u h3)
      have hex : execOp (a.put oi.dst v).eval oj = execOp a.eval oj := execOp_put oj (fun cs b => hsel j oj cs b hoj) a oi.dst v h1
      have hwa : Region.wanted oj (yielded ops (a.put oi.dst v).tmps) = Region.wanted oj (yielded ops a.tmps) := wanted_put oj a oi.dst v h1
      have step : ∀ es' L' u, Weak w0 Lw L' → wpG P w0 ops Z Lw F f ((listed.setIfInBounds i true).setIfInBounds j true) es' L' ((a.put oi.dst v).put oj.dst u) → wpG P w0 ops Z Lw F (f + 1) (listed.setIfInBounds j true) es' L' (a.put oj.dst u) := fun es' L' u hw' hh => by
        refine ih _ _ _ _ hfree' (ready_mono hr (Ne.symm hji)) (keep u) hw' ?_
        rw [Array.setIfInBounds_comm _ _ hji, ← Act.put_comm a v u h2]
        exact hh
      obtain ⟨o, ho, hH⟩ := H.2 j (ready_mono hj hji)
      have : o = oj := Option.some.inj (ho.symm.trans hoj)
      subst this
      refine ⟨o, ho, ?_⟩
      rcases hH with ⟨u, hu, hK⟩ | ⟨es', he, hE⟩
      · exact .inl ⟨u, hu.same hex.symm hwa.symm, step _ _ _ hw hK⟩
      · refine .inr ⟨es', he, hwa ▸ hE.1, fun w hw1 => ?_⟩
        have hH := hE.2 w hw1
        rw [hex] at hH
        have hz : lwZ Z j Lw = Lw := by
          unfold lwZ
          split
          · rename_i hc
            obtain ⟨e, he1, he2, he3⟩ := hZ j o hc hoj
            exact absurd he3 (hnot e he1 he2)
          · rfl
        exact hH.mono fun u w' ⟨L', h5, h6, h7⟩ => ⟨L', h5, h6, step _ _ _ (hz ▸ h6) h7⟩
/-- As it is run. -/
theorem wpAny_of_wpG {F : List Blk → Act → Prop} (hF : ∀ L a w, F L a → Own w0 L w → Q .normal a w) :
    ∀ (f : Nat) (listed : Array Bool) (es : List Nat) (L : List Blk) (a : Act) (w : World), Own w0 L w → wpG P w0 ops Z Lw F f listed es L a → wpAny P .any ops Q f listed a w
  | 0, listed, es, L, a, w, hw, h => ⟨h.2.1, hF _ _ _ h.2.2 hw⟩
  | f + 1, listed, es, L, a, w, hw, h => by
    refine ⟨fun h0 => absurd h0 h.1, fun i hi => ?_⟩
    obtain ⟨o, ho, hH⟩ := h.2 i hi
    unfold wpOp
    simp only [ho]
    rcases hH with ⟨v, hy, hK⟩ | ⟨es', _, hwt, hE⟩
    · rcases hy with ⟨hwt, hy⟩ | ⟨hwt, rfl⟩
      · rw [if_pos hwt]
        exact .inl (wp_of_calm (hy w hw) fun w' hx => wpAny_of_wpG hF f _ _ _ _ _ (hw.to hx) hK)
      · rw [if_neg (by rw [hwt]; simp)]
        exact wpAny_of_wpG hF f _ _ _ _ _ hw hK
    · rw [if_pos hwt]
      exact .inl (wp_of_hap ((hE w hw).mono fun u w' ⟨L', hw', _, hK⟩ => wpAny_of_wpG hF f _ _ _ _ _ hw' hK))
def seqE (ops : Array Oper) : List Nat → Array Bool → Bool
  | [], listed => (Region.ready .any ops listed).isEmpty
  | i :: es, listed => decide (Region.ready .any ops listed = [i]) && seqE ops es (listed.setIfInBounds i true)
def lexG (ops : Array Oper) (es : List Nat) : List Nat → Array Bool → Bool
  | [], listed => seqE ops es listed
  | h :: hs, listed => (Region.ready .any ops listed).contains h && Region.free .any ops listed h && lexG ops es hs (listed.setIfInBounds h true)
def lateB (ops : Array Oper) (hs es : List Nat) : Bool :=
  Region.noSelect ops && decide (hs.length + es.length = ops.size) && lexG ops es hs (Array.replicate ops.size false)
def EC (P : Program) (w0 : World) (ops : Array Oper) (Z : List Nat) (Lw : List Blk) (F : List Blk → Act → Prop) : List Nat → List Blk → Act → Prop
  | [], L, a => F L a
  | i :: es, L, a => ∃ o, ops[i]? = some o ∧ Eff P w0 (lwZ Z i Lw) ops L o a fun L' u => EC P w0 ops Z Lw F es L' (a.put o.dst u)
theorem wpG_of_ec {F : List Blk → Act → Prop} : ∀ (es : List Nat) (listed : Array Bool) (L : List Blk) (a : Act), seqE ops es listed = true → EC P w0 ops Z Lw F es L a → wpG P w0 ops Z Lw F es.length listed es L a
  | [], listed, L, a, hB, h => ⟨rfl, by simpa [seqE] using hB, h⟩
  | i :: es, listed, L, a, hB, h => by
    simp only [seqE, Bool.and_eq_true, decide_eq_true_eq] at hB
    refine ⟨by rw [hB.1]; simp, fun j hj => ?_⟩
    rw [hB.1] at hj
    have : j = i := by simpa using hj
    subst this
    obtain ⟨o, ho, hE⟩ := h
    exact ⟨o, ho, .inr ⟨es, rfl, hE.mono fun L' u _ hK => wpG_of_ec es _ _ _ hB.2 hK⟩⟩
/-- The operations at given places. -/
def picks (l : List Oper) : List Nat → List Oper
  | [] => []
  | i :: is => match l[i]? with
    | some o => o :: picks l is
    | none => []
/-- The effects of 'Z' wait for each of 'hs'. -/
def zB (ops : Array Oper) (Z hs : List Nat) : Bool := Z.all fun z => match ops[z]? with
  | some o => hs.all fun h => o.after.any fun e => Region.binds .any e && Nat.beq e.on h
  | none => true
theorem zB_spec {Z hs : List Nat} (h : zB ops Z hs = true) {i : Nat} (hi : i ∈ hs) : ∀ z o, Z.contains z = true → ops[z]? = some o → ∃ e ∈ o.after, Region.binds .any e = true ∧ e.on = i := fun z o hz ho => by
  have h1 := List.all_eq_true.1 h z (by simpa using hz)
  simp only [ho] at h1
  have h2 := List.all_eq_true.1 h1 i hi
  obtain ⟨e, he, h3⟩ := Array.any_eq_true'.1 h2
  simp only [Bool.and_eq_true] at h3
  exact ⟨e, he, h3.1, Nat.eq_of_beq_eq_true h3.2⟩
theorem wpG_of_ah {l : List Oper} {F : List Blk → Act → Prop} {es : List Nat} (hsel : Region.noSelect l.toArray = true) (hw : Weak w0 Lw L) : ∀ (hs : List Nat) (listed : Array Bool) (a : Act), zB l.toArray Z hs = true → lexG l.toArray es hs listed = true →
    AH P w0 Lw l.toArray (EC P w0 l.toArray Z Lw F es L) (picks l hs) a → wpG P w0 l.toArray Z Lw F (hs.length + es.length) listed es L a
  | [], listed, a, _, hB, h => by
    rw [List.length_nil, Nat.zero_add]
    exact wpG_of_ec es listed L a hB h
  | i :: hs, listed, a, hz, hB, h => by
    have hz' : zB l.toArray Z hs = true := by
      refine List.all_eq_true.2 fun z hzz => ?_
      have h1 := List.all_eq_true.1 hz z hzz
      cases ho : l.toArray[z]? with
      | none => rfl
      | some o =>
        simp only [ho] at h1
        exact List.all_eq_true.2 fun x hx => List.all_eq_true.1 h1 x (.tail _ hx)
    simp only [lexG, Bool.and_eq_true] at hB
    obtain ⟨⟨hr, hf⟩, hB'⟩ := hB
    have hr' : i ∈ Region.ready .any l.toArray listed := by simpa using hr
    obtain ⟨_, o, ho, _⟩ := mem_ready.1 hr'
    have ho' : l[i]? = some o := by simpa using ho
    simp only [picks, ho', AH] at h
    obtain ⟨v, hy, h⟩ := h
    rw [show (i :: hs).length + es.length = (hs.length + es.length) + 1 by simp only [List.length_cons]; omega]
    exact wpG_first ho (Region.noSelect_spec hsel) (zB_spec hz (.head _)) _ _ _ _ _ (Region.free_spec ho hf) hr' hy hw (wpG_of_ah hsel hw hs _ _ hz' hB' h)
/-- The operations of the tail. -/
def JE (P : Program) (w0 : World) (n : Nat) (ops : Array Oper) (Lw : List Blk) (K : Env → List Blk → Prop) : List Oper → Env → List Blk → Prop
  | [], E, L => K E L
  | o :: rest, E, L => guardB ops E o.guard = some true ∧ dstOk n o.dst = true ∧ ∃ (S : Type) (val : S → Value) (mem : S → List Blk),
      (∀ a w, Rep n E a → Own w0 L w → Hap P ((execOp a.eval o).run P w) fun u w' => ∃ s, u = val s ∧ Own w0 (mem s) w') ∧
      (∀ s, Weak w0 Lw (mem s)) ∧ ∀ s, JE P w0 n ops Lw K rest (Env.put E o.dst (val s)) (mem s)
theorem ec_of_je {l : List Oper} {Lj : List Blk} {K : Env → List Blk → Prop} {F : List Blk → Act → Prop} (hK : ∀ E L a, Rep n E a → K E L → F L a) : ∀ (es : List Nat) (E : Env) (L : List Blk) (a : Act), es.all (fun i => decide (i < l.length)) = true → (∀ i ∈ es, lwZ Z i Lw = Lj) → Rep n E a →
    JE P w0 n l.toArray Lj K (picks l es) E L → EC P w0 l.toArray Z Lw F es L a
  | [], E, L, a, _, _, ha, h => hK E L a ha h
  | i :: es, E, L, a, hi, hz, ha, h => by
    simp only [List.all_cons, Bool.and_eq_true, decide_eq_true_eq] at hi
    have ho : l[i]? = some l[i] := List.getElem?_eq_getElem hi.1
    simp only [picks, ho] at h
    obtain ⟨hg, hd, S, val, mem, hy, hw, h⟩ := h
    refine ⟨l[i], by simp [hi.1], guardB_spec ha hg, fun w hw1 => ?_⟩
    exact (hy a w ha hw1).mono fun u w' ⟨s, hu, hw'⟩ => ⟨mem s, hw', by rw [hz i (.head _)]; exact hw s, by subst hu; exact ec_of_je hK es _ _ _ hi.2 (fun j hj => hz j (.tail _ hj)) (ha.put _ _ hd) (h s)⟩
theorem ec_app {F : List Blk → Act → Prop} (es2 : List Nat) : ∀ (es1 : List Nat) (L : List Blk) (a : Act), EC P w0 ops Z Lw (fun L a => EC P w0 ops Z Lw F es2 L a) es1 L a → EC P w0 ops Z Lw F (es1 ++ es2) L a
  | [], _, _, h => h
  | _ :: es1, _, _, ⟨o, ho, h⟩ => ⟨o, ho, h.mono fun _ _ _ hK => ec_app es2 es1 _ _ hK⟩
theorem j_late2 {id : Nat} {l : List Oper} (hs es1 es2 : List Nat) (Lw : List Blk) (hm : P.follows .mixedOrders = true := by exact mixed) (hB : lateB l.toArray hs (es1 ++ es2) = true := by kernel_rfl) (hz : zB l.toArray es2 hs = true := by kernel_rfl) (he1 : es1.all (fun i => decide (i < l.length) && !es2.contains i) = true := by decide) (he2 : es2.all (fun i => decide (i < l.length)) = true := by decide) (hL : Lw.Sublist L := by first | exact List.Sublist.refl _ | exact List.nil_sublist _ | exact sbl | (repeat (first | exact List.Sublist.refl _ | exact List.nil_sublist _ | refine List.Sublist.cons_cons _ ?_ | refine List.Sublist.cons _ ?_ | refine List.Sublist.trans ?_ (List.sublist_append_right _ _))))
    (h : JH P w0 n Lw l.toArray (fun E' => JE P w0 n l.toArray Lw (fun E1 L1 => JE P w0 n l.toArray [] (fun E2 L2 => JX w0 n .normal Q E2 L2) (picks l es2) E1 L1) (picks l es1) E' L) (picks l hs) E) : J P w0 n (.region id l.toArray true) Q E L := by
  refine ⟨fun a w ha hw => ?_⟩
  simp only [lateB, Bool.and_eq_true, decide_eq_true_eq] at hB
  obtain ⟨⟨hsel, hlen⟩, hlex⟩ := hB
  refine wp_region_any hm ?_
  have hz1 : ∀ i ∈ es1, lwZ es2 i Lw = Lw := fun i hi => by
    have h1 := List.all_eq_true.1 he1 i hi
    simp only [Bool.and_eq_true, Bool.not_eq_true'] at h1
    unfold lwZ
    rw [h1.2]
    rfl
  have hz2 : ∀ i ∈ es2, lwZ es2 i Lw = [] := fun i hi => by
    unfold lwZ
    rw [if_pos (by simpa using hi)]
  have he1' : es1.all (fun i => decide (i < l.length)) = true := List.all_eq_true.2 fun i hi => by
    have h1 := List.all_eq_true.1 he1 i hi
    simp only [Bool.and_eq_true] at h1
    exact h1.1
  have H : wpG P w0 l.toArray es2 Lw (fun L a => ∀ w, Own w0 L w → Q .normal a w) (hs.length + (es1 ++ es2).length) (Array.replicate l.toArray.size false) (es1 ++ es2) L a :=
    wpG_of_ah hsel (weak_sub hL) hs _ a hz hlex (ah_of_jh (n := n) (fun E' a' ha' hK => ec_app es2 es1 L a' (ec_of_je (n := n) (fun E1 L1 a1 ha1 h1 => ec_of_je (n := n) (fun E2 L2 a2 ha2 hx w hw => hx.out a2 w ha2 hw) es2 E1 L1 a1 he2 hz2 ha1 h1) es1 E' L a' he1' hz1 ha' hK)) _ _ _ ha h)
  have := wpAny_of_wpG (P := P) (Q := Q) (fun L a w hF hw => hF w hw) _ _ _ _ _ w.drew (hw.to (Ext.drew w)) H
  rw [hlen] at this
  exact this
theorem j_late {id : Nat} {l : List Oper} (hs es : List Nat) (Lw : List Blk) (hm : P.follows .mixedOrders = true := by exact mixed) (hB : lateB l.toArray hs es = true := by kernel_rfl) (he : es.all (fun i => decide (i < l.length)) = true := by decide) (hL : Lw.Sublist L := by first | exact List.Sublist.refl _ | exact List.nil_sublist _ | exact sbl | (repeat (first | exact List.Sublist.refl _ | exact List.nil_sublist _ | refine List.Sublist.cons_cons _ ?_ | refine List.Sublist.cons _ ?_ | refine List.Sublist.trans ?_ (List.sublist_append_right _ _))))
    (h : JH P w0 n Lw l.toArray (fun E' => JE P w0 n l.toArray Lw (fun E2 L2 => JX w0 n .normal Q E2 L2) (picks l es) E' L) (picks l hs) E) : J P w0 n (.region id l.toArray true) Q E L :=
  j_late2 hs es [] Lw hm (by rw [List.append_nil]; exact hB) rfl (List.all_eq_true.2 fun i hi => by
    have := List.all_eq_true.1 he i hi
    simp only [List.contains_nil, Bool.not_false, Bool.and_true]
    exact this) rfl hL h
variable {K : Env → List Blk → Prop} {ty : TypeId} {pos : String} {aft : Array Edge} {gd : Option (Nat × Bool)} {t : Tmp}
theorem je_old {S : Type} {o : Oper} (hg : guardB ops E o.guard = some true) (hd : dstOk n o.dst = true) (val : S → Value) (mem : S → List Blk)
    (hy : ∀ a w, Rep n E a → Own w0 L w → ∃ s w', ((execOp a.eval o).run P w = .ok (.value (val s)) w' ∨ ((execOp a.eval o).run P w = .ok .skip w' ∧ val s = undef)) ∧ Own w0 (mem s) w')
    (hw : ∀ s, Weak w0 Lw (mem s)) (h : ∀ s, JE P w0 n ops Lw K rest (Env.put E o.dst (val s)) (mem s)) : JE P w0 n ops Lw K (o :: rest) E L :=
  ⟨hg, hd, S, val, mem, fun a w ha hw => by
    obtain ⟨s, w', hr, ho⟩ := hy a w ha hw
    rcases hr with hr | ⟨hr, hu⟩
    · rw [hr]; exact ⟨s, rfl, ho⟩
    · rw [hr]; exact ⟨s, hu.symm, ho⟩, hw, h⟩
/-- A call whose results lie in memory of its own. -/
theorem je_c {S : Type} {o : Oper} {f : FuncId} {args : Array Value} (hg : guardB ops E o.guard = some true) (hd : dstOk n o.dst = true) (val : S → Value) (mem : S → List Blk)
    (hr : ∀ a w, Rep n E a → (execOp a.eval o).run P w = .ok (.enter f args) w) (hc : ∀ w, Own w0 L w → Calls P f args w fun e w' => ∃ s, e = .returned (val s) ∧ Own w0 (mem s) w')
    (hw : ∀ s, Weak w0 Lw (mem s)) (h : ∀ s, JE P w0 n ops Lw K rest (Env.put E o.dst (val s)) (mem s)) : JE P w0 n ops Lw K (o :: rest) E L :=
  ⟨hg, hd, S, val, mem, fun a w ha hw => by
    rw [hr a w ha]
    exact (hc w hw).mono fun e w' ⟨s, he, ho⟩ => ⟨_, he, s, rfl, ho⟩, hw, h⟩
theorem je_nil (h : K E L) : JE P w0 n ops Lw K [] E L := h
theorem je_assign {x : Operand} (hx : Env.ev E x = some v) (hg : guardB ops E gd = some true) (hd : Nat.blt t n = true) (hw : Lw.Sublist L) (h : JE P w0 n ops Lw K rest ((t, v) :: E) L) : JE P w0 n ops Lw K (⟨some t, .assign x, ty, pos, aft, gd⟩ :: rest) E L :=
  je_old (S := Unit) (o := ⟨some t, .assign x, ty, pos, aft, gd⟩) hg hd (fun _ => v) (fun _ => L) (fun a w ha hw => ⟨(), w, .inl (by simp only [execOp, ha.ev hx, Sem.run_pure]), hw⟩) (fun _ => weak_sub hw) (fun _ => h)
theorem je_store {T T0 : TypeId} {x y : Operand} {b off : Nat} {cs cs' : Array Value} {u : Value} (k : Nat) (hx : Env.ev E x = some (.pointer (some ⟨b, off, none⟩))) (hy : Env.ev E y = some u) (hu : Upd b cs T0 cs' L L')
    (hk : (P.info? T).map (·.size) = some k) (hsz : u.cells.size = k) (hs : Nat.ble (off + k) cs.size = true) (h1 : u.cells.all (·.oneCell') = true) (hc : spl cs off u.cells.toList = cs')
    (hg : guardB ops E gd = some true) (hw : Lw.Sublist L') (h : JE P w0 n ops Lw K rest E L') : JE P w0 n ops Lw K (⟨none, .store T x y, ty, pos, aft, gd⟩ :: rest) E L := by
  refine je_old (S := Unit) (o := ⟨none, .store T x y, ty, pos, aft, gd⟩) hg rfl (fun _ => undef) (fun _ => L') (fun a w ha hw => ?_) (fun _ => weak_sub hw) (fun _ => h)
  have hb := (hw.mem _ hu.mem).2
  have hs' := Nat.le_of_ble_eq_true hs
  obtain ⟨w', hr, ht⟩ := run_storeCells (P := P) (b := b) (off := off) u.cells.toList 0 cs w hb (by simp; omega) (fun q hq => Array.all_eq_true_iff_forall_mem.1 h1 q (Array.mem_toList_iff.1 hq))
  rw [Nat.add_zero, hc] at ht
  refine ⟨(), w', .inr ⟨?_, rfl⟩, hw.turn hu ht⟩
  simp [execOp, ha.ev hx, ha.ev hy, Instr.storeAt, Instr.sureAddr, storeVar, run_sizeOf hk, hsz, hr]
/-- A whole variable. -/
theorem we_store {T T0 : TypeId} {x y : Operand} {b k : Nat} {cs cs' : Array Value} (hx : Env.ev E x = some (.pointer (some ⟨b, 0, none⟩))) (hy : Env.ev E y = some (.agg cs')) [hk : SizeC P T k] [hc' : CsC cs' k] [hu : UpdC b cs' L cs T0 L'] [hc : CsC cs k]
    (hg : guardB ops E gd = some true) (hw : Lw.Sublist L') (h : JE P w0 n ops Lw K rest E L') : JE P w0 n ops Lw K (⟨none, .store T x y, ty, pos, aft, gd⟩ :: rest) E L :=
  je_store (u := .agg cs') k hx hy hu.out hk.out hc'.size (by rw [hc.size, Nat.zero_add]; exact Nat.ble_eq_true_of_le (Nat.le_refl _)) hc'.one (spl_all (hc'.size.trans hc.size.symm)) hg hw h
theorem we_storeD {T T0 : TypeId} {x y : Operand} {b off : Nat} {k : IntKind} {ds : List Nat} {z : Nat} (hx : Env.ev E x = some (.pointer (some ⟨b, off, none⟩))) (hy : Env.ev E y = some (.int k (z : Int))) [hk : SizeC P T 1] [MemC b L (dig k ds) T0] (hs : off < ds.length) [hu : UpdC b (dig k (ds.set off z)) L (dig k ds) T0 L']
    (hg : guardB ops E gd = some true) (hw : Lw.Sublist L') (h : JE P w0 n ops Lw K rest E L') : JE P w0 n ops Lw K (⟨none, .store T x y, ty, pos, aft, gd⟩ :: rest) E L :=
  je_store (u := .int k (z : Int)) 1 hx hy hu.out hk.out rfl (Nat.ble_eq_true_of_le (by rw [size_dig]; omega)) (by simp [Value.cells, Value.oneCell']) ((nums_set k _ off z).trans (dig_set k ds off z)) hg hw h
theorem je_bslice {T e : TypeId} {len : Nat} {ps : List (Nat × Operand)} {l : List (Nat × Value)} {cs : Array Value} (hp : Env.evp E ps = some l) [hb : BsC P T len l cs e] (hg : guardB ops E gd = some true) (hd : Nat.blt t n = true) (hw : Lw.Sublist L)
    (h : ∀ b, JE P w0 n ops Lw K rest ((t, .slice (some ⟨b, 0, none⟩) len len) :: E) (⟨b, cs, e⟩ :: L)) : JE P w0 n ops Lw K (⟨some t, .buildSlice T len ps.toArray, ty, pos, aft, gd⟩ :: rest) E L :=
  je_old (S := Nat) (o := ⟨some t, .buildSlice T len ps.toArray, ty, pos, aft, gd⟩) hg hd (fun b => .slice (some ⟨b, 0, none⟩) len len) (fun b => ⟨b, cs, e⟩ :: L) (fun a w ha hw => ⟨w.heap.size, w.alloc (.cells cs e), .inl (by
      have h1 : ps.toArray.map (fun (i, x) => (i, a.eval x)) = l.toArray := by rw [← ha.evp ps l hp]; simp
      simp only [execOp, h1, Sem.run_bind, hb.out, Result.andThen, Sem.run_pure]), hw.alloc _ _⟩) (fun _ => weak_sub (.cons _ hw)) h
end
/-- A premise that no search takes for its own. -/
structure Wr (Q : Prop) : Prop where out : Q
/-- The picked operations of a drawn region laid out. -/
theorem wkI {P Q : Prop} (k : Q) (h : Wr Q → P := by intro hq; simp only [picks, List.getElem?_cons_succ, List.getElem?_cons_zero]; exact hq.out) : P := h ⟨k⟩
end Go.Vt
/- The walk by type classes: each rule of the program logic is an instance, so that one short tactic finds it. Conditions: those that each rule names. -/
set_option linter.unusedSimpArgs false
set_option linter.unusedVariables false
set_option maxHeartbeats 2000000
namespace Go.Vt
open Go.RowKit
@[reducible] def cnd {α : Type} : Bool → α → α → α
  | true, a, _ => a
  | false, _, b => b
@[reducible] def look : Env → Nat → Option Value
  | [], _ => none
  | (k, v) :: E, n => cnd (Nat.beq k n) (some v) (look E n)
theorem look_find : ∀ (E : Env) (n : Nat), look E n = Env.find E n
  | [], _ => rfl
  | (k, v) :: E, n => by
    have h := look_find E n
    simp only [look, Env.find]
    cases Nat.beq k n
    · exact h
    · rfl
@[reducible] def evl (E : Env) : Operand → Option Value
  | .tmp t => look E t
  | .const v => some v
  | .global g => some (.pointer (some ⟨g, 0, none⟩))
  | .func f => some (.func (.func f) #[] #[])
theorem evl_ev (E : Env) (x : Operand) : evl E x = Env.ev E x := by
  cases x
  · exact look_find _ _
  all_goals rfl
@[reducible] def cons2 {α : Type} : Option α → Option (List α) → Option (List α)
  | some a, some l => some (a :: l)
  | some _, none => none
  | none, _ => none
@[reducible] def evsl (E : Env) : List Operand → Option (List Value)
  | [] => some []
  | x :: r => cons2 (evl E x) (evsl E r)
theorem evsl_evs (E : Env) : ∀ l, evsl E l = Env.evs E l
  | [] => rfl
  | x :: r => by
    simp only [evsl, Env.evs, evl_ev, evsl_evs E r]
    cases Env.ev E x <;> cases Env.evs E r <;> rfl
@[reducible] def tag (i : Nat) : Option Value → Option (Nat × Value)
  | some v => some (i, v)
  | none => none
@[reducible] def evpl (E : Env) : List (Nat × Operand) → Option (List (Nat × Value))
  | [] => some []
  | (i, x) :: r => cons2 (tag i (evl E x)) (evpl E r)
theorem evpl_evp (E : Env) : ∀ l, evpl E l = Env.evp E l
  | [] => rfl
  | (i, x) :: r => by
    simp only [evpl, Env.evp, evl_ev, evpl_evp E r]
    cases Env.ev E x <;> cases Env.evp E r <;> rfl
class IsC {α : Type} (o : Option α) (v : outParam α) : Prop where out : o = some v
instance isC {α : Type} (v : α) : IsC (some v) v := ⟨rfl⟩
class RfC (a : Bool) (b : outParam Bool) : Prop where out : a = b
instance rfC (a : Bool) : RfC a a := ⟨rfl⟩
/-- A list of blocks that is a part of another one. -/
class SblC (A B : List Blk) : Prop where out : A.Sublist B
instance sblN (B : List Blk) : SblC [] B := ⟨List.nil_sublist _⟩
instance (priority := high) sblC (e : Blk) (A B : List Blk) [h : SblC A B] : SblC (e :: A) (e :: B) := ⟨h.out.cons_cons _⟩
instance (priority := low) sblS (e : Blk) (A B : List Blk) [h : SblC A B] : SblC A (e :: B) := ⟨h.out.cons _⟩
theorem sbl {A B : List Blk} [h : SblC A B] : A.Sublist B := h.out
/-- The first 'm' of a list, and the rest. -/
class CutC {α : Type} (m : Nat) (l : List α) (a b : outParam (List α)) : Prop where
  out : l = a ++ b
  len : a.length = m
instance cut0 {α : Type} (l : List α) : CutC 0 l [] l := ⟨rfl, rfl⟩
instance cutS {α : Type} (m : Nat) (x : α) (l a b : List α) [h : CutC m l a b] : CutC (m + 1) (x :: l) (x :: a) b := ⟨by rw [h.out]; rfl, by rw [List.length_cons, h.len]⟩
section
variable {P : Program} {w0 : World} {n : Nat} {ops : Array Oper} {L L' : List Blk} {E : Env}
variable {Q : Exit → Act → World → Prop} {rest : List Oper} {v : Value}
variable {d : Option Tmp} {ty : TypeId} {pos : String} {aft : Array Edge} {gd : Option (Nat × Bool)} {t : Tmp}
theorem isE {x : Operand} [h : IsC (evl E x) v] : Env.ev E x = some v := by rw [← evl_ev]; exact h.out
theorem isS {l : List Operand} {vs : List Value} [h : IsC (evsl E l) vs] : Env.evs E l = some vs := by rw [← evsl_evs]; exact h.out
theorem isP {l : List (Nat × Operand)} {vs : List (Nat × Value)} [h : IsC (evpl E l) vs] : Env.evp E l = some vs := by rw [← evpl_evp]; exact h.out
/-- An operation with one value; with a range to pay; a call with its premise; an operation that wraps. -/
class YlC (P : Program) (w0 : World) (n : Nat) (L : List Blk) (E : Env) (op : Op) (v : outParam Value) : Prop where
  out : ∀ d ty pos aft gd, Yl P w0 n L E ⟨d, op, ty, pos, aft, gd⟩ v
class YsC (P : Program) (w0 : World) (n : Nat) (L : List Blk) (E : Env) (op : Op) (v : outParam Value) (S : outParam Prop) : Prop where
  out : S → ∀ d ty pos aft gd, Yl P w0 n L E ⟨d, op, ty, pos, aft, gd⟩ v
class YcC (P : Program) (w0 : World) (n : Nat) (L : List Blk) (E : Env) (op : Op) (v : outParam Value) (S : outParam Prop) : Prop where
  out : S → ∀ d ty pos aft gd, Yl P w0 n L E ⟨d, op, ty, pos, aft, gd⟩ v
class YwC (P : Program) (w0 : World) (n : Nat) (L : List Blk) (E : Env) (op : Op) (v : outParam Value) : Prop where
  out : ∀ d ty pos aft gd, Yl P w0 n L E ⟨d, op, ty, pos, aft, gd⟩ v
section
variable {x y : Operand}
instance yk_move [IsC (evl E x) v] : YlC P w0 n L E (.move x) v := ⟨fun _ _ _ _ _ => yl_move isE⟩
instance yk_assign [IsC (evl E x) v] : YlC P w0 n L E (.assign x) v := ⟨fun _ _ _ _ _ => yl_assign isE⟩
instance yk_load {T T0 : TypeId} {b off : Nat} {cs : Array Value} [IsC (evl E x) (.pointer (some ⟨b, off, none⟩))] [MemC b L cs T0] [LdC P T cs off v] : YlC P w0 n L E (.load T x) v := ⟨fun _ _ _ _ _ => wl_load isE⟩
instance yk_faddr {T : TypeId} {f b o o' : Nat} [IsC (evl E x) (.pointer (some ⟨b, o, none⟩))] [FaO P T f o o'] : YlC P w0 n L E (.fieldAddr T x f) (.pointer (some ⟨b, o', none⟩)) := ⟨fun _ _ _ _ _ => wl_faddr isE⟩
instance yk_extract {vs : Array Value} {i : Nat} [IsC (evl E x) (.tuple vs)] [NthC vs i v] : YlC P w0 n L E (.extract x i) v := ⟨fun _ _ _ _ _ => wl_extract isE⟩
instance yk_bin {op : BinOp} {T T' : TypeId} {vx vy : Value} [IsC (evl E x) vx] [IsC (evl E y) vy] [BinC P op T vx vy v] : YlC P w0 n L E (.binOp op T x y T') v := ⟨fun _ _ _ _ _ => wl_bin isE isE⟩
instance yk_un {op : UnOp} {T : TypeId} {vx : Value} [IsC (evl E x) vx] [UnC P op vx v] : YlC P w0 n L E (.unOp op T x) v := ⟨fun _ _ _ _ _ => wl_un isE⟩
instance yk_build {T : TypeId} {ps : List (Nat × Operand)} {l : List (Nat × Value)} [IsC (evpl E ps) l] [BdC P T l v] : YlC P w0 n L E (.build T ps.toArray) v := ⟨fun _ _ _ _ _ => wl_build isP⟩
instance yk_len_str {S : TypeId} {s : ByteArray} [IsC (evl E x) (.string s)] [UndC P S .string] : YlC P w0 n L E (.call ⟨.builtin .len, #[x], #[S]⟩) (.int .i64 s.size) := ⟨fun _ _ _ _ _ => wl_len_str isE⟩
instance yk_len_sl {S e : TypeId} {p : Option Addr} {l c : Nat} [IsC (evl E x) (.slice p l c)] [UndC P S (.slice e)] : YlC P w0 n L E (.call ⟨.builtin .len, #[x], #[S]⟩) (.int .i64 l) := ⟨fun _ _ _ _ _ => wl_len_sl isE⟩
variable {T T' : TypeId} {a b : Int}
section
variable [hx : IsC (evl E x) (.int .i64 a)] [hy : IsC (evl E y) (.int .i64 b)]
include hx hy
instance ys_add64 : YsC P w0 n L E (.binOp .add T x y T') (.int .i64 (a + b)) (-9223372036854775808 ≤ a + b ∧ a + b ≤ 9223372036854775807) := ⟨fun h _ _ _ _ _ => wl_add64 isE isE h⟩
instance ys_sub64 : YsC P w0 n L E (.binOp .sub T x y T') (.int .i64 (a - b)) (-9223372036854775808 ≤ a - b ∧ a - b ≤ 9223372036854775807) := ⟨fun h _ _ _ _ _ => wl_sub64 isE isE h⟩
instance ys_mul64 : YsC P w0 n L E (.binOp .mul T x y T') (.int .i64 (a * b)) (-9223372036854775808 ≤ a * b ∧ a * b ≤ 9223372036854775807) := ⟨fun h _ _ _ _ _ => wl_mul64 isE isE h⟩
instance ys_quo64 : YsC P w0 n L E (.binOp .quo T x y T') (.int .i64 (a / b)) (0 ≤ a ∧ a ≤ 9223372036854775807 ∧ 1 ≤ b) := ⟨fun h _ _ _ _ _ => wl_quo64 isE isE h⟩
instance ys_rem64 : YsC P w0 n L E (.binOp .rem T x y T') (.int .i64 (a % b)) (0 ≤ a ∧ 1 ≤ b) := ⟨fun h _ _ _ _ _ => wl_rem64 isE isE h⟩
end
section
variable [hx : IsC (evl E x) (.int .u64 a)] [hy : IsC (evl E y) (.int .u64 b)]
include hx hy
instance ys_addu : YsC P w0 n L E (.binOp .add T x y T') (.int .u64 (a + b)) (0 ≤ a + b ∧ a + b ≤ 18446744073709551615) := ⟨fun h _ _ _ _ _ => wl_addu isE isE h⟩
end
instance ys_cv64 {S : TypeId} {k : IntKind} [IsC (evl E x) (.int k a)] [UndC P S (.int k)] [UndC P T (.int .i64)] : YsC P w0 n L E (.convert S T x) (.int .i64 a) (-9223372036854775808 ≤ a ∧ a ≤ 9223372036854775807) := ⟨fun h _ _ _ _ _ => wl_cv64 isE h⟩
instance ys_cvu {S : TypeId} {k : IntKind} [IsC (evl E x) (.int k a)] [UndC P S (.int k)] [UndC P T (.int .u64)] : YsC P w0 n L E (.convert S T x) (.int .u64 a) (0 ≤ a ∧ a ≤ 18446744073709551615) := ⟨fun h _ _ _ _ _ => wl_cvu isE h⟩
instance ys_cv32 {S : TypeId} {k : IntKind} [IsC (evl E x) (.int k a)] [UndC P S (.int k)] [UndC P T (.int .u32)] : YsC P w0 n L E (.convert S T x) (.int .u32 a) (0 ≤ a ∧ a ≤ 4294967295) := ⟨fun h _ _ _ _ _ => wl_cv32 isE h⟩
instance ys_iaddr_sl {e s b off l c : Nat} {i : Int} [IsC (evl E x) (.slice (some ⟨b, off, none⟩) l c)] [IsC (evl E y) (.int .i64 i)] [UndC P T (.slice e)] [SizeC P e s] : YsC P w0 n L E (.indexAddr T x y) (.pointer (some ⟨b, off + i.toNat * s, none⟩)) (0 ≤ i ∧ i < l) := ⟨fun h _ _ _ _ _ => wl_iaddr_sl isE isE h⟩
instance ys_iaddr_arr {N e s b off : Nat} {i : Int} [IsC (evl E x) (.pointer (some ⟨b, off, none⟩))] [IsC (evl E y) (.int .i64 i)] [UndC P T (.array N e)] [SizeC P e s] : YsC P w0 n L E (.indexAddr T x y) (.pointer (some ⟨b, off + i.toNat * s, none⟩)) (0 ≤ i ∧ i < N) := ⟨fun h _ _ _ _ _ => wl_iaddr_arr isE isE h⟩
instance yw_bin {op : BinOp} {vx vy : Value} [IsC (evl E x) vx] [IsC (evl E y) vy] [BinW P op T vx vy v] : YwC P w0 n L E (.binOp op T x y T') v := ⟨fun _ _ _ _ _ => wl_binW isE isE⟩
instance yw_cv {S : TypeId} {k k' : IntKind} [IsC (evl E x) (.int k a)] [UndC P S (.int k)] [UndC P T (.int k')] : YwC P w0 n L E (.convert S T x) (.int k' (k'.wrap a)) := ⟨fun _ _ _ _ _ => wl_cv isE⟩
instance yc_call {f : FuncId} {xs : List Operand} {l : List Value} {ats : Array TypeId} {pre : Prop} [CallC P f] [IsC (evsl E xs) l] [SpecC P f l v pre] : YcC P w0 n L E (.call ⟨.value (.func f), xs.toArray, ats⟩) v pre := ⟨fun h _ _ _ _ _ => wl_call isS h⟩
instance (priority := low) yc_ext {f : FuncId} {xs : List Operand} {l : List Value} {ats : Array TypeId} {pre : Prop} [IsC (evsl E xs) l] [ExtC P f l v pre] : YcC P w0 n L E (.call ⟨.value (.func f), xs.toArray, ats⟩) v pre := ⟨fun h _ _ _ _ _ => wl_ext isS h⟩
end
section
variable {op : Op} {S : Prop}
theorem sX [h : YlC P w0 n L E op v] (hg : guardB ops E gd = some true) (hd : Nat.blt t n = true) (k : JO P w0 n ops Q rest ((t, v) :: E) L) : JO P w0 n ops Q (⟨some t, op, ty, pos, aft, gd⟩ :: rest) E L := jq (h.out _ _ _ _ _) hg hd k
theorem sS [h : YsC P w0 n L E op v S] (hg : guardB ops E gd = some true) (hd : Nat.blt t n = true) (s : S) (k : JO P w0 n ops Q rest ((t, v) :: E) L) : JO P w0 n ops Q (⟨some t, op, ty, pos, aft, gd⟩ :: rest) E L := jq (h.out s _ _ _ _ _) hg hd k
theorem sC [h : YcC P w0 n L E op v S] (hg : guardB ops E gd = some true) (hd : Nat.blt t n = true) (s : S) (k : JO P w0 n ops Q rest ((t, v) :: E) L) : JO P w0 n ops Q (⟨some t, op, ty, pos, aft, gd⟩ :: rest) E L := jq (h.out s _ _ _ _ _) hg hd k
theorem sW [h : YwC P w0 n L E op v] (hg : guardB ops E gd = some true) (hd : Nat.blt t n = true) (k : JO P w0 n ops Q rest ((t, v) :: E) L) : JO P w0 n ops Q (⟨some t, op, ty, pos, aft, gd⟩ :: rest) E L := jq (h.out _ _ _ _ _) hg hd k
theorem sK (hg : guardB ops E gd = some false) (hd : Nat.blt t n = true) (k : JO P w0 n ops Q rest ((t, undef) :: E) L) : JO P w0 n ops Q (⟨some t, op, ty, pos, aft, gd⟩ :: rest) E L := jq_skip hg hd k
variable {K : Env → Prop}
theorem tX [h : YlC P w0 n L E op v] (hg : guardB ops E gd = some true) (hd : Nat.blt t n = true) (k : JH P w0 n L ops K rest ((t, v) :: E)) : JH P w0 n L ops K (⟨some t, op, ty, pos, aft, gd⟩ :: rest) E := hq (h.out _ _ _ _ _) hg hd k
theorem tS [h : YsC P w0 n L E op v S] (hg : guardB ops E gd = some true) (hd : Nat.blt t n = true) (s : S) (k : JH P w0 n L ops K rest ((t, v) :: E)) : JH P w0 n L ops K (⟨some t, op, ty, pos, aft, gd⟩ :: rest) E := hq (h.out s _ _ _ _ _) hg hd k
theorem tC [h : YcC P w0 n L E op v S] (hg : guardB ops E gd = some true) (hd : Nat.blt t n = true) (s : S) (k : JH P w0 n L ops K rest ((t, v) :: E)) : JH P w0 n L ops K (⟨some t, op, ty, pos, aft, gd⟩ :: rest) E := hq (h.out s _ _ _ _ _) hg hd k
theorem tW [h : YwC P w0 n L E op v] (hg : guardB ops E gd = some true) (hd : Nat.blt t n = true) (k : JH P w0 n L ops K rest ((t, v) :: E)) : JH P w0 n L ops K (⟨some t, op, ty, pos, aft, gd⟩ :: rest) E := hq (h.out _ _ _ _ _) hg hd k
theorem tK (hg : guardB ops E gd = some false) (hd : Nat.blt t n = true) (k : JH P w0 n L ops K rest ((t, undef) :: E)) : JH P w0 n L ops K (⟨some t, op, ty, pos, aft, gd⟩ :: rest) E := hq_skip hg hd k
end
class AlC (P : Program) (E : Env) (op : Op) (cs : outParam (Array Value)) (T : outParam TypeId) : Prop where
  out : ∀ {w0 : World} {n : Nat} {ops : Array Oper} {L : List Blk} {Q : Exit → Act → World → Prop} {rest : List Oper} {t : Tmp} {ty : TypeId} {pos : String} {aft : Array Edge} {gd : Option (Nat × Bool)}, guardB ops E gd = some true → Nat.blt t n = true →
    (∀ b, JO P w0 n ops Q rest ((t, .pointer (some ⟨b, 0, none⟩)) :: E) (⟨b, cs, T⟩ :: L)) → JO P w0 n ops Q (⟨some t, op, ty, pos, aft, gd⟩ :: rest) E L
instance al_alloc {T : TypeId} {z : Value} {cs : Array Value} [hz : ZeroC P T z cs] : AlC P E (.alloc T) cs T := ⟨fun hg hd h => wo_alloc hg hd h⟩
instance al_box {T : TypeId} {x : Operand} {cs : Array Value} [h : IsC (evl E x) (.agg cs)] : AlC P E (.box T x) cs T := ⟨fun hg hd h => wo_box isE hg hd h⟩
instance al_boxI {T : TypeId} {x : Operand} {k : IntKind} {i : Int} [h : IsC (evl E x) (.int k i)] : AlC P E (.box T x) #[.int k i] T := ⟨fun hg hd h => wo_boxI isE hg hd h⟩
theorem sA {op : Op} {cs : Array Value} {T : TypeId} [h : AlC P E op cs T] (hg : guardB ops E gd = some true) (hd : Nat.blt t n = true) (k : ∀ b, JO P w0 n ops Q rest ((t, .pointer (some ⟨b, 0, none⟩)) :: E) (⟨b, cs, T⟩ :: L)) : JO P w0 n ops Q (⟨some t, op, ty, pos, aft, gd⟩ :: rest) E L := h.out hg hd k
theorem sT {T T0 : TypeId} {x y : Operand} {b k : Nat} {cs cs' : Array Value} [hx : IsC (evl E x) (.pointer (some ⟨b, 0, none⟩))] [hy : IsC (evl E y) (.agg cs')] [hk : SizeC P T k] [hc' : CsC cs' k] [hu : UpdC b cs' L cs T0 L'] [hc : CsC cs k]
    (hg : guardB ops E gd = some true) (h : JO P w0 n ops Q rest E L') : JO P w0 n ops Q (⟨none, .store T x y, ty, pos, aft, gd⟩ :: rest) E L := wo_store isE isE hg h
section
variable {K : Env → List Blk → Prop} {Lw : List Blk}
theorem eA {T : TypeId} {z : Value} {cs : Array Value} [hz : ZeroC P T z cs] (hg : guardB ops E gd = some true) (hd : Nat.blt t n = true) [hw : SblC Lw L] (h : ∀ b, JE P w0 n ops Lw K rest ((t, .pointer (some ⟨b, 0, none⟩)) :: E) (⟨b, cs, T⟩ :: L)) : JE P w0 n ops Lw K (⟨some t, .alloc T, ty, pos, aft, gd⟩ :: rest) E L := by
  have hz' := hz.out
  cases hi : P.info? T with
  | none => simp [hi] at hz'
  | some i =>
    have hz2 : i.zero = some z := by simpa [hi] using hz'
    exact je_old (S := Nat) (o := ⟨some t, .alloc T, ty, pos, aft, gd⟩) hg hd (fun b => .pointer (some ⟨b, 0, none⟩)) (fun b => ⟨b, cs, T⟩ :: L) (fun a w ha hw => ⟨w.heap.size, w.alloc (.cells z.cells T), .inl (by simp [execOp, Instr.alloc, zeroValue, typeInfo, hi, hz2, newVar, newRow]), by rw [hz.cells]; exact hw.alloc _ _⟩) (fun _ => weak_sub (.cons _ hw.out)) h
theorem eS {x : Operand} [hx : IsC (evl E x) v] (hg : guardB ops E gd = some true) (hd : Nat.blt t n = true) [hw : SblC Lw L] (h : JE P w0 n ops Lw K rest ((t, v) :: E) L) : JE P w0 n ops Lw K (⟨some t, .assign x, ty, pos, aft, gd⟩ :: rest) E L := je_assign isE hg hd hw.out h
theorem eT {T T0 : TypeId} {x y : Operand} {b k : Nat} {cs cs' : Array Value} [hx : IsC (evl E x) (.pointer (some ⟨b, 0, none⟩))] [hy : IsC (evl E y) (.agg cs')] [hk : SizeC P T k] [hc' : CsC cs' k] [hu : UpdC b cs' L cs T0 L'] [hc : CsC cs k]
    (hg : guardB ops E gd = some true) [hw : SblC Lw L'] (h : JE P w0 n ops Lw K rest E L') : JE P w0 n ops Lw K (⟨none, .store T x y, ty, pos, aft, gd⟩ :: rest) E L := we_store isE isE hg hw.out h
end
class Nx (G : Prop) (H : outParam Prop) : Prop where out : H → G
theorem cX {G H : Prop} [h : Nx G H] (k : H) : G := h.out k
class Ny (G : Prop) (H : outParam Prop) : Prop where out : H → G
theorem cY {G H : Prop} [h : Ny G H] (k : H) : G := h.out k
section
variable {x y c : Code} {id j : Nat} {l : List Oper}
instance cx_seq : Nx (J P w0 n (.seq x y) Q E L) (J P w0 n x (Then P y Q) E L) := ⟨j_seq⟩
instance cx_region : Nx (J P w0 n (.region id l.toArray false) Q E L) (JO P w0 n l.toArray Q l E L) := ⟨j_region⟩
instance cx_ret : Nx (J P w0 n .ret Q E L) (JX w0 n .ret Q E L) := ⟨j_ret⟩
instance cx_block : Nx (J P w0 n (.block id c) Q E L) (J P w0 n c (Exit.inBlock id Q) E L) := ⟨j_block⟩
instance cx_skip : Nx (J P w0 n .skip Q E L) (JX w0 n .normal Q E L) := ⟨j_skip⟩
instance cx_exit : Nx (J P w0 n (.exit id) Q E L) (JX w0 n (.exit id) Q E L) := ⟨j_exit⟩
instance cx_nil : Ny (JO P w0 n ops Q [] E L) (JX w0 n .normal Q E L) := ⟨jo_nil⟩
instance xx_then : Ny (JX w0 n .normal (Then P y Q) E L) (J P w0 n y Q E L) := ⟨jx_then⟩
instance xx_then_ret : Ny (JX w0 n .ret (Then P y Q) E L) (JX w0 n .ret Q E L) := ⟨jx_then_ret⟩
instance xx_then_exit : Ny (JX w0 n (.exit id) (Then P y Q) E L) (JX w0 n (.exit id) Q E L) := ⟨jx_then_exit⟩
instance xx_block : Ny (JX w0 n .normal (Exit.inBlock id Q) E L) (JX w0 n .normal Q E L) := ⟨jx_block⟩
instance xx_block_ret : Ny (JX w0 n .ret (Exit.inBlock id Q) E L) (JX w0 n .ret Q E L) := ⟨jx_block_ret⟩
instance (priority := high) xx_block_here : Ny (JX w0 n (.exit id) (Exit.inBlock id Q) E L) (JX w0 n .normal Q E L) := ⟨jx_block_here⟩
instance (priority := low) xx_block_past [h : RfC (Nat.beq j id) false] : Ny (JX w0 n (.exit j) (Exit.inBlock id Q) E L) (JX w0 n (.exit j) Q E L) := ⟨jx_block_past h.out⟩
section
variable {S : Type} {I : S → Prop} {Es : S → Env} {Ls : S → List Blk} {mu : S → Nat} {s : S} {K : Act → World → Prop}
instance xx_mid_ret : Ny (JX w0 n .ret (MidQ w0 n I Es Ls K Q) E L) (JX w0 n .ret Q E L) := ⟨jx_mid_ret⟩
instance xx_mid_exit : Ny (JX w0 n (.exit id) (MidQ w0 n I Es Ls K Q) E L) (JX w0 n (.exit id) Q E L) := ⟨jx_mid_exit⟩
instance xx_loop_ret : Ny (JX w0 n .ret (LoopQ w0 n I Es Ls mu s Q) E L) (JX w0 n .ret Q E L) := ⟨jx_loop_ret⟩
instance xx_loop_exit : Ny (JX w0 n (.exit id) (LoopQ w0 n I Es Ls mu s Q) E L) (JX w0 n (.exit id) Q E L) := ⟨jx_loop_exit⟩
end
/-- A region that draws its order, cut into its three parts. -/
theorem jD {b l1 l2 l3 : List Oper} (m k : Nat) (hm : P.follows .mixedOrders = true := by exact mixed) (hB : headB P n l.toArray m k = true := by kernel_rfl) [h1 : CutC k l b l3] [h2 : CutC m b l1 l2]
    (h : JH P w0 n L l.toArray (fun E' => JN P n (fun E2 L2 => JO P w0 n l.toArray Q l3 E2 L2) l2 E' L) l1 E) : J P w0 n (.region id l.toArray true) Q E L := by
  refine j_draw m k hm hB ?_
  have e1 : l.take k = b := by rw [h1.out, List.take_append_of_le_length (Nat.le_of_eq h1.len.symm), List.take_of_length_le (Nat.le_of_eq h1.len)]
  have e2 : l.drop k = l3 := by rw [h1.out, ← h1.len, List.drop_left]
  have e3 : l.take m = l1 := by
    rw [h1.out, h2.out, List.append_assoc, List.take_append_of_le_length (Nat.le_of_eq h2.len.symm), List.take_of_length_le (Nat.le_of_eq h2.len)]
  have e4 : b.drop m = l2 := by rw [h2.out, ← h2.len, List.drop_left]
  rw [e1, e2, e3, e4]
  exact h
end
end
theorem wkA {P Q : Prop} (k : Q) (h : Wr Q → P := by intro hq; (first | refine sX rfl rfl ?_ | (refine sS rfl rfl ?_ ?_; focus omega) | (refine sC rfl rfl ?_ ?_; focus (first | exact trivial | assumption | constructor <;> assumption | exact mb2 rfl rfl | exact mb4 rfl rfl rfl rfl)) | refine cX ?_ | refine cY ?_ | (refine sA rfl rfl ?_) | refine sT rfl ?_ | refine sW rfl rfl ?_ | refine sK rfl rfl ?_ | refine j_if rfl ?_ | refine j_else rfl ?_ | refine pkT rfl rfl rfl rfl ?_ | refine pkF rfl rfl rfl rfl ?_); (repeat (first | refine sX rfl rfl ?_ | (refine sS rfl rfl ?_ ?_; focus omega) | (refine sC rfl rfl ?_ ?_; focus (first | exact trivial | assumption | constructor <;> assumption | exact mb2 rfl rfl | exact mb4 rfl rfl rfl rfl)) | refine cX ?_ | refine cY ?_ | (refine sA rfl rfl ?_) | refine sT rfl ?_ | refine sW rfl rfl ?_ | refine sK rfl rfl ?_ | refine j_if rfl ?_ | refine j_else rfl ?_ | refine pkT rfl rfl rfl rfl ?_ | refine pkF rfl rfl rfl rfl ?_)); exact hq.out) : P := h ⟨k⟩
theorem wkH {P Q : Prop} (k : Q) (h : Wr Q → P := by intro hq; (first | refine tX rfl rfl ?_ | (refine tS rfl rfl ?_ ?_; focus omega) | (refine tC rfl rfl ?_ ?_; focus (first | exact trivial | assumption | constructor <;> assumption | exact mb2 rfl rfl | exact mb4 rfl rfl rfl rfl)) | refine tW rfl rfl ?_ | refine tK rfl rfl ?_ | refine Go.Vt.hq (wl_pickT rfl rfl) rfl rfl ?_ | refine Go.Vt.hq (wl_pickF rfl rfl) rfl rfl ?_); (repeat (first | refine tX rfl rfl ?_ | (refine tS rfl rfl ?_ ?_; focus omega) | (refine tC rfl rfl ?_ ?_; focus (first | exact trivial | assumption | constructor <;> assumption | exact mb2 rfl rfl | exact mb4 rfl rfl rfl rfl)) | refine tW rfl rfl ?_ | refine tK rfl rfl ?_ | refine Go.Vt.hq (wl_pickT rfl rfl) rfl rfl ?_ | refine Go.Vt.hq (wl_pickF rfl rfl) rfl rfl ?_)); exact hq.out) : P := h ⟨k⟩
end Go.Vt
/- The struct types of this seat's translation as Lean structures, their cells, and what loads, literals, field addresses and comparisons give. Written by a program (gen_types.py). Conditions: none. -/
set_option linter.unusedVariables false
set_option maxRecDepth 100000
namespace Go.Vt
open Go.RowKit Go.Proofs
/-- A slice's header. -/
structure Sl where
  a : Option Addr
  len : Nat
  cap : Nat
structure api_Settings where
  MaxSpeed : Int
  MaxGap : Int
  deriving DecidableEq
def e_api_Settings (x : api_Settings) : Array Value := #[.int .i64 x.MaxSpeed, .int .i64 x.MaxGap]
def z_api_Settings : api_Settings := ⟨0, 0⟩
instance cs_api_Settings (x : api_Settings) : CsC (e_api_Settings x) 2 := ⟨by kernel_rfl, by kernel_rfl⟩
structure api_Int where
  Neg : Bool
  Mag : ByteArray
  deriving DecidableEq
def e_api_Int (x : api_Int) : Array Value := #[.bool x.Neg, .string x.Mag]
def z_api_Int : api_Int := ⟨false, ByteArray.empty⟩
instance cs_api_Int (x : api_Int) : CsC (e_api_Int x) 2 := ⟨by kernel_rfl, by kernel_rfl⟩
structure api_Rat where
  Num : api_Int
  Den : api_Int
  deriving DecidableEq
def e_api_Rat (x : api_Rat) : Array Value := #[.bool x.Num.Neg, .string x.Num.Mag, .bool x.Den.Neg, .string x.Den.Mag]
def z_api_Rat : api_Rat := ⟨z_api_Int, z_api_Int⟩
instance cs_api_Rat (x : api_Rat) : CsC (e_api_Rat x) 4 := ⟨by kernel_rfl, by kernel_rfl⟩
structure api_Report where
  Object : Int
  Seq : Int
  Version : Int
  Device : Int
  Time : Int
  X : Int
  Y : Int
  Cancel : Bool
  deriving DecidableEq
def e_api_Report (x : api_Report) : Array Value := #[.int .i64 x.Object, .int .i64 x.Seq, .int .i64 x.Version, .int .i64 x.Device, .int .i64 x.Time, .int .i64 x.X, .int .i64 x.Y, .bool x.Cancel]
def z_api_Report : api_Report := ⟨0, 0, 0, 0, 0, 0, 0, false⟩
instance cs_api_Report (x : api_Report) : CsC (e_api_Report x) 8 := ⟨by kernel_rfl, by kernel_rfl⟩
structure intake_Timed where
  T : api_Rat
  Report : api_Report
  deriving DecidableEq
def e_intake_Timed (x : intake_Timed) : Array Value := #[.bool x.T.Num.Neg, .string x.T.Num.Mag, .bool x.T.Den.Neg, .string x.T.Den.Mag, .int .i64 x.Report.Object, .int .i64 x.Report.Seq, .int .i64 x.Report.Version, .int .i64 x.Report.Device, .int .i64 x.Report.Time, .int .i64 x.Report.X, .int .i64 x.Report.Y, .bool x.Report.Cancel]
instance cs_intake_Timed (x : intake_Timed) : CsC (e_intake_Timed x) 12 := ⟨by kernel_rfl, by kernel_rfl⟩
structure viatorlaw28_Spot where
  Later : Int
  X : Int
  Y : Int
  deriving DecidableEq
def e_viatorlaw28_Spot (x : viatorlaw28_Spot) : Array Value := #[.int .u8 x.Later, .int .u8 x.X, .int .u8 x.Y]
def z_viatorlaw28_Spot : viatorlaw28_Spot := ⟨0, 0, 0⟩
instance cs_viatorlaw28_Spot (x : viatorlaw28_Spot) : CsC (e_viatorlaw28_Spot x) 3 := ⟨by kernel_rfl, by kernel_rfl⟩
structure viatorlaw28_World where
  Loads : Sl
  Speed : Int
  Gap : Int
def e_viatorlaw28_World (x : viatorlaw28_World) : Array Value := #[.slice x.Loads.a x.Loads.len x.Loads.cap, .int .u8 x.Speed, .int .u8 x.Gap]
structure api_Point where
  X : api_Rat
  Y : api_Rat
  deriving DecidableEq
def e_api_Point (x : api_Point) : Array Value := #[.bool x.X.Num.Neg, .string x.X.Num.Mag, .bool x.X.Den.Neg, .string x.X.Den.Mag, .bool x.Y.Num.Neg, .string x.Y.Num.Mag, .bool x.Y.Den.Neg, .string x.Y.Den.Mag]
instance cs_api_Point (x : api_Point) : CsC (e_api_Point x) 8 := ⟨by kernel_rfl, by kernel_rfl⟩
structure api_Batch where
  Reports : Sl
  Exchanges : Sl
def e_api_Batch (x : api_Batch) : Array Value := #[.slice x.Reports.a x.Reports.len x.Reports.cap, .slice x.Exchanges.a x.Exchanges.len x.Exchanges.cap]
structure api_Real where
  P : api_Rat
  R : api_Rat
  Neg : Bool
  deriving DecidableEq
def e_api_Real (x : api_Real) : Array Value := #[.bool x.P.Num.Neg, .string x.P.Num.Mag, .bool x.P.Den.Neg, .string x.P.Den.Mag, .bool x.R.Num.Neg, .string x.R.Num.Mag, .bool x.R.Den.Neg, .string x.R.Den.Mag, .bool x.Neg]
instance cs_api_Real (x : api_Real) : CsC (e_api_Real x) 9 := ⟨by kernel_rfl, by kernel_rfl⟩
structure api_Interval where
  From : api_Real
  To : api_Real
  OpenFrom : Bool
  OpenTo : Bool
  deriving DecidableEq
def e_api_Interval (x : api_Interval) : Array Value := #[.bool x.From.P.Num.Neg, .string x.From.P.Num.Mag, .bool x.From.P.Den.Neg, .string x.From.P.Den.Mag, .bool x.From.R.Num.Neg, .string x.From.R.Num.Mag, .bool x.From.R.Den.Neg, .string x.From.R.Den.Mag, .bool x.From.Neg, .bool x.To.P.Num.Neg, .string x.To.P.Num.Mag, .bool x.To.P.Den.Neg, .string x.To.P.Den.Mag, .bool x.To.R.Num.Neg, .string x.To.R.Num.Mag, .bool x.To.R.Den.Neg, .string x.To.R.Den.Mag, .bool x.To.Neg, .bool x.OpenFrom, .bool x.OpenTo]
instance cs_api_Interval (x : api_Interval) : CsC (e_api_Interval x) 20 := ⟨by kernel_rfl, by kernel_rfl⟩
structure api_Line where
  X0 : api_Rat
  X1 : api_Rat
  Y0 : api_Rat
  Y1 : api_Rat
  deriving DecidableEq
def e_api_Line (x : api_Line) : Array Value := #[.bool x.X0.Num.Neg, .string x.X0.Num.Mag, .bool x.X0.Den.Neg, .string x.X0.Den.Mag, .bool x.X1.Num.Neg, .string x.X1.Num.Mag, .bool x.X1.Den.Neg, .string x.X1.Den.Mag, .bool x.Y0.Num.Neg, .string x.Y0.Num.Mag, .bool x.Y0.Den.Neg, .string x.Y0.Den.Mag, .bool x.Y1.Num.Neg, .string x.Y1.Num.Mag, .bool x.Y1.Den.Neg, .string x.Y1.Den.Mag]
instance cs_api_Line (x : api_Line) : CsC (e_api_Line x) 16 := ⟨by kernel_rfl, by kernel_rfl⟩
structure api_PointUnit where
  In : api_Interval
  F : api_Line
  deriving DecidableEq
def e_api_PointUnit (x : api_PointUnit) : Array Value := #[.bool x.In.From.P.Num.Neg, .string x.In.From.P.Num.Mag, .bool x.In.From.P.Den.Neg, .string x.In.From.P.Den.Mag, .bool x.In.From.R.Num.Neg, .string x.In.From.R.Num.Mag, .bool x.In.From.R.Den.Neg, .string x.In.From.R.Den.Mag, .bool x.In.From.Neg, .bool x.In.To.P.Num.Neg, .string x.In.To.P.Num.Mag, .bool x.In.To.P.Den.Neg, .string x.In.To.P.Den.Mag, .bool x.In.To.R.Num.Neg, .string x.In.To.R.Num.Mag, .bool x.In.To.R.Den.Neg, .string x.In.To.R.Den.Mag, .bool x.In.To.Neg, .bool x.In.OpenFrom, .bool x.In.OpenTo, .bool x.F.X0.Num.Neg, .string x.F.X0.Num.Mag, .bool x.F.X0.Den.Neg, .string x.F.X0.Den.Mag, .bool x.F.X1.Num.Neg, .string x.F.X1.Num.Mag, .bool x.F.X1.Den.Neg, .string x.F.X1.Den.Mag, .bool x.F.Y0.Num.Neg, .string x.F.Y0.Num.Mag, .bool x.F.Y0.Den.Neg, .string x.F.Y0.Den.Mag, .bool x.F.Y1.Num.Neg, .string x.F.Y1.Num.Mag, .bool x.F.Y1.Den.Neg, .string x.F.Y1.Den.Mag]
instance cs_api_PointUnit (x : api_PointUnit) : CsC (e_api_PointUnit x) 36 := ⟨by kernel_rfl, by kernel_rfl⟩
structure movingpoint_Sample where
  T : api_Rat
  P : api_Point
  deriving DecidableEq
def e_movingpoint_Sample (x : movingpoint_Sample) : Array Value := #[.bool x.T.Num.Neg, .string x.T.Num.Mag, .bool x.T.Den.Neg, .string x.T.Den.Mag, .bool x.P.X.Num.Neg, .string x.P.X.Num.Mag, .bool x.P.X.Den.Neg, .string x.P.X.Den.Mag, .bool x.P.Y.Num.Neg, .string x.P.Y.Num.Mag, .bool x.P.Y.Den.Neg, .string x.P.Y.Den.Mag]
instance cs_movingpoint_Sample (x : movingpoint_Sample) : CsC (e_movingpoint_Sample x) 12 := ⟨by kernel_rfl, by kernel_rfl⟩
structure api_Exchange where
  From : Int
  To : Int
  Sent : Int
  Received : Int
  Least : Int
  deriving DecidableEq
def e_api_Exchange (x : api_Exchange) : Array Value := #[.int .i64 x.From, .int .i64 x.To, .int .i64 x.Sent, .int .i64 x.Received, .int .i64 x.Least]
def z_api_Exchange : api_Exchange := ⟨0, 0, 0, 0, 0⟩
instance cs_api_Exchange (x : api_Exchange) : CsC (e_api_Exchange x) 5 := ⟨by kernel_rfl, by kernel_rfl⟩
structure api_Quad where
  C0 : api_Rat
  C1 : api_Rat
  C2 : api_Rat
  deriving DecidableEq
def e_api_Quad (x : api_Quad) : Array Value := #[.bool x.C0.Num.Neg, .string x.C0.Num.Mag, .bool x.C0.Den.Neg, .string x.C0.Den.Mag, .bool x.C1.Num.Neg, .string x.C1.Num.Mag, .bool x.C1.Den.Neg, .string x.C1.Den.Mag, .bool x.C2.Num.Neg, .string x.C2.Num.Mag, .bool x.C2.Den.Neg, .string x.C2.Den.Mag]
instance cs_api_Quad (x : api_Quad) : CsC (e_api_Quad x) 12 := ⟨by kernel_rfl, by kernel_rfl⟩
structure pieces_Unit_api_Line where
  In : api_Interval
  F : api_Line
  deriving DecidableEq
def e_pieces_Unit_api_Line (x : pieces_Unit_api_Line) : Array Value := #[.bool x.In.From.P.Num.Neg, .string x.In.From.P.Num.Mag, .bool x.In.From.P.Den.Neg, .string x.In.From.P.Den.Mag, .bool x.In.From.R.Num.Neg, .string x.In.From.R.Num.Mag, .bool x.In.From.R.Den.Neg, .string x.In.From.R.Den.Mag, .bool x.In.From.Neg, .bool x.In.To.P.Num.Neg, .string x.In.To.P.Num.Mag, .bool x.In.To.P.Den.Neg, .string x.In.To.P.Den.Mag, .bool x.In.To.R.Num.Neg, .string x.In.To.R.Num.Mag, .bool x.In.To.R.Den.Neg, .string x.In.To.R.Den.Mag, .bool x.In.To.Neg, .bool x.In.OpenFrom, .bool x.In.OpenTo, .bool x.F.X0.Num.Neg, .string x.F.X0.Num.Mag, .bool x.F.X0.Den.Neg, .string x.F.X0.Den.Mag, .bool x.F.X1.Num.Neg, .string x.F.X1.Num.Mag, .bool x.F.X1.Den.Neg, .string x.F.X1.Den.Mag, .bool x.F.Y0.Num.Neg, .string x.F.Y0.Num.Mag, .bool x.F.Y0.Den.Neg, .string x.F.Y0.Den.Mag, .bool x.F.Y1.Num.Neg, .string x.F.Y1.Num.Mag, .bool x.F.Y1.Den.Neg, .string x.F.Y1.Den.Mag]
instance cs_pieces_Unit_api_Line (x : pieces_Unit_api_Line) : CsC (e_pieces_Unit_api_Line x) 36 := ⟨by kernel_rfl, by kernel_rfl⟩
structure report_identity where
  object : Int
  seq : Int
  deriving DecidableEq
def e_report_identity (x : report_identity) : Array Value := #[.int .i64 x.object, .int .i64 x.seq]
def z_report_identity : report_identity := ⟨0, 0⟩
instance cs_report_identity (x : report_identity) : CsC (e_report_identity x) 2 := ⟨by kernel_rfl, by kernel_rfl⟩
structure period_border where
  at_ : api_Real
  behind : Bool
  deriving DecidableEq
def e_period_border (x : period_border) : Array Value := #[.bool x.at_.P.Num.Neg, .string x.at_.P.Num.Mag, .bool x.at_.P.Den.Neg, .string x.at_.P.Den.Mag, .bool x.at_.R.Num.Neg, .string x.at_.R.Num.Mag, .bool x.at_.R.Den.Neg, .string x.at_.R.Den.Mag, .bool x.at_.Neg, .bool x.behind]
instance cs_period_border (x : period_border) : CsC (e_period_border x) 10 := ⟨by kernel_rfl, by kernel_rfl⟩
structure clock_Bounds where
  Low : Int
  High : Int
  deriving DecidableEq
def e_clock_Bounds (x : clock_Bounds) : Array Value := #[.int .i64 x.Low, .int .i64 x.High]
def z_clock_Bounds : clock_Bounds := ⟨0, 0⟩
instance cs_clock_Bounds (x : clock_Bounds) : CsC (e_clock_Bounds x) 2 := ⟨by kernel_rfl, by kernel_rfl⟩
instance und_2 : UndC Tryz.prog 2 (.int .i64) := ⟨by kernel_rfl⟩
instance und_3 : UndC Tryz.prog 3 (.int .i64) := ⟨by kernel_rfl⟩
instance und_4 : UndC Tryz.prog 4 (.bool) := ⟨by kernel_rfl⟩
instance und_5 : UndC Tryz.prog 5 (.int .u8) := ⟨by kernel_rfl⟩
instance und_9 : UndC Tryz.prog 9 (.string) := ⟨by kernel_rfl⟩
instance und_22 : UndC Tryz.prog 22 (.slice 52) := ⟨by kernel_rfl⟩
instance und_23 : UndC Tryz.prog 23 (.slice 36) := ⟨by kernel_rfl⟩
instance und_40 : UndC Tryz.prog 40 (.slice 3) := ⟨by kernel_rfl⟩
instance und_46 : UndC Tryz.prog 46 (.slice 87) := ⟨by kernel_rfl⟩
instance und_72 : UndC Tryz.prog 72 (.slice 34) := ⟨by kernel_rfl⟩
instance und_73 : UndC Tryz.prog 73 (.slice 119) := ⟨by kernel_rfl⟩
instance und_76 : UndC Tryz.prog 76 (.slice 83) := ⟨by kernel_rfl⟩
instance und_89 : UndC Tryz.prog 89 (.slice 91) := ⟨by kernel_rfl⟩
instance und_97 : UndC Tryz.prog 97 (.slice 136) := ⟨by kernel_rfl⟩
instance und_146 : UndC Tryz.prog 146 (.int .u64) := ⟨by kernel_rfl⟩
instance und_194 : UndC Tryz.prog 194 (.slice 5) := ⟨by kernel_rfl⟩
instance und_204 : UndC Tryz.prog 204 (.slice 206) := ⟨by kernel_rfl⟩
instance und_206 : UndC Tryz.prog 206 (.int .u32) := ⟨by kernel_rfl⟩
instance und_207 : UndC Tryz.prog 207 (.int .u64) := ⟨by kernel_rfl⟩
instance und_193 : UndC Tryz.prog 193 (.array 8 5) := ⟨by kernel_rfl⟩
instance und_216 : UndC Tryz.prog 216 (.array 8 3) := ⟨by kernel_rfl⟩
instance bytes_3 : BytesC Tryz.prog 3 8 := ⟨by kernel_rfl⟩
instance bytes_5 : BytesC Tryz.prog 5 1 := ⟨by kernel_rfl⟩
instance bytes_34 : BytesC Tryz.prog 34 64 := ⟨by kernel_rfl⟩
instance bytes_36 : BytesC Tryz.prog 36 112 := ⟨by kernel_rfl⟩
instance bytes_83 : BytesC Tryz.prog 83 216 := ⟨by kernel_rfl⟩
instance bytes_87 : BytesC Tryz.prog 87 408 := ⟨by kernel_rfl⟩
instance bytes_91 : BytesC Tryz.prog 91 144 := ⟨by kernel_rfl⟩
instance bytes_119 : BytesC Tryz.prog 119 40 := ⟨by kernel_rfl⟩
instance bytes_136 : BytesC Tryz.prog 136 408 := ⟨by kernel_rfl⟩
instance bytes_206 : BytesC Tryz.prog 206 4 := ⟨by kernel_rfl⟩
instance zero_3 : ZeroC Tryz.prog 3 (.int .i64 0) #[.int .i64 0] := ⟨by kernel_rfl, by kernel_rfl⟩
instance size_3 : SizeC Tryz.prog 3 1 := ⟨by kernel_rfl⟩
instance one_3 (x : Int) : LdC Tryz.prog 3 #[.int .i64 x] 0 (.int .i64 x) := ⟨ldv_one (by kernel_rfl) (by kernel_rfl)⟩
instance zero_4 : ZeroC Tryz.prog 4 (.bool false) #[.bool false] := ⟨by kernel_rfl, by kernel_rfl⟩
instance zero_5 : ZeroC Tryz.prog 5 (.int .u8 0) #[.int .u8 0] := ⟨by kernel_rfl, by kernel_rfl⟩
instance size_5 : SizeC Tryz.prog 5 1 := ⟨by kernel_rfl⟩
instance zero_26 : ZeroC Tryz.prog 26 (.agg (e_api_Settings z_api_Settings)) (e_api_Settings z_api_Settings) := ⟨by kernel_rfl, by kernel_rfl⟩
instance size_26 : SizeC Tryz.prog 26 2 := ⟨by kernel_rfl⟩
instance zero_30 : ZeroC Tryz.prog 30 (.agg (e_api_Int z_api_Int)) (e_api_Int z_api_Int) := ⟨by kernel_rfl, by kernel_rfl⟩
instance size_30 : SizeC Tryz.prog 30 2 := ⟨by kernel_rfl⟩
instance zero_32 : ZeroC Tryz.prog 32 (.agg (e_api_Rat z_api_Rat)) (e_api_Rat z_api_Rat) := ⟨by kernel_rfl, by kernel_rfl⟩
instance size_32 : SizeC Tryz.prog 32 4 := ⟨by kernel_rfl⟩
instance zero_34 : ZeroC Tryz.prog 34 (.agg (e_api_Report z_api_Report)) (e_api_Report z_api_Report) := ⟨by kernel_rfl, by kernel_rfl⟩
instance size_34 : SizeC Tryz.prog 34 8 := ⟨by kernel_rfl⟩
instance size_36 : SizeC Tryz.prog 36 12 := ⟨by kernel_rfl⟩
instance one_40 (x : Option Addr) (l c : Nat) : LdC Tryz.prog 40 #[.slice x l c] 0 (.slice x l c) := ⟨ldv_one (by kernel_rfl) (by kernel_rfl)⟩
instance size_52 : SizeC Tryz.prog 52 3 := ⟨by kernel_rfl⟩
instance size_65 : SizeC Tryz.prog 65 8 := ⟨by kernel_rfl⟩
instance one_72 (x : Option Addr) (l c : Nat) : LdC Tryz.prog 72 #[.slice x l c] 0 (.slice x l c) := ⟨ldv_one (by kernel_rfl) (by kernel_rfl)⟩
instance one_73 (x : Option Addr) (l c : Nat) : LdC Tryz.prog 73 #[.slice x l c] 0 (.slice x l c) := ⟨ldv_one (by kernel_rfl) (by kernel_rfl)⟩
instance size_81 : SizeC Tryz.prog 81 9 := ⟨by kernel_rfl⟩
instance size_83 : SizeC Tryz.prog 83 20 := ⟨by kernel_rfl⟩
instance size_85 : SizeC Tryz.prog 85 16 := ⟨by kernel_rfl⟩
instance size_87 : SizeC Tryz.prog 87 36 := ⟨by kernel_rfl⟩
instance size_91 : SizeC Tryz.prog 91 12 := ⟨by kernel_rfl⟩
instance zero_97 : ZeroC Tryz.prog 97 (.slice none 0 0) #[.slice none 0 0] := ⟨by kernel_rfl, by kernel_rfl⟩
instance size_97 : SizeC Tryz.prog 97 1 := ⟨by kernel_rfl⟩
instance zero_119 : ZeroC Tryz.prog 119 (.agg (e_api_Exchange z_api_Exchange)) (e_api_Exchange z_api_Exchange) := ⟨by kernel_rfl, by kernel_rfl⟩
instance size_119 : SizeC Tryz.prog 119 5 := ⟨by kernel_rfl⟩
instance size_131 : SizeC Tryz.prog 131 12 := ⟨by kernel_rfl⟩
instance size_136 : SizeC Tryz.prog 136 36 := ⟨by kernel_rfl⟩
instance zero_161 : ZeroC Tryz.prog 161 (.agg (e_report_identity z_report_identity)) (e_report_identity z_report_identity) := ⟨by kernel_rfl, by kernel_rfl⟩
instance size_161 : SizeC Tryz.prog 161 2 := ⟨by kernel_rfl⟩
instance size_178 : SizeC Tryz.prog 178 10 := ⟨by kernel_rfl⟩
instance zero_193 : ZeroC Tryz.prog 193 (.agg (nums .u8 [0, 0, 0, 0, 0, 0, 0, 0])) (nums .u8 [0, 0, 0, 0, 0, 0, 0, 0]) := ⟨by kernel_rfl, by kernel_rfl⟩
instance zero_206 : ZeroC Tryz.prog 206 (.int .u32 0) #[.int .u32 0] := ⟨by kernel_rfl, by kernel_rfl⟩
instance size_206 : SizeC Tryz.prog 206 1 := ⟨by kernel_rfl⟩
instance zero_216 : ZeroC Tryz.prog 216 (.agg (nums .i64 [0, 0, 0, 0, 0, 0, 0, 0])) (nums .i64 [0, 0, 0, 0, 0, 0, 0, 0]) := ⟨by kernel_rfl, by kernel_rfl⟩
instance size_216 : SizeC Tryz.prog 216 8 := ⟨by kernel_rfl⟩
instance zero_251 : ZeroC Tryz.prog 251 (.agg (e_clock_Bounds z_clock_Bounds)) (e_clock_Bounds z_clock_Bounds) := ⟨by kernel_rfl, by kernel_rfl⟩
instance size_251 : SizeC Tryz.prog 251 2 := ⟨by kernel_rfl⟩
instance fa_36_0 : FaC Tryz.prog 36 0 0 := ⟨fun b o w => by kernel_rfl⟩
instance fa_36_1 : FaC Tryz.prog 36 1 4 := ⟨fun b o w => by kernel_rfl⟩
instance fa_52_0 : FaC Tryz.prog 52 0 0 := ⟨fun b o w => by kernel_rfl⟩
instance fa_52_1 : FaC Tryz.prog 52 1 1 := ⟨fun b o w => by kernel_rfl⟩
instance fa_52_2 : FaC Tryz.prog 52 2 2 := ⟨fun b o w => by kernel_rfl⟩
instance fa_65_0 : FaC Tryz.prog 65 0 0 := ⟨fun b o w => by kernel_rfl⟩
instance fa_65_1 : FaC Tryz.prog 65 1 4 := ⟨fun b o w => by kernel_rfl⟩
instance fa_83_0 : FaC Tryz.prog 83 0 0 := ⟨fun b o w => by kernel_rfl⟩
instance fa_83_1 : FaC Tryz.prog 83 1 9 := ⟨fun b o w => by kernel_rfl⟩
instance fa_83_3 : FaC Tryz.prog 83 3 19 := ⟨fun b o w => by kernel_rfl⟩
instance fa_87_0 : FaC Tryz.prog 87 0 0 := ⟨fun b o w => by kernel_rfl⟩
instance fa_87_1 : FaC Tryz.prog 87 1 20 := ⟨fun b o w => by kernel_rfl⟩
instance fa_91_0 : FaC Tryz.prog 91 0 0 := ⟨fun b o w => by kernel_rfl⟩
instance fa_91_1 : FaC Tryz.prog 91 1 4 := ⟨fun b o w => by kernel_rfl⟩
instance fa_136_0 : FaC Tryz.prog 136 0 0 := ⟨fun b o w => by kernel_rfl⟩
instance fa_136_1 : FaC Tryz.prog 136 1 20 := ⟨fun b o w => by kernel_rfl⟩
instance fo_26_0_0 : FaO Tryz.prog 26 0 0 0 := ⟨fun b w => by kernel_rfl⟩
instance fo_26_1_0 : FaO Tryz.prog 26 1 0 1 := ⟨fun b w => by kernel_rfl⟩
instance fo_30_0_0 : FaO Tryz.prog 30 0 0 0 := ⟨fun b w => by kernel_rfl⟩
instance fo_30_1_0 : FaO Tryz.prog 30 1 0 1 := ⟨fun b w => by kernel_rfl⟩
instance fo_32_0_0 : FaO Tryz.prog 32 0 0 0 := ⟨fun b w => by kernel_rfl⟩
instance fo_32_1_0 : FaO Tryz.prog 32 1 0 2 := ⟨fun b w => by kernel_rfl⟩
instance fo_34_0_0 : FaO Tryz.prog 34 0 0 0 := ⟨fun b w => by kernel_rfl⟩
instance fo_34_1_0 : FaO Tryz.prog 34 1 0 1 := ⟨fun b w => by kernel_rfl⟩
instance fo_34_1_4 : FaO Tryz.prog 34 1 4 5 := ⟨fun b w => by kernel_rfl⟩
instance fo_34_2_0 : FaO Tryz.prog 34 2 0 2 := ⟨fun b w => by kernel_rfl⟩
instance fo_34_3_0 : FaO Tryz.prog 34 3 0 3 := ⟨fun b w => by kernel_rfl⟩
instance fo_34_4_0 : FaO Tryz.prog 34 4 0 4 := ⟨fun b w => by kernel_rfl⟩
instance fo_34_5_0 : FaO Tryz.prog 34 5 0 5 := ⟨fun b w => by kernel_rfl⟩
instance fo_34_5_4 : FaO Tryz.prog 34 5 4 9 := ⟨fun b w => by kernel_rfl⟩
instance fo_34_6_0 : FaO Tryz.prog 34 6 0 6 := ⟨fun b w => by kernel_rfl⟩
instance fo_34_6_4 : FaO Tryz.prog 34 6 4 10 := ⟨fun b w => by kernel_rfl⟩
instance fo_34_7_0 : FaO Tryz.prog 34 7 0 7 := ⟨fun b w => by kernel_rfl⟩
instance fo_36_0_0 : FaO Tryz.prog 36 0 0 0 := ⟨fun b w => by kernel_rfl⟩
instance fo_36_1_0 : FaO Tryz.prog 36 1 0 4 := ⟨fun b w => by kernel_rfl⟩
instance fo_58_1_0 : FaO Tryz.prog 58 1 0 1 := ⟨fun b w => by kernel_rfl⟩
instance fo_58_2_0 : FaO Tryz.prog 58 2 0 2 := ⟨fun b w => by kernel_rfl⟩
instance fo_65_0_0 : FaO Tryz.prog 65 0 0 0 := ⟨fun b w => by kernel_rfl⟩
instance fo_65_0_4 : FaO Tryz.prog 65 0 4 4 := ⟨fun b w => by kernel_rfl⟩
instance fo_65_1_0 : FaO Tryz.prog 65 1 0 4 := ⟨fun b w => by kernel_rfl⟩
instance fo_65_1_4 : FaO Tryz.prog 65 1 4 8 := ⟨fun b w => by kernel_rfl⟩
instance fo_75_0_0 : FaO Tryz.prog 75 0 0 0 := ⟨fun b w => by kernel_rfl⟩
instance fo_75_1_0 : FaO Tryz.prog 75 1 0 1 := ⟨fun b w => by kernel_rfl⟩
instance fo_81_0_0 : FaO Tryz.prog 81 0 0 0 := ⟨fun b w => by kernel_rfl⟩
instance fo_81_1_0 : FaO Tryz.prog 81 1 0 4 := ⟨fun b w => by kernel_rfl⟩
instance fo_81_2_0 : FaO Tryz.prog 81 2 0 8 := ⟨fun b w => by kernel_rfl⟩
instance fo_83_0_0 : FaO Tryz.prog 83 0 0 0 := ⟨fun b w => by kernel_rfl⟩
instance fo_83_1_0 : FaO Tryz.prog 83 1 0 9 := ⟨fun b w => by kernel_rfl⟩
instance fo_83_2_0 : FaO Tryz.prog 83 2 0 18 := ⟨fun b w => by kernel_rfl⟩
instance fo_83_3_0 : FaO Tryz.prog 83 3 0 19 := ⟨fun b w => by kernel_rfl⟩
instance fo_85_0_0 : FaO Tryz.prog 85 0 0 0 := ⟨fun b w => by kernel_rfl⟩
instance fo_85_1_0 : FaO Tryz.prog 85 1 0 4 := ⟨fun b w => by kernel_rfl⟩
instance fo_85_2_0 : FaO Tryz.prog 85 2 0 8 := ⟨fun b w => by kernel_rfl⟩
instance fo_85_3_0 : FaO Tryz.prog 85 3 0 12 := ⟨fun b w => by kernel_rfl⟩
instance fo_87_0_0 : FaO Tryz.prog 87 0 0 0 := ⟨fun b w => by kernel_rfl⟩
instance fo_87_1_0 : FaO Tryz.prog 87 1 0 20 := ⟨fun b w => by kernel_rfl⟩
instance fo_91_0_0 : FaO Tryz.prog 91 0 0 0 := ⟨fun b w => by kernel_rfl⟩
instance fo_91_1_0 : FaO Tryz.prog 91 1 0 4 := ⟨fun b w => by kernel_rfl⟩
instance fo_119_0_0 : FaO Tryz.prog 119 0 0 0 := ⟨fun b w => by kernel_rfl⟩
instance fo_119_1_0 : FaO Tryz.prog 119 1 0 1 := ⟨fun b w => by kernel_rfl⟩
instance fo_119_2_0 : FaO Tryz.prog 119 2 0 2 := ⟨fun b w => by kernel_rfl⟩
instance fo_119_3_0 : FaO Tryz.prog 119 3 0 3 := ⟨fun b w => by kernel_rfl⟩
instance fo_119_4_0 : FaO Tryz.prog 119 4 0 4 := ⟨fun b w => by kernel_rfl⟩
instance fo_131_0_0 : FaO Tryz.prog 131 0 0 0 := ⟨fun b w => by kernel_rfl⟩
instance fo_131_1_0 : FaO Tryz.prog 131 1 0 4 := ⟨fun b w => by kernel_rfl⟩
instance fo_131_2_0 : FaO Tryz.prog 131 2 0 8 := ⟨fun b w => by kernel_rfl⟩
instance fo_136_0_0 : FaO Tryz.prog 136 0 0 0 := ⟨fun b w => by kernel_rfl⟩
instance fo_136_1_0 : FaO Tryz.prog 136 1 0 20 := ⟨fun b w => by kernel_rfl⟩
instance fo_178_0_0 : FaO Tryz.prog 178 0 0 0 := ⟨fun b w => by kernel_rfl⟩
instance fo_178_1_0 : FaO Tryz.prog 178 1 0 9 := ⟨fun b w => by kernel_rfl⟩
instance fo_251_0_0 : FaO Tryz.prog 251 0 0 0 := ⟨fun b w => by kernel_rfl⟩
instance fo_251_1_0 : FaO Tryz.prog 251 1 0 1 := ⟨fun b w => by kernel_rfl⟩
instance ld_26_26_0 (x : api_Settings) : LdC Tryz.prog 26 (e_api_Settings x) 0 (.agg (e_api_Settings x)) := ⟨ldv_agg 2 (by kernel_rfl) (by kernel_rfl) (by kernel_rfl)⟩
instance ld_26_3_0 (x : api_Settings) : LdC Tryz.prog 3 (e_api_Settings x) 0 (.int .i64 x.MaxSpeed) := ⟨ldv_one (by kernel_rfl) (by kernel_rfl)⟩
instance ld_26_3_1 (x : api_Settings) : LdC Tryz.prog 3 (e_api_Settings x) 1 (.int .i64 x.MaxGap) := ⟨ldv_one (by kernel_rfl) (by kernel_rfl)⟩
instance ld_30_30_0 (x : api_Int) : LdC Tryz.prog 30 (e_api_Int x) 0 (.agg (e_api_Int x)) := ⟨ldv_agg 2 (by kernel_rfl) (by kernel_rfl) (by kernel_rfl)⟩
instance ld_30_4_0 (x : api_Int) : LdC Tryz.prog 4 (e_api_Int x) 0 (.bool x.Neg) := ⟨ldv_one (by kernel_rfl) (by kernel_rfl)⟩
instance ld_30_9_1 (x : api_Int) : LdC Tryz.prog 9 (e_api_Int x) 1 (.string x.Mag) := ⟨ldv_one (by kernel_rfl) (by kernel_rfl)⟩
instance ld_32_32_0 (x : api_Rat) : LdC Tryz.prog 32 (e_api_Rat x) 0 (.agg (e_api_Rat x)) := ⟨ldv_agg 4 (by kernel_rfl) (by kernel_rfl) (by kernel_rfl)⟩
instance ld_32_30_0 (x : api_Rat) : LdC Tryz.prog 30 (e_api_Rat x) 0 (.agg (e_api_Int x.Num)) := ⟨ldv_agg 2 (by kernel_rfl) (by kernel_rfl) (by kernel_rfl)⟩
instance ld_32_30_2 (x : api_Rat) : LdC Tryz.prog 30 (e_api_Rat x) 2 (.agg (e_api_Int x.Den)) := ⟨ldv_agg 2 (by kernel_rfl) (by kernel_rfl) (by kernel_rfl)⟩
instance ld_34_34_0 (x : api_Report) : LdC Tryz.prog 34 (e_api_Report x) 0 (.agg (e_api_Report x)) := ⟨ldv_agg 8 (by kernel_rfl) (by kernel_rfl) (by kernel_rfl)⟩
instance ld_34_3_0 (x : api_Report) : LdC Tryz.prog 3 (e_api_Report x) 0 (.int .i64 x.Object) := ⟨ldv_one (by kernel_rfl) (by kernel_rfl)⟩
instance ld_34_3_1 (x : api_Report) : LdC Tryz.prog 3 (e_api_Report x) 1 (.int .i64 x.Seq) := ⟨ldv_one (by kernel_rfl) (by kernel_rfl)⟩
instance ld_34_3_2 (x : api_Report) : LdC Tryz.prog 3 (e_api_Report x) 2 (.int .i64 x.Version) := ⟨ldv_one (by kernel_rfl) (by kernel_rfl)⟩
instance ld_34_3_3 (x : api_Report) : LdC Tryz.prog 3 (e_api_Report x) 3 (.int .i64 x.Device) := ⟨ldv_one (by kernel_rfl) (by kernel_rfl)⟩
instance ld_34_3_4 (x : api_Report) : LdC Tryz.prog 3 (e_api_Report x) 4 (.int .i64 x.Time) := ⟨ldv_one (by kernel_rfl) (by kernel_rfl)⟩
instance ld_34_3_5 (x : api_Report) : LdC Tryz.prog 3 (e_api_Report x) 5 (.int .i64 x.X) := ⟨ldv_one (by kernel_rfl) (by kernel_rfl)⟩
instance ld_34_3_6 (x : api_Report) : LdC Tryz.prog 3 (e_api_Report x) 6 (.int .i64 x.Y) := ⟨ldv_one (by kernel_rfl) (by kernel_rfl)⟩
instance ld_34_4_7 (x : api_Report) : LdC Tryz.prog 4 (e_api_Report x) 7 (.bool x.Cancel) := ⟨ldv_one (by kernel_rfl) (by kernel_rfl)⟩
instance ld_36_34_4 (x : intake_Timed) : LdC Tryz.prog 34 (e_intake_Timed x) 4 (.agg (e_api_Report x.Report)) := ⟨ldv_agg 8 (by kernel_rfl) (by kernel_rfl) (by kernel_rfl)⟩
instance ld_52_5_0 (x : viatorlaw28_Spot) : LdC Tryz.prog 5 (e_viatorlaw28_Spot x) 0 (.int .u8 x.Later) := ⟨ldv_one (by kernel_rfl) (by kernel_rfl)⟩
instance ld_52_5_1 (x : viatorlaw28_Spot) : LdC Tryz.prog 5 (e_viatorlaw28_Spot x) 1 (.int .u8 x.X) := ⟨ldv_one (by kernel_rfl) (by kernel_rfl)⟩
instance ld_52_5_2 (x : viatorlaw28_Spot) : LdC Tryz.prog 5 (e_viatorlaw28_Spot x) 2 (.int .u8 x.Y) := ⟨ldv_one (by kernel_rfl) (by kernel_rfl)⟩
instance ld_58_5_1 (x : viatorlaw28_World) : LdC Tryz.prog 5 (e_viatorlaw28_World x) 1 (.int .u8 x.Speed) := ⟨ldv_one (by kernel_rfl) (by kernel_rfl)⟩
instance ld_58_5_2 (x : viatorlaw28_World) : LdC Tryz.prog 5 (e_viatorlaw28_World x) 2 (.int .u8 x.Gap) := ⟨ldv_one (by kernel_rfl) (by kernel_rfl)⟩
instance ld_75_75_0 (x : api_Batch) : LdC Tryz.prog 75 (e_api_Batch x) 0 (.agg (e_api_Batch x)) := ⟨ldv_agg 2 (by kernel_rfl) (by kernel_rfl) (by kernel_rfl)⟩
instance ld_75_72_0 (x : api_Batch) : LdC Tryz.prog 72 (e_api_Batch x) 0 (.slice x.Reports.a x.Reports.len x.Reports.cap) := ⟨ldv_one (by kernel_rfl) (by kernel_rfl)⟩
instance ld_75_73_1 (x : api_Batch) : LdC Tryz.prog 73 (e_api_Batch x) 1 (.slice x.Exchanges.a x.Exchanges.len x.Exchanges.cap) := ⟨ldv_one (by kernel_rfl) (by kernel_rfl)⟩
instance ld_119_119_0 (x : api_Exchange) : LdC Tryz.prog 119 (e_api_Exchange x) 0 (.agg (e_api_Exchange x)) := ⟨ldv_agg 5 (by kernel_rfl) (by kernel_rfl) (by kernel_rfl)⟩
instance ld_119_3_0 (x : api_Exchange) : LdC Tryz.prog 3 (e_api_Exchange x) 0 (.int .i64 x.From) := ⟨ldv_one (by kernel_rfl) (by kernel_rfl)⟩
instance ld_119_3_1 (x : api_Exchange) : LdC Tryz.prog 3 (e_api_Exchange x) 1 (.int .i64 x.To) := ⟨ldv_one (by kernel_rfl) (by kernel_rfl)⟩
instance ld_119_3_2 (x : api_Exchange) : LdC Tryz.prog 3 (e_api_Exchange x) 2 (.int .i64 x.Sent) := ⟨ldv_one (by kernel_rfl) (by kernel_rfl)⟩
instance ld_119_3_3 (x : api_Exchange) : LdC Tryz.prog 3 (e_api_Exchange x) 3 (.int .i64 x.Received) := ⟨ldv_one (by kernel_rfl) (by kernel_rfl)⟩
instance ld_119_3_4 (x : api_Exchange) : LdC Tryz.prog 3 (e_api_Exchange x) 4 (.int .i64 x.Least) := ⟨ldv_one (by kernel_rfl) (by kernel_rfl)⟩
instance ld_161_161_0 (x : report_identity) : LdC Tryz.prog 161 (e_report_identity x) 0 (.agg (e_report_identity x)) := ⟨ldv_agg 2 (by kernel_rfl) (by kernel_rfl) (by kernel_rfl)⟩
instance ld_251_251_0 (x : clock_Bounds) : LdC Tryz.prog 251 (e_clock_Bounds x) 0 (.agg (e_clock_Bounds x)) := ⟨ldv_agg 2 (by kernel_rfl) (by kernel_rfl) (by kernel_rfl)⟩
instance ld_251_3_0 (x : clock_Bounds) : LdC Tryz.prog 3 (e_clock_Bounds x) 0 (.int .i64 x.Low) := ⟨ldv_one (by kernel_rfl) (by kernel_rfl)⟩
instance ld_251_3_1 (x : clock_Bounds) : LdC Tryz.prog 3 (e_clock_Bounds x) 1 (.int .i64 x.High) := ⟨ldv_one (by kernel_rfl) (by kernel_rfl)⟩
instance bd_26_0_1 (x0 : Int) (x1 : Int) : BdC Tryz.prog 26 [(0, .int .i64 x0), (1, .int .i64 x1)] (.agg (e_api_Settings ⟨x0, x1⟩)) := ⟨fun w => by kernel_rfl⟩
instance bd_30_ : BdC Tryz.prog 30 [] (.agg (e_api_Int z_api_Int)) := ⟨fun w => by kernel_rfl⟩
instance bd_30_0_1 (x0 : Bool) (x1 : ByteArray) : BdC Tryz.prog 30 [(0, .bool x0), (1, .string x1)] (.agg (e_api_Int ⟨x0, x1⟩)) := ⟨fun w => by kernel_rfl⟩
instance bd_32_ : BdC Tryz.prog 32 [] (.agg (e_api_Rat z_api_Rat)) := ⟨fun w => by kernel_rfl⟩
instance bd_32_0 (x0 : api_Int) : BdC Tryz.prog 32 [(0, .agg (e_api_Int x0))] (.agg (e_api_Rat ⟨x0, z_api_Int⟩)) := ⟨fun w => by kernel_rfl⟩
instance bd_32_0_1 (x0 : api_Int) (x1 : api_Int) : BdC Tryz.prog 32 [(0, .agg (e_api_Int x0)), (1, .agg (e_api_Int x1))] (.agg (e_api_Rat ⟨x0, x1⟩)) := ⟨fun w => by kernel_rfl⟩
instance bd_34_0_1_4_5_6 (x0 : Int) (x1 : Int) (x4 : Int) (x5 : Int) (x6 : Int) : BdC Tryz.prog 34 [(0, .int .i64 x0), (1, .int .i64 x1), (4, .int .i64 x4), (5, .int .i64 x5), (6, .int .i64 x6)] (.agg (e_api_Report ⟨x0, x1, 0, 0, x4, x5, x6, false⟩)) := ⟨fun w => by kernel_rfl⟩
instance bd_58_1_2 (x1 : Int) (x2 : Int) : BdC Tryz.prog 58 [(1, .int .u8 x1), (2, .int .u8 x2)] (.agg (e_viatorlaw28_World ⟨⟨none, 0, 0⟩, x1, x2⟩)) := ⟨fun w => by kernel_rfl⟩
instance bd_75_0 (x0 : Option Addr) (x0l x0c : Nat) : BdC Tryz.prog 75 [(0, .slice x0 x0l x0c)] (.agg (e_api_Batch ⟨⟨x0, x0l, x0c⟩, ⟨none, 0, 0⟩⟩)) := ⟨fun w => by kernel_rfl⟩
instance bd_161_0_1 (x0 : Int) (x1 : Int) : BdC Tryz.prog 161 [(0, .int .i64 x0), (1, .int .i64 x1)] (.agg (e_report_identity ⟨x0, x1⟩)) := ⟨fun w => by kernel_rfl⟩
instance bd_251_ : BdC Tryz.prog 251 [] (.agg (e_clock_Bounds z_clock_Bounds)) := ⟨fun w => by kernel_rfl⟩
theorem eqIn_30 (d : Nat) (w : World) (x y : api_Int) : (Op.equalIn (d + 2) 30 (.agg (e_api_Int x)) (.agg (e_api_Int y))).run Tryz.prog w = .ok (decide (x = y)) w := by
  have p0 : ∀ (z : api_Int) (u : World), (part 4 (e_api_Int z) 0).run Tryz.prog u = .ok (.bool z.Neg) u := fun _ _ => by kernel_rfl
  have q0 : ∀ (u : World), (Op.equalIn (d + 1) 4 (.bool x.Neg) (.bool y.Neg)).run Tryz.prog u = .ok (decide (x.Neg = y.Neg)) u := fun u => by rw [run_equalIn_bool' u (d + 0) 4 _ _ (by kernel_rfl), beq_decO]
  have p1 : ∀ (z : api_Int) (u : World), (part 9 (e_api_Int z) 1).run Tryz.prog u = .ok (.string z.Mag) u := fun _ _ => by kernel_rfl
  have q1 : ∀ (u : World), (Op.equalIn (d + 1) 9 (.string x.Mag) (.string y.Mag)).run Tryz.prog u = .ok (decide (x.Mag = y.Mag)) u := fun u => by rw [run_equalIn_string u (d + 0) 9 _ _ (by kernel_rfl), ← beq_toListBytes, beq_decB]
  have hf : (Tryz.prog.fieldsOf 30).toList = [{ name := "Neg", type := 4, offset := 0, embedded := false, tag := "", pkgPath := "", byteOffset := 0 }, { name := "Mag", type := 9, offset := 1, embedded := false, tag := "", pkgPath := "", byteOffset := 8 }] := by kernel_rfl
  rw [run_equalIn_struct w (d + 1) 30 _ _ (by kernel_rfl) (by kernel_rfl), hf]
  have hx : x = y ↔ (x.Neg = y.Neg ∧ x.Mag = y.Mag) := by cases x; cases y; simp
  simp only [Op.eqFields, Sem.run_bind, Result.andThen_ok, Sem.run_ite, Sem.run_pure, p0, p1, q0, q1]
  by_cases h0 : x.Neg = y.Neg <;> by_cases h1 : x.Mag = y.Mag <;> simp [hx, h0, h1]
instance eql_30 (x y : api_Int) : BinC Tryz.prog .eql 30 (.agg (e_api_Int x)) (.agg (e_api_Int y)) (.bool (decide (x = y))) := ⟨fun a b w => run_eqGuard_agg w _ _ _ _ _ _ (by kernel_rfl), fun w => by rw [run_eql_struct, eqIn_30 9998]; rfl⟩
instance neq_30 (x y : api_Int) : BinC Tryz.prog .neq 30 (.agg (e_api_Int x)) (.agg (e_api_Int y)) (.bool (!decide (x = y))) := ⟨fun a b w => run_eqGuard_agg w _ _ _ _ _ _ (by kernel_rfl), fun w => by rw [run_neq_struct, eqIn_30 9998]; rfl⟩
theorem eqIn_32 (d : Nat) (w : World) (x y : api_Rat) : (Op.equalIn (d + 3) 32 (.agg (e_api_Rat x)) (.agg (e_api_Rat y))).run Tryz.prog w = .ok (decide (x = y)) w := by
  have p0 : ∀ (z : api_Rat) (u : World), (part 30 (e_api_Rat z) 0).run Tryz.prog u = .ok (.agg (e_api_Int z.Num)) u := fun _ _ => by kernel_rfl
  have q0 : ∀ (u : World), (Op.equalIn (d + 2) 30 (.agg (e_api_Int x.Num)) (.agg (e_api_Int y.Num))).run Tryz.prog u = .ok (decide (x.Num = y.Num)) u := fun u => eqIn_30 (d + 0) u _ _
  have p1 : ∀ (z : api_Rat) (u : World), (part 30 (e_api_Rat z) 2).run Tryz.prog u = .ok (.agg (e_api_Int z.Den)) u := fun _ _ => by kernel_rfl
  have q1 : ∀ (u : World), (Op.equalIn (d + 2) 30 (.agg (e_api_Int x.Den)) (.agg (e_api_Int y.Den))).run Tryz.prog u = .ok (decide (x.Den = y.Den)) u := fun u => eqIn_30 (d + 0) u _ _
  have hf : (Tryz.prog.fieldsOf 32).toList = [{ name := "Num", type := 30, offset := 0, embedded := false, tag := "", pkgPath := "", byteOffset := 0 }, { name := "Den", type := 30, offset := 2, embedded := false, tag := "", pkgPath := "", byteOffset := 24 }] := by kernel_rfl
  rw [run_equalIn_struct w (d + 2) 32 _ _ (by kernel_rfl) (by kernel_rfl), hf]
  have hx : x = y ↔ (x.Num = y.Num ∧ x.Den = y.Den) := by cases x; cases y; simp
  simp only [Op.eqFields, Sem.run_bind, Result.andThen_ok, Sem.run_ite, Sem.run_pure, p0, p1, q0, q1]
  by_cases h0 : x.Num = y.Num <;> by_cases h1 : x.Den = y.Den <;> simp [hx, h0, h1]
instance eql_32 (x y : api_Rat) : BinC Tryz.prog .eql 32 (.agg (e_api_Rat x)) (.agg (e_api_Rat y)) (.bool (decide (x = y))) := ⟨fun a b w => run_eqGuard_agg w _ _ _ _ _ _ (by kernel_rfl), fun w => by rw [run_eql_struct, eqIn_32 9997]; rfl⟩
instance neq_32 (x y : api_Rat) : BinC Tryz.prog .neq 32 (.agg (e_api_Rat x)) (.agg (e_api_Rat y)) (.bool (!decide (x = y))) := ⟨fun a b w => run_eqGuard_agg w _ _ _ _ _ _ (by kernel_rfl), fun w => by rw [run_neq_struct, eqIn_32 9997]; rfl⟩
theorem eqIn_34 (d : Nat) (w : World) (x y : api_Report) : (Op.equalIn (d + 2) 34 (.agg (e_api_Report x)) (.agg (e_api_Report y))).run Tryz.prog w = .ok (decide (x = y)) w := by
  have p0 : ∀ (z : api_Report) (u : World), (part 3 (e_api_Report z) 0).run Tryz.prog u = .ok (.int .i64 z.Object) u := fun _ _ => by kernel_rfl
  have q0 : ∀ (u : World), (Op.equalIn (d + 1) 3 (.int .i64 x.Object) (.int .i64 y.Object)).run Tryz.prog u = .ok (decide (x.Object = y.Object)) u := fun u => by rw [run_equalIn_int u (d + 0) 3 .i64 .i64 _ _ (by kernel_rfl), beq_dec]
  have p1 : ∀ (z : api_Report) (u : World), (part 3 (e_api_Report z) 1).run Tryz.prog u = .ok (.int .i64 z.Seq) u := fun _ _ => by kernel_rfl
  have q1 : ∀ (u : World), (Op.equalIn (d + 1) 3 (.int .i64 x.Seq) (.int .i64 y.Seq)).run Tryz.prog u = .ok (decide (x.Seq = y.Seq)) u := fun u => by rw [run_equalIn_int u (d + 0) 3 .i64 .i64 _ _ (by kernel_rfl), beq_dec]
  have p2 : ∀ (z : api_Report) (u : World), (part 3 (e_api_Report z) 2).run Tryz.prog u = .ok (.int .i64 z.Version) u := fun _ _ => by kernel_rfl
  have q2 : ∀ (u : World), (Op.equalIn (d + 1) 3 (.int .i64 x.Version) (.int .i64 y.Version)).run Tryz.prog u = .ok (decide (x.Version = y.Version)) u := fun u => by rw [run_equalIn_int u (d + 0) 3 .i64 .i64 _ _ (by kernel_rfl), beq_dec]
  have p3 : ∀ (z : api_Report) (u : World), (part 3 (e_api_Report z) 3).run Tryz.prog u = .ok (.int .i64 z.Device) u := fun _ _ => by kernel_rfl
  have q3 : ∀ (u : World), (Op.equalIn (d + 1) 3 (.int .i64 x.Device) (.int .i64 y.Device)).run Tryz.prog u = .ok (decide (x.Device = y.Device)) u := fun u => by rw [run_equalIn_int u (d + 0) 3 .i64 .i64 _ _ (by kernel_rfl), beq_dec]
  have p4 : ∀ (z : api_Report) (u : World), (part 3 (e_api_Report z) 4).run Tryz.prog u = .ok (.int .i64 z.Time) u := fun _ _ => by kernel_rfl
  have q4 : ∀ (u : World), (Op.equalIn (d + 1) 3 (.int .i64 x.Time) (.int .i64 y.Time)).run Tryz.prog u = .ok (decide (x.Time = y.Time)) u := fun u => by rw [run_equalIn_int u (d + 0) 3 .i64 .i64 _ _ (by kernel_rfl), beq_dec]
  have p5 : ∀ (z : api_Report) (u : World), (part 3 (e_api_Report z) 5).run Tryz.prog u = .ok (.int .i64 z.X) u := fun _ _ => by kernel_rfl
  have q5 : ∀ (u : World), (Op.equalIn (d + 1) 3 (.int .i64 x.X) (.int .i64 y.X)).run Tryz.prog u = .ok (decide (x.X = y.X)) u := fun u => by rw [run_equalIn_int u (d + 0) 3 .i64 .i64 _ _ (by kernel_rfl), beq_dec]
  have p6 : ∀ (z : api_Report) (u : World), (part 3 (e_api_Report z) 6).run Tryz.prog u = .ok (.int .i64 z.Y) u := fun _ _ => by kernel_rfl
  have q6 : ∀ (u : World), (Op.equalIn (d + 1) 3 (.int .i64 x.Y) (.int .i64 y.Y)).run Tryz.prog u = .ok (decide (x.Y = y.Y)) u := fun u => by rw [run_equalIn_int u (d + 0) 3 .i64 .i64 _ _ (by kernel_rfl), beq_dec]
  have p7 : ∀ (z : api_Report) (u : World), (part 4 (e_api_Report z) 7).run Tryz.prog u = .ok (.bool z.Cancel) u := fun _ _ => by kernel_rfl
  have q7 : ∀ (u : World), (Op.equalIn (d + 1) 4 (.bool x.Cancel) (.bool y.Cancel)).run Tryz.prog u = .ok (decide (x.Cancel = y.Cancel)) u := fun u => by rw [run_equalIn_bool' u (d + 0) 4 _ _ (by kernel_rfl), beq_decO]
  have hf : (Tryz.prog.fieldsOf 34).toList = [{ name := "Object", type := 3, offset := 0, embedded := false, tag := "", pkgPath := "", byteOffset := 0 }, { name := "Seq", type := 3, offset := 1, embedded := false, tag := "", pkgPath := "", byteOffset := 8 }, { name := "Version", type := 3, offset := 2, embedded := false, tag := "", pkgPath := "", byteOffset := 16 }, { name := "Device", type := 3, offset := 3, embedded := false, tag := "", pkgPath := "", byteOffset := 24 }, { name := "Time", type := 3, offset := 4, embedded := false, tag := "", pkgPath := "", byteOffset := 32 }, { name := "X", type := 3, offset := 5, embedded := false, tag := "", pkgPath := "", byteOffset := 40 }, { name := "Y", type := 3, offset := 6, embedded := false, tag := "", pkgPath := "", byteOffset := 48 }, { name := "Cancel", type := 4, offset := 7, embedded := false, tag := "", pkgPath := "", byteOffset := 56 }] := by kernel_rfl
  rw [run_equalIn_struct w (d + 1) 34 _ _ (by kernel_rfl) (by kernel_rfl), hf]
  have hx : x = y ↔ (x.Object = y.Object ∧ x.Seq = y.Seq ∧ x.Version = y.Version ∧ x.Device = y.Device ∧ x.Time = y.Time ∧ x.X = y.X ∧ x.Y = y.Y ∧ x.Cancel = y.Cancel) := by cases x; cases y; simp
  simp only [Op.eqFields, Sem.run_bind, Result.andThen_ok, Sem.run_ite, Sem.run_pure, p0, p1, p2, p3, p4, p5, p6, p7, q0, q1, q2, q3, q4, q5, q6, q7]
  by_cases h0 : x.Object = y.Object <;> by_cases h1 : x.Seq = y.Seq <;> by_cases h2 : x.Version = y.Version <;> by_cases h3 : x.Device = y.Device <;> by_cases h4 : x.Time = y.Time <;> by_cases h5 : x.X = y.X <;> by_cases h6 : x.Y = y.Y <;> by_cases h7 : x.Cancel = y.Cancel <;> simp [hx, h0, h1, h2, h3, h4, h5, h6, h7]
instance eql_34 (x y : api_Report) : BinC Tryz.prog .eql 34 (.agg (e_api_Report x)) (.agg (e_api_Report y)) (.bool (decide (x = y))) := ⟨fun a b w => run_eqGuard_agg w _ _ _ _ _ _ (by kernel_rfl), fun w => by rw [run_eql_struct, eqIn_34 9998]; rfl⟩
instance neq_34 (x y : api_Report) : BinC Tryz.prog .neq 34 (.agg (e_api_Report x)) (.agg (e_api_Report y)) (.bool (!decide (x = y))) := ⟨fun a b w => run_eqGuard_agg w _ _ _ _ _ _ (by kernel_rfl), fun w => by rw [run_neq_struct, eqIn_34 9998]; rfl⟩
theorem eqIn_81 (d : Nat) (w : World) (x y : api_Real) : (Op.equalIn (d + 4) 81 (.agg (e_api_Real x)) (.agg (e_api_Real y))).run Tryz.prog w = .ok (decide (x = y)) w := by
  have p0 : ∀ (z : api_Real) (u : World), (part 32 (e_api_Real z) 0).run Tryz.prog u = .ok (.agg (e_api_Rat z.P)) u := fun _ _ => by kernel_rfl
  have q0 : ∀ (u : World), (Op.equalIn (d + 3) 32 (.agg (e_api_Rat x.P)) (.agg (e_api_Rat y.P))).run Tryz.prog u = .ok (decide (x.P = y.P)) u := fun u => eqIn_32 (d + 0) u _ _
  have p1 : ∀ (z : api_Real) (u : World), (part 32 (e_api_Real z) 4).run Tryz.prog u = .ok (.agg (e_api_Rat z.R)) u := fun _ _ => by kernel_rfl
  have q1 : ∀ (u : World), (Op.equalIn (d + 3) 32 (.agg (e_api_Rat x.R)) (.agg (e_api_Rat y.R))).run Tryz.prog u = .ok (decide (x.R = y.R)) u := fun u => eqIn_32 (d + 0) u _ _
  have p2 : ∀ (z : api_Real) (u : World), (part 4 (e_api_Real z) 8).run Tryz.prog u = .ok (.bool z.Neg) u := fun _ _ => by kernel_rfl
  have q2 : ∀ (u : World), (Op.equalIn (d + 3) 4 (.bool x.Neg) (.bool y.Neg)).run Tryz.prog u = .ok (decide (x.Neg = y.Neg)) u := fun u => by rw [run_equalIn_bool' u (d + 2) 4 _ _ (by kernel_rfl), beq_decO]
  have hf : (Tryz.prog.fieldsOf 81).toList = [{ name := "P", type := 32, offset := 0, embedded := false, tag := "", pkgPath := "", byteOffset := 0 }, { name := "R", type := 32, offset := 4, embedded := false, tag := "", pkgPath := "", byteOffset := 48 }, { name := "Neg", type := 4, offset := 8, embedded := false, tag := "", pkgPath := "", byteOffset := 96 }] := by kernel_rfl
  rw [run_equalIn_struct w (d + 3) 81 _ _ (by kernel_rfl) (by kernel_rfl), hf]
  have hx : x = y ↔ (x.P = y.P ∧ x.R = y.R ∧ x.Neg = y.Neg) := by cases x; cases y; simp
  simp only [Op.eqFields, Sem.run_bind, Result.andThen_ok, Sem.run_ite, Sem.run_pure, p0, p1, p2, q0, q1, q2]
  by_cases h0 : x.P = y.P <;> by_cases h1 : x.R = y.R <;> by_cases h2 : x.Neg = y.Neg <;> simp [hx, h0, h1, h2]
instance eql_81 (x y : api_Real) : BinC Tryz.prog .eql 81 (.agg (e_api_Real x)) (.agg (e_api_Real y)) (.bool (decide (x = y))) := ⟨fun a b w => run_eqGuard_agg w _ _ _ _ _ _ (by kernel_rfl), fun w => by rw [run_eql_struct, eqIn_81 9996]; rfl⟩
theorem eqIn_83 (d : Nat) (w : World) (x y : api_Interval) : (Op.equalIn (d + 5) 83 (.agg (e_api_Interval x)) (.agg (e_api_Interval y))).run Tryz.prog w = .ok (decide (x = y)) w := by
  have p0 : ∀ (z : api_Interval) (u : World), (part 81 (e_api_Interval z) 0).run Tryz.prog u = .ok (.agg (e_api_Real z.From)) u := fun _ _ => by kernel_rfl
  have q0 : ∀ (u : World), (Op.equalIn (d + 4) 81 (.agg (e_api_Real x.From)) (.agg (e_api_Real y.From))).run Tryz.prog u = .ok (decide (x.From = y.From)) u := fun u => eqIn_81 (d + 0) u _ _
  have p1 : ∀ (z : api_Interval) (u : World), (part 81 (e_api_Interval z) 9).run Tryz.prog u = .ok (.agg (e_api_Real z.To)) u := fun _ _ => by kernel_rfl
  have q1 : ∀ (u : World), (Op.equalIn (d + 4) 81 (.agg (e_api_Real x.To)) (.agg (e_api_Real y.To))).run Tryz.prog u = .ok (decide (x.To = y.To)) u := fun u => eqIn_81 (d + 0) u _ _
  have p2 : ∀ (z : api_Interval) (u : World), (part 4 (e_api_Interval z) 18).run Tryz.prog u = .ok (.bool z.OpenFrom) u := fun _ _ => by kernel_rfl
  have q2 : ∀ (u : World), (Op.equalIn (d + 4) 4 (.bool x.OpenFrom) (.bool y.OpenFrom)).run Tryz.prog u = .ok (decide (x.OpenFrom = y.OpenFrom)) u := fun u => by rw [run_equalIn_bool' u (d + 3) 4 _ _ (by kernel_rfl), beq_decO]
  have p3 : ∀ (z : api_Interval) (u : World), (part 4 (e_api_Interval z) 19).run Tryz.prog u = .ok (.bool z.OpenTo) u := fun _ _ => by kernel_rfl
  have q3 : ∀ (u : World), (Op.equalIn (d + 4) 4 (.bool x.OpenTo) (.bool y.OpenTo)).run Tryz.prog u = .ok (decide (x.OpenTo = y.OpenTo)) u := fun u => by rw [run_equalIn_bool' u (d + 3) 4 _ _ (by kernel_rfl), beq_decO]
  have hf : (Tryz.prog.fieldsOf 83).toList = [{ name := "From", type := 81, offset := 0, embedded := false, tag := "", pkgPath := "", byteOffset := 0 }, { name := "To", type := 81, offset := 9, embedded := false, tag := "", pkgPath := "", byteOffset := 104 }, { name := "OpenFrom", type := 4, offset := 18, embedded := false, tag := "", pkgPath := "", byteOffset := 208 }, { name := "OpenTo", type := 4, offset := 19, embedded := false, tag := "", pkgPath := "", byteOffset := 209 }] := by kernel_rfl
  rw [run_equalIn_struct w (d + 4) 83 _ _ (by kernel_rfl) (by kernel_rfl), hf]
  have hx : x = y ↔ (x.From = y.From ∧ x.To = y.To ∧ x.OpenFrom = y.OpenFrom ∧ x.OpenTo = y.OpenTo) := by cases x; cases y; simp
  simp only [Op.eqFields, Sem.run_bind, Result.andThen_ok, Sem.run_ite, Sem.run_pure, p0, p1, p2, p3, q0, q1, q2, q3]
  by_cases h0 : x.From = y.From <;> by_cases h1 : x.To = y.To <;> by_cases h2 : x.OpenFrom = y.OpenFrom <;> by_cases h3 : x.OpenTo = y.OpenTo <;> simp [hx, h0, h1, h2, h3]
instance eql_83 (x y : api_Interval) : BinC Tryz.prog .eql 83 (.agg (e_api_Interval x)) (.agg (e_api_Interval y)) (.bool (decide (x = y))) := ⟨fun a b w => run_eqGuard_agg w _ _ _ _ _ _ (by kernel_rfl), fun w => by rw [run_eql_struct, eqIn_83 9995]; rfl⟩
theorem eqIn_85 (d : Nat) (w : World) (x y : api_Line) : (Op.equalIn (d + 4) 85 (.agg (e_api_Line x)) (.agg (e_api_Line y))).run Tryz.prog w = .ok (decide (x = y)) w := by
  have p0 : ∀ (z : api_Line) (u : World), (part 32 (e_api_Line z) 0).run Tryz.prog u = .ok (.agg (e_api_Rat z.X0)) u := fun _ _ => by kernel_rfl
  have q0 : ∀ (u : World), (Op.equalIn (d + 3) 32 (.agg (e_api_Rat x.X0)) (.agg (e_api_Rat y.X0))).run Tryz.prog u = .ok (decide (x.X0 = y.X0)) u := fun u => eqIn_32 (d + 0) u _ _
  have p1 : ∀ (z : api_Line) (u : World), (part 32 (e_api_Line z) 4).run Tryz.prog u = .ok (.agg (e_api_Rat z.X1)) u := fun _ _ => by kernel_rfl
  have q1 : ∀ (u : World), (Op.equalIn (d + 3) 32 (.agg (e_api_Rat x.X1)) (.agg (e_api_Rat y.X1))).run Tryz.prog u = .ok (decide (x.X1 = y.X1)) u := fun u => eqIn_32 (d + 0) u _ _
  have p2 : ∀ (z : api_Line) (u : World), (part 32 (e_api_Line z) 8).run Tryz.prog u = .ok (.agg (e_api_Rat z.Y0)) u := fun _ _ => by kernel_rfl
  have q2 : ∀ (u : World), (Op.equalIn (d + 3) 32 (.agg (e_api_Rat x.Y0)) (.agg (e_api_Rat y.Y0))).run Tryz.prog u = .ok (decide (x.Y0 = y.Y0)) u := fun u => eqIn_32 (d + 0) u _ _
  have p3 : ∀ (z : api_Line) (u : World), (part 32 (e_api_Line z) 12).run Tryz.prog u = .ok (.agg (e_api_Rat z.Y1)) u := fun _ _ => by kernel_rfl
  have q3 : ∀ (u : World), (Op.equalIn (d + 3) 32 (.agg (e_api_Rat x.Y1)) (.agg (e_api_Rat y.Y1))).run Tryz.prog u = .ok (decide (x.Y1 = y.Y1)) u := fun u => eqIn_32 (d + 0) u _ _
  have hf : (Tryz.prog.fieldsOf 85).toList = [{ name := "X0", type := 32, offset := 0, embedded := false, tag := "", pkgPath := "", byteOffset := 0 }, { name := "X1", type := 32, offset := 4, embedded := false, tag := "", pkgPath := "", byteOffset := 48 }, { name := "Y0", type := 32, offset := 8, embedded := false, tag := "", pkgPath := "", byteOffset := 96 }, { name := "Y1", type := 32, offset := 12, embedded := false, tag := "", pkgPath := "", byteOffset := 144 }] := by kernel_rfl
  rw [run_equalIn_struct w (d + 3) 85 _ _ (by kernel_rfl) (by kernel_rfl), hf]
  have hx : x = y ↔ (x.X0 = y.X0 ∧ x.X1 = y.X1 ∧ x.Y0 = y.Y0 ∧ x.Y1 = y.Y1) := by cases x; cases y; simp
  simp only [Op.eqFields, Sem.run_bind, Result.andThen_ok, Sem.run_ite, Sem.run_pure, p0, p1, p2, p3, q0, q1, q2, q3]
  by_cases h0 : x.X0 = y.X0 <;> by_cases h1 : x.X1 = y.X1 <;> by_cases h2 : x.Y0 = y.Y0 <;> by_cases h3 : x.Y1 = y.Y1 <;> simp [hx, h0, h1, h2, h3]
instance eql_85 (x y : api_Line) : BinC Tryz.prog .eql 85 (.agg (e_api_Line x)) (.agg (e_api_Line y)) (.bool (decide (x = y))) := ⟨fun a b w => run_eqGuard_agg w _ _ _ _ _ _ (by kernel_rfl), fun w => by rw [run_eql_struct, eqIn_85 9996]; rfl⟩
theorem eqIn_87 (d : Nat) (w : World) (x y : api_PointUnit) : (Op.equalIn (d + 6) 87 (.agg (e_api_PointUnit x)) (.agg (e_api_PointUnit y))).run Tryz.prog w = .ok (decide (x = y)) w := by
  have p0 : ∀ (z : api_PointUnit) (u : World), (part 83 (e_api_PointUnit z) 0).run Tryz.prog u = .ok (.agg (e_api_Interval z.In)) u := fun _ _ => by kernel_rfl
  have q0 : ∀ (u : World), (Op.equalIn (d + 5) 83 (.agg (e_api_Interval x.In)) (.agg (e_api_Interval y.In))).run Tryz.prog u = .ok (decide (x.In = y.In)) u := fun u => eqIn_83 (d + 0) u _ _
  have p1 : ∀ (z : api_PointUnit) (u : World), (part 85 (e_api_PointUnit z) 20).run Tryz.prog u = .ok (.agg (e_api_Line z.F)) u := fun _ _ => by kernel_rfl
  have q1 : ∀ (u : World), (Op.equalIn (d + 5) 85 (.agg (e_api_Line x.F)) (.agg (e_api_Line y.F))).run Tryz.prog u = .ok (decide (x.F = y.F)) u := fun u => eqIn_85 (d + 1) u _ _
  have hf : (Tryz.prog.fieldsOf 87).toList = [{ name := "In", type := 83, offset := 0, embedded := false, tag := "", pkgPath := "", byteOffset := 0 }, { name := "F", type := 85, offset := 20, embedded := false, tag := "", pkgPath := "", byteOffset := 216 }] := by kernel_rfl
  rw [run_equalIn_struct w (d + 5) 87 _ _ (by kernel_rfl) (by kernel_rfl), hf]
  have hx : x = y ↔ (x.In = y.In ∧ x.F = y.F) := by cases x; cases y; simp
  simp only [Op.eqFields, Sem.run_bind, Result.andThen_ok, Sem.run_ite, Sem.run_pure, p0, p1, q0, q1]
  by_cases h0 : x.In = y.In <;> by_cases h1 : x.F = y.F <;> simp [hx, h0, h1]
instance neq_87 (x y : api_PointUnit) : BinC Tryz.prog .neq 87 (.agg (e_api_PointUnit x)) (.agg (e_api_PointUnit y)) (.bool (!decide (x = y))) := ⟨fun a b w => run_eqGuard_agg w _ _ _ _ _ _ (by kernel_rfl), fun w => by rw [run_neq_struct, eqIn_87 9994]; rfl⟩
theorem eqIn_131 (d : Nat) (w : World) (x y : api_Quad) : (Op.equalIn (d + 4) 131 (.agg (e_api_Quad x)) (.agg (e_api_Quad y))).run Tryz.prog w = .ok (decide (x = y)) w := by
  have p0 : ∀ (z : api_Quad) (u : World), (part 32 (e_api_Quad z) 0).run Tryz.prog u = .ok (.agg (e_api_Rat z.C0)) u := fun _ _ => by kernel_rfl
  have q0 : ∀ (u : World), (Op.equalIn (d + 3) 32 (.agg (e_api_Rat x.C0)) (.agg (e_api_Rat y.C0))).run Tryz.prog u = .ok (decide (x.C0 = y.C0)) u := fun u => eqIn_32 (d + 0) u _ _
  have p1 : ∀ (z : api_Quad) (u : World), (part 32 (e_api_Quad z) 4).run Tryz.prog u = .ok (.agg (e_api_Rat z.C1)) u := fun _ _ => by kernel_rfl
  have q1 : ∀ (u : World), (Op.equalIn (d + 3) 32 (.agg (e_api_Rat x.C1)) (.agg (e_api_Rat y.C1))).run Tryz.prog u = .ok (decide (x.C1 = y.C1)) u := fun u => eqIn_32 (d + 0) u _ _
  have p2 : ∀ (z : api_Quad) (u : World), (part 32 (e_api_Quad z) 8).run Tryz.prog u = .ok (.agg (e_api_Rat z.C2)) u := fun _ _ => by kernel_rfl
  have q2 : ∀ (u : World), (Op.equalIn (d + 3) 32 (.agg (e_api_Rat x.C2)) (.agg (e_api_Rat y.C2))).run Tryz.prog u = .ok (decide (x.C2 = y.C2)) u := fun u => eqIn_32 (d + 0) u _ _
  have hf : (Tryz.prog.fieldsOf 131).toList = [{ name := "C0", type := 32, offset := 0, embedded := false, tag := "", pkgPath := "", byteOffset := 0 }, { name := "C1", type := 32, offset := 4, embedded := false, tag := "", pkgPath := "", byteOffset := 48 }, { name := "C2", type := 32, offset := 8, embedded := false, tag := "", pkgPath := "", byteOffset := 96 }] := by kernel_rfl
  rw [run_equalIn_struct w (d + 3) 131 _ _ (by kernel_rfl) (by kernel_rfl), hf]
  have hx : x = y ↔ (x.C0 = y.C0 ∧ x.C1 = y.C1 ∧ x.C2 = y.C2) := by cases x; cases y; simp
  simp only [Op.eqFields, Sem.run_bind, Result.andThen_ok, Sem.run_ite, Sem.run_pure, p0, p1, p2, q0, q1, q2]
  by_cases h0 : x.C0 = y.C0 <;> by_cases h1 : x.C1 = y.C1 <;> by_cases h2 : x.C2 = y.C2 <;> simp [hx, h0, h1, h2]
instance eql_131 (x y : api_Quad) : BinC Tryz.prog .eql 131 (.agg (e_api_Quad x)) (.agg (e_api_Quad y)) (.bool (decide (x = y))) := ⟨fun a b w => run_eqGuard_agg w _ _ _ _ _ _ (by kernel_rfl), fun w => by rw [run_eql_struct, eqIn_131 9996]; rfl⟩
instance call_7 : CallC Tryz.prog 7 := ⟨by kernel_rfl⟩
instance call_8 : CallC Tryz.prog 8 := ⟨by kernel_rfl⟩
instance call_9 : CallC Tryz.prog 9 := ⟨by kernel_rfl⟩
instance call_10 : CallC Tryz.prog 10 := ⟨by kernel_rfl⟩
instance call_11 : CallC Tryz.prog 11 := ⟨by kernel_rfl⟩
instance call_12 : CallC Tryz.prog 12 := ⟨by kernel_rfl⟩
instance call_13 : CallC Tryz.prog 13 := ⟨by kernel_rfl⟩
instance call_15 : CallC Tryz.prog 15 := ⟨by kernel_rfl⟩
instance call_16 : CallC Tryz.prog 16 := ⟨by kernel_rfl⟩
instance call_17 : CallC Tryz.prog 17 := ⟨by kernel_rfl⟩
instance call_18 : CallC Tryz.prog 18 := ⟨by kernel_rfl⟩
instance call_19 : CallC Tryz.prog 19 := ⟨by kernel_rfl⟩
instance call_20 : CallC Tryz.prog 20 := ⟨by kernel_rfl⟩
instance call_21 : CallC Tryz.prog 21 := ⟨by kernel_rfl⟩
instance call_22 : CallC Tryz.prog 22 := ⟨by kernel_rfl⟩
instance call_23 : CallC Tryz.prog 23 := ⟨by kernel_rfl⟩
instance call_24 : CallC Tryz.prog 24 := ⟨by kernel_rfl⟩
instance call_25 : CallC Tryz.prog 25 := ⟨by kernel_rfl⟩
instance call_26 : CallC Tryz.prog 26 := ⟨by kernel_rfl⟩
instance call_27 : CallC Tryz.prog 27 := ⟨by kernel_rfl⟩
instance call_28 : CallC Tryz.prog 28 := ⟨by kernel_rfl⟩
instance call_29 : CallC Tryz.prog 29 := ⟨by kernel_rfl⟩
instance call_30 : CallC Tryz.prog 30 := ⟨by kernel_rfl⟩
instance call_31 : CallC Tryz.prog 31 := ⟨by kernel_rfl⟩
instance call_32 : CallC Tryz.prog 32 := ⟨by kernel_rfl⟩
instance call_33 : CallC Tryz.prog 33 := ⟨by kernel_rfl⟩
instance call_34 : CallC Tryz.prog 34 := ⟨by kernel_rfl⟩
instance call_35 : CallC Tryz.prog 35 := ⟨by kernel_rfl⟩
instance call_36 : CallC Tryz.prog 36 := ⟨by kernel_rfl⟩
instance call_37 : CallC Tryz.prog 37 := ⟨by kernel_rfl⟩
instance call_38 : CallC Tryz.prog 38 := ⟨by kernel_rfl⟩
instance call_39 : CallC Tryz.prog 39 := ⟨by kernel_rfl⟩
instance call_40 : CallC Tryz.prog 40 := ⟨by kernel_rfl⟩
instance call_41 : CallC Tryz.prog 41 := ⟨by kernel_rfl⟩
instance call_42 : CallC Tryz.prog 42 := ⟨by kernel_rfl⟩
instance call_43 : CallC Tryz.prog 43 := ⟨by kernel_rfl⟩
instance call_44 : CallC Tryz.prog 44 := ⟨by kernel_rfl⟩
instance call_45 : CallC Tryz.prog 45 := ⟨by kernel_rfl⟩
instance call_46 : CallC Tryz.prog 46 := ⟨by kernel_rfl⟩
instance call_47 : CallC Tryz.prog 47 := ⟨by kernel_rfl⟩
instance call_48 : CallC Tryz.prog 48 := ⟨by kernel_rfl⟩
instance call_49 : CallC Tryz.prog 49 := ⟨by kernel_rfl⟩
instance call_50 : CallC Tryz.prog 50 := ⟨by kernel_rfl⟩
instance call_51 : CallC Tryz.prog 51 := ⟨by kernel_rfl⟩
instance call_52 : CallC Tryz.prog 52 := ⟨by kernel_rfl⟩
instance call_53 : CallC Tryz.prog 53 := ⟨by kernel_rfl⟩
instance call_54 : CallC Tryz.prog 54 := ⟨by kernel_rfl⟩
instance call_56 : CallC Tryz.prog 56 := ⟨by kernel_rfl⟩
instance call_57 : CallC Tryz.prog 57 := ⟨by kernel_rfl⟩
instance call_58 : CallC Tryz.prog 58 := ⟨by kernel_rfl⟩
instance call_59 : CallC Tryz.prog 59 := ⟨by kernel_rfl⟩
instance call_60 : CallC Tryz.prog 60 := ⟨by kernel_rfl⟩
instance call_61 : CallC Tryz.prog 61 := ⟨by kernel_rfl⟩
instance call_63 : CallC Tryz.prog 63 := ⟨by kernel_rfl⟩
instance call_64 : CallC Tryz.prog 64 := ⟨by kernel_rfl⟩
instance call_65 : CallC Tryz.prog 65 := ⟨by kernel_rfl⟩
instance call_66 : CallC Tryz.prog 66 := ⟨by kernel_rfl⟩
instance call_67 : CallC Tryz.prog 67 := ⟨by kernel_rfl⟩
instance call_68 : CallC Tryz.prog 68 := ⟨by kernel_rfl⟩
instance call_69 : CallC Tryz.prog 69 := ⟨by kernel_rfl⟩
instance call_70 : CallC Tryz.prog 70 := ⟨by kernel_rfl⟩
instance call_71 : CallC Tryz.prog 71 := ⟨by kernel_rfl⟩
instance call_72 : CallC Tryz.prog 72 := ⟨by kernel_rfl⟩
instance call_73 : CallC Tryz.prog 73 := ⟨by kernel_rfl⟩
instance call_74 : CallC Tryz.prog 74 := ⟨by kernel_rfl⟩
instance call_75 : CallC Tryz.prog 75 := ⟨by kernel_rfl⟩
instance call_76 : CallC Tryz.prog 76 := ⟨by kernel_rfl⟩
instance call_77 : CallC Tryz.prog 77 := ⟨by kernel_rfl⟩
instance call_78 : CallC Tryz.prog 78 := ⟨by kernel_rfl⟩
instance call_79 : CallC Tryz.prog 79 := ⟨by kernel_rfl⟩
instance call_80 : CallC Tryz.prog 80 := ⟨by kernel_rfl⟩
instance call_81 : CallC Tryz.prog 81 := ⟨by kernel_rfl⟩
instance call_82 : CallC Tryz.prog 82 := ⟨by kernel_rfl⟩
instance call_83 : CallC Tryz.prog 83 := ⟨by kernel_rfl⟩
instance call_84 : CallC Tryz.prog 84 := ⟨by kernel_rfl⟩
instance call_85 : CallC Tryz.prog 85 := ⟨by kernel_rfl⟩
instance call_86 : CallC Tryz.prog 86 := ⟨by kernel_rfl⟩
instance call_87 : CallC Tryz.prog 87 := ⟨by kernel_rfl⟩
instance call_88 : CallC Tryz.prog 88 := ⟨by kernel_rfl⟩
instance call_89 : CallC Tryz.prog 89 := ⟨by kernel_rfl⟩
instance call_90 : CallC Tryz.prog 90 := ⟨by kernel_rfl⟩
instance call_91 : CallC Tryz.prog 91 := ⟨by kernel_rfl⟩
instance call_92 : CallC Tryz.prog 92 := ⟨by kernel_rfl⟩
instance call_94 : CallC Tryz.prog 94 := ⟨by kernel_rfl⟩
instance call_95 : CallC Tryz.prog 95 := ⟨by kernel_rfl⟩
instance call_96 : CallC Tryz.prog 96 := ⟨by kernel_rfl⟩
instance call_97 : CallC Tryz.prog 97 := ⟨by kernel_rfl⟩
instance call_98 : CallC Tryz.prog 98 := ⟨by kernel_rfl⟩
instance call_99 : CallC Tryz.prog 99 := ⟨by kernel_rfl⟩
instance call_100 : CallC Tryz.prog 100 := ⟨by kernel_rfl⟩
instance call_101 : CallC Tryz.prog 101 := ⟨by kernel_rfl⟩
instance call_102 : CallC Tryz.prog 102 := ⟨by kernel_rfl⟩
instance call_103 : CallC Tryz.prog 103 := ⟨by kernel_rfl⟩
instance call_104 : CallC Tryz.prog 104 := ⟨by kernel_rfl⟩
instance call_105 : CallC Tryz.prog 105 := ⟨by kernel_rfl⟩
instance call_106 : CallC Tryz.prog 106 := ⟨by kernel_rfl⟩
instance call_107 : CallC Tryz.prog 107 := ⟨by kernel_rfl⟩
instance call_108 : CallC Tryz.prog 108 := ⟨by kernel_rfl⟩
instance call_109 : CallC Tryz.prog 109 := ⟨by kernel_rfl⟩
instance call_110 : CallC Tryz.prog 110 := ⟨by kernel_rfl⟩
instance call_111 : CallC Tryz.prog 111 := ⟨by kernel_rfl⟩
instance call_112 : CallC Tryz.prog 112 := ⟨by kernel_rfl⟩
instance call_113 : CallC Tryz.prog 113 := ⟨by kernel_rfl⟩
instance call_114 : CallC Tryz.prog 114 := ⟨by kernel_rfl⟩
instance call_115 : CallC Tryz.prog 115 := ⟨by kernel_rfl⟩
instance call_116 : CallC Tryz.prog 116 := ⟨by kernel_rfl⟩
instance call_117 : CallC Tryz.prog 117 := ⟨by kernel_rfl⟩
instance call_118 : CallC Tryz.prog 118 := ⟨by kernel_rfl⟩
instance call_119 : CallC Tryz.prog 119 := ⟨by kernel_rfl⟩
instance call_121 : CallC Tryz.prog 121 := ⟨by kernel_rfl⟩
instance call_122 : CallC Tryz.prog 122 := ⟨by kernel_rfl⟩
instance call_123 : CallC Tryz.prog 123 := ⟨by kernel_rfl⟩
instance call_124 : CallC Tryz.prog 124 := ⟨by kernel_rfl⟩
instance call_126 : CallC Tryz.prog 126 := ⟨by kernel_rfl⟩
instance call_127 : CallC Tryz.prog 127 := ⟨by kernel_rfl⟩
instance call_129 : CallC Tryz.prog 129 := ⟨by kernel_rfl⟩
instance call_130 : CallC Tryz.prog 130 := ⟨by kernel_rfl⟩
instance call_131 : CallC Tryz.prog 131 := ⟨by kernel_rfl⟩
instance call_132 : CallC Tryz.prog 132 := ⟨by kernel_rfl⟩
instance call_133 : CallC Tryz.prog 133 := ⟨by kernel_rfl⟩
instance call_134 : CallC Tryz.prog 134 := ⟨by kernel_rfl⟩
instance call_135 : CallC Tryz.prog 135 := ⟨by kernel_rfl⟩
instance call_137 : CallC Tryz.prog 137 := ⟨by kernel_rfl⟩
instance call_138 : CallC Tryz.prog 138 := ⟨by kernel_rfl⟩
instance call_139 : CallC Tryz.prog 139 := ⟨by kernel_rfl⟩
instance call_141 : CallC Tryz.prog 141 := ⟨by kernel_rfl⟩
instance call_142 : CallC Tryz.prog 142 := ⟨by kernel_rfl⟩
instance call_143 : CallC Tryz.prog 143 := ⟨by kernel_rfl⟩
instance call_145 : CallC Tryz.prog 145 := ⟨by kernel_rfl⟩
instance call_146 : CallC Tryz.prog 146 := ⟨by kernel_rfl⟩
instance call_147 : CallC Tryz.prog 147 := ⟨by kernel_rfl⟩
instance call_148 : CallC Tryz.prog 148 := ⟨by kernel_rfl⟩
instance call_149 : CallC Tryz.prog 149 := ⟨by kernel_rfl⟩
instance call_150 : CallC Tryz.prog 150 := ⟨by kernel_rfl⟩
instance call_154 : CallC Tryz.prog 154 := ⟨by kernel_rfl⟩
instance call_155 : CallC Tryz.prog 155 := ⟨by kernel_rfl⟩
instance call_156 : CallC Tryz.prog 156 := ⟨by kernel_rfl⟩
instance call_157 : CallC Tryz.prog 157 := ⟨by kernel_rfl⟩
instance call_158 : CallC Tryz.prog 158 := ⟨by kernel_rfl⟩
instance call_159 : CallC Tryz.prog 159 := ⟨by kernel_rfl⟩
instance call_160 : CallC Tryz.prog 160 := ⟨by kernel_rfl⟩
instance call_161 : CallC Tryz.prog 161 := ⟨by kernel_rfl⟩
instance call_162 : CallC Tryz.prog 162 := ⟨by kernel_rfl⟩
instance call_163 : CallC Tryz.prog 163 := ⟨by kernel_rfl⟩
instance call_164 : CallC Tryz.prog 164 := ⟨by kernel_rfl⟩
instance call_165 : CallC Tryz.prog 165 := ⟨by kernel_rfl⟩
instance call_167 : CallC Tryz.prog 167 := ⟨by kernel_rfl⟩
instance call_174 : CallC Tryz.prog 174 := ⟨by kernel_rfl⟩
instance call_182 : CallC Tryz.prog 182 := ⟨by kernel_rfl⟩
instance call_183 : CallC Tryz.prog 183 := ⟨by kernel_rfl⟩
instance call_185 : CallC Tryz.prog 185 := ⟨by kernel_rfl⟩
instance call_186 : CallC Tryz.prog 186 := ⟨by kernel_rfl⟩
instance call_187 : CallC Tryz.prog 187 := ⟨by kernel_rfl⟩
instance call_188 : CallC Tryz.prog 188 := ⟨by kernel_rfl⟩
instance call_189 : CallC Tryz.prog 189 := ⟨by kernel_rfl⟩
instance call_192 : CallC Tryz.prog 192 := ⟨by kernel_rfl⟩
instance call_202 : CallC Tryz.prog 202 := ⟨by kernel_rfl⟩
instance call_203 : CallC Tryz.prog 203 := ⟨by kernel_rfl⟩
instance call_204 : CallC Tryz.prog 204 := ⟨by kernel_rfl⟩
instance call_205 : CallC Tryz.prog 205 := ⟨by kernel_rfl⟩
instance call_206 : CallC Tryz.prog 206 := ⟨by kernel_rfl⟩
instance call_207 : CallC Tryz.prog 207 := ⟨by kernel_rfl⟩
instance call_220 : CallC Tryz.prog 220 := ⟨by kernel_rfl⟩
instance call_230 : CallC Tryz.prog 230 := ⟨by kernel_rfl⟩
instance call_231 : CallC Tryz.prog 231 := ⟨by kernel_rfl⟩
instance call_294 : CallC Tryz.prog 294 := ⟨by kernel_rfl⟩
instance call_295 : CallC Tryz.prog 295 := ⟨by kernel_rfl⟩
instance call_296 : CallC Tryz.prog 296 := ⟨by kernel_rfl⟩
instance call_297 : CallC Tryz.prog 297 := ⟨by kernel_rfl⟩
instance call_298 : CallC Tryz.prog 298 := ⟨by kernel_rfl⟩
instance call_299 : CallC Tryz.prog 299 := ⟨by kernel_rfl⟩
instance call_300 : CallC Tryz.prog 300 := ⟨by kernel_rfl⟩
instance call_301 : CallC Tryz.prog 301 := ⟨by kernel_rfl⟩
instance call_302 : CallC Tryz.prog 302 := ⟨by kernel_rfl⟩
instance call_303 : CallC Tryz.prog 303 := ⟨by kernel_rfl⟩
instance call_305 : CallC Tryz.prog 305 := ⟨by kernel_rfl⟩
theorem mixed : Tryz.prog.follows .mixedOrders = true := by kernel_rfl
end Go.Vt
/- Plain mathematics: magnitudes as bytes, the most significant one first, without leading zeros. Conditions: none. -/
set_option linter.unusedSimpArgs false
set_option linter.unusedVariables false
set_option maxHeartbeats 2000000
namespace Go.Vt
/-- The bytes of a number, the lowest one first. -/
def leF : Nat → Nat → List UInt8
  | 0, _ => []
  | f + 1, n => if n = 0 then [] else UInt8.ofNat (n % 256) :: leF f (n / 256)
def le (n : Nat) : List UInt8 := leF n n
def vle : List UInt8 → Nat
  | [] => 0
  | b :: l => b.toNat + 256 * vle l
theorem leF_fuel : ∀ (f g n : Nat), n ≤ f → n ≤ g → leF f n = leF g n
  | 0, 0, _, _, _ => rfl
  | 0, g + 1, n, h, _ => by have : n = 0 := by omega
                            subst this; simp [leF]
  | f + 1, 0, n, _, h => by have : n = 0 := by omega
                            subst this; simp [leF]
  | f + 1, g + 1, n, h1, h2 => by
    simp only [leF]
    split
    · rfl
    · rw [leF_fuel f g (n / 256) (by omega) (by omega)]
theorem le_zero : le 0 = [] := rfl
theorem le_step {n : Nat} (h : n ≠ 0) : le n = UInt8.ofNat (n % 256) :: le (n / 256) := by
  unfold le
  obtain ⟨m, rfl⟩ := Nat.exists_eq_succ_of_ne_zero h
  rw [leF, if_neg h, leF_fuel m _ _ (by omega) (Nat.le_refl _)]
theorem toNat_ofNat (n : Nat) : (UInt8.ofNat (n % 256)).toNat = n % 256 := by simp
theorem vle_le : ∀ n, vle (le n) = n := by
  intro n
  induction n using Nat.strongRecOn with
  | _ n ih =>
    by_cases h : n = 0
    · subst h; rfl
    · rw [le_step h, vle, ih (n / 256) (by omega), toNat_ofNat]
      omega
/-- No zero at the high end. -/
def Top (l : List UInt8) : Prop := ∀ b, l.getLast? = some b → b ≠ 0
theorem top_le : ∀ n, Top (le n) := by
  intro n
  induction n using Nat.strongRecOn with
  | _ n ih =>
    by_cases h : n = 0
    · subst h; intro b hb; simp [le_zero] at hb
    · intro b hb
      rw [le_step h] at hb
      by_cases h2 : n / 256 = 0
      · rw [h2, le_zero] at hb
        simp only [List.getLast?_singleton, Option.some.injEq] at hb
        subst hb
        intro h0
        have := congrArg UInt8.toNat h0
        rw [toNat_ofNat] at this
        simp at this
        omega
      · rw [le_step h2, List.getLast?_cons_cons, ← le_step h2] at hb
        exact ih _ (by omega) b hb
theorem vle_pos {l : List UInt8} (h : Top l) (hl : l ≠ []) : vle l ≠ 0 := by
  induction l with
  | nil => exact absurd rfl hl
  | cons b l ih =>
    intro h0
    simp only [vle] at h0
    by_cases hn : l = []
    · subst hn
      have := h b rfl
      apply this
      apply UInt8.toNat_inj.1
      simp [vle] at h0
      simpa using h0
    · exact ih (fun c hc => h c (by
        cases l with
        | nil => exact absurd rfl hn
        | cons x y => rw [List.getLast?_cons_cons]; exact hc)) hn (by omega)
theorem le_vle {l : List UInt8} (h : Top l) : le (vle l) = l := by
  induction l with
  | nil => rfl
  | cons b l ih =>
    have ht : Top l := fun c hc => h c (by
      cases l with
      | nil => simp at hc
      | cons x y => rw [List.getLast?_cons_cons]; exact hc)
    have hne := vle_pos h (by simp)
    rw [le_step hne]
    have hb : b.toNat < 256 := UInt8.toNat_lt b
    simp only [vle] at hne ⊢
    have h1 : (b.toNat + 256 * vle l) % 256 = b.toNat := by omega
    have h2 : (b.toNat + 256 * vle l) / 256 = vle l := by omega
    rw [h1, h2, ih ht]
    congr 1
    apply UInt8.toNat_inj.1
    simp
theorem vle_lt (l : List UInt8) : vle l < 256 ^ l.length := by
  induction l with
  | nil => simp [vle]
  | cons b l ih =>
    have hb : b.toNat < 256 := UInt8.toNat_lt b
    simp only [vle, List.length_cons, Nat.pow_succ]
    omega
theorem vle_append (l m : List UInt8) : vle (l ++ m) = vle l + 256 ^ l.length * vle m := by
  induction l with
  | nil => simp [vle]
  | cons b l ih =>
    simp only [List.cons_append, vle, ih, List.length_cons, Nat.pow_succ, Nat.mul_add]
    rw [Nat.mul_comm (256 ^ l.length) 256, Nat.mul_assoc]
    omega
theorem le_len {n k : Nat} : (le n).length ≤ k ↔ n < 256 ^ k := by
  induction k generalizing n with
  | zero =>
    simp only [Nat.le_zero_eq, Nat.pow_zero, Nat.lt_one_iff, List.length_eq_zero_iff]
    constructor
    · intro h; rw [← vle_le n, h]; rfl
    · intro h; subst h; rfl
  | succ k ih =>
    by_cases h : n = 0
    · subst h; simp [le_zero, Nat.pow_pos]
    · rw [le_step h, List.length_cons, Nat.add_le_add_iff_right, ih, Nat.pow_succ]
      omega
theorem le_get : ∀ (i n : Nat), i < (le n).length → (le n)[i]? = some (UInt8.ofNat (n / 256 ^ i % 256)) := by
  intro i
  induction i with
  | zero =>
    intro n h
    have hn : n ≠ 0 := by intro h0; subst h0; simp [le_zero] at h
    rw [le_step hn]; simp
  | succ i ih =>
    intro n h
    have hn : n ≠ 0 := by intro h0; subst h0; simp [le_zero] at h
    rw [le_step hn] at h ⊢
    simp only [List.length_cons] at h
    simp only [List.getElem?_cons_succ]
    rw [ih _ (by omega), Nat.div_div_eq_div_mul, Nat.pow_succ, Nat.mul_comm]
/-- A magnitude: its bytes, the most significant one first. -/
def mag (n : Nat) : ByteArray := ⟨(le n).reverse.toArray⟩
/-- The number that bytes are. -/
def vmag (s : ByteArray) : Nat := vle s.data.toList.reverse
/-- No leading zero. -/
def Can (s : ByteArray) : Prop := Top s.data.toList.reverse
theorem vmag_mag (n : Nat) : vmag (mag n) = n := by simp [vmag, mag, vle_le]
theorem can_mag (n : Nat) : Can (mag n) := by simpa [Can, mag] using top_le n
theorem mag_vmag {s : ByteArray} (h : Can s) : mag (vmag s) = s := by
  unfold mag vmag
  rw [le_vle h]
  simp
theorem mag_zero : mag 0 = ByteArray.empty := rfl
theorem mag_inj {m n : Nat} : mag m = mag n ↔ m = n := ⟨fun h => by rw [← vmag_mag m, ← vmag_mag n, h], fun h => by rw [h]⟩
theorem mag_eq_empty {n : Nat} : mag n = ByteArray.empty ↔ n = 0 := by rw [← mag_zero, mag_inj]
theorem size_mag (n : Nat) : (mag n).size = (le n).length := by simp [mag, ByteArray.size]
theorem mag_size {n k : Nat} : (mag n).size ≤ k ↔ n < 256 ^ k := by rw [size_mag, le_len]
theorem mag_of_list {l : List UInt8} (h : Top l.reverse) : mag (vle l.reverse) = ⟨l.toArray⟩ := by
  unfold mag
  rw [le_vle h]
  simp
theorem vle_cmp : ∀ (a b : List UInt8), a.length = b.length → Lib.compareBytes a b = Lib.compareInt (vle a.reverse) (vle b.reverse)
  | [], [], _ => by simp [Lib.compareBytes, Lib.compareInt]
  | [], _ :: _, h => by simp at h
  | _ :: _, [], h => by simp at h
  | x :: a, y :: b, h => by
    have hl : a.length = b.length := by simpa using h
    simp only [List.reverse_cons, vle_append, List.length_reverse, vle, Nat.mul_zero, Nat.add_zero, Lib.compareBytes]
    have ha := vle_lt a.reverse
    have hb := vle_lt b.reverse
    rw [List.length_reverse] at ha hb
    rw [← hl] at hb ⊢
    by_cases hxy : x < y
    · rw [if_pos hxy]
      have h1 : x.toNat + 1 ≤ y.toNat := UInt8.lt_iff_toNat_lt.1 hxy
      have h2 : 256 ^ a.length * (x.toNat + 1) ≤ 256 ^ a.length * y.toNat := Nat.mul_le_mul_left _ h1
      rw [Nat.mul_add, Nat.mul_one] at h2
      unfold Lib.compareInt
      rw [if_pos (by omega)]
    · rw [if_neg hxy]
      by_cases hyx : y < x
      · rw [if_pos hyx]
        have h1 : y.toNat + 1 ≤ x.toNat := UInt8.lt_iff_toNat_lt.1 hyx
        have h2 : 256 ^ a.length * (y.toNat + 1) ≤ 256 ^ a.length * x.toNat := Nat.mul_le_mul_left _ h1
        rw [Nat.mul_add, Nat.mul_one] at h2
        unfold Lib.compareInt
        rw [if_neg (by omega), if_pos (by omega)]
      · rw [if_neg hyx, vle_cmp a b hl]
        have : x = y := by
          apply UInt8.toNat_inj.1
          have h1 : ¬ x.toNat < y.toNat := fun h => hxy (UInt8.lt_iff_toNat_lt.2 h)
          have h2 : ¬ y.toNat < x.toNat := fun h => hyx (UInt8.lt_iff_toNat_lt.2 h)
          omega
        subst this
        unfold Lib.compareInt
        split
        · rw [if_pos (by omega)]
        · split
          · rw [if_neg (by omega), if_pos (by omega)]
          · rw [if_neg (by omega), if_neg (by omega)]
/-- Length first, then the bytes: the order of the numbers. -/
theorem mag_cmp (a b : Nat) : (if Lib.compareInt (mag a).size (mag b).size ≠ 0 then Lib.compareInt (mag a).size (mag b).size else Lib.compareBytes (mag a).data.toList (mag b).data.toList) = Lib.compareInt a b := by
  have hlt : ∀ x y : Nat, (mag x).size < (mag y).size → x < y := fun x y h => by
    have h1 : x < 256 ^ (mag x).size := mag_size.1 (Nat.le_refl _)
    have h2 : ¬ y < 256 ^ (mag x).size := fun h2 => by
      have := mag_size.2 h2
      omega
    omega
  by_cases h1 : (mag a).size < (mag b).size
  · have h2 := hlt _ _ h1
    have e1 : Lib.compareInt (mag a).size (mag b).size = -1 := by unfold Lib.compareInt; rw [if_pos (by omega)]
    rw [e1]
    unfold Lib.compareInt
    rw [if_pos (by omega), if_pos (by omega)]
  · by_cases h3 : (mag b).size < (mag a).size
    · have h2 := hlt _ _ h3
      have e1 : Lib.compareInt (mag a).size (mag b).size = 1 := by unfold Lib.compareInt; rw [if_neg (by omega), if_pos (by omega)]
      rw [e1]
      unfold Lib.compareInt
      rw [if_pos (by omega), if_neg (by omega), if_pos (by omega)]
    · have e1 : Lib.compareInt (mag a).size (mag b).size = 0 := by unfold Lib.compareInt; rw [if_neg (by omega), if_neg (by omega)]
      have hsz : (mag a).data.toList.length = (mag b).data.toList.length := by
        have e2 : (mag a).size = (mag b).size := by omega
        exact e2
      rw [e1, if_neg (by simp), vle_cmp _ _ hsz]
      have ea : vle (mag a).data.toList.reverse = a := vmag_mag a
      have eb : vle (mag b).data.toList.reverse = b := vmag_mag b
      rw [ea, eb]
theorem bitLenAux_spec : ∀ (f x : Nat), x < 2 ^ f → (x = 0 ∧ Lib.bitLenAux f x = 0) ∨ (x ≠ 0 ∧ 1 ≤ Lib.bitLenAux f x ∧ 2 ^ (Lib.bitLenAux f x - 1) ≤ x ∧ x < 2 ^ Lib.bitLenAux f x)
  | 0, x, h => by
    have : x = 0 := by simpa using h
    exact .inl ⟨this, rfl⟩
  | f + 1, x, h => by
    simp only [Lib.bitLenAux]
    by_cases h0 : x = 0
    · simp [h0]
    · rw [if_neg h0]
      refine .inr ⟨h0, by omega, ?_⟩
      have hx : x / 2 < 2 ^ f := by rw [Nat.pow_succ] at h; omega
      rcases bitLenAux_spec f (x / 2) hx with ⟨h1, h2⟩ | ⟨h1, h2, h3, h4⟩
      · rw [h2]
        simp only [Nat.add_zero, Nat.sub_self, Nat.pow_zero, Nat.pow_one]
        omega
      · obtain ⟨k, hk⟩ : ∃ k, Lib.bitLenAux f (x / 2) = k + 1 := ⟨Lib.bitLenAux f (x / 2) - 1, by omega⟩
        rw [hk] at h3 h4 ⊢
        simp only [Nat.add_sub_cancel] at h3
        rw [show 1 + (k + 1) - 1 = k + 1 by omega, show 1 + (k + 1) = k + 1 + 1 by omega]
        rw [Nat.pow_succ] at h4
        rw [Nat.pow_succ, Nat.pow_succ]
        rw [Nat.pow_succ]
        omega
theorem bitLen_spec {x : Nat} (h : x < 2 ^ 64) (h0 : x ≠ 0) : 1 ≤ Lib.bitLen x ∧ 2 ^ (Lib.bitLen x - 1) ≤ x ∧ x < 2 ^ Lib.bitLen x := by
  rcases bitLenAux_spec 64 x h with h1 | h1
  · exact absurd h1.1 h0
  · exact h1.2
theorem bitLen_le {x : Nat} (h : x < 2 ^ 64) : Lib.bitLen x ≤ 64 := by
  by_cases h0 : x = 0
  · subst h0; decide
  · have := bitLen_spec h h0
    rcases Nat.lt_or_ge 64 (Lib.bitLen x) with h1 | h1
    · have h2 : (2 : Nat) ^ 64 ≤ 2 ^ (Lib.bitLen x - 1) := Nat.pow_le_pow_right (by omega) (by omega)
      omega
    · exact h1
theorem mag_bits {x : Nat} (h : x < 2 ^ 64) (h0 : x ≠ 0) : (mag x).size = (Lib.bitLen x + 7) / 8 := by
  obtain ⟨h1, h2, h3⟩ := bitLen_spec h h0
  have p : ∀ k, 256 ^ k = 2 ^ (8 * k) := fun k => by rw [show (256 : Nat) = 2 ^ 8 by rfl, ← Nat.pow_mul]
  apply Nat.le_antisymm
  · rw [mag_size, p]
    exact Nat.lt_of_lt_of_le h3 (Nat.pow_le_pow_right (by omega) (by omega))
  · rcases Nat.lt_or_ge (mag x).size ((Lib.bitLen x + 7) / 8) with h4 | h4
    · have h5 : x < 256 ^ ((Lib.bitLen x + 7) / 8 - 1) := mag_size.1 (by omega)
      rw [p] at h5
      have h6 : (2 : Nat) ^ (8 * ((Lib.bitLen x + 7) / 8 - 1)) ≤ 2 ^ (Lib.bitLen x - 1) := Nat.pow_le_pow_right (by omega) (by omega)
      omega
    · exact h4
end Go.Vt
/-
  DERIVED: THE SHELF's CONTRACTS AT THIS DUMP, IN PLAIN WORDS (tools/lay-plain.mjs out of 'TryzShelf.lean', which tools/lay-shelf.mjs wrote): THE SAME DECLARATIONS UNDER THE SAME NAMES: 'import', 'namespace', 'open', 'def', 'theorem' AND NOTHING ELSE: no command of the shelf's: FOR A HAND-IN. Each laying: the table of numbers ('.._ren') and one theorem, a field a fact of the dump's own or the kernel's comparison; each contract: ONE APPLICATION.
-/
namespace Go.Proofs
open Go.Shelf
def Tryz.lays161_ren : Go.Shelf.Ren := ⟨fun | 161 => 150 | 231 => 169 | 227 => 170 | 233 => 171 | 235 => 172 | 228 => 194 | 197 => 195 | 151 => 196 | 260 => 217 | 152 => 218 | 137 => 242 | 119 => 243 | 224 => 244 | 225 => 245 | 217 => 256 | 266 => 262 | n => n, fun | 9 => 9 | 4 => 4 | 3 => 3 | 5 => 5 | 117 => 262 | 116 => 261 | 0 => 0 | 124 => 265 | 105 => 287 | 21 => 21 | 119 => 343 | 46 => 207 | 139 => 346 | 138 => 345 | n => n, fun | 3 => 1 | 4 => 2 | n => n⟩
theorem Tryz.lays161 : Go.Proofs.Lays.n161 Tryz.prog Tryz.lays161_ren := {
  mixed := by kernel_rfl
  f119 := Tryz.func243.trans (congrArg some (by kernel_rfl))
  f137 := Tryz.func242.trans (congrArg some (by kernel_rfl))
  f151 := Tryz.func196.trans (congrArg some (by kernel_rfl))
  f152 := Tryz.func218.trans (congrArg some (by kernel_rfl))
  f161 := Tryz.func150.trans (congrArg some (by kernel_rfl))
  f197 := Tryz.func195.trans (congrArg some (by kernel_rfl))
  f217 := Tryz.func256.trans (congrArg some (by kernel_rfl))
  f224 := Tryz.func244.trans (congrArg some (by kernel_rfl))
  f225 := Tryz.func245.trans (congrArg some (by kernel_rfl))
  f227 := Tryz.func170.trans (congrArg some (by kernel_rfl))
  f228 := Tryz.func194.trans (congrArg some (by kernel_rfl))
  f231 := Tryz.func169.trans (congrArg some (by kernel_rfl))
  f233 := Tryz.func171.trans (congrArg some (by kernel_rfl))
  f235 := Tryz.func172.trans (congrArg some (by kernel_rfl))
  f260 := Tryz.func217.trans (congrArg some (by kernel_rfl))
  f266 := Tryz.func262.trans (congrArg some (by kernel_rfl))
  t0 := Tryz.underlying0
  a0 := Tryz.isAgg0
  z0 := Tryz.sizeOf0
  v0 := Tryz.zeroValue0
  t3 := Tryz.underlying3
  a3 := Tryz.isAgg3
  z3 := Tryz.sizeOf3
  v3 := Tryz.zeroValue3
  t4 := Tryz.underlying4
  a4 := Tryz.isAgg4
  z4 := Tryz.sizeOf4
  v4 := Tryz.zeroValue4
  t5 := Tryz.underlying5
  a5 := Tryz.isAgg5
  z5 := Tryz.sizeOf5
  v5 := Tryz.zeroValue5
  t9 := Tryz.underlying9
  a9 := Tryz.isAgg9
  z9 := Tryz.sizeOf9
  v9 := Tryz.zeroValue9
  t21 := Tryz.underlying21
  a21 := Tryz.isAgg21
  z21 := Tryz.sizeOf21
  v21 := Tryz.zeroValue21
  t46 := Tryz.underlying207
  a46 := Tryz.isAgg207
  z46 := Tryz.sizeOf207
  v46 := Tryz.zeroValue207
  t105 := Tryz.underlying287
  a105 := Tryz.isAgg287
  z105 := Tryz.sizeOf287
  v105 := Tryz.zeroValue287
  t116 := Tryz.underlying261
  a116 := Tryz.isAgg261
  z116 := Tryz.sizeOf261
  t117 := Tryz.underlying262
  a117 := Tryz.isAgg262
  z117 := Tryz.sizeOf262
  v117 := Tryz.zeroValue262
  t119 := Tryz.underlying343
  a119 := Tryz.isAgg343
  z119 := Tryz.sizeOf343
  t124 := Tryz.underlying265
  a124 := Tryz.isAgg265
  z124 := Tryz.sizeOf265
  v124 := Tryz.zeroValue265
  t138 := Tryz.underlying345
  a138 := Tryz.isAgg345
  z138 := Tryz.sizeOf345
  v138 := Tryz.zeroValue345
  t139 := Tryz.underlying346
  a139 := Tryz.isAgg346
  z139 := Tryz.sizeOf346
  v139 := Tryz.zeroValue346
  g3 := by kernel_rfl
  g4 := by kernel_rfl }
open Go.RowKit in
/-- strings.TrimLeft: "TrimLeft returns a slice of the string s with all leading Unicode code points contained in cutset removed.": AT A cutset OF ONE ASCII BYTE. The world is as it was. (LAID: no walk: one application.) -/
theorem Tryz.strings_TrimLeft_one (s : ByteArray) (c : UInt8) (hc : c.toNat < 128) (w : World) :
    Calls Tryz.prog 150 #[.string s, .string ⟨#[c]⟩] w fun e w' => e = .returned (.string ⟨(Lib.trimLeftB s.data.toList c).toArray⟩) ∧ w' = w := Any.strings_TrimLeft_one Tryz.lays161 s c hc w
def Tryz.lays128_ren : Go.Shelf.Ren := ⟨fun | 128 => 168 | n => n, fun | 51 => 206 | 3 => 3 | 4 => 4 | 46 => 207 | 5 => 5 | 9 => 9 | n => n, fun | n => n⟩
def Tryz.lays125_ren : Go.Shelf.Ren := ⟨fun | 125 => 156 | 128 => 168 | 129 => 111 | n => n, fun | 46 => 207 | 3 => 3 | 51 => 206 | 53 => 146 | 4 => 4 | 5 => 5 | 9 => 9 | n => n, fun | n => n⟩
theorem Tryz.lays125 : Go.Proofs.Lays.n125 Tryz.prog Tryz.lays125_ren := {
  mixed := by kernel_rfl
  f125 := Tryz.func156.trans (congrArg some (by kernel_rfl))
  f128 := Tryz.func168.trans (congrArg some (by kernel_rfl))
  f129 := Tryz.func111.trans (congrArg some (by kernel_rfl))
  t3 := Tryz.underlying3
  a3 := Tryz.isAgg3
  z3 := Tryz.sizeOf3
  v3 := Tryz.zeroValue3
  t4 := Tryz.underlying4
  a4 := Tryz.isAgg4
  z4 := Tryz.sizeOf4
  v4 := Tryz.zeroValue4
  t5 := Tryz.underlying5
  a5 := Tryz.isAgg5
  z5 := Tryz.sizeOf5
  v5 := Tryz.zeroValue5
  t9 := Tryz.underlying9
  a9 := Tryz.isAgg9
  z9 := Tryz.sizeOf9
  v9 := Tryz.zeroValue9
  t46 := Tryz.underlying207
  a46 := Tryz.isAgg207
  z46 := Tryz.sizeOf207
  v46 := Tryz.zeroValue207
  t51 := Tryz.underlying206
  a51 := Tryz.isAgg206
  z51 := Tryz.sizeOf206
  v51 := Tryz.zeroValue206
  t53 := Tryz.underlying146
  a53 := Tryz.isAgg146
  z53 := Tryz.sizeOf146
  v53 := Tryz.zeroValue146 }
/-- bits.Len: "Len returns the minimum number of bits required to represent x; the result is 0 for x == 0.": IT RETURNS 'Lib.bitLen x'; the world is as it was. (A uint has 64 bits in the model.) ITS CALLEE bits.Len64 IS MET BY ITS OWN CONTRACT OFF THE SHELF (lay that first). (LAID: no walk: one application.) -/
theorem Tryz.bits_Len (x : Int) (w : World) (h0 : 0 ≤ x) (h1 : x ≤ 18446744073709551615) :
    Calls Tryz.prog 156 #[.int .u64 x] w fun e w' => e = .returned (.int .i64 (Lib.bitLen x.toNat)) ∧ w' = w := Any.bits_Len Tryz.lays125 x w h0 h1
def Tryz.lays133_ren : Go.Shelf.Ren := ⟨fun | 133 => 147 | 128 => 168 | n => n, fun | 51 => 206 | 3 => 3 | 4 => 4 | 46 => 207 | 5 => 5 | 9 => 9 | n => n, fun | n => n⟩
theorem Tryz.lays133 : Go.Proofs.Lays.n133 Tryz.prog Tryz.lays133_ren := {
  mixed := by kernel_rfl
  f128 := Tryz.func168.trans (congrArg some (by kernel_rfl))
  f133 := Tryz.func147.trans (congrArg some (by kernel_rfl))
  t3 := Tryz.underlying3
  a3 := Tryz.isAgg3
  z3 := Tryz.sizeOf3
  v3 := Tryz.zeroValue3
  t4 := Tryz.underlying4
  a4 := Tryz.isAgg4
  z4 := Tryz.sizeOf4
  v4 := Tryz.zeroValue4
  t5 := Tryz.underlying5
  a5 := Tryz.isAgg5
  z5 := Tryz.sizeOf5
  v5 := Tryz.zeroValue5
  t9 := Tryz.underlying9
  a9 := Tryz.isAgg9
  z9 := Tryz.sizeOf9
  v9 := Tryz.zeroValue9
  t46 := Tryz.underlying207
  a46 := Tryz.isAgg207
  z46 := Tryz.sizeOf207
  v46 := Tryz.zeroValue207
  t51 := Tryz.underlying206
  a51 := Tryz.isAgg206
  z51 := Tryz.sizeOf206
  v51 := Tryz.zeroValue206 }
/-- bits.LeadingZeros32: "LeadingZeros32 returns the number of leading zero bits in x; the result is 32 for x == 0.": IT RETURNS '32 - Lib.bitLen x'; the world is as it was. ITS CALLEE bits.Len32 IS MET BY ITS OWN CONTRACT OFF THE SHELF (lay that first): entered in place it sends the kernel out of memory. (LAID: no walk: one application.) -/
theorem Tryz.bits_LeadingZeros32 (x : Int) (w : World) (h0 : 0 ≤ x) (h1 : x ≤ 4294967295) :
    Calls Tryz.prog 147 #[.int .u32 x] w fun e w' => e = .returned (.int .i64 (32 - (Lib.bitLen x.toNat : Int))) ∧ w' = w := Any.bits_LeadingZeros32 Tryz.lays133 x w h0 h1
def Tryz.lays213_ren : Go.Shelf.Ren := ⟨fun | 213 => 151 | 265 => 173 | n => n, fun | 9 => 9 | 3 => 3 | n => n, fun | n => n⟩
def Tryz.lays106_ren : Go.Shelf.Ren := ⟨fun | 106 => 122 | 213 => 151 | 265 => 173 | n => n, fun | 9 => 9 | 3 => 3 | n => n, fun | n => n⟩
theorem Tryz.lays106 : Go.Proofs.Lays.n106 Tryz.prog Tryz.lays106_ren := {
  mixed := by kernel_rfl
  f106 := Tryz.func122.trans (congrArg some (by kernel_rfl))
  f213 := Tryz.func151.trans (congrArg some (by kernel_rfl))
  f265 := Tryz.func173.trans (congrArg some (by kernel_rfl))
  t3 := Tryz.underlying3
  a3 := Tryz.isAgg3
  z3 := Tryz.sizeOf3
  v3 := Tryz.zeroValue3
  t9 := Tryz.underlying9
  a9 := Tryz.isAgg9
  z9 := Tryz.sizeOf9
  v9 := Tryz.zeroValue9 }
open Go.RowKit in
/-- strings.Compare: "Compare returns an integer comparing two strings lexicographically. The result will be 0 if a == b, -1 if a < b, and +1 if a > b.": IT RETURNS 'Lib.compareBytes a b'; the world is as it was. (LAID: no walk: one application.) -/
theorem Tryz.strings_Compare (a b : ByteArray) (w : World) :
    Calls Tryz.prog 122 #[.string a, .string b] w fun e w' => e = .returned (.int .i64 (Lib.compareBytes a.data.toList b.data.toList)) ∧ w' = w := Any.strings_Compare Tryz.lays106 a b w
def Tryz.lays215_ren : Go.Shelf.Ren := ⟨fun | 215 => 120 | n => n, fun | 3 => 3 | 4 => 4 | n => n, fun | n => n⟩
def Tryz.lays122_ren : Go.Shelf.Ren := ⟨fun | 122 => 81 | 215 => 120 | n => n, fun | 3 => 3 | 4 => 4 | n => n, fun | n => n⟩
theorem Tryz.lays122 : Go.Proofs.Lays.n122 Tryz.prog Tryz.lays122_ren := {
  mixed := by kernel_rfl
  f122 := Tryz.func81.trans (congrArg some (by kernel_rfl))
  f215 := Tryz.func120.trans (congrArg some (by kernel_rfl))
  t3 := Tryz.underlying3
  a3 := Tryz.isAgg3
  z3 := Tryz.sizeOf3
  v3 := Tryz.zeroValue3
  t4 := Tryz.underlying4
  a4 := Tryz.isAgg4
  z4 := Tryz.sizeOf4
  v4 := Tryz.zeroValue4 }
open Go.RowKit in
/-- cmp.Compare at int: "Compare returns -1 if x is less than y, 0 if x equals y, +1 if x is greater than y.": IT RETURNS 'Lib.compareInt x y'; the world is as it was. (LAID: no walk: one application.) -/
theorem Tryz.cmp_Compare_int (x y : Int) (w : World) :
    Calls Tryz.prog 81 #[.int .i64 x, .int .i64 y] w fun e w' => e = .returned (.int .i64 (Lib.compareInt x y)) ∧ w' = w := Any.cmp_Compare_int Tryz.lays122 x y w
def Tryz.lays129_ren : Go.Shelf.Ren := ⟨fun | 129 => 111 | n => n, fun | 53 => 146 | 3 => 3 | 4 => 4 | 46 => 207 | 5 => 5 | 9 => 9 | n => n, fun | n => n⟩
theorem Tryz.lays129 : Go.Proofs.Lays.n129 Tryz.prog Tryz.lays129_ren := {
  mixed := by kernel_rfl
  f129 := Tryz.func111.trans (congrArg some (by kernel_rfl))
  t3 := Tryz.underlying3
  a3 := Tryz.isAgg3
  z3 := Tryz.sizeOf3
  v3 := Tryz.zeroValue3
  t4 := Tryz.underlying4
  a4 := Tryz.isAgg4
  z4 := Tryz.sizeOf4
  v4 := Tryz.zeroValue4
  t5 := Tryz.underlying5
  a5 := Tryz.isAgg5
  z5 := Tryz.sizeOf5
  v5 := Tryz.zeroValue5
  t9 := Tryz.underlying9
  a9 := Tryz.isAgg9
  z9 := Tryz.sizeOf9
  v9 := Tryz.zeroValue9
  t46 := Tryz.underlying207
  a46 := Tryz.isAgg207
  z46 := Tryz.sizeOf207
  v46 := Tryz.zeroValue207
  t53 := Tryz.underlying146
  a53 := Tryz.isAgg146
  z53 := Tryz.sizeOf146
  v53 := Tryz.zeroValue146 }
/-- bits.Len64: "Len64 returns the minimum number of bits required to represent x; the result is 0 for x == 0.": IT RETURNS 'Lib.bitLen x'; the world is as it was. ('h0', 'h1': x is a uint64.) (LAID: no walk: one application.) -/
theorem Tryz.bits_Len64 (x : Int) (w : World) (h0 : 0 ≤ x) (h1 : x ≤ 18446744073709551615) :
    Calls Tryz.prog 111 #[.int .u64 x] w fun e w' => e = .returned (.int .i64 (Lib.bitLen x.toNat)) ∧ w' = w := Any.bits_Len64 Tryz.lays129 x w h0 h1
def Tryz.lays264_ren : Go.Shelf.Ren := ⟨fun | 264 => 117 | n => n, fun | 53 => 146 | 46 => 207 | n => n, fun | n => n⟩
theorem Tryz.lays264 : Go.Proofs.Lays.n264 Tryz.prog Tryz.lays264_ren := {
  mixed := by kernel_rfl
  f264 := Tryz.func117.trans (congrArg some (by kernel_rfl))
  t46 := Tryz.underlying207
  a46 := Tryz.isAgg207
  z46 := Tryz.sizeOf207
  v46 := Tryz.zeroValue207
  t53 := Tryz.underlying146
  a53 := Tryz.isAgg146
  z53 := Tryz.sizeOf146
  v53 := Tryz.zeroValue146 }
open Go.RowKit Go.Lib in
theorem Tryz.bits_Mul64 (x y : Nat) (hx : x < 18446744073709551616) (hy : y < 18446744073709551616) (w : World) :
    Calls Tryz.prog 117 #[.int .u64 x, .int .u64 y] w fun e w' => e = .returned (.tuple #[.int .u64 ((x * y / 18446744073709551616 : Nat) : Int), .int .u64 ((x * y % 18446744073709551616 : Nat) : Int)]) ∧ w' = w := Any.bits_Mul64 Tryz.lays264 x y hx hy w
end Go.Proofs
