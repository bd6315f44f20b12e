/- A program logic over the walk's weakest preconditions: what is known of a frame is a list of temporaries, what is known of memory is a list of blocks of the call's own. Conditions: none. -/
import Derived.Below
import Derived.StillTail
import Derived.Laws.Rows
import Derived.KernelRfl
set_option linter.unusedSimpArgs false
set_option linter.unusedVariables false
namespace Go.Vt
open Go.RowKit

/-- Memory has grown; what was there is as it was. -/
abbrev Ext (w w' : World) : Prop := Below w.heap.size w w'
theorem Ext.refl (w : World) : Ext w w := Below.refl _ _
theorem Ext.tr {a b c : World} (h : Ext a b) (k : Ext b c) : Ext a c := h.trans (k.mono h.size)
theorem Ext.alloc (w : World) (o : Obj) : Ext w (w.alloc o) := (Below.refl _ _).alloc (Nat.le_refl _) o
theorem Ext.drew (w : World) : Ext w w.drew := (Below.refl _ _).drew

/-- What is known of the temporaries. -/
abbrev Env := List (Nat × Value)
def Env.find : Env → Nat → Option Value
  | [], _ => none
  | (k, v) :: E, n => cond (Nat.beq k n) (some v) (Env.find E n)
def Env.ev (E : Env) : Operand → Option Value
  | .tmp t => Env.find E t
  | .const v => some v
  | .global g => some (.pointer (some ⟨g, 0, none⟩))
  | .func f => some (.func (.func f) #[] #[])
def Env.put (E : Env) (d : Option Tmp) (v : Value) : Env :=
  match d with
  | some d => (d, v) :: E
  | none => E

structure Rep (n : Nat) (E : Env) (a : Act) : Prop where
  size : a.tmps.size = n
  defers : a.defers = []
  val : ∀ k v, Env.find E k = some v → a.tmps[k]? = some v

theorem Rep.ev {n : Nat} {E : Env} {a : Act} (h : Rep n E a) {x : Operand} {v : Value} (hx : Env.ev E x = some v) : a.eval x = v := by
  cases x with
  | tmp t =>
    have := h.val t v hx
    simp [Act.eval, this]
  | const u => simpa [Env.ev, Act.eval] using hx
  | global g => simpa [Env.ev, Act.eval] using hx
  | func f => simpa [Env.ev, Act.eval] using hx

def dstOk (n : Nat) (d : Option Tmp) : Bool :=
  match d with
  | some d => Nat.blt d n
  | none => true

theorem Rep.put {n : Nat} {E : Env} {a : Act} (h : Rep n E a) (d : Option Tmp) (v : Value) (hd : dstOk n d = true) : Rep n (Env.put E d v) (a.put d v) := by
  cases d with
  | none => exact h
  | some d =>
    refine ⟨by simpa [Act.put] using h.size, by simpa [Act.put] using h.defers, fun k u hk => ?_⟩
    have hlt : d < a.tmps.size := by rw [h.size]; simpa [dstOk, Nat.blt_eq] using hd
    by_cases hdk : d = k
    · subst hdk
      simp only [Env.put, Env.find, Nat.beq_refl, cond_true, Option.some.injEq] at hk
      subst hk
      simp [Act.put, hlt]
    · have hb : Nat.beq d k = false := by
        cases hq : Nat.beq d k with
        | false => rfl
        | true => exact absurd (Nat.eq_of_beq_eq_true hq) hdk
      simp only [Env.put, Env.find, hb, cond_false] at hk
      simp only [Act.put, Array.getElem?_setIfInBounds_ne hdk]
      exact h.val k u hk

/-- 'E' knows all that 'F' says. -/
def Sub (E F : Env) : Prop := ∀ k v, Env.find F k = some v → Env.find E k = some v
theorem Sub.refl (E : Env) : Sub E E := fun _ _ h => h
theorem sub_nil {E : Env} : Sub E [] := fun k v h => by simp [Env.find] at h
theorem sub_cons {E F : Env} {k : Nat} {v : Value} (h : Env.find E k = some v) (hs : Sub E F) : Sub E ((k, v) :: F) := by
  intro j u hj
  by_cases hjk : k = j
  · subst hjk
    simp only [Env.find, Nat.beq_refl, cond_true, Option.some.injEq] at hj
    subst hj
    exact h
  · have hb : Nat.beq k j = false := by
      cases hq : Nat.beq k j with
      | false => rfl
      | true => exact absurd (Nat.eq_of_beq_eq_true hq) hjk
    simp only [Env.find, hb, cond_false] at hj
    exact hs j u hj
theorem sub_cons' {E F : Env} {k : Nat} {v v' : Value} (h : Env.find E k = some v') (hv : v' = v) (hs : Sub E F) : Sub E ((k, v) :: F) := sub_cons (hv ▸ h) hs
theorem Rep.sub {n : Nat} {E F : Env} {a : Act} (h : Rep n E a) (hs : Sub E F) : Rep n F a := ⟨h.size, h.defers, fun k v hk => h.val k v (hs k v hk)⟩

/-- A block of the call's own: a row of cells, no string's bytes. -/
structure Blk where
  b : Nat
  cs : Array Value
  T : TypeId

structure Own (w0 : World) (L : List Blk) (w : World) : Prop where
  ext : Ext w0 w
  mem : ∀ e ∈ L, w0.heap.size ≤ e.b ∧ w.heap[e.b]? = some (.cells e.cs e.T (0, 0))
  nd : (L.map (·.b)).Nodup

theorem Own.start (w : World) : Own w [] w := ⟨Ext.refl _, fun _ h => by simp at h, by simp⟩
theorem lt_of_block {w : World} {b : Nat} {o : Obj} (h : w.heap[b]? = some o) : b < w.heap.size := by
  rcases Nat.lt_or_ge b w.heap.size with h' | h'
  · exact h'
  · simp [Array.getElem?_eq_none h'] at h
theorem Own.lt {w0 w : World} {L : List Blk} (h : Own w0 L w) {e : Blk} (he : e ∈ L) : e.b < w.heap.size := lt_of_block (h.mem e he).2
theorem Own.to {w0 w w' : World} {L : List Blk} (h : Own w0 L w) (k : Ext w w') : Own w0 L w' :=
  ⟨h.ext.tr k, fun e he => ⟨(h.mem e he).1, by rw [k.block _ (h.lt he)]; exact (h.mem e he).2⟩, h.nd⟩
theorem Own.sub {w0 w : World} {L M : List Blk} (h : Own w0 L w) (hs : M.Sublist L) : Own w0 M w :=
  ⟨h.ext, fun e he => h.mem e (hs.subset he), h.nd.sublist (hs.map _)⟩
/-- A block that was not there before. -/
theorem Own.more {w0 w w' : World} {L : List Blk} (h : Own w0 L w) (k : Ext w w') {e : Blk} (hb : w.heap.size ≤ e.b) (hc : w'.heap[e.b]? = some (.cells e.cs e.T (0, 0))) : Own w0 (e :: L) w' := by
  have h' := h.to k
  refine ⟨h'.ext, fun x hx => ?_, ?_⟩
  · rcases List.mem_cons.1 hx with rfl | hx
    · exact ⟨Nat.le_trans h.ext.size hb, hc⟩
    · exact h'.mem x hx
  · simp only [List.map_cons, List.nodup_cons]
    refine ⟨fun hm => ?_, h.nd⟩
    obtain ⟨y, hy, hyb⟩ := List.mem_map.1 hm
    have := h.lt hy
    omega
theorem Own.alloc {w0 w : World} {L : List Blk} (h : Own w0 L w) (cs : Array Value) (T : TypeId) : Own w0 (⟨w.heap.size, cs, T⟩ :: L) (w.alloc (.cells cs T)) :=
  h.more (Ext.alloc _ _) (Nat.le_refl _) (heap_alloc_new _ _)

/-- One entry's cells turned. -/
inductive Upd (b : Nat) (cs : Array Value) (T : TypeId) (cs' : Array Value) : List Blk → List Blk → Prop where
  | here {L : List Blk} : Upd b cs T cs' (⟨b, cs, T⟩ :: L) (⟨b, cs', T⟩ :: L)
  | there {e : Blk} {L L' : List Blk} : Upd b cs T cs' L L' → Upd b cs T cs' (e :: L) (e :: L')
theorem Upd.mem {b : Nat} {cs cs' : Array Value} {T : TypeId} {L L' : List Blk} (h : Upd b cs T cs' L L') : (⟨b, cs, T⟩ : Blk) ∈ L := by
  induction h with
  | here => exact .head _
  | there _ ih => exact .tail _ ih
theorem Upd.mem' {b : Nat} {cs cs' : Array Value} {T : TypeId} {L L' : List Blk} (h : Upd b cs T cs' L L') (hn : (L.map (·.b)).Nodup) : ∀ e ∈ L', e = ⟨b, cs', T⟩ ∨ (e ∈ L ∧ e.b ≠ b) := by
  induction h with
  | here =>
    intro e he
    rcases List.mem_cons.1 he with rfl | he
    · exact .inl rfl
    · refine .inr ⟨.tail _ he, fun hb => ?_⟩
      simp only [List.map_cons, List.nodup_cons] at hn
      exact hn.1 (List.mem_map.2 ⟨e, he, hb⟩)
  | there h ih =>
    intro e he
    simp only [List.map_cons, List.nodup_cons] at hn
    rcases List.mem_cons.1 he with rfl | he
    · refine .inr ⟨.head _, fun hb => ?_⟩
      exact hn.1 (List.mem_map.2 ⟨_, h.mem, hb.symm⟩)
    · rcases ih hn.2 e he with h1 | h1
      · exact .inl h1
      · exact .inr ⟨.tail _ h1.1, h1.2⟩
theorem Upd.map {b : Nat} {cs cs' : Array Value} {T : TypeId} {L L' : List Blk} (h : Upd b cs T cs' L L') : L'.map (·.b) = L.map (·.b) := by
  induction h with
  | here => rfl
  | there _ ih => simp only [List.map_cons, ih]

/-- The block's cells are turned, nothing else. -/
structure Turned (b : Nat) (cs' : Array Value) (T : TypeId) (w w' : World) : Prop where
  os : w'.os = w.os
  tape : w'.tape = w.tape
  output : w'.output = w.output
  size : w'.heap.size = w.heap.size
  block : ∀ k, k ≠ b → w'.heap[k]? = w.heap[k]?
  here : w'.heap[b]? = some (.cells cs' T (0, 0))
theorem Own.turn {w0 w w' : World} {L L' : List Blk} {b : Nat} {cs cs' : Array Value} {T : TypeId} (h : Own w0 L w) (hu : Upd b cs T cs' L L') (ht : Turned b cs' T w w') : Own w0 L' w' := by
  have hb := (h.mem _ hu.mem).1
  refine ⟨h.ext.trans ⟨ht.os, ht.tape, ht.output, by rw [ht.size]; exact Nat.le_refl _, fun k hk => ht.block k (by simp at hb; omega)⟩, fun e he => ?_, by rw [hu.map]; exact h.nd⟩
  rcases hu.mem' h.nd e he with rfl | ⟨h1, h2⟩
  · exact ⟨hb, ht.here⟩
  · exact ⟨(h.mem e h1).1, by rw [ht.block _ h2]; exact (h.mem e h1).2⟩

/-! ### One operation that has one value, whatever the world of the class -/
section
variable {P : Program} {w0 : World} {n : Nat} {ops : Array Oper} {L : List Blk} {E : Env}

def calmUpon (P : Program) (w : World) (v : Value) : Result Next → Prop
  | .ok (.value u) w' => u = v ∧ Ext w w'
  | .ok .skip w' => v = undef ∧ Ext w w'
  | .ok (.enter f args) w' => w' = w ∧ Calls P f args w (fun e w'' => e = .returned v ∧ Ext w w'')
  | _ => False
def calm (P : Program) (o : Oper) (a : Act) (w : World) (v : Value) : Prop := calmUpon P w v ((execOp a.eval o).run P w)

/-- Operation 'o' yields 'v' in every frame and world that are as known. -/
structure Yl (P : Program) (w0 : World) (n : Nat) (L : List Blk) (E : Env) (o : Oper) (v : Value) : Prop where
  out : ∀ a w, Rep n E a → Own w0 L w → calm P o a w v

theorem wp_of_calm {o : Oper} {a : Act} {w : World} {v : Value} {K : Act → World → Prop} {Q : Exit → Act → World → Prop} (hc : calm P o a w v)
    (h : ∀ w', Ext w w' → K (a.put o.dst v) w') : o.wp P a w K Q := by
  unfold calm at hc
  unfold Oper.wp
  generalize (execOp a.eval o).run P w = r at *
  cases r with
  | ok x w' =>
    cases x <;> simp only [calmUpon] at hc <;> simp only [Oper.upon]
    case value u => obtain ⟨rfl, hx⟩ := hc; exact h _ hx
    case skip => obtain ⟨rfl, hx⟩ := hc; exact h _ hx
    case enter f args =>
      obtain ⟨rfl, hx⟩ := hc
      exact hx.mono fun e w'' ⟨he, hw⟩ => by subst he; exact h _ hw
  | halt x w' => simp only [calmUpon] at hc

/-- What a guard says, as far as the temporaries are known. -/
def guardB (ops : Array Oper) (E : Env) : Option (Nat × Bool) → Option Bool
  | none => some true
  | some (j, want) =>
    match (ops[j]?).bind (·.dst) with
    | some t => match Env.find E t with
      | some (.bool b) => some (b == want)
      | some (.tuple _) => some false
      | _ => none
    | none => none
theorem guardB_spec {a : Act} {o : Oper} {b : Bool} (ha : Rep n E a) (h : guardB ops E o.guard = some b) : Region.wanted o (yielded ops a.tmps) = b := by
  unfold Region.wanted
  cases hg : o.guard with
  | none => simp only [hg, guardB, Option.some.injEq] at h; exact h
  | some jw =>
    obtain ⟨j, want⟩ := jw
    simp only [hg, guardB] at h
    unfold yielded
    split at h
    · rename_i t ht
      split at h
      · rename_i c hc
        have := ha.val t _ hc
        simp only [Option.some.injEq] at h
        subst h
        simp [ht, this]
      · rename_i c hc
        have := ha.val t _ hc
        simp only [Option.some.injEq] at h
        subst h
        simp [ht, this]
      · cases h
    · cases h

/-! ### Lists of operations, in the order of the text -/
structure JO (P : Program) (w0 : World) (n : Nat) (ops : Array Oper) (Q : Exit → Act → World → Prop) (l : List Oper) (E : Env) (L : List Blk) : Prop where
  out : ∀ a w, Rep n E a → Own w0 L w → wpList P ops Q l a w
/-- A code, from what is known on. -/
structure J (P : Program) (w0 : World) (n : Nat) (c : Code) (Q : Exit → Act → World → Prop) (E : Env) (L : List Blk) : Prop where
  out : ∀ a w, Rep n E a → Own w0 L w → c.wp P Q a w
/-- A way out. -/
structure JX (w0 : World) (n : Nat) (e : Exit) (Q : Exit → Act → World → Prop) (E : Env) (L : List Blk) : Prop where
  out : ∀ a w, Rep n E a → Own w0 L w → Q e a w

variable {Q : Exit → Act → World → Prop} {o : Oper} {rest : List Oper} {v : Value}

theorem jo_nil (h : JX w0 n .normal Q E L) : JO P w0 n ops Q [] E L := ⟨fun a w ha hw => wpList_nil (h.out a w ha hw)⟩
theorem jo_q (hy : Yl P w0 n L E o v) (hg : guardB ops E o.guard = some true) (hd : dstOk n o.dst = true) (h : JO P w0 n ops Q rest (Env.put E o.dst v) L) : JO P w0 n ops Q (o :: rest) E L := by
  refine ⟨fun a w ha hw => ?_⟩
  refine wpList_step fun K hK => ?_
  rw [if_pos (guardB_spec ha hg)]
  exact wp_of_calm (hy.out a w ha hw) fun w' hx => hK _ _ (h.out _ _ (ha.put _ _ hd) (hw.to hx))
theorem jo_skip (hg : guardB ops E o.guard = some false) (hd : dstOk n o.dst = true) (h : JO P w0 n ops Q rest (Env.put E o.dst undef) L) : JO P w0 n ops Q (o :: rest) E L := by
  refine ⟨fun a w ha hw => ?_⟩
  refine wpList_step fun K hK => ?_
  rw [if_neg (by rw [guardB_spec ha hg]; simp)]
  exact hK _ _ (h.out _ _ (ha.put _ _ hd) hw)
/-- An operation that makes a block or turns one. -/
theorem jo_w {L' : Type} (hg : guardB ops E o.guard = some true) (hd : dstOk n o.dst = true) (val : L' → Value) (mem : L' → List Blk)
    (hy : ∀ a w, Rep n E a → Own w0 L w → ∃ s w', ((execOp a.eval o).run P w = .ok (.value (val s)) w' ∨ ((execOp a.eval o).run P w = .ok .skip w' ∧ val s = undef)) ∧ Own w0 (mem s) w')
    (h : ∀ s, JO P w0 n ops Q rest (Env.put E o.dst (val s)) (mem s)) : JO P w0 n ops Q (o :: rest) E L := by
  refine ⟨fun a w ha hw => ?_⟩
  refine wpList_step fun K hK => ?_
  rw [if_pos (guardB_spec ha hg)]
  obtain ⟨s, w', hr, hw'⟩ := hy a w ha hw
  unfold Oper.wp
  rcases hr with hr | ⟨hr, hs⟩
  · rw [hr]
    exact hK _ _ ((h s).out _ _ (ha.put _ _ hd) hw')
  · rw [hr]
    have := (h s).out _ _ (ha.put _ _ hd) hw'
    rw [hs] at this
    exact hK _ _ this
/-- A call whose results lie in memory of its own. -/
theorem jo_c {S : Type} {f : FuncId} {args : Array Value} (hg : guardB ops E o.guard = some true) (hd : dstOk n o.dst = true) (val : S → Value) (mem : S → List Blk)
    (hr : ∀ a w, Rep n E a → (execOp a.eval o).run P w = .ok (.enter f args) w)
    (hc : ∀ w, Own w0 L w → Calls P f args w fun e w' => ∃ s, e = .returned (val s) ∧ Own w0 (mem s) w')
    (h : ∀ s, JO P w0 n ops Q rest (Env.put E o.dst (val s)) (mem s)) : JO P w0 n ops Q (o :: rest) E L := by
  refine ⟨fun a w ha hw => ?_⟩
  refine wpList_step fun K hK => ?_
  rw [if_pos (guardB_spec ha hg)]
  unfold Oper.wp
  rw [hr a w ha]
  exact (hc w hw).mono fun e w' ⟨s, he, hw'⟩ => by subst he; exact hK _ _ ((h s).out _ _ (ha.put _ _ hd) hw')

/-! ### Codes -/
def Then (P : Program) (c : Code) (Q : Exit → Act → World → Prop) : Exit → Act → World → Prop := Exit.then (c.wp P Q) Q
theorem j_region {l : List Oper} {id : Nat} (h : JO P w0 n l.toArray Q l E L) : J P w0 n (.region id l.toArray false) Q E L := ⟨fun a w ha hw => wp_region_lit (h.out a w ha hw)⟩
theorem j_seq {x y : Code} (h : J P w0 n x (Then P y Q) E L) : J P w0 n (.seq x y) Q E L := ⟨fun a w ha hw => wp_seq (h.out a w ha hw)⟩
theorem j_skip (h : JX w0 n .normal Q E L) : J P w0 n .skip Q E L := ⟨fun a w ha hw => wp_skip (h.out a w ha hw)⟩
theorem j_ret (h : JX w0 n .ret Q E L) : J P w0 n .ret Q E L := ⟨fun a w ha hw => wp_ret (h.out a w ha hw)⟩
theorem j_exit {id : Nat} (h : JX w0 n (.exit id) Q E L) : J P w0 n (.exit id) Q E L := ⟨fun a w ha hw => wp_exit (h.out a w ha hw)⟩
theorem j_block {id : Nat} {c : Code} (h : J P w0 n c (Exit.inBlock id Q) E L) : J P w0 n (.block id c) Q E L := ⟨fun a w ha hw => wp_block (h.out a w ha hw)⟩
theorem j_cond {c : Operand} {x y : Code} {t : Bool} (hc : Env.ev E c = some (.bool t)) (ht : t = true → J P w0 n x Q E L) (hf : t = false → J P w0 n y Q E L) : J P w0 n (.cond c x y) Q E L := ⟨fun a w ha hw => by
  cases t with
  | true => exact wp_cond_true (ha.ev hc) ((ht rfl).out a w ha hw)
  | false => exact wp_cond_false (ha.ev hc) ((hf rfl).out a w ha hw)⟩
theorem j_if {c : Operand} {x y : Code} (hc : Env.ev E c = some (.bool true)) (h : J P w0 n x Q E L) : J P w0 n (.cond c x y) Q E L := ⟨fun a w ha hw => wp_cond_true (ha.ev hc) (h.out a w ha hw)⟩
theorem j_else {c : Operand} {x y : Code} (hc : Env.ev E c = some (.bool false)) (h : J P w0 n y Q E L) : J P w0 n (.cond c x y) Q E L := ⟨fun a w ha hw => wp_cond_false (ha.ev hc) (h.out a w ha hw)⟩
theorem jx_then {y : Code} (h : J P w0 n y Q E L) : JX w0 n .normal (Then P y Q) E L := ⟨h.out⟩
theorem jx_then_ret {y : Code} (h : JX w0 n .ret Q E L) : JX w0 n .ret (Then P y Q) E L := ⟨h.out⟩
theorem jx_then_exit {y : Code} {id : Nat} (h : JX w0 n (.exit id) Q E L) : JX w0 n (.exit id) (Then P y Q) E L := ⟨h.out⟩
theorem jx_block {id : Nat} (h : JX w0 n .normal Q E L) : JX w0 n .normal (Exit.inBlock id Q) E L := ⟨h.out⟩
theorem jx_block_ret {id : Nat} (h : JX w0 n .ret Q E L) : JX w0 n .ret (Exit.inBlock id Q) E L := ⟨h.out⟩
theorem jx_block_here {id : Nat} (h : JX w0 n .normal Q E L) : JX w0 n (.exit id) (Exit.inBlock id Q) E L := ⟨fun a w ha hw => by
  simp only [Exit.inBlock, if_true]
  exact h.out a w ha hw⟩
theorem jx_block_past {id j : Nat} (hj : Nat.beq j id = false) (h : JX w0 n (.exit j) Q E L) : JX w0 n (.exit j) (Exit.inBlock id Q) E L := ⟨fun a w ha hw => by
  have : ¬ j = id := fun e => by subst e; simp at hj
  simp only [Exit.inBlock, if_neg this]
  exact h.out a w ha hw⟩

/-- A place where the ways meet: what is known there, by a ghost. -/
def MidQ {S : Type} (w0 : World) (n : Nat) (I : S → Prop) (Es : S → Env) (Ls : S → List Blk) (K : Act → World → Prop) (Q : Exit → Act → World → Prop) : Exit → Act → World → Prop
  | .normal, a, w => (∃ s, I s ∧ Rep n (Es s) a ∧ Own w0 (Ls s) w) ∧ K a w
  | e, a, w => Q e a w
theorem j_mid {S : Type} (I : S → Prop) (Es : S → Env) (Ls : S → List Blk) {x y : Code} (h1 : J P w0 n x (MidQ w0 n I Es Ls (fun _ _ => True) Q) E L) (h2 : ∀ s, I s → J P w0 n y Q (Es s) (Ls s)) : J P w0 n (.seq x y) Q E L := ⟨fun a w ha hw => by
  refine wp_seq (wp_mono (h1.out a w ha hw) fun e a' w' hq => ?_)
  cases e with
  | normal => obtain ⟨⟨s, hs, hr, ho⟩, _⟩ := hq; exact (h2 s hs).out a' w' hr ho
  | _ => exact hq⟩
theorem jx_mid {S : Type} {I : S → Prop} {Es : S → Env} {Ls : S → List Blk} (s : S) (hs : I s) (hE : Sub E (Es s)) (hL : (Ls s).Sublist L) : JX w0 n .normal (MidQ w0 n I Es Ls (fun _ _ => True) Q) E L :=
  ⟨fun _ _ ha hw => ⟨⟨s, hs, ha.sub hE, hw.sub hL⟩, trivial⟩⟩
theorem j_cut {S : Type} (I : S → Prop) (Es : S → Env) (Ls : S → List Blk) {x y : Code} (h1 : J P w0 n x (MidQ w0 n I Es Ls (fun _ _ => True) Q) E L) (h2 : ∀ s, I s → J P w0 n y Q (Es s) (Ls s)) : J P w0 n x (Then P y Q) E L := ⟨fun a w ha hw => by
  refine wp_mono (h1.out a w ha hw) fun e a' w' hq => ?_
  cases e with
  | normal => obtain ⟨⟨s, hs, hr, ho⟩, _⟩ := hq; exact (h2 s hs).out a' w' hr ho
  | _ => exact hq⟩
theorem jx_mid_ret {S : Type} {I : S → Prop} {Es : S → Env} {Ls : S → List Blk} {K : Act → World → Prop} (h : JX w0 n .ret Q E L) : JX w0 n .ret (MidQ w0 n I Es Ls K Q) E L := ⟨h.out⟩
theorem jx_mid_exit {S : Type} {I : S → Prop} {Es : S → Env} {Ls : S → List Blk} {K : Act → World → Prop} {id : Nat} (h : JX w0 n (.exit id) Q E L) : JX w0 n (.exit id) (MidQ w0 n I Es Ls K Q) E L := ⟨h.out⟩

theorem least (p : Nat → Prop) : ∀ m, p m → ∃ k, p k ∧ ∀ j, p j → k ≤ j := by
  intro m
  induction m using Nat.strongRecOn with
  | _ m ih =>
    intro hm
    by_cases h : ∃ j, j < m ∧ p j
    · obtain ⟨j, hj, hp⟩ := h
      exact ih j hj hp
    · refine ⟨m, hm, fun j hp => ?_⟩
      rcases Nat.lt_or_ge j m with hj | hj
      · exact absurd ⟨j, hj, hp⟩ h
      · exact hj

/-- What a round must come to. -/
def LoopQ {S : Type} (w0 : World) (n : Nat) (I : S → Prop) (Es : S → Env) (Ls : S → List Blk) (mu : S → Nat) (s : S) (Q : Exit → Act → World → Prop) : Exit → Act → World → Prop
  | .normal, a, w => ∃ t, I t ∧ Rep n (Es t) a ∧ Own w0 (Ls t) w ∧ mu t < mu s
  | e, a, w => Q e a w
theorem j_loop {S : Type} (I : S → Prop) (Es : S → Env) (Ls : S → List Blk) (mu : S → Nat) (s0 : S) {c : Code} (h0 : I s0) (hE : Sub E (Es s0)) (hL : (Ls s0).Sublist L)
    (round : ∀ s, I s → J P w0 n c (LoopQ w0 n I Es Ls mu s Q) (Es s) (Ls s)) : J P w0 n (.loop c) Q E L := by
  refine ⟨fun a w ha hw => ?_⟩
  have hmin : ∀ (a : Act) (w : World), (∃ s, I s ∧ Rep n (Es s) a ∧ Own w0 (Ls s) w) → ∃ s, (I s ∧ Rep n (Es s) a ∧ Own w0 (Ls s) w) ∧ ∀ t, (I t ∧ Rep n (Es t) a ∧ Own w0 (Ls t) w) → mu s ≤ mu t := by
    intro a w ⟨s, hs⟩
    obtain ⟨k, ⟨t, ht, hk⟩, hm⟩ := least (fun k => ∃ t, (I t ∧ Rep n (Es t) a ∧ Own w0 (Ls t) w) ∧ mu t = k) (mu s) ⟨s, hs, rfl⟩
    exact ⟨t, ht, fun t' ht' => by rw [hk]; exact hm _ ⟨t', ht', rfl⟩⟩
  classical
  let pick : Act → World → Nat := fun a w => if h : ∃ s, I s ∧ Rep n (Es s) a ∧ Own w0 (Ls s) w then mu (Classical.choose (hmin a w h)) else 0
  refine wp_loop (fun a w => ∃ s, I s ∧ Rep n (Es s) a ∧ Own w0 (Ls s) w) pick ⟨s0, h0, ha.sub hE, hw.sub hL⟩ fun a' w' hI => ?_
  have hsp := Classical.choose_spec (hmin a' w' hI)
  have hr := (round _ hsp.1.1).out a' w' hsp.1.2.1 hsp.1.2.2
  refine wp_mono hr fun e a2 w2 hq => ?_
  cases e with
  | normal =>
    obtain ⟨t, ht, hr2, ho2, hlt⟩ := hq
    refine ⟨⟨t, ht, hr2, ho2⟩, ?_⟩
    have hex : ∃ s, I s ∧ Rep n (Es s) a2 ∧ Own w0 (Ls s) w2 := ⟨t, ht, hr2, ho2⟩
    have h2 := (Classical.choose_spec (hmin a2 w2 hex)).2 t ⟨ht, hr2, ho2⟩
    simp only [pick, dif_pos hex, dif_pos hI]
    omega
  | _ => exact hq
theorem jx_loop {S : Type} {I : S → Prop} {Es : S → Env} {Ls : S → List Blk} {mu : S → Nat} {s : S} (t : S) (ht : I t) (hE : Sub E (Es t)) (hL : (Ls t).Sublist L) (hmu : mu t < mu s) : JX w0 n .normal (LoopQ w0 n I Es Ls mu s Q) E L :=
  ⟨fun _ _ ha hw => ⟨t, ht, ha.sub hE, hw.sub hL, hmu⟩⟩
theorem jx_loop_ret {S : Type} {I : S → Prop} {Es : S → Env} {Ls : S → List Blk} {mu : S → Nat} {s : S} (h : JX w0 n .ret Q E L) : JX w0 n .ret (LoopQ w0 n I Es Ls mu s Q) E L := ⟨h.out⟩
theorem jx_loop_exit {S : Type} {I : S → Prop} {Es : S → Env} {Ls : S → List Blk} {mu : S → Nat} {s : S} {id : Nat} (h : JX w0 n (.exit id) Q E L) : JX w0 n (.exit id) (LoopQ w0 n I Es Ls mu s Q) E L := ⟨h.out⟩

theorem Own.perm {w0 w : World} {L M : List Blk} (h : Own w0 L w) (hp : L.Perm M) : Own w0 M w :=
  ⟨h.ext, fun e he => h.mem e (hp.mem_iff.2 he), (hp.map _).nodup_iff.1 h.nd⟩
theorem jx_perm {e : Exit} {M : List Blk} (hp : L.Perm M) (h : JX w0 n e Q E M) : JX w0 n e Q E L := ⟨fun a w ha hw => h.out a w ha (hw.perm hp)⟩
/-- Forgetting. -/
theorem j_forget {E' : Env} {L' : List Blk} {c : Code} (hE : Sub E E') (hL : L'.Sublist L) (h : J P w0 n c Q E' L') : J P w0 n c Q E L := ⟨fun a w ha hw => h.out a w (ha.sub hE) (hw.sub hL)⟩

/-! ### A function -/
def envOf (k : Nat) : List Value → Env
  | [] => []
  | v :: l => (k, v) :: envOf (k + 1) l
theorem find_envOf (l : List Value) : ∀ k j v, Env.find (envOf k l) j = some v → k ≤ j ∧ l[j - k]? = some v := by
  induction l with
  | nil => intro k j v h; simp [envOf, Env.find] at h
  | cons x l ih =>
    intro k j v h
    by_cases hkj : k = j
    · subst hkj
      simp only [envOf, Env.find, Nat.beq_refl, cond_true, Option.some.injEq] at h
      exact ⟨Nat.le_refl _, by simp [h]⟩
    · have hb : Nat.beq k j = false := by
        cases hq : Nat.beq k j with
        | false => rfl
        | true => exact absurd (Nat.eq_of_beq_eq_true hq) hkj
      simp only [envOf, Env.find, hb, cond_false] at h
      obtain ⟨h1, h2⟩ := ih _ _ _ h
      refine ⟨by omega, ?_⟩
      rw [show j - k = (j - (k + 1)) + 1 by omega]
      simpa using h2
/-- The frame in which a call begins. -/
class EnvC (l : List Value) (E : outParam Env) : Prop where out : envOf 0 l = E
instance envC0 : EnvC [] [] := ⟨rfl⟩
instance envC1 (v0 : Value) : EnvC [v0] [(0, v0)] := ⟨rfl⟩
instance envC2 (v0 v1 : Value) : EnvC [v0, v1] [(0, v0), (1, v1)] := ⟨rfl⟩
instance envC3 (v0 v1 v2 : Value) : EnvC [v0, v1, v2] [(0, v0), (1, v1), (2, v2)] := ⟨rfl⟩
instance envC4 (v0 v1 v2 v3 : Value) : EnvC [v0, v1, v2, v3] [(0, v0), (1, v1), (2, v2), (3, v3)] := ⟨rfl⟩
instance envC5 (v0 v1 v2 v3 v4 : Value) : EnvC [v0, v1, v2, v3, v4] [(0, v0), (1, v1), (2, v2), (3, v3), (4, v4)] := ⟨rfl⟩
instance envC6 (v0 v1 v2 v3 v4 v5 : Value) : EnvC [v0, v1, v2, v3, v4, v5] [(0, v0), (1, v1), (2, v2), (3, v3), (4, v4), (5, v5)] := ⟨rfl⟩
instance envC7 (v0 v1 v2 v3 v4 v5 v6 : Value) : EnvC [v0, v1, v2, v3, v4, v5, v6] [(0, v0), (1, v1), (2, v2), (3, v3), (4, v4), (5, v5), (6, v6)] := ⟨rfl⟩
instance envC8 (v0 v1 v2 v3 v4 v5 v6 v7 : Value) : EnvC [v0, v1, v2, v3, v4, v5, v6, v7] [(0, v0), (1, v1), (2, v2), (3, v3), (4, v4), (5, v5), (6, v6), (7, v7)] := ⟨rfl⟩
instance envC9 (v0 v1 v2 v3 v4 v5 v6 v7 v8 : Value) : EnvC [v0, v1, v2, v3, v4, v5, v6, v7, v8] [(0, v0), (1, v1), (2, v2), (3, v3), (4, v4), (5, v5), (6, v6), (7, v7), (8, v8)] := ⟨rfl⟩
instance envC10 (v0 v1 v2 v3 v4 v5 v6 v7 v8 v9 : Value) : EnvC [v0, v1, v2, v3, v4, v5, v6, v7, v8, v9] [(0, v0), (1, v1), (2, v2), (3, v3), (4, v4), (5, v5), (6, v6), (7, v7), (8, v8), (9, v9)] := ⟨rfl⟩
instance envC11 (v0 v1 v2 v3 v4 v5 v6 v7 v8 v9 v10 : Value) : EnvC [v0, v1, v2, v3, v4, v5, v6, v7, v8, v9, v10] [(0, v0), (1, v1), (2, v2), (3, v3), (4, v4), (5, v5), (6, v6), (7, v7), (8, v8), (9, v9), (10, v10)] := ⟨rfl⟩
instance envC12 (v0 v1 v2 v3 v4 v5 v6 v7 v8 v9 v10 v11 : Value) : EnvC [v0, v1, v2, v3, v4, v5, v6, v7, v8, v9, v10, v11] [(0, v0), (1, v1), (2, v2), (3, v3), (4, v4), (5, v5), (6, v6), (7, v7), (8, v8), (9, v9), (10, v10), (11, v11)] := ⟨rfl⟩
theorem fn_intro {f : FuncId} {fn : Func} {c : Code} {l : List Value} {w : World} {R : Ending → World → Prop} (hf : P.funcs[f]? = some fn) (hb : fn.body = some c) (hn : fn.ntmps = n) (hl : Nat.ble l.length n = true) [hE : EnvC l E]
    (h : J P w n c (bodyPost P fn R) E []) : Calls P f l.toArray w R := by
  rw [← hE.out] at h
  have hl' : l.length ≤ n := Nat.le_of_ble_eq_true hl
  refine calls_of_wp hf hb (h.out _ _ ⟨by simp [hn]; omega, rfl, fun k v hk => ?_⟩ (Own.start w))
  obtain ⟨_, h2⟩ := find_envOf l 0 k v hk
  have hlt : k < l.length := by
    rcases Nat.lt_or_ge k l.length with h' | h'
    · exact h'
    · simp [List.getElem?_eq_none h'] at h2
  simp only [Nat.sub_zero] at h2
  rw [Array.getElem?_append_left (by simpa using hlt)]
  simpa using h2

/-- What a call comes to whose result lies in no memory: a value, and memory has only grown. -/
def Ret (v : Value) (w : World) (e : Ending) (w' : World) : Prop := e = .returned v ∧ Ext w w'

theorem jx_ret {fn : Func} {R : Ending → World → Prop} (hr : ∀ a w, Rep n E a → Own w0 L w → (results fn a.tmps).run P w = .ok v w) (h : ∀ w, Own w0 L w → R (.returned v) w) : JX w0 n .ret (bodyPost P fn R) E L :=
  ⟨fun a w ha hw => ⟨ha.defers, v, hr a w ha hw, h w hw⟩⟩
theorem jx_end {fn : Func} {R : Ending → World → Prop} (hr : ∀ a w, Rep n E a → Own w0 L w → (results fn a.tmps).run P w = .ok v w) (h : ∀ w, Own w0 L w → R (.returned v) w) : JX w0 n .normal (bodyPost P fn R) E L :=
  ⟨fun a w ha hw => ⟨ha.defers, v, hr a w ha hw, h w hw⟩⟩
end
end Go.Vt
