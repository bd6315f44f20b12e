/- The walk by type classes: each rule of the program logic is an instance, so that one short tactic finds it. Conditions: those that each rule names. -/
import Derived.Test.YtgcjapcminakdaaDoorLogicI
set_option linter.unusedSimpArgs false
set_option linter.unusedVariables false
namespace Go.Vt
open Go.RowKit

/-! ### Look-ups that unfold -/
@[reducible] def cnd {α : Type} : Bool → α → α → α
  | true, a, _ => a
  | false, _, b => b
@[reducible] def look : Env → Nat → Option Value
  | [], _ => none
  | (k, v) :: E, n => cnd (Nat.beq k n) (some v) (look E n)
theorem look_find : ∀ (E : Env) (n : Nat), look E n = Env.find E n
  | [], _ => rfl
  | (k, v) :: E, n => by
    have h := look_find E n
    simp only [look, Env.find]
    cases Nat.beq k n
    · exact h
    · rfl
@[reducible] def evl (E : Env) : Operand → Option Value
  | .tmp t => look E t
  | .const v => some v
  | .global g => some (.pointer (some ⟨g, 0, none⟩))
  | .func f => some (.func (.func f) #[] #[])
theorem evl_ev (E : Env) (x : Operand) : evl E x = Env.ev E x := by
  cases x
  · exact look_find _ _
  all_goals rfl
@[reducible] def cons2 {α : Type} : Option α → Option (List α) → Option (List α)
  | some a, some l => some (a :: l)
  | some _, none => none
  | none, _ => none
@[reducible] def evsl (E : Env) : List Operand → Option (List Value)
  | [] => some []
  | x :: r => cons2 (evl E x) (evsl E r)
theorem evsl_evs (E : Env) : ∀ l, evsl E l = Env.evs E l
  | [] => rfl
  | x :: r => by
    simp only [evsl, Env.evs, evl_ev, evsl_evs E r]
    cases Env.ev E x <;> cases Env.evs E r <;> rfl
@[reducible] def tag (i : Nat) : Option Value → Option (Nat × Value)
  | some v => some (i, v)
  | none => none
@[reducible] def evpl (E : Env) : List (Nat × Operand) → Option (List (Nat × Value))
  | [] => some []
  | (i, x) :: r => cons2 (tag i (evl E x)) (evpl E r)
theorem evpl_evp (E : Env) : ∀ l, evpl E l = Env.evp E l
  | [] => rfl
  | (i, x) :: r => by
    simp only [evpl, Env.evp, evl_ev, evpl_evp E r]
    cases Env.ev E x <;> cases Env.evp E r <;> rfl
class IsC {α : Type} (o : Option α) (v : outParam α) : Prop where out : o = some v
instance isC {α : Type} (v : α) : IsC (some v) v := ⟨rfl⟩
class RfC (a : Bool) (b : outParam Bool) : Prop where out : a = b
instance rfC (a : Bool) : RfC a a := ⟨rfl⟩

/-- A list of blocks that is a part of another one. -/
class SblC (A B : List Blk) : Prop where out : A.Sublist B
instance sblN (B : List Blk) : SblC [] B := ⟨List.nil_sublist _⟩
instance (priority := high) sblC (e : Blk) (A B : List Blk) [h : SblC A B] : SblC (e :: A) (e :: B) := ⟨h.out.cons_cons _⟩
instance (priority := low) sblS (e : Blk) (A B : List Blk) [h : SblC A B] : SblC A (e :: B) := ⟨h.out.cons _⟩
theorem sbl {A B : List Blk} [h : SblC A B] : A.Sublist B := h.out
/-- The first 'm' of a list, and the rest. -/
class CutC {α : Type} (m : Nat) (l : List α) (a b : outParam (List α)) : Prop where
  out : l = a ++ b
  len : a.length = m
instance cut0 {α : Type} (l : List α) : CutC 0 l [] l := ⟨rfl, rfl⟩
instance cutS {α : Type} (m : Nat) (x : α) (l a b : List α) [h : CutC m l a b] : CutC (m + 1) (x :: l) (x :: a) b := ⟨by rw [h.out]; rfl, by rw [List.length_cons, h.len]⟩

section
variable {P : Program} {w0 : World} {n : Nat} {ops : Array Oper} {L L' : List Blk} {E : Env}
variable {Q : Exit → Act → World → Prop} {rest : List Oper} {v : Value}
variable {d : Option Tmp} {ty : TypeId} {pos : String} {aft : Array Edge} {gd : Option (Nat × Bool)} {t : Tmp}
theorem isE {x : Operand} [h : IsC (evl E x) v] : Env.ev E x = some v := by rw [← evl_ev]; exact h.out
theorem isS {l : List Operand} {vs : List Value} [h : IsC (evsl E l) vs] : Env.evs E l = some vs := by rw [← evsl_evs]; exact h.out
theorem isP {l : List (Nat × Operand)} {vs : List (Nat × Value)} [h : IsC (evpl E l) vs] : Env.evp E l = some vs := by rw [← evpl_evp]; exact h.out

/-- An operation with one value; with a range to pay; a call with its premise; an operation that wraps. -/
class YlC (P : Program) (w0 : World) (n : Nat) (L : List Blk) (E : Env) (op : Op) (v : outParam Value) : Prop where
  out : ∀ d ty pos aft gd, Yl P w0 n L E ⟨d, op, ty, pos, aft, gd⟩ v
class YsC (P : Program) (w0 : World) (n : Nat) (L : List Blk) (E : Env) (op : Op) (v : outParam Value) (S : outParam Prop) : Prop where
  out : S → ∀ d ty pos aft gd, Yl P w0 n L E ⟨d, op, ty, pos, aft, gd⟩ v
class YcC (P : Program) (w0 : World) (n : Nat) (L : List Blk) (E : Env) (op : Op) (v : outParam Value) (S : outParam Prop) : Prop where
  out : S → ∀ d ty pos aft gd, Yl P w0 n L E ⟨d, op, ty, pos, aft, gd⟩ v
class YwC (P : Program) (w0 : World) (n : Nat) (L : List Blk) (E : Env) (op : Op) (v : outParam Value) : Prop where
  out : ∀ d ty pos aft gd, Yl P w0 n L E ⟨d, op, ty, pos, aft, gd⟩ v

section
variable {x y : Operand}
instance yk_move [IsC (evl E x) v] : YlC P w0 n L E (.move x) v := ⟨fun _ _ _ _ _ => yl_move isE⟩
instance yk_assign [IsC (evl E x) v] : YlC P w0 n L E (.assign x) v := ⟨fun _ _ _ _ _ => yl_assign isE⟩
instance yk_load {T T0 : TypeId} {b off : Nat} {cs : Array Value} [IsC (evl E x) (.pointer (some ⟨b, off, none⟩))] [MemC b L cs T0] [LdC P T cs off v] : YlC P w0 n L E (.load T x) v := ⟨fun _ _ _ _ _ => wl_load isE⟩
instance yk_faddr {T : TypeId} {f b o o' : Nat} [IsC (evl E x) (.pointer (some ⟨b, o, none⟩))] [FaO P T f o o'] : YlC P w0 n L E (.fieldAddr T x f) (.pointer (some ⟨b, o', none⟩)) := ⟨fun _ _ _ _ _ => wl_faddr isE⟩
instance yk_extract {vs : Array Value} {i : Nat} [IsC (evl E x) (.tuple vs)] [NthC vs i v] : YlC P w0 n L E (.extract x i) v := ⟨fun _ _ _ _ _ => wl_extract isE⟩
instance yk_bin {op : BinOp} {T T' : TypeId} {vx vy : Value} [IsC (evl E x) vx] [IsC (evl E y) vy] [BinC P op T vx vy v] : YlC P w0 n L E (.binOp op T x y T') v := ⟨fun _ _ _ _ _ => wl_bin isE isE⟩
instance yk_un {op : UnOp} {T : TypeId} {vx : Value} [IsC (evl E x) vx] [UnC P op vx v] : YlC P w0 n L E (.unOp op T x) v := ⟨fun _ _ _ _ _ => wl_un isE⟩
instance yk_build {T : TypeId} {ps : List (Nat × Operand)} {l : List (Nat × Value)} [IsC (evpl E ps) l] [BdC P T l v] : YlC P w0 n L E (.build T ps.toArray) v := ⟨fun _ _ _ _ _ => wl_build isP⟩
instance yk_field {T : TypeId} {f : Nat} {vx : Value} [IsC (evl E x) vx] [FdC P T vx f v] : YlC P w0 n L E (.field T x f) v := ⟨fun _ _ _ _ _ => wl_field isE⟩
instance yk_len_str {S : TypeId} {s : ByteArray} [IsC (evl E x) (.string s)] [UndC P S .string] : YlC P w0 n L E (.call ⟨.builtin .len, #[x], #[S]⟩) (.int .i64 s.size) := ⟨fun _ _ _ _ _ => wl_len_str isE⟩
instance yk_len_sl {S e : TypeId} {p : Option Addr} {l c : Nat} [IsC (evl E x) (.slice p l c)] [UndC P S (.slice e)] : YlC P w0 n L E (.call ⟨.builtin .len, #[x], #[S]⟩) (.int .i64 l) := ⟨fun _ _ _ _ _ => wl_len_sl isE⟩

variable {T T' : TypeId} {a b : Int}
section
variable [hx : IsC (evl E x) (.int .i64 a)] [hy : IsC (evl E y) (.int .i64 b)]
include hx hy
instance ys_add64 : YsC P w0 n L E (.binOp .add T x y T') (.int .i64 (a + b)) (-9223372036854775808 ≤ a + b ∧ a + b ≤ 9223372036854775807) := ⟨fun h _ _ _ _ _ => wl_add64 isE isE h⟩
instance ys_sub64 : YsC P w0 n L E (.binOp .sub T x y T') (.int .i64 (a - b)) (-9223372036854775808 ≤ a - b ∧ a - b ≤ 9223372036854775807) := ⟨fun h _ _ _ _ _ => wl_sub64 isE isE h⟩
instance ys_mul64 : YsC P w0 n L E (.binOp .mul T x y T') (.int .i64 (a * b)) (-9223372036854775808 ≤ a * b ∧ a * b ≤ 9223372036854775807) := ⟨fun h _ _ _ _ _ => wl_mul64 isE isE h⟩
instance ys_quo64 : YsC P w0 n L E (.binOp .quo T x y T') (.int .i64 (a / b)) (0 ≤ a ∧ a ≤ 9223372036854775807 ∧ 1 ≤ b) := ⟨fun h _ _ _ _ _ => wl_quo64 isE isE h⟩
instance ys_rem64 : YsC P w0 n L E (.binOp .rem T x y T') (.int .i64 (a % b)) (0 ≤ a ∧ 1 ≤ b) := ⟨fun h _ _ _ _ _ => wl_rem64 isE isE h⟩
end
section
variable [hx : IsC (evl E x) (.int .u64 a)] [hy : IsC (evl E y) (.int .u64 b)]
include hx hy
instance ys_addu : YsC P w0 n L E (.binOp .add T x y T') (.int .u64 (a + b)) (0 ≤ a + b ∧ a + b ≤ 18446744073709551615) := ⟨fun h _ _ _ _ _ => wl_addu isE isE h⟩
end
instance ys_cv64 {S : TypeId} {k : IntKind} [IsC (evl E x) (.int k a)] [UndC P S (.int k)] [UndC P T (.int .i64)] : YsC P w0 n L E (.convert S T x) (.int .i64 a) (-9223372036854775808 ≤ a ∧ a ≤ 9223372036854775807) := ⟨fun h _ _ _ _ _ => wl_cv64 isE h⟩
instance ys_cvu {S : TypeId} {k : IntKind} [IsC (evl E x) (.int k a)] [UndC P S (.int k)] [UndC P T (.int .u64)] : YsC P w0 n L E (.convert S T x) (.int .u64 a) (0 ≤ a ∧ a ≤ 18446744073709551615) := ⟨fun h _ _ _ _ _ => wl_cvu isE h⟩
instance ys_cv32 {S : TypeId} {k : IntKind} [IsC (evl E x) (.int k a)] [UndC P S (.int k)] [UndC P T (.int .u32)] : YsC P w0 n L E (.convert S T x) (.int .u32 a) (0 ≤ a ∧ a ≤ 4294967295) := ⟨fun h _ _ _ _ _ => wl_cv32 isE h⟩
instance ys_cv8 {S : TypeId} {k : IntKind} [IsC (evl E x) (.int k a)] [UndC P S (.int k)] [UndC P T (.int .u8)] : YsC P w0 n L E (.convert S T x) (.int .u8 a) (0 ≤ a ∧ a ≤ 255) := ⟨fun h _ _ _ _ _ => wl_cv8 isE h⟩
instance ys_iaddr_sl {e s b off l c : Nat} {i : Int} [IsC (evl E x) (.slice (some ⟨b, off, none⟩) l c)] [IsC (evl E y) (.int .i64 i)] [UndC P T (.slice e)] [SizeC P e s] : YsC P w0 n L E (.indexAddr T x y) (.pointer (some ⟨b, off + i.toNat * s, none⟩)) (0 ≤ i ∧ i < l) := ⟨fun h _ _ _ _ _ => wl_iaddr_sl isE isE h⟩
instance ys_iaddr_arr {N e s b off : Nat} {i : Int} [IsC (evl E x) (.pointer (some ⟨b, off, none⟩))] [IsC (evl E y) (.int .i64 i)] [UndC P T (.array N e)] [SizeC P e s] : YsC P w0 n L E (.indexAddr T x y) (.pointer (some ⟨b, off + i.toNat * s, none⟩)) (0 ≤ i ∧ i < N) := ⟨fun h _ _ _ _ _ => wl_iaddr_arr isE isE h⟩
instance yw_bin {op : BinOp} {vx vy : Value} [IsC (evl E x) vx] [IsC (evl E y) vy] [BinW P op T vx vy v] : YwC P w0 n L E (.binOp op T x y T') v := ⟨fun _ _ _ _ _ => wl_binW isE isE⟩
instance yw_cv {S : TypeId} {k k' : IntKind} [IsC (evl E x) (.int k a)] [UndC P S (.int k)] [UndC P T (.int k')] : YwC P w0 n L E (.convert S T x) (.int k' (k'.wrap a)) := ⟨fun _ _ _ _ _ => wl_cv isE⟩
instance yc_call {f : FuncId} {xs : List Operand} {l : List Value} {ats : Array TypeId} {pre : Prop} [CallC P f] [IsC (evsl E xs) l] [SpecC P f l v pre] : YcC P w0 n L E (.call ⟨.value (.func f), xs.toArray, ats⟩) v pre := ⟨fun h _ _ _ _ _ => wl_call isS h⟩
instance (priority := low) yc_ext {f : FuncId} {xs : List Operand} {l : List Value} {ats : Array TypeId} {pre : Prop} [IsC (evsl E xs) l] [ExtC P f l v pre] : YcC P w0 n L E (.call ⟨.value (.func f), xs.toArray, ats⟩) v pre := ⟨fun h _ _ _ _ _ => wl_ext isS h⟩
end

/-! ### Steps in the order of the text -/
section
variable {op : Op} {S : Prop}
theorem sX [h : YlC P w0 n L E op v] (hg : guardB ops E gd = some true) (hd : Nat.blt t n = true) (k : JO P w0 n ops Q rest ((t, v) :: E) L) : JO P w0 n ops Q (⟨some t, op, ty, pos, aft, gd⟩ :: rest) E L := jq (h.out _ _ _ _ _) hg hd k
theorem sS [h : YsC P w0 n L E op v S] (hg : guardB ops E gd = some true) (hd : Nat.blt t n = true) (s : S) (k : JO P w0 n ops Q rest ((t, v) :: E) L) : JO P w0 n ops Q (⟨some t, op, ty, pos, aft, gd⟩ :: rest) E L := jq (h.out s _ _ _ _ _) hg hd k
theorem sC [h : YcC P w0 n L E op v S] (hg : guardB ops E gd = some true) (hd : Nat.blt t n = true) (s : S) (k : JO P w0 n ops Q rest ((t, v) :: E) L) : JO P w0 n ops Q (⟨some t, op, ty, pos, aft, gd⟩ :: rest) E L := jq (h.out s _ _ _ _ _) hg hd k
theorem sW [h : YwC P w0 n L E op v] (hg : guardB ops E gd = some true) (hd : Nat.blt t n = true) (k : JO P w0 n ops Q rest ((t, v) :: E) L) : JO P w0 n ops Q (⟨some t, op, ty, pos, aft, gd⟩ :: rest) E L := jq (h.out _ _ _ _ _) hg hd k
theorem sK (hg : guardB ops E gd = some false) (hd : Nat.blt t n = true) (k : JO P w0 n ops Q rest ((t, undef) :: E) L) : JO P w0 n ops Q (⟨some t, op, ty, pos, aft, gd⟩ :: rest) E L := jq_skip hg hd k
variable {K : Env → Prop}
theorem tX [h : YlC P w0 n L E op v] (hg : guardB ops E gd = some true) (hd : Nat.blt t n = true) (k : JH P w0 n L ops K rest ((t, v) :: E)) : JH P w0 n L ops K (⟨some t, op, ty, pos, aft, gd⟩ :: rest) E := hq (h.out _ _ _ _ _) hg hd k
theorem tS [h : YsC P w0 n L E op v S] (hg : guardB ops E gd = some true) (hd : Nat.blt t n = true) (s : S) (k : JH P w0 n L ops K rest ((t, v) :: E)) : JH P w0 n L ops K (⟨some t, op, ty, pos, aft, gd⟩ :: rest) E := hq (h.out s _ _ _ _ _) hg hd k
theorem tC [h : YcC P w0 n L E op v S] (hg : guardB ops E gd = some true) (hd : Nat.blt t n = true) (s : S) (k : JH P w0 n L ops K rest ((t, v) :: E)) : JH P w0 n L ops K (⟨some t, op, ty, pos, aft, gd⟩ :: rest) E := hq (h.out s _ _ _ _ _) hg hd k
theorem tW [h : YwC P w0 n L E op v] (hg : guardB ops E gd = some true) (hd : Nat.blt t n = true) (k : JH P w0 n L ops K rest ((t, v) :: E)) : JH P w0 n L ops K (⟨some t, op, ty, pos, aft, gd⟩ :: rest) E := hq (h.out _ _ _ _ _) hg hd k
theorem tK (hg : guardB ops E gd = some false) (hd : Nat.blt t n = true) (k : JH P w0 n L ops K rest ((t, undef) :: E)) : JH P w0 n L ops K (⟨some t, op, ty, pos, aft, gd⟩ :: rest) E := hq_skip hg hd k
end
/-! ### New blocks and stores -/
class AlC (P : Program) (E : Env) (op : Op) (cs : outParam (Array Value)) (T : outParam TypeId) : Prop where
  out : ∀ {w0 : World} {n : Nat} {ops : Array Oper} {L : List Blk} {Q : Exit → Act → World → Prop} {rest : List Oper} {t : Tmp} {ty : TypeId} {pos : String} {aft : Array Edge} {gd : Option (Nat × Bool)}, guardB ops E gd = some true → Nat.blt t n = true →
    (∀ b, JO P w0 n ops Q rest ((t, .pointer (some ⟨b, 0, none⟩)) :: E) (⟨b, cs, T⟩ :: L)) → JO P w0 n ops Q (⟨some t, op, ty, pos, aft, gd⟩ :: rest) E L
instance al_alloc {T : TypeId} {z : Value} {cs : Array Value} [hz : ZeroC P T z cs] : AlC P E (.alloc T) cs T := ⟨fun hg hd h => wo_alloc hg hd h⟩
instance al_box {T : TypeId} {x : Operand} {cs : Array Value} [h : IsC (evl E x) (.agg cs)] : AlC P E (.box T x) cs T := ⟨fun hg hd h => wo_box isE hg hd h⟩
instance al_boxI {T : TypeId} {x : Operand} {k : IntKind} {i : Int} [h : IsC (evl E x) (.int k i)] : AlC P E (.box T x) #[.int k i] T := ⟨fun hg hd h => wo_boxI isE hg hd h⟩
theorem sA {op : Op} {cs : Array Value} {T : TypeId} [h : AlC P E op cs T] (hg : guardB ops E gd = some true) (hd : Nat.blt t n = true) (k : ∀ b, JO P w0 n ops Q rest ((t, .pointer (some ⟨b, 0, none⟩)) :: E) (⟨b, cs, T⟩ :: L)) : JO P w0 n ops Q (⟨some t, op, ty, pos, aft, gd⟩ :: rest) E L := h.out hg hd k
theorem sT {T T0 : TypeId} {x y : Operand} {b k : Nat} {cs cs' : Array Value} [hx : IsC (evl E x) (.pointer (some ⟨b, 0, none⟩))] [hy : IsC (evl E y) (.agg cs')] [hk : SizeC P T k] [hc' : CsC cs' k] [hu : UpdC b cs' L cs T0 L'] [hc : CsC cs k]
    (hg : guardB ops E gd = some true) (h : JO P w0 n ops Q rest E L') : JO P w0 n ops Q (⟨none, .store T x y, ty, pos, aft, gd⟩ :: rest) E L := wo_store isE isE hg h

/-! ### The tail of a region with late operations -/
section
variable {K : Env → List Blk → Prop} {Lw : List Blk}
theorem eA {T : TypeId} {z : Value} {cs : Array Value} [hz : ZeroC P T z cs] (hg : guardB ops E gd = some true) (hd : Nat.blt t n = true) [hw : SblC Lw L] (h : ∀ b, JE P w0 n ops Lw K rest ((t, .pointer (some ⟨b, 0, none⟩)) :: E) (⟨b, cs, T⟩ :: L)) : JE P w0 n ops Lw K (⟨some t, .alloc T, ty, pos, aft, gd⟩ :: rest) E L := by
  have hz' := hz.out
  cases hi : P.info? T with
  | none => simp [hi] at hz'
  | some i =>
    have hz2 : i.zero = some z := by simpa [hi] using hz'
    exact je_old (S := Nat) (o := ⟨some t, .alloc T, ty, pos, aft, gd⟩) hg hd (fun b => .pointer (some ⟨b, 0, none⟩)) (fun b => ⟨b, cs, T⟩ :: L) (fun a w ha hw => ⟨w.heap.size, w.alloc (.cells z.cells T), .inl (by simp [execOp, Instr.alloc, zeroValue, typeInfo, hi, hz2, newVar, newRow]), by rw [hz.cells]; exact hw.alloc _ _⟩) (fun _ => weak_sub (.cons _ hw.out)) h
theorem eS {x : Operand} [hx : IsC (evl E x) v] (hg : guardB ops E gd = some true) (hd : Nat.blt t n = true) [hw : SblC Lw L] (h : JE P w0 n ops Lw K rest ((t, v) :: E) L) : JE P w0 n ops Lw K (⟨some t, .assign x, ty, pos, aft, gd⟩ :: rest) E L := je_assign isE hg hd hw.out h
theorem eT {T T0 : TypeId} {x y : Operand} {b k : Nat} {cs cs' : Array Value} [hx : IsC (evl E x) (.pointer (some ⟨b, 0, none⟩))] [hy : IsC (evl E y) (.agg cs')] [hk : SizeC P T k] [hc' : CsC cs' k] [hu : UpdC b cs' L cs T0 L'] [hc : CsC cs k]
    (hg : guardB ops E gd = some true) [hw : SblC Lw L'] (h : JE P w0 n ops Lw K rest E L') : JE P w0 n ops Lw K (⟨none, .store T x y, ty, pos, aft, gd⟩ :: rest) E L := we_store isE isE hg hw.out h
end
/-! ### Codes and ways out -/
class Nx (G : Prop) (H : outParam Prop) : Prop where out : H → G
theorem cX {G H : Prop} [h : Nx G H] (k : H) : G := h.out k
class Ny (G : Prop) (H : outParam Prop) : Prop where out : H → G
theorem cY {G H : Prop} [h : Ny G H] (k : H) : G := h.out k
section
variable {x y c : Code} {id j : Nat} {l : List Oper}
instance cx_seq : Nx (J P w0 n (.seq x y) Q E L) (J P w0 n x (Then P y Q) E L) := ⟨j_seq⟩
instance cx_region : Nx (J P w0 n (.region id l.toArray false) Q E L) (JO P w0 n l.toArray Q l E L) := ⟨j_region⟩
instance cx_ret : Nx (J P w0 n .ret Q E L) (JX w0 n .ret Q E L) := ⟨j_ret⟩
instance cx_block : Nx (J P w0 n (.block id c) Q E L) (J P w0 n c (Exit.inBlock id Q) E L) := ⟨j_block⟩
instance cx_skip : Nx (J P w0 n .skip Q E L) (JX w0 n .normal Q E L) := ⟨j_skip⟩
instance cx_exit : Nx (J P w0 n (.exit id) Q E L) (JX w0 n (.exit id) Q E L) := ⟨j_exit⟩
instance cx_nil : Ny (JO P w0 n ops Q [] E L) (JX w0 n .normal Q E L) := ⟨jo_nil⟩
instance xx_then : Ny (JX w0 n .normal (Then P y Q) E L) (J P w0 n y Q E L) := ⟨jx_then⟩
instance xx_then_ret : Ny (JX w0 n .ret (Then P y Q) E L) (JX w0 n .ret Q E L) := ⟨jx_then_ret⟩
instance xx_then_exit : Ny (JX w0 n (.exit id) (Then P y Q) E L) (JX w0 n (.exit id) Q E L) := ⟨jx_then_exit⟩
instance xx_block : Ny (JX w0 n .normal (Exit.inBlock id Q) E L) (JX w0 n .normal Q E L) := ⟨jx_block⟩
instance xx_block_ret : Ny (JX w0 n .ret (Exit.inBlock id Q) E L) (JX w0 n .ret Q E L) := ⟨jx_block_ret⟩
instance (priority := high) xx_block_here : Ny (JX w0 n (.exit id) (Exit.inBlock id Q) E L) (JX w0 n .normal Q E L) := ⟨jx_block_here⟩
instance (priority := low) xx_block_past [h : RfC (Nat.beq j id) false] : Ny (JX w0 n (.exit j) (Exit.inBlock id Q) E L) (JX w0 n (.exit j) Q E L) := ⟨jx_block_past h.out⟩
section
variable {S : Type} {I : S → Prop} {Es : S → Env} {Ls : S → List Blk} {mu : S → Nat} {s : S} {K : Act → World → Prop}
instance xx_mid_ret : Ny (JX w0 n .ret (MidQ w0 n I Es Ls K Q) E L) (JX w0 n .ret Q E L) := ⟨jx_mid_ret⟩
instance xx_mid_exit : Ny (JX w0 n (.exit id) (MidQ w0 n I Es Ls K Q) E L) (JX w0 n (.exit id) Q E L) := ⟨jx_mid_exit⟩
instance xx_loop_ret : Ny (JX w0 n .ret (LoopQ w0 n I Es Ls mu s Q) E L) (JX w0 n .ret Q E L) := ⟨jx_loop_ret⟩
instance xx_loop_exit : Ny (JX w0 n (.exit id) (LoopQ w0 n I Es Ls mu s Q) E L) (JX w0 n (.exit id) Q E L) := ⟨jx_loop_exit⟩
example : Ny (JX w0 n (.exit 2) (Exit.inBlock 3 Q) E L) (JX w0 n (.exit 2) Q E L) := inferInstance
end
/-- A region that draws its order, cut into its three parts. -/
theorem jD {b l1 l2 l3 : List Oper} (m k : Nat) (hm : P.follows .mixedOrders = true) (hB : headB P n l.toArray m k = true) [h1 : CutC k l b l3] [h2 : CutC m b l1 l2]
    (h : JH P w0 n L l.toArray (fun E' => JN P n (fun E2 L2 => JO P w0 n l.toArray Q l3 E2 L2) l2 E' L) l1 E) : J P w0 n (.region id l.toArray true) Q E L := by
  refine j_draw m k hm hB ?_
  have e1 : l.take k = b := by rw [h1.out, List.take_append_of_le_length (Nat.le_of_eq h1.len.symm), List.take_of_length_le (Nat.le_of_eq h1.len)]
  have e2 : l.drop k = l3 := by rw [h1.out, ← h1.len, List.drop_left]
  have e3 : l.take m = l1 := by
    rw [h1.out, h2.out, List.append_assoc, List.take_append_of_le_length (Nat.le_of_eq h2.len.symm), List.take_of_length_le (Nat.le_of_eq h2.len)]
  have e4 : b.drop m = l2 := by rw [h2.out, ← h2.len, List.drop_left]
  rw [e1, e2, e3, e4]
  exact h
/-- The same, whole: no allocation, nothing behind. -/
theorem jn0 {K : Env → List Blk → Prop} (h : K E L) : JN P n K [] E L := h
end
end
end Go.Vt
