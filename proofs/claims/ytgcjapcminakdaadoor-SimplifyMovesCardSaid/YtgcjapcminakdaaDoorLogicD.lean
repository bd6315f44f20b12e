/- What the walk looks up: sizes, field offsets, what a load, a literal, a comparison and a call give. Conditions: those that each rule names. -/
import Derived.Test.YtgcjapcminakdaaDoorLogicC
set_option linter.unusedSimpArgs false
set_option linter.unusedVariables false
namespace Go.Vt
open Go.RowKit

/-- The block 'b' among the call's own holds 'cs'. -/
class MemC (b : Nat) (L : List Blk) (cs : outParam (Array Value)) (T : outParam TypeId) : Prop where
  out : (⟨b, cs, T⟩ : Blk) ∈ L
instance (priority := high) memHere (b : Nat) (L : List Blk) (cs : Array Value) (T : TypeId) : MemC b (⟨b, cs, T⟩ :: L) cs T := ⟨.head _⟩
instance (priority := low) memThere (b : Nat) (e : Blk) (L : List Blk) (cs : Array Value) (T : TypeId) [h : MemC b L cs T] : MemC b (e :: L) cs T := ⟨.tail _ h.out⟩
/-- The block 'b' among the call's own is turned to 'cs''. -/
class UpdC (b : Nat) (cs' : Array Value) (L : List Blk) (cs : outParam (Array Value)) (T : outParam TypeId) (L' : outParam (List Blk)) : Prop where
  out : Upd b cs T cs' L L'
instance (priority := high) updHere (b : Nat) (cs' : Array Value) (L : List Blk) (cs : Array Value) (T : TypeId) : UpdC b cs' (⟨b, cs, T⟩ :: L) cs T (⟨b, cs', T⟩ :: L) := ⟨.here⟩
instance (priority := low) updThere (b : Nat) (cs' : Array Value) (e : Blk) (L L' : List Blk) (cs : Array Value) (T : TypeId) [h : UpdC b cs' L cs T L'] : UpdC b cs' (e :: L) cs T (e :: L') := ⟨.there h.out⟩

class LdC (P : Program) (T : TypeId) (cs : Array Value) (off : Nat) (v : outParam Value) : Prop where
  out : LdV P T cs off v
class FaC (P : Program) (T : TypeId) (f : Nat) (off : outParam Nat) : Prop where
  out : ∀ b o w, (Instr.fieldAt T (.pointer (some ⟨b, o, none⟩)) f).run P w = .ok (.pointer (some ⟨b, o + off, none⟩)) w
/-- The field's offset, reckoned. -/
class FaO (P : Program) (T : TypeId) (f o : Nat) (o' : outParam Nat) : Prop where
  out : ∀ b w, (Instr.fieldAt T (.pointer (some ⟨b, o, none⟩)) f).run P w = .ok (.pointer (some ⟨b, o', none⟩)) w
instance (priority := low) faAny (P : Program) (T : TypeId) (f o off : Nat) [h : FaC P T f off] : FaO P T f o (o + off) := ⟨fun b w => h.out b o w⟩
class ZeroC (P : Program) (T : TypeId) (z : outParam Value) (cs : outParam (Array Value)) : Prop where
  out : (P.info? T).bind (·.zero) = some z
  cells : z.cells = cs
class SizeC (P : Program) (T : TypeId) (k : outParam Nat) : Prop where
  out : (P.info? T).map (·.size) = some k
class BdC (P : Program) (T : TypeId) (l : List (Nat × Value)) (v : outParam Value) : Prop where
  out : ∀ w, (Instr.build T l.toArray).run P w = .ok v w
class FdC (P : Program) (T : TypeId) (x : Value) (f : Nat) (v : outParam Value) : Prop where
  out : ∀ w, (Instr.field T x f).run P w = .ok v w
class CallC (P : Program) (f : FuncId) : Prop where
  out : callableB P f = true
/-- A row of cells that fits a variable of 'k' cells. -/
class CsC (cs : Array Value) (k : outParam Nat) : Prop where
  size : cs.size = k
  one : cs.all (·.oneCell') = true
/-- What a binary operation gives. -/
class BinC (P : Program) (op : BinOp) (T : TypeId) (vx vy : Value) (v : outParam Value) : Prop where
  guard : ∀ x y w, (eqGuard op T x y vx vy).run P w = .ok () w
  run : ∀ w, (binOp op T vx vy).run P w = .ok v w
class UnC (P : Program) (op : UnOp) (vx : Value) (v : outParam Value) : Prop where
  out : ∀ w, (Op.unary op vx).run P w = .ok v w
class CvC (P : Program) (S T : TypeId) (vx : Value) (v : outParam Value) : Prop where
  out : ∀ w, (convert S T vx).run P w = .ok v w
/-- A component of a tuple. -/
class NthC (vs : Array Value) (i : Nat) (v : outParam Value) : Prop where
  out : vs[i]? = some v
instance nth20 (a b : Value) : NthC #[a, b] 0 a := ⟨rfl⟩
instance nth21 (a b : Value) : NthC #[a, b] 1 b := ⟨rfl⟩
instance nth30 (a b c : Value) : NthC #[a, b, c] 0 a := ⟨rfl⟩
instance nth31 (a b c : Value) : NthC #[a, b, c] 1 b := ⟨rfl⟩
instance nth32 (a b c : Value) : NthC #[a, b, c] 2 c := ⟨rfl⟩
/-- A contract: the value, and what is asked ahead of the call. -/
class SpecC (P : Program) (f : FuncId) (args : List Value) (v : outParam Value) (pre : outParam Prop) : Prop where
  out : pre → ∀ w, Calls P f args.toArray w (Ret v w)

section
variable {P : Program} {w0 : World} {n : Nat} {ops : Array Oper} {L L' : List Blk} {E : Env}
variable {Q : Exit → Act → World → Prop} {rest : List Oper} {v : Value}
variable {d : Option Tmp} {ty : TypeId} {pos : String} {aft : Array Edge} {gd : Option (Nat × Bool)}

theorem jo_id {l : List Oper} (h : JO P w0 n ops Q l E L) : JO P w0 n ops Q l E L := h
theorem j_id {c : Code} (h : J P w0 n c Q E L) : J P w0 n c Q E L := h
theorem jx_id {e : Exit} (h : JX w0 n e Q E L) : JX w0 n e Q E L := h
/-- One operation with a value. -/
theorem jq {t : Tmp} {op : Op} (hy : Yl P w0 n L E ⟨some t, op, ty, pos, aft, gd⟩ v) (hg : guardB ops E gd = some true) (hd : Nat.blt t n = true) (h : JO P w0 n ops Q rest ((t, v) :: E) L) : JO P w0 n ops Q (⟨some t, op, ty, pos, aft, gd⟩ :: rest) E L := jo_q hy hg hd h
theorem jq_no {op : Op} (hy : Yl P w0 n L E ⟨none, op, ty, pos, aft, gd⟩ v) (hg : guardB ops E gd = some true) (h : JO P w0 n ops Q rest E L) : JO P w0 n ops Q (⟨none, op, ty, pos, aft, gd⟩ :: rest) E L := jo_q hy hg rfl h
theorem jq_skip {t : Tmp} {op : Op} (hg : guardB ops E gd = some false) (hd : Nat.blt t n = true) (h : JO P w0 n ops Q rest ((t, undef) :: E) L) : JO P w0 n ops Q (⟨some t, op, ty, pos, aft, gd⟩ :: rest) E L := jo_skip hg hd h
/-- The same in the head of a region that draws its order. -/
theorem hq {K : Env → Prop} {t : Tmp} {op : Op} (hy : Yl P w0 n L E ⟨some t, op, ty, pos, aft, gd⟩ v) (hg : guardB ops E gd = some true) (hd : Nat.blt t n = true) (h : JH P w0 n L ops K rest ((t, v) :: E)) : JH P w0 n L ops K (⟨some t, op, ty, pos, aft, gd⟩ :: rest) E := jh_q hy hg hd h
theorem hq_skip {K : Env → Prop} {t : Tmp} {op : Op} (hg : guardB ops E gd = some false) (hd : Nat.blt t n = true) (h : JH P w0 n L ops K rest ((t, undef) :: E)) : JH P w0 n L ops K (⟨some t, op, ty, pos, aft, gd⟩ :: rest) E := jh_skip hg hd h
theorem wl_load {T T0 : TypeId} {x : Operand} {b off : Nat} {cs : Array Value} (hx : Env.ev E x = some (.pointer (some ⟨b, off, none⟩))) [hm : MemC b L cs T0] [hv : LdC P T cs off v] : Yl P w0 n L E ⟨d, .load T x, ty, pos, aft, gd⟩ v := yl_load hx hm.out hv.out
theorem wl_loadF {T T0 : TypeId} {x : Operand} {b off : Nat} {cs : Array Value} {fz : Nat × Nat} (hx : Env.ev E x = some (.pointer (some ⟨b, off, none⟩))) (hm : w0.heap[b]? = some (.cells cs T0 fz)) [hv : LdC P T cs off v] : Yl P w0 n L E ⟨d, .load T x, ty, pos, aft, gd⟩ v := yl_loadF hx hm hv.out
theorem wl_extract {x : Operand} {vs : Array Value} {i : Nat} (hx : Env.ev E x = some (.tuple vs)) [h : NthC vs i v] : Yl P w0 n L E ⟨d, .extract x i, ty, pos, aft, gd⟩ v := yl_extract hx h.out
theorem wl_pickT {c x y : Operand} (hc : Env.ev E c = some (.bool true)) (hx : Env.ev E x = some v) : Yl P w0 n L E ⟨d, .pick c x y, ty, pos, aft, gd⟩ v := ⟨fun a w ha _ => by
  unfold calm
  simp [execOp, ha.ev hx, ha.ev hc, Sem.run_pure, asBool, calmUpon, Ext.refl]⟩
theorem wl_pickF {c x y : Operand} (hc : Env.ev E c = some (.bool false)) (hy : Env.ev E y = some v) : Yl P w0 n L E ⟨d, .pick c x y, ty, pos, aft, gd⟩ v := ⟨fun a w ha _ => by
  unfold calm
  simp [execOp, ha.ev hy, ha.ev hc, Sem.run_pure, asBool, calmUpon, Ext.refl]⟩
theorem wl_faddr {T : TypeId} {x : Operand} {f b o o' : Nat} (hx : Env.ev E x = some (.pointer (some ⟨b, o, none⟩))) [h : FaO P T f o o'] : Yl P w0 n L E ⟨d, .fieldAddr T x f, ty, pos, aft, gd⟩ (.pointer (some ⟨b, o', none⟩)) := yl_faddr hx (h.out b)
theorem wl_field {T : TypeId} {x : Operand} {f : Nat} {vx : Value} (hx : Env.ev E x = some vx) [h : FdC P T vx f v] : Yl P w0 n L E ⟨d, .field T x f, ty, pos, aft, gd⟩ v := yl_field hx h.out
theorem wl_build {T : TypeId} {ps : List (Nat × Operand)} {l : List (Nat × Value)} (hp : Env.evp E ps = some l) [h : BdC P T l v] : Yl P w0 n L E ⟨d, .build T ps.toArray, ty, pos, aft, gd⟩ v := yl_build hp h.out
theorem wl_bin {op : BinOp} {T T' : TypeId} {x y : Operand} {vx vy : Value} (hx : Env.ev E x = some vx) (hy : Env.ev E y = some vy) [h : BinC P op T vx vy v] : Yl P w0 n L E ⟨d, .binOp op T x y T', ty, pos, aft, gd⟩ v := yl_bin hx hy (h.guard x y) h.run
theorem wl_un {op : UnOp} {T : TypeId} {x : Operand} {vx : Value} (hx : Env.ev E x = some vx) [h : UnC P op vx v] : Yl P w0 n L E ⟨d, .unOp op T x, ty, pos, aft, gd⟩ v := yl_un hx h.out
theorem wl_conv {S T : TypeId} {x : Operand} {vx : Value} (hx : Env.ev E x = some vx) [h : CvC P S T vx v] : Yl P w0 n L E ⟨d, .convert S T x, ty, pos, aft, gd⟩ v := yl_conv hx h.out
theorem wl_call {f : FuncId} {xs : List Operand} {l : List Value} {ats : Array TypeId} {pre : Prop} (hl : Env.evs E xs = some l) [hf : CallC P f] [hs : SpecC P f l v pre] (hp : pre) :
    Yl P w0 n L E ⟨d, .call ⟨.value (.func f), xs.toArray, ats⟩, ty, pos, aft, gd⟩ v := yl_call hf.out hl (fun w _ => hs.out hp w)
theorem wl_callW {f : FuncId} {xs : List Operand} {l : List Value} {ats : Array TypeId} (hl : Env.evs E xs = some l) [hf : CallC P f] (hc : ∀ w, Own w0 L w → Calls P f l.toArray w (Ret v w)) :
    Yl P w0 n L E ⟨d, .call ⟨.value (.func f), xs.toArray, ats⟩, ty, pos, aft, gd⟩ v := yl_call hf.out hl hc
theorem wo_alloc {T : TypeId} {z : Value} {cs : Array Value} [hz : ZeroC P T z cs] {t : Tmp} (hg : guardB ops E gd = some true) (hd : Nat.blt t n = true)
    (h : ∀ b, JO P w0 n ops Q rest ((t, .pointer (some ⟨b, 0, none⟩)) :: E) (⟨b, cs, T⟩ :: L)) : JO P w0 n ops Q (⟨some t, .alloc T, ty, pos, aft, gd⟩ :: rest) E L := jo_alloc hz.out hg hd (by rw [hz.cells]; exact h)
theorem wo_box {T : TypeId} {x : Operand} {cs : Array Value} (hx : Env.ev E x = some (.agg cs)) {t : Tmp} (hg : guardB ops E gd = some true) (hd : Nat.blt t n = true)
    (h : ∀ b, JO P w0 n ops Q rest ((t, .pointer (some ⟨b, 0, none⟩)) :: E) (⟨b, cs, T⟩ :: L)) : JO P w0 n ops Q (⟨some t, .box T x, ty, pos, aft, gd⟩ :: rest) E L := jo_box hx hg hd h
theorem wo_boxI {T : TypeId} {x : Operand} {k : IntKind} {i : Int} (hx : Env.ev E x = some (.int k i)) {t : Tmp} (hg : guardB ops E gd = some true) (hd : Nat.blt t n = true)
    (h : ∀ b, JO P w0 n ops Q rest ((t, .pointer (some ⟨b, 0, none⟩)) :: E) (⟨b, #[.int k i], T⟩ :: L)) : JO P w0 n ops Q (⟨some t, .box T x, ty, pos, aft, gd⟩ :: rest) E L := jo_box hx hg hd h
theorem wo_store {T T0 : TypeId} {x y : Operand} {b k : Nat} {cs cs' : Array Value} (hx : Env.ev E x = some (.pointer (some ⟨b, 0, none⟩))) (hy : Env.ev E y = some (.agg cs')) [hk : SizeC P T k] [hc' : CsC cs' k] [hu : UpdC b cs' L cs T0 L'] [hc : CsC cs k]
    (hg : guardB ops E gd = some true) (h : JO P w0 n ops Q rest E L') : JO P w0 n ops Q (⟨none, .store T x y, ty, pos, aft, gd⟩ :: rest) E L :=
  jo_storeW k hx hy hu.out hk.out hc'.size hc.size hc'.one hg rfl h
theorem wn_new {K : Env → List Blk → Prop} {T : TypeId} {z : Value} {cs : Array Value} {t : Tmp} [hz : ZeroC P T z cs] (h : ∀ b, JN P n K rest ((t, .pointer (some ⟨b, 0, none⟩)) :: E) (⟨b, cs, T⟩ :: L)) : JN P n K (⟨some t, .alloc T, ty, pos, aft, none⟩ :: rest) E L :=
  jn_new (o := ⟨some t, .alloc T, ty, pos, aft, none⟩) rfl hz.out (by rw [hz.cells]; exact h)
/-- The result in a variable. -/
theorem wx_cell {fn : Func} {R : Ending → World → Prop} {t : Tmp} {T T0 : TypeId} {b : Nat} {cs : Array Value} (hres : fn.results = #[.cell t T]) (ht : Env.find E t = some (.pointer (some ⟨b, 0, none⟩))) [hm : MemC b L cs T0] [hv : LdC P T cs 0 v]
    (h : ∀ w, Own w0 L w → R (.returned v) w) : JX w0 n .ret (bodyPost P fn R) E L := jx_ret_cell hres ht hm.out hv.out h
theorem wr_cell {t : Tmp} {T T0 : TypeId} {b : Nat} {cs : Array Value} (h : Env.find E t = some (.pointer (some ⟨b, 0, none⟩))) [hm : MemC b L cs T0] [hv : LdC P T cs 0 v] : ResV P E L (.cell t T) v := resv_cell h hm.out hv.out
end

/-! ### Operations on plain values -/
theorem beq_dec (a b : Int) : (a == b) = decide (a = b) := by rw [Bool.eq_iff_iff]; simp
theorem beq_decO (a b : Bool) : (a == b) = decide (a = b) := by cases a <;> cases b <;> rfl
theorem beq_decB (a b : ByteArray) : (a == b) = decide (a = b) := by
  obtain ⟨⟨x⟩⟩ := a
  obtain ⟨⟨y⟩⟩ := b
  show ((⟨x⟩ : Array UInt8) == ⟨y⟩) = _
  rw [Bool.eq_iff_iff]
  simp
/-- What a type is. -/
class UndC (P : Program) (T : TypeId) (d : outParam TypeDesc) : Prop where
  out : P.underlying T = some d
section
variable {P : Program} {T : TypeId}
instance bin_eql_int {k : IntKind} {a b : Int} : BinC P .eql T (.int k a) (.int k b) (.bool (decide (a = b))) := ⟨fun x y w => by rw [eqGuard_at_int]; rfl, fun w => by rw [binOp_eql, beq_dec]; rfl⟩
instance bin_neq_int {k : IntKind} {a b : Int} : BinC P .neq T (.int k a) (.int k b) (.bool (!decide (a = b))) := ⟨fun x y w => by rw [eqGuard_at_int]; rfl, fun w => by rw [binOp_neq, bne, beq_dec]; rfl⟩
instance bin_lss_int {k : IntKind} {a b : Int} : BinC P .lss T (.int k a) (.int k b) (.bool (decide (a < b))) := ⟨fun x y w => by rw [eqGuard_at_int]; rfl, fun w => by rw [binOp_lss]; simp⟩
instance bin_leq_int {k : IntKind} {a b : Int} : BinC P .leq T (.int k a) (.int k b) (.bool (decide (a ≤ b))) := ⟨fun x y w => by rw [eqGuard_at_int]; rfl, fun w => by rw [binOp_leq]; simp⟩
instance bin_gtr_int {k : IntKind} {a b : Int} : BinC P .gtr T (.int k a) (.int k b) (.bool (decide (b < a))) := ⟨fun x y w => by rw [eqGuard_at_int]; rfl, fun w => by rw [binOp_gtr]; simp⟩
instance bin_geq_int {k : IntKind} {a b : Int} : BinC P .geq T (.int k a) (.int k b) (.bool (decide (b ≤ a))) := ⟨fun x y w => by rw [eqGuard_at_int]; rfl, fun w => by rw [binOp_geq]; simp⟩
instance bin_eql_bool {a b : Bool} [h : UndC P T .bool] : BinC P .eql T (.bool a) (.bool b) (.bool (a == b)) := ⟨fun x y w => by rw [eqGuard_at_bool]; rfl, fun w => by
  simp only [binOp]
  simp [Op.equal, Op.maxDepth, run_equalIn_bool' w 9999 T a b h.out]⟩
instance bin_neq_bool {a b : Bool} [h : UndC P T .bool] : BinC P .neq T (.bool a) (.bool b) (.bool (a != b)) := ⟨fun x y w => by rw [eqGuard_at_bool]; rfl, fun w => by
  simp only [binOp]
  simp [Op.equal, Op.maxDepth, run_equalIn_bool' w 9999 T a b h.out, bne]⟩
instance bin_eql_string {a b : ByteArray} : BinC P .eql T (.string a) (.string b) (.bool (decide (a = b))) := ⟨fun x y w => by rw [eqGuard_at_string]; rfl, fun w => by simp [go_sem, ← beq_toListBytes, beq_decB]⟩
instance bin_neq_string {a b : ByteArray} : BinC P .neq T (.string a) (.string b) (.bool (!decide (a = b))) := ⟨fun x y w => by rw [eqGuard_at_string]; rfl, fun w => by simp [go_sem, ← beq_toListBytes, beq_decB]⟩
instance un_not {a : Bool} : UnC P .not (.bool a) (.bool (!a)) := ⟨fun w => by simp [go_sem]⟩
end
end Go.Vt
