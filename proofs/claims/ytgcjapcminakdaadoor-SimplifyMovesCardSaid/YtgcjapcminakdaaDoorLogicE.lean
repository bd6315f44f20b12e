/- Integers, strings, slices and arrays under the program logic. Conditions: those that each rule names (ranges of integers, bounds of indexes). -/
import Derived.Test.YtgcjapcminakdaaDoorLogicD
import Derived.Laws.IdiomStrings
import Derived.Laws.Slices
import Derived.Laws.BytesArg
set_option linter.unusedSimpArgs false
set_option linter.unusedVariables false
namespace Go.Vt
open Go.RowKit

section
variable {P : Program} {w0 : World} {n : Nat} {ops : Array Oper} {L L' : List Blk} {E : Env}
variable {Q : Exit → Act → World → Prop} {rest : List Oper} {v : Value}
variable {d : Option Tmp} {ty : TypeId} {pos : String} {aft : Array Edge} {gd : Option (Nat × Bool)}
variable {T T' : TypeId} {x y : Operand} {a b : Int}

/-! ### Arithmetic -/
theorem yl_arith {op : BinOp} {k : IntKind} {r : Int} (hx : Env.ev E x = some (.int k a)) (hy : Env.ev E y = some (.int k b)) (hr : ∀ w, (binOp op T (.int k a) (.int k b)).run P w = .ok (.int k r) w) : Yl P w0 n L E ⟨d, .binOp op T x y T', ty, pos, aft, gd⟩ (.int k r) :=
  yl_bin hx hy (fun w => by rw [eqGuard_at_int]; rfl) hr
theorem run_add (k : IntKind) (w : World) : (binOp .add T (.int k a) (.int k b)).run P w = .ok (.int k (k.wrap (a + b))) w := by simp [binOp_add, Op.intArith]
theorem run_sub (k : IntKind) (w : World) : (binOp .sub T (.int k a) (.int k b)).run P w = .ok (.int k (k.wrap (a - b))) w := by simp [binOp_sub, Op.intArith]
theorem run_mul (k : IntKind) (w : World) : (binOp .mul T (.int k a) (.int k b)).run P w = .ok (.int k (k.wrap (a * b))) w := by simp [binOp_mul, Op.intArith]
theorem run_quo (k : IntKind) (w : World) (h : b ≠ 0) : (binOp .quo T (.int k a) (.int k b)).run P w = .ok (.int k (k.wrap (a.tdiv b))) w := by simp [binOp_quo, Op.intDiv, h]
theorem run_rem (k : IntKind) (w : World) (h : b ≠ 0) : (binOp .rem T (.int k a) (.int k b)).run P w = .ok (.int k (a.tmod b)) w := by simp [binOp_rem, Op.intDiv, h]
/-- What an operation gives that wraps around. -/
class BinW (P : Program) (op : BinOp) (T : TypeId) (vx vy : Value) (v : outParam Value) : Prop where
  guard : ∀ x y w, (eqGuard op T x y vx vy).run P w = .ok () w
  run : ∀ w, (binOp op T vx vy).run P w = .ok v w
theorem wl_binW {op : BinOp} {vx vy : Value} (hx : Env.ev E x = some vx) (hy : Env.ev E y = some vy) [h : BinW P op T vx vy v] : Yl P w0 n L E ⟨d, .binOp op T x y T', ty, pos, aft, gd⟩ v := yl_bin hx hy (h.guard x y) h.run
instance bin_add {k : IntKind} : BinW P .add T (.int k a) (.int k b) (.int k (k.wrap (a + b))) := ⟨fun x y w => by rw [eqGuard_at_int]; rfl, run_add k⟩
instance bin_sub {k : IntKind} : BinW P .sub T (.int k a) (.int k b) (.int k (k.wrap (a - b))) := ⟨fun x y w => by rw [eqGuard_at_int]; rfl, run_sub k⟩
instance bin_mul {k : IntKind} : BinW P .mul T (.int k a) (.int k b) (.int k (k.wrap (a * b))) := ⟨fun x y w => by rw [eqGuard_at_int]; rfl, run_mul k⟩
section
variable (hx : Env.ev E x = some (.int .i64 a)) (hy : Env.ev E y = some (.int .i64 b))
include hx hy
theorem wl_add64 (h : -9223372036854775808 ≤ a + b ∧ a + b ≤ 9223372036854775807) : Yl P w0 n L E ⟨d, .binOp .add T x y T', ty, pos, aft, gd⟩ (.int .i64 (a + b)) := yl_arith hx hy fun w => by rw [run_add, IntWalk.i64_in _ h]
theorem wl_sub64 (h : -9223372036854775808 ≤ a - b ∧ a - b ≤ 9223372036854775807) : Yl P w0 n L E ⟨d, .binOp .sub T x y T', ty, pos, aft, gd⟩ (.int .i64 (a - b)) := yl_arith hx hy fun w => by rw [run_sub, IntWalk.i64_in _ h]
theorem wl_mul64 (h : -9223372036854775808 ≤ a * b ∧ a * b ≤ 9223372036854775807) : Yl P w0 n L E ⟨d, .binOp .mul T x y T', ty, pos, aft, gd⟩ (.int .i64 (a * b)) := yl_arith hx hy fun w => by rw [run_mul, IntWalk.i64_in _ h]
theorem wl_quo64 (h : 0 ≤ a ∧ a ≤ 9223372036854775807 ∧ 1 ≤ b) : Yl P w0 n L E ⟨d, .binOp .quo T x y T', ty, pos, aft, gd⟩ (.int .i64 (a / b)) := yl_arith hx hy fun w => by rw [run_quo _ _ (by omega), IntWalk.i64_quo _ _ h]
theorem wl_rem64 (h : 0 ≤ a ∧ 1 ≤ b) : Yl P w0 n L E ⟨d, .binOp .rem T x y T', ty, pos, aft, gd⟩ (.int .i64 (a % b)) := yl_arith hx hy fun w => by rw [run_rem _ _ (by omega), IntWalk.rem_in _ _ h.1]
end
section
variable (hx : Env.ev E x = some (.int .u64 a)) (hy : Env.ev E y = some (.int .u64 b))
include hx hy
theorem wl_addu (h : 0 ≤ a + b ∧ a + b ≤ 18446744073709551615) : Yl P w0 n L E ⟨d, .binOp .add T x y T', ty, pos, aft, gd⟩ (.int .u64 (a + b)) := yl_arith hx hy fun w => by rw [run_add, IntWalk.u64_in _ h]
theorem wl_subu (h : 0 ≤ a - b ∧ a - b ≤ 18446744073709551615) : Yl P w0 n L E ⟨d, .binOp .sub T x y T', ty, pos, aft, gd⟩ (.int .u64 (a - b)) := yl_arith hx hy fun w => by rw [run_sub, IntWalk.u64_in _ h]
theorem wl_mulu (h : 0 ≤ a * b ∧ a * b ≤ 18446744073709551615) : Yl P w0 n L E ⟨d, .binOp .mul T x y T', ty, pos, aft, gd⟩ (.int .u64 (a * b)) := yl_arith hx hy fun w => by rw [run_mul, IntWalk.u64_in _ h]
theorem wl_quou (h : 0 ≤ a ∧ a ≤ 18446744073709551615 ∧ 1 ≤ b) : Yl P w0 n L E ⟨d, .binOp .quo T x y T', ty, pos, aft, gd⟩ (.int .u64 (a / b)) := yl_arith hx hy fun w => by rw [run_quo _ _ (by omega), IntWalk.u64_quo _ _ h]
theorem wl_remu (h : 0 ≤ a ∧ 1 ≤ b) : Yl P w0 n L E ⟨d, .binOp .rem T x y T', ty, pos, aft, gd⟩ (.int .u64 (a % b)) := yl_arith hx hy fun w => by rw [run_rem _ _ (by omega), IntWalk.rem_in _ _ h.1]
end
/-- A shift to the right or the left by an amount that is in range. -/
theorem wl_shr {k k' : IntKind} (hx : Env.ev E x = some (.int k a)) (hy : Env.ev E y = some (.int k' b)) (h : 0 ≤ b ∧ b ≤ k.bits) : Yl P w0 n L E ⟨d, .binOp .shr T x y T', ty, pos, aft, gd⟩ (.int k (a / 2 ^ b.toNat)) :=
  yl_bin hx hy (fun w => by rw [eqGuard_at_int]; rfl) (fun w => by rw [binOp_shr, shift_shr _ _ _ _ h.1 h.2]; rfl)
theorem wl_shl {k k' : IntKind} (hx : Env.ev E x = some (.int k a)) (hy : Env.ev E y = some (.int k' b)) (h : 0 ≤ b ∧ b ≤ k.bits) : Yl P w0 n L E ⟨d, .binOp .shl T x y T', ty, pos, aft, gd⟩ (.int k (k.wrap (a * 2 ^ b.toNat))) :=
  yl_bin hx hy (fun w => by rw [eqGuard_at_int]; rfl) (fun w => by rw [binOp_shl, shift_shl _ _ _ _ h.1 h.2]; rfl)
theorem wl_or {k : IntKind} (hx : Env.ev E x = some (.int k a)) (hy : Env.ev E y = some (.int k b)) : Yl P w0 n L E ⟨d, .binOp .or T x y T', ty, pos, aft, gd⟩ (.int k (bits .or k a b)) := yl_arith hx hy fun w => by rw [binOp_or, intBits_or]; rfl

/-! ### Conversions of integers -/
theorem run_conv {S : TypeId} {k k' : IntKind} [hs : UndC P S (.int k)] [hd : UndC P T (.int k')] (w : World) : (convert S T (.int k a)).run P w = .ok (.int k' (k'.wrap a)) w := by
  have h1 : P.intKind T = k' := by simp [Program.intKind, hd.out]
  have := run_convert_int (P := P) w S T k a (by rw [hs.out]; rfl) (by rw [h1]; exact hd.out)
  rw [h1] at this
  exact this
theorem wl_cv {S : TypeId} {k k' : IntKind} [hs : UndC P S (.int k)] [hd : UndC P T (.int k')] (hx : Env.ev E x = some (.int k a)) : Yl P w0 n L E ⟨d, .convert S T x, ty, pos, aft, gd⟩ (.int k' (k'.wrap a)) := yl_conv hx run_conv
theorem wl_cv64 {S : TypeId} {k : IntKind} [hs : UndC P S (.int k)] [hd : UndC P T (.int .i64)] (hx : Env.ev E x = some (.int k a)) (h : -9223372036854775808 ≤ a ∧ a ≤ 9223372036854775807) : Yl P w0 n L E ⟨d, .convert S T x, ty, pos, aft, gd⟩ (.int .i64 a) := yl_conv hx fun w => by rw [run_conv (k' := .i64), IntWalk.i64_in _ h]
theorem wl_cvu {S : TypeId} {k : IntKind} [hs : UndC P S (.int k)] [hd : UndC P T (.int .u64)] (hx : Env.ev E x = some (.int k a)) (h : 0 ≤ a ∧ a ≤ 18446744073709551615) : Yl P w0 n L E ⟨d, .convert S T x, ty, pos, aft, gd⟩ (.int .u64 a) := yl_conv hx fun w => by rw [run_conv (k' := .u64), IntWalk.u64_in _ h]
theorem wl_cv32 {S : TypeId} {k : IntKind} [hs : UndC P S (.int k)] [hd : UndC P T (.int .u32)] (hx : Env.ev E x = some (.int k a)) (h : 0 ≤ a ∧ a ≤ 4294967295) : Yl P w0 n L E ⟨d, .convert S T x, ty, pos, aft, gd⟩ (.int .u32 a) := yl_conv hx fun w => by rw [run_conv (k' := .u32), IntWalk.u32_in _ h]
theorem wl_cv8 {S : TypeId} {k : IntKind} [hs : UndC P S (.int k)] [hd : UndC P T (.int .u8)] (hx : Env.ev E x = some (.int k a)) (h : 0 ≤ a ∧ a ≤ 255) : Yl P w0 n L E ⟨d, .convert S T x, ty, pos, aft, gd⟩ (.int .u8 a) := yl_conv hx fun w => by rw [run_conv (k' := .u8), IntWalk.u8_in _ h]

instance un_neg {k : IntKind} : UnC P .neg (.int k a) (.int k (k.wrap (-a))) := ⟨fun w => by simp [Op.unary, Op.intArith]⟩
/-! ### Strings -/
theorem wl_len_str {S : TypeId} {s : ByteArray} [h : UndC P S .string] (hx : Env.ev E x = some (.string s)) : Yl P w0 n L E ⟨d, .call ⟨.builtin .len, #[x], #[S]⟩, ty, pos, aft, gd⟩ (.int .i64 s.size) := ⟨fun a w ha _ => by
  unfold calm
  simp [execOp, resolve, ha.ev hx, invoke, builtin, Builtin.len_, run_underlying h.out, goInt, calmUpon, Ext.refl]⟩
theorem wl_len_sl {S e : TypeId} {p : Option Addr} {l c : Nat} [h : UndC P S (.slice e)] (hx : Env.ev E x = some (.slice p l c)) : Yl P w0 n L E ⟨d, .call ⟨.builtin .len, #[x], #[S]⟩, ty, pos, aft, gd⟩ (.int .i64 l) := ⟨fun a w ha _ => by
  unfold calm
  simp [execOp, resolve, ha.ev hx, invoke, builtin, Builtin.len_, run_underlying h.out, goInt, calmUpon, Ext.refl]⟩
theorem wl_index_str {s : ByteArray} {i : Int} {u : UInt8} [h : UndC P T .string] (hx : Env.ev E x = some (.string s)) (hy : Env.ev E y = some (.int .i64 i)) (h0 : 0 ≤ i) (hu : s[i.toNat]? = some u) : Yl P w0 n L E ⟨d, .index T x y, ty, pos, aft, gd⟩ (.int .u8 u.toNat) :=
  yl_index hx hy fun w => by simp [Instr.index, asIntOf, run_underlying h.out, h0, hu]

/-! ### Arrays and slices -/
/-- A row of integers of one kind. -/
def nums (k : IntKind) (xs : List Int) : Array Value := (xs.map (.int k)).toArray
theorem size_nums (k : IntKind) (xs : List Int) : (nums k xs).size = xs.length := by simp [nums]
theorem nums_get (k : IntKind) (xs : List Int) (i : Nat) : (nums k xs)[i]? = (xs[i]?).map (.int k) := by simp [nums]
theorem nums_set (k : IntKind) (xs : List Int) (i : Nat) (z : Int) : (nums k xs).setIfInBounds i (.int k z) = nums k (xs.set i z) := by
  simp [nums, List.map_set]
theorem nums_all (k : IntKind) (xs : List Int) : (nums k xs).all (·.oneCell') = true := by
  simp [nums, Value.oneCell']

theorem wl_iaddr_arr {N e s b off : Nat} {i : Int} [h : UndC P T (.array N e)] [hs : SizeC P e s] (hx : Env.ev E x = some (.pointer (some ⟨b, off, none⟩))) (hy : Env.ev E y = some (.int .i64 i)) (hi : 0 ≤ i ∧ i < N) :
    Yl P w0 n L E ⟨d, .indexAddr T x y, ty, pos, aft, gd⟩ (.pointer (some ⟨b, off + i.toNat * s, none⟩)) :=
  yl_iaddr hx hy fun w => by simp [Instr.indexAt, asIntOf, run_underlying h.out, Instr.sureAddr, hi.1, hi.2, run_sizeOf hs.out, addr_add]
theorem wl_iaddr_sl {e s b off l c : Nat} {i : Int} [h : UndC P T (.slice e)] [hs : SizeC P e s] (hx : Env.ev E x = some (.slice (some ⟨b, off, none⟩) l c)) (hy : Env.ev E y = some (.int .i64 i)) (hi : 0 ≤ i ∧ i < l) :
    Yl P w0 n L E ⟨d, .indexAddr T x y, ty, pos, aft, gd⟩ (.pointer (some ⟨b, off + i.toNat * s, none⟩)) :=
  yl_iaddr hx hy fun w => by simp [Instr.indexAt, asIntOf, run_underlying h.out, hi.1, hi.2, run_sizeOf hs.out, addr_add]

/-- One cell is read. -/
theorem wl_load1 {T0 : TypeId} {b off : Nat} {cs : Array Value} (hx : Env.ev E x = some (.pointer (some ⟨b, off, none⟩))) [hm : MemC b L cs T0] (ho : oneB P T = true) (hv : cs[off]? = some v) : Yl P w0 n L E ⟨d, .load T x, ty, pos, aft, gd⟩ v := yl_load hx hm.out (ldv_one ho hv)
theorem wl_loadN {T0 : TypeId} {b off : Nat} {k : IntKind} {xs : List Int} {z : Int} [hu : UndC P T (.int k)] (hx : Env.ev E x = some (.pointer (some ⟨b, off, none⟩))) [hm : MemC b L (nums k xs) T0] (hv : xs[off]? = some z) : Yl P w0 n L E ⟨d, .load T x, ty, pos, aft, gd⟩ (.int k z) :=
  wl_load1 hx (by simp [oneB, hu.out]) (by rw [nums_get, hv]; rfl)
/-- One cell is turned. -/
theorem wo_store1 {T0 : TypeId} {b off : Nat} {cs : Array Value} {u : Value} (hx : Env.ev E x = some (.pointer (some ⟨b, off, none⟩))) (hy : Env.ev E y = some u) [hk : SizeC P T 1] [MemC b L cs T0] (h1 : u.oneCell' = true) (hs : off < cs.size) [hu : UpdC b (cs.setIfInBounds off u) L cs T0 L']
    (hg : guardB ops E gd = some true) (h : JO P w0 n ops Q rest E L') : JO P w0 n ops Q (⟨none, .store T x y, ty, pos, aft, gd⟩ :: rest) E L := by
  have hc : u.cells = #[u] := by cases u <;> first | rfl | (simp [Value.oneCell'] at h1)
  exact jo_store (u := u) 1 hx hy hu.out hk.out (by rw [hc]; rfl) (Nat.ble_eq_true_of_le (by omega)) (by rw [hc]; simpa using h1) (by rw [hc]; rfl) hg rfl h
theorem wo_storeN {T0 : TypeId} {b off : Nat} {k : IntKind} {xs : List Int} {z : Int} (hx : Env.ev E x = some (.pointer (some ⟨b, off, none⟩))) (hy : Env.ev E y = some (.int k z)) [hk : SizeC P T 1] [MemC b L (nums k xs) T0] (hs : off < xs.length) [hu : UpdC b (nums k (xs.set off z)) L (nums k xs) T0 L']
    (hg : guardB ops E gd = some true) (h : JO P w0 n ops Q rest E L') : JO P w0 n ops Q (⟨none, .store T x y, ty, pos, aft, gd⟩ :: rest) E L :=
  jo_store (u := .int k z) 1 hx hy hu.out hk.out rfl (Nat.ble_eq_true_of_le (by rw [size_nums]; omega)) (by simp [Value.cells, Value.oneCell']) (nums_set k xs off z) hg rfl h

/-- Bytes of a row of the call's own as a string. -/
theorem wl_str_bytes {S e b off l c : Nat} {T0 : TypeId} {cs : Array Value} {bs : List UInt8} [hs : UndC P S (.slice e)] [he : UndC P e (.int .u8)] [hd : UndC P T .string] (hx : Env.ev E x = some (.slice (some ⟨b, off, none⟩) l c)) [hm : MemC b L cs T0] (hl : bs.length = l)
    (hc : ∀ i u, bs[i]? = some u → cs[off + i]? = some (.int .u8 u.toNat)) : Yl P w0 n L E ⟨d, .convert S T x, ty, pos, aft, gd⟩ (.string ⟨bs.toArray⟩) :=
  yl_run (fun _ => convert S T (.slice (some ⟨b, off, none⟩) l c)) (fun a ha => by simp only [execOp, ha.ev hx]) (fun a w _ hw => by
    have hb := (hw.mem _ hm.out).2
    have := run_convert_bytes_arg (P := P) w S e hs.out he.out b off l c (bs.map fun u => (u.toNat : Int)) (by simpa using hl) (fun i hi => by
      rw [cell_block hb]
      have hi' : i < bs.length := by omega
      rw [hc i bs[i] (by simp [hi'])]
      simp [hi']) T hd.out
    rw [this]
    have e1 : strOfNums (bs.map fun u => (u.toNat : Int)) = ⟨bs.toArray⟩ := by
      unfold strOfNums
      congr 2
      rw [List.map_map]
      have : ∀ u ∈ bs, ((fun n : Int => UInt8.ofNat n.toNat) ∘ fun u : UInt8 => (u.toNat : Int)) u = id u := fun u _ => by simp
      rw [List.map_congr_left this, List.map_id]
    rw [e1])
/-- A slice of an array variable, from its beginning on. -/
theorem wl_slice_arr {N e b off s : Nat} {i : Int} [h : UndC P T (.array N e)] [hs : SizeC P e s] (hx : Env.ev E x = some (.pointer (some ⟨b, off, none⟩))) (hy : Env.ev E y = some (.int .i64 i)) (hi : 0 ≤ i ∧ i ≤ N) :
    Yl P w0 n L E ⟨d, .slice T x none (some y) none, ty, pos, aft, gd⟩ (.slice (some ⟨b, off, none⟩) i.toNat N) :=
  yl_run (fun _ => Instr.sliceAt T (.pointer (some ⟨b, off, none⟩)) none (some (.int .i64 i)) none) (fun a ha => by simp only [execOp, ha.ev hx, Option.map_none, Option.map_some, ha.ev hy]) (fun a w _ _ => by
    simp [Instr.sliceAt, run_underlying h.out, Instr.sureAddr, Instr.sliceBounds, Instr.sliceBound, asIntOf, hi.1, hi.2, run_sizeOf hs.out, Addr.add])
end
end Go.Vt
