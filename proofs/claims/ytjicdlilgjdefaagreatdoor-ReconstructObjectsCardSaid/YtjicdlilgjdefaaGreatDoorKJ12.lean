/- that objects are reconstructed from their reports (part 12 of 29.) Conditions: those that each statement names. -/
import Derived.RangeFuncNested
import Derived.OrdersIn
import Derived.Test.YtjicdlilgjdefaaGreatDoorKJ4
import Derived.Test.YtjicdlilgjdefaaGreatDoorKJ9
import Derived.Test.YtjicdlilgjdefaaGreatDoorKJ10
import Derived.Test.YtjicdlilgjdefaaGreatDoorKJ11
set_option linter.unusedSimpArgs false
set_option linter.unusedVariables false
set_option maxHeartbeats 2000000
set_option maxRecDepth 100000
set_option linter.unusedSectionVars false
namespace Go.Vt
open Go.RowKit Go.Proofs
open Go.Proofs.Tryz (prog)
section
section
variable {P : Program} {w0 : World} {n : Nat} {L : List Blk} {E : Env} {x : Operand} {T : TypeId}
instance ZzJ {N e s b : Nat} [hx : IsC (evl E x) (.pointer (some ⟨b, 0, none⟩))] [h : UndC P T (.array N e)] [hs : SizeC P e s] : YlC P w0 n L E (.slice T x none none none) (.slice (some ⟨b, 0, none⟩) N N) :=
 ⟨fun _ _ _ _ _ => Zay (fun _ => Instr.sliceAt T (.pointer (some ⟨b, 0, none⟩)) none none none) (fun a ha => by
  have e1 := ha.ev (isE (h := hx))
  simp only [execOp, e1, Option.map_none]) (fun a w _ _ => by
  simp [Instr.sliceAt, run_underlying h.out, Instr.sureAddr, Instr.sliceBounds, Instr.sliceBound, asIntOf, ZaD hs.out, Addr.add])⟩
end
instance Zx3 (x : Nat) : SpecC prog 204 [.int .u64 (x : Int)] (.int .i64 (Lib.bitLen x)) ((x : Int) ≤ 18446744073709551615) := ⟨fun hp w => (Tryz.bits_Len x w (by omega) hp).mono fun e w' ⟨h1, h2⟩ => by
 subst h2
 exact ⟨h1, Ext.refl _⟩⟩
def fldR (r : Zb) : List Int := [r.Object, r.Seq, r.Version, r.Time, r.X, r.Y, r.Device, if r.Cancel then 1 else 0]
instance ZHM (a b c d e f g h : Int) : BdC prog 256 [(0, .int .i64 a), (1, .int .i64 b), (2, .int .i64 c), (3, .int .i64 d), (4, .int .i64 e), (5, .int .i64 f), (6, .int .i64 g), (7, .int .i64 h)] (.agg (nums .i64 [a, b, c, d, e, f, g, h])) := ⟨fun w => by kernel_rfl⟩
instance ZHN (a b c d e f g h : Int) : CsC (nums .i64 [a, b, c, d, e, f, g, h]) 8 := ⟨by kernel_rfl, by kernel_rfl⟩
instance ZGF (r : Zb) : CsC (nums .i64 (fldR r)) 8 := ⟨by kernel_rfl, by kernel_rfl⟩
instance ZHL (a b c d e f g h : Int) : LdC prog 256 (nums .i64 [a, b, c, d, e, f, g, h]) 0 (.agg (nums .i64 [a, b, c, d, e, f, g, h])) := ⟨ZQ 8⟩
instance Zyo (r : Zb) : SpecC prog 153 [.agg (Zd r)] (.agg (nums .i64 (fldR r))) True := ⟨fun _ w => by
 obtain ⟨a1, a2, a3, a4, a5, a6, a7, c⟩ := r
 cases c
 ·show Calls _ _ _ _ (Ret (.agg (nums .i64 [a1, a2, a3, a5, a6, a7, a4, 0])) w)
  refine Zg Tryz.func153 rfl Tryz.ntmps153 rfl ?_
  repeat (refine wkB ?_; intros)
  exact ZV rfl rfl (fun w hw => Zi hw)
 ·show Calls _ _ _ _ (Ret (.agg (nums .i64 [a1, a2, a3, a5, a6, a7, a4, 1])) w)
  refine Zg Tryz.func153 rfl Tryz.ntmps153 rfl ?_
  repeat (refine wkB ?_; intros)
  exact ZV rfl rfl (fun w hw => Zi hw)⟩
theorem ZgF (a b : Int) : (a < b ∧ Lib.compareInt a b = -1) ∨ (b < a ∧ Lib.compareInt a b = 1) ∨ (a = b ∧ Lib.compareInt a b = 0) := by
 unfold Lib.compareInt
 split
 ·exact .inl ⟨by assumption, rfl⟩
 ·split
  ·exact .inr (.inl ⟨by omega, rfl⟩)
  ·exact .inr (.inr ⟨by omega, rfl⟩)
theorem Zfe (a b : Int) (ps qs : List Int) : lexC (a :: ps) (b :: qs) = if Lib.compareInt a b = 0 then lexC ps qs else Lib.compareInt a b := by
 simp only [lexC]
 rcases ZgF a b with ⟨h1, h2⟩ | ⟨h1, h2⟩ | ⟨h1, h2⟩
 ·rw [if_pos h1, h2]; rfl
 ·rw [if_neg (by omega), if_pos h1, h2]; rfl
 ·rw [if_neg (by omega), if_neg (by omega), h2]; rfl
theorem Zoj {xs ys : List Int} {m : Nat} (h1 : m < xs.length) (h2 : m < ys.length) : lexC (xs.drop m) (ys.drop m) = if Lib.compareInt (gi xs (m : Int)) (gi ys (m : Int)) = 0 then lexC (xs.drop (m + 1)) (ys.drop (m + 1)) else Lib.compareInt (gi xs (m : Int)) (gi ys (m : Int)) := by
 rw [List.drop_eq_getElem_cons h1, List.drop_eq_getElem_cons h2, Zfe, Zk h1, Zk h2]
theorem Zoa (b1 c1 b2 c2 n : Nat) (xs ys : List Int) (T1 T2 : TypeId) (h1 : xs.length = n) (h2 : ys.length = n) (hl : n ≤ 1099511627776) (w : World) (hw1 : ∃ fz, w.heap[b1]? = some (.cells (row (eI .i64) xs []) T1 fz)) (hw2 : ∃ fz, w.heap[b2]? = some (.cells (row (eI .i64) ys []) T2 fz)) :
  Calls prog 154 [.slice (some ⟨b1, 0, none⟩) n c1, .slice (some ⟨b2, 0, none⟩) n c2].toArray w (Ret (.int .i64 (lexC xs ys)) w) := by
 have f1 := FoC.mk hw1
 have f2 := FoC.mk hw2
 refine Zg Tryz.func154 rfl Tryz.ntmps154 rfl ?_
 repeat (refine wkB ?_; intros)
 refine Zq (S := Nat) (fun m => m ≤ n ∧ lexC xs ys = lexC (xs.drop m) (ys.drop m)) (fun m => [(0, .slice (some ⟨b1, 0, none⟩) n c1), (1, .slice (some ⟨b2, 0, none⟩) n c2), (9, .slice (some ⟨b1, 0, none⟩) n c1), (10, .int .i64 n), (11, .int .i64 (m : Nat))]) (fun _ => []) (fun m => n - m) 0 ⟨Wm _, rfl⟩ sbB slB (fun m hm => ?_)
 obtain ⟨hm, ho⟩ := hm
 repeat (refine wkB ?_; intros)
 refine Zn rfl (fun h => ?_) (fun h => ?_)
 ·have hlt : m < n := by have := Wa h; omega
  rw [Zoj (by omega) (by omega)] at ho
  repeat (refine wkB ?_; intros)
  simp only [We (show ¬ (n : Int) ≤ (m : Int) by omega)]
  repeat (refine wkB ?_; intros)
  by_cases h0 : Lib.compareInt (gi xs (m : Int)) (gi ys (m : Int)) = 0
  ·rw [if_pos h0] at ho
   simp only [Wc h0, Bool.not_true]
   repeat (first | (refine wkB ?_; intros) | (refine wnM ?_ ?_; (focus (exact ⟨by omega, by omega⟩)); intros))
   exact Zj (m + 1) ⟨hlt, ho⟩ sbB slB (by omega)
  ·rw [if_neg h0] at ho
   simp only [We h0, Bool.not_false]
   repeat (refine wkB ?_; intros)
   rw [ho]
   exact Zf rfl rfl (fun w hw => Zi hw)
 ·have hge : m = n := by have := Wb h; omega
  subst hge
  have e : lexC (xs.drop m) (ys.drop m) = 0 := by
   rw [List.drop_eq_nil_of_le (by omega), List.drop_eq_nil_of_le (by omega)]
   rfl
  rw [e] at ho
  repeat (refine wkB ?_; intros)
  simp only [We (show ¬ (m : Int) < (m : Int) by omega)]
  repeat (refine wkB ?_; intros)
  rw [ho]
  exact Zf rfl rfl (fun w hw => Zi hw)
instance ZDO (w0 : World) (L : List Blk) (b1 c1 b2 c2 n : Nat) (xs ys : List Int) (T1 T2 : TypeId) [k1 : AtC w0 L b1 (row (eI .i64) xs []) T1] [k2 : AtC w0 L b2 (row (eI .i64) ys []) T2] : SpecM prog w0 L 154 [.slice (some ⟨b1, 0, none⟩) n c1, .slice (some ⟨b2, 0, none⟩) n c2] (.int .i64 (lexC xs ys)) (xs.length = n ∧ ys.length = n ∧ n ≤ 1099511627776) :=
 ⟨fun hp w hw => Zoa b1 c1 b2 c2 n xs ys T1 T2 hp.1 hp.2.1 hp.2.2 w (k1.out w hw) (k2.out w hw)⟩
abbrev RpOk (_ : Zb) : Prop := True
def cmpRp (a b : Zb) : Int := lexC (fldR a) (fldR b)
instance ZAB (a b : Zb) : SpecC prog 98 [.agg (Zd a), .agg (Zd b)] (.int .i64 (cmpRp a b)) (RpOk a ∧ RpOk b) := ⟨fun _ w => by
 refine Zg Tryz.func98 rfl Tryz.ntmps98 rfl ?_
 repeat (refine wkB ?_; intros)
 rename_i b2 b3
 (refine Zep [0, 1, 2, 3] [4, 5] [6, 7] (_) (h := ?_); refine wkI ?_)
 (repeat (refine wkH ?_))
 repeat (refine wkT ?_; intros)
 repeat (refine wkB ?_; intros)
 rw [Zgx .i64 (fldR a), Zgx .i64 (fldR b)]
 (refine jD 4 4 (h := ?_); (repeat (first | refine wkH ?_ | (refine tC rfl rfl ?_ ?_; focus (exact ⟨rfl, rfl, by decide⟩)))); refine Zo ?_; (repeat (refine Z8 ?_; intro _)); refine Zr ?_)
 repeat (refine wkB ?_; intros)
 exact Zf rfl rfl (fun w hw => Zi hw)⟩
end
section
instance Zzf : CallC prog 247 := ⟨by kernel_rfl⟩
instance Zxx (w0 : World) (L : List Blk) (b1 b2 : Nat) (lo hi z : Int) (T1 T2 : TypeId) [k1 : AtC w0 L b1 #[.int .i64 lo] T1] [k2 : AtC w0 L b2 #[.int .i64 hi] T2] : SpecM prog w0 L 201 [.int .i64 z, .pointer (some ⟨b1, 0, none⟩), .pointer (some ⟨b2, 0, none⟩)] (.bool false) (lo ≤ z ∧ z ≤ hi) := ⟨fun hp w hw => by
 have f1 := FoC.mk (k1.out w hw)
 have f2 := FoC.mk (k2.out w hw)
 refine Zg Tryz.func201 rfl Tryz.ntmps201 rfl ?_
 repeat (refine wkB ?_; intros)
 simp only [We (show ¬ z < lo by omega)]
 repeat (refine wkB ?_; intros)
 simp only [We (show ¬ hi < z by omega)]
 repeat (refine wkB ?_; intros)
 exact Zf rfl rfl (fun w hw => Zi hw)⟩
theorem ZjZ (b c n b1 b2 : Nat) (xs : List Int) (lo hi : Int) (T T1 T2 : TypeId) (hn : xs.length = n) (hl : n ≤ 1099511627776) (hin : ∀ z ∈ xs, lo ≤ z ∧ z ≤ hi) (w : World) (hw : ∃ fz, w.heap[b]? = some (.cells (row (eI .i64) xs []) T fz)) (hw1 : ∃ fz, w.heap[b1]? = some (.cells #[.int .i64 lo] T1 fz)) (hw2 : ∃ fz, w.heap[b2]? = some (.cells #[.int .i64 hi] T2 fz)) :
  Calls prog 247 [.slice (some ⟨b, 0, none⟩) n c, .func (.func 201) #[] [.pointer (some ⟨b1, 0, none⟩), .pointer (some ⟨b2, 0, none⟩)].toArray].toArray w (Ret (.int .i64 (-1)) w) := by
 have f0 := FoC.mk hw
 have f1 := FoC.mk hw1
 have f2 := FoC.mk hw2
 refine Zg Tryz.func247 rfl Tryz.ntmps247 rfl ?_
 repeat (refine wkB ?_; intros)
 refine Zq (S := Nat) (fun m => m ≤ n) (fun m => [(0, .slice (some ⟨b, 0, none⟩) n c), (1, .func (.func 201) #[] [.pointer (some ⟨b1, 0, none⟩), .pointer (some ⟨b2, 0, none⟩)].toArray), (7, .int .i64 n), (8, .int .i64 (m : Nat))]) (fun _ => []) (fun m => n - m) 0 (Wm _) sbB slB (fun m hm => ?_)
 repeat (refine wkB ?_; intros)
 refine Zn rfl (fun h => ?_) (fun h => ?_)
 ·have hlt : m < n := by have := Wa h; omega
  have hz := hin (gi xs (m : Int)) (by rw [Zk (by omega)]; exact List.getElem_mem _)
  repeat (first | (refine wkB ?_; intros) | (refine wnM ?_ ?_; (focus (exact hz)); intros))
  exact Zj (m + 1) hlt sbB slB (by omega)
 ·repeat (refine wkB ?_; intros)
  exact Zf rfl rfl (fun w hw => Zi hw)
instance Zv0 (w0 : World) (L : List Blk) (b c n b1 b2 : Nat) (xs : List Int) (lo hi : Int) (T T1 T2 : TypeId) [k0 : AtC w0 L b (row (eI .i64) xs []) T] [k1 : AtC w0 L b1 #[.int .i64 lo] T1] [k2 : AtC w0 L b2 #[.int .i64 hi] T2] : SpecM prog w0 L 247 [.slice (some ⟨b, 0, none⟩) n c, .func (.func 201) #[] [.pointer (some ⟨b1, 0, none⟩), .pointer (some ⟨b2, 0, none⟩)].toArray] (.int .i64 (-1)) (xs.length = n ∧ n ≤ 1099511627776 ∧ ∀ z ∈ xs, lo ≤ z ∧ z ≤ hi) :=
 ⟨fun hp w hw => ZjZ b c n b1 b2 xs lo hi T T1 T2 hp.1 hp.2.1 hp.2.2 w (k0.out w hw) (k1.out w hw) (k2.out w hw)⟩
instance Zxe (w0 : World) (L : List Blk) (b c n b1 b2 : Nat) (xs : List Int) (lo hi : Int) (T T1 T2 : TypeId) [k0 : AtC w0 L b (row (eI .i64) xs []) T] [k1 : AtC w0 L b1 #[.int .i64 lo] T1] [k2 : AtC w0 L b2 #[.int .i64 hi] T2] : SpecM prog w0 L 200 [.slice (some ⟨b, 0, none⟩) n c, .func (.func 201) #[] [.pointer (some ⟨b1, 0, none⟩), .pointer (some ⟨b2, 0, none⟩)].toArray] (.bool false) (xs.length = n ∧ n ≤ 1099511627776 ∧ ∀ z ∈ xs, lo ≤ z ∧ z ≤ hi) := ⟨fun hp w hw => by
 have f0 := FoC.mk (k0.out w hw)
 have f1 := FoC.mk (k1.out w hw)
 have f2 := FoC.mk (k2.out w hw)
 refine Zg Tryz.func200 rfl Tryz.ntmps200 rfl ?_
 repeat (first | (refine wkB ?_; intros) | (refine wnM ?_ ?_; (focus (exact hp)); intros))
 exact Zf rfl rfl (fun w hw => Zi hw)⟩
instance Zz1 (w0 : World) (L : List Blk) (b n : Nat) (xs : List Int) (lo hi : Int) (T : TypeId) [k0 : AtC w0 L b (row (eI .i64) xs []) T] : SpecM prog w0 L 147 [.int .i64 lo, .int .i64 hi, .slice (some ⟨b, 0, none⟩) n n] (.bool true) (xs.length = n ∧ n ≤ 1099511627776 ∧ ∀ z ∈ xs, lo ≤ z ∧ z ≤ hi) := ⟨fun hp w hw => by
 have f0 := FoC.mk (k0.out w hw)
 refine Zg Tryz.func147 rfl Tryz.ntmps147 rfl ?_
 repeat (first | (refine wkB ?_; intros) | (refine wnM ?_ ?_; (focus (exact hp)); intros))
 exact Zf rfl rfl (fun w hw => Zi hw)⟩
structure RepV (r : Zb) : Prop where
 o : 1 ≤ r.Object ∧ r.Object ≤ 1073741824
 s : 0 ≤ r.Seq ∧ r.Seq ≤ 1073741824
 v : 0 ≤ r.Version ∧ r.Version ≤ 1073741824
 d : 0 ≤ r.Device ∧ r.Device ≤ 1073741824
 t : 0 ≤ r.Time ∧ r.Time ≤ 1073741824
 x : -1048576 ≤ r.X ∧ r.X ≤ 1048576
 y : -1048576 ≤ r.Y ∧ r.Y ≤ 1048576
theorem in1 {a lo hi : Int} (h : lo ≤ a ∧ a ≤ hi) : ([a] : List Int).length = 1 ∧ 1 ≤ 1099511627776 ∧ ∀ z ∈ [a], lo ≤ z ∧ z ≤ hi := ⟨rfl, by decide, fun z hz => by rw [Wo] at hz; rw [hz]; exact h⟩
theorem in2 {a b lo hi : Int} (h : lo ≤ a ∧ a ≤ hi) (k : lo ≤ b ∧ b ≤ hi) : ([a, b] : List Int).length = 2 ∧ 2 ≤ 1099511627776 ∧ ∀ z ∈ [a, b], lo ≤ z ∧ z ≤ hi := ⟨rfl, by decide, fun z hz => by
 simp only [Ww, List.not_mem_nil, or_false] at hz
 rcases hz with rfl | rfl
 ·exact h
 ·exact k⟩
theorem in3 {a b c lo hi : Int} (h : lo ≤ a ∧ a ≤ hi) (k : lo ≤ b ∧ b ≤ hi) (j : lo ≤ c ∧ c ≤ hi) : ([a, b, c] : List Int).length = 3 ∧ 3 ≤ 1099511627776 ∧ ∀ z ∈ [a, b, c], lo ≤ z ∧ z ≤ hi := ⟨rfl, by decide, fun z hz => by
 simp only [Ww, List.not_mem_nil, or_false] at hz
 rcases hz with rfl | rfl | rfl
 ·exact h
 ·exact k
 ·exact j⟩
instance Zz0 (r : Zb) : SpecC prog 93 [.agg (Zd r)] (.int .i64 0) (RepV r) := ⟨fun hp w => by
 refine Zg Tryz.func93 rfl Tryz.ntmps93 rfl ?_
 have i1 := in1 hp.o
 have i2 := in3 hp.s hp.v hp.d
 have i3 := in1 hp.t
 have i4 := in2 hp.x hp.y
 repeat (first | (refine wkB ?_; intros) | (refine wnM ?_ ?_; (focus (first | exact i1 | exact i2 | exact i3 | exact i4)); intros))
 exact Zf rfl rfl (fun w hw => Zi hw)⟩
end
section
theorem Zq5 (d : Nat) (w : World) (x y : Za) : (Op.equalIn (d + 2) 122 (.agg (Ze x)) (.agg (Ze y))).run prog w = .ok (decide (x = y)) w := by
 have p0 : ∀ (z : Za) (u : World), (part 3 (Ze z) 0).run prog u = .ok (.int .i64 z.From) u := fun _ _ => by kernel_rfl
 have q0 : ∀ (u : World), (Op.equalIn (d + 1) 3 (.int .i64 x.From) (.int .i64 y.From)).run prog u = .ok (decide (x.From = y.From)) u := fun u => by rw [run_equalIn_int u (d + 0) 3 .i64 .i64 _ _ (by kernel_rfl), ZaV]
 have p1 : ∀ (z : Za) (u : World), (part 3 (Ze z) 1).run prog u = .ok (.int .i64 z.To) u := fun _ _ => by kernel_rfl
 have q1 : ∀ (u : World), (Op.equalIn (d + 1) 3 (.int .i64 x.To) (.int .i64 y.To)).run prog u = .ok (decide (x.To = y.To)) u := fun u => by rw [run_equalIn_int u (d + 0) 3 .i64 .i64 _ _ (by kernel_rfl), ZaV]
 have p2 : ∀ (z : Za) (u : World), (part 3 (Ze z) 2).run prog u = .ok (.int .i64 z.Sent) u := fun _ _ => by kernel_rfl
 have q2 : ∀ (u : World), (Op.equalIn (d + 1) 3 (.int .i64 x.Sent) (.int .i64 y.Sent)).run prog u = .ok (decide (x.Sent = y.Sent)) u := fun u => by rw [run_equalIn_int u (d + 0) 3 .i64 .i64 _ _ (by kernel_rfl), ZaV]
 have p3 : ∀ (z : Za) (u : World), (part 3 (Ze z) 3).run prog u = .ok (.int .i64 z.Received) u := fun _ _ => by kernel_rfl
 have q3 : ∀ (u : World), (Op.equalIn (d + 1) 3 (.int .i64 x.Received) (.int .i64 y.Received)).run prog u = .ok (decide (x.Received = y.Received)) u := fun u => by rw [run_equalIn_int u (d + 0) 3 .i64 .i64 _ _ (by kernel_rfl), ZaV]
 have p4 : ∀ (z : Za) (u : World), (part 3 (Ze z) 4).run prog u = .ok (.int .i64 z.Least) u := fun _ _ => by kernel_rfl
 have q4 : ∀ (u : World), (Op.equalIn (d + 1) 3 (.int .i64 x.Least) (.int .i64 y.Least)).run prog u = .ok (decide (x.Least = y.Least)) u := fun u => by rw [run_equalIn_int u (d + 0) 3 .i64 .i64 _ _ (by kernel_rfl), ZaV]
 have hf : (prog.fieldsOf 122).toList = [{ name := "From", type := 3, offset := 0, embedded := false, tag := "", pkgPath := "", byteOffset := 0 }, { name := "To", type := 3, offset := 1, embedded := false, tag := "", pkgPath := "", byteOffset := 8 }, { name := "Sent", type := 3, offset := 2, embedded := false, tag := "", pkgPath := "", byteOffset := 16 }, { name := "Received", type := 3, offset := 3, embedded := false, tag := "", pkgPath := "", byteOffset := 24 }, { name := "Least", type := 3, offset := 4, embedded := false, tag := "", pkgPath := "", byteOffset := 32 }] := by kernel_rfl
 rw [run_equalIn_struct w (d + 1) 122 _ _ (by kernel_rfl) (by kernel_rfl), hf]
 have hx : x = y ↔ (x.From = y.From ∧ x.To = y.To ∧ x.Sent = y.Sent ∧ x.Received = y.Received ∧ x.Least = y.Least) := by cases x; cases y; simp
 simp only [Op.eqFields, Sem.run_bind, Result.andThen_ok, Sem.run_ite, Sem.run_pure, p0, p1, p2, p3, p4, q0, q1, q2, q3, q4]
 by_cases h0 : x.From = y.From <;> by_cases h1 : x.To = y.To <;> by_cases h2 : x.Sent = y.Sent <;> by_cases h3 : x.Received = y.Received <;> by_cases h4 : x.Least = y.Least <;> simp [hx, h0, h1, h2, h3, h4]
instance ZFP (x y : Za) : BinC prog .eql 122 (.agg (Ze x)) (.agg (Ze y)) (.bool (decide (x = y))) := ⟨fun a b w => run_eqGuard_agg w _ _ _ _ _ _ (by kernel_rfl), fun w => by rw [run_eql_struct, Zq5 9998]; rfl⟩
theorem Zrm (d : Nat) (w : World) (x y : ZE) : (Op.equalIn (d + 2) 133 (.agg (ZX x)) (.agg (ZX y))).run prog w = .ok (decide (x = y)) w := by
 have p0 : ∀ (z : ZE) (u : World), (part 3 (ZX z) 0).run prog u = .ok (.int .i64 z.object) u := fun _ _ => by kernel_rfl
 have q0 : ∀ (u : World), (Op.equalIn (d + 1) 3 (.int .i64 x.object) (.int .i64 y.object)).run prog u = .ok (decide (x.object = y.object)) u := fun u => by rw [run_equalIn_int u (d + 0) 3 .i64 .i64 _ _ (by kernel_rfl), ZaV]
 have p1 : ∀ (z : ZE) (u : World), (part 3 (ZX z) 1).run prog u = .ok (.int .i64 z.seq) u := fun _ _ => by kernel_rfl
 have q1 : ∀ (u : World), (Op.equalIn (d + 1) 3 (.int .i64 x.seq) (.int .i64 y.seq)).run prog u = .ok (decide (x.seq = y.seq)) u := fun u => by rw [run_equalIn_int u (d + 0) 3 .i64 .i64 _ _ (by kernel_rfl), ZaV]
 have hf : (prog.fieldsOf 133).toList = [{ name := "object", type := 3, offset := 0, embedded := false, tag := "", pkgPath := "viator/report", byteOffset := 0 }, { name := "seq", type := 3, offset := 1, embedded := false, tag := "", pkgPath := "viator/report", byteOffset := 8 }] := by kernel_rfl
 rw [run_equalIn_struct w (d + 1) 133 _ _ (by kernel_rfl) (by kernel_rfl), hf]
 have hx : x = y ↔ (x.object = y.object ∧ x.seq = y.seq) := by cases x; cases y; simp
 simp only [Op.eqFields, Sem.run_bind, Result.andThen_ok, Sem.run_ite, Sem.run_pure, p0, p1, q0, q1]
 by_cases h0 : x.object = y.object <;> by_cases h1 : x.seq = y.seq <;> simp [hx, h0, h1]
instance ZEh (x y : ZE) : BinC prog .eql 133 (.agg (ZX x)) (.agg (ZX y)) (.bool (decide (x = y))) := ⟨fun a b w => run_eqGuard_agg w _ _ _ _ _ _ (by kernel_rfl), fun w => by rw [run_eql_struct, Zrm 9998]; rfl⟩
end
section
abbrev vIv (I : Zt) : Value := .agg (ZB (ZG I))
abbrev vQd (q : Zak) : Value := .agg (Z1 (Z3 q))
theorem sg0e (b : Int) {r : Rat} (h : r = 0) : b * r.num.sign = 0 := by
 subst h
 rw [show (0 : Rat).num.sign = 0 from rfl, Int.mul_zero]
theorem Zi5 (a b : Rat) : (a - b).num.sign = cq a b := by
 unfold cq
 split
 ·rename_i h
  exact Int.sign_eq_neg_one_iff_neg.2 (by
   have h3 : ¬ 0 ≤ (a - b).num := fun h1 => by
    have := Rat.num_nonneg.1 h1
    grind
   omega)
 ·split
  ·rename_i h1 h2
   refine Int.sign_eq_one_iff_pos.2 ?_
   have h3 : 0 ≤ (a - b).num := Rat.num_nonneg.2 (by grind)
   have h4 : (a - b).num ≠ 0 := fun h0 => by
    have := Rat.num_eq_zero.1 h0
    grind
   omega
  ·rename_i h1 h2
   have : a = b := by grind
   subst this
   rw [show a - a = 0 by grind]
   rfl
instance ZAo (x : ZJ) : SpecC prog 134 [vR x] (vQ (if x.Neg then ((-1 : Int) : Rat) else ((1 : Int) : Rat))) True := ⟨fun _ w => by
 refine Zg Tryz.func134 rfl Tryz.ntmps134 rfl ?_
 obtain ⟨p, r, b⟩ := x
 cases b
 ·repeat (first | (refine wkB ?_; intros) | (refine wnM ?_ ?_; (focus (exact ⟨by decide, by decide⟩)); intros))
  exact ZV rfl rfl (fun w hw => Zi hw)
 ·repeat (first | (refine wkB ?_; intros) | (refine wnM ?_ ?_; (focus (exact ⟨by decide, by decide⟩)); intros))
  exact ZV rfl rfl (fun w hw => Zi hw)⟩
instance ZCx (a b r : Rat) : SpecC prog 135 [vQ a, vQ b, vQ r] (.int .i64 a.num.sign) (r = 0) := ⟨fun hr w => by
 refine Zg Tryz.func135 rfl Tryz.ntmps135 rfl ?_
 have hz := sg0e b.num.sign hr
 repeat (refine wkB ?_; intros)
 (refine Zbb [0, 1, 2, 3, 4, 5, 6] [7, 8] (_) (h := ?_); refine wkI ?_)
 (repeat (first | refine wkH ?_ | (refine tC rfl rfl ?_ ?_; focus (exact trivial))))
 repeat (refine wkT ?_; intros)
 simp only [hz]
 repeat (refine wkB ?_; intros)
 exact Zf rfl rfl (fun w hw => Zi hw)⟩
instance Zwg (x y : ZJ) : SpecC prog 81 [vR x, vR y] (.int .i64 (cq x.P y.P)) ((x.R = 0 ∧ y.R = 0) ∧ M x.P ≤ LQ ∧ M y.P ≤ LQ) := ⟨fun hp w => by
 obtain ⟨⟨hx, hy⟩, h1, h2⟩ := hp
 refine Zg Tryz.func81 rfl Tryz.ntmps81 rfl ?_
 have hz := sg0e (-(if y.Neg then ((-1 : Int) : Rat) else ((1 : Int) : Rat))).num.sign hy
 repeat (refine wkB ?_; intros)
 (refine jD 10 13 (h := ?_); (repeat (first | refine wkH ?_ | (refine tC rfl rfl ?_ ?_; focus (first | exact trivial | exact ⟨h1, h2⟩)))); refine Zo ?_; (repeat (refine Z8 ?_; intro _)); refine Zr ?_)
 repeat (refine wkB ?_; intros)
 (refine Zbb [0, 1, 2, 3, 4, 5, 6, 7, 8, 9, 10] [11, 12] (_) (h := ?_); refine wkI ?_)
 (repeat (first | refine wkH ?_ | (refine tC rfl rfl ?_ ?_; focus (first | exact trivial | exact hx))))
 repeat (refine wkT ?_; intros)
 simp only [hz, Zi5]
 repeat (refine wkB ?_; intros)
 exact Zf rfl rfl (fun w hw => Zi hw)⟩
instance Zxg : CallC prog 209 := ⟨by kernel_rfl⟩
instance Zrx : CallC prog 159 := ⟨by kernel_rfl⟩
instance Zv3 : CallC prog 158 := ⟨by kernel_rfl⟩
instance ZwD (I : Zt) : SpecC prog 177 [vIv I] (.bool (decide (I.From = I.To))) True := ⟨fun _ w => by
 refine Zg Tryz.func177 rfl Tryz.ntmps177 rfl ?_
 repeat (refine wkB ?_; intros)
 exact Zf rfl rfl (fun w hw => Zi hw)⟩
def aprt (a b : Zt) : Bool := decide (a.To.P < b.From.P) || (decide (a.To.P = b.From.P) && (a.OpenTo || b.OpenFrom))
instance ZBw (a b : Zt) : SpecC prog 175 [vIv a, vIv b] (.bool (aprt a b)) ((a.To.R = 0 ∧ b.From.R = 0) ∧ M a.To.P ≤ LQ ∧ M b.From.P ≤ LQ) := ⟨fun hp w => by
 refine Zg Tryz.func175 rfl Tryz.ntmps175 rfl ?_
 repeat (first | (refine wkB ?_; intros) | (refine wnM ?_ ?_; (focus (exact hp)); intros))
 unfold aprt
 by_cases h1 : a.To.P < b.From.P
 ·simp only [Wc (ZiS.2 h1)]
  repeat (refine wkB ?_; intros)
  simp only [Wc h1]
  exact Zf rfl rfl (fun w hw => Zi hw)
 ·simp only [We (fun h => h1 (ZiS.1 h))]
  repeat (refine wkB ?_; intros)
  by_cases h2 : a.To.P = b.From.P
  ·simp only [Wc (ZfS.2 h2)]
   repeat (refine wkB ?_; intros)
   obtain ⟨fa, ta, oa, ca⟩ := a
   simp only at h1 h2 ⊢
   cases ca
   ·repeat (refine wkB ?_; intros)
    simp only [We h1, Wc h2]
    exact Zf rfl rfl (fun w hw => Zi hw)
   ·repeat (refine wkB ?_; intros)
    simp only [We h1, Wc h2]
    exact Zf rfl rfl (fun w hw => Zi hw)
  ·simp only [We (fun h => h2 (ZfS.1 h))]
   repeat (refine wkB ?_; intros)
   simp only [We h1, We h2]
   exact Zf rfl rfl (fun w hw => Zi hw)⟩
instance Zvb (c : Rat) : SpecC prog 87 [vQ c] (vQd ⟨c, 0, 0⟩) True := ⟨fun _ w => by
 refine Zg Tryz.func87 rfl Tryz.ntmps87 rfl ?_
 repeat (refine wkB ?_; intros)
 exact ZV rfl rfl (fun w hw => Zi hw)⟩
instance ZFL (p q : Zak) : SpecC prog 424 [vQd p, vQd q] (vQd ⟨p.C0 - q.C0, p.C1 - q.C1, p.C2 - q.C2⟩) ((M p.C0 ≤ LQ ∧ M q.C0 ≤ LQ) ∧ (M p.C1 ≤ LQ ∧ M q.C1 ≤ LQ) ∧ (M p.C2 ≤ LQ ∧ M q.C2 ≤ LQ)) := ⟨fun hp w => by
 obtain ⟨h1, h2, h3⟩ := hp
 refine Zg Tryz.func424 rfl Tryz.ntmps424 rfl ?_
 repeat (refine wkB ?_; intros)
 (refine jD 16 16 (h := ?_); (repeat (first | refine wkH ?_ | (refine tC rfl rfl ?_ ?_; focus (first | exact h1 | exact h2 | exact h3)))); refine Zo ?_; (repeat (refine Z8 ?_; intro _)); refine Zr ?_)
 repeat (refine wkB ?_; intros)
 exact ZV rfl rfl (fun w hw => Zi hw)⟩
instance Zw8 (q : Zak) (t : ZJ) : SpecC prog 421 [vQd q, vR t] (vQd ⟨q.C0 + t.P * (q.C1 + t.P * q.C2), 0, 0⟩) (t.R = 0 ∧ M q.C0 ≤ 34359738368 ∧ M q.C1 ≤ 34359738368 ∧ M q.C2 ≤ 34359738368 ∧ M t.P ≤ 34359738368) := ⟨fun hp w => by
 obtain ⟨h0, h1⟩ := hp
 refine Zg Tryz.func421 rfl Tryz.ntmps421 rfl ?_
 repeat (refine wkB ?_; intros)
 simp only [if_pos h0, Wc h0]
 repeat (first | (refine wkB ?_; intros) | (refine wnM ?_ ?_; (focus (first | exact trivial | exact h1)); intros))
 exact ZV rfl rfl (fun w hw => Zi hw)⟩
def qsame (p q : Zak) (t : Rat) : Bool := decide ((⟨p.C0 - q.C0 + t * (p.C1 - q.C1 + t * (p.C2 - q.C2)), 0, 0⟩ : Zak) = ⟨0, 0, 0⟩)
theorem Ziv {p q : Zak} {t : Rat} : qsame p q t = true ↔ p.C0 - q.C0 + t * (p.C1 - q.C1 + t * (p.C2 - q.C2)) = 0 := by
 unfold qsame
 rw [decide_eq_true_iff]
 simp
instance ZCo (p q : Zak) (t : ZJ) : SpecC prog 422 [vQd p, vQd q, vR t] (.bool (qsame p q t.P)) (t.R = 0 ∧ (M p.C0 ≤ 8589934592 ∧ M p.C1 ≤ 8589934592 ∧ M p.C2 ≤ 8589934592) ∧ (M q.C0 ≤ 8589934592 ∧ M q.C1 ≤ 8589934592 ∧ M q.C2 ≤ 8589934592) ∧ M t.P ≤ 8589934592) := ⟨fun hp w => by
 obtain ⟨h0, ⟨h1, h2, h3⟩, ⟨h4, h5, h6⟩, h7⟩ := hp
 have := MB.mk h1
 have := MB.mk h2
 have := MB.mk h3
 have := MB.mk h4
 have := MB.mk h5
 have := MB.mk h6
 have := MB.mk h7
 refine Zg Tryz.func422 rfl Tryz.ntmps422 rfl ?_
 repeat (refine wkB ?_; intros)
 (refine jD 7 7 (h := ?_); (repeat (first | refine wkH ?_ | (refine tC rfl rfl ?_ ?_; focus (first | exact ⟨mb2 rfl rfl, mb2 rfl rfl, mb2 rfl rfl⟩ | exact ⟨h0, MB.lt rfl, MB.lt rfl, MB.lt rfl, MB.lt rfl⟩)))); refine Zo ?_; (repeat (refine Z8 ?_; intro _)); refine Zr ?_)
 repeat (refine wkB ?_; intros)
 exact Zf rfl rfl (fun w hw => Zi hw)⟩
def lnX (f : ZF) : Zak := ⟨f.X0, f.X1, 0⟩
def lnY (f : ZF) : Zak := ⟨f.Y0, f.Y1, 0⟩
instance Zr4 (f : ZF) : SpecC prog 420 [vLn f] (.tuple #[vQd (lnX f), vQd (lnY f)]) True := ⟨fun _ w => by
 refine Zg Tryz.func420 rfl Tryz.ntmps420 rfl ?_
 repeat (refine wkB ?_; intros)
 (refine jD 10 10 (h := ?_); (repeat (refine wkH ?_)); refine Zo ?_; (repeat (refine Z8 ?_; intro _)); refine Zr ?_)
 repeat (refine wkB ?_; intros)
 exact Zz rfl (Zae rfl) (Zae rfl) (fun w hw => Zi hw)⟩
instance ZAE (f g : ZF) (t : ZJ) (z : Array Value) : SpecC prog 419 [.agg z, vLn f, vLn g, vR t] (.bool (qsame (lnX f) (lnX g) t.P && qsame (lnY f) (lnY g) t.P)) (t.R = 0 ∧ ((M f.X0 ≤ 8589934592 ∧ M f.X1 ≤ 8589934592) ∧ M f.Y0 ≤ 8589934592 ∧ M f.Y1 ≤ 8589934592) ∧ ((M g.X0 ≤ 8589934592 ∧ M g.X1 ≤ 8589934592) ∧ M g.Y0 ≤ 8589934592 ∧ M g.Y1 ≤ 8589934592) ∧ M t.P ≤ 8589934592) := ⟨fun hp w => by
 obtain ⟨h0, ⟨⟨h1, h2⟩, h3, h4⟩, ⟨⟨h5, h6⟩, h7, h8⟩, h9⟩ := hp
 have hm0 : M 0 ≤ 8589934592 := Wi ZfY.out (by decide)
 refine Zg Tryz.func419 rfl Tryz.ntmps419 rfl ?_
 repeat (first | (refine wkB ?_; intros) | (refine wnM ?_ ?_; (focus (first | exact trivial | exact ⟨h0, ⟨h1, h2, hm0⟩, ⟨h5, h6, hm0⟩, h9⟩)); intros))
 rcases hb : qsame (lnX f) (lnX g) t.P with _ | _
 ·repeat (refine wkB ?_; intros)
  exact Zf rfl rfl (fun w hw => Zi hw)
 ·repeat (first | (refine wkB ?_; intros) | (refine wnM ?_ ?_; (focus (exact ⟨h0, ⟨h3, h4, hm0⟩, ⟨h7, h8, hm0⟩, h9⟩)); intros))
  exact Zf rfl rfl (fun w hw => Zi hw)⟩
instance ZyT (f g : ZF) (z : Array Value) : SpecC prog 417 [.agg z, vLn f, vLn g] (.bool (decide (f = g))) True := ⟨fun _ w => by
 refine Zg Tryz.func417 rfl Tryz.ntmps417 rfl ?_
 repeat (refine wkB ?_; intros)
 exact Zf rfl rfl (fun w hw => Zi hw)⟩
def lred (f : ZF) (t : Rat) : ZF := ⟨f.X0 + t * (f.X1 + t * 0), 0, f.Y0 + t * (f.Y1 + t * 0), 0⟩
instance Zxr (f : ZF) (t : ZJ) (z : Array Value) : SpecC prog 418 [.agg z, vLn f, vR t] (vLn (lred f t.P)) (t.R = 0 ∧ ((M f.X0 ≤ 8589934592 ∧ M f.X1 ≤ 8589934592) ∧ M f.Y0 ≤ 8589934592 ∧ M f.Y1 ≤ 8589934592) ∧ M t.P ≤ 8589934592) := ⟨fun hp w => by
 obtain ⟨h0, ⟨⟨h1, h2⟩, h3, h4⟩, h9⟩ := hp
 have hm0 : M 0 ≤ 34359738368 := Wi ZfY.out (by decide)
 have := MB.mk h1
 have := MB.mk h2
 have := MB.mk h3
 have := MB.mk h4
 have := MB.mk h9
 refine Zg Tryz.func418 rfl Tryz.ntmps418 rfl ?_
 repeat (refine wkB ?_; intros)
 (refine jD 6 6 (h := ?_); (repeat (first | refine wkH ?_ | (refine tC rfl rfl ?_ ?_; focus (first | exact ⟨h0, Wi h1 (by decide), Wi h2 (by decide), hm0, Wi h9 (by decide)⟩ | exact ⟨h0, Wi h3 (by decide), Wi h4 (by decide), hm0, Wi h9 (by decide)⟩)))); refine Zo ?_; (repeat (refine Z8 ?_; intro _)); refine Zr ?_)
 repeat (refine wkB ?_; intros)
 exact ZV rfl rfl (fun w hw => Zi hw)⟩
end
section
abbrev PU := Zag
abbrev UL := ZN
abbrev rP := Zb6
abbrev rU := Za4
abbrev vPU (u : PU) : Value := .agg (ZS (ZT u))
abbrev vUL (u : UL) : Value := .agg (Zw (ZA u))
abbrev vFn (f : FuncId) : Value := .func (.func f) #[] [].toArray
def toU (u : PU) : UL := ⟨u.In, u.F⟩
def ofU (u : UL) : PU := ⟨u.In, u.F⟩
instance ZHo (u : PU) : SpecC prog 126 [vPU u] (vUL (toU u)) True := ⟨fun _ w => by
 refine Zg Tryz.func126 rfl Tryz.ntmps126 rfl ?_
 repeat (refine wkB ?_; intros)
 exact ZV rfl rfl (fun w hw => Zi hw)⟩
instance ZDv (u : UL) : SpecC prog 180 [vUL u] (vPU (ofU u)) True := ⟨fun _ w => by
 refine Zg Tryz.func180 rfl Tryz.ntmps180 rfl ?_
 repeat (refine wkB ?_; intros)
 exact ZV rfl rfl (fun w hw => Zi hw)⟩
theorem ZmE (v : Value) (us : List PU) (w : World) (hv : ArgS w v rP us) (hl : us.length ≤ 1048576) :
  Calls prog 125 [v, vFn 126].toArray w (RetM (SlS rU 36 (mpN toU us us.length)) (fun s => vSl s) (fun s => mS 224 s) w) := by
 refine Zg Tryz.func125 rfl Tryz.ntmps125 rfl ?_
 obtain ⟨p, cp, rfl⟩ := hv.form
 repeat (refine wkB ?_; intros)
 refine Zq (S := (m : Nat) × SlS rU 36 (mpN toU us m)) (fun s => s.1 ≤ us.length) (fun s => [(1, vFn 126), (5, vSl s.2), (8, .slice p us.length cp), (9, .int .i64 us.length), (10, .int .i64 (s.1 : Nat))]) (fun s => mS 224 s.2) (fun s => us.length - s.1) ⟨0, SlS.no⟩
  (Wm _) sbB slB (fun s hm => ?_)
 obtain ⟨m, s⟩ := s
 simp only at hm ⊢
 repeat (refine wkB ?_; intros)
 refine Zn rfl (fun h => ?_) (fun h => ?_)
 ·have hlt : m < us.length := by have := Wa h; omega
  have hne : us ≠ [] := fun h0 => by rw [h0] at hlt; simp at hlt
  obtain ⟨bw, ow, cw, hvw, hcw, hrow⟩ := hv.blk (k := 35) hne []
  injection hvw with e1 e2 e3
  subst e1
  subst e3
  have hrow' : ∀ L, RowC w L bw ow PU rP us := fun L => ⟨fun w' hw' => hrow.out w' (hw'.sub (Wk _))⟩
  repeat (refine wkB ?_; intros)
  have hml := Zew toU us m
  refine sU rfl rfl ?_ ?_ ?_ ?_
  ·rfl
  ·rfl
  ·exact ⟨by decide, by omega, by omega⟩
  intro s'
  repeat (first | (refine wkB ?_; intros) | (refine wnM ?_ ?_; (focus (exact ⟨by omega, by omega⟩)); intros))
  exact Zj ⟨m + 1, s'⟩ hlt sbB suB (by show us.length - (m + 1) < us.length - m; omega)
 ·have hge : m = us.length := by have := Wb h; omega
  subst hge
  repeat (refine wkB ?_; intros)
  exact Zf rfl rfl (fun w hw => ⟨s, rfl, hw.sub sbl⟩)
theorem Zkg (v : Value) (us : List UL) (w : World) (hv : ArgS w v rU us) (hl : us.length ≤ 1048576) :
  Calls prog 179 [v, vFn 180].toArray w (RetM (SlS rP 36 (mpN ofU us us.length)) (fun s => vSl s) (fun s => mS 115 s) w) := by
 refine Zg Tryz.func179 rfl Tryz.ntmps179 rfl ?_
 obtain ⟨p, cp, rfl⟩ := hv.form
 repeat (refine wkB ?_; intros)
 refine Zq (S := (m : Nat) × SlS rP 36 (mpN ofU us m)) (fun s => s.1 ≤ us.length) (fun s => [(1, vFn 180), (5, vSl s.2), (8, .slice p us.length cp), (9, .int .i64 us.length), (10, .int .i64 (s.1 : Nat))]) (fun s => mS 115 s.2) (fun s => us.length - s.1) ⟨0, SlS.no⟩
  (Wm _) sbB slB (fun s hm => ?_)
 obtain ⟨m, s⟩ := s
 simp only at hm ⊢
 repeat (refine wkB ?_; intros)
 refine Zn rfl (fun h => ?_) (fun h => ?_)
 ·have hlt : m < us.length := by have := Wa h; omega
  have hne : us ≠ [] := fun h0 => by rw [h0] at hlt; simp at hlt
  obtain ⟨bw, ow, cw, hvw, hcw, hrow⟩ := hv.blk (k := 35) hne []
  injection hvw with e1 e2 e3
  subst e1
  subst e3
  have hrow' : ∀ L, RowC w L bw ow UL rU us := fun L => ⟨fun w' hw' => hrow.out w' (hw'.sub (Wk _))⟩
  repeat (refine wkB ?_; intros)
  have hml := Zew ofU us m
  refine sU rfl rfl ?_ ?_ ?_ ?_
  ·rfl
  ·rfl
  ·exact ⟨by decide, by omega, by omega⟩
  intro s'
  repeat (first | (refine wkB ?_; intros) | (refine wnM ?_ ?_; (focus (exact ⟨by omega, by omega⟩)); intros))
  exact Zj ⟨m + 1, s'⟩ hlt sbB suB (by show us.length - (m + 1) < us.length - m; omega)
 ·have hge : m = us.length := by have := Wb h; omega
  subst hge
  repeat (refine wkB ?_; intros)
  exact Zf rfl rfl (fun w hw => ⟨s, rfl, hw.sub sbl⟩)
instance ZDa (w0 : World) (L : List Blk) (v : Value) (us : List PU) [h : LstC w0 L v PU rP us] : SpecR prog w0 L 125 [v, vFn 126] (SlS rU 36 (mpN toU us us.length)) (fun s => vSl s) (fun s => mS 224 s) (us.length ≤ 1048576) := ⟨fun hl w hw => ZmE v us w (h.out w hw) hl⟩
instance Zwh (w0 : World) (L : List Blk) (v : Value) (us : List UL) [h : LstC w0 L v UL rU us] : SpecR prog w0 L 179 [v, vFn 180] (SlS rP 36 (mpN ofU us us.length)) (fun s => vSl s) (fun s => mS 115 s) (us.length ≤ 1048576) := ⟨fun hl w hw => Zkg v us w (h.out w hw) hl⟩
theorem Zsi (v : Value) (us : List PU) (w : World) (hv : ArgS w v rP us) (hl : us.length ≤ 1048576) :
  Calls prog 72 [v].toArray w (RetM (SlS rU 36 (mpN toU us us.length)) (fun s => vSl s) (fun s => mS 224 s) w) := by
 have := ArgC.mk hv
 refine Zg Tryz.func72 rfl Tryz.ntmps72 rfl ?_
 repeat (first | (refine wkB ?_; intros) | (refine wnM ?_ ?_; (focus (exact hl)); intros))
 rename_i s
 exact Zf rfl rfl (fun w hw => ⟨s, rfl, hw.sub suB⟩)
theorem Zou (v : Value) (us : List UL) (w : World) (hv : ArgS w v rU us) (hl : us.length ≤ 1048576) :
  Calls prog 115 [v].toArray w (RetM (SlS rP 36 (mpN ofU us us.length)) (fun s => vSl s) (fun s => mS 115 s) w) := by
 have := ArgC.mk hv
 refine Zg Tryz.func115 rfl Tryz.ntmps115 rfl ?_
 repeat (first | (refine wkB ?_; intros) | (refine wnM ?_ ?_; (focus (exact hl)); intros))
 rename_i s
 exact Zf rfl rfl (fun w hw => ⟨s, rfl, hw.sub suB⟩)
instance ZHG (w0 : World) (L : List Blk) (v : Value) (us : List PU) [h : LstC w0 L v PU rP us] : SpecR prog w0 L 72 [v] (SlS rU 36 (mpN toU us us.length)) (fun s => vSl s) (fun s => mS 224 s) (us.length ≤ 1048576) := ⟨fun hl w hw => Zsi v us w (h.out w hw) hl⟩
instance ZFT (w0 : World) (L : List Blk) (v : Value) (us : List UL) [h : LstC w0 L v UL rU us] : SpecR prog w0 L 115 [v] (SlS rP 36 (mpN ofU us us.length)) (fun s => vSl s) (fun s => mS 115 s) (us.length ≤ 1048576) := ⟨fun hl w hw => Zou v us w (h.out w hw) hl⟩
end
section
def swpRp (xs : List Zb) (j : Nat) : List Zb := (xs.set (j + 1) (gi xs (j : Int))).set j (gi xs ((j + 1 : Nat) : Int))
def dwnRp (xs : List Zb) : Nat → List Zb
 | 0 => xs
 | j + 1 => if cmpRp (gi xs ((j + 1 : Nat) : Int)) (gi xs (j : Int)) < 0 then dwnRp (swpRp xs j) j else xs
def srtRp (xs : List Zb) : Nat → List Zb
 | 0 => xs
 | i + 1 => dwnRp (srtRp xs i) (i + 1)
theorem ZfI (xs : List Zb) (j : Nat) : (swpRp xs j).length = xs.length := by simp [swpRp]
theorem Ziz {xs : List Zb} {j : Nat} (h : j + 1 < xs.length) {u : Zb} (hu : u ∈ swpRp xs j) : u ∈ xs := by
 unfold swpRp at hu
 rcases List.mem_or_eq_of_mem_set hu with h1 | h1
 ·rcases List.mem_or_eq_of_mem_set h1 with h2 | h2
  ·exact h2
  ·rw [h2, Zk (by omega)]
   exact List.getElem_mem _
 ·rw [h1, Zk h]
  exact List.getElem_mem _
theorem Zh9 : ∀ (j : Nat) (xs : List Zb), (dwnRp xs j).length = xs.length
 | 0, _ => rfl
 | j + 1, xs => by
  rw [dwnRp]
  split
  ·rw [Zh9 j, ZfI]
  ·rfl
theorem Zh5 : ∀ (j : Nat) (xs : List Zb), j < xs.length → ∀ u ∈ dwnRp xs j, u ∈ xs
 | 0, _, _, _, h => h
 | j + 1, xs, hj, u, h => by
  rw [dwnRp] at h
  split at h
  ·exact Ziz hj (Zh5 j _ (by rw [ZfI]; omega) u h)
  ·exact h
theorem Zdf (xs : List Zb) : ∀ i, (srtRp xs i).length = xs.length
 | 0 => rfl
 | i + 1 => by rw [srtRp, Zh9, Zdf xs i]
theorem Zit (xs : List Zb) : ∀ i, i < xs.length → ∀ u ∈ srtRp xs i, u ∈ xs
 | 0, _, _, h => h
 | i + 1, hi, u, h => by
  rw [srtRp] at h
  exact Zit xs i (by omega) u (Zh5 _ _ (by rw [Zdf]; exact hi) u h)
theorem Zm1 (w0 w : World) (L1 : List Blk) (b c n : Nat) (xs : List Zb) (sp : List Value) (T : TypeId) (hn : xs.length = n) (hl : n ≤ 1048576) (hok : ∀ u ∈ xs, RpOk u) (hw : Own w0 (⟨b, row Zd xs sp, T⟩ :: L1) w) :
  Calls prog 248 [.slice (some ⟨b, 0, none⟩) n c, .int .i64 0, .int .i64 n, vFn 98].toArray w (RetX w0 Unit (fun _ => .tuple #[]) (fun _ => ⟨b, row Zd (srtRp xs (n - 1)) sp, T⟩ :: L1)) := by
 refine Z2 Tryz.func248 rfl Tryz.ntmps248 rfl hw ?_
 repeat (refine wkB ?_; intros)
 refine Zq (S := Nat) (fun m => m ≤ n - 1) (fun m => [(0, .slice (some ⟨b, 0, none⟩) n c), (1, .int .i64 0), (2, .int .i64 n), (3, vFn 98), (8, .int .i64 ((m + 1 : Nat)))]) (fun m => ⟨b, row Zd (srtRp xs m) sp, T⟩ :: L1) (fun m => n - 1 - m) 0 (Wm _) sbB slB (fun m hm => ?_)
 have hsl := Zdf xs m
 repeat (refine wkB ?_; intros)
 refine Zn rfl (fun h => ?_) (fun h => ?_)
 ·have hlt : m + 1 < n := by have := Wa h; omega
  have hmem := Zit xs m (by omega)
  repeat (refine wkB ?_; intros)
  refine Zq (S := Nat × List Zb) (fun s => dwnRp s.2 s.1 = srtRp xs (m + 1) ∧ s.2.length = n ∧ s.1 ≤ m + 1 ∧ ∀ u ∈ s.2, RpOk u) (fun s => [(0, .slice (some ⟨b, 0, none⟩) n c), (1, .int .i64 0), (2, .int .i64 n), (3, vFn 98), (8, .int .i64 ((m + 1 : Nat))), (9, .int .i64 ((s.1 : Nat)))]) (fun s => ⟨b, row Zd s.2 sp, T⟩ :: L1) (fun s => s.1) (m + 1, srtRp xs m)
   ⟨rfl, by show (srtRp xs m).length = n; omega, Wl _, fun u hu => hok u (hmem u hu)⟩ sbB slB (fun s hs => ?_)
  obtain ⟨j, ys⟩ := s
  obtain ⟨g1, g2, g3, g4⟩ := hs
  simp only at g1 g2 g3 g4 ⊢
  repeat (refine wkB ?_; intros)
  rcases j with _ | j
  ·(refine jD 17 17 (h := ?_); (repeat (refine wkH ?_)); refine Zo ?_; (repeat (refine Z8 ?_; intro _)); refine Zr ?_)
   repeat (refine wkB ?_; intros)
   exact Zj (m + 1) (by omega) sbB (by rw [← g1]; exact Wj _) (by omega)
  ·have hj1 : ((j : Int)).toNat < ys.length := by omega
   have hj2 : (((j + 1 : Nat) : Int)).toNat < ys.length := by omega
   have e1 : ((j + 1 : Nat) : Int) - 1 = (j : Int) := by omega
   have o1 := g4 _ (by rw [Zk (show j < ys.length by omega)]; exact List.getElem_mem _ : gi ys (j : Int) ∈ ys)
   have o2 := g4 _ (by rw [Zk (show j + 1 < ys.length by omega)]; exact List.getElem_mem _ : gi ys ((j + 1 : Nat) : Int) ∈ ys)
   rw [dwnRp] at g1
   refine jD 17 17 (h := ?_)
   (repeat (refine wkH ?_))
   simp only [Wc (show (0 : Int) < ((j + 1 : Nat) : Int) by omega), e1]
   (repeat (refine wkH ?_))
   simp only [e1]
   (repeat (first | refine wkH ?_ | (refine tC rfl rfl ?_ ?_; focus (exact ⟨o2, o1⟩))))
   refine Zo ?_
   refine Zr ?_
   repeat (refine wkB ?_; intros)
   by_cases hc : cmpRp (gi ys ((j + 1 : Nat) : Int)) (gi ys (j : Int)) < 0
   ·rw [if_pos hc] at g1
    simp only [Wc hc]
    repeat (refine wkB ?_; intros)
    (refine ZfP [(true, [0, 1, 2, 3, 4, 5, 6, 7, 8]), (false, [9]), (true, [10, 11, 12]), (false, [13]), (true, [14])] [15, 16, 17] (h := ?_); refine wkS ?_)
    (repeat (refine wkH ?_))
    simp only [e1]
    refine Zo ?_
    refine eR rfl ?_ ?_
    ·omega
    refine uS rfl rfl ?_ ?_
    ·omega
    refine eR rfl ?_ ?_
    ·rw [List.length_set]; omega
    refine Zbq ?_
    simp only [Int.toNat_natCast]
    repeat (first | (refine wkB ?_; intros) | (refine wnM ?_ ?_; (focus (exact ⟨by omega, by omega⟩)); intros))
    simp only [e1]
    exact Zj (j, swpRp ys j) ⟨g1, by rw [ZfI]; exact g2, by omega, fun u hu => g4 u (Ziz (by omega) hu)⟩ sbB slB (by show j < j + 1; omega)
   ·rw [if_neg hc] at g1
    simp only [We hc]
    repeat (first | (refine wkB ?_; intros) | (refine wnM ?_ ?_; (focus (exact ⟨by omega, by omega⟩)); intros))
    exact Zj (m + 1) (by omega) sbB (by rw [← g1]; exact Wj _) (by omega)
 ·have hge : m = n - 1 := by have := Wb h; omega
  subst hge
  repeat (refine wkB ?_; intros)
  exact Zar rfl (fun w hw => ⟨(), rfl, hw⟩)
abbrev SrtSRp (xs : List Zb) (s : SlS Zd 8 xs) : Type := { s' : SlS Zd 8 (srtRp xs (xs.length - 1)) // vSl s' = vSl s }
theorem ZkG (w0 w : World) (L L1 : List Blk) (xs : List Zb) (s : SlS Zd 8 xs) (T : TypeId) [hd : OwnS T s L L1] (hl : xs.length ≤ 1048576) (hok : ∀ u ∈ xs, RpOk u) (hw : Own w0 L w) :
  Calls prog 248 [vSl s, .int .i64 0, .int .i64 xs.length, vFn 98].toArray w (RetX w0 (SrtSRp xs s) (fun _ => .tuple #[]) (fun s' => mS T s'.1 ++ L1)) := by
 have hw1 := hw.perm hd.out
 rcases s.cases T with ⟨rfl, hv, hm⟩ | ⟨b, c, sp, h1, hv, hm, hne⟩
 ·suffices h : Calls prog 248 [.slice none 0 0, .int .i64 0, .int .i64 (([] : List Zb).length : Nat), vFn 98].toArray w (RetX w0 (SrtSRp [] s) (fun _ => .tuple #[]) (fun s' => mS T s'.1 ++ L1)) by
   rw [← hv] at h
   exact h
  refine Z2 Tryz.func248 rfl Tryz.ntmps248 rfl hw1 ?_
  repeat (refine wkB ?_; intros)
  refine Zq (S := Unit) (fun _ => True) (fun _ => [(2, .int .i64 (([] : List Zb).length : Nat)), (8, .int .i64 1)]) (fun _ => mS T s ++ L1) (fun _ => 0) () trivial sbB slB (fun _ _ => ?_)
  repeat (refine wkB ?_; intros)
  simp only [We (show ¬ (1 : Int) < ((([] : List Zb).length : Nat) : Int) by simp)]
  repeat (refine wkB ?_; intros)
  exact Zar rfl (fun w hw => ⟨⟨s, rfl⟩, rfl, hw⟩)
 ·suffices h : Calls prog 248 [.slice (some ⟨b, 0, none⟩) xs.length c, .int .i64 0, .int .i64 xs.length, vFn 98].toArray w (RetX w0 (SrtSRp xs s) (fun _ => .tuple #[]) (fun s' => mS T s'.1 ++ L1)) by
   rw [← hv] at h
   exact h
  rw [hm] at hw1
  have hsl := Zdf xs (xs.length - 1)
  refine (Zm1 w0 w L1 b c xs.length xs sp T rfl hl hok hw1).mono fun e w' ⟨_, he, hw'⟩ => ?_
  exact ⟨⟨SlS.at_ b c sp (by rw [hsl]; exact h1) (fun h0 => hne (List.length_eq_zero_iff.1 (by rw [h0, Wx] at hsl; exact hsl.symm))), by rw [hv]; show Value.slice _ (srtRp xs (xs.length - 1)).length c = _; rw [hsl]⟩, he, hw'⟩
instance ZB2 (w0 : World) (L L1 : List Blk) (xs : List Zb) (s : SlS Zd 8 xs) (T : TypeId) [hd : OwnS T s L L1] : SpecX prog w0 L 248 [vSl s, .int .i64 0, .int .i64 xs.length, vFn 98] (SrtSRp xs s) (fun _ => .tuple #[]) (fun s' => mS T s'.1 ++ L1) (xs.length ≤ 1048576 ∧ ∀ u ∈ xs, RpOk u) := ⟨fun hp w hw => ZkG w0 w L L1 xs s T hp.1 hp.2 hw⟩
end
section
theorem Zne (w0 w : World) (L L1 : List Blk) (xs : List Zb) (s : SlS Zd 8 xs) (T : TypeId) (lim : Int) [hd : OwnS T s L L1] (hl : xs.length ≤ 12) (hok : ∀ u ∈ xs, RpOk u) (hw : Own w0 L w) :
  Calls prog 203 [vSl s, .int .i64 0, .int .i64 xs.length, .int .i64 lim, vFn 98].toArray w (RetX w0 (SrtSRp xs s) (fun _ => .tuple #[]) (fun s' => mS T s'.1 ++ L1)) := by
 refine Z2 Tryz.func203 rfl Tryz.ntmps203 rfl hw ?_
 repeat (refine wkB ?_; intros)
 refine Zq (S := Unit) (fun _ => True) (fun _ => [(0, vSl s), (1, .int .i64 0), (2, .int .i64 xs.length), (3, .int .i64 lim), (4, vFn 98), (10, .bool true), (11, .bool true)]) (fun _ => L) (fun _ => 0) () trivial sbB slB (fun _ _ => ?_)
 repeat (refine wkB ?_; intros)
 simp only [Wc (show (xs.length : Int) - 0 ≤ 12 by omega)]
 repeat (refine wkB ?_; intros)
 refine sZ rfl rfl ?_ ?_
 ·exact ⟨by omega, hok⟩
 intro s'
 repeat (refine wkB ?_; intros)
 exact Zds rfl (fun w hw => ⟨s', rfl, hw⟩)
instance ZCu (w0 : World) (L L1 : List Blk) (xs : List Zb) (s : SlS Zd 8 xs) (T : TypeId) (lim : Int) [hd : OwnS T s L L1] : SpecX prog w0 L 203 [vSl s, .int .i64 0, .int .i64 xs.length, .int .i64 lim, vFn 98] (SrtSRp xs s) (fun _ => .tuple #[]) (fun s' => mS T s'.1 ++ L1) (xs.length ≤ 12 ∧ ∀ u ∈ xs, RpOk u) := ⟨fun hp w hw => Zne w0 w L L1 xs s T lim hp.1 hp.2 hw⟩
theorem Zkv (w0 w : World) (L L1 : List Blk) (xs : List Zb) (s : SlS Zd 8 xs) (T : TypeId) [hd : OwnS T s L L1] (hl : xs.length ≤ 12) (hok : ∀ u ∈ xs, RpOk u) (hw : Own w0 L w) :
  Calls prog 151 [vSl s, vFn 98].toArray w (RetX w0 (SrtSRp xs s) (fun _ => .tuple #[]) (fun s' => mS T s'.1 ++ L1)) := by
 refine Z2 Tryz.func151 rfl Tryz.ntmps151 rfl hw ?_
 repeat (first | (refine wkB ?_; intros) | (refine wnM ?_ ?_; (focus (omega)); intros))
 refine sZ rfl rfl ?_ ?_
 ·exact ⟨hl, hok⟩
 intro s'
 repeat (refine wkB ?_; intros)
 exact Zar rfl (fun w hw => ⟨s', rfl, hw⟩)
instance Zz7 (w0 : World) (L L1 : List Blk) (xs : List Zb) (s : SlS Zd 8 xs) (T : TypeId) [hd : OwnS T s L L1] : SpecX prog w0 L 151 [vSl s, vFn 98] (SrtSRp xs s) (fun _ => .tuple #[]) (fun s' => mS T s'.1 ++ L1) (xs.length ≤ 12 ∧ ∀ u ∈ xs, RpOk u) := ⟨fun hp w hw => Zkv w0 w L L1 xs s T hp.1 hp.2 hw⟩
end
end Go.Vt
namespace Go.Vt
open Go.RowKit
def Fr (r : Option Nat) : Fence := { Fence.wide with round := r }
section
variable {P : Program} {w0 : World} {n : Nat} {ops : Array Oper} {L : List Blk} {E : Env} {Q : Exit → Act → World → Prop} {r : Option Nat} {N : Nat}
def noDef (o : Oper) : Bool := match o.op with
 | .defer _ => false
 | _ => true
theorem ZdL {o : Oper} (h : noDef o = true) (c : Call) : o.op ≠ .defer c := fun e => by
 unfold noDef at h
 rw [e] at h
 cases h
theorem callsI {f : FuncId} {args : Array Value} {w : World} {R : Ending → World → Prop} (h : Calls P f args w R) : CallsIn (Fr r) N P f args w R := (callsIn_wide (n := N)).2 h
theorem callsO {f : FuncId} {args : Array Value} {w : World} {R : Ending → World → Prop} (h : CallsIn (Fr r) N P f args w R) : Calls P f args w R := (callsIn_wide (n := N)).1 h
def NoOut (Q : Exit → Act → World → Prop) : Prop := ∀ a w, ¬ Q .outgrown a w
theorem ZsA {o : Oper} {a : Act} {K : Act → World → Prop} {res : Result Next} (h : o.upon P a K Q res) : o.uponIn (Fr r) N P a K Q res := by
 cases res with
 | ok x w' =>
  cases x <;> simp only [Oper.upon] at h <;> simp only [Oper.uponIn]
  case value => exact h
  case skip => exact h
  case defer => exact h
  case enter => exact ⟨(fun hd => by cases hd), callsI h⟩
  case row => exact ⟨(fun hd => by cases hd), fun c cs _ => let ⟨v, w', r, s⟩ := h c cs; ⟨v, w', r, stepsIn_wide.2 s⟩⟩
 | halt x w' => cases x <;> simp only [Oper.upon] at h <;> simp only [Oper.uponIn] <;> exact h
theorem ZoX {o : Oper} {a : Act} {w : World} {K : Act → World → Prop} (hd : noDef o = true) (h : o.wp P a w K Q) : o.wpIn (Fr r) N P a w K Q := by
 refine ⟨fun f _ => trivial, ?_⟩
 rw [Oper.semAt_eq _ _ _ (ZdL hd)]
 exact ZsA h
theorem ZeQ (hQ : NoOut Q) : ∀ (l : List Oper) (a : Act) (w : World), l.all noDef = true → wpList P ops Q l a w → wpListIn (Fr r) N P ops Q l a w
 | [], _, _, _, h => h
 | o :: l, a, w, hd, h => by
  simp only [List.all_cons, Wq] at hd
  simp only [wpList] at h
  simp only [wpListIn]
  split at h
  ·rename_i hw
   rw [if_pos hw]
   rcases h with h | ⟨_, a0, w0, h⟩
   ·exact Oper.wpIn_mono (fun a w h => ZeQ hQ l a w hd.2 h) (ZoX hd.1 h)
   ·exact (hQ _ _ h).elim
  ·rename_i hw
   rw [if_neg hw]
   exact ⟨fun f _ => trivial, ZeQ hQ l _ _ hd.2 h⟩
structure JOI (r : Option Nat) (N : Nat) (P : Program) (w0 : World) (n : Nat) (ops : Array Oper) (Q : Exit → Act → World → Prop) (l : List Oper) (E : Env) (L : List Blk) : Prop where
 out : ∀ a w, Rep n E a → Own w0 L w → wpListIn (Fr r) N P ops Q l a w
structure JI (r : Option Nat) (N : Nat) (P : Program) (w0 : World) (n : Nat) (c : Code) (Q : Exit → Act → World → Prop) (E : Env) (L : List Blk) : Prop where
 out : ∀ a w, Rep n E a → Own w0 L w → c.wpIn (Fr r) N P Q a w
theorem Zbr {l : List Oper} (hQ : NoOut Q) (hd : l.all noDef = true) (h : JO P w0 n ops Q l E L) : JOI r N P w0 n ops Q l E L := ⟨fun a w ha hw => ZeQ hQ l a w hd (h.out a w ha hw)⟩
def ThenI (r : Option Nat) (N : Nat) (P : Program) (c : Code) (Q : Exit → Act → World → Prop) : Exit → Act → World → Prop := Exit.then (c.wpIn (Fr r) N P Q) Q
theorem ZaX {l : List Oper} {id : Nat} (h : JOI r N P w0 n l.toArray Q l E L) : JI r N P w0 n (.region id l.toArray false) Q E L := ⟨fun a w ha hw => wpIn_region_lit (h.out a w ha hw)⟩
theorem Zaw {x y : Code} (h : JI r N P w0 n x (ThenI r N P y Q) E L) : JI r N P w0 n (.seq x y) Q E L := ⟨fun a w ha hw => wpIn_seq (h.out a w ha hw)⟩
theorem Zdt (h : JX w0 n .normal Q E L) : JI r N P w0 n .skip Q E L := ⟨fun a w ha hw => wpIn_skip (h.out a w ha hw)⟩
theorem ZjN (h : JX w0 n .ret Q E L) : JI r N P w0 n .ret Q E L := ⟨fun a w ha hw => wpIn_ret (h.out a w ha hw)⟩
theorem Zhw {id : Nat} (h : JX w0 n (.exit id) Q E L) : JI r N P w0 n (.exit id) Q E L := ⟨fun a w ha hw => wpIn_exit (h.out a w ha hw)⟩
theorem Za9 {id : Nat} {c : Code} (h : JI r N P w0 n c (Exit.inBlock id Q) E L) : JI r N P w0 n (.block id c) Q E L := ⟨fun a w ha hw => wpIn_block (h.out a w ha hw)⟩
theorem Zbu {c : Operand} {x y : Code} {t : Bool} (hc : Env.ev E c = some (.bool t)) (ht : t = true → JI r N P w0 n x Q E L) (hf : t = false → JI r N P w0 n y Q E L) : JI r N P w0 n (.cond c x y) Q E L := ⟨fun a w ha hw => by
 cases t with
 | true => exact wpIn_cond_true (ha.ev hc) ((ht rfl).out a w ha hw)
 | false => exact wpIn_cond_false (ha.ev hc) ((hf rfl).out a w ha hw)⟩
theorem Zai {y : Code} (h : JI r N P w0 n y Q E L) : JX w0 n .normal (ThenI r N P y Q) E L := ⟨h.out⟩
theorem Zdi {y : Code} {id : Nat} (h : JX w0 n (.exit id) Q E L) : JX w0 n (.exit id) (ThenI r N P y Q) E L := ⟨h.out⟩
theorem Zcp {c : Code} (h : J P w0 n c Q E L) : JI none N P w0 n c Q E L := ⟨fun a w ha hw => wpIn_wide.2 (h.out a w ha hw)⟩
def LoopI {S : Type} (n : Nat) (I : S → World → Prop) (Es : S → Env) (mu : S → Nat) (s : S) (Q : Exit → Act → World → Prop) : Exit → Act → World → Prop
 | .normal, a, w => ∃ t, I t w ∧ Rep n (Es t) a ∧ mu t < mu s
 | e, a, w => Q e a w
theorem ZhK {S : Type} (I : S → World → Prop) (Es : S → Env) (mu : S → Nat) (s0 : S) {c : Code} (h0 : ∀ w, Own w0 L w → I s0 w) (hE : Sub E (Es s0))
  (round : ∀ s w1, I s w1 → JI r N P w1 n c (LoopI n I Es mu s Q) (Es s) []) : JI r N P w0 n (.loop c) Q E L := by
 refine ⟨fun a w ha hw => ?_⟩
 have hmin : ∀ (a : Act) (w : World), (∃ s, I s w ∧ Rep n (Es s) a) → ∃ s, (I s w ∧ Rep n (Es s) a) ∧ ∀ t, (I t w ∧ Rep n (Es t) a) → mu s ≤ mu t := by
  intro a w ⟨s, hs⟩
  obtain ⟨k, ⟨t, ht, hk⟩, hm⟩ := least (fun k => ∃ t, (I t w ∧ Rep n (Es t) a) ∧ mu t = k) (mu s) ⟨s, hs, rfl⟩
  exact ⟨t, ht, fun t' ht' => by rw [hk]; exact hm _ ⟨t', ht', rfl⟩⟩
 classical
 let pick : Act → World → Nat := fun a w => if h : ∃ s, I s w ∧ Rep n (Es s) a then mu (Classical.choose (hmin a w h)) else 0
 refine wpIn_loop (fun a w => ∃ s, I s w ∧ Rep n (Es s) a) pick ⟨s0, h0 w hw, ha.sub hE⟩ fun a' w' hI => ?_
 have hsp := Classical.choose_spec (hmin a' w' hI)
 have hr := (round _ _ hsp.1.1).out a' w' hsp.1.2 (Own.start w')
 refine wpIn_mono hr fun e a2 w2 hq => ?_
 cases e with
 | normal =>
  obtain ⟨t, ht, hr2, hlt⟩ := hq
  refine ⟨⟨t, ht, hr2⟩, ?_⟩
  have hex : ∃ s, I s w2 ∧ Rep n (Es s) a2 := ⟨t, ht, hr2⟩
  have h2 := (Classical.choose_spec (hmin a2 w2 hex)).2 t ⟨ht, hr2⟩
  simp only [pick, dif_pos hex, dif_pos hI]
  omega
 | _ => exact hq
theorem ZgA {S : Type} {I : S → World → Prop} {Es : S → Env} {mu : S → Nat} {s : S} (t : S) (ht : ∀ w, Own w0 L w → I t w) (hE : Sub E (Es t)) (hmu : mu t < mu s) : JX w0 n .normal (LoopI n I Es mu s Q) E L :=
 ⟨fun _ w ha hw => ⟨t, ht w hw, ha.sub hE, hmu⟩⟩
theorem ZdS {S : Type} {I : S → World → Prop} {Es : S → Env} {mu : S → Nat} {s : S} (h : JX w0 n .ret Q E L) : JX w0 n .ret (LoopI n I Es mu s Q) E L := ⟨h.out⟩
theorem Zdg {S : Type} {I : S → World → Prop} {Es : S → Env} {mu : S → Nat} {s : S} {id : Nat} (h : JX w0 n (.exit id) Q E L) : JX w0 n (.exit id) (LoopI n I Es mu s Q) E L := ⟨h.out⟩
theorem Zfv {l : Nat} {args : Array Value} {o : Oper} {rest : List Oper} {R : Ending → World → Prop} (hg : guardB ops E o.guard = some true) (hd : dstOk n o.dst = true) (hdef : noDef o = true)
  (hr : ∀ a w, Rep n E a → (execOp a.eval o).run P w = (Instr.yield l args).run P w)
  (hY : ∀ w, Own w0 L w → YieldAt (Fr r) (N - 1) P l args w R)
  (h : ∀ e w', R e w' → ∃ v, e = .returned v ∧ JOI r N P w' n ops Q rest (Env.put E o.dst v) []) : JOI r N P w0 n ops Q (o :: rest) E L := by
 refine ⟨fun a w ha hw => ?_⟩
 obtain ⟨fn, tmps, assign, body, hy, hR⟩ := hY w hw
 refine wpListIn_step fun K hK => ?_
 rw [if_pos (ZaL ha hg)]
 refine ⟨fun f _ => trivial, ?_⟩
 rw [Oper.semAt_eq _ _ _ (ZdL hdef), hr a w ha, hy]
 refine ⟨(fun hd => by cases hd), hR.mono fun e w' he => ?_⟩
 obtain ⟨v, rfl, hj⟩ := h e w' he
 exact hK _ _ (hj.out _ _ (ha.put _ _ hd) (Own.start w'))
theorem Zfl {l : Nat} {g : Operand} {xs : List Operand} {vs : List Value} {ats : Array TypeId} {a : Act} {w : World} {d : Option Tmp} {ty : TypeId} {pos : String} {aft : Array Edge} {gd : Option (Nat × Bool)} (ha : Rep n E a) (hg : Env.ev E g = some (.func (.yield l) #[] #[])) (hl : Env.evs E xs = some vs) :
  (execOp a.eval ⟨d, .call ⟨.value g, xs.toArray, ats⟩, ty, pos, aft, gd⟩).run P w = (Instr.yield l vs.toArray).run P w := by
 have h1 : xs.toArray.map a.eval = vs.toArray := by rw [← ha.evs xs vs hl]; simp
 simp only [execOp, resolve, h1, ha.ev hg, Deferred.ofValue, Sem.run_bind, Sem.run_pure, Result.andThen, invoke]
 rw [show (#[] ++ vs.toArray : Array Value) = vs.toArray from Array.empty_append]
theorem Zft {f : FuncId} {fn : Func} {c : Code} {l : List Value} {w : World} {R : Ending → World → Prop} (hf : P.funcs[f]? = some fn) (hb : fn.body = some c) (hn : fn.ntmps = n) (hl : Nat.ble l.length n = true) [hE : EnvC l E]
  (h : JI none N P w n c (bodyPost P fn R) E []) : CallsIn (Fr none) N P f l.toArray w R := by
 rw [← hE.out] at h
 have hl' : l.length ≤ n := Nat.le_of_ble_eq_true hl
 refine callsIn_of_wp hf hb trivial (h.out _ _ ⟨by simp [hn]; omega, rfl, fun k v hk => ?_⟩ (Own.start w))
 obtain ⟨_, h2⟩ := ZcC l 0 k v hk
 have hlt : k < l.length := by
  rcases Nat.lt_or_ge k l.length with h' | h'
  ·exact h'
  ·simp [List.getElem?_eq_none h'] at h2
 simp only [Nat.sub_zero] at h2
 rw [Array.getElem?_append_left (by simpa using hlt)]
 simpa using h2
theorem Zfh {f : FuncId} {fn : Func} {c : Code} {l : List Value} {w : World} {R : Ending → World → Prop} (hf : P.funcs[f]? = some fn) (hb : fn.body = some c) (hn : fn.ntmps = n) (hl : Nat.ble l.length n = true) [hE : EnvC l E]
  (h : JI none N P w n c (bodyPostM (Fr none) N P fn R) E []) : Calls P f l.toArray w R := by
 rw [← hE.out] at h
 have hl' : l.length ≤ n := Nat.le_of_ble_eq_true hl
 refine callsO (r := none) (N := N) (callsIn_of_wp_marks hf hb trivial (h.out _ _ ⟨by simp [hn]; omega, rfl, fun k v hk => ?_⟩ (Own.start w)))
 obtain ⟨_, h2⟩ := ZcC l 0 k v hk
 have hlt : k < l.length := by
  rcases Nat.lt_or_ge k l.length with h' | h'
  ·exact h'
  ·simp [List.getElem?_eq_none h'] at h2
 simp only [Nat.sub_zero] at h2
 rw [Array.getElem?_append_left (by simpa using hlt)]
 simpa using h2
end
end Go.Vt
namespace Go.Vt
open Go.RowKit
open Go.ChangeMaps (setBlock)
section
variable {P : Program} {w0 : World} {n N : Nat} {ops : Array Oper} {L : List Blk} {E : Env} {rd : Option Nat}
variable {Q : Exit → Act → World → Prop} {rest : List Oper}
variable {ty : TypeId} {pos : String} {aft : Array Edge} {gd : Option (Nat × Bool)} {t : Tmp} {x : Operand} {b r : Nat}
variable {κ α : Type} [DecidableEq κ] {ek : κ → Value} {ev : α → Value} {l : List (κ × α)} {seen : List Nat}
theorem ZgB (hg : guardB ops E gd = some true) (hd : Nat.blt t n = true) [hx : IsC (evl E x) (.pointer (some ⟨r, 0, none⟩))] (hr : ∀ w, Own w0 L w → w.heap[r]? = some (itO b l.length seen)) (hb : ∀ w, Own w0 L w → w.heap[b]? = some (mapO ek ev l))
  (h0 : (∀ i, i < l.length → i ∈ seen) → JOI rd N P w0 n ops Q rest ((t, .tuple #[.bool false]) :: E) L)
  (h1 : ∀ w w1 : World, Own w0 L w → (w1 = w ∨ w1 = w.drew) → ∀ i, (hi : i < l.length) → i ∉ seen → JOI rd N P (setBlock w1 r (itO b l.length (seen ++ [i]))) n ops Q rest ((t, .tuple #[.bool true, ek l[i].1, ev l[i].2]) :: E) []) :
  JOI rd N P w0 n ops Q (⟨some t, .next x false, ty, pos, aft, gd⟩ :: rest) E L := by
 refine ⟨fun a w ha hw => ?_⟩
 refine wpListIn_step fun K hK => ?_
 rw [if_pos (ZaL ha hg)]
 refine ⟨fun f _ => trivial, ?_⟩
 rw [Oper.semAt_eq _ _ _ (fun c e => by cases e)]
 have e1 := ha.ev (isE (h := hx))
 rcases Zh6 (P := P) (hr w hw) (hb w hw) ty with ⟨h2, h3⟩ | ⟨i, hi, hs, w1, hw1, h3⟩
 ·have e : (execOp a.eval ⟨some t, .next x false, ty, pos, aft, gd⟩).run P w = .ok (.value (.tuple #[.bool false])) w := by simp only [execOp, e1, Sem.run_bind, h3, Result.andThen, Sem.run_pure]
  rw [e]
  exact hK _ _ ((h0 h2).out _ _ (ha.put (some t) _ hd) hw)
 ·have e : (execOp a.eval ⟨some t, .next x false, ty, pos, aft, gd⟩).run P w = .ok (.value (.tuple #[.bool true, ek l[i].1, ev l[i].2])) (setBlock w1 r (itO b l.length (seen ++ [i]))) := by simp only [execOp, e1, Sem.run_bind, h3, Result.andThen, Sem.run_pure]
  rw [e]
  exact hK _ _ ((h1 w w1 hw hw1 i hi hs).out _ _ (ha.put (some t) _ hd) (Own.start _))
theorem ZcX (b n : Nat) (seen : List Nat) : (itO b n seen).isWalk = true := rfl
theorem ZeE {w w1 : World} {o : Obj} (hw : w1 = w ∨ w1 = w.drew) : w.grownBy (setBlock w1 r o) (some r) := by
 rcases hw with rfl | rfl
 ·exact ⟨rfl, rfl, rfl, by simp [setBlock], fun k _ hk => Array.getElem?_setIfInBounds_ne (fun e => hk (by rw [e]))⟩
 ·have e : w.drew.heap = w.heap := rfl
  exact ⟨rfl, rfl, rfl, by simp only [setBlock, Array.size_setIfInBounds, e]; exact Wl _, fun k _ hk => by simp only [setBlock, e]; exact Array.getElem?_setIfInBounds_ne (fun e => hk (by rw [e]))⟩
theorem ZfK {w w1 : World} {o o0 : Obj} (hw : w1 = w ∨ w1 = w.drew) (h : w.heap[r]? = some o0) : (setBlock w1 r o).heap[r]? = some o := by
 have hl := Zp h
 rcases hw with rfl | rfl
 ·simp [setBlock, hl]
 ·have e : w.drew.heap = w.heap := rfl
  simp [setBlock, e, hl]
end
section
theorem Zp3 {n : Nat} {seen : List Nat} (hn : seen.Nodup) (hl : ∀ i ∈ seen, i < n) (ha : ∀ i, i < n → i ∈ seen) : seen.Perm (List.range n) :=
 (List.perm_ext_iff_of_nodup hn List.nodup_range).2 fun i => by rw [List.mem_range]; exact ⟨hl i, ha i⟩
def seenL {α : Type} (l : List α) (seen : List Nat) : List α := seen.filterMap fun i => l[i]?
theorem ZbT {α : Type} (l : List α) (seen : List Nat) (i : Nat) (h : i < l.length) : seenL l (seen ++ [i]) = seenL l seen ++ [l[i]] := by
 simp [seenL, List.filterMap_append, h]
theorem Zd4 {α : Type} (l : List α) {seen : List Nat} (h : ∀ i ∈ seen, i < l.length) : (seenL l seen).length = seen.length := by
 induction seen with
 | nil => rfl
 | cons i s ih =>
  have hi := h i (.head _)
  have := ih fun j hj => h j (.tail _ hj)
  simp only [seenL, List.filterMap_cons, List.getElem?_eq_getElem hi, Wu]
  exact congrArg Nat.succ this
theorem Zkt {α : Type} (l : List α) : seenL l (List.range l.length) = l := by
 have key : ∀ (m : Nat), m ≤ l.length → seenL l (List.range m) = l.take m := by
  intro m
  induction m with
  | zero => intro _; simp [seenL]
  | succ m ih =>
   intro hm
   rw [List.range_succ, ZbT l _ m hm, ih (by omega), Wn hm]
 rw [key _ (Wl _), List.take_length]
theorem Zcg {α : Type} {l : List α} {seen : List Nat} (hn : seen.Nodup) (hl : ∀ i ∈ seen, i < l.length) (ha : ∀ i, i < l.length → i ∈ seen) : (seenL l seen).Perm l := by
 have := (Zp3 hn hl ha).filterMap fun i => l[i]?
 have e := Zkt l
 unfold seenL at e ⊢
 rw [e] at this
 exact this
theorem ZaT : ∀ {n : Nat} {seen : List Nat}, seen.Nodup → (∀ i ∈ seen, i < n) → seen.length ≤ n
 | 0, [], _, _ => Wl _
 | 0, i :: _, _, hl => absurd (hl i (.head _)) (by omega)
 | n + 1, seen, hn, hl => by
  by_cases h : n ∈ seen
  ·have h1 := ZaT (n := n) (hn.erase n) fun i hi => by
    have h2 := hl i (List.mem_of_mem_erase hi)
    have h3 : i ≠ n := fun e => by
     subst e
     exact (hn.not_mem_erase) hi
    omega
   rw [List.length_erase_of_mem h] at h1
   omega
  ·exact Nat.le_succ_of_le (ZaT hn fun i hi => by
    have h2 := hl i hi
    have h3 : i ≠ n := fun e => h (e ▸ hi)
    omega)
end
end Go.Vt
