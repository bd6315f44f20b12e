/- that the order in which batches arrive does not matter (part 8 of 27.) Conditions: those that each statement names. -/
import Derived.Test.YtjicdlilgjdefaaGreatDoorKO7
/- Division with remainder and the greatest common divisor of integers. Conditions: the lengths that each statement names. -/
set_option linter.unusedSimpArgs false
set_option linter.unusedVariables false
set_option maxHeartbeats 2000000
set_option maxRecDepth 100000
namespace Go.Vt
open Go.RowKit Go.Proofs
instance ZHo (a b : Nat) : SpecC Tryz.prog 222 [.string (mag a), .string (mag b)] (.tuple #[.string (mag (a / b)), .string (mag (a % b))]) (b ≠ 0 ∧ (mag a).size ≤ LIM ∧ (mag b).size ≤ LIM) := ⟨fun h w => Zo4 a b h.1 h.2.1 h.2.2 w⟩
theorem ZnA (a b : Int) (hb : b ≠ 0) (q r : Nat) (hq : q = a.natAbs / b.natAbs) (hr : r = a.natAbs % b.natAbs) :
  (a < 0 ∧ r ≠ 0 → sg (decide (a < 0) != decide (b < 0)) (q + 1) = a / b ∧ ((b.natAbs - r : Nat) : Int) = a % b) ∧ (¬ (a < 0 ∧ r ≠ 0) → sg (decide (a < 0) != decide (b < 0)) q = a / b ∧ (r : Int) = a % b) := by
 have hb' : 0 < b.natAbs := by omega
 have h1 := Nat.div_add_mod a.natAbs b.natAbs
 have h2 := Nat.mod_lt a.natAbs hb'
 rw [← hq, ← hr] at h1
 rw [← hr] at h2
 have key : ∀ (x : Int) (y : Int), a = b * x + y → 0 ≤ y → y < b.natAbs → x = a / b ∧ y = a % b := by
  intro x y e h3 h4
  rcases Int.lt_or_le b 0 with h0 | h0
  ·have := (Int.ediv_emod_unique' (a := a) (b := b) (r := y) (q := x) h0).2 ⟨by omega, h3, by omega⟩
   exact ⟨this.1.symm, this.2.symm⟩
  ·have := (Int.ediv_emod_unique (a := a) (b := b) (r := y) (q := x) (by omega)).2 ⟨by omega, h3, by omega⟩
   exact ⟨this.1.symm, this.2.symm⟩
 have hm : ((b.natAbs * q : Nat) : Int) = (b.natAbs : Int) * (q : Int) := by simp
 unfold sg
 refine ⟨fun ⟨ha, hr0⟩ => ?_, fun hn => ?_⟩
 ·refine key _ _ ?_ (by omega) (by omega)
  rcases Int.lt_or_le b 0 with hb0 | hb0
  ·simp only [ha, hb0, decide_true, bne_self_eq_false, Bool.false_eq_true, if_false]
   have : b = -(b.natAbs : Int) := by omega
   rw [this, Int.natAbs_neg, Int.natAbs_natCast, Int.natCast_add, Int.mul_add, Int.neg_mul, ← hm]
   omega
  ·have hb1 : ¬ b < 0 := by omega
   simp only [ha, hb1, decide_true, decide_false, Bool.bne_false, if_true]
   have : b = (b.natAbs : Int) := by omega
   rw [this, Int.natAbs_natCast, Int.natCast_add, Int.mul_neg, Int.mul_add, ← hm]
   omega
 ·refine key _ _ ?_ (by omega) (by omega)
  rcases Int.lt_or_le a 0 with ha | ha
  ·have hr0 : r = 0 := by
    rcases Nat.eq_zero_or_pos r with h | h
    ·exact h
    ·exact absurd ⟨ha, by omega⟩ hn
   rcases Int.lt_or_le b 0 with hb0 | hb0
   ·simp only [ha, hb0, decide_true, bne_self_eq_false, Bool.false_eq_true, if_false]
    have : b = -(b.natAbs : Int) := by omega
    rw [this, Int.neg_mul, ← hm]
    omega
   ·have hb1 : ¬ b < 0 := by omega
    simp only [ha, hb1, decide_true, decide_false, Bool.bne_false, if_true]
    have : b = (b.natAbs : Int) := by omega
    rw [this, Int.mul_neg, ← hm]
    omega
  ·have ha1 : ¬ a < 0 := by omega
   rcases Int.lt_or_le b 0 with hb0 | hb0
   ·simp only [ha1, hb0, decide_true, decide_false, Bool.bne_true, Bool.not_false, if_true]
    have : b = -(b.natAbs : Int) := by omega
    rw [this, Int.neg_mul, Int.mul_neg, Int.neg_neg, ← hm]
    omega
   ·have hb1 : ¬ b < 0 := by omega
    simp only [ha1, hb1, decide_false, bne_self_eq_false, Bool.false_eq_true, if_false]
    have : b = (b.natAbs : Int) := by omega
    rw [this, ← hm]
    omega
theorem Zsm : (⟨#[1]⟩ : ByteArray) = mag 1 := by decide
instance ZyX (a b : Int) : SpecC Tryz.prog 242 [vI a, vI b] (.tuple #[vI (a / b), vI (a % b), .int .i64 0]) (b ≠ 0 ∧ mg a ≤ LIM ∧ mg b ≤ LIM) := ⟨fun hp w => by
 obtain ⟨hb, ha, hbl⟩ := hp
 have hb' : b.natAbs ≠ 0 := by omega
 obtain ⟨k1, k2⟩ := ZnA a b hb _ _ rfl rfl
 have hsq : (mag (a.natAbs / b.natAbs)).size ≤ LIM := Nat.le_trans (Zb3 (Nat.div_le_self _ _)) ha
 have hlt : a.natAbs % b.natAbs ≤ b.natAbs := Nat.le_of_lt (Nat.mod_lt _ (by omega))
 refine Zg Tryz.func242 rfl Tryz.ntmps242 rfl ?_
 repeat (refine wkA ?_; try intro _)
 refine Zl rfl (fun h => ?_) (fun h => ?_)
 ·have := ZaM.1 (of_decide_eq_true h)
  omega
 repeat (first | (refine wkA ?_; try intro _) | (refine sC rfl rfl ?_ ?_; focus (first | exact trivial | exact ⟨hb', ha, hbl⟩)))
 generalize hq : a.natAbs / b.natAbs = q at *
 generalize hr : a.natAbs % b.natAbs = r at *
 by_cases hA : a < 0
 ·simp only [decide_eq_true hA]
  repeat (refine wkA ?_; try intro _)
  refine Zl rfl (fun h => ?_) (fun h => ?_)
  ·have hn : ¬ mag r = ⟨#[]⟩ := by simpa using h
   obtain ⟨e1, e2⟩ := k1 ⟨hA, fun h0 => hn (ZaM.2 h0)⟩
   (refine Za3 [0, 1, 2, 3, 4, 5] [6, 7] (_) (h := ?_); refine wkI ?_)
   rw [Zsm]
   (repeat (first | refine wkH ?_ | (refine tC rfl rfl ?_ ?_; focus (first | exact trivial | exact ⟨hsq, by decide⟩ | exact ⟨hbl, hlt⟩))))
   refine Zr ?_
   refine Zba rfl rfl rfl (List.Sublist.refl _) (Zba rfl rfl rfl (List.Sublist.refl _) (Zbf ?_))
   repeat (refine wkA ?_; try intro _)
   exact Zax rfl (Zac rfl) (Zac rfl) (Zk rfl) (fun w hw => by rw [e1, show sg false (b.natAbs - r) = a % b from e2]; exact Zh hw)
  ·have hn : mag r = ⟨#[]⟩ := by simpa using h
   obtain ⟨e1, e2⟩ := k2 (fun h => h.2 (ZaM.1 hn))
   repeat (refine wkA ?_; try intro _)
   exact Zax rfl (Zac rfl) (Zac rfl) (Zk rfl) (fun w hw => by rw [e1, show sg false r = a % b from e2]; exact Zh hw)
 ·simp only [decide_eq_false hA]
  obtain ⟨e1, e2⟩ := k2 (fun h => hA h.1)
  repeat (refine wkA ?_; try intro _)
  exact Zax rfl (Zac rfl) (Zac rfl) (Zk rfl) (fun w hw => by rw [e1, show sg false r = a % b from e2]; exact Zh hw)⟩
theorem Zp0 (a b : Int) (ha : mg a ≤ LIM) (hb : mg b ≤ LIM) (w : World) : Calls Tryz.prog 172 [vI a, vI b].toArray w (Ret (vI (Int.gcd a b)) w) := by
 refine Zg Tryz.func172 rfl Tryz.ntmps172 rfl ?_
 repeat (refine wkA ?_; try intro _)
 (refine Za3 [0, 1, 2, 3] [4, 5] (_) (h := ?_); refine wkI ?_)
 (repeat (refine wkH ?_))
 refine Zr ?_
 refine Zba rfl rfl rfl (List.Sublist.refl _) (Zba rfl rfl rfl (List.Sublist.refl _) (Zbf ?_))
 repeat (refine wkA ?_; try intro _)
 rename_i ba bb bc
 refine Zq (S := Nat × Nat) (fun s => Nat.gcd s.1 s.2 = Int.gcd a b ∧ (mag s.1).size ≤ LIM ∧ (mag s.2).size ≤ LIM) (fun s => [(4, .pointer (some ⟨bc, 0, none⟩)), (5, .string (mag s.1)), (6, .string (mag s.2))]) (fun _ => [⟨bc, ZP ZaP, 52⟩]) (fun s => s.2) (a.natAbs, b.natAbs) ⟨rfl, ha, hb⟩
  sbB sbl (fun s hs => ?_)
 obtain ⟨x, y⟩ := s
 obtain ⟨hg, hx, hy⟩ := hs
 simp only at hg hx hy ⊢
 repeat (refine wkA ?_; try intro _)
 refine Zl rfl (fun h => ?_) (fun h => ?_)
 ·have hn : ¬ mag y = ⟨#[]⟩ := by simpa using h
  have hy0 : y ≠ 0 := fun h0 => hn (ZaM.2 h0)
  repeat (refine wkA ?_; try intro _)
  refine Zl rfl (fun h => ?_) (fun h => ?_)
  ·have hxy : sm x = true ∧ sm y = true := by simpa using h
   repeat (refine wkA ?_; try intro _)
   refine Zq (S := Nat × Nat) (fun s => Nat.gcd s.1 s.2 = Int.gcd a b ∧ s.1 < 18446744073709551616 ∧ s.2 < 18446744073709551616) (fun s => [(4, .pointer (some ⟨bc, 0, none⟩)), (7, .int .u64 s.1), (8, .int .u64 s.2)]) (fun _ => [⟨bc, ZP ZaP, 52⟩]) (fun s => s.2) (lo x, lo y) ⟨by simp only [ZcX hxy.1, ZcX hxy.2]; exact hg, ZcW _, ZcW _⟩
    sbB sbl (fun s hs => ?_)
   obtain ⟨u, v⟩ := s
   obtain ⟨hg, hu, hv⟩ := hs
   simp only at hg hu hv ⊢
   repeat (refine wkA ?_; try intro _)
   refine Zl rfl (fun h => ?_) (fun h => ?_)
   ·have hv0 : v ≠ 0 := fun h0 => by subst h0; simp at h
    have hm := Nat.mod_lt u (Nat.pos_of_ne_zero hv0)
    have hum : ((u : Int) % (v : Int)) = ((u % v : Nat) : Int) := rfl
    repeat (refine wkA ?_; try intro _)
    (refine Za3 [0, 1, 2, 3] [4, 5] ([]) (h := ?_); refine wkI ?_)
    (repeat (refine wkH ?_))
    refine hq (Zfr rfl rfl ?_) rfl rfl ?_
    ·omega
    rw [hum]
    refine Zr ?_
    refine Zba rfl rfl rfl (List.nil_sublist _) (Zba rfl rfl rfl (List.nil_sublist _) (Zbf ?_))
    repeat (refine wkA ?_; try intro _)
    exact Zj (v, u % v) ⟨by simp only; rw [← hg, Nat.gcd_comm u v, Nat.gcd_comm v, Nat.gcd_rec v u], by omega, by omega⟩ sbB sbl hm
   ·have hv0 : v = 0 := by
     have : (v : Int) = 0 := by simpa using h
     omega
    subst hv0
    rw [Nat.gcd_zero_right] at hg
    subst hg
    repeat (first | (refine wkA ?_; try intro _) | (refine sC rfl rfl ?_ ?_; focus (first | exact trivial | omega)))
    exact ZV rfl rfl (fun w hw => Zh hw)
  ·repeat (first | (refine wkA ?_; try intro _) | (refine sC rfl rfl ?_ ?_; focus (first | exact trivial | exact ⟨hy0, hx, hy⟩)))
   have hm := Nat.mod_lt x (Nat.pos_of_ne_zero hy0)
   exact Zj (y, x % y) ⟨by simp only; rw [← hg, Nat.gcd_comm x y, Nat.gcd_comm y, Nat.gcd_rec y x], hy, Nat.le_trans (Zb3 (Nat.mod_le _ _)) hx⟩ sbB sbl hm
 ·have hn : mag y = ⟨#[]⟩ := by simpa using h
  have hy0 := ZaM.1 hn
  subst hy0
  rw [Nat.gcd_zero_right] at hg
  subst hg
  repeat (refine wkA ?_; try intro _)
  exact ZV rfl rfl (fun w hw => Zh hw)
instance ZGG (a b : Int) : SpecC Tryz.prog 172 [vI a, vI b] (vI (Int.gcd a b)) (mg a ≤ LIM ∧ mg b ≤ LIM) := ⟨fun h w => Zp0 a b h.1 h.2 w⟩
end Go.Vt
/- The fractions of the program: rational numbers in canonical form. Conditions: the lengths that each statement names. -/
namespace Go.Vt
open Go.RowKit Go.Proofs
def dn (q : Rat) : Int := if q.den = 1 then 0 else q.den
def Q (q : Rat) : Z9 := ⟨I q.num, I (dn q)⟩
abbrev vQ (q : Rat) : Value := .agg (Zx (Q q))
def M (q : Rat) : Nat := max (mg q.num) (mg q.den)
abbrev LQ : Nat := 274877906944
theorem ZbW {a b : Int} : I a = I b ↔ a = b := by
 refine ⟨fun h => ?_, fun h => by rw [h]⟩
 have h1 := congrArg Zan.Neg h
 have h2 := congrArg Zan.Mag h
 simp only [I] at h1 h2
 have h3 := ZkQ.1 h2
 by_cases ha : a < 0 <;> by_cases hb : b < 0 <;> simp [ha, hb] at h1 <;> omega
theorem ZjH {p q : Rat} : dn p = dn q ↔ p.den = q.den := by
 have h1 := p.den_pos
 have h2 := q.den_pos
 unfold dn
 split <;> split <;> omega
theorem Zdb {p q : Rat} : Q p = Q q ↔ p = q := by
 refine ⟨fun h => ?_, fun h => by rw [h]⟩
 have h1 := ZbW.1 (congrArg Z9.Num h)
 have h2 := ZjH.1 (ZbW.1 (congrArg Z9.Den h))
 exact Rat.ext h1 h2
theorem z_I : ZaP = I 0 := by decide
theorem z_Q : ZbY = Q 0 := by decide
instance (priority := high) zeroI : ZeroC Tryz.prog 52 (vI 0) (ZP (I 0)) := ⟨by have h := @ZeroC.out Tryz.prog 52 (.agg (ZP ZaP)) (ZP ZaP) inferInstance; rw [z_I] at h; exact h, rfl⟩
instance (priority := high) zeroQ : ZeroC Tryz.prog 54 (vQ 0) (Zx (Q 0)) := ⟨by have h := @ZeroC.out Tryz.prog 54 (.agg (Zx ZbY)) (Zx ZbY) inferInstance; rw [z_Q] at h; exact h, rfl⟩
instance (priority := high) bdI0 : BdC Tryz.prog 52 [] (vI 0) := ⟨by have h := @BdC.out Tryz.prog 52 [] (.agg (ZP ZaP)) inferInstance; rw [z_I] at h; exact h⟩
instance (priority := high) bdQ0 : BdC Tryz.prog 54 [] (vQ 0) := ⟨by have h := @BdC.out Tryz.prog 54 [] (.agg (Zx ZbY)) inferInstance; rw [z_Q] at h; exact h⟩
instance (priority := high) ZFT (q : Rat) : LdC Tryz.prog 52 (Zx (Q q)) 0 (vI q.num) := ⟨ZQ 2 (by kernel_rfl) (by kernel_rfl) (by kernel_rfl)⟩
instance (priority := high) ZDP (q : Rat) : LdC Tryz.prog 52 (Zx (Q q)) 2 (vI (dn q)) := ⟨ZQ 2 (by kernel_rfl) (by kernel_rfl) (by kernel_rfl)⟩
instance (priority := high) eqI (a b : Int) : BinC Tryz.prog .eql 52 (vI a) (vI b) (.bool (decide (a = b))) := by
 have h : decide (I a = I b) = decide (a = b) := by rw [decide_eq_decide]; exact ZbW
 exact h ▸ (inferInstance : BinC Tryz.prog .eql 52 (vI a) (vI b) (.bool (decide (I a = I b))))
instance (priority := high) eqQ (a b : Rat) : BinC Tryz.prog .eql 54 (vQ a) (vQ b) (.bool (decide (a = b))) := by
 have h : decide (Q a = Q b) = decide (a = b) := by rw [decide_eq_decide]; exact Zdb
 exact h ▸ (inferInstance : BinC Tryz.prog .eql 54 (vQ a) (vQ b) (.bool (decide (Q a = Q b))))
theorem Za5 (q : Rat) : mg q.num ≤ M q := Nat.le_max_left _ _
theorem ZaY (q : Rat) : mg q.den ≤ M q := Nat.le_max_right _ _
theorem Zji (n : Nat) : mg (n : Int) = (mag n).size := by unfold mg; rw [Int.natAbs_natCast]
theorem Zkp (a : Int) (g : Nat) (h : (g : Int) ∣ a) : (a / (g : Int)).natAbs ≤ a.natAbs := by
 obtain ⟨k, rfl⟩ := h
 rcases Nat.eq_zero_or_pos g with h | h
 ·subst h; simp
 ·rw [Int.mul_ediv_cancel_left _ (by omega), Int.natAbs_mul, Int.natAbs_natCast]
  exact Nat.le_mul_of_pos_left _ h
theorem Zdm {a b : Int} {k : Nat} (ha : mg a ≤ k) (hb : mg b ≤ k) (h1 : 1 ≤ k) : M (Rat.divInt a b) ≤ k := by
 refine Nat.max_le.2 ⟨?_, ?_⟩
 ·refine Nat.le_trans (ZkM ?_) ha
  rw [Rat.num_divInt]
  refine Nat.le_trans (Zkp _ _ ?_) ?_
  ·exact Int.dvd_trans (Int.gcd_dvd_right ..) (Int.dvd_mul_left _ _)
  ·rw [Int.natAbs_mul]
   have : b.sign.natAbs ≤ 1 := by rw [Int.natAbs_sign]; split <;> omega
   calc b.sign.natAbs * a.natAbs ≤ 1 * a.natAbs := Nat.mul_le_mul_right _ this
    _ = a.natAbs := Nat.one_mul _
 ·rw [Rat.den_divInt, Zji]
  split
  ·exact Nat.le_trans (by decide) h1
  ·exact Nat.le_trans (Zb3 (Nat.div_le_self _ _)) hb
theorem Ze1 (q : Rat) : (q.den : Int) ≠ 0 := by have := q.den_pos; omega
theorem ZlX (a b : Rat) : a + b = Rat.divInt (a.num * b.den + b.num * a.den) (a.den * b.den) := by
 rw [Rat.add_def', ← Rat.divInt_ofNat, Int.natCast_mul]
theorem ZgJ (a b : Rat) : a * b = Rat.divInt (a.num * b.num) (a.den * b.den) := by
 rw [Rat.mul_def', ← Rat.divInt_ofNat, Int.natCast_mul]
theorem ZgR (a b : Rat) : a / b = Rat.divInt (a.num * b.den) (a.den * b.num) := by
 conv => lhs; rw [Rat.div_def, ← Rat.num_divInt_den a, ← Rat.num_divInt_den b, Rat.inv_divInt, Rat.divInt_mul_divInt]
theorem Zn1 {q : Rat} : 1 ≤ M q := by
 refine Nat.le_trans ?_ (ZaY q)
 rw [Zji]
 rcases Nat.eq_zero_or_pos (mag q.den).size with h | h
 ·have h1 := (ZaL (n := q.den) (k := 0)).1 (by omega)
  have := q.den_pos
  simp at h1
  omega
 ·exact h
theorem ZqL (a b : Rat) : M (a + b) ≤ M a + M b + 1 := by
 rw [ZlX]
 have h1 := Za5 a
 have h2 := ZaY a
 have h3 := Za5 b
 have h4 := ZaY b
 refine Zdm (Zm4 (k := M a + M b) ?_ ?_) ?_ (by omega)
 ·exact Nat.le_trans (Zbm _ _) (by omega)
 ·exact Nat.le_trans (Zbm _ _) (by omega)
 ·exact Nat.le_trans (Zbm _ _) (by omega)
theorem Zvp (a b : Rat) : M (a * b) ≤ M a + M b := by
 rw [ZgJ]
 have h1 := Za5 a
 have h2 := ZaY a
 have h3 := Za5 b
 have h4 := ZaY b
 have h5 := @Zn1 a
 exact Zdm (Nat.le_trans (Zbm _ _) (by omega)) (Nat.le_trans (Zbm _ _) (by omega)) (by omega)
theorem Zv4 (a b : Rat) : M (a / b) ≤ M a + M b := by
 rw [ZgR]
 have h1 := Za5 a
 have h2 := ZaY a
 have h3 := Za5 b
 have h4 := ZaY b
 have h5 := @Zn1 a
 exact Zdm (Nat.le_trans (Zbm _ _) (by omega)) (Nat.le_trans (Zbm _ _) (by omega)) (by omega)
theorem ZqC (a : Rat) : M (-a) = M a := by unfold M; rw [Rat.neg_num, Rat.neg_den, Zjn]
theorem ZwR (a b : Rat) : M (a - b) ≤ M a + M b + 1 := by rw [Rat.sub_eq_add_neg, ← ZqC b]; exact ZqL _ _
class MB (q : Rat) (k : outParam Nat) : Prop where out : M q ≤ k
instance ZGC (a b : Rat) (j k : Nat) [h1 : MB a j] [h2 : MB b k] : MB (a + b) (j + k + 1) := ⟨by have := ZqL a b; have := h1.out; have := h2.out; omega⟩
instance ZG9 (a b : Rat) (j k : Nat) [h1 : MB a j] [h2 : MB b k] : MB (a - b) (j + k + 1) := ⟨by have := ZwR a b; have := h1.out; have := h2.out; omega⟩
instance ZHr (a b : Rat) (j k : Nat) [h1 : MB a j] [h2 : MB b k] : MB (a * b) (j + k) := ⟨by have := Zvp a b; have := h1.out; have := h2.out; omega⟩
instance ZGM (a b : Rat) (j k : Nat) [h1 : MB a j] [h2 : MB b k] : MB (a / b) (j + k) := ⟨by have := Zv4 a b; have := h1.out; have := h2.out; omega⟩
instance ZfH : MB 0 1 := ⟨by decide⟩
theorem ZqW (n : Int) : M (n : Rat) = max (mg n) 1 := by unfold M; rw [Rat.num_intCast, Rat.den_intCast]; rfl
theorem ZGA {n : Int} (h : -9223372036854775808 ≤ n ∧ n ≤ 9223372036854775807) : M (n : Rat) ≤ 8 := by
 rw [ZqW]
 refine Nat.max_le.2 ⟨ZdI ?_, by decide⟩
 have : (256 : Nat) ^ 8 = 18446744073709551616 := by decide
 omega
instance ZHh : SpecC Tryz.prog 171 [] (vI 1) True := ⟨fun _ w => by
 refine Zg Tryz.func171 rfl Tryz.ntmps171 rfl ?_
 repeat (first | (refine wkA ?_; try intro _) | (refine sC rfl rfl ?_ ?_; focus (first | exact trivial | omega)))
 exact ZV rfl rfl (fun w hw => Zh hw)⟩
theorem ZhC {q : Rat} : dn q = 0 ↔ q.den = 1 := by
 have := q.den_pos
 unfold dn
 split <;> omega
instance ZHz (q : Rat) : SpecC Tryz.prog 144 [vQ q] (vI q.den) True := ⟨fun _ w => by
 refine Zg Tryz.func144 rfl Tryz.ntmps144 rfl ?_
 repeat (refine wkA ?_; try intro _)
 refine Zl rfl (fun h => ?_) (fun h => ?_)
 ·have h1 := ZhC.1 (of_decide_eq_true h)
  rw [h1]
  repeat (refine wkA ?_; try intro _)
  exact ZV rfl rfl (fun w hw => Zh hw)
 ·have h1 : ¬ q.den = 1 := fun h0 => of_decide_eq_false h (ZhC.2 h0)
  have h2 : dn q = q.den := by unfold dn; rw [if_neg h1]
  repeat (refine wkA ?_; try intro _)
  exact ZV rfl rfl (fun w hw => by rw [← h2]; exact Zh hw)⟩
instance Zus (a b : Int) : SpecC Tryz.prog 194 [vI a, vI b] (vI (a / b)) (b ≠ 0 ∧ mg a ≤ LIM ∧ mg b ≤ LIM) := ⟨fun hp w => by
 refine Zg Tryz.func194 rfl Tryz.ntmps194 rfl ?_
 repeat (refine wkA ?_; try intro _)
 exact ZV rfl rfl (fun w hw => Zh hw)⟩
theorem Zn6 {x y : Int} (hy : 0 < y) : (Rat.divInt x y).num = x / (Int.gcd x y : Int) ∧ ((Rat.divInt x y).den : Int) = y / (Int.gcd x y : Int) := by
 refine ⟨?_, ?_⟩
 ·rw [Rat.num_divInt, Int.sign_eq_one_of_pos hy, Int.one_mul, Int.gcd_comm]
 ·rw [Rat.den_divInt, if_neg (by omega), Int.gcd_comm, Int.natCast_ediv]
  congr 1
  omega
instance Zs0 (x y : Int) : SpecC Tryz.prog 141 [vI x, vI y] (vQ (Rat.divInt x y)) (y ≠ 0 ∧ mg x ≤ LIM ∧ mg y ≤ LIM) := ⟨fun hp w => by
 obtain ⟨hy, hx, hl⟩ := hp
 refine Zg Tryz.func141 rfl Tryz.ntmps141 rfl ?_
 repeat (refine wkA ?_; try intro _)
 rename_i ba bb bc
 refine ZaR (S := Int × Int) (fun s => 0 < s.2 ∧ Rat.divInt s.1 s.2 = Rat.divInt x y ∧ mg s.1 ≤ LIM ∧ mg s.2 ≤ LIM) (fun _ => [(2, .pointer (some ⟨ba, 0, none⟩)), (3, .pointer (some ⟨bb, 0, none⟩)), (4, .pointer (some ⟨bc, 0, none⟩))]) (fun s => [⟨bc, Zx (Q 0), 54⟩, ⟨bb, ZP (I s.2), 52⟩, ⟨ba, ZP (I s.1), 52⟩]) ?_ (fun s hs => ?_)
 ·refine Zl rfl (fun h => ?_) (fun h => ?_)
  ·have hneg : y < 0 := Int.sign_neg_iff.1 (of_decide_eq_true h)
   repeat (refine wkA ?_; try intro _)
   (refine jD 4 4 (h := ?_); (repeat (refine wkH ?_)); refine Zr ?_; (repeat (refine Z6 ?_; intro _)); refine Zt ?_)
   repeat (refine wkA ?_; try intro _)
   exact ZT (-x, -y) ⟨by simp only; omega, Rat.neg_divInt_neg _ _, by simp only [Zjn]; exact hx, by simp only [Zjn]; exact hl⟩ sbB sbl
  ·have hpos : 0 < y := by
    have h1 : ¬ y.sign < 0 := of_decide_eq_false h
    have h2 : ¬ y < 0 := fun h3 => h1 (Int.sign_neg_iff.2 h3)
    omega
   repeat (refine wkA ?_; try intro _)
   exact ZT (x, y) ⟨hpos, rfl, hx, hl⟩ sbB sbl
 obtain ⟨p, q⟩ := s
 obtain ⟨hq0, heq, hp, hq⟩ := hs
 simp only at hq0 heq hp hq ⊢
 obtain ⟨e1, e2⟩ := Zn6 (x := p) hq0
 have hg0 : ((Int.gcd p q : Nat) : Int) ≠ 0 := by
  have := Int.gcd_pos_of_ne_zero_right p (Int.ne_of_gt hq0)
  omega
 have hg1 : mg (Int.gcd p q : Nat) ≤ LIM := by
  refine Nat.le_trans (ZkM ?_) hq
  rw [Int.natAbs_natCast]
  exact Nat.le_of_dvd (by omega) (Int.gcd_dvd_natAbs_right p q)
 rw [← heq]
 generalize hgd : ((Int.gcd p q : Nat) : Int) = g at *
 repeat (first | (refine wkA ?_; try intro _) | (refine sC rfl rfl ?_ ?_; focus (first | exact trivial | assumption | exact ⟨hp, hq⟩)))
 rw [hgd]
 (refine jD 6 6 (h := ?_); (repeat (first | refine wkH ?_ | (refine tC rfl rfl ?_ ?_; focus (first | exact trivial | exact ⟨hg0, hp, hg1⟩ | exact ⟨hg0, hq, hg1⟩)))); refine Zr ?_; (repeat (refine Z6 ?_; intro _)); refine Zt ?_)
 rw [← e1, ← e2]
 repeat (refine wkA ?_; try intro _)
 (refine jD 3 3 (h := ?_); (repeat (refine wkH ?_)); refine Zr ?_; (repeat (refine Z6 ?_; intro _)); refine Zt ?_)
 repeat (refine wkA ?_; try intro _)
 have key : ∀ d : Int, (if (Rat.divInt p q).den = 1 then 0 else ((Rat.divInt p q).den : Int)) = d → (⟨I (Rat.divInt p q).num, I d⟩ : Z9) = Q (Rat.divInt p q) := fun d hd => by rw [← hd]; rfl
 refine Zl rfl (fun h => ?_) (fun h => ?_)
 ·have h1 : (Rat.divInt p q).den = 1 := by have := of_decide_eq_true h; omega
  repeat (refine wkA ?_; try intro _)
  exact ZV rfl rfl (fun w hw => by rw [key 0 (by rw [if_pos h1])]; exact Zh hw)
 ·have h1 : ¬ (Rat.divInt p q).den = 1 := fun h0 => of_decide_eq_false h (by omega)
  repeat (refine wkA ?_; try intro _)
  exact ZV rfl rfl (fun w hw => by rw [key _ (by rw [if_neg h1])]; exact Zh hw)⟩
instance ZEv (x y : Int) : SpecC Tryz.prog 219 [vI x, vI y] (.tuple #[vQ (Rat.divInt x y), .int .i64 (if y = 0 then 6 else 0)]) (mg x ≤ LIM ∧ mg y ≤ LIM) := ⟨fun hp w => by
 refine Zg Tryz.func219 rfl Tryz.ntmps219 rfl ?_
 repeat (refine wkA ?_; try intro _)
 refine Zl rfl (fun h => ?_) (fun h => ?_)
 ·have h1 : y = 0 := Int.sign_eq_zero_iff_zero.1 (of_decide_eq_true h)
  subst h1
  rw [Rat.divInt_zero, if_pos rfl]
  repeat (refine wkA ?_; try intro _)
  exact Zv rfl (Zac rfl) (Zk rfl) (fun w hw => Zh hw)
 ·have h1 : ¬ y = 0 := fun h0 => of_decide_eq_false h (by rw [h0]; rfl)
  rw [if_neg h1]
  repeat (first | (refine wkA ?_; try intro _) | (refine sC rfl rfl ?_ ?_; focus (first | exact trivial | exact ⟨h1, hp.1, hp.2⟩)))
  exact Zv rfl (Zac rfl) (Zk rfl) (fun w hw => Zh hw)⟩
theorem ZkT {n : Int} (h : -9223372036854775808 ≤ n ∧ n ≤ 9223372036854775807) : mg n ≤ LIM := by
 refine Nat.le_trans (ZdI (k := 8) ?_) (by decide)
 have : (256 : Nat) ^ 8 = 18446744073709551616 := by decide
 omega
instance ZsE (x y : Int) : SpecC Tryz.prog 165 [.int .i64 x, .int .i64 y] (.tuple #[vQ (Rat.divInt x y), .int .i64 (if y = 0 then 6 else 0)]) ((-9223372036854775808 ≤ x ∧ x ≤ 9223372036854775807) ∧ (-9223372036854775808 ≤ y ∧ y ≤ 9223372036854775807)) := ⟨fun hp w => by
 refine Zg Tryz.func165 rfl Tryz.ntmps165 rfl ?_
 repeat (first | (refine wkA ?_; try intro _) | (refine sC rfl rfl ?_ ?_; focus (first | exact trivial | exact hp.1 | exact hp.2 | exact ⟨ZkT hp.1, ZkT hp.2⟩)))
 exact Zv rfl (Zac rfl) (Zk rfl) (fun w hw => Zh hw)⟩
theorem ZqV (n : Int) : (⟨I n, I 0⟩ : Z9) = Q (n : Rat) := rfl
instance ZuP (n : Int) : SpecC Tryz.prog 35 [.int .i64 n] (vQ (n : Rat)) (-9223372036854775808 ≤ n ∧ n ≤ 9223372036854775807) := ⟨fun hp w => by
 refine Zg Tryz.func35 rfl Tryz.ntmps35 rfl ?_
 repeat (refine wkA ?_; try intro _)
 exact ZV rfl rfl (fun w hw => by rw [z_I, ZqV]; exact Zh hw)⟩
def crs (a b : Rat) : Int × Int × Int := if a.den = b.den then (a.num, b.num, a.den) else (a.num * b.den, b.num * a.den, a.den * b.den)
theorem Zsb (a b : Rat) : mg (crs a b).1 ≤ M a + M b ∧ mg (crs a b).2.1 ≤ M a + M b ∧ mg (crs a b).2.2 ≤ M a + M b := by
 have h1 := Za5 a
 have h2 := ZaY a
 have h3 := Za5 b
 have h4 := ZaY b
 have h5 := Zbm a.num b.den
 have h6 := Zbm b.num a.den
 have h7 := Zbm a.den b.den
 unfold crs
 split <;> exact ⟨by simp only; omega, by simp only; omega, by simp only; omega⟩
theorem Zk1 (a b : Rat) : 0 < (crs a b).2.2 := by
 have h1 := a.den_pos
 have h2 := b.den_pos
 unfold crs
 split
 ·show (0 : Int) < a.den
  omega
 ·exact Int.mul_pos (by omega) (by omega)
theorem Zq9 (a b : Rat) : a = Rat.divInt (crs a b).1 (crs a b).2.2 ∧ b = Rat.divInt (crs a b).2.1 (crs a b).2.2 := by
 have ha := Ze1 a
 have hb := Ze1 b
 unfold crs
 split
 ·rename_i h
  exact ⟨(Rat.num_divInt_den a).symm, by rw [h]; exact (Rat.num_divInt_den b).symm⟩
 ·refine ⟨?_, ?_⟩
  ·conv => lhs; rw [← Rat.num_divInt_den a]
   exact (Rat.divInt_mul_right hb).symm
  ·conv => lhs; rw [← Rat.num_divInt_den b]
   rw [Int.mul_comm (a.den : Int)]
   exact (Rat.divInt_mul_right ha).symm
theorem Zrs (a b : Rat) : Rat.divInt ((crs a b).1 + (crs a b).2.1) (crs a b).2.2 = a + b := by
 have h := Zk1 a b
 obtain ⟨h1, h2⟩ := Zq9 a b
 have h3 : (crs a b).2.2 ≠ 0 := by omega
 have e : a + b = Rat.divInt (crs a b).1 (crs a b).2.2 + Rat.divInt (crs a b).2.1 (crs a b).2.2 := by rw [← h1, ← h2]
 rw [e, Rat.divInt_add_divInt _ _ h3 h3, ← Int.add_mul]
 exact (Rat.divInt_mul_right h3).symm
def cq (a b : Rat) : Int := if a < b then -1 else if b < a then 1 else 0
theorem Zsj (a b : Rat) : Lib.compareInt (crs a b).1 (crs a b).2.1 = cq a b := by
 have key : ∀ x y : Rat, x < y ↔ x.num * y.den < y.num * x.den := Rat.lt_iff
 have h : ((crs a b).1 < (crs a b).2.1 ↔ a < b) ∧ ((crs a b).2.1 < (crs a b).1 ↔ b < a) := by
  unfold crs
  rw [key a b, key b a]
  have h1 := a.den_pos
  split
  ·rename_i hd
   rw [hd]
   have h2 : (0 : Int) < b.den := by have := b.den_pos; omega
   exact ⟨(Int.mul_lt_mul_right h2).symm, (Int.mul_lt_mul_right h2).symm⟩
  ·exact ⟨Iff.rfl, Iff.rfl⟩
 unfold Lib.compareInt cq
 simp only [h.1, h.2, GT.gt]
instance ZAJ (a b : Rat) : SpecC Tryz.prog 109 [vQ a, vQ b] (.tuple #[vI (crs a b).1, vI (crs a b).2.1, vI (crs a b).2.2]) (M a ≤ LQ ∧ M b ≤ LQ) := ⟨fun hp w => by
 have hL : LQ ≤ LIM := by decide
 have h1 := Nat.le_trans (Nat.le_trans (Za5 a) hp.1) hL
 have h2 := Nat.le_trans (Nat.le_trans (ZaY a) hp.1) hL
 have h3 := Nat.le_trans (Nat.le_trans (Za5 b) hp.2) hL
 have h4 := Nat.le_trans (Nat.le_trans (ZaY b) hp.2) hL
 refine Zg Tryz.func109 rfl Tryz.ntmps109 rfl ?_
 repeat (refine wkA ?_; try intro _)
 refine Zl rfl (fun h => ?_) (fun h => ?_)
 ·have hd : a.den = b.den := ZjH.1 (of_decide_eq_true h)
  rw [show crs a b = (a.num, b.num, (a.den : Int)) by unfold crs; rw [if_pos hd]]
  repeat (refine wkA ?_; try intro _)
  rename_i ba bb bc bd be
  (refine Za3 [0, 1, 2, 3, 4, 5] [6, 7, 8] ([⟨bb, Zx (Q b), 54⟩, ⟨ba, Zx (Q a), 54⟩]) (h := ?_); refine wkI ?_)
  (repeat (refine wkH ?_))
  refine Zr ?_
  refine ZeG rfl rfl rfl sbl (ZeG rfl rfl rfl sbl (ZeG rfl rfl rfl sbl (Zbf ?_)))
  repeat (refine wkA ?_; try intro _)
  exact Zax rfl (Zac rfl) (Zac rfl) (Zac rfl) (fun w hw => Zh hw)
 ·have hd : ¬ a.den = b.den := fun h0 => of_decide_eq_false h (ZjH.2 h0)
  rw [show crs a b = (a.num * b.den, b.num * a.den, (a.den : Int) * b.den) by unfold crs; rw [if_neg hd]]
  repeat (refine wkA ?_; try intro _)
  (refine jD 15 15 (h := ?_); (repeat (refine wkH ?_)); refine Zr ?_; (repeat (refine Z6 ?_; intro _)); refine Zt ?_)
  repeat (refine wkA ?_; try intro _)
  exact Zax rfl (Zac rfl) (Zac rfl) (Zac rfl) (fun w hw => Zh hw)⟩
theorem LQ2 {j k : Nat} (h : j ≤ LQ ∧ k ≤ LQ) : j + k + 1 ≤ LIM := by
 have h1 : LQ + LQ + 1 ≤ LIM := by decide
 exact Nat.le_trans (Nat.add_le_add_right (Nat.add_le_add h.1 h.2) 1) h1
instance ZEd (a b : Rat) : SpecC Tryz.prog 88 [vQ a, vQ b] (vQ (a + b)) (M a ≤ LQ ∧ M b ≤ LQ) := ⟨fun hp w => by
 obtain ⟨h1, h2, h3⟩ := Zsb a b
 have hL := LQ2 hp
 have g1 : mg (crs a b).1 ≤ LIM := Nat.le_trans (Nat.le_succ_of_le h1) hL
 have g2 : mg (crs a b).2.1 ≤ LIM := Nat.le_trans (Nat.le_succ_of_le h2) hL
 have g3 : mg (crs a b).2.2 ≤ LIM := Nat.le_trans (Nat.le_succ_of_le h3) hL
 have g4 : mg ((crs a b).1 + (crs a b).2.1) ≤ LIM := Nat.le_trans (Zm4 h1 h2) hL
 have g5 : (crs a b).2.2 ≠ 0 := Int.ne_of_gt (Zk1 a b)
 refine Zg Tryz.func88 rfl Tryz.ntmps88 rfl ?_
 repeat (refine wkA ?_; try intro _)
 (refine jD 5 5 (h := ?_); (repeat (first | refine wkH ?_ | (refine tC rfl rfl ?_ ?_; focus (first | exact ⟨by assumption, by assumption⟩ | exact ⟨g5, g4, g3⟩)))); refine Zr ?_; (repeat (refine Z6 ?_; intro _)); refine Zt ?_)
 rw [Zrs]
 repeat (refine wkA ?_; try intro _)
 exact ZV rfl rfl (fun w hw => Zh hw)⟩
instance ZD8 (a b : Rat) : SpecC Tryz.prog 89 [vQ a, vQ b] (vQ (a * b)) (M a ≤ LQ ∧ M b ≤ LQ) := ⟨fun hp w => by
 have hL : LQ ≤ LIM := by decide
 have hM := LQ2 hp
 have h1 := Nat.le_trans (Nat.le_trans (Za5 a) hp.1) hL
 have h2 := Nat.le_trans (Nat.le_trans (ZaY a) hp.1) hL
 have h3 := Nat.le_trans (Nat.le_trans (Za5 b) hp.2) hL
 have h4 := Nat.le_trans (Nat.le_trans (ZaY b) hp.2) hL
 have g1 : mg (a.num * b.num) ≤ LIM := Nat.le_trans (Zbm _ _) (Nat.le_trans (Nat.le_succ_of_le (Nat.add_le_add (Za5 a) (Za5 b))) hM)
 have g2 : mg ((a.den : Int) * b.den) ≤ LIM := Nat.le_trans (Zbm _ _) (Nat.le_trans (Nat.le_succ_of_le (Nat.add_le_add (ZaY a) (ZaY b))) hM)
 have g3 : (a.den : Int) * b.den ≠ 0 := Int.mul_ne_zero (Ze1 a) (Ze1 b)
 refine Zg Tryz.func89 rfl Tryz.ntmps89 rfl ?_
 repeat (refine wkA ?_; try intro _)
 (refine jD 11 11 (h := ?_); (repeat (first | refine wkH ?_ | (refine tC rfl rfl ?_ ?_; focus (first | exact trivial | exact ⟨by assumption, by assumption⟩ | exact ⟨g3, g1, g2⟩)))); refine Zr ?_; (repeat (refine Z6 ?_; intro _)); refine Zt ?_)
 rw [← ZgJ]
 repeat (refine wkA ?_; try intro _)
 exact ZV rfl rfl (fun w hw => Zh hw)⟩
instance ZEz (a b : Rat) : SpecC Tryz.prog 173 [vQ a, vQ b] (.tuple #[vQ (a / b), .int .i64 (if b = 0 then 6 else 0)]) (M a ≤ LQ ∧ M b ≤ LQ) := ⟨fun hp w => by
 have hL : LQ ≤ LIM := by decide
 have hM := LQ2 hp
 have h1 := Nat.le_trans (Nat.le_trans (Za5 a) hp.1) hL
 have h2 := Nat.le_trans (Nat.le_trans (ZaY a) hp.1) hL
 have h3 := Nat.le_trans (Nat.le_trans (Za5 b) hp.2) hL
 have h4 := Nat.le_trans (Nat.le_trans (ZaY b) hp.2) hL
 have g1 : mg (a.num * b.den) ≤ LIM := Nat.le_trans (Zbm _ _) (Nat.le_trans (Nat.le_succ_of_le (Nat.add_le_add (Za5 a) (ZaY b))) hM)
 have g2 : mg ((a.den : Int) * b.num) ≤ LIM := Nat.le_trans (Zbm _ _) (Nat.le_trans (Nat.le_succ_of_le (Nat.add_le_add (ZaY a) (Za5 b))) hM)
 have hz : ((a.den : Int) * b.num = 0) ↔ b = 0 := by
  rw [Int.mul_eq_zero, Rat.num_eq_zero]
  exact ⟨fun h => h.resolve_left (Ze1 a), .inr⟩
 refine Zg Tryz.func173 rfl Tryz.ntmps173 rfl ?_
 repeat (refine wkA ?_; try intro _)
 (refine jD 13 13 (h := ?_); (repeat (refine wkH ?_)); refine Zr ?_; (repeat (refine Z6 ?_; intro _)); refine Zt ?_)
 rw [← ZgR]
 simp only [hz]
 repeat (refine wkA ?_; try intro _)
 exact Zv rfl (Zac rfl) (Zk rfl) (fun w hw => Zh hw)⟩
theorem ZwD (q : Rat) : (⟨I (-q.num), I (dn q)⟩ : Z9) = Q (-q) := rfl
instance ZGu (a : Rat) : SpecC Tryz.prog 111 [vQ a] (vQ (-a)) True := ⟨fun _ w => by
 refine Zg Tryz.func111 rfl Tryz.ntmps111 rfl ?_
 repeat (refine wkA ?_; try intro _)
 (refine jD 6 6 (h := ?_); (repeat (refine wkH ?_)); refine Zr ?_; (repeat (refine Z6 ?_; intro _)); refine Zt ?_)
 rw [ZwD]
 repeat (refine wkA ?_; try intro _)
 exact ZV rfl rfl (fun w hw => Zh hw)⟩
instance ZE8 (a b : Rat) : SpecC Tryz.prog 61 [vQ a, vQ b] (vQ (a - b)) (M a ≤ LQ ∧ M b ≤ LQ) := ⟨fun hp w => by
 have h1 := hp.1
 have h2 : M (-b) ≤ LQ := by rw [ZqC]; exact hp.2
 refine Zg Tryz.func61 rfl Tryz.ntmps61 rfl ?_
 repeat (refine wkA ?_; try intro _)
 (refine jD 4 4 (h := ?_); (repeat (refine wkH ?_)); refine Zr ?_; (repeat (refine Z6 ?_; intro _)); refine Zt ?_)
 rw [← Rat.sub_eq_add_neg]
 repeat (refine wkA ?_; try intro _)
 exact ZV rfl rfl (fun w hw => Zh hw)⟩
instance Zug (a b : Rat) : SpecC Tryz.prog 60 [vQ a, vQ b] (.int .i64 (cq a b)) (M a ≤ LQ ∧ M b ≤ LQ) := ⟨fun hp w => by
 refine Zg Tryz.func60 rfl Tryz.ntmps60 rfl ?_
 repeat (refine wkA ?_; try intro _)
 refine Zl rfl (fun h => ?_) (fun h => ?_)
 ·have h1 : a = b := of_decide_eq_true h
  rw [show cq a b = 0 by unfold cq; rw [h1, if_neg Rat.lt_irrefl, if_neg Rat.lt_irrefl]]
  repeat (refine wkA ?_; try intro _)
  exact Zf rfl rfl (fun w hw => Zh hw)
 ·repeat (refine wkA ?_; try intro _)
  rw [Zsj]
  repeat (refine wkA ?_; try intro _)
  exact Zf rfl rfl (fun w hw => Zh hw)⟩
instance ZzN (a : Rat) : SpecC Tryz.prog 136 [vQ a] (.int .i64 a.num.sign) True := ⟨fun _ w => by
 refine Zg Tryz.func136 rfl Tryz.ntmps136 rfl ?_
 repeat (refine wkA ?_; try intro _)
 exact Zf rfl rfl (fun w hw => Zh hw)⟩
theorem ZqU {a b : Rat} : cq a b ≤ 0 ↔ a ≤ b := by unfold cq; grind
theorem ZqQ {a b : Rat} : 0 < cq a b ↔ b < a := by unfold cq; grind
theorem Zir {a b : Rat} : cq a b < 0 ↔ a < b := by unfold cq; grind
theorem Zgv {a b : Rat} : cq a b = 0 ↔ a = b := by unfold cq; grind
end Go.Vt
/- Structs in which fractions lie: as Lean structures over Rat, with their encodings and what loads, literals and comparisons give. Written by a program (gen_enc.py). Conditions: none. -/
namespace Go.Vt
open Go.RowKit Go.Proofs
structure Ze where
 T : Rat
 Report : Zb
 deriving DecidableEq
def ZF (x : Ze) : Zb1 := ⟨Q x.T, x.Report⟩
def Zco : Ze := ⟨0, Zap⟩
theorem Znv {x y : Ze} : ZF x = ZF y ↔ x = y := by
 cases x; cases y; simp only [ZF, Zb1.mk.injEq, Ze.mk.injEq, Zdb, ZbW]
instance (priority := high) ZH6 : ZeroC Tryz.prog 56 (.agg (ZJ (ZF Zco))) (ZJ (ZF Zco)) := ⟨by kernel_rfl, rfl⟩
instance (priority := high) ZvH (x : Ze) : LdC Tryz.prog 56 (ZJ (ZF x)) 0 (.agg (ZJ (ZF x))) := ⟨ZQ 12 (by kernel_rfl) (by kernel_rfl) (by kernel_rfl)⟩
instance (priority := high) ZwZ (x : Ze) : LdC Tryz.prog 54 (ZJ (ZF x)) 0 (vQ x.T) := ⟨ZQ 4 (by kernel_rfl) (by kernel_rfl) (by kernel_rfl)⟩
instance (priority := high) Zw9 (x : Ze) : LdC Tryz.prog 3 (ZJ (ZF x)) 5 (.int .i64 x.Report.Seq) := ⟨Zy (by kernel_rfl) (by kernel_rfl)⟩
instance (priority := high) Zy7 (x : Ze) : LdC Tryz.prog 3 (ZJ (ZF x)) 9 (.int .i64 x.Report.X) := ⟨Zy (by kernel_rfl) (by kernel_rfl)⟩
instance (priority := high) Zvm (x : Ze) : LdC Tryz.prog 3 (ZJ (ZF x)) 10 (.int .i64 x.Report.Y) := ⟨Zy (by kernel_rfl) (by kernel_rfl)⟩
instance (priority := high) Zzg (x0 : Rat) (x1 : Zb) : BdC Tryz.prog 56 [(0, vQ x0), (1, .agg (Zc x1))] (.agg (ZJ (ZF ⟨x0, x1⟩))) := ⟨fun w => by kernel_rfl⟩
structure Zak where
 X : Rat
 Y : Rat
 deriving DecidableEq
def ZaH (x : Zak) : ZdS := ⟨Q x.X, Q x.Y⟩
def ZdJ : Zak := ⟨0, 0⟩
instance (priority := high) ZHY : ZeroC Tryz.prog 93 (.agg (ZaI (ZaH ZdJ))) (ZaI (ZaH ZdJ)) := ⟨by kernel_rfl, rfl⟩
instance (priority := high) Zv2 (x : Zak) : LdC Tryz.prog 93 (ZaI (ZaH x)) 0 (.agg (ZaI (ZaH x))) := ⟨ZQ 8 (by kernel_rfl) (by kernel_rfl) (by kernel_rfl)⟩
instance (priority := high) Zwi (x : Zak) : LdC Tryz.prog 54 (ZaI (ZaH x)) 0 (vQ x.X) := ⟨ZQ 4 (by kernel_rfl) (by kernel_rfl) (by kernel_rfl)⟩
instance (priority := high) ZvR (x : Zak) : LdC Tryz.prog 54 (ZaI (ZaH x)) 4 (vQ x.Y) := ⟨ZQ 4 (by kernel_rfl) (by kernel_rfl) (by kernel_rfl)⟩
instance (priority := high) ZyV (x0 : Rat) (x1 : Rat) : BdC Tryz.prog 93 [(0, vQ x0), (1, vQ x1)] (.agg (ZaI (ZaH ⟨x0, x1⟩))) := ⟨fun w => by kernel_rfl⟩
structure ZH where
 P : Rat
 R : Rat
 Neg : Bool
 deriving DecidableEq
def ZD (x : ZH) : ZaS := ⟨Q x.P, Q x.R, x.Neg⟩
def ZbS : ZH := ⟨0, 0, false⟩
theorem Zbv {x y : ZH} : ZD x = ZD y ↔ x = y := by
 cases x; cases y; simp only [ZD, ZaS.mk.injEq, ZH.mk.injEq, Zdb, ZbW]
instance (priority := high) ZH7 : ZeroC Tryz.prog 97 (.agg (Zz (ZD ZbS))) (Zz (ZD ZbS)) := ⟨by kernel_rfl, rfl⟩
instance (priority := high) Zvv (x : ZH) : LdC Tryz.prog 97 (Zz (ZD x)) 0 (.agg (Zz (ZD x))) := ⟨ZQ 9 (by kernel_rfl) (by kernel_rfl) (by kernel_rfl)⟩
instance (priority := high) Zwk (x : ZH) : LdC Tryz.prog 54 (Zz (ZD x)) 0 (vQ x.P) := ⟨ZQ 4 (by kernel_rfl) (by kernel_rfl) (by kernel_rfl)⟩
instance (priority := high) ZwW (x : ZH) : LdC Tryz.prog 54 (Zz (ZD x)) 4 (vQ x.R) := ⟨ZQ 4 (by kernel_rfl) (by kernel_rfl) (by kernel_rfl)⟩
instance (priority := high) ZyZ (x : ZH) : LdC Tryz.prog 4 (Zz (ZD x)) 8 (.bool x.Neg) := ⟨Zy (by kernel_rfl) (by kernel_rfl)⟩
instance (priority := high) ZDT (x0 : Rat) : BdC Tryz.prog 97 [(0, vQ x0)] (.agg (Zz (ZD ⟨x0, 0, false⟩))) := ⟨fun w => by kernel_rfl⟩
instance (priority := high) ZE0 (x y : ZH) : BinC Tryz.prog .eql 97 (.agg (Zz (ZD x))) (.agg (Zz (ZD y))) (.bool (decide (x = y))) := by
 have h : decide (ZD x = ZD y) = decide (x = y) := by rw [decide_eq_decide]; exact Zbv
 exact h ▸ (inferInstance : BinC Tryz.prog .eql 97 (.agg (Zz (ZD x))) (.agg (Zz (ZD y))) (.bool (decide (ZD x = ZD y))))
structure Zbr where
 Value : ZH
 At : ZH
 Reached : Bool
 deriving DecidableEq
def Zbq (x : Zbr) : Zcx := ⟨ZD x.Value, ZD x.At, x.Reached⟩
theorem Zii {x y : Zbr} : Zbq x = Zbq y ↔ x = y := by
 cases x; cases y; simp only [Zbq, Zcx.mk.injEq, Zbr.mk.injEq, Zdb, ZbW, Zbv, Zbv]
structure ZB where
 From : ZH
 To : ZH
 OpenFrom : Bool
 OpenTo : Bool
 deriving DecidableEq
def ZC (x : ZB) : Zaw := ⟨ZD x.From, ZD x.To, x.OpenFrom, x.OpenTo⟩
def ZbV : ZB := ⟨ZbS, ZbS, false, false⟩
theorem ZcZ {x y : ZB} : ZC x = ZC y ↔ x = y := by
 cases x; cases y; simp only [ZC, Zaw.mk.injEq, ZB.mk.injEq, Zdb, ZbW, Zbv, Zbv]
instance (priority := high) ZHn : ZeroC Tryz.prog 111 (.agg (Zw (ZC ZbV))) (Zw (ZC ZbV)) := ⟨by kernel_rfl, rfl⟩
instance (priority := high) Zti (x : ZB) : LdC Tryz.prog 111 (Zw (ZC x)) 0 (.agg (Zw (ZC x))) := ⟨ZQ 20 (by kernel_rfl) (by kernel_rfl) (by kernel_rfl)⟩
instance (priority := high) ZuA (x : ZB) : LdC Tryz.prog 97 (Zw (ZC x)) 0 (.agg (Zz (ZD x.From))) := ⟨ZQ 9 (by kernel_rfl) (by kernel_rfl) (by kernel_rfl)⟩
instance (priority := high) Zuu (x : ZB) : LdC Tryz.prog 97 (Zw (ZC x)) 9 (.agg (Zz (ZD x.To))) := ⟨ZQ 9 (by kernel_rfl) (by kernel_rfl) (by kernel_rfl)⟩
instance (priority := high) Zut (x : ZB) : LdC Tryz.prog 4 (Zw (ZC x)) 18 (.bool x.OpenFrom) := ⟨Zy (by kernel_rfl) (by kernel_rfl)⟩
instance (priority := high) Zuk (x : ZB) : LdC Tryz.prog 4 (Zw (ZC x)) 19 (.bool x.OpenTo) := ⟨Zy (by kernel_rfl) (by kernel_rfl)⟩
instance (priority := high) ZwX (x0 : ZH) (x1 : ZH) : BdC Tryz.prog 111 [(0, .agg (Zz (ZD x0))), (1, .agg (Zz (ZD x1)))] (.agg (Zw (ZC ⟨x0, x1, false, false⟩))) := ⟨fun w => by kernel_rfl⟩
instance (priority := high) ZtS (x0 : ZH) (x1 : ZH) (x2 : Bool) : BdC Tryz.prog 111 [(0, .agg (Zz (ZD x0))), (1, .agg (Zz (ZD x1))), (2, .bool x2)] (.agg (Zw (ZC ⟨x0, x1, x2, false⟩))) := ⟨fun w => by kernel_rfl⟩
instance (priority := high) ZrZ (x0 : ZH) (x1 : ZH) (x2 : Bool) (x3 : Bool) : BdC Tryz.prog 111 [(0, .agg (Zz (ZD x0))), (1, .agg (Zz (ZD x1))), (2, .bool x2), (3, .bool x3)] (.agg (Zw (ZC ⟨x0, x1, x2, x3⟩))) := ⟨fun w => by kernel_rfl⟩
instance (priority := high) ZBd (x1 : ZH) : BdC Tryz.prog 111 [(1, .agg (Zz (ZD x1)))] (.agg (Zw (ZC ⟨ZbS, x1, false, false⟩))) := ⟨fun w => by kernel_rfl⟩
instance (priority := high) ZBZ (x y : ZB) : BinC Tryz.prog .eql 111 (.agg (Zw (ZC x))) (.agg (Zw (ZC y))) (.bool (decide (x = y))) := by
 have h : decide (ZC x = ZC y) = decide (x = y) := by rw [decide_eq_decide]; exact ZcZ
 exact h ▸ (inferInstance : BinC Tryz.prog .eql 111 (.agg (Zw (ZC x))) (.agg (Zw (ZC y))) (.bool (decide (ZC x = ZC y))))
structure ZG where
 X0 : Rat
 X1 : Rat
 Y0 : Rat
 Y1 : Rat
 deriving DecidableEq
def ZY (x : ZG) : ZaZ := ⟨Q x.X0, Q x.X1, Q x.Y0, Q x.Y1⟩
def ZcU : ZG := ⟨0, 0, 0, 0⟩
theorem Zec {x y : ZG} : ZY x = ZY y ↔ x = y := by
 cases x; cases y; simp only [ZY, ZaZ.mk.injEq, ZG.mk.injEq, Zdb, ZbW]
instance (priority := high) ZG8 : ZeroC Tryz.prog 113 (.agg (ZW (ZY ZcU))) (ZW (ZY ZcU)) := ⟨by kernel_rfl, rfl⟩
instance (priority := high) ZsY (x : ZG) : LdC Tryz.prog 113 (ZW (ZY x)) 0 (.agg (ZW (ZY x))) := ⟨ZQ 16 (by kernel_rfl) (by kernel_rfl) (by kernel_rfl)⟩
instance (priority := high) ZuL (x : ZG) : LdC Tryz.prog 54 (ZW (ZY x)) 0 (vQ x.X0) := ⟨ZQ 4 (by kernel_rfl) (by kernel_rfl) (by kernel_rfl)⟩
instance (priority := high) ZuS (x : ZG) : LdC Tryz.prog 54 (ZW (ZY x)) 4 (vQ x.X1) := ⟨ZQ 4 (by kernel_rfl) (by kernel_rfl) (by kernel_rfl)⟩
instance (priority := high) ZuK (x : ZG) : LdC Tryz.prog 54 (ZW (ZY x)) 8 (vQ x.Y0) := ⟨ZQ 4 (by kernel_rfl) (by kernel_rfl) (by kernel_rfl)⟩
instance (priority := high) Zt9 (x : ZG) : LdC Tryz.prog 54 (ZW (ZY x)) 12 (vQ x.Y1) := ⟨ZQ 4 (by kernel_rfl) (by kernel_rfl) (by kernel_rfl)⟩
instance (priority := high) Zr5 (x0 : Rat) (x1 : Rat) (x2 : Rat) (x3 : Rat) : BdC Tryz.prog 113 [(0, vQ x0), (1, vQ x1), (2, vQ x2), (3, vQ x3)] (.agg (ZW (ZY ⟨x0, x1, x2, x3⟩))) := ⟨fun w => by kernel_rfl⟩
instance (priority := high) Zu6 (x0 : Rat) (x2 : Rat) : BdC Tryz.prog 113 [(0, vQ x0), (2, vQ x2)] (.agg (ZW (ZY ⟨x0, 0, x2, 0⟩))) := ⟨fun w => by kernel_rfl⟩
instance (priority := high) ZBa (x1 : Rat) : BdC Tryz.prog 113 [(1, vQ x1)] (.agg (ZW (ZY ⟨0, x1, 0, 0⟩))) := ⟨fun w => by kernel_rfl⟩
instance (priority := high) ZBH (x y : ZG) : BinC Tryz.prog .eql 113 (.agg (ZW (ZY x))) (.agg (ZW (ZY y))) (.bool (decide (x = y))) := by
 have h : decide (ZY x = ZY y) = decide (x = y) := by rw [decide_eq_decide]; exact Zec
 exact h ▸ (inferInstance : BinC Tryz.prog .eql 113 (.agg (ZW (ZY x))) (.agg (ZW (ZY y))) (.bool (decide (ZY x = ZY y))))
structure Zab where
 In : ZB
 F : ZG
 deriving DecidableEq
def ZR (x : Zab) : ZaO := ⟨ZC x.In, ZY x.F⟩
def Zcf : Zab := ⟨ZbV, ZcU⟩
theorem ZeL {x y : Zab} : ZR x = ZR y ↔ x = y := by
 cases x; cases y; simp only [ZR, ZaO.mk.injEq, Zab.mk.injEq, Zdb, ZbW, ZcZ, Zec]
instance (priority := high) ZG3 : ZeroC Tryz.prog 115 (.agg (ZS (ZR Zcf))) (ZS (ZR Zcf)) := ⟨by kernel_rfl, rfl⟩
instance (priority := high) ZsI (x : Zab) : LdC Tryz.prog 115 (ZS (ZR x)) 0 (.agg (ZS (ZR x))) := ⟨ZQ 36 (by kernel_rfl) (by kernel_rfl) (by kernel_rfl)⟩
instance (priority := high) ZtL (x : Zab) : LdC Tryz.prog 111 (ZS (ZR x)) 0 (.agg (Zw (ZC x.In))) := ⟨ZQ 20 (by kernel_rfl) (by kernel_rfl) (by kernel_rfl)⟩
instance (priority := high) ZuE (x : Zab) : LdC Tryz.prog 97 (ZS (ZR x)) 0 (.agg (Zz (ZD x.In.From))) := ⟨ZQ 9 (by kernel_rfl) (by kernel_rfl) (by kernel_rfl)⟩
instance (priority := high) Zsu (x : Zab) : LdC Tryz.prog 113 (ZS (ZR x)) 20 (.agg (ZW (ZY x.F))) := ⟨ZQ 16 (by kernel_rfl) (by kernel_rfl) (by kernel_rfl)⟩
instance (priority := high) Zwy (x0 : ZB) (x1 : ZG) : BdC Tryz.prog 115 [(0, .agg (Zw (ZC x0))), (1, .agg (ZW (ZY x1)))] (.agg (ZS (ZR ⟨x0, x1⟩))) := ⟨fun w => by kernel_rfl⟩
instance (priority := high) Zz2 (x y : Zab) : BinC Tryz.prog .neq 115 (.agg (ZS (ZR x))) (.agg (ZS (ZR y))) (.bool (!decide (x = y))) := by
 have h : decide (ZR x = ZR y) = decide (x = y) := by rw [decide_eq_decide]; exact ZeL
 exact h ▸ (inferInstance : BinC Tryz.prog .neq 115 (.agg (ZS (ZR x))) (.agg (ZS (ZR y))) (.bool (!decide (ZR x = ZR y))))
structure ZO where
 T : Rat
 P : Zak
 deriving DecidableEq
def Z7 (x : ZO) : ZbX := ⟨Q x.T, ZaH x.P⟩
def Zbx : ZO := ⟨0, ZdJ⟩
instance (priority := high) ZGY : ZeroC Tryz.prog 143 (.agg (Z3 (Z7 Zbx))) (Z3 (Z7 Zbx)) := ⟨by kernel_rfl, rfl⟩
instance (priority := high) ZtV (x : ZO) : LdC Tryz.prog 143 (Z3 (Z7 x)) 0 (.agg (Z3 (Z7 x))) := ⟨ZQ 12 (by kernel_rfl) (by kernel_rfl) (by kernel_rfl)⟩
instance (priority := high) Zuq (x : ZO) : LdC Tryz.prog 54 (Z3 (Z7 x)) 0 (vQ x.T) := ⟨ZQ 4 (by kernel_rfl) (by kernel_rfl) (by kernel_rfl)⟩
instance (priority := high) Zux (x : ZO) : LdC Tryz.prog 54 (Z3 (Z7 x)) 4 (vQ x.P.X) := ⟨ZQ 4 (by kernel_rfl) (by kernel_rfl) (by kernel_rfl)⟩
instance (priority := high) ZuH (x : ZO) : LdC Tryz.prog 54 (Z3 (Z7 x)) 8 (vQ x.P.Y) := ⟨ZQ 4 (by kernel_rfl) (by kernel_rfl) (by kernel_rfl)⟩
instance (priority := high) Zwm (x0 : Rat) (x1 : Zak) : BdC Tryz.prog 143 [(0, vQ x0), (1, .agg (ZaI (ZaH x1)))] (.agg (Z3 (Z7 ⟨x0, x1⟩))) := ⟨fun w => by kernel_rfl⟩
structure Zag where
 C0 : Rat
 C1 : Rat
 C2 : Rat
 deriving DecidableEq
def Z2 (x : Zag) : ZbJ := ⟨Q x.C0, Q x.C1, Q x.C2⟩
def ZdY : Zag := ⟨0, 0, 0⟩
theorem Zhx {x y : Zag} : Z2 x = Z2 y ↔ x = y := by
 cases x; cases y; simp only [Z2, ZbJ.mk.injEq, Zag.mk.injEq, Zdb, ZbW]
instance (priority := high) ZHq : ZeroC Tryz.prog 164 (.agg (Z0 (Z2 ZdY))) (Z0 (Z2 ZdY)) := ⟨by kernel_rfl, rfl⟩
instance (priority := high) Zts (x : Zag) : LdC Tryz.prog 164 (Z0 (Z2 x)) 0 (.agg (Z0 (Z2 x))) := ⟨ZQ 12 (by kernel_rfl) (by kernel_rfl) (by kernel_rfl)⟩
instance (priority := high) ZuW (x : Zag) : LdC Tryz.prog 54 (Z0 (Z2 x)) 0 (vQ x.C0) := ⟨ZQ 4 (by kernel_rfl) (by kernel_rfl) (by kernel_rfl)⟩
instance (priority := high) Zup (x : Zag) : LdC Tryz.prog 54 (Z0 (Z2 x)) 4 (vQ x.C1) := ⟨ZQ 4 (by kernel_rfl) (by kernel_rfl) (by kernel_rfl)⟩
instance (priority := high) Zuf (x : Zag) : LdC Tryz.prog 54 (Z0 (Z2 x)) 8 (vQ x.C2) := ⟨ZQ 4 (by kernel_rfl) (by kernel_rfl) (by kernel_rfl)⟩
instance (priority := high) ZEp  : BdC Tryz.prog 164 [] (.agg (Z0 (Z2 ⟨0, 0, 0⟩))) := ⟨fun w => by kernel_rfl⟩
instance (priority := high) ZBO (x0 : Rat) : BdC Tryz.prog 164 [(0, vQ x0)] (.agg (Z0 (Z2 ⟨x0, 0, 0⟩))) := ⟨fun w => by kernel_rfl⟩
instance (priority := high) Zvb (x0 : Rat) (x1 : Rat) : BdC Tryz.prog 164 [(0, vQ x0), (1, vQ x1)] (.agg (Z0 (Z2 ⟨x0, x1, 0⟩))) := ⟨fun w => by kernel_rfl⟩
instance (priority := high) ZsR (x0 : Rat) (x1 : Rat) (x2 : Rat) : BdC Tryz.prog 164 [(0, vQ x0), (1, vQ x1), (2, vQ x2)] (.agg (Z0 (Z2 ⟨x0, x1, x2⟩))) := ⟨fun w => by kernel_rfl⟩
instance (priority := high) ZAx (x y : Zag) : BinC Tryz.prog .eql 164 (.agg (Z0 (Z2 x))) (.agg (Z0 (Z2 y))) (.bool (decide (x = y))) := by
 have h : decide (Z2 x = Z2 y) = decide (x = y) := by rw [decide_eq_decide]; exact Zhx
 exact h ▸ (inferInstance : BinC Tryz.prog .eql 164 (.agg (Z0 (Z2 x))) (.agg (Z0 (Z2 y))) (.bool (decide (Z2 x = Z2 y))))
structure ZK where
 In : ZB
 F : ZG
 deriving DecidableEq
def Zu (x : ZK) : ZbG := ⟨ZC x.In, ZY x.F⟩
def Zbk : ZK := ⟨ZbV, ZcU⟩
instance (priority := high) ZG7 : ZeroC Tryz.prog 224 (.agg (Zs (Zu Zbk))) (Zs (Zu Zbk)) := ⟨by kernel_rfl, rfl⟩
instance (priority := high) Ztc (x : ZK) : LdC Tryz.prog 224 (Zs (Zu x)) 0 (.agg (Zs (Zu x))) := ⟨ZQ 36 (by kernel_rfl) (by kernel_rfl) (by kernel_rfl)⟩
instance (priority := high) Zth (x : ZK) : LdC Tryz.prog 111 (Zs (Zu x)) 0 (.agg (Zw (ZC x.In))) := ⟨ZQ 20 (by kernel_rfl) (by kernel_rfl) (by kernel_rfl)⟩
instance (priority := high) Zue (x : ZK) : LdC Tryz.prog 97 (Zs (Zu x)) 0 (.agg (Zz (ZD x.In.From))) := ⟨ZQ 9 (by kernel_rfl) (by kernel_rfl) (by kernel_rfl)⟩
instance (priority := high) Zuo (x : ZK) : LdC Tryz.prog 97 (Zs (Zu x)) 9 (.agg (Zz (ZD x.In.To))) := ⟨ZQ 9 (by kernel_rfl) (by kernel_rfl) (by kernel_rfl)⟩
instance (priority := high) ZuB (x : ZK) : LdC Tryz.prog 4 (Zs (Zu x)) 18 (.bool x.In.OpenFrom) := ⟨Zy (by kernel_rfl) (by kernel_rfl)⟩
instance (priority := high) ZuI (x : ZK) : LdC Tryz.prog 4 (Zs (Zu x)) 19 (.bool x.In.OpenTo) := ⟨Zy (by kernel_rfl) (by kernel_rfl)⟩
instance (priority := high) Zst (x : ZK) : LdC Tryz.prog 113 (Zs (Zu x)) 20 (.agg (ZW (ZY x.F))) := ⟨ZQ 16 (by kernel_rfl) (by kernel_rfl) (by kernel_rfl)⟩
instance (priority := high) ZwQ (x0 : ZB) (x1 : ZG) : BdC Tryz.prog 224 [(0, .agg (Zw (ZC x0))), (1, .agg (ZW (ZY x1)))] (.agg (Zs (Zu ⟨x0, x1⟩))) := ⟨fun w => by kernel_rfl⟩
instance (priority := high) ZGq (a b : Int) : BinC Tryz.prog .neq 52 (vI a) (vI b) (.bool (!decide (a = b))) := by
 have h : decide (I a = I b) = decide (a = b) := by rw [decide_eq_decide]; exact ZbW
 exact h ▸ (inferInstance : BinC Tryz.prog .neq 52 (vI a) (vI b) (.bool (!decide (I a = I b))))
instance (priority := high) ZDQ (a b : Rat) : BinC Tryz.prog .neq 54 (vQ a) (vQ b) (.bool (!decide (a = b))) := by
 have h : decide (Q a = Q b) = decide (a = b) := by rw [decide_eq_decide]; exact Zdb
 exact h ▸ (inferInstance : BinC Tryz.prog .neq 54 (vQ a) (vQ b) (.bool (!decide (Q a = Q b))))
end Go.Vt
/- Points, quadratics and straight ways over rational numbers. Conditions: the lengths that each statement names. -/
namespace Go.Vt
open Go.RowKit Go.Proofs
theorem MB.lt {q : Rat} {k B : Nat} [h : MB q k] (hk : Nat.ble k B = true) : M q ≤ B := Nat.le_trans h.out (Nat.le_of_ble_eq_true hk)
theorem mb2 {p q : Rat} {j k B C : Nat} [MB p j] [MB q k] (h1 : Nat.ble j B = true) (h2 : Nat.ble k C = true) : M p ≤ B ∧ M q ≤ C := ⟨MB.lt h1, MB.lt h2⟩
theorem mb4 {p q r s : Rat} {i j k l A B C D : Nat} [MB p i] [MB q j] [MB r k] [MB s l] (h1 : Nat.ble i A = true) (h2 : Nat.ble j B = true) (h3 : Nat.ble k C = true) (h4 : Nat.ble l D = true) : M p ≤ A ∧ M q ≤ B ∧ M r ≤ C ∧ M s ≤ D := ⟨MB.lt h1, MB.lt h2, MB.lt h3, MB.lt h4⟩
abbrev vR (r : ZH) : Value := .agg (Zz (ZD r))
abbrev vP (p : Zak) : Value := .agg (ZaI (ZaH p))
instance Zvx (q : Rat) : SpecC Tryz.prog 66 [vQ q] (vR ⟨q, 0, false⟩) True := ⟨fun _ w => by
 refine Zg Tryz.func66 rfl Tryz.ntmps66 rfl ?_
 repeat (refine wkA ?_; try intro _)
 exact ZV rfl rfl (fun w hw => Zh hw)⟩
instance ZrB (n : Int) : SpecC Tryz.prog 45 [.int .i64 n] (vR ⟨(n : Rat), 0, false⟩) (-9223372036854775808 ≤ n ∧ n ≤ 9223372036854775807) := ⟨fun hp w => by
 refine Zg Tryz.func45 rfl Tryz.ntmps45 rfl ?_
 repeat (refine wkA ?_; try intro _)
 exact ZV rfl rfl (fun w hw => Zh hw)⟩
instance ZuG (x : ZH) : SpecC Tryz.prog 423 [vR x] (.tuple #[vQ (if x.R = 0 then x.P else 0), .bool (decide (x.R = 0))]) True := ⟨fun _ w => by
 refine Zg Tryz.func423 rfl Tryz.ntmps423 rfl ?_
 repeat (refine wkA ?_; try intro _)
 refine Zl rfl (fun h => ?_) (fun h => ?_)
 ·have h1 : ¬ x.R = 0 := by simpa using h
  rw [if_neg h1, decide_eq_false h1]
  repeat (refine wkA ?_; try intro _)
  exact Zv rfl (Zac rfl) (Zk rfl) (fun w hw => Zh hw)
 ·have h1 : x.R = 0 := by simpa using h
  rw [if_pos h1, decide_eq_true h1]
  repeat (refine wkA ?_; try intro _)
  exact Zv rfl (Zac rfl) (Zk rfl) (fun w hw => Zh hw)⟩
instance ZGN (x y : Int) : SpecC Tryz.prog 146 [.int .i64 x, .int .i64 y] (vP ⟨(x : Rat), (y : Rat)⟩) ((-9223372036854775808 ≤ x ∧ x ≤ 9223372036854775807) ∧ (-9223372036854775808 ≤ y ∧ y ≤ 9223372036854775807)) := ⟨fun hp w => by
 refine Zg Tryz.func146 rfl Tryz.ntmps146 rfl ?_
 repeat (first | (refine wkA ?_; try intro _) | (refine sC rfl rfl ?_ ?_; focus (first | exact hp.1 | exact hp.2)))
 exact ZV rfl rfl (fun w hw => Zh hw)⟩
instance ZE9 (p q : Zak) : SpecC Tryz.prog 198 [vP p, vP q] (vP ⟨p.X - q.X, p.Y - q.Y⟩) (M p.X ≤ LQ ∧ M p.Y ≤ LQ ∧ M q.X ≤ LQ ∧ M q.Y ≤ LQ) := ⟨fun hp w => by
 obtain ⟨h1, h2, h3, h4⟩ := hp
 refine Zg Tryz.func198 rfl Tryz.ntmps198 rfl ?_
 repeat (refine wkA ?_; try intro _)
 (refine jD 11 11 (h := ?_); (repeat (refine wkH ?_)); refine Zr ?_; (repeat (refine Z6 ?_; intro _)); refine Zt ?_)
 repeat (refine wkA ?_; try intro _)
 exact ZV rfl rfl (fun w hw => Zh hw)⟩
instance ZFM (p q : Zak) : SpecC Tryz.prog 199 [vP p, vP q] (vQ (p.X * q.X + p.Y * q.Y)) (M p.X ≤ 68719476736 ∧ M p.Y ≤ 68719476736 ∧ M q.X ≤ 68719476736 ∧ M q.Y ≤ 68719476736) := ⟨fun hp w => by
 obtain ⟨h1, h2, h3, h4⟩ := hp
 have := MB.mk h1
 have := MB.mk h2
 have := MB.mk h3
 have := MB.mk h4
 refine Zg Tryz.func199 rfl Tryz.ntmps199 rfl ?_
 repeat (refine wkA ?_; try intro _)
 (refine jD 11 11 (h := ?_); (repeat (refine wkH ?_)); refine Zr ?_; (repeat (refine Z6 ?_; intro _)); refine Zt ?_)
 repeat (refine wkA ?_; try intro _)
 exact ZV rfl rfl (fun w hw => Zh hw)⟩
def d2 (p q : Zak) : Rat := (p.X - q.X) * (p.X - q.X) + (p.Y - q.Y) * (p.Y - q.Y)
instance ZtC (p q : Zak) : SpecC Tryz.prog 145 [vP p, vP q] (vQ (d2 p q)) (M p.X ≤ 8589934592 ∧ M p.Y ≤ 8589934592 ∧ M q.X ≤ 8589934592 ∧ M q.Y ≤ 8589934592) := ⟨fun hp w => by
 obtain ⟨h1, h2, h3, h4⟩ := hp
 have := MB.mk h1
 have := MB.mk h2
 have := MB.mk h3
 have := MB.mk h4
 unfold d2
 refine Zg Tryz.func145 rfl Tryz.ntmps145 rfl ?_
 repeat (refine wkA ?_; try intro _)
 exact ZV rfl rfl (fun w hw => Zh hw)⟩
instance ZHZ (p q : Zak) (i j k l : Nat) [h1 : MB p.X i] [h2 : MB p.Y j] [h3 : MB q.X k] [h4 : MB q.Y l] : MB (d2 p q) (2 * (i + j + k + l) + 5) := ⟨by
 unfold d2
 have := (inferInstance : MB ((p.X - q.X) * (p.X - q.X) + (p.Y - q.Y) * (p.Y - q.Y)) _).out
 omega⟩
instance Zxq (x y : Rat) : SpecC Tryz.prog 131 [vQ x, vQ y] (.agg (Z0 (Z2 ⟨x, y, 0⟩))) True := ⟨fun _ w => by
 refine Zg Tryz.func131 rfl Tryz.ntmps131 rfl ?_
 repeat (refine wkA ?_; try intro _)
 exact ZV rfl rfl (fun w hw => Zh hw)⟩
instance ZEw (q : Zag) (t : Rat) : SpecC Tryz.prog 75 [.agg (Z0 (Z2 q)), vQ t] (vQ (q.C0 + t * (q.C1 + t * q.C2))) (M q.C0 ≤ 34359738368 ∧ M q.C1 ≤ 34359738368 ∧ M q.C2 ≤ 34359738368 ∧ M t ≤ 34359738368) := ⟨fun hp w => by
 obtain ⟨h1, h2, h3, h4⟩ := hp
 have := MB.mk h1
 have := MB.mk h2
 have := MB.mk h3
 have := MB.mk h4
 refine Zg Tryz.func75 rfl Tryz.ntmps75 rfl ?_
 repeat (refine wkA ?_; try intro _)
 (refine jD 12 12 (h := ?_); (repeat (refine wkH ?_)); refine Zr ?_; (repeat (refine Z6 ?_; intro _)); refine Zt ?_)
 repeat (refine wkA ?_; try intro _)
 exact ZV rfl rfl (fun w hw => Zh hw)⟩
def lin (t v u w : Rat) : Zag := if u - t = 0 then ZdY else ⟨v - (w - v) / (u - t) * t, (w - v) / (u - t), 0⟩
instance ZvD (t v u x : Rat) : SpecC Tryz.prog 113 [vQ t, vQ v, vQ u, vQ x] (.tuple #[.agg (Z0 (Z2 (lin t v u x))), .int .i64 (if u - t = 0 then 6 else 0)]) (M t ≤ 34359738368 ∧ M v ≤ 34359738368 ∧ M u ≤ 34359738368 ∧ M x ≤ 34359738368) := ⟨fun hp w => by
 obtain ⟨h1, h2, h3, h4⟩ := hp
 have := MB.mk h1
 have := MB.mk h2
 have := MB.mk h3
 have := MB.mk h4
 refine Zg Tryz.func113 rfl Tryz.ntmps113 rfl ?_
 repeat (refine wkA ?_; try intro _)
 (refine Za3 [0, 1, 2, 3, 4, 5, 6, 7, 8, 9] [10, 11, 12] (_) (h := ?_); refine wkI ?_; (repeat (refine wkH ?_)); refine Zr ?_; (repeat (first | (refine eA rfl rfl ?_; intro _) | refine eT rfl ?_ | refine eS rfl rfl ?_)); refine Zbf ?_)
 repeat (refine wkA ?_; try intro _)
 by_cases hz : u - t = 0
 ·unfold lin
  simp only [if_pos hz]
  repeat (refine wkA ?_; try intro _)
  exact Zv rfl (Zac rfl) (Zk rfl) (fun w hw => Zh hw)
 ·unfold lin
  simp only [if_neg hz]
  repeat (refine wkA ?_; try intro _)
  (refine jD 7 7 (h := ?_); (repeat (refine wkH ?_)); refine Zr ?_; (repeat (refine Z6 ?_; intro _)); refine Zt ?_)
  repeat (refine wkA ?_; try intro _)
  exact Zv rfl (Zac rfl) (Zk rfl) (fun w hw => Zh hw)⟩
end Go.Vt
