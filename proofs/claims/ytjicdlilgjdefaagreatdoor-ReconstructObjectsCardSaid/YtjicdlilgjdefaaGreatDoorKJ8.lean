/- that objects are reconstructed from their reports (part 8 of 29.) Conditions: those that each statement names. -/
import Derived.Test.YtjicdlilgjdefaaGreatDoorKJ7
set_option linter.unusedSimpArgs false
set_option linter.unusedVariables false
set_option maxHeartbeats 2000000
set_option maxRecDepth 100000
namespace Go.Vt
open Go.RowKit Go.Proofs
open Go.Proofs.Tryz (prog)
section
instance ZGm (a b : Nat) : SpecC prog 222 [.string (mag a), .string (mag b)] (.tuple #[.string (mag (a / b)), .string (mag (a % b))]) (b ≠ 0 ∧ (mag a).size ≤ LIM ∧ (mag b).size ≤ LIM) := ⟨fun h w => Zrh a b h.1 h.2.1 h.2.2 w⟩
theorem ZnJ (a b : Int) (hb : b ≠ 0) (q r : Nat) (hq : q = a.natAbs / b.natAbs) (hr : r = a.natAbs % b.natAbs) :
  (a < 0 ∧ r ≠ 0 → sg (decide (a < 0) != decide (b < 0)) (q + 1) = a / b ∧ ((b.natAbs - r : Nat) : Int) = a % b) ∧ (¬ (a < 0 ∧ r ≠ 0) → sg (decide (a < 0) != decide (b < 0)) q = a / b ∧ (r : Int) = a % b) := by
 have hb' : 0 < b.natAbs := by omega
 have h1 := Nat.div_add_mod a.natAbs b.natAbs
 have h2 := Nat.mod_lt a.natAbs hb'
 rw [← hq, ← hr] at h1
 rw [← hr] at h2
 have key : ∀ (x : Int) (y : Int), a = b * x + y → 0 ≤ y → y < b.natAbs → x = a / b ∧ y = a % b := by
  intro x y e h3 h4
  rcases Int.lt_or_le b 0 with h0 | h0
  ·have := (Int.ediv_emod_unique' (a := a) (b := b) (r := y) (q := x) h0).2 ⟨by omega, h3, by omega⟩
   exact ⟨this.1.symm, this.2.symm⟩
  ·have := (Int.ediv_emod_unique (a := a) (b := b) (r := y) (q := x) (by omega)).2 ⟨by omega, h3, by omega⟩
   exact ⟨this.1.symm, this.2.symm⟩
 have hm : ((b.natAbs * q : Nat) : Int) = (b.natAbs : Int) * (q : Int) := by simp
 unfold sg
 refine ⟨fun ⟨ha, hr0⟩ => ?_, fun hn => ?_⟩
 ·refine key _ _ ?_ (by omega) (by omega)
  rcases Int.lt_or_le b 0 with hb0 | hb0
  ·simp only [ha, hb0, decide_true, bne_self_eq_false, Bool.false_eq_true, if_false]
   have : b = -(b.natAbs : Int) := by omega
   rw [this, Int.natAbs_neg, Int.natAbs_natCast, Int.natCast_add, Int.mul_add, Int.neg_mul, ← hm]
   omega
  ·have hb1 : ¬ b < 0 := by omega
   simp only [ha, hb1, decide_true, decide_false, Bool.bne_false, if_true]
   have : b = (b.natAbs : Int) := by omega
   rw [this, Int.natAbs_natCast, Int.natCast_add, Int.mul_neg, Int.mul_add, ← hm]
   omega
 ·refine key _ _ ?_ (by omega) (by omega)
  rcases Int.lt_or_le a 0 with ha | ha
  ·have hr0 : r = 0 := by
    rcases Nat.eq_zero_or_pos r with h | h
    ·exact h
    ·exact absurd ⟨ha, by omega⟩ hn
   rcases Int.lt_or_le b 0 with hb0 | hb0
   ·simp only [ha, hb0, decide_true, bne_self_eq_false, Bool.false_eq_true, if_false]
    have : b = -(b.natAbs : Int) := by omega
    rw [this, Int.neg_mul, ← hm]
    omega
   ·have hb1 : ¬ b < 0 := by omega
    simp only [ha, hb1, decide_true, decide_false, Bool.bne_false, if_true]
    have : b = (b.natAbs : Int) := by omega
    rw [this, Int.mul_neg, ← hm]
    omega
  ·have ha1 : ¬ a < 0 := by omega
   rcases Int.lt_or_le b 0 with hb0 | hb0
   ·simp only [ha1, hb0, decide_true, decide_false, Bool.bne_true, Bool.not_false, if_true]
    have : b = -(b.natAbs : Int) := by omega
    rw [this, Int.neg_mul, Int.mul_neg, Int.neg_neg, ← hm]
    omega
   ·have hb1 : ¬ b < 0 := by omega
    simp only [ha1, hb1, decide_false, bne_self_eq_false, Bool.false_eq_true, if_false]
    have : b = (b.natAbs : Int) := by omega
    rw [this, ← hm]
    omega
theorem ZrY : (⟨#[1]⟩ : ByteArray) = mag 1 := by decide
instance Zym (a b : Int) : SpecC prog 242 [vI a, vI b] (.tuple #[vI (a / b), vI (a % b), .int .i64 0]) (b ≠ 0 ∧ mg a ≤ LIM ∧ mg b ≤ LIM) := ⟨fun hp w => by
 obtain ⟨hb, ha, hbl⟩ := hp
 have hb' : b.natAbs ≠ 0 := by omega
 obtain ⟨k1, k2⟩ := ZnJ a b hb _ _ rfl rfl
 have hsq : (mag (a.natAbs / b.natAbs)).size ≤ LIM := Wi (Zcd (Nat.div_le_self _ _)) ha
 have hlt : a.natAbs % b.natAbs ≤ b.natAbs := Nat.le_of_lt (Nat.mod_lt _ (by omega))
 refine Zg Tryz.func242 rfl Tryz.ntmps242 rfl ?_
 repeat (refine wkA ?_; intros)
 refine Zn rfl (fun h => ?_) (fun h => ?_)
 ·have := ZaR.1 (Wa h)
  omega
 repeat (first | (refine wkA ?_; intros) | (refine sC rfl rfl ?_ ?_; focus (first | exact trivial | exact ⟨hb', ha, hbl⟩)))
 generalize hq : a.natAbs / b.natAbs = q at *
 generalize hr : a.natAbs % b.natAbs = r at *
 by_cases hA : a < 0
 ·simp only [Wc hA]
  repeat (refine wkA ?_; intros)
  refine Zn rfl (fun h => ?_) (fun h => ?_)
  ·have hn : ¬ mag r = ⟨#[]⟩ := by simpa using h
   obtain ⟨e1, e2⟩ := k1 ⟨hA, fun h0 => hn (ZaR.2 h0)⟩
   (refine Zbb [0, 1, 2, 3, 4, 5] [6, 7] (_) (h := ?_); refine wkI ?_)
   rw [ZrY]
   (repeat (first | refine wkH ?_ | (refine tC rfl rfl ?_ ?_; focus (first | exact trivial | exact ⟨hsq, by decide⟩ | exact ⟨hbl, hlt⟩))))
   refine Zo ?_
   refine Zbj rfl rfl rfl (Wj _) (Zbj rfl rfl rfl (Wj _) (Zbq ?_))
   repeat (refine wkA ?_; intros)
   exact ZaA rfl (Zae rfl) (Zae rfl) (Zl rfl) (fun w hw => by rw [e1, show sg false (b.natAbs - r) = a % b from e2]; exact Zi hw)
  ·have hn : mag r = ⟨#[]⟩ := by simpa using h
   obtain ⟨e1, e2⟩ := k2 (fun h => h.2 (ZaR.1 hn))
   repeat (refine wkA ?_; intros)
   exact ZaA rfl (Zae rfl) (Zae rfl) (Zl rfl) (fun w hw => by rw [e1, show sg false r = a % b from e2]; exact Zi hw)
 ·simp only [We hA]
  obtain ⟨e1, e2⟩ := k2 (fun h => hA h.1)
  repeat (refine wkA ?_; intros)
  exact ZaA rfl (Zae rfl) (Zae rfl) (Zl rfl) (fun w hw => by rw [e1, show sg false r = a % b from e2]; exact Zi hw)⟩
theorem Zqi (a b : Int) (ha : mg a ≤ LIM) (hb : mg b ≤ LIM) (w : World) : Calls prog 172 [vI a, vI b].toArray w (Ret (vI (Int.gcd a b)) w) := by
 refine Zg Tryz.func172 rfl Tryz.ntmps172 rfl ?_
 repeat (refine wkA ?_; intros)
 (refine Zbb [0, 1, 2, 3] [4, 5] (_) (h := ?_); refine wkI ?_)
 (repeat (refine wkH ?_))
 refine Zo ?_
 refine Zbj rfl rfl rfl (Wj _) (Zbj rfl rfl rfl (Wj _) (Zbq ?_))
 repeat (refine wkA ?_; intros)
 rename_i ba bb bc
 refine Zq (S := Nat × Nat) (fun s => Nat.gcd s.1 s.2 = Int.gcd a b ∧ (mag s.1).size ≤ LIM ∧ (mag s.2).size ≤ LIM) (fun s => [(4, .pointer (some ⟨bc, 0, none⟩)), (5, .string (mag s.1)), (6, .string (mag s.2))]) (fun _ => [⟨bc, ZR ZaW, 52⟩]) (fun s => s.2) (a.natAbs, b.natAbs) ⟨rfl, ha, hb⟩
  sbB sbl (fun s hs => ?_)
 obtain ⟨x, y⟩ := s
 obtain ⟨hg, hx, hy⟩ := hs
 simp only at hg hx hy ⊢
 repeat (refine wkA ?_; intros)
 refine Zn rfl (fun h => ?_) (fun h => ?_)
 ·have hn : ¬ mag y = ⟨#[]⟩ := by simpa using h
  have hy0 : y ≠ 0 := fun h0 => hn (ZaR.2 h0)
  repeat (refine wkA ?_; intros)
  refine Zn rfl (fun h => ?_) (fun h => ?_)
  ·have hxy : sm x = true ∧ sm y = true := by simpa using h
   repeat (refine wkA ?_; intros)
   refine Zq (S := Nat × Nat) (fun s => Nat.gcd s.1 s.2 = Int.gcd a b ∧ s.1 < 18446744073709551616 ∧ s.2 < 18446744073709551616) (fun s => [(4, .pointer (some ⟨bc, 0, none⟩)), (7, .int .u64 s.1), (8, .int .u64 s.2)]) (fun _ => [⟨bc, ZR ZaW, 52⟩]) (fun s => s.2) (lo x, lo y) ⟨by simp only [Zc6 hxy.1, Zc6 hxy.2]; exact hg, Zc7 _, Zc7 _⟩
    sbB sbl (fun s hs => ?_)
   obtain ⟨u, v⟩ := s
   obtain ⟨hg, hu, hv⟩ := hs
   simp only at hg hu hv ⊢
   repeat (refine wkA ?_; intros)
   refine Zn rfl (fun h => ?_) (fun h => ?_)
   ·have hv0 : v ≠ 0 := fun h0 => by subst h0; simp at h
    have hm := Nat.mod_lt u (Nat.pos_of_ne_zero hv0)
    have hum : ((u : Int) % (v : Int)) = ((u % v : Nat) : Int) := rfl
    repeat (refine wkA ?_; intros)
    (refine Zbb [0, 1, 2, 3] [4, 5] ([]) (h := ?_); refine wkI ?_)
    (repeat (refine wkH ?_))
    refine hq (Zga rfl rfl ?_) rfl rfl ?_
    ·omega
    rw [hum]
    refine Zo ?_
    refine Zbj rfl rfl rfl (Wk _) (Zbj rfl rfl rfl (Wk _) (Zbq ?_))
    repeat (refine wkA ?_; intros)
    exact Zj (v, u % v) ⟨by simp only; rw [← hg, Nat.gcd_comm u v, Nat.gcd_comm v, Nat.gcd_rec v u], by omega, by omega⟩ sbB sbl hm
   ·have hv0 : v = 0 := by
     have : (v : Int) = 0 := by simpa using h
     omega
    subst hv0
    rw [Nat.gcd_zero_right] at hg
    subst hg
    repeat (first | (refine wkA ?_; intros) | (refine sC rfl rfl ?_ ?_; focus (first | exact trivial | omega)))
    exact ZV rfl rfl (fun w hw => Zi hw)
  ·repeat (first | (refine wkA ?_; intros) | (refine sC rfl rfl ?_ ?_; focus (first | exact trivial | exact ⟨hy0, hx, hy⟩)))
   have hm := Nat.mod_lt x (Nat.pos_of_ne_zero hy0)
   exact Zj (y, x % y) ⟨by simp only; rw [← hg, Nat.gcd_comm x y, Nat.gcd_comm y, Nat.gcd_rec y x], hy, Wi (Zcd (Nat.mod_le _ _)) hx⟩ sbB sbl hm
 ·have hn : mag y = ⟨#[]⟩ := by simpa using h
  have hy0 := ZaR.1 hn
  subst hy0
  rw [Nat.gcd_zero_right] at hg
  subst hg
  repeat (refine wkA ?_; intros)
  exact ZV rfl rfl (fun w hw => Zi hw)
instance ZG3 (a b : Int) : SpecC prog 172 [vI a, vI b] (vI (Int.gcd a b)) (mg a ≤ LIM ∧ mg b ≤ LIM) := ⟨fun h w => Zqi a b h.1 h.2 w⟩
end
section
def dn (q : Rat) : Int := if q.den = 1 then 0 else q.den
def Q (q : Rat) : Zac := ⟨I q.num, I (dn q)⟩
abbrev vQ (q : Rat) : Value := .agg (Zx (Q q))
def M (q : Rat) : Nat := max (mg q.num) (mg q.den)
abbrev LQ : Nat := 274877906944
theorem Zb5 {a b : Int} : I a = I b ↔ a = b := by
 refine ⟨fun h => ?_, fun h => by rw [h]⟩
 have h1 := congrArg Zaq.Neg h
 have h2 := congrArg Zaq.Mag h
 simp only [I] at h1 h2
 have h3 := ZlT.1 h2
 by_cases ha : a < 0 <;> by_cases hb : b < 0 <;> simp [ha, hb] at h1 <;> omega
theorem Zjc {p q : Rat} : dn p = dn q ↔ p.den = q.den := by
 have h1 := p.den_pos
 have h2 := q.den_pos
 unfold dn
 split <;> split <;> omega
theorem Zdm {p q : Rat} : Q p = Q q ↔ p = q := by
 refine ⟨fun h => ?_, fun h => by rw [h]⟩
 have h1 := Zb5.1 (congrArg Zac.Num h)
 have h2 := Zjc.1 (Zb5.1 (congrArg Zac.Den h))
 exact Rat.ext h1 h2
theorem z_I : ZaW = I 0 := by decide
theorem z_Q : Zcc = Q 0 := by decide
instance (priority := high) zeroI : ZeroC prog 52 (vI 0) (ZR (I 0)) := ⟨by have h := @ZeroC.out prog 52 (.agg (ZR ZaW)) (ZR ZaW) inferInstance; rw [z_I] at h; exact h, rfl⟩
instance (priority := high) zeroQ : ZeroC prog 54 (vQ 0) (Zx (Q 0)) := ⟨by have h := @ZeroC.out prog 54 (.agg (Zx Zcc)) (Zx Zcc) inferInstance; rw [z_Q] at h; exact h, rfl⟩
instance (priority := high) bdI0 : BdC prog 52 [] (vI 0) := ⟨by have h := @BdC.out prog 52 [] (.agg (ZR ZaW)) inferInstance; rw [z_I] at h; exact h⟩
instance (priority := high) bdQ0 : BdC prog 54 [] (vQ 0) := ⟨by have h := @BdC.out prog 54 [] (.agg (Zx Zcc)) inferInstance; rw [z_Q] at h; exact h⟩
instance (priority := high) ZFW (q : Rat) : LdC prog 52 (Zx (Q q)) 0 (vI q.num) := ⟨ZQ 2⟩
instance (priority := high) ZEN (q : Rat) : LdC prog 52 (Zx (Q q)) 2 (vI (dn q)) := ⟨ZQ 2⟩
instance (priority := high) eqI (a b : Int) : BinC prog .eql 52 (vI a) (vI b) (.bool (decide (a = b))) := by
 have h : decide (I a = I b) = decide (a = b) := by rw [decide_eq_decide]; exact Zb5
 exact h ▸ (inferInstance : BinC prog .eql 52 (vI a) (vI b) (.bool (decide (I a = I b))))
instance (priority := high) eqQ (a b : Rat) : BinC prog .eql 54 (vQ a) (vQ b) (.bool (decide (a = b))) := by
 have h : decide (Q a = Q b) = decide (a = b) := by rw [decide_eq_decide]; exact Zdm
 exact h ▸ (inferInstance : BinC prog .eql 54 (vQ a) (vQ b) (.bool (decide (Q a = Q b))))
theorem Zbf (q : Rat) : mg q.num ≤ M q := Nat.le_max_left _ _
theorem Za7 (q : Rat) : mg q.den ≤ M q := Nat.le_max_right _ _
theorem Zj7 (n : Nat) : mg (n : Int) = (mag n).size := by unfold mg; rw [Int.natAbs_natCast]
theorem ZkQ (a : Int) (g : Nat) (h : (g : Int) ∣ a) : (a / (g : Int)).natAbs ≤ a.natAbs := by
 obtain ⟨k, rfl⟩ := h
 rcases Nat.eq_zero_or_pos g with h | h
 ·subst h; simp
 ·rw [Int.mul_ediv_cancel_left _ (by omega), Int.natAbs_mul, Int.natAbs_natCast]
  exact Nat.le_mul_of_pos_left _ h
theorem ZdG {a b : Int} {k : Nat} (ha : mg a ≤ k) (hb : mg b ≤ k) (h1 : 1 ≤ k) : M (Rat.divInt a b) ≤ k := by
 refine Nat.max_le.2 ⟨?_, ?_⟩
 ·refine Wi (Zl4 ?_) ha
  rw [Rat.num_divInt]
  refine Wi (ZkQ _ _ ?_) ?_
  ·exact Int.dvd_trans (Int.gcd_dvd_right ..) (Int.dvd_mul_left _ _)
  ·rw [Int.natAbs_mul]
   have : b.sign.natAbs ≤ 1 := by rw [Int.natAbs_sign]; split <;> omega
   calc b.sign.natAbs * a.natAbs ≤ 1 * a.natAbs := Nat.mul_le_mul_right _ this
    _ = a.natAbs := Nat.one_mul _
 ·rw [Rat.den_divInt, Zj7]
  split
  ·exact Wi (by decide) h1
  ·exact Wi (Zcd (Nat.div_le_self _ _)) hb
theorem Zfw (q : Rat) : (q.den : Int) ≠ 0 := by have := q.den_pos; omega
theorem Zmo (a b : Rat) : a + b = Rat.divInt (a.num * b.den + b.num * a.den) (a.den * b.den) := by
 rw [Rat.add_def', ← Rat.divInt_ofNat, Int.natCast_mul]
theorem ZgR (a b : Rat) : a * b = Rat.divInt (a.num * b.num) (a.den * b.den) := by
 rw [Rat.mul_def', ← Rat.divInt_ofNat, Int.natCast_mul]
theorem Zg4 (a b : Rat) : a / b = Rat.divInt (a.num * b.den) (a.den * b.num) := by
 conv => lhs; rw [Rat.div_def, ← Rat.num_divInt_den a, ← Rat.num_divInt_den b, Rat.inv_divInt, Rat.divInt_mul_divInt]
theorem ZnV {q : Rat} : 1 ≤ M q := by
 refine Wi ?_ (Za7 q)
 rw [Zj7]
 rcases Nat.eq_zero_or_pos (mag q.den).size with h | h
 ·have h1 := (ZaQ (n := q.den) (k := 0)).1 (by omega)
  have := q.den_pos
  simp at h1
  omega
 ·exact h
theorem ZiP (a b : Rat) : M (a + b) ≤ M a + M b + 1 := by
 rw [Zmo]
 have h1 := Zbf a
 have h2 := Za7 a
 have h3 := Zbf b
 have h4 := Za7 b
 refine ZdG (ZoY (k := M a + M b) ?_ ?_) ?_ (by omega)
 ·exact Wi (Zbx _ _) (by omega)
 ·exact Wi (Zbx _ _) (by omega)
 ·exact Wi (Zbx _ _) (by omega)
theorem ZmU (a b : Rat) : M (a * b) ≤ M a + M b := by
 rw [ZgR]
 have h1 := Zbf a
 have h2 := Za7 a
 have h3 := Zbf b
 have h4 := Za7 b
 have h5 := @ZnV a
 exact ZdG (Wi (Zbx _ _) (by omega)) (Wi (Zbx _ _) (by omega)) (by omega)
theorem Zx8 (a b : Rat) : M (a / b) ≤ M a + M b := by
 rw [Zg4]
 have h1 := Zbf a
 have h2 := Za7 a
 have h3 := Zbf b
 have h4 := Za7 b
 have h5 := @ZnV a
 exact ZdG (Wi (Zbx _ _) (by omega)) (Wi (Zbx _ _) (by omega)) (by omega)
theorem ZrL (a : Rat) : M (-a) = M a := by unfold M; rw [Rat.neg_num, Rat.neg_den, ZjP]
theorem ZxK (a b : Rat) : M (a - b) ≤ M a + M b + 1 := by rw [Rat.sub_eq_add_neg, ← ZrL b]; exact ZiP _ _
class MB (q : Rat) (k : outParam Nat) : Prop where out : M q ≤ k
instance ZHk (a b : Rat) (j k : Nat) [h1 : MB a j] [h2 : MB b k] : MB (a + b) (j + k + 1) := ⟨by have := ZiP a b; have := h1.out; have := h2.out; omega⟩
instance ZGC (a b : Rat) (j k : Nat) [h1 : MB a j] [h2 : MB b k] : MB (a - b) (j + k + 1) := ⟨by have := ZxK a b; have := h1.out; have := h2.out; omega⟩
instance ZGB (a b : Rat) (j k : Nat) [h1 : MB a j] [h2 : MB b k] : MB (a * b) (j + k) := ⟨by have := ZmU a b; have := h1.out; have := h2.out; omega⟩
instance ZGw (a b : Rat) (j k : Nat) [h1 : MB a j] [h2 : MB b k] : MB (a / b) (j + k) := ⟨by have := Zx8 a b; have := h1.out; have := h2.out; omega⟩
instance ZfY : MB 0 1 := ⟨by decide⟩
theorem ZmO (n : Int) : M (n : Rat) = max (mg n) 1 := by unfold M; rw [Rat.num_intCast, Rat.den_intCast]; rfl
theorem ZGe {n : Int} (h : -9223372036854775808 ≤ n ∧ n ≤ 9223372036854775807) : M (n : Rat) ≤ 8 := by
 rw [ZmO]
 refine Nat.max_le.2 ⟨ZcS ?_, by decide⟩
 have : (256 : Nat) ^ 8 = 18446744073709551616 := by decide
 omega
instance ZG8 : SpecC prog 171 [] (vI 1) True := ⟨fun _ w => by
 refine Zg Tryz.func171 rfl Tryz.ntmps171 rfl ?_
 repeat (first | (refine wkA ?_; intros) | (refine sC rfl rfl ?_ ?_; focus (first | exact trivial | omega)))
 exact ZV rfl rfl (fun w hw => Zi hw)⟩
theorem Zhf {q : Rat} : dn q = 0 ↔ q.den = 1 := by
 have := q.den_pos
 unfold dn
 split <;> omega
instance ZGt (q : Rat) : SpecC prog 144 [vQ q] (vI q.den) True := ⟨fun _ w => by
 refine Zg Tryz.func144 rfl Tryz.ntmps144 rfl ?_
 repeat (refine wkA ?_; intros)
 refine Zn rfl (fun h => ?_) (fun h => ?_)
 ·have h1 := Zhf.1 (Wa h)
  rw [h1]
  repeat (refine wkA ?_; intros)
  exact ZV rfl rfl (fun w hw => Zi hw)
 ·have h1 : ¬ q.den = 1 := fun h0 => Wb h (Zhf.2 h0)
  have h2 : dn q = q.den := by unfold dn; rw [if_neg h1]
  repeat (refine wkA ?_; intros)
  exact ZV rfl rfl (fun w hw => by rw [← h2]; exact Zi hw)⟩
instance Zva (a b : Int) : SpecC prog 194 [vI a, vI b] (vI (a / b)) (b ≠ 0 ∧ mg a ≤ LIM ∧ mg b ≤ LIM) := ⟨fun hp w => by
 refine Zg Tryz.func194 rfl Tryz.ntmps194 rfl ?_
 repeat (refine wkA ?_; intros)
 exact ZV rfl rfl (fun w hw => Zi hw)⟩
theorem ZoV {x y : Int} (hy : 0 < y) : (Rat.divInt x y).num = x / (Int.gcd x y : Int) ∧ ((Rat.divInt x y).den : Int) = y / (Int.gcd x y : Int) := by
 refine ⟨?_, ?_⟩
 ·rw [Rat.num_divInt, Int.sign_eq_one_of_pos hy, Int.one_mul, Int.gcd_comm]
 ·rw [Rat.den_divInt, if_neg (by omega), Int.gcd_comm, Int.natCast_ediv]
  congr 1
  omega
instance Ztv (x y : Int) : SpecC prog 141 [vI x, vI y] (vQ (Rat.divInt x y)) (y ≠ 0 ∧ mg x ≤ LIM ∧ mg y ≤ LIM) := ⟨fun hp w => by
 obtain ⟨hy, hx, hl⟩ := hp
 refine Zg Tryz.func141 rfl Tryz.ntmps141 rfl ?_
 repeat (refine wkA ?_; intros)
 rename_i ba bb bc
 refine ZaO (S := Int × Int) (fun s => 0 < s.2 ∧ Rat.divInt s.1 s.2 = Rat.divInt x y ∧ mg s.1 ≤ LIM ∧ mg s.2 ≤ LIM) (fun _ => [(2, .pointer (some ⟨ba, 0, none⟩)), (3, .pointer (some ⟨bb, 0, none⟩)), (4, .pointer (some ⟨bc, 0, none⟩))]) (fun s => [⟨bc, Zx (Q 0), 54⟩, ⟨bb, ZR (I s.2), 52⟩, ⟨ba, ZR (I s.1), 52⟩]) ?_ (fun s hs => ?_)
 ·refine Zn rfl (fun h => ?_) (fun h => ?_)
  ·have hneg : y < 0 := Int.sign_neg_iff.1 (Wa h)
   repeat (refine wkA ?_; intros)
   (refine jD 4 4 (h := ?_); (repeat (refine wkH ?_)); refine Zo ?_; (repeat (refine Z8 ?_; intro _)); refine Zr ?_)
   repeat (refine wkA ?_; intros)
   exact ZL (-x, -y) ⟨by simp only; omega, Rat.neg_divInt_neg _ _, by simp only [ZjP]; exact hx, by simp only [ZjP]; exact hl⟩ sbB sbl
  ·have hpos : 0 < y := by
    have h1 : ¬ y.sign < 0 := Wb h
    have h2 : ¬ y < 0 := fun h3 => h1 (Int.sign_neg_iff.2 h3)
    omega
   repeat (refine wkA ?_; intros)
   exact ZL (x, y) ⟨hpos, rfl, hx, hl⟩ sbB sbl
 obtain ⟨p, q⟩ := s
 obtain ⟨hq0, heq, hp, hq⟩ := hs
 simp only at hq0 heq hp hq ⊢
 obtain ⟨e1, e2⟩ := ZoV (x := p) hq0
 have hg0 : ((Int.gcd p q : Nat) : Int) ≠ 0 := by
  have := Int.gcd_pos_of_ne_zero_right p (Int.ne_of_gt hq0)
  omega
 have hg1 : mg (Int.gcd p q : Nat) ≤ LIM := by
  refine Wi (Zl4 ?_) hq
  rw [Int.natAbs_natCast]
  exact Nat.le_of_dvd (by omega) (Int.gcd_dvd_natAbs_right p q)
 rw [← heq]
 generalize hgd : ((Int.gcd p q : Nat) : Int) = g at *
 repeat (first | (refine wkA ?_; intros) | (refine sC rfl rfl ?_ ?_; focus (first | exact trivial | assumption | exact ⟨hp, hq⟩)))
 rw [hgd]
 (refine jD 6 6 (h := ?_); (repeat (first | refine wkH ?_ | (refine tC rfl rfl ?_ ?_; focus (first | exact trivial | exact ⟨hg0, hp, hg1⟩ | exact ⟨hg0, hq, hg1⟩)))); refine Zo ?_; (repeat (refine Z8 ?_; intro _)); refine Zr ?_)
 rw [← e1, ← e2]
 repeat (refine wkA ?_; intros)
 (refine jD 3 3 (h := ?_); (repeat (refine wkH ?_)); refine Zo ?_; (repeat (refine Z8 ?_; intro _)); refine Zr ?_)
 repeat (refine wkA ?_; intros)
 have key : ∀ d : Int, (if (Rat.divInt p q).den = 1 then 0 else ((Rat.divInt p q).den : Int)) = d → (⟨I (Rat.divInt p q).num, I d⟩ : Zac) = Q (Rat.divInt p q) := fun d hd => by rw [← hd]; rfl
 refine Zn rfl (fun h => ?_) (fun h => ?_)
 ·have h1 : (Rat.divInt p q).den = 1 := by have := Wa h; omega
  repeat (refine wkA ?_; intros)
  exact ZV rfl rfl (fun w hw => by rw [key 0 (by rw [if_pos h1])]; exact Zi hw)
 ·have h1 : ¬ (Rat.divInt p q).den = 1 := fun h0 => Wb h (by omega)
  repeat (refine wkA ?_; intros)
  exact ZV rfl rfl (fun w hw => by rw [key _ (by rw [if_neg h1])]; exact Zi hw)⟩
instance ZDQ (x y : Int) : SpecC prog 219 [vI x, vI y] (.tuple #[vQ (Rat.divInt x y), .int .i64 (if y = 0 then 6 else 0)]) (mg x ≤ LIM ∧ mg y ≤ LIM) := ⟨fun hp w => by
 refine Zg Tryz.func219 rfl Tryz.ntmps219 rfl ?_
 repeat (refine wkA ?_; intros)
 refine Zn rfl (fun h => ?_) (fun h => ?_)
 ·have h1 : y = 0 := Int.sign_eq_zero_iff_zero.1 (Wa h)
  subst h1
  rw [Rat.divInt_zero, if_pos rfl]
  repeat (refine wkA ?_; intros)
  exact Zz rfl (Zae rfl) (Zl rfl) (fun w hw => Zi hw)
 ·have h1 : ¬ y = 0 := fun h0 => Wb h (by rw [h0]; rfl)
  rw [if_neg h1]
  repeat (first | (refine wkA ?_; intros) | (refine sC rfl rfl ?_ ?_; focus (first | exact trivial | exact ⟨h1, hp.1, hp.2⟩)))
  exact Zz rfl (Zae rfl) (Zl rfl) (fun w hw => Zi hw)⟩
theorem ZlE {n : Int} (h : -9223372036854775808 ≤ n ∧ n ≤ 9223372036854775807) : mg n ≤ LIM := by
 refine Wi (ZcS (k := 8) ?_) (by decide)
 have : (256 : Nat) ^ 8 = 18446744073709551616 := by decide
 omega
instance Ztx (x y : Int) : SpecC prog 165 [.int .i64 x, .int .i64 y] (.tuple #[vQ (Rat.divInt x y), .int .i64 (if y = 0 then 6 else 0)]) ((-9223372036854775808 ≤ x ∧ x ≤ 9223372036854775807) ∧ (-9223372036854775808 ≤ y ∧ y ≤ 9223372036854775807)) := ⟨fun hp w => by
 refine Zg Tryz.func165 rfl Tryz.ntmps165 rfl ?_
 repeat (first | (refine wkA ?_; intros) | (refine sC rfl rfl ?_ ?_; focus (first | exact trivial | exact hp.1 | exact hp.2 | exact ⟨ZlE hp.1, ZlE hp.2⟩)))
 exact Zz rfl (Zae rfl) (Zl rfl) (fun w hw => Zi hw)⟩
theorem Zrp (n : Int) : (⟨I n, I 0⟩ : Zac) = Q (n : Rat) := rfl
instance ZvD (n : Int) : SpecC prog 35 [.int .i64 n] (vQ (n : Rat)) (-9223372036854775808 ≤ n ∧ n ≤ 9223372036854775807) := ⟨fun hp w => by
 refine Zg Tryz.func35 rfl Tryz.ntmps35 rfl ?_
 repeat (refine wkA ?_; intros)
 exact ZV rfl rfl (fun w hw => by rw [z_I, Zrp]; exact Zi hw)⟩
def crs (a b : Rat) : Int × Int × Int := if a.den = b.den then (a.num, b.num, a.den) else (a.num * b.den, b.num * a.den, a.den * b.den)
theorem Zsa (a b : Rat) : mg (crs a b).1 ≤ M a + M b ∧ mg (crs a b).2.1 ≤ M a + M b ∧ mg (crs a b).2.2 ≤ M a + M b := by
 have h1 := Zbf a
 have h2 := Za7 a
 have h3 := Zbf b
 have h4 := Za7 b
 have h5 := Zbx a.num b.den
 have h6 := Zbx b.num a.den
 have h7 := Zbx a.den b.den
 unfold crs
 split <;> exact ⟨by simp only; omega, by simp only; omega, by simp only; omega⟩
theorem Zlq (a b : Rat) : 0 < (crs a b).2.2 := by
 have h1 := a.den_pos
 have h2 := b.den_pos
 unfold crs
 split
 ·show (0 : Int) < a.den
  omega
 ·exact Int.mul_pos (by omega) (by omega)
theorem Ztd (a b : Rat) : a = Rat.divInt (crs a b).1 (crs a b).2.2 ∧ b = Rat.divInt (crs a b).2.1 (crs a b).2.2 := by
 have ha := Zfw a
 have hb := Zfw b
 unfold crs
 split
 ·rename_i h
  exact ⟨(Rat.num_divInt_den a).symm, by rw [h]; exact (Rat.num_divInt_den b).symm⟩
 ·refine ⟨?_, ?_⟩
  ·conv => lhs; rw [← Rat.num_divInt_den a]
   exact (Rat.divInt_mul_right hb).symm
  ·conv => lhs; rw [← Rat.num_divInt_den b]
   rw [Int.mul_comm (a.den : Int)]
   exact (Rat.divInt_mul_right ha).symm
theorem ZsE (a b : Rat) : Rat.divInt ((crs a b).1 + (crs a b).2.1) (crs a b).2.2 = a + b := by
 have h := Zlq a b
 obtain ⟨h1, h2⟩ := Ztd a b
 have h3 : (crs a b).2.2 ≠ 0 := by omega
 have e : a + b = Rat.divInt (crs a b).1 (crs a b).2.2 + Rat.divInt (crs a b).2.1 (crs a b).2.2 := by rw [← h1, ← h2]
 rw [e, Rat.divInt_add_divInt _ _ h3 h3, ← Int.add_mul]
 exact (Rat.divInt_mul_right h3).symm
def cq (a b : Rat) : Int := if a < b then -1 else if b < a then 1 else 0
theorem ZsT (a b : Rat) : Lib.compareInt (crs a b).1 (crs a b).2.1 = cq a b := by
 have key : ∀ x y : Rat, x < y ↔ x.num * y.den < y.num * x.den := Rat.lt_iff
 have h : ((crs a b).1 < (crs a b).2.1 ↔ a < b) ∧ ((crs a b).2.1 < (crs a b).1 ↔ b < a) := by
  unfold crs
  rw [key a b, key b a]
  have h1 := a.den_pos
  split
  ·rename_i hd
   rw [hd]
   have h2 : (0 : Int) < b.den := by have := b.den_pos; omega
   exact ⟨(Int.mul_lt_mul_right h2).symm, (Int.mul_lt_mul_right h2).symm⟩
  ·exact ⟨Iff.rfl, Iff.rfl⟩
 unfold Lib.compareInt cq
 simp only [h.1, h.2, GT.gt]
instance ZA5 (a b : Rat) : SpecC prog 109 [vQ a, vQ b] (.tuple #[vI (crs a b).1, vI (crs a b).2.1, vI (crs a b).2.2]) (M a ≤ LQ ∧ M b ≤ LQ) := ⟨fun hp w => by
 have hL : LQ ≤ LIM := by decide
 have h1 := Wi (Wi (Zbf a) hp.1) hL
 have h2 := Wi (Wi (Za7 a) hp.1) hL
 have h3 := Wi (Wi (Zbf b) hp.2) hL
 have h4 := Wi (Wi (Za7 b) hp.2) hL
 refine Zg Tryz.func109 rfl Tryz.ntmps109 rfl ?_
 repeat (refine wkA ?_; intros)
 refine Zn rfl (fun h => ?_) (fun h => ?_)
 ·have hd : a.den = b.den := Zjc.1 (Wa h)
  rw [show crs a b = (a.num, b.num, (a.den : Int)) by unfold crs; rw [if_pos hd]]
  repeat (refine wkA ?_; intros)
  rename_i ba bb bc bd be
  (refine Zbb [0, 1, 2, 3, 4, 5] [6, 7, 8] ([⟨bb, Zx (Q b), 54⟩, ⟨ba, Zx (Q a), 54⟩]) (h := ?_); refine wkI ?_)
  (repeat (refine wkH ?_))
  refine Zo ?_
  refine ZeL rfl rfl rfl sbl (ZeL rfl rfl rfl sbl (ZeL rfl rfl rfl sbl (Zbq ?_)))
  repeat (refine wkA ?_; intros)
  exact ZaA rfl (Zae rfl) (Zae rfl) (Zae rfl) (fun w hw => Zi hw)
 ·have hd : ¬ a.den = b.den := fun h0 => Wb h (Zjc.2 h0)
  rw [show crs a b = (a.num * b.den, b.num * a.den, (a.den : Int) * b.den) by unfold crs; rw [if_neg hd]]
  repeat (refine wkA ?_; intros)
  (refine jD 15 15 (h := ?_); (repeat (refine wkH ?_)); refine Zo ?_; (repeat (refine Z8 ?_; intro _)); refine Zr ?_)
  repeat (refine wkA ?_; intros)
  exact ZaA rfl (Zae rfl) (Zae rfl) (Zae rfl) (fun w hw => Zi hw)⟩
theorem LQ2 {j k : Nat} (h : j ≤ LQ ∧ k ≤ LQ) : j + k + 1 ≤ LIM := by
 have h1 : LQ + LQ + 1 ≤ LIM := by decide
 exact Wi (Nat.add_le_add_right (Nat.add_le_add h.1 h.2) 1) h1
instance ZFz (a b : Rat) : SpecC prog 88 [vQ a, vQ b] (vQ (a + b)) (M a ≤ LQ ∧ M b ≤ LQ) := ⟨fun hp w => by
 obtain ⟨h1, h2, h3⟩ := Zsa a b
 have hL := LQ2 hp
 have g1 : mg (crs a b).1 ≤ LIM := Wi (Nat.le_succ_of_le h1) hL
 have g2 : mg (crs a b).2.1 ≤ LIM := Wi (Nat.le_succ_of_le h2) hL
 have g3 : mg (crs a b).2.2 ≤ LIM := Wi (Nat.le_succ_of_le h3) hL
 have g4 : mg ((crs a b).1 + (crs a b).2.1) ≤ LIM := Wi (ZoY h1 h2) hL
 have g5 : (crs a b).2.2 ≠ 0 := Int.ne_of_gt (Zlq a b)
 refine Zg Tryz.func88 rfl Tryz.ntmps88 rfl ?_
 repeat (refine wkA ?_; intros)
 (refine jD 5 5 (h := ?_); (repeat (first | refine wkH ?_ | (refine tC rfl rfl ?_ ?_; focus (first | exact ⟨by assumption, by assumption⟩ | exact ⟨g5, g4, g3⟩)))); refine Zo ?_; (repeat (refine Z8 ?_; intro _)); refine Zr ?_)
 rw [ZsE]
 repeat (refine wkA ?_; intros)
 exact ZV rfl rfl (fun w hw => Zi hw)⟩
instance ZED (a b : Rat) : SpecC prog 89 [vQ a, vQ b] (vQ (a * b)) (M a ≤ LQ ∧ M b ≤ LQ) := ⟨fun hp w => by
 have hL : LQ ≤ LIM := by decide
 have hM := LQ2 hp
 have h1 := Wi (Wi (Zbf a) hp.1) hL
 have h2 := Wi (Wi (Za7 a) hp.1) hL
 have h3 := Wi (Wi (Zbf b) hp.2) hL
 have h4 := Wi (Wi (Za7 b) hp.2) hL
 have g1 : mg (a.num * b.num) ≤ LIM := Wi (Zbx _ _) (Wi (Nat.le_succ_of_le (Nat.add_le_add (Zbf a) (Zbf b))) hM)
 have g2 : mg ((a.den : Int) * b.den) ≤ LIM := Wi (Zbx _ _) (Wi (Nat.le_succ_of_le (Nat.add_le_add (Za7 a) (Za7 b))) hM)
 have g3 : (a.den : Int) * b.den ≠ 0 := Int.mul_ne_zero (Zfw a) (Zfw b)
 refine Zg Tryz.func89 rfl Tryz.ntmps89 rfl ?_
 repeat (refine wkA ?_; intros)
 (refine jD 11 11 (h := ?_); (repeat (first | refine wkH ?_ | (refine tC rfl rfl ?_ ?_; focus (first | exact trivial | exact ⟨by assumption, by assumption⟩ | exact ⟨g3, g1, g2⟩)))); refine Zo ?_; (repeat (refine Z8 ?_; intro _)); refine Zr ?_)
 rw [← ZgR]
 repeat (refine wkA ?_; intros)
 exact ZV rfl rfl (fun w hw => Zi hw)⟩
instance ZFp (a b : Rat) : SpecC prog 173 [vQ a, vQ b] (.tuple #[vQ (a / b), .int .i64 (if b = 0 then 6 else 0)]) (M a ≤ LQ ∧ M b ≤ LQ) := ⟨fun hp w => by
 have hL : LQ ≤ LIM := by decide
 have hM := LQ2 hp
 have h1 := Wi (Wi (Zbf a) hp.1) hL
 have h2 := Wi (Wi (Za7 a) hp.1) hL
 have h3 := Wi (Wi (Zbf b) hp.2) hL
 have h4 := Wi (Wi (Za7 b) hp.2) hL
 have g1 : mg (a.num * b.den) ≤ LIM := Wi (Zbx _ _) (Wi (Nat.le_succ_of_le (Nat.add_le_add (Zbf a) (Za7 b))) hM)
 have g2 : mg ((a.den : Int) * b.num) ≤ LIM := Wi (Zbx _ _) (Wi (Nat.le_succ_of_le (Nat.add_le_add (Za7 a) (Zbf b))) hM)
 have hz : ((a.den : Int) * b.num = 0) ↔ b = 0 := by
  rw [Int.mul_eq_zero, Rat.num_eq_zero]
  exact ⟨fun h => h.resolve_left (Zfw a), .inr⟩
 refine Zg Tryz.func173 rfl Tryz.ntmps173 rfl ?_
 repeat (refine wkA ?_; intros)
 (refine jD 13 13 (h := ?_); (repeat (refine wkH ?_)); refine Zo ?_; (repeat (refine Z8 ?_; intro _)); refine Zr ?_)
 rw [← Zg4]
 simp only [hz]
 repeat (refine wkA ?_; intros)
 exact Zz rfl (Zae rfl) (Zl rfl) (fun w hw => Zi hw)⟩
theorem ZwX (q : Rat) : (⟨I (-q.num), I (dn q)⟩ : Zac) = Q (-q) := rfl
instance ZFe (a : Rat) : SpecC prog 111 [vQ a] (vQ (-a)) True := ⟨fun _ w => by
 refine Zg Tryz.func111 rfl Tryz.ntmps111 rfl ?_
 repeat (refine wkA ?_; intros)
 (refine jD 6 6 (h := ?_); (repeat (refine wkH ?_)); refine Zo ?_; (repeat (refine Z8 ?_; intro _)); refine Zr ?_)
 rw [ZwX]
 repeat (refine wkA ?_; intros)
 exact ZV rfl rfl (fun w hw => Zi hw)⟩
instance ZFs (a b : Rat) : SpecC prog 61 [vQ a, vQ b] (vQ (a - b)) (M a ≤ LQ ∧ M b ≤ LQ) := ⟨fun hp w => by
 have h1 := hp.1
 have h2 : M (-b) ≤ LQ := by rw [ZrL]; exact hp.2
 refine Zg Tryz.func61 rfl Tryz.ntmps61 rfl ?_
 repeat (refine wkA ?_; intros)
 (refine jD 4 4 (h := ?_); (repeat (refine wkH ?_)); refine Zo ?_; (repeat (refine Z8 ?_; intro _)); refine Zr ?_)
 rw [← Rat.sub_eq_add_neg]
 repeat (refine wkA ?_; intros)
 exact ZV rfl rfl (fun w hw => Zi hw)⟩
instance Zvi (a b : Rat) : SpecC prog 60 [vQ a, vQ b] (.int .i64 (cq a b)) (M a ≤ LQ ∧ M b ≤ LQ) := ⟨fun hp w => by
 refine Zg Tryz.func60 rfl Tryz.ntmps60 rfl ?_
 repeat (refine wkA ?_; intros)
 refine Zn rfl (fun h => ?_) (fun h => ?_)
 ·have h1 : a = b := Wa h
  rw [show cq a b = 0 by unfold cq; rw [h1, if_neg Rat.lt_irrefl, if_neg Rat.lt_irrefl]]
  repeat (refine wkA ?_; intros)
  exact Zf rfl rfl (fun w hw => Zi hw)
 ·repeat (refine wkA ?_; intros)
  rw [ZsT]
  repeat (refine wkA ?_; intros)
  exact Zf rfl rfl (fun w hw => Zi hw)⟩
instance ZA8 (a : Rat) : SpecC prog 136 [vQ a] (.int .i64 a.num.sign) True := ⟨fun _ w => by
 refine Zg Tryz.func136 rfl Tryz.ntmps136 rfl ?_
 repeat (refine wkA ?_; intros)
 exact Zf rfl rfl (fun w hw => Zi hw)⟩
theorem Zm0 {a b : Rat} : cq a b ≤ 0 ↔ a ≤ b := by unfold cq; grind
theorem ZiQ {a b : Rat} : 0 < cq a b ↔ b < a := by unfold cq; grind
theorem ZiS {a b : Rat} : cq a b < 0 ↔ a < b := by unfold cq; grind
theorem ZfS {a b : Rat} : cq a b = 0 ↔ a = b := by unfold cq; grind
end
section
structure Zc where
 T : Rat
 Report : Zb
 deriving DecidableEq
def Zu (x : Zc) : ZaU := ⟨Q x.T, x.Report⟩
def ZcG : Zc := ⟨0, Zas⟩
theorem Zfs {x y : Zc} : Zu x = Zu y ↔ x = y := by
 cases x; cases y; simp only [Zu, ZaU.mk.injEq, Zc.mk.injEq, Zdm, Zb5]
instance (priority := high) ZHt : ZeroC prog 56 (.agg (Zv (Zu ZcG))) (Zv (Zu ZcG)) := ⟨by kernel_rfl, rfl⟩
instance (priority := high) ZvZ (x : Zc) : LdC prog 56 (Zv (Zu x)) 0 (.agg (Zv (Zu x))) := ⟨ZQ 12⟩
instance (priority := high) Zw2 (x : Zc) : LdC prog 54 (Zv (Zu x)) 0 (vQ x.T) := ⟨ZQ 4⟩
instance (priority := high) ZyQ (x : Zc) : LdC prog 3 (Zv (Zu x)) 5 (.int .i64 x.Report.Seq) := ⟨Zy⟩
instance (priority := high) Zzg (x : Zc) : LdC prog 3 (Zv (Zu x)) 9 (.int .i64 x.Report.X) := ⟨Zy⟩
instance (priority := high) Zw9 (x : Zc) : LdC prog 3 (Zv (Zu x)) 10 (.int .i64 x.Report.Y) := ⟨Zy⟩
instance (priority := high) ZAk (x0 : Rat) (x1 : Zb) : BdC prog 56 [(0, vQ x0), (1, .agg (Zd x1))] (.agg (Zv (Zu ⟨x0, x1⟩))) := ⟨fun w => by kernel_rfl⟩
instance (priority := high) ZEe (x y : Zc) : BinC prog .neq 56 (.agg (Zv (Zu x))) (.agg (Zv (Zu y))) (.bool (!decide (x = y))) := by
 have h : decide (Zu x = Zu y) = decide (x = y) := by rw [decide_eq_decide]; exact Zfs
 exact h ▸ (inferInstance : BinC prog .neq 56 (.agg (Zv (Zu x))) (.agg (Zv (Zu y))) (.bool (!decide (Zu x = Zu y))))
structure Zad where
 X : Rat
 Y : Rat
 deriving DecidableEq
def ZaN (x : Zad) : Zd8 := ⟨Q x.X, Q x.Y⟩
def ZdJ : Zad := ⟨0, 0⟩
instance (priority := high) ZHE : ZeroC prog 93 (.agg (ZaK (ZaN ZdJ))) (ZaK (ZaN ZdJ)) := ⟨by kernel_rfl, rfl⟩
instance (priority := high) Zyb (x : Zad) : LdC prog 93 (ZaK (ZaN x)) 0 (.agg (ZaK (ZaN x))) := ⟨ZQ 8⟩
instance (priority := high) Zxu (x : Zad) : LdC prog 54 (ZaK (ZaN x)) 0 (vQ x.X) := ⟨ZQ 4⟩
instance (priority := high) ZxM (x : Zad) : LdC prog 54 (ZaK (ZaN x)) 4 (vQ x.Y) := ⟨ZQ 4⟩
instance (priority := high) ZyD (x0 : Rat) (x1 : Rat) : BdC prog 93 [(0, vQ x0), (1, vQ x1)] (.agg (ZaK (ZaN ⟨x0, x1⟩))) := ⟨fun w => by kernel_rfl⟩
structure ZJ where
 P : Rat
 R : Rat
 Neg : Bool
 deriving DecidableEq
def ZH (x : ZJ) : Za1 := ⟨Q x.P, Q x.R, x.Neg⟩
def Zb1 : ZJ := ⟨0, 0, false⟩
theorem ZbG {x y : ZJ} : ZH x = ZH y ↔ x = y := by
 cases x; cases y; simp only [ZH, Za1.mk.injEq, ZJ.mk.injEq, Zdm, Zb5]
instance (priority := high) ZHx : ZeroC prog 97 (.agg (ZD (ZH Zb1))) (ZD (ZH Zb1)) := ⟨by kernel_rfl, rfl⟩
instance (priority := high) ZxJ (x : ZJ) : LdC prog 97 (ZD (ZH x)) 0 (.agg (ZD (ZH x))) := ⟨ZQ 9⟩
instance (priority := high) Zv5 (x : ZJ) : LdC prog 54 (ZD (ZH x)) 0 (vQ x.P) := ⟨ZQ 4⟩
instance (priority := high) ZwV (x : ZJ) : LdC prog 54 (ZD (ZH x)) 4 (vQ x.R) := ⟨ZQ 4⟩
instance (priority := high) ZzG (x : ZJ) : LdC prog 4 (ZD (ZH x)) 8 (.bool x.Neg) := ⟨Zy⟩
instance (priority := high) ZDR (x0 : Rat) : BdC prog 97 [(0, vQ x0)] (.agg (ZD (ZH ⟨x0, 0, false⟩))) := ⟨fun w => by kernel_rfl⟩
instance (priority := high) ZFq (x y : ZJ) : BinC prog .eql 97 (.agg (ZD (ZH x))) (.agg (ZD (ZH y))) (.bool (decide (x = y))) := by
 have h : decide (ZH x = ZH y) = decide (x = y) := by rw [decide_eq_decide]; exact ZbG
 exact h ▸ (inferInstance : BinC prog .eql 97 (.agg (ZD (ZH x))) (.agg (ZD (ZH y))) (.bool (decide (ZH x = ZH y))))
structure ZbA where
 Value : ZJ
 At : ZJ
 Reached : Bool
 deriving DecidableEq
def Zbz (x : ZbA) : ZcK := ⟨ZH x.Value, ZH x.At, x.Reached⟩
theorem ZiI {x y : ZbA} : Zbz x = Zbz y ↔ x = y := by
 cases x; cases y; simp only [Zbz, ZcK.mk.injEq, ZbA.mk.injEq, Zdm, Zb5, ZbG, ZbG]
structure Zt where
 From : ZJ
 To : ZJ
 OpenFrom : Bool
 OpenTo : Bool
 deriving DecidableEq
def ZG (x : Zt) : Zaz := ⟨ZH x.From, ZH x.To, x.OpenFrom, x.OpenTo⟩
def Zby : Zt := ⟨Zb1, Zb1, false, false⟩
theorem Zde {x y : Zt} : ZG x = ZG y ↔ x = y := by
 cases x; cases y; simp only [ZG, Zaz.mk.injEq, Zt.mk.injEq, Zdm, Zb5, ZbG, ZbG]
instance (priority := high) ZGK : ZeroC prog 111 (.agg (ZB (ZG Zby))) (ZB (ZG Zby)) := ⟨by kernel_rfl, rfl⟩
instance (priority := high) Zur (x : Zt) : LdC prog 111 (ZB (ZG x)) 0 (.agg (ZB (ZG x))) := ⟨ZQ 20⟩
instance (priority := high) Zvl (x : Zt) : LdC prog 97 (ZB (ZG x)) 0 (.agg (ZD (ZH x.From))) := ⟨ZQ 9⟩
instance (priority := high) ZvO (x : Zt) : LdC prog 97 (ZB (ZG x)) 9 (.agg (ZD (ZH x.To))) := ⟨ZQ 9⟩
instance (priority := high) ZvW (x : Zt) : LdC prog 4 (ZB (ZG x)) 18 (.bool x.OpenFrom) := ⟨Zy⟩
instance (priority := high) Zvu (x : Zt) : LdC prog 4 (ZB (ZG x)) 19 (.bool x.OpenTo) := ⟨Zy⟩
instance (priority := high) ZwS (x0 : ZJ) (x1 : ZJ) : BdC prog 111 [(0, .agg (ZD (ZH x0))), (1, .agg (ZD (ZH x1)))] (.agg (ZB (ZG ⟨x0, x1, false, false⟩))) := ⟨fun w => by kernel_rfl⟩
instance (priority := high) ZuN (x0 : ZJ) (x1 : ZJ) (x2 : Bool) : BdC prog 111 [(0, .agg (ZD (ZH x0))), (1, .agg (ZD (ZH x1))), (2, .bool x2)] (.agg (ZB (ZG ⟨x0, x1, x2, false⟩))) := ⟨fun w => by kernel_rfl⟩
instance (priority := high) Zs7 (x0 : ZJ) (x1 : ZJ) (x2 : Bool) (x3 : Bool) : BdC prog 111 [(0, .agg (ZD (ZH x0))), (1, .agg (ZD (ZH x1))), (2, .bool x2), (3, .bool x3)] (.agg (ZB (ZG ⟨x0, x1, x2, x3⟩))) := ⟨fun w => by kernel_rfl⟩
instance (priority := high) ZCv (x1 : ZJ) : BdC prog 111 [(1, .agg (ZD (ZH x1)))] (.agg (ZB (ZG ⟨Zb1, x1, false, false⟩))) := ⟨fun w => by kernel_rfl⟩
instance (priority := high) ZDc (x y : Zt) : BinC prog .eql 111 (.agg (ZB (ZG x))) (.agg (ZB (ZG y))) (.bool (decide (x = y))) := by
 have h : decide (ZG x = ZG y) = decide (x = y) := by rw [decide_eq_decide]; exact Zde
 exact h ▸ (inferInstance : BinC prog .eql 111 (.agg (ZB (ZG x))) (.agg (ZB (ZG y))) (.bool (decide (ZG x = ZG y))))
structure ZF where
 X0 : Rat
 X1 : Rat
 Y0 : Rat
 Y1 : Rat
 deriving DecidableEq
def ZZ (x : ZF) : Za8 := ⟨Q x.X0, Q x.X1, Q x.Y0, Q x.Y1⟩
def Zc5 : ZF := ⟨0, 0, 0, 0⟩
theorem Zes {x y : ZF} : ZZ x = ZZ y ↔ x = y := by
 cases x; cases y; simp only [ZZ, Za8.mk.injEq, ZF.mk.injEq, Zdm, Zb5]
instance (priority := high) ZGX : ZeroC prog 113 (.agg (ZW (ZZ Zc5))) (ZW (ZZ Zc5)) := ⟨by kernel_rfl, rfl⟩
instance (priority := high) Ztz (x : ZF) : LdC prog 113 (ZW (ZZ x)) 0 (.agg (ZW (ZZ x))) := ⟨ZQ 16⟩
instance (priority := high) ZvM (x : ZF) : LdC prog 54 (ZW (ZZ x)) 0 (vQ x.X0) := ⟨ZQ 4⟩
instance (priority := high) ZvS (x : ZF) : LdC prog 54 (ZW (ZZ x)) 4 (vQ x.X1) := ⟨ZQ 4⟩
instance (priority := high) ZvY (x : ZF) : LdC prog 54 (ZW (ZZ x)) 8 (vQ x.Y0) := ⟨ZQ 4⟩
instance (priority := high) ZuO (x : ZF) : LdC prog 54 (ZW (ZZ x)) 12 (vQ x.Y1) := ⟨ZQ 4⟩
instance (priority := high) ZrZ (x0 : Rat) (x1 : Rat) (x2 : Rat) (x3 : Rat) : BdC prog 113 [(0, vQ x0), (1, vQ x1), (2, vQ x2), (3, vQ x3)] (.agg (ZW (ZZ ⟨x0, x1, x2, x3⟩))) := ⟨fun w => by kernel_rfl⟩
instance (priority := high) ZxW (x0 : Rat) (x2 : Rat) : BdC prog 113 [(0, vQ x0), (2, vQ x2)] (.agg (ZW (ZZ ⟨x0, 0, x2, 0⟩))) := ⟨fun w => by kernel_rfl⟩
instance (priority := high) ZBx (x1 : Rat) : BdC prog 113 [(1, vQ x1)] (.agg (ZW (ZZ ⟨0, x1, 0, 0⟩))) := ⟨fun w => by kernel_rfl⟩
instance (priority := high) ZBn (x y : ZF) : BinC prog .eql 113 (.agg (ZW (ZZ x))) (.agg (ZW (ZZ y))) (.bool (decide (x = y))) := by
 have h : decide (ZZ x = ZZ y) = decide (x = y) := by rw [decide_eq_decide]; exact Zes
 exact h ▸ (inferInstance : BinC prog .eql 113 (.agg (ZW (ZZ x))) (.agg (ZW (ZZ y))) (.bool (decide (ZZ x = ZZ y))))
structure Zag where
 In : Zt
 F : ZF
 deriving DecidableEq
def ZT (x : Zag) : ZaY := ⟨ZG x.In, ZZ x.F⟩
def Zcr : Zag := ⟨Zby, Zc5⟩
theorem Ze8 {x y : Zag} : ZT x = ZT y ↔ x = y := by
 cases x; cases y; simp only [ZT, ZaY.mk.injEq, Zag.mk.injEq, Zdm, Zb5, Zde, Zes]
instance (priority := high) ZF5 : ZeroC prog 115 (.agg (ZS (ZT Zcr))) (ZS (ZT Zcr)) := ⟨by kernel_rfl, rfl⟩
instance (priority := high) ZtM (x : Zag) : LdC prog 115 (ZS (ZT x)) 0 (.agg (ZS (ZT x))) := ⟨ZQ 36⟩
instance (priority := high) Zul (x : Zag) : LdC prog 111 (ZS (ZT x)) 0 (.agg (ZB (ZG x.In))) := ⟨ZQ 20⟩
instance (priority := high) Zvf (x : Zag) : LdC prog 97 (ZS (ZT x)) 0 (.agg (ZD (ZH x.In.From))) := ⟨ZQ 9⟩
instance (priority := high) Zte (x : Zag) : LdC prog 113 (ZS (ZT x)) 20 (.agg (ZW (ZZ x.F))) := ⟨ZQ 16⟩
instance (priority := high) ZxT (x0 : Zt) (x1 : ZF) : BdC prog 115 [(0, .agg (ZB (ZG x0))), (1, .agg (ZW (ZZ x1)))] (.agg (ZS (ZT ⟨x0, x1⟩))) := ⟨fun w => by kernel_rfl⟩
instance (priority := high) ZCf (x y : Zag) : BinC prog .neq 115 (.agg (ZS (ZT x))) (.agg (ZS (ZT y))) (.bool (!decide (x = y))) := by
 have h : decide (ZT x = ZT y) = decide (x = y) := by rw [decide_eq_decide]; exact Ze8
 exact h ▸ (inferInstance : BinC prog .neq 115 (.agg (ZS (ZT x))) (.agg (ZS (ZT y))) (.bool (!decide (ZT x = ZT y))))
structure ZM where
 T : Rat
 P : Zad
 deriving DecidableEq
def Zaa (x : ZM) : Zcb := ⟨Q x.T, ZaN x.P⟩
def ZbI : ZM := ⟨0, ZdJ⟩
instance (priority := high) ZHc : ZeroC prog 143 (.agg (Z5 (Zaa ZbI))) (Z5 (Zaa ZbI)) := ⟨by kernel_rfl, rfl⟩
instance (priority := high) Zt6 (x : ZM) : LdC prog 143 (Z5 (Zaa x)) 0 (.agg (Z5 (Zaa x))) := ⟨ZQ 12⟩
instance (priority := high) Zu6 (x : ZM) : LdC prog 54 (Z5 (Zaa x)) 0 (vQ x.T) := ⟨ZQ 4⟩
instance (priority := high) ZvB (x : ZM) : LdC prog 54 (Z5 (Zaa x)) 4 (vQ x.P.X) := ⟨ZQ 4⟩
instance (priority := high) ZvU (x : ZM) : LdC prog 54 (Z5 (Zaa x)) 8 (vQ x.P.Y) := ⟨ZQ 4⟩
instance (priority := high) Zwo (x0 : Rat) (x1 : Zad) : BdC prog 143 [(0, vQ x0), (1, .agg (ZaK (ZaN x1)))] (.agg (Z5 (Zaa ⟨x0, x1⟩))) := ⟨fun w => by kernel_rfl⟩
structure Zak where
 C0 : Rat
 C1 : Rat
 C2 : Rat
 deriving DecidableEq
def Z3 (x : Zak) : ZbU := ⟨Q x.C0, Q x.C1, Q x.C2⟩
def Zee : Zak := ⟨0, 0, 0⟩
theorem ZhG {x y : Zak} : Z3 x = Z3 y ↔ x = y := by
 cases x; cases y; simp only [Z3, ZbU.mk.injEq, Zak.mk.injEq, Zdm, Zb5]
instance (priority := high) ZGl : ZeroC prog 164 (.agg (Z1 (Z3 Zee))) (Z1 (Z3 Zee)) := ⟨by kernel_rfl, rfl⟩
instance (priority := high) Zt5 (x : Zak) : LdC prog 164 (Z1 (Z3 x)) 0 (.agg (Z1 (Z3 x))) := ⟨ZQ 12⟩
instance (priority := high) Zvr (x : Zak) : LdC prog 54 (Z1 (Z3 x)) 0 (vQ x.C0) := ⟨ZQ 4⟩
instance (priority := high) Zvg (x : Zak) : LdC prog 54 (Z1 (Z3 x)) 4 (vQ x.C1) := ⟨ZQ 4⟩
instance (priority := high) ZvF (x : Zak) : LdC prog 54 (Z1 (Z3 x)) 8 (vQ x.C2) := ⟨ZQ 4⟩
instance (priority := high) ZFi  : BdC prog 164 [] (.agg (Z1 (Z3 ⟨0, 0, 0⟩))) := ⟨fun w => by kernel_rfl⟩
instance (priority := high) ZDA (x0 : Rat) : BdC prog 164 [(0, vQ x0)] (.agg (Z1 (Z3 ⟨x0, 0, 0⟩))) := ⟨fun w => by kernel_rfl⟩
instance (priority := high) ZxN (x0 : Rat) (x1 : Rat) : BdC prog 164 [(0, vQ x0), (1, vQ x1)] (.agg (Z1 (Z3 ⟨x0, x1, 0⟩))) := ⟨fun w => by kernel_rfl⟩
instance (priority := high) ZtO (x0 : Rat) (x1 : Rat) (x2 : Rat) : BdC prog 164 [(0, vQ x0), (1, vQ x1), (2, vQ x2)] (.agg (Z1 (Z3 ⟨x0, x1, x2⟩))) := ⟨fun w => by kernel_rfl⟩
instance (priority := high) ZCg (x y : Zak) : BinC prog .eql 164 (.agg (Z1 (Z3 x))) (.agg (Z1 (Z3 y))) (.bool (decide (x = y))) := by
 have h : decide (Z3 x = Z3 y) = decide (x = y) := by rw [decide_eq_decide]; exact ZhG
 exact h ▸ (inferInstance : BinC prog .eql 164 (.agg (Z1 (Z3 x))) (.agg (Z1 (Z3 y))) (.bool (decide (Z3 x = Z3 y))))
structure ZN where
 In : Zt
 F : ZF
 deriving DecidableEq
def ZA (x : ZN) : ZbN := ⟨ZG x.In, ZZ x.F⟩
def Zbs : ZN := ⟨Zby, Zc5⟩
instance (priority := high) ZGM : ZeroC prog 224 (.agg (Zw (ZA Zbs))) (Zw (ZA Zbs)) := ⟨by kernel_rfl, rfl⟩
instance (priority := high) ZtR (x : ZN) : LdC prog 224 (Zw (ZA x)) 0 (.agg (Zw (ZA x))) := ⟨ZQ 36⟩
instance (priority := high) ZtJ (x : ZN) : LdC prog 111 (Zw (ZA x)) 0 (.agg (ZB (ZG x.In))) := ⟨ZQ 20⟩
instance (priority := high) Zvt (x : ZN) : LdC prog 97 (Zw (ZA x)) 0 (.agg (ZD (ZH x.In.From))) := ⟨ZQ 9⟩
instance (priority := high) ZvG (x : ZN) : LdC prog 97 (Zw (ZA x)) 9 (.agg (ZD (ZH x.In.To))) := ⟨ZQ 9⟩
instance (priority := high) Zvp (x : ZN) : LdC prog 4 (Zw (ZA x)) 18 (.bool x.In.OpenFrom) := ⟨Zy⟩
instance (priority := high) Zvz (x : ZN) : LdC prog 4 (Zw (ZA x)) 19 (.bool x.In.OpenTo) := ⟨Zy⟩
instance (priority := high) Ztl (x : ZN) : LdC prog 113 (Zw (ZA x)) 20 (.agg (ZW (ZZ x.F))) := ⟨ZQ 16⟩
instance (priority := high) Zv9 (x0 : Zt) (x1 : ZF) : BdC prog 224 [(0, .agg (ZB (ZG x0))), (1, .agg (ZW (ZZ x1)))] (.agg (Zw (ZA ⟨x0, x1⟩))) := ⟨fun w => by kernel_rfl⟩
instance (priority := high) ZDY (a b : Int) : BinC prog .neq 52 (vI a) (vI b) (.bool (!decide (a = b))) := by
 have h : decide (I a = I b) = decide (a = b) := by rw [decide_eq_decide]; exact Zb5
 exact h ▸ (inferInstance : BinC prog .neq 52 (vI a) (vI b) (.bool (!decide (I a = I b))))
instance (priority := high) ZEw (a b : Rat) : BinC prog .neq 54 (vQ a) (vQ b) (.bool (!decide (a = b))) := by
 have h : decide (Q a = Q b) = decide (a = b) := by rw [decide_eq_decide]; exact Zdm
 exact h ▸ (inferInstance : BinC prog .neq 54 (vQ a) (vQ b) (.bool (!decide (Q a = Q b))))
end
section
theorem MB.lt {q : Rat} {k B : Nat} [h : MB q k] (hk : Nat.ble k B = true) : M q ≤ B := Wi h.out (Nat.le_of_ble_eq_true hk)
theorem mb2 {p q : Rat} {j k B C : Nat} [MB p j] [MB q k] (h1 : Nat.ble j B = true) (h2 : Nat.ble k C = true) : M p ≤ B ∧ M q ≤ C := ⟨MB.lt h1, MB.lt h2⟩
theorem mb4 {p q r s : Rat} {i j k l A B C D : Nat} [MB p i] [MB q j] [MB r k] [MB s l] (h1 : Nat.ble i A = true) (h2 : Nat.ble j B = true) (h3 : Nat.ble k C = true) (h4 : Nat.ble l D = true) : M p ≤ A ∧ M q ≤ B ∧ M r ≤ C ∧ M s ≤ D := ⟨MB.lt h1, MB.lt h2, MB.lt h3, MB.lt h4⟩
abbrev vR (r : ZJ) : Value := .agg (ZD (ZH r))
abbrev vP (p : Zad) : Value := .agg (ZaK (ZaN p))
instance ZxG (q : Rat) : SpecC prog 66 [vQ q] (vR ⟨q, 0, false⟩) True := ⟨fun _ w => by
 refine Zg Tryz.func66 rfl Tryz.ntmps66 rfl ?_
 repeat (refine wkA ?_; intros)
 exact ZV rfl rfl (fun w hw => Zi hw)⟩
instance Zr8 (n : Int) : SpecC prog 45 [.int .i64 n] (vR ⟨(n : Rat), 0, false⟩) (-9223372036854775808 ≤ n ∧ n ≤ 9223372036854775807) := ⟨fun hp w => by
 refine Zg Tryz.func45 rfl Tryz.ntmps45 rfl ?_
 repeat (refine wkA ?_; intros)
 exact ZV rfl rfl (fun w hw => Zi hw)⟩
instance Zvj (x : ZJ) : SpecC prog 423 [vR x] (.tuple #[vQ (if x.R = 0 then x.P else 0), .bool (decide (x.R = 0))]) True := ⟨fun _ w => by
 refine Zg Tryz.func423 rfl Tryz.ntmps423 rfl ?_
 repeat (refine wkA ?_; intros)
 refine Zn rfl (fun h => ?_) (fun h => ?_)
 ·have h1 : ¬ x.R = 0 := by simpa using h
  rw [if_neg h1, We h1]
  repeat (refine wkA ?_; intros)
  exact Zz rfl (Zae rfl) (Zl rfl) (fun w hw => Zi hw)
 ·have h1 : x.R = 0 := by simpa using h
  rw [if_pos h1, Wc h1]
  repeat (refine wkA ?_; intros)
  exact Zz rfl (Zae rfl) (Zl rfl) (fun w hw => Zi hw)⟩
instance ZGR (x y : Int) : SpecC prog 146 [.int .i64 x, .int .i64 y] (vP ⟨(x : Rat), (y : Rat)⟩) ((-9223372036854775808 ≤ x ∧ x ≤ 9223372036854775807) ∧ (-9223372036854775808 ≤ y ∧ y ≤ 9223372036854775807)) := ⟨fun hp w => by
 refine Zg Tryz.func146 rfl Tryz.ntmps146 rfl ?_
 repeat (first | (refine wkA ?_; intros) | (refine sC rfl rfl ?_ ?_; focus (first | exact hp.1 | exact hp.2)))
 exact ZV rfl rfl (fun w hw => Zi hw)⟩
instance ZFr (p q : Zad) : SpecC prog 198 [vP p, vP q] (vP ⟨p.X - q.X, p.Y - q.Y⟩) (M p.X ≤ LQ ∧ M p.Y ≤ LQ ∧ M q.X ≤ LQ ∧ M q.Y ≤ LQ) := ⟨fun hp w => by
 obtain ⟨h1, h2, h3, h4⟩ := hp
 refine Zg Tryz.func198 rfl Tryz.ntmps198 rfl ?_
 repeat (refine wkA ?_; intros)
 (refine jD 11 11 (h := ?_); (repeat (refine wkH ?_)); refine Zo ?_; (repeat (refine Z8 ?_; intro _)); refine Zr ?_)
 repeat (refine wkA ?_; intros)
 exact ZV rfl rfl (fun w hw => Zi hw)⟩
instance ZEz (p q : Zad) : SpecC prog 199 [vP p, vP q] (vQ (p.X * q.X + p.Y * q.Y)) (M p.X ≤ 68719476736 ∧ M p.Y ≤ 68719476736 ∧ M q.X ≤ 68719476736 ∧ M q.Y ≤ 68719476736) := ⟨fun hp w => by
 obtain ⟨h1, h2, h3, h4⟩ := hp
 have := MB.mk h1
 have := MB.mk h2
 have := MB.mk h3
 have := MB.mk h4
 refine Zg Tryz.func199 rfl Tryz.ntmps199 rfl ?_
 repeat (refine wkA ?_; intros)
 (refine jD 11 11 (h := ?_); (repeat (refine wkH ?_)); refine Zo ?_; (repeat (refine Z8 ?_; intro _)); refine Zr ?_)
 repeat (refine wkA ?_; intros)
 exact ZV rfl rfl (fun w hw => Zi hw)⟩
def d2 (p q : Zad) : Rat := (p.X - q.X) * (p.X - q.X) + (p.Y - q.Y) * (p.Y - q.Y)
instance Ztr (p q : Zad) : SpecC prog 145 [vP p, vP q] (vQ (d2 p q)) (M p.X ≤ 8589934592 ∧ M p.Y ≤ 8589934592 ∧ M q.X ≤ 8589934592 ∧ M q.Y ≤ 8589934592) := ⟨fun hp w => by
 obtain ⟨h1, h2, h3, h4⟩ := hp
 have := MB.mk h1
 have := MB.mk h2
 have := MB.mk h3
 have := MB.mk h4
 unfold d2
 refine Zg Tryz.func145 rfl Tryz.ntmps145 rfl ?_
 repeat (refine wkA ?_; intros)
 exact ZV rfl rfl (fun w hw => Zi hw)⟩
instance ZHK (p q : Zad) (i j k l : Nat) [h1 : MB p.X i] [h2 : MB p.Y j] [h3 : MB q.X k] [h4 : MB q.Y l] : MB (d2 p q) (2 * (i + j + k + l) + 5) := ⟨by
 unfold d2
 have := (inferInstance : MB ((p.X - q.X) * (p.X - q.X) + (p.Y - q.Y) * (p.Y - q.Y)) _).out
 omega⟩
instance Zz9 (x y : Rat) : SpecC prog 131 [vQ x, vQ y] (.agg (Z1 (Z3 ⟨x, y, 0⟩))) True := ⟨fun _ w => by
 refine Zg Tryz.func131 rfl Tryz.ntmps131 rfl ?_
 repeat (refine wkA ?_; intros)
 exact ZV rfl rfl (fun w hw => Zi hw)⟩
instance ZFo (q : Zak) (t : Rat) : SpecC prog 75 [.agg (Z1 (Z3 q)), vQ t] (vQ (q.C0 + t * (q.C1 + t * q.C2))) (M q.C0 ≤ 34359738368 ∧ M q.C1 ≤ 34359738368 ∧ M q.C2 ≤ 34359738368 ∧ M t ≤ 34359738368) := ⟨fun hp w => by
 obtain ⟨h1, h2, h3, h4⟩ := hp
 have := MB.mk h1
 have := MB.mk h2
 have := MB.mk h3
 have := MB.mk h4
 refine Zg Tryz.func75 rfl Tryz.ntmps75 rfl ?_
 repeat (refine wkA ?_; intros)
 (refine jD 12 12 (h := ?_); (repeat (refine wkH ?_)); refine Zo ?_; (repeat (refine Z8 ?_; intro _)); refine Zr ?_)
 repeat (refine wkA ?_; intros)
 exact ZV rfl rfl (fun w hw => Zi hw)⟩
def lin (t v u w : Rat) : Zak := if u - t = 0 then Zee else ⟨v - (w - v) / (u - t) * t, (w - v) / (u - t), 0⟩
instance Zxt (t v u x : Rat) : SpecC prog 113 [vQ t, vQ v, vQ u, vQ x] (.tuple #[.agg (Z1 (Z3 (lin t v u x))), .int .i64 (if u - t = 0 then 6 else 0)]) (M t ≤ 34359738368 ∧ M v ≤ 34359738368 ∧ M u ≤ 34359738368 ∧ M x ≤ 34359738368) := ⟨fun hp w => by
 obtain ⟨h1, h2, h3, h4⟩ := hp
 have := MB.mk h1
 have := MB.mk h2
 have := MB.mk h3
 have := MB.mk h4
 refine Zg Tryz.func113 rfl Tryz.ntmps113 rfl ?_
 repeat (refine wkA ?_; intros)
 (refine Zbb [0, 1, 2, 3, 4, 5, 6, 7, 8, 9] [10, 11, 12] (_) (h := ?_); refine wkI ?_; (repeat (refine wkH ?_)); refine Zo ?_; (repeat (first | (refine eA rfl rfl ?_; intro _) | refine eT rfl ?_ | refine eS rfl rfl ?_)); refine Zbq ?_)
 repeat (refine wkA ?_; intros)
 by_cases hz : u - t = 0
 ·unfold lin
  simp only [if_pos hz]
  repeat (refine wkA ?_; intros)
  exact Zz rfl (Zae rfl) (Zl rfl) (fun w hw => Zi hw)
 ·unfold lin
  simp only [if_neg hz]
  repeat (refine wkA ?_; intros)
  (refine jD 7 7 (h := ?_); (repeat (refine wkH ?_)); refine Zo ?_; (repeat (refine Z8 ?_; intro _)); refine Zr ?_)
  repeat (refine wkA ?_; intros)
  exact Zz rfl (Zae rfl) (Zl rfl) (fun w hw => Zi hw)⟩
end
end Go.Vt
