/- that the order in which batches arrive does not matter (part 17 of 27.) Conditions: those that each statement names. -/
import Derived.Test.YtjicdlilgjdefaaGreatDoorKO8
import Derived.Test.YtjicdlilgjdefaaGreatDoorKO9
import Derived.Test.YtjicdlilgjdefaaGreatDoorKO10
import Derived.Test.YtjicdlilgjdefaaGreatDoorKO11
import Derived.Test.YtjicdlilgjdefaaGreatDoorKO14
import Derived.Test.YtjicdlilgjdefaaGreatDoorKO15
import Derived.Test.YtjicdlilgjdefaaGreatDoorKO16
/- Are integers and fractions in their canonical form? Walked, for any bytes. Conditions: the lengths that each statement names. -/
set_option linter.unusedSimpArgs false
set_option linter.unusedVariables false
set_option maxHeartbeats 2000000
set_option maxRecDepth 100000
namespace Go.Vt
open Go.RowKit Go.Proofs
def icb (x : Zan) : Bool := if x.Mag = ByteArray.empty then !x.Neg else !decide (x.Mag[0]? = some 0)
theorem Zpi {l : List UInt8} (h : l[0]? ≠ some 0) : Top l.reverse := by
 intro b hb
 rw [List.getLast?_reverse] at hb
 intro h0
 subst h0
 refine h ?_
 cases l with
 | nil => cases hb
 | cons x r => simpa using hb
theorem bget (s : ByteArray) (i : Nat) : s[i]? = s.data.toList[i]? := by
 by_cases h : i < s.size
 ·have h' : i < s.data.toList.length := h
  rw [getElem?_pos s i h, getElem?_pos s.data.toList i h']
  rfl
 ·have h' : ¬ i < s.data.toList.length := h
  rw [getElem?_neg s i h, getElem?_neg s.data.toList i h']
theorem Zee {x : Zan} : icb x = true ↔ ∃ a : Int, x = I a := by
 obtain ⟨n, s⟩ := x
 unfold icb
 simp only
 constructor
 ·intro h
  have hc : Can s := by
   split at h
   ·rename_i h0
    subst h0
    exact ZlD 0
   ·rename_i h0
    simp only [Bool.not_eq_true', decide_eq_false_iff_not] at h
    exact Zpi (by rw [← bget]; exact h)
  have hm := ZpZ hc
  refine ⟨if n = true then -(vmag s : Int) else (vmag s : Int), ?_⟩
  unfold I
  cases n
  ·simp only [Bool.false_eq_true, if_false, Int.natAbs_natCast, hm]
   rw [decide_eq_false (by omega)]
  ·simp only [if_true, Int.natAbs_neg, Int.natAbs_natCast, hm]
   congr 1
   have hne : vmag s ≠ 0 := fun h0 => by
    rw [h0] at hm
    split at h
    ·cases h
    ·rename_i h1
     exact h1 (hm.symm.trans Zgh)
   simp
   omega
 ·rintro ⟨a, h⟩
  unfold I at h
  injection h with h1 h2
  subst h1
  subst h2
  split
  ·rename_i h0
   have := ZaM.1 h0
   simp
   omega
  ·rename_i h0
   simp only [Bool.not_eq_true', decide_eq_false_iff_not]
   intro h1
   have hc := ZlD a.natAbs
   rw [bget] at h1
   cases hl : (mag a.natAbs).data.toList with
   | nil => rw [hl] at h1; cases h1
   | cons y r =>
    rw [hl] at h1
    simp only [List.getElem?_cons_zero, Option.some.injEq] at h1
    unfold Can Top at hc
    rw [hl] at hc
    exact hc y (by simp) h1
theorem ZqS (a : Int) : icb (I a) = true := Zee.2 ⟨a, rfl⟩
instance ZvO (x : Zan) : SpecC Tryz.prog 170 [.agg (ZP x)] (.int .i64 (if icb x = true then 0 else 5)) True := ⟨fun _ w => by
 refine Zg Tryz.func170 rfl Tryz.ntmps170 rfl ?_
 repeat (refine wkB ?_; try intro _)
 by_cases h : x.Mag = ByteArray.empty
 ·have e : icb x = !x.Neg := by unfold icb; rw [if_pos h]
  have hd := decide_eq_true (show x.Mag = ⟨#[]⟩ from h)
  rw [e]
  simp only [hd]
  repeat (refine wkB ?_; try intro _)
  rcases hN : x.Neg with _ | _
  ·repeat (refine wkB ?_; try intro _)
   simp only [hd, Bool.not_true]
   repeat (refine wkB ?_; try intro _)
   exact Zf rfl rfl (fun w hw => Zh hw)
  ·repeat (refine wkB ?_; try intro _)
   exact Zf rfl rfl (fun w hw => Zh hw)
 ·have e : icb x = !decide (x.Mag[0]? = some 0) := by unfold icb; rw [if_neg h]
  have hd := decide_eq_false (show ¬ x.Mag = ⟨#[]⟩ from h)
  rw [e]
  simp only [hd]
  repeat (refine wkB ?_; try intro _)
  simp only [hd, Bool.not_false]
  repeat (refine wkB ?_; try intro _)
  obtain ⟨u, hu⟩ : ∃ u, x.Mag[0]? = some u := by
   rw [bget]
   cases hl : x.Mag.data.toList with
   | nil =>
    refine absurd ?_ h
    have h2 : x.Mag.data = #[] := by rw [← Array.toArray_toList (xs := x.Mag.data), hl]
    cases hx : x.Mag with
    | mk d =>
     rw [hx] at h2
     simp only at h2
     subst h2
     rfl
   | cons y r => exact ⟨y, rfl⟩
  refine jq (ZdK rfl rfl (by omega) (show x.Mag[(0 : Int).toNat]? = some u from hu)) rfl rfl ?_
  repeat (refine wkB ?_; try intro _)
  have hd : decide (((u.toNat : Nat) : Int) = 0) = decide (x.Mag[0]? = some 0) := by
   rw [hu, decide_eq_decide]
   simp only [Option.some.injEq]
   constructor
   ·intro h0
    exact UInt8.toNat_inj.1 (by simpa using h0)
   ·intro h0
    subst h0
    rfl
  rw [hd]
  rcases hq : decide (x.Mag[0]? = some 0) with _ | _
  ·repeat (refine wkB ?_; try intro _)
   exact Zf rfl rfl (fun w hw => Zh hw)
  ·repeat (refine wkB ?_; try intro _)
   exact Zf rfl rfl (fun w hw => Zh hw)⟩
def rcb (x : Z9) : Bool := icb x.Num && (icb x.Den && (decide (x.Den = I 0) || (!decide (Lib.compareInt (ival x.Den) 1 ≤ 0) && decide ((Int.gcd (ival x.Num) (ival x.Den) : Int) = 1))))
where ival (x : Zan) : Int := if x.Neg = true then -(vmag x.Mag : Int) else vmag x.Mag
theorem Zd4 (a : Int) : rcb.ival (I a) = a := by
 unfold rcb.ival I
 simp only [ZcL, decide_eq_true_eq]
 split <;> omega
theorem Zsf {x : Z9} : rcb x = true ↔ ∃ q : Rat, x = Q q := by
 obtain ⟨n, d⟩ := x
 unfold rcb
 simp only [Bool.and_eq_true, Bool.or_eq_true, Bool.not_eq_true', decide_eq_true_eq, decide_eq_false_iff_not]
 constructor
 ·rintro ⟨h1, h2, h3⟩
  obtain ⟨a, rfl⟩ := Zee.1 h1
  obtain ⟨b, rfl⟩ := Zee.1 h2
  rw [Zd4, Zd4, ZbW] at h3
  rcases h3 with rfl | ⟨h3, h4⟩
  ·exact ⟨(a : Rat), (ZqV a)⟩
  ·have hb : 1 < b := by
    unfold Lib.compareInt at h3
    split at h3
    ·omega
    ·split at h3 <;> omega
   have hc : Nat.Coprime a.natAbs b.natAbs := by
    have : Int.gcd a b = 1 := by omega
    exact this
   refine ⟨⟨a, b.natAbs, by omega, hc⟩, ?_⟩
   unfold Q dn
   simp only
   rw [if_neg (by omega)]
   congr 2
   omega
 ·rintro ⟨q, h⟩
  unfold Q at h
  injection h with h1 h2
  subst h1
  subst h2
  refine ⟨ZqS _, ZqS _, ?_⟩
  rw [Zd4, Zd4, ZbW]
  have hp := q.den_pos
  by_cases hd : q.den = 1
  ·exact .inl (ZhC.2 hd)
  ·have e : dn q = q.den := by unfold dn; rw [if_neg hd]
   refine .inr ⟨?_, ?_⟩
   ·rw [e]
    unfold Lib.compareInt
    rw [if_neg (by omega), if_pos (by omega)]
    omega
   ·rw [e]
    have hc := q.reduced
    have h0 : Int.gcd q.num (q.den : Int) = 1 := hc
    omega
theorem Zv6 (q : Rat) : rcb (Q q) = true := Zsf.2 ⟨q, rfl⟩
theorem ZsC {n d : Zan} : rcb ⟨n, d⟩ = (icb n && (icb d && (decide (d = I 0) || (!decide (Lib.compareInt (rcb.ival d) 1 ≤ 0) && decide ((Int.gcd (rcb.ival n) (rcb.ival d) : Int) = 1))))) := rfl
instance ZmE (x : Z9) : SpecC Tryz.prog 112 [.agg (Zx x)] (.int .i64 (if rcb x = true then 0 else 5)) (x.Num.Mag.size ≤ LIM ∧ x.Den.Mag.size ≤ LIM) := ⟨fun hp w => by
 obtain ⟨p1, p2⟩ := hp
 refine Zg Tryz.func112 rfl Tryz.ntmps112 rfl ?_
 repeat (refine wkB ?_; try intro _)
 rcases hn : icb x.Num with _ | _
 ·rw [show rcb x = false by unfold rcb; rw [hn]; rfl]
  repeat (refine wkB ?_; try intro _)
  exact Zf rfl rfl (fun w hw => Zh hw)
 repeat (refine wkB ?_; try intro _)
 rcases hd : icb x.Den with _ | _
 ·rw [show rcb x = false by unfold rcb; rw [hn, hd]; rfl]
  repeat (refine wkB ?_; try intro _)
  exact Zf rfl rfl (fun w hw => Zh hw)
 obtain ⟨a, ha⟩ := Zee.1 hn
 obtain ⟨b, hb⟩ := Zee.1 hd
 obtain ⟨n, d⟩ := x
 simp only at ha hb p1 p2 hn hd ⊢
 subst ha
 subst hb
 rw [ZsC, hn, hd, Zd4, Zd4, Bool.true_and, Bool.true_and]
 have hz : decide (I b = I 0) = decide (b = 0) := by rw [decide_eq_decide]; exact ZbW
 rw [hz]
 repeat (refine wkB ?_; try intro _)
 by_cases hb : b = 0
 ·simp only [decide_eq_true hb]
  repeat (refine wkB ?_; try intro _)
  exact Zf rfl rfl (fun w hw => Zh hw)
 ·simp only [decide_eq_false hb]
  repeat (refine wkB ?_; try intro _)
  refine jD 14 14 (h := ?_)
  (repeat (refine wkH ?_))
  rcases hc : decide (Lib.compareInt b 1 ≤ 0) with _ | _
  ·(repeat (first | refine wkH ?_ | (refine tC rfl rfl ?_ ?_; focus (first | exact trivial | exact ⟨p1, p2⟩))))
   refine Zr ?_
   refine Zt ?_
   repeat (refine wkB ?_; try intro _)
   rcases hg : decide (((Int.gcd a b : Nat) : Int) = 1) with _ | _
   ·repeat (refine wkB ?_; try intro _)
    exact Zf rfl rfl (fun w hw => Zh hw)
   ·repeat (refine wkB ?_; try intro _)
    exact Zf rfl rfl (fun w hw => Zh hw)
  ·(repeat (refine wkH ?_))
   refine Zr ?_
   refine Zt ?_
   repeat (refine wkB ?_; try intro _)
   exact Zf rfl rfl (fun w hw => Zh hw)⟩
instance (priority := high) ZxJ (q : Rat) : SpecC Tryz.prog 112 [vQ q] (.int .i64 0) (M q ≤ LQ) := ⟨fun hp w => by
 have h := (ZmE (Q q)).out ⟨?_, ?_⟩ w
 ·rw [Zv6] at h
  exact h
 ·have := Nat.le_trans (Za5 q) hp
  exact Nat.le_trans this (by decide)
 ·show (mag (dn q).natAbs).size ≤ LIM
  have h1 := Nat.le_trans (ZaY q) hp
  unfold dn
  split
  ·decide
  ·exact Nat.le_trans h1 (by decide)⟩
end Go.Vt
/- The moving point through samples, walked. Conditions: those that each statement names. -/
namespace Go.Vt
open Go.RowKit Go.Proofs
abbrev SS := ZO
class SumC (f g : Nat) (h : outParam Nat) : Prop where out : f + g = h
instance : SumC 4 4 8 := ⟨rfl⟩
instance : SumC 4 0 4 := ⟨rfl⟩
instance ZCy {P : Program} {w0 : World} {n : Nat} {L : List Blk} {E : Env} {v : Value} {x : Operand} {T T0 : TypeId} {α : Type} [Inhabited α] {enc : α → Array Value} {k b f g s : Nat} {xs : List α} {sp : List Value} {i : Int} [IsC (evl E x) (.pointer (some ⟨b, 0 + i.toNat * k + f + g, none⟩))] [hs : SumC f g s] [h : AtC w0 L b (row enc xs sp) T0] [EncC enc k] [hv : LdC P T (enc (gi xs i)) s v] : YsC P w0 n L E (.load T x) v (i.toNat < xs.length) := ⟨fun hi _ _ _ _ _ => Zdt isE h.out (by
 have h1 := Zhq (P := P) (T := T) (v := v) (enc := enc) (k := k) (sp := sp) (f := s) hi (by rw [← ZcV hi]; exact hv.out)
 rw [Nat.add_assoc, hs.out, Nat.zero_add]
 exact h1)⟩
def sgU (pts : List SS) (i : Nat) : PU := ⟨⟨⟨(gi pts (i : Int)).T, 0, false⟩, ⟨(gi pts ((i + 1 : Nat) : Int)).T, 0, false⟩, decide ((1 : Int) < ((i + 1 : Nat) : Int)), false⟩, stl (gi pts (i : Int)) (gi pts ((i + 1 : Nat) : Int))⟩
def sgs (pts : List SS) : Nat → List PU
 | 0 => []
 | m + 1 => sgs pts m ++ [sgU pts m]
theorem Zdf (pts : List SS) : ∀ m, (sgs pts m).length = m
 | 0 => rfl
 | m + 1 => by rw [sgs, List.length_append, Zdf pts m]; rfl
theorem Zg6 (pts : List SS) {u : PU} : ∀ m, u ∈ sgs pts m → ∃ i, i < m ∧ u = sgU pts i
 | 0, h => by cases h
 | m + 1, h => by
  rw [sgs] at h
  rcases List.mem_append.1 h with h1 | h1
  ·obtain ⟨i, h3, h4⟩ := Zg6 pts m h1
   exact ⟨i, by omega, h4⟩
  ·rw [List.mem_singleton] at h1
   exact ⟨m, by omega, h1⟩
def one1 (p : SS) : PU := ⟨⟨⟨p.T, 0, false⟩, ⟨p.T, 0, false⟩, false, false⟩, ⟨p.P.X, 0, p.P.Y, 0⟩⟩
def frS (pts : List SS) : List PU := if pts.length = 1 then [one1 (gi pts 0)] else mNorm (sgs pts (pts.length - 1))
def frE (pts : List SS) : Int := if pts.length = 1 then 0 else nrmE (mpN toU (sgs pts (pts.length - 1)) (sgs pts (pts.length - 1)).length)
theorem Zlk {α β : Type} [Inhabited α] {f : α → β} {xs : List α} {y : β} : ∀ m, m ≤ xs.length → y ∈ mpN f xs m → ∃ x ∈ xs, y = f x
 | 0, _, h => by cases h
 | m + 1, hm, h => by
  rw [mpN] at h
  rcases List.mem_append.1 h with h1 | h1
  ·exact Zlk m (by omega) h1
  ·rw [List.mem_singleton] at h1
   exact ⟨_, ZZ (by omega), h1⟩
theorem Ztp {pts : List SS} (hB : Bnd pts) (i : Nat) : UIn (toU (sgU pts i)) := by
 obtain ⟨h1, h2, h3⟩ := hB (i : Int)
 obtain ⟨h4, h5, h6⟩ := hB ((i + 1 : Nat) : Int)
 have := MB.mk h1
 have := MB.mk h2
 have := MB.mk h3
 have := MB.mk h4
 have := MB.mk h5
 have := MB.mk h6
 exact ⟨⟨rfl, rfl, rfl, rfl, Nat.le_trans h1 (by decide), Nat.le_trans h4 (by decide)⟩, ⟨MB.lt (q := (stl (gi pts (i : Int)) (gi pts ((i + 1 : Nat) : Int))).X0) rfl, MB.lt (q := (stl (gi pts (i : Int)) (gi pts ((i + 1 : Nat) : Int))).X1) rfl, MB.lt (q := (stl (gi pts (i : Int)) (gi pts ((i + 1 : Nat) : Int))).Y0) rfl, MB.lt (q := (stl (gi pts (i : Int)) (gi pts ((i + 1 : Nat) : Int))).Y1) rfl⟩⟩
theorem Zjj {pts : List SS} (hB : Bnd pts) (m : Nat) : ∀ u ∈ mpN toU (sgs pts m) (sgs pts m).length, UIn u := fun u hu => by
 obtain ⟨x, hx, rfl⟩ := Zlk _ (Nat.le_refl _) hu
 obtain ⟨i, -, rfl⟩ := Zg6 pts m hx
 exact Ztp hB i
set_option maxHeartbeats 1000000 in
theorem Zl5 (b n c : Nat) (pts : List SS) (sp : List Value) (T : TypeId) (hn : pts.length = n) (h1 : 1 ≤ n) (h19 : n ≤ 19) (hB : Bnd pts) (hinc : ∀ i : Nat, i + 1 < n → (gi pts (i : Int)).T < (gi pts ((i + 1 : Nat) : Int)).T) (w : World) (hw : ∃ fz, w.heap[b]? = some (.cells (row rS pts sp) T fz)) :
  Calls Tryz.prog 62 [.slice (some ⟨b, 0, none⟩) n c].toArray w (RetM (SlS rP 36 (frS pts)) (fun s => .tuple #[vSl s, .int .i64 (frE pts)]) (fun s => mS 115 s) w) := by
 have := FoC.mk hw
 have hBd : ∀ i : Int, M (gi pts i).T ≤ LQ ∧ M (gi pts i).P.X ≤ LQ ∧ M (gi pts i).P.Y ≤ LQ := fun i => by
  obtain ⟨h1, h2, h3⟩ := hB i
  exact ⟨Nat.le_trans h1 (by decide), Nat.le_trans h2 (by decide), Nat.le_trans h3 (by decide)⟩
 refine Zg Tryz.func62 rfl Tryz.ntmps62 rfl ?_
 repeat (refine wkB ?_; try intro _)
 simp only [decide_eq_false (show ¬ (256 : Int) < (n : Int) by omega)]
 repeat (refine wkB ?_; try intro _)
 refine Zq (S := Nat) (fun m => m ≤ n) (fun m => [(0, .slice (some ⟨b, 0, none⟩) n c), (3, .int .i64 0), (20, .slice (some ⟨b, 0, none⟩) n c), (21, .int .i64 n), (22, .int .i64 (m : Nat))]) (fun _ => []) (fun m => n - m) 0 (Nat.zero_le _) sbB slB (fun m hm => ?_)
 repeat (refine wkB ?_; try intro _)
 refine Zl rfl (fun h => ?_) (fun h => ?_)
 ·have hlt : m < n := by have := of_decide_eq_true h; omega
  repeat (first | (refine wkB ?_; try intro _) | (refine sC rfl rfl ?_ ?_; focus (first | exact (hBd _).1 | exact (hBd _).2.1 | exact (hBd _).2.2 | exact ⟨by omega, by omega⟩)) | (refine sN rfl rfl ?_ ?_; (focus (first | exact (hBd _).1 | exact (hBd _).2.1 | exact (hBd _).2.2 | exact ⟨by omega, by omega⟩)); intro _; (try simp only [List.cons_append, List.nil_append, List.append_nil])))
  exact Zj (m + 1) hlt sbB slB (by omega)
 ·have hge : m = n := by have := of_decide_eq_false h; omega
  subst hge
  repeat (refine wkB ?_; try intro _)
  refine Zq (S := Nat) (fun k => k ≤ m) (fun k => [(0, .slice (some ⟨b, 0, none⟩) m c), (3, .int .i64 0), (45, .slice (some ⟨b, 0, none⟩) m c), (46, .int .i64 m), (47, .int .i64 (k : Nat))]) (fun _ => []) (fun k => m - k) 0 (Nat.zero_le _) sbB slB (fun k hk => ?_)
  repeat (refine wkB ?_; try intro _)
  refine Zl rfl (fun h => ?_) (fun h => ?_)
  ·have hlt : k < m := by have := of_decide_eq_true h; omega
   repeat (refine wkB ?_; try intro _)
   rcases k with _ | k
   ·(refine jD 17 17 (h := ?_); (repeat (refine wkH ?_)); refine Zr ?_; (repeat (refine Z6 ?_; intro _)); refine Zt ?_)
    repeat (first | (refine wkB ?_; try intro _) | (refine sC rfl rfl ?_ ?_; focus (exact ⟨by omega, by omega⟩)) | (refine sN rfl rfl ?_ ?_; (focus (exact ⟨by omega, by omega⟩)); intro _; (try simp only [List.cons_append, List.nil_append, List.append_nil])))
    exact Zj 1 hlt sbB slB (by omega)
   ·have e1 : ((k + 1 : Nat) : Int) - 1 = (k : Int) := by omega
    refine jD 17 17 (h := ?_)
    (repeat (refine wkH ?_))
    simp only [decide_eq_true (show (0 : Int) < ((k + 1 : Nat) : Int) by omega), e1]
    (repeat (refine wkH ?_))
    simp only [e1]
    (repeat (first | refine wkH ?_ | (refine tC rfl rfl ?_ ?_; focus (exact ⟨(hBd _).1, (hBd _).1⟩))))
    refine Zr ?_
    refine Zt ?_
    have hcl : ¬ cq (gi pts ((k + 1 : Nat) : Int)).T (gi pts (k : Int)).T ≤ 0 := by
     rw [ZqU]
     have := hinc k hlt
     grind
    simp only [decide_eq_false hcl]
    repeat (first | (refine wkB ?_; try intro _) | (refine sC rfl rfl ?_ ?_; focus (exact ⟨by omega, by omega⟩)) | (refine sN rfl rfl ?_ ?_; (focus (exact ⟨by omega, by omega⟩)); intro _; (try simp only [List.cons_append, List.nil_append, List.append_nil])))
    exact Zj (k + 2) hlt sbB slB (by omega)
  ·have hge : k = m := by have := of_decide_eq_false h; omega
   subst hge
   repeat (refine wkB ?_; try intro _)
   by_cases ho : k = 1
   ·simp only [decide_eq_true (show (k : Int) = 1 by omega)]
    repeat (refine wkB ?_; try intro _)
    rename_i b7
    subst ho
    (refine Za3 [0, 1, 2, 3, 4, 5, 6, 7, 8, 9, 10, 11, 12, 13, 14] [15, 16, 17] (_) (h := ?_); refine wkI ?_)
    (repeat (refine wkH ?_))
    refine Zr ?_
    repeat (refine wkT ?_; try intro _)
    repeat (refine wkB ?_; try intro _)
    rename_i b8
    have e1 : frS pts = [one1 (gi pts 0)] := by unfold frS; rw [if_pos hn]
    have e2 : frE pts = 0 := by unfold frE; rw [if_pos hn]
    obtain ⟨s', hv', hm'⟩ := SlS.put (enc := rP) (k := 36) (b := b8) (sp := []) (c := 1) (ys := frS pts) 115 (by rw [e1]; rfl) ⟨Nat.le_refl _, rfl⟩ Nat.one_pos
    refine Zv (v1 := vSl s') (v2 := .int .i64 (frE pts)) rfl (Zk (by rw [hv']; rfl)) (Zk (by rw [e2]; rfl)) (fun w hw => ⟨s', rfl, ?_⟩)
    dsimp only
    rw [hm', e1]
    exact hw.sub suB
   ·simp only [decide_eq_false (show ¬ (k : Int) = 1 by omega)]
    repeat (refine wkB ?_; try intro _)
    refine Zq (S := (m : Nat) × SlS rP 36 (sgs pts m)) (fun s => s.1 ≤ k - 1) (fun s => [(0, .slice (some ⟨b, 0, none⟩) k c), (8, vSl s.2), (9, .int .i64 ((s.1 + 1 : Nat)))]) (fun s => mS 115 s.2) (fun s => k - 1 - s.1) ⟨0, SlS.no⟩ (Nat.zero_le _) sbB slB (fun s hm => ?_)
    obtain ⟨m, s⟩ := s
    simp only at hm ⊢
    have hsl := Zdf pts m
    repeat (refine wkB ?_; try intro _)
    refine Zl rfl (fun h => ?_) (fun h => ?_)
    ·have hlt : m + 1 < k := by have := of_decide_eq_true h; omega
     have e1 : ((m + 1 : Nat) : Int) - 1 = (m : Int) := by omega
     have hp : ∀ i : Int, M (gi pts i).T ≤ 34359738368 ∧ M (gi pts i).P.X ≤ 34359738368 ∧ M (gi pts i).P.Y ≤ 34359738368 := fun i => ⟨Nat.le_trans (hB i).1 (by decide), Nat.le_trans (hB i).2.1 (by decide), Nat.le_trans (hB i).2.2 (by decide)⟩
     repeat (refine wkB ?_; try intro _)
     (refine ZhA [0, 1, 2, 3, 4, 5, 6, 7, 8] [9, 10] [11, 12] ([]) (h := ?_); refine wkI ?_)
     (repeat (refine wkH ?_))
     simp only [e1]
     repeat (refine wkT ?_; try intro _)
     repeat (first | (refine wkB ?_; try intro _) | (refine sC rfl rfl ?_ ?_; focus (first | exact ⟨(hp _).1, (hp _).2.1, (hp _).1, (hp _).2.1⟩ | exact ⟨(hp _).1, (hp _).2.2, (hp _).1, (hp _).2.2⟩)) | (refine sN rfl rfl ?_ ?_; (focus (first | exact ⟨(hp _).1, (hp _).2.1, (hp _).1, (hp _).2.1⟩ | exact ⟨(hp _).1, (hp _).2.2, (hp _).1, (hp _).2.2⟩)); intro _; (try simp only [List.cons_append, List.nil_append, List.append_nil])))
     refine jD 9 10 (h := ?_)
     (repeat (refine wkH ?_))
     refine Zr ?_
     (repeat (refine Z6 ?_; intro _))
     refine Zt ?_
     repeat (refine wkB ?_; try intro _)
     refine sU rfl rfl ?_ ?_ ?_ ?_
     ·rfl
     ·rfl
     ·exact ⟨by decide, by omega, by omega⟩
     intro s'
     repeat (first | (refine wkB ?_; try intro _) | (refine sC rfl rfl ?_ ?_; focus (exact ⟨by omega, by omega⟩)) | (refine sN rfl rfl ?_ ?_; (focus (exact ⟨by omega, by omega⟩)); intro _; (try simp only [List.cons_append, List.nil_append, List.append_nil])))
     exact Zj ⟨m + 1, s'⟩ (by show m + 1 ≤ k - 1; omega) sbB suB (by show k - 1 - (m + 1) < k - 1 - m; omega)
    ·have hge : m = k - 1 := by have := of_decide_eq_false h; omega
     subst hge
     repeat (first | (refine wkB ?_; try intro _) | (refine sC rfl rfl ?_ ?_; focus (first | exact trivial | exact ⟨by omega, Zjj hB _⟩)) | (refine sN rfl rfl ?_ ?_; (focus (first | exact trivial | exact ⟨by omega, Zjj hB _⟩)); intro _; (try simp only [List.cons_append, List.nil_append, List.append_nil])))
     rename_i s2
     have e1 : frS pts = mNorm (sgs pts (k - 1)) := by unfold frS; rw [if_neg (by omega), hn]
     have e2 : frE pts = nrmE (mpN toU (sgs pts (k - 1)) (sgs pts (k - 1)).length) := by unfold frE; rw [if_neg (by omega), hn]
     obtain ⟨s', hv', hm'⟩ := SlS.turn 115 e1.symm s2
     exact Zv (v1 := vSl s') (v2 := .int .i64 (frE pts)) rfl (Zk (by rw [hv']; rfl)) (Zk (by rw [e2]; rfl)) (fun w hw => ⟨s', rfl, by dsimp only; rw [hm']; exact hw.sub suB⟩)
end Go.Vt
/- What the moving point through samples says: plain. Conditions: those that each statement names. -/
namespace Go.Vt
open Go.RowKit Go.Proofs
def Inc (pts : List SS) : Prop := ∀ i : Nat, i + 1 < pts.length → (gi pts (i : Int)).T < (gi pts ((i + 1 : Nat) : Int)).T
theorem Inc.lt {pts : List SS} (h : Inc pts) : ∀ {j i : Nat}, i < j → j < pts.length → (gi pts (i : Int)).T < (gi pts (j : Int)).T
 | 0, i, hij, _ => by omega
 | j + 1, i, hij, hj => by
  have h1 := h j hj
  rcases (by omega : i < j ∨ i = j) with h2 | h2
  ·have := h.lt h2 (by omega)
   grind
  ·subst h2; exact h1
theorem ZnS (pts : List SS) : ∀ m (i : Nat), i < m → gi (sgs pts m) (i : Int) = sgU pts i
 | 0, i, h => by omega
 | m + 1, i, h => by
  have hl := Zdf pts m
  rw [Zi (by rw [Zdf]; exact h)]
  simp only [sgs]
  rcases (by omega : i < m ∨ i = m) with h1 | h1
  ·rw [List.getElem_append_left (by omega), ← Zi (by omega)]
   exact ZnS pts m i h1
  ·subst h1
   rw [List.getElem_append_right (by omega)]
   simp [hl]
def sgW (pts : List SS) (m : Nat) : List UL := mpN toU (sgs pts m) (sgs pts m).length
theorem Zhl (pts : List SS) (m : Nat) : sgW pts m = (sgs pts m).map toU := Zfw _ _
theorem Zd9 (pts : List SS) (m : Nat) : (sgW pts m).length = m := by rw [Zhl, List.length_map, Zdf]
theorem ZkU {pts : List SS} {m i : Nat} (h : i < m) : gi (sgW pts m) (i : Int) = toU (sgU pts i) := by
 rw [Zi (by rw [Zd9]; exact h)]
 simp only [Zhl, List.getElem_map]
 rw [← Zi (by rw [Zdf]; exact h), ZnS pts m i h]
theorem ZkO {pts : List SS} {m : Nat} {u : UL} (h : u ∈ sgW pts m) : ∃ i, i < m ∧ u = toU (sgU pts i) := by
 rw [Zhl] at h
 obtain ⟨x, hx, rfl⟩ := List.mem_map.1 h
 obtain ⟨i, h1, rfl⟩ := Zg6 pts m hx
 exact ⟨i, h1, rfl⟩
theorem Zg1 {pts : List SS} (hB : Bnd pts) (hi : Inc pts) {m : Nat} (hm : m + 1 ≤ pts.length) : UVal (sgW pts m) := by
 refine ⟨Zjj hB m, fun u hu => ?_⟩
 obtain ⟨i, h1, rfl⟩ := ZkO hu
 exact .inl (hi i (by omega))
theorem ZtW {pts : List SS} (hB : Bnd pts) (hi : Inc pts) {m : Nat} (hm : m + 1 ≤ pts.length) : ((sgW pts m).map absU).Pairwise GU.bfr := by
 have hv := Zg1 hB hi hm
 refine Zen (fun u hu => ?_) (fun i h => ?_)
 ·obtain ⟨x, hx, rfl⟩ := List.mem_map.1 hu
  exact hv.v x hx
 ·rw [List.length_map, Zd9] at h
  rw [List.getElem_map, List.getElem_map, ← Zi (by rw [Zd9]; omega), ← Zi (by rw [Zd9]; exact h), ZkU (by omega), ZkU h]
  refine .inr ⟨rfl, .inr ?_⟩
  show decide ((1 : Int) < ((i + 1 + 1 : Nat) : Int)) = true
  exact decide_eq_true (by omega)
theorem Zrw (us : List UL) : mpN toU (mpN ofU us us.length) (mpN ofU us us.length).length = us := by
 rw [Zfw, Zfw, List.map_map]
 have : ∀ u ∈ us, (toU ∘ ofU) u = id u := fun u _ => rfl
 rw [List.map_congr_left this, List.map_id]
theorem Zlj (us : List PU) : mpN toU (mNorm us) (mNorm us).length = nrmR (mpN toU us us.length) := Zrw _
theorem Zr6 {pts : List SS} (hB : Bnd pts) (hi : Inc pts) (h2 : 2 ≤ pts.length) : frE pts = 0 ∧ NF ((mpN toU (frS pts) (frS pts).length).map absU) ∧ (∀ u ∈ mpN toU (frS pts) (frS pts).length, UOk u) ∧ ∀ t v, Has ((mpN toU (frS pts) (frS pts).length).map absU) t v ↔ Has ((sgW pts (pts.length - 1)).map absU) t v := by
 have hv := Zg1 hB hi (m := pts.length - 1) (by omega)
 have hp := ZtW hB hi (m := pts.length - 1) (by omega)
 have hd : ((sgW pts (pts.length - 1)).map absU).Pairwise Dis := hp.imp fun h => h.Dis
 have e1 : frS pts = mNorm (sgs pts (pts.length - 1)) := by unfold frS; rw [if_neg (by omega)]
 have e2 : frE pts = nrmE (sgW pts (pts.length - 1)) := by unfold frE; rw [if_neg (by omega)]; rfl
 have e3 : mpN toU (frS pts) (frS pts).length = nrmR (sgW pts (pts.length - 1)) := by rw [e1, Zlj]; rfl
 obtain ⟨n1, n2⟩ := ZtO hv hd
 rw [e3]
 exact ⟨by rw [e2]; exact (Zsy hv).2 hd, n1, Zr8 hv.i, n2⟩
end Go.Vt
/- A normal form has at most as many units as what it was made of. Conditions: those that each statement names. -/
set_option linter.unusedSectionVars false
namespace Go.Vt
open Fv (va red)
section
variable {T F V : Type} [LE T] [LT T] [Std.LawfulOrderLT T] [Std.IsLinearOrder T] [Dns T] [Fv F T V] [DecidableEq T]
def Upw (xs : List (GU T F)) : Prop := ∀ u ∈ xs, u.a ≤ u.b
theorem Upw.snoc {xs : List (GU T F)} {u : GU T F} (h : Upw xs) (hu : u.a ≤ u.b) : Upw (xs ++ [u]) := fun w hw => by
 rcases List.mem_append.1 hw with h1 | h1
 ·exact h w h1
 ·rw [List.mem_singleton] at h1
  exact h1 ▸ hu
theorem Upw.init {xs : List (GU T F)} {u : GU T F} (h : Upw (xs ++ [u])) : Upw xs ∧ u.a ≤ u.b := ⟨fun w hw => h w (List.mem_append_left _ hw), h u (List.mem_append_right _ (.head _))⟩
theorem ZfA {pv nx : Option (GU T F)} {xs xs' : List (GU T F)} {x : GU T F} (h : Stp pv nx xs x xs') (hx : x.a ≤ x.b) (hu : Upw xs) : Upw xs' ∧ xs'.length ≤ xs.length + 1 := by
 cases h with
 | ext h1 h2 h3 h4 h5 =>
  obtain ⟨h6, h7⟩ := hu.init
  exact ⟨h6.snoc (by simp only; grind), by simp⟩
 | appO h1 h2 h3 h4 => exact ⟨hu.snoc hx, by simp⟩
 | appN h1 h2 h3 => exact ⟨hu.snoc hx, by simp⟩
 | clo h1 h2 h3 h4 =>
  obtain ⟨h6, h7⟩ := hu.init
  exact ⟨h6.snoc h7, by simp⟩
 | lft h1 h2 h3 => exact ⟨hu, by simp⟩
 | rdc h1 h2 h3 => exact ⟨hu.snoc hx, by simp⟩
theorem Zre {pv : Option (GU T F)} {xs xs' : List (GU T F)} {x n : GU T F} (h : Stp pv (some n) xs x xs') (hi : x.a = x.b) (hn : n.a = x.a) (hf : n.f = x.f) (hu : Upw xs) : Upw xs' ∧ xs'.length ≤ xs.length := by
 cases h with
 | ext h1 => exact absurd hi h1
 | appO h1 => exact absurd hi h1
 | appN h1 => exact absurd hi h1
 | clo h1 h2 h3 h4 =>
  obtain ⟨h6, h7⟩ := hu.init
  exact ⟨h6.snoc h7, by simp⟩
 | lft h1 h2 h3 => exact ⟨hu, by simp⟩
 | rdc h1 h2 h3 => exact absurd ⟨n, rfl, hn, by rw [hf]⟩ h3
theorem Zk5 {pv nx : Option (GU T F)} {xs xs' : List (GU T F)} {x : GU T F} (h : Stp pv nx xs x xs') (hx : x.a < x.b) (hu : Upw xs) : Upw xs' ∧ xs'.length ≤ xs.length + 1 ∧ ∃ ys w, xs' = ys ++ [w] ∧ w.b = x.b ∧ w.f = x.f ∧ w.a ≠ w.b := by
 refine ⟨(ZfA h (by grind) hu).1, (ZfA h (by grind) hu).2, ?_⟩
 cases h with
 | ext h1 h2 h3 h4 h5 =>
  obtain ⟨h6, h7⟩ := hu.init
  exact ⟨_, _, rfl, rfl, h5, by simp only; grind⟩
 | appO h1 h2 h3 h4 => exact ⟨_, _, rfl, rfl, rfl, h1⟩
 | appN h1 h2 h3 => exact ⟨_, _, rfl, rfl, rfl, h1⟩
 | clo h1 => grind
 | lft h1 => grind
 | rdc h1 => grind
theorem Zsp {pv nx : Option (GU T F)} {ys xs' : List (GU T F)} {x w : GU T F} (h : Stp pv nx (ys ++ [w]) x xs') (hi : x.a = x.b) (hb : w.b = x.a) (hf : w.f = x.f) (hl : w.a ≠ w.b) (hu : Upw (ys ++ [w])) : Upw xs' ∧ xs'.length ≤ (ys ++ [w]).length := by
 refine ⟨(ZfA h (by grind) hu).1, ?_⟩
 generalize hz : ys ++ [w] = zs at *
 cases h with
 | ext h1 => exact absurd hi h1
 | appO h1 => exact absurd hi h1
 | appN h1 => exact absurd hi h1
 | clo h1 h2 h3 h4 => simp
 | lft h1 h2 h3 => exact Nat.le_refl _
 | rdc h1 h2 h3 => exact absurd (by rw [hf]) (h2 ys w hz.symm hb hl)
theorem Znm : ∀ (us : List (GU T F)), (∀ u ∈ us, u.ok) → ∀ (pv : Option (GU T F)) (xs out : List (GU T F)), Upw xs → Mk pv xs (partsL us) out → out.length ≤ xs.length + us.length
 | [], _, pv, xs, out, _, h => by
  simp only [partsL, List.flatMap_nil] at h
  cases h with
  | nil => exact Nat.le_refl _
 | u :: us, hok, pv, xs, out, hu, h => by
  have hk := hok u (.head _)
  have hks : ∀ u ∈ us, u.ok := fun w hw => hok w (.tail _ hw)
  rw [Zd2] at h
  have go : ∀ (pv : Option (GU T F)) (zs : List (GU T F)), Upw zs → zs.length ≤ xs.length + 1 → Mk pv zs (partsL us) out → out.length ≤ xs.length + (u :: us).length := fun pv zs hz hl hm => by
   have := Znm us hks pv zs out hz hm
   rw [List.length_cons]
   omega
  unfold GU.parts at h
  by_cases he : u.a = u.b
  ·have ho : u.oa = false := by unfold GU.ok at hk; grind
   simp only [ho, he, if_true, Bool.false_eq_true, if_false, List.append_nil, List.cons_append, List.nil_append] at h
   cases h with
   | cons hs hm =>
    have h1 := ZfA hs (by simp only; grind) hu
    exact go _ _ h1.1 h1.2 hm
  ·have hlt : u.a < u.b := by unfold GU.ok at hk; grind
   have mid : ∀ (pv : Option (GU T F)) (zs : List (GU T F)), Upw zs → zs.length ≤ xs.length → Mk pv zs ((⟨u.a, u.b, true, true, u.f⟩ :: if u.ob = true then [] else [⟨u.b, u.b, false, false, u.f⟩]) ++ partsL us) out → out.length ≤ xs.length + (u :: us).length := fun pv zs hz hl hm => by
    rcases hb : u.ob with _ | _
    ·simp only [hb, Bool.false_eq_true, if_false, List.cons_append, List.nil_append] at hm
     cases hm with
     | cons hs hm =>
      obtain ⟨h1, h2, ys, w, hw, h3, h4, h5⟩ := Zk5 hs hlt hz
      subst hw
      cases hm with
      | cons hs hm =>
       have h6 := Zsp hs rfl h3 h4 h5 h1
       exact go _ _ h6.1 (by omega) hm
    ·simp only [hb, if_true, List.cons_append, List.nil_append] at hm
     cases hm with
     | cons hs hm =>
      obtain ⟨h1, h2, _⟩ := Zk5 hs hlt hz
      exact go _ _ h1 (by omega) hm
   rcases ho : u.oa with _ | _
   ·simp only [ho, he, Bool.false_eq_true, if_false, List.cons_append, List.nil_append] at h
    cases h with
    | cons hs hm =>
     simp only [List.head?_cons] at hs
     have h1 := Zre hs rfl rfl rfl hu
     exact mid _ _ h1.1 h1.2 (by simpa using hm)
   ·simp only [ho, he, if_true, if_false, List.nil_append] at h
    exact mid _ _ hu (Nat.le_refl _) h
end
theorem ZoZ {us : List UL} (h : UVal us) : (nrmR us).length ≤ us.length := by
 have hs := h.sor
 have hok : ∀ u ∈ (Go.Vt.sor us).map absU, u.ok := fun u hu => by
  obtain ⟨w, hw, rfl⟩ := List.mem_map.1 hu
  exact hs.v w hw
 have hall := Zfi hs.i (Go.Vt.sor us).length (Nat.le_refl _)
 have hmk := ZiD hall _ 0 (Nat.zero_add _)
 have hparts : (atm (Go.Vt.sor us) (Go.Vt.sor us).length).map absU = partsL ((Go.Vt.sor us).map absU) := by
  have := ZgX (fun u hu => (hs.i u hu).i) (Go.Vt.sor us).length (Nat.le_refl _)
  rw [List.take_length] at this
  exact this
 rw [List.drop_zero, hparts] at hmk
 have hl := Znm _ hok _ _ _ (fun u hu => by cases hu) hmk
 have hp := (ZeA us).length_eq
 simp only [nrm, List.map_nil, List.length_nil, Nat.zero_add, List.length_map] at hl
 unfold nrmR
 split
 ·unfold allU
  omega
 ·exact Nat.zero_le _
end Go.Vt
/- The examples of the chapter, and the reference's best list. Conditions: those that each statement names. -/
namespace Go.Vt
open Go.RowKit Go.Proofs
theorem ZnZ {pts : List ZO} (h : ∀ x ∈ pts, M x.T ≤ PB ∧ M x.P.X ≤ PB ∧ M x.P.Y ≤ PB) : Bnd pts := fun i => by
 by_cases hi : i.toNat < pts.length
 ·rw [ZcV hi]
  exact h _ (List.getElem_mem hi)
 ·have : gi pts i = default := by unfold gi; simp only [List.getD_eq_getElem?_getD, List.getElem?_eq_none (by omega : pts.length ≤ i.toNat)]; rfl
  rw [this]
  exact ⟨by decide +kernel, by decide +kernel, by decide +kernel⟩
end Go.Vt
/- The trajectory through samples that are cut at gaps, plainly. Conditions: those that each statement names. -/
set_option linter.unusedSectionVars false
namespace Go.Vt
open Go.RowKit Go.Proofs
open Fv (va red)
section
variable {T F V : Type} [LE T] [LT T] [Std.LawfulOrderLT T] [Std.IsLinearOrder T] [Dns T] [Fv F T V]
theorem NF.gap {xs ys : List (GU T F)} (hx : NF xs) (hy : NF ys) (h : ∀ u ∈ xs, ∀ w ∈ ys, u.b < w.a) : NF (xs ++ ys) := by
 refine ⟨fun u hu => ?_, fun u hu => ?_, List.pairwise_append.2 ⟨hx.pw, hy.pw, fun u hu w hw => ?_⟩⟩
 ·rcases List.mem_append.1 hu with h1 | h1
  ·exact hx.ok u h1
  ·exact hy.ok u h1
 ·rcases List.mem_append.1 hu with h1 | h1
  ·exact hx.rd u h1
  ·exact hy.rd u h1
 ·have h1 := h u hu w hw
  refine ⟨.inl h1, fun e => ?_, fun e => ?_, fun e => ?_⟩ <;> exfalso <;> grind
end
theorem Zou {l : List (GU Rat ZG)} {a b : Rat} (ho : ∀ u ∈ l, u.ok) (h : ∀ t v, Has l t v → a ≤ t ∧ t ≤ b) : ∀ u ∈ l, a ≤ u.a ∧ u.b ≤ b := fun u hu => by
 have hm : ∀ t, u.mem t → a ≤ t ∧ t ≤ b := fun t ht => h t _ ⟨u, hu, ht, rfl⟩
 rcases ho u hu with h1 | ⟨h1, h2, h3⟩
 ·refine ⟨?_, ?_⟩
  ·rcases Std.le_total (a := a) (b := u.a) with h2 | h2
   ·exact h2
   ·rcases Classical.em (u.a = a) with h3 | h3
    ·grind
    ·obtain ⟨t, t1, t2, t3⟩ := dens2 (a := u.a) (b := u.b) (c := a) h1 (by grind)
     have := hm t ⟨.inl t1, .inl t2⟩
     grind
  ·rcases Std.le_total (a := u.b) (b := b) with h2 | h2
   ·exact h2
   ·rcases Classical.em (u.b = b) with h3 | h3
    ·grind
    ·have hb : b < u.b := by grind
     rcases Std.le_total (a := u.a) (b := b) with h4 | h4
     ·obtain ⟨t, t1, t2⟩ := Dns.out b u.b hb
      have := hm t ⟨.inl (by grind), .inl t2⟩
      grind
     ·obtain ⟨t, t1, t2⟩ := Dns.out u.a u.b h1
      have := hm t ⟨.inl t1, .inl t2⟩
      grind
 ·have := hm u.a ⟨.inr ⟨rfl, h2⟩, .inr ⟨h1, h3⟩⟩
  grind
theorem ZgK {pts : List SS} (h : Inc pts) : ∀ {i j : Nat}, i ≤ j → j < pts.length → (gi pts (i : Int)).T ≤ (gi pts (j : Int)).T
 | i, 0, h1, _ => by
  have : i = 0 := by omega
  subst this
  exact Rat.le_refl
 | i, j + 1, h1, h2 => by
  rcases Nat.lt_or_ge i (j + 1) with h3 | h3
  ·have := ZgK h (i := i) (j := j) (by omega) (by omega)
   have := h j h2
   grind
  ·have : i = j + 1 := by omega
   subst this
   exact Rat.le_refl
theorem Zrm (l : List PU) : mpN toU l l.length = l.map toU := Zfw _ _
abbrev aU (l : List PU) : List (GU Rat ZG) := (l.map toU).map absU
theorem ZoV {pts : List SS} (hB : Bnd pts) (hi : Inc pts) (hn : 0 < pts.length) : NF (aU (frS pts)) ∧ (∀ u ∈ frS pts, UOk (toU u)) ∧ ∀ u ∈ frS pts, (gi pts ((0 : Nat) : Int)).T ≤ u.In.From.P ∧ u.In.To.P ≤ (gi pts ((pts.length - 1 : Nat) : Int)).T := by
 rcases (by omega : pts.length = 1 ∨ 2 ≤ pts.length) with h1 | h1
 ·have e : frS pts = [one1 (gi pts 0)] := by unfold frS; rw [if_pos h1]
  have hb := hB 0
  rw [e, h1]
  generalize gi pts 0 = p at *
  have hz : M 0 ≤ BQ := by decide
  refine ⟨NF.one (.inr ⟨rfl, rfl, rfl⟩) (fun _ => ?_), fun u hu => ?_, fun u hu => ?_⟩
  ·show (⟨p.P.X, 0, p.P.Y, 0⟩ : ZG) = lred ⟨p.P.X, 0, p.P.Y, 0⟩ p.T
   simp [lred, lin, Rat.mul_zero, Rat.add_zero]
  ·rw [List.mem_singleton] at hu
   subst hu
   exact ⟨⟨rfl, rfl, rfl, rfl, Nat.le_trans hb.1 (by decide), Nat.le_trans hb.1 (by decide)⟩, ⟨Nat.le_trans hb.2.1 (by decide), hz, Nat.le_trans hb.2.2 (by decide), hz⟩⟩
  ·rw [List.mem_singleton] at hu
   subst hu
   exact ⟨Rat.le_refl, Rat.le_refl⟩
 ·obtain ⟨-, k1, k2, k3⟩ := Zr6 hB hi h1
  rw [Zrm] at k1 k2 k3
  refine ⟨k1, fun u hu => k2 _ (List.mem_map.2 ⟨u, hu, rfl⟩), fun u hu => ?_⟩
  refine Zou (l := aU (frS pts)) (a := (gi pts ((0 : Nat) : Int)).T) (b := (gi pts ((pts.length - 1 : Nat) : Int)).T) k1.ok (fun t v hh => ?_) (absU (toU u)) (List.mem_map.2 ⟨toU u, List.mem_map.2 ⟨u, hu, rfl⟩, rfl⟩)
  obtain ⟨g, hg, hm, -⟩ := (k3 t v).1 hh
  obtain ⟨w, hw, rfl⟩ := List.mem_map.1 hg
  obtain ⟨i, hi1, rfl⟩ := ZkO hw
  have q1 := ZgK hi (i := 0) (j := i) (by omega) (by omega)
  have q2 := ZgK hi (i := i + 1) (j := pts.length - 1) (by omega) (by omega)
  have m1 : (gi pts (i : Int)).T ≤ t := by
   rcases hm.1 with h | h
   ·exact Rat.le_of_lt h
   ·have e : (gi pts (i : Int)).T = t := h.1
    rw [e]
    exact Rat.le_refl
  have m2 : t ≤ (gi pts ((i + 1 : Nat) : Int)).T := by
   rcases hm.2 with h | h
   ·exact Rat.le_of_lt h
   ·have e : t = (gi pts ((i + 1 : Nat) : Int)).T := h.1
    rw [e]
    exact Rat.le_refl
  exact ⟨Rat.le_trans q1 m1, Rat.le_trans m2 q2⟩
def thrC (l : List SS) (g : Rat) (i : Nat) : Bool := decide (i + 1 < l.length) && !decide (g < (gi l ((i + 1 : Nat) : Int)).T - (gi l (i : Int)).T)
def thrN (l : List SS) (g : Rat) : Nat → List PU × List SS
 | 0 => ([], [])
 | i + 1 => if thrC l g i then ((thrN l g i).1, (thrN l g i).2 ++ [gi l (i : Int)]) else ((thrN l g i).1 ++ frS ((thrN l g i).2 ++ [gi l (i : Int)]), [])
theorem ZkY {pts : List SS} (hB : Bnd pts) (hi : Inc pts) (hn : 0 < pts.length) : (frS pts).length ≤ pts.length := by
 unfold frS
 split
 ·rename_i h; rw [h]; simp
 ·have := ZoZ (Zg1 hB hi (m := pts.length - 1) (by omega))
  rw [Zd9] at this
  have e : (mNorm (sgs pts (pts.length - 1))).length = (nrmR (sgW pts (pts.length - 1))).length := by
   have := congrArg List.length (Zlj (sgs pts (pts.length - 1)))
   rw [Zea] at this
   exact this
  omega
structure ThrOk (l : List SS) (i : Nat) (s : List PU × List SS) : Prop where
 r : s.2.length ≤ i
 run : s.2 = (l.drop (i - s.2.length)).take s.2.length
 nf : NF (aU s.1)
 k : ∀ u ∈ s.1, UOk (toU u)
 hi : ∀ u ∈ s.1, ∀ j, i - s.2.length ≤ j → j < l.length → u.In.To.P < (gi l (j : Int)).T
 n : s.1.length + s.2.length ≤ i
theorem Zlz {l : List SS} {a r : Nat} (hB : Bnd l) (hi : Inc l) (h : a + r ≤ l.length) : Bnd ((l.drop a).take r) ∧ Inc ((l.drop a).take r) ∧ ∀ k, k < r → gi ((l.drop a).take r) (k : Int) = gi l ((a + k : Nat) : Int) := by
 have hl : ((l.drop a).take r).length = r := by rw [List.length_take, List.length_drop]; omega
 have hg : ∀ k, k < r → gi ((l.drop a).take r) (k : Int) = gi l ((a + k : Nat) : Int) := fun k hk => by
  rw [Zi (by omega), Zi (by omega), List.getElem_take, List.getElem_drop]
 refine ⟨ZnZ fun s hs => ?_, fun i h1 => ?_, hg⟩
 ·have hm := List.mem_of_mem_drop (List.mem_of_mem_take hs)
  obtain ⟨k, hk, rfl⟩ := List.getElem_of_mem hm
  have := hB (k : Int)
  rwa [Zi hk] at this
 ·rw [hl] at h1
  rw [hg i (by omega), hg (i + 1) h1]
  exact hi (a + i) (by omega)
theorem ZiX {l : List SS} {g : Rat} (hB : Bnd l) (hi : Inc l) : ∀ i, i ≤ l.length → ThrOk l i (thrN l g i)
 | 0, _ => ⟨Nat.le_refl _, rfl, NF.nil, (fun u hu => by cases hu), (fun u hu => by cases hu), Nat.le_refl _⟩
 | i + 1, h => by
  have ih := ZiX (g := g) hB hi i (by omega)
  simp only [thrN]
  generalize thrN l g i = s at ih
  obtain ⟨out, run⟩ := s
  obtain ⟨i1, i2, i3, i4, i5, i6⟩ := ih
  simp only at i1 i2 i3 i4 i5 i6 ⊢
  have er : run ++ [gi l (i : Int)] = (l.drop (i - run.length)).take (run.length + 1) := by
   rw [List.take_succ_eq_append_getElem (by rw [List.length_drop]; omega), ← i2, List.getElem_drop, Zi (by omega)]
   congr 2
   simp only [show i - run.length + run.length = i by omega]
  split
  ·refine ⟨by simp only [List.length_append, List.length_singleton]; omega, ?_, i3, i4, fun u hu j h1 h2 => ?_, by simp only [List.length_append, List.length_singleton]; omega⟩
   ·simp only [List.length_append, List.length_singleton, show i + 1 - (run.length + 1) = i - run.length by omega]
    exact er
   ·simp only [List.length_append, List.length_singleton] at h1
    exact i5 u hu j (by omega) h2
  ·obtain ⟨p1, p2, p3⟩ := Zlz (a := i - run.length) (r := run.length + 1) hB hi (by omega)
   have hl : ((l.drop (i - run.length)).take (run.length + 1)).length = run.length + 1 := by rw [List.length_take, List.length_drop]; omega
   rw [er]
   obtain ⟨q1, q2, q3⟩ := ZoV p1 p2 (by omega)
   have q4 := ZkY p1 p2 (by omega)
   rw [hl] at q3 q4
   rw [p3 0 (by omega), p3 (run.length + 1 - 1) (by omega), show i - run.length + (run.length + 1 - 1) = i by omega, Nat.add_zero] at q3
   refine ⟨Nat.zero_le _, by simp, ?_, fun u hu => ?_, fun u hu j h1 h2 => ?_, ?_⟩
   ·have e : aU (out ++ frS ((l.drop (i - run.length)).take (run.length + 1))) = aU out ++ aU (frS ((l.drop (i - run.length)).take (run.length + 1))) := by simp [aU]
    rw [e]
    refine i3.gap q1 fun u hu w hw => ?_
    obtain ⟨u1, hu1, rfl⟩ := List.mem_map.1 hu
    obtain ⟨u2, hu2, rfl⟩ := List.mem_map.1 hu1
    obtain ⟨w1, hw1, rfl⟩ := List.mem_map.1 hw
    obtain ⟨w2, hw2, rfl⟩ := List.mem_map.1 hw1
    have h1 := i5 u2 hu2 (i - run.length) (Nat.le_refl _) (by omega)
    have h2 := (q3 w2 hw2).1
    show u2.In.To.P < w2.In.From.P
    grind
   ·rcases List.mem_append.1 hu with h3 | h3
    ·exact i4 u h3
    ·exact q2 u h3
   ·simp only [List.length_nil, Nat.sub_zero] at h1
    rcases List.mem_append.1 hu with h3 | h3
    ·exact i5 u h3 j (by omega) h2
    ·have h4 := (q3 u h3).2
     have h5 := ZgK hi (i := i + 1) (j := j) h1 h2
     have h6 := hi i (by omega)
     grind
   ·simp only [List.length_append, List.length_nil]
    omega
end Go.Vt
/- SimplifyDeviates, walked. Conditions: those that each statement names. -/
namespace Go.Vt
open Go.RowKit Go.Proofs
instance ZDz (w0 : World) (L : List Blk) (b n c : Nat) (pts : List SS) (sp : List Value) (T : TypeId) [h : AtC w0 L b (row rS pts sp) T] : SpecR Tryz.prog w0 L 62 [.slice (some ⟨b, 0, none⟩) n c] (SlS rP 36 (frS pts)) (fun s => .tuple #[vSl s, .int .i64 (frE pts)]) (fun s => mS 115 s) ((pts.length = n ∧ 1 ≤ n ∧ n ≤ 19) ∧ Bnd pts ∧ Inc pts) := ⟨fun hp w hw =>
 Zl5 b n c pts sp T hp.1.1 hp.1.2.1 hp.1.2.2 hp.2.1 (fun i hi => hp.2.2 i (by omega)) w (h.out w hw)⟩
end Go.Vt
/- The trajectory through reports, walked. Conditions: those that each statement names. -/
namespace Go.Vt
open Go.RowKit Go.Proofs
instance ZCu (w0 : World) (L : List Blk) (v : Value) (l : List Ze) (s : ZN) [h : LstC w0 L v Ze Zo l] : SpecR Tryz.prog w0 L 41 [v, .agg (Zn s)] (SlS (eI .i64) 1 (cI (chainL (cCp s.MaxSpeed l) l.length))) (fun o => vSl o) (fun o => mS 3 o) (l.length ≤ 4096 ∧ (∀ x ∈ l, TkOk x) ∧ (-1048576 ≤ s.MaxSpeed ∧ s.MaxSpeed ≤ 1048576)) := ⟨fun hp w hw =>
 Zmt v l s w (h.out w hw) hp.1 hp.2.1 hp.2.2⟩
theorem Zft {α β : Type} [Inhabited α] [Inhabited β] {f : α → β} {xs : List α} {i : Nat} (h : i < xs.length) : gi (xs.map f) (i : Int) = f (gi xs (i : Int)) := by
 rw [Zi (by rw [List.length_map]; exact h), Zi h, List.getElem_map]
def smT (x : Ze) : SS := ⟨x.T, ptT x⟩
def spL (l : List Ze) : List SS := l.map smT
theorem ZcE (l : List Ze) : (spL l).length = l.length := List.length_map _
theorem Zhr {l : List Ze} (h : ∀ x ∈ l, TkOk x) : Bnd (spL l) := ZnZ fun x hx => by
 obtain ⟨y, hy, rfl⟩ := List.mem_map.1 hx
 have h1 := h y hy
 exact ⟨Nat.le_trans h1.t (by decide), Nat.le_trans (Zhy h1).1 (by decide), Nat.le_trans (Zhy h1).2 (by decide)⟩
theorem Zrh {l : List Ze} {g : Int} {i : Nat} (h : i < l.length) : thrC (spL l) (g : Rat) i = (decide (i + 1 < l.length) && !farT g (gi l (i : Int)) (gi l ((i + 1 : Nat) : Int))) := by
 unfold thrC farT
 rw [ZcE]
 by_cases h1 : i + 1 < l.length
 ·rw [show gi (spL l) (i : Int) = smT (gi l (i : Int)) from Zft (f := smT) h, show gi (spL l) ((i + 1 : Nat) : Int) = smT (gi l ((i + 1 : Nat) : Int)) from Zft (f := smT) h1]
  rfl
 ·rw [decide_eq_false h1, Bool.false_and, Bool.false_and]
abbrev thrT (l : List Ze) (g : Int) (i : Nat) : List PU × List SS := thrN (spL l) (g : Rat) i
set_option maxHeartbeats 8000000 in
theorem Zp8 (v : Value) (l : List Ze) (s : ZN) (w : World) (hv : ArgS w v Zo l) (hl : l.length ≤ 19) (hok : ∀ x ∈ l, TkOk x) (hinc : Inc (spL l)) (hs : -2147483648 ≤ s.MaxGap ∧ s.MaxGap ≤ 2147483648) :
  Calls Tryz.prog 42 [v, .agg (Zn s)].toArray w (RetM (SlS rP 36 (thrT l s.MaxGap l.length).1) (fun o => vSl o) (fun o => mS 115 o) w) := by
 obtain ⟨p, cp, rfl⟩ := hv.form
 generalize hn : l.length = n at *
 have hgo : ∀ i : Nat, i < n → TkOk (gi l (i : Int)) := fun i hi => hok _ (ZZ (by omega))
 have hO := fun i (hi : i ≤ n) => ZiX (g := (s.MaxGap : Rat)) (Zhr hok) hinc i (by rw [ZcE]; omega)
 refine Zg Tryz.func42 rfl Tryz.ntmps42 rfl ?_
 repeat (refine wkM ?_; try intro _)
 rename_i b3
 refine Zq (S := (i : Nat) × (th : List PU × List SS) × SlS rP 36 th.1 × SlS rS 12 th.2) (fun q => q.1 ≤ n ∧ q.2.1 = thrT l s.MaxGap q.1) (fun q => [(0, .slice p n cp), (3, .pointer (some ⟨b3, 0, none⟩)), (5, vSl q.2.2.1), (6, vSl q.2.2.2), (11, .slice p n cp), (12, .int .i64 n), (13, .int .i64 (q.1 : Nat))]) (fun q => mS 143 q.2.2.2 ++ (mS 115 q.2.2.1 ++ [⟨b3, Zn s, 32⟩])) (fun q => n - q.1) ⟨0, ([], []), SlS.no, SlS.no⟩ ⟨Nat.zero_le _, rfl⟩ sbB suB (fun q hq => ?_)
 obtain ⟨i, ⟨out, run⟩, o, r⟩ := q
 obtain ⟨hq, hth⟩ := hq
 simp only at hq hth o r ⊢
 have hi := hO i hq
 have hnx : thrT l s.MaxGap (i + 1) = if thrC (spL l) (s.MaxGap : Rat) i then ((thrT l s.MaxGap i).1, (thrT l s.MaxGap i).2 ++ [gi (spL l) (i : Int)]) else ((thrT l s.MaxGap i).1 ++ frS ((thrT l s.MaxGap i).2 ++ [gi (spL l) (i : Int)]), []) := rfl
 rw [show thrN (spL l) (s.MaxGap : Rat) i = (out, run) from hth.symm] at hi
 rw [← hth] at hnx
 have hrn : run.length ≤ i := hi.r
 have hon : out.length + run.length ≤ i := hi.n
 repeat (refine wkM ?_; try intro _)
 refine Zl rfl (fun h => ?_) (fun h => ?_)
 ·have hlt : i < n := by have := of_decide_eq_true h; omega
  have hrun : run ++ [gi (spL l) (i : Int)] = ((spL l).drop (i - run.length)).take (run.length + 1) := by
   have e : run = ((spL l).drop (i - run.length)).take run.length := hi.run
   rw [List.take_succ_eq_append_getElem (by rw [List.length_drop, ZcE]; omega), ← e]
   rw [List.getElem_drop, Zi (by rw [ZcE]; omega)]
   congr 2
   simp only [show i - run.length + run.length = i by omega]
  obtain ⟨p1, p2, -⟩ := Zlz (a := i - run.length) (r := run.length + 1) (Zhr hok) hinc (by rw [ZcE]; omega)
  rw [← hrun] at p1 p2
  have hCC := Zrh (g := s.MaxGap) (i := i) (l := l) (by omega)
  have hsm : gi (spL l) (i : Int) = smT (gi l (i : Int)) := Zft (f := smT) (by omega)
  rw [hsm] at hnx p1 p2
  have hlen : (run ++ [smT (gi l (i : Int))]).length = run.length + 1 := by simp
  have hfew := ZkY p1 p2 (by omega)
  have hne : l ≠ [] := fun h0 => by rw [h0] at hn; simp at hn; omega
  obtain ⟨bw, ow, cw, hvw, hcw, hrow⟩ := hv.blk (k := 11) hne []
  injection hvw with e1 e2 e3
  subst e1
  subst e3
  have hrow' : ∀ L, RowC w L bw ow Ze Zo l := fun L => ⟨fun w' hw' => hrow.out w' (hw'.sub (List.nil_sublist _))⟩
  have k1 := hgo i hlt
  repeat (refine wkM ?_; try intro _)
  rename_i b8
  (refine Zao (.v [0, 1, 2, 3, 4, 5] (.e1 6 (.e1 7 (.e1 8 (.fin))))) ([⟨b8, ZJ (ZF (gi l (i : Int))), 56⟩]) (h := ?_); refine wkX ?_)
  (repeat (first | refine wkH ?_ | (refine tC rfl rfl ?_ ?_; focus (exact k1))))
  repeat (refine wkT ?_; try intro _)
  refine eU rfl rfl ?_ ?_ ?_ ?_
  ·rfl
  ·rfl
  ·exact ⟨by decide, by omega, by omega⟩
  intro r'
  repeat (refine wkT ?_; try intro _)
  have hr' : ∃ r2 : SlS rS 12 (run ++ [smT (gi l (i : Int))]), vSl r2 = vSl r' ∧ ∀ T, mS T r2 = mS T r' := r'.like rfl
  obtain ⟨r2, hr2, hm2⟩ := hr'
  rw [← hr2]
  simp only [← hm2]
  clear hr2 hm2
  generalize smT (gi l (i : Int)) = x at *
  repeat (refine wkM ?_; try intro _)
  rename_i bx
  refine ZaR (S := Bool) (fun q => q = thrC (spL l) (s.MaxGap : Rat) i) (fun q => [(0, .slice (some ⟨bw, ow, none⟩) n cp), (3, .pointer (some ⟨b3, 0, none⟩)), (5, vSl o), (6, vSl r2), (11, .slice (some ⟨bw, ow, none⟩) n cp), (12, .int .i64 n), (13, .int .i64 (i : Nat)), (41, .bool q)]) (fun _ => mS 143 r2 ++ (mS 115 o ++ [⟨b3, Zn s, 32⟩])) ?_ (fun q hq2 => ?_)
  ·by_cases c1 : i + 1 < n
   ·rw [decide_eq_true (show i + 1 < l.length by omega), Bool.true_and] at hCC
    have k2 := hgo (i + 1) c1
    refine jD 16 16 (h := ?_)
    (repeat (refine wkH ?_))
    simp only [decide_eq_true (show (i : Int) + 1 < (n : Int) by omega)]
    (repeat (first | refine wkH ?_ | (refine tC rfl rfl ?_ ?_; focus (exact ⟨k1, k2, hs⟩))))
    refine Zr ?_
    refine Zt ?_
    repeat (refine wkM ?_; try intro _)
    exact ZT _ hCC.symm sbB suB
   ·rw [decide_eq_false (show ¬ i + 1 < l.length by omega), Bool.false_and] at hCC
    refine jD 16 16 (h := ?_)
    (repeat (refine wkH ?_))
    simp only [decide_eq_false (show ¬ (i : Int) + 1 < (n : Int) by omega)]
    (repeat (refine wkH ?_))
    refine Zr ?_
    refine Zt ?_
    repeat (refine wkM ?_; try intro _)
    exact ZT false hCC.symm sbB suB
  ·subst hq2
   cases hc : thrC (spL l) (s.MaxGap : Rat) i
   ·rw [hc, if_neg (by decide)] at hnx
    rcases r2.cases 143 with ⟨x0, x1, x2⟩ | ⟨bo, co, sp, hc1, x1, x2, xne⟩
    ·exact absurd (congrArg List.length x0) (by rw [hlen]; exact Nat.succ_ne_zero _)
    simp only [x1, x2, List.cons_append, List.nil_append]
    repeat (first | (refine wkM ?_; try intro _) | (refine sC rfl rfl ?_ ?_; focus (exact ⟨⟨rfl, by omega, by omega⟩, p1, p2⟩)) | (refine sN rfl rfl ?_ ?_; (focus (exact ⟨⟨rfl, by omega, by omega⟩, p1, p2⟩)); intro _; (try simp only [List.cons_append, List.nil_append, List.append_nil])))
    rename_i fs
    refine sV rfl rfl ?_ ?_ ?_
    ·rfl
    ·exact ⟨by omega, by omega⟩
    intro o'
    repeat (refine wkO ?_; try intro _)
    exact Zj ⟨i + 1, (out ++ frS (run ++ [x]), []), o', SlS.no⟩ ⟨hlt, hnx.symm⟩ sbB suB (by show n - (i + 1) < n - i; omega)
   ·rw [hc, if_pos rfl] at hnx
    repeat (refine wkO ?_; try intro _)
    exact Zj ⟨i + 1, (out, run ++ [x]), o, r2⟩ ⟨hlt, hnx.symm⟩ sbB suB (by show n - (i + 1) < n - i; omega)
 ·have hge : i = n := by have := of_decide_eq_false h; omega
  subst hge
  rw [← hth]
  repeat (refine wkM ?_; try intro _)
  exact Zf rfl rfl (fun w hw => ⟨o, rfl, hw.sub suB⟩)
instance Zu9 (w0 : World) (L : List Blk) (v : Value) (l : List Ze) (s : ZN) [h : LstC w0 L v Ze Zo l] : SpecR Tryz.prog w0 L 42 [v, .agg (Zn s)] (SlS rP 36 (thrT l s.MaxGap l.length).1) (fun o => vSl o) (fun o => mS 115 o) (l.length ≤ 19 ∧ (∀ x ∈ l, TkOk x) ∧ Inc (spL l) ∧ (-2147483648 ≤ s.MaxGap ∧ s.MaxGap ≤ 2147483648)) := ⟨fun hp w hw =>
 Zp8 v l s w (h.out w hw) hp.1 hp.2.1 hp.2.2.1 hp.2.2.2⟩
end Go.Vt
/- The reports of a chain; the gaps between them. Conditions: those that each statement names. -/
namespace Go.Vt
open Go.RowKit Go.Proofs
def kpT (v : Int) (l : List Ze) : List Ze := (chainL (cCp v l) l.length).map fun k : Nat => gi l (k : Int)
theorem ZcO (v : Int) (l : List Ze) : (kpT v l).length = (chainL (cCp v l) l.length).length := List.length_map _
theorem ZjR (C : Nat → Nat → Bool) (n : Nat) : ∀ i, (outN C n i).1.length ≤ i
 | 0 => Nat.le_refl _
 | i + 1 => by
  have := ZjR C n i
  rw [show outN C n (i + 1) = outS C n (outN C n i) i from rfl]
  unfold outS
  split
  ·rw [List.length_append, List.length_singleton]; omega
  ·omega
theorem Zcz (C : Nat → Nat → Bool) (n : Nat) : (chainL C n).length ≤ n := ZjR C n n
theorem ZgC {C : Nat → Nat → Bool} {n : Nat} {k : Nat} (h : k ∈ chainL C n) : k < n := ZnG C n k h
theorem Zfy {v : Int} {l : List Ze} {x : Ze} (h : x ∈ kpT v l) : x ∈ l := by
 obtain ⟨k, hk, rfl⟩ := List.mem_map.1 h
 have := ZgC hk
 exact ZZ (by omega)
def gapI (a b : Ze) : ZB := ⟨⟨a.T, 0, false⟩, ⟨b.T, 0, false⟩, true, true⟩
def gpT (g : Int) (l : List Ze) : Nat → List ZB
 | 0 => []
 | m + 1 => if farT g (gi l (m : Int)) (gi l ((m + 1 : Nat) : Int)) then gpT g l m ++ [gapI (gi l (m : Int)) (gi l ((m + 1 : Nat) : Int))] else gpT g l m
theorem Zlf (g : Int) (l : List Ze) : ∀ m, (gpT g l m).length ≤ m
 | 0 => Nat.le_refl _
 | m + 1 => by
  have := Zlf g l m
  simp only [gpT]
  split
  ·rw [List.length_append, List.length_singleton]; omega
  ·omega
end Go.Vt
