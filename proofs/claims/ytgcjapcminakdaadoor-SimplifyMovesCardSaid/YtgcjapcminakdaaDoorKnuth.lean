/- Plain mathematics: division of digits by digits. Conditions: those that each statement names. -/
import Derived.Test.YtgcjapcminakdaaDoorShort
set_option linter.unusedSimpArgs false
set_option linter.unusedVariables false
namespace Go.Vt


/-- The guess: 'g' is not less than the quotient. -/
theorem guess_start {U Y v1 v2 high z2 p : Nat} (hv : 0 < v1) (hz : z2 < 4294967296) (hU : U < (high * 4294967296 + z2 + 1) * p) (hY : (v1 * 4294967296 + v2) * p ≤ Y) : U < (high / v1 + 1) * Y := by
  have h1 := Nat.div_add_mod high v1
  have h2 := Nat.mod_lt high hv
  generalize high / v1 = g at *
  generalize high % v1 = r at *
  have h3 : high + 1 ≤ (g + 1) * v1 := by rw [Nat.add_mul, Nat.mul_comm g]; omega
  have h4 : (high + 1) * 4294967296 ≤ (g + 1) * v1 * 4294967296 := Nat.mul_le_mul_right _ h3
  have h5 : high * 4294967296 + z2 + 1 ≤ (g + 1) * (v1 * 4294967296 + v2) := by
    rw [Nat.mul_add, ← Nat.mul_assoc]
    have : (high + 1) * 4294967296 = high * 4294967296 + 4294967296 := by rw [Nat.add_mul, Nat.one_mul]
    omega
  have h6 : (high * 4294967296 + z2 + 1) * p ≤ (g + 1) * (v1 * 4294967296 + v2) * p := Nat.mul_le_mul_right _ h5
  have h7 : (g + 1) * ((v1 * 4294967296 + v2) * p) ≤ (g + 1) * Y := Nat.mul_le_mul_left _ hY
  rw [← Nat.mul_assoc] at h7
  omega
/-- A guess that fails the test is too great. -/
theorem guess_less {U Y v1 v2 high rest z2 p g : Nat} (hg : g * v1 + rest = high) (ht : rest * 4294967296 + z2 < g * v2) (hU : U < (high * 4294967296 + z2 + 1) * p) (hY : (v1 * 4294967296 + v2) * p ≤ Y) : U < g * Y := by
  have h5 : high * 4294967296 + z2 + 1 ≤ g * (v1 * 4294967296 + v2) := by
    rw [Nat.mul_add, ← Nat.mul_assoc, ← hg, Nat.add_mul]
    omega
  have h6 : (high * 4294967296 + z2 + 1) * p ≤ g * (v1 * 4294967296 + v2) * p := Nat.mul_le_mul_right _ h5
  have h7 : g * ((v1 * 4294967296 + v2) * p) ≤ g * Y := Nat.mul_le_mul_left _ hY
  rw [← Nat.mul_assoc] at h7
  omega
/-- A guess that passes the test is too great by one at most. -/
theorem guess_end {U Y v1 v2 high rest z2 p g : Nat} (hv : 0 < v1) (hg : g * v1 + rest = high) (ht : g * v2 ≤ rest * 4294967296 + z2) (hB : g < 4294967296) (hU : (high * 4294967296 + z2) * p ≤ U) (hY : Y ≤ (v1 * 4294967296 + v2 + 1) * p) (hY0 : (v1 * 4294967296 + v2) * p ≤ Y) : g * Y ≤ U + Y := by
  have h5 : g * (v1 * 4294967296 + v2) ≤ high * 4294967296 + z2 := by
    rw [Nat.mul_add, ← Nat.mul_assoc, ← hg, Nat.add_mul]
    omega
  have h6 : g * (v1 * 4294967296 + v2) * p ≤ (high * 4294967296 + z2) * p := Nat.mul_le_mul_right _ h5
  have h7 : g * Y ≤ g * ((v1 * 4294967296 + v2 + 1) * p) := Nat.mul_le_mul_left _ hY
  have h8 : g * ((v1 * 4294967296 + v2 + 1) * p) = g * (v1 * 4294967296 + v2) * p + g * p := by
    rw [← Nat.mul_assoc, Nat.mul_add g (v1 * 4294967296 + v2) 1, Nat.add_mul, Nat.mul_one]
  have h9 : g ≤ v1 * 4294967296 + v2 := by
    have : 1 * 4294967296 ≤ v1 * 4294967296 := Nat.mul_le_mul_right _ hv
    omega
  have h10 : g * p ≤ (v1 * 4294967296 + v2) * p := Nat.mul_le_mul_right _ h9
  omega
/-- A guess beyond a digit leaves a remainder of one digit. -/
theorem guess_big {g v1 rest z1 z0 : Nat} (hg : g * v1 + rest = z0 * 4294967296 + z1) (hz : z0 ≤ v1) (h1 : z1 < 4294967296) (hB : 4294967296 ≤ g) : rest < 4294967296 := by
  have h2 : 4294967296 * v1 ≤ g * v1 := Nat.mul_le_mul_right _ hB
  have h3 : z0 * 4294967296 ≤ v1 * 4294967296 := Nat.mul_le_mul_right _ hz
  rw [Nat.mul_comm v1 4294967296] at h3
  omega
/-- The top digits bound a row. -/
theorem top_two {ys : List Nat} {n : Nat} (h : Dg ys) (hn : 2 ≤ n) (hl : ys.length = n) : (ys[n - 1]'(by omega) * 4294967296 + ys[n - 2]'(by omega)) * 4294967296 ^ (n - 2) ≤ vd ys ∧ vd ys < (ys[n - 1]'(by omega) * 4294967296 + ys[n - 2]'(by omega) + 1) * 4294967296 ^ (n - 2) := by
  have h1 := vd_split ys (n - 2) (by omega)
  have h2 : ys.drop (n - 2) = [ys[n - 2]'(by omega), ys[n - 1]'(by omega)] := by
    rw [List.drop_eq_getElem_cons (by omega), List.drop_eq_getElem_cons (by omega), List.drop_eq_nil_of_le (by omega)]
    simp only [show n - 2 + 1 = n - 1 by omega]
  have h3 := vd_lt (dg_take h (n - 2))
  rw [List.length_take, Nat.min_eq_left (by omega)] at h3
  rw [h2] at h1
  simp only [vd, Nat.mul_zero, Nat.add_zero] at h1
  generalize ys[n - 2]'(by omega) = a at *
  generalize ys[n - 1]'(by omega) = b at *
  rw [Nat.mul_comm (4294967296 ^ (n - 2)), Nat.add_comm a, Nat.mul_comm _ b] at h1
  rw [Nat.add_mul _ 1]
  omega
theorem top_three {zs : List Nat} {m : Nat} (h : Dg zs) (hm : 3 ≤ m) (hl : zs.length = m) : ((zs[m - 1]'(by omega) * 4294967296 + zs[m - 2]'(by omega)) * 4294967296 + zs[m - 3]'(by omega)) * 4294967296 ^ (m - 3) ≤ vd zs ∧ vd zs < ((zs[m - 1]'(by omega) * 4294967296 + zs[m - 2]'(by omega)) * 4294967296 + zs[m - 3]'(by omega) + 1) * 4294967296 ^ (m - 3) := by
  have h1 := vd_split zs (m - 3) (by omega)
  have h2 : zs.drop (m - 3) = [zs[m - 3]'(by omega), zs[m - 2]'(by omega), zs[m - 1]'(by omega)] := by
    rw [List.drop_eq_getElem_cons (by omega), List.drop_eq_getElem_cons (by omega), List.drop_eq_getElem_cons (by omega), List.drop_eq_nil_of_le (by omega)]
    simp only [show m - 3 + 1 = m - 2 by omega, show m - 2 + 1 = m - 1 by omega]
  have h3 := vd_lt (dg_take h (m - 3))
  rw [List.length_take, Nat.min_eq_left (by omega)] at h3
  rw [h2] at h1
  simp only [vd, Nat.mul_zero, Nat.add_zero] at h1
  generalize zs[m - 3]'(by omega) = a at *
  generalize zs[m - 2]'(by omega) = b at *
  generalize zs[m - 1]'(by omega) = c at *
  have e : a + 4294967296 * (b + 4294967296 * c) = (c * 4294967296 + b) * 4294967296 + a := by show _ = (c * 4294967296 + b) * 4294967296 + a; omega
  rw [e, Nat.mul_comm (4294967296 ^ (m - 3))] at h1
  rw [Nat.add_mul _ 1]
  omega
/-- One digit of a multiple that is taken away. 'T': what stands over it. -/
theorem msub_step {zs ys : List Nat} {i j c b b' g M t r : Nat} (hk : i < ys.length) (hi : i + j < zs.length) (ht : t = c + g * ys[i]) (hr : r + b + t % 4294967296 = zs[i + j] + b' * 4294967296)
    (hS : vd zs + g * vd (ys.take i) * 4294967296 ^ j = M + (c + b) * 4294967296 ^ (i + j)) :
    vd (zs.set (i + j) r) + g * vd (ys.take (i + 1)) * 4294967296 ^ j = M + (t / 4294967296 + b') * 4294967296 ^ (i + 1 + j) := by
  have hs := vd_set zs (i + j) r hi
  have hb := Nat.div_add_mod t 4294967296
  generalize t / 4294967296 = q at *
  generalize t % 4294967296 = l at *
  have hy : vd (ys.take (i + 1)) = vd (ys.take i) + 4294967296 ^ i * ys[i] := by
    rw [List.take_succ_eq_append_getElem hk, vd_append, List.length_take, Nat.min_eq_left (by omega)]
    simp [vd]
  have e3 : g * (vd (ys.take i) + 4294967296 ^ i * ys[i]) * 4294967296 ^ j = g * vd (ys.take i) * 4294967296 ^ j + g * ys[i] * 4294967296 ^ (i + j) := by rw [Nat.pow_add]; grind
  have e4 : 4294967296 ^ (i + 1 + j) = 4294967296 ^ (i + j) * 4294967296 := by rw [show i + 1 + j = i + j + 1 by omega]; exact Nat.pow_succ _ _
  rw [hy, e3, e4]
  generalize 4294967296 ^ (i + j) = p at *
  have e1 : (r + b + l) * p = (zs[i + j] + b' * 4294967296) * p := by rw [hr]
  have e2 : (4294967296 * q + l) * p = (c + g * ys[i]) * p := by rw [hb, ht]
  have e5 : (q + b') * (p * 4294967296) = 4294967296 * q * p + b' * 4294967296 * p := by grind
  rw [e5]
  rw [Nat.add_mul, Nat.add_mul, Nat.add_mul] at e1
  rw [Nat.add_mul, Nat.add_mul] at e2
  rw [Nat.add_mul] at hS
  omega
/-- One digit of what is added back. -/
theorem madd_step {zs ys : List Nat} {i j c M t : Nat} (hk : i < ys.length) (hi : i + j < zs.length) (ht : t = c + (zs[i + j] + ys[i]))
    (hS : vd zs + c * 4294967296 ^ (i + j) = M + vd (ys.take i) * 4294967296 ^ j) :
    vd (zs.set (i + j) (t % 4294967296)) + t / 4294967296 * 4294967296 ^ (i + 1 + j) = M + vd (ys.take (i + 1)) * 4294967296 ^ j := by
  have hs := vd_set zs (i + j) (t % 4294967296) hi
  have hb := Nat.div_add_mod t 4294967296
  generalize t / 4294967296 = q at *
  generalize t % 4294967296 = l at *
  have hy : vd (ys.take (i + 1)) = vd (ys.take i) + 4294967296 ^ i * ys[i] := by
    rw [List.take_succ_eq_append_getElem hk, vd_append, List.length_take, Nat.min_eq_left (by omega)]
    simp [vd]
  have e3 : (vd (ys.take i) + 4294967296 ^ i * ys[i]) * 4294967296 ^ j = vd (ys.take i) * 4294967296 ^ j + ys[i] * 4294967296 ^ (i + j) := by rw [Nat.pow_add]; grind
  have e4 : 4294967296 ^ (i + 1 + j) = 4294967296 ^ (i + j) * 4294967296 := by rw [show i + 1 + j = i + j + 1 by omega]; exact Nat.pow_succ _ _
  rw [hy, e3, e4]
  generalize 4294967296 ^ (i + j) = p at *
  have e2 : (4294967296 * q + l) * p = (c + (zs[i + j] + ys[i])) * p := by rw [hb, ht]
  have e5 : q * (p * 4294967296) = 4294967296 * q * p := by grind
  rw [e5]
  rw [Nat.add_mul, Nat.add_mul, Nat.add_mul] at e2
  omega

/-- Only the digits from 'j' to 'j + n' differ. -/
structure Same (zs zs' : List Nat) (j n : Nat) : Prop where
  len : zs'.length = zs.length
  dg : Dg zs'
  lo : zs'.take j = zs.take j
  hi : zs'.drop (j + n + 1) = zs.drop (j + n + 1)
theorem same_refl {zs : List Nat} {j n : Nat} (h : Dg zs) : Same zs zs j n := ⟨rfl, h, rfl, rfl⟩
theorem Same.set {zs zs' : List Nat} {j n : Nat} (h : Same zs zs' j n) (k x : Nat) (h1 : j ≤ k) (h2 : k ≤ j + n) (hx : x < 4294967296) : Same zs (zs'.set k x) j n :=
  ⟨by rw [List.length_set]; exact h.len, dg_set h.dg _ _ hx, by rw [List.take_set_of_le h1]; exact h.lo, by rw [List.drop_set_of_lt (by omega)]; exact h.hi⟩
theorem Same.cut {zs zs' : List Nat} {j n : Nat} (h : Same zs zs' j n) (hj : j ≤ zs.length) : vd zs' = vd (zs.take j) + 4294967296 ^ j * vd (zs'.drop j) := by
  rw [vd_split zs' j (by rw [h.len]; exact hj), h.lo]
theorem Same.small {zs zs' : List Nat} {j n : Nat} (h : Same zs zs' j n) (hj : j + n < zs.length) (h0 : vd (zs.drop (j + n + 1)) = 0) : vd (zs'.drop j) < 4294967296 ^ (n + 1) := by
  have h1 := vd_split (zs'.drop j) (n + 1) (by rw [List.length_drop, h.len]; omega)
  rw [List.drop_drop, show j + (n + 1) = j + n + 1 by omega, h.hi, h0, Nat.mul_zero, Nat.add_zero] at h1
  have h2 := vd_lt (dg_take (dg_drop h.dg j) (n + 1))
  rw [List.length_take, List.length_drop, h.len, Nat.min_eq_left (by omega)] at h2
  omega
theorem high_zero {zs : List Nat} {j n : Nat} (hj : j + n < zs.length) (h : vd (zs.drop j) < 4294967296 ^ (n + 1)) : vd (zs.drop (j + n + 1)) = 0 := by
  have h1 := vd_split (zs.drop j) (n + 1) (by rw [List.length_drop]; omega)
  rw [List.drop_drop, show j + (n + 1) = j + n + 1 by omega] at h1
  rcases Nat.eq_zero_or_pos (vd (zs.drop (j + n + 1))) with h2 | h2
  · exact h2
  · have h3 : 4294967296 ^ (n + 1) * 1 ≤ 4294967296 ^ (n + 1) * vd (zs.drop (j + n + 1)) := Nat.mul_le_mul_left _ h2
    omega

/-- What is known ahead of a round. -/
theorem round_pre {zs ys : List Nat} {j n Y : Nat} (hDz : Dg zs) (hDy : Dg ys) (hn : 2 ≤ n) (hly : ys.length = n) (hY : vd ys = Y) (hj : j + n < zs.length) (hlt : vd (zs.drop (j + 1)) < Y) :
    vd (zs.drop (j + n + 1)) = 0 ∧
    ((zs[j + n] * 4294967296 + zs[j + n - 1]'(by omega)) * 4294967296 + zs[j + n - 2]'(by omega)) * 4294967296 ^ (n - 2) ≤ vd (zs.drop j) ∧
    vd (zs.drop j) < ((zs[j + n] * 4294967296 + zs[j + n - 1]'(by omega)) * 4294967296 + zs[j + n - 2]'(by omega) + 1) * 4294967296 ^ (n - 2) ∧
    (ys[n - 1]'(by omega) * 4294967296 + ys[n - 2]'(by omega)) * 4294967296 ^ (n - 2) ≤ Y ∧ Y < (ys[n - 1]'(by omega) * 4294967296 + ys[n - 2]'(by omega) + 1) * 4294967296 ^ (n - 2) ∧
    zs[j + n] ≤ ys[n - 1]'(by omega) ∧ vd (zs.drop j) < 4294967296 * Y := by
  obtain ⟨y1, y2⟩ := top_two hDy hn hly
  rw [hY] at y1 y2
  have hYB : Y < 4294967296 ^ n := by rw [← hY, ← hly]; exact vd_lt hDy
  have hz0 := dg_get hDz (show j < zs.length by omega)
  have hU : vd (zs.drop j) < 4294967296 * Y := by
    rw [vd_drop zs j (by omega)]
    omega
  have hUB : vd (zs.drop j) < 4294967296 ^ (n + 1) := by rw [Nat.pow_succ]; omega
  have h0 := high_zero hj hUB
  have hs : vd (zs.drop j) = vd ((zs.drop j).take (n + 1)) := by
    have h1 := vd_split (zs.drop j) (n + 1) (by rw [List.length_drop]; omega)
    rw [List.drop_drop, show j + (n + 1) = j + n + 1 by omega, h0, Nat.mul_zero, Nat.add_zero] at h1
    exact h1
  have hl3 : ((zs.drop j).take (n + 1)).length = n + 1 := by rw [List.length_take, List.length_drop]; omega
  obtain ⟨t1, t2⟩ := top_three (dg_take (dg_drop hDz j) (n + 1)) (by omega) hl3
  rw [← hs] at t1 t2
  simp only [List.getElem_take, List.getElem_drop, show n + 1 - 1 = n by omega, show n + 1 - 2 = n - 1 by omega, show n + 1 - 3 = n - 2 by omega, show j + (n - 1) = j + n - 1 by omega, show j + (n - 2) = j + n - 2 by omega] at t1 t2
  refine ⟨h0, t1, t2, y1, y2, ?_, hU⟩
  have hy2 := dg_get hDy (show n - 2 < ys.length by omega)
  have hp : 0 < 4294967296 ^ (n - 2) := Nat.pow_pos (by omega)
  have h5 : ((zs[j + n] * 4294967296 + zs[j + n - 1]'(by omega)) * 4294967296 + zs[j + n - 2]'(by omega)) * 4294967296 ^ (n - 2) < (4294967296 * (ys[n - 1]'(by omega) * 4294967296 + ys[n - 2]'(by omega) + 1)) * 4294967296 ^ (n - 2) := by
    rw [Nat.mul_assoc 4294967296]
    omega
  have h6 := Nat.lt_of_mul_lt_mul_right h5
  omega
/-- The multiple is taken away. -/
theorem round_sub {zs z1 z2 ys : List Nat} {j n Y g c b e β z0 : Nat} (hs1 : Same zs z1 j n) (hj : j + n < zs.length) (hly : ys.length = n) (hY : vd ys = Y)
    (h1 : vd z1 + g * vd (ys.take n) * 4294967296 ^ j = vd zs + (c + b) * 4294967296 ^ (n + j)) (hd : z1[j + n]'(by rw [hs1.len]; exact hj) = z0) (he : e + b + c = z0 + β * 4294967296) (h2 : z2 = z1.set (j + n) e) (hs2 : Same zs z2 j n) :
    vd (z2.drop j) + g * Y = vd (zs.drop j) + β * 4294967296 ^ (n + 1) := by
  have hl1 : j + n < z1.length := by rw [hs1.len]; exact hj
  have hset := vd_set z1 (j + n) e hl1
  rw [hd, ← h2] at hset
  have hc2 := hs2.cut (by omega)
  have hc0 := vd_split zs j (by omega)
  rw [List.take_of_length_le (by omega), hY] at h1
  rw [hc0] at h1
  rw [hc2] at hset
  have hp : 0 < 4294967296 ^ j := Nat.pow_pos (by omega)
  have e1 : 4294967296 ^ (j + n) = 4294967296 ^ j * 4294967296 ^ n := Nat.pow_add _ _ _
  have e2 : 4294967296 ^ (n + j) = 4294967296 ^ j * 4294967296 ^ n := by rw [Nat.add_comm]; exact e1
  have e3 : 4294967296 ^ (n + 1) = 4294967296 ^ n * 4294967296 := Nat.pow_succ _ _
  rw [e1] at hset
  rw [e2] at h1
  rw [e3]
  generalize (4294967296 : Nat) ^ n = R at *
  generalize (4294967296 : Nat) ^ j = P at *
  generalize vd (zs.take j) = low at *
  generalize vd (z2.drop j) = U2 at *
  generalize vd (zs.drop j) = U at *
  generalize vd z1 = V at *
  have e4 : (e + b + c) * (P * R) = (z0 + β * 4294967296) * (P * R) := by rw [he]
  have e5 : P * (U2 + g * Y) = P * (U + β * (R * 4294967296)) := by
    have f1 : P * (U2 + g * Y) = P * U2 + g * Y * P := by grind
    have f2 : P * (U + β * (R * 4294967296)) = P * U + β * 4294967296 * (P * R) := by grind
    rw [f1, f2]
    rw [Nat.add_mul, Nat.add_mul, Nat.add_mul] at e4
    rw [Nat.add_mul] at h1
    omega
  exact Nat.eq_of_mul_eq_mul_left hp e5
/-- The divisor is added back. -/
theorem round_add {zs z2 z3 z4 ys : List Nat} {j n Y c e e' o : Nat} (hs2 : Same zs z2 j n) (hs3 : Same zs z3 j n) (hj : j + n < zs.length) (hly : ys.length = n) (hY : vd ys = Y)
    (h1 : vd z3 + c * 4294967296 ^ (n + j) = vd z2 + vd (ys.take n) * 4294967296 ^ j) (hd : z3[j + n]'(by rw [hs3.len]; exact hj) = e) (he : e' + o * 4294967296 = e + c) (h2 : z4 = z3.set (j + n) e') (hs4 : Same zs z4 j n) :
    vd (z4.drop j) + o * 4294967296 ^ (n + 1) = vd (z2.drop j) + Y := by
  have hl1 : j + n < z3.length := by rw [hs3.len]; exact hj
  have hset := vd_set z3 (j + n) e' hl1
  rw [hd, ← h2] at hset
  have hc4 := hs4.cut (by omega)
  have hc2 := hs2.cut (by omega)
  rw [List.take_of_length_le (by omega), hY] at h1
  rw [hc2] at h1
  rw [hc4] at hset
  have hp : 0 < 4294967296 ^ j := Nat.pow_pos (by omega)
  have e1 : 4294967296 ^ (j + n) = 4294967296 ^ j * 4294967296 ^ n := Nat.pow_add _ _ _
  have e2 : 4294967296 ^ (n + j) = 4294967296 ^ j * 4294967296 ^ n := by rw [Nat.add_comm]; exact e1
  have e3 : 4294967296 ^ (n + 1) = 4294967296 ^ n * 4294967296 := Nat.pow_succ _ _
  rw [e1] at hset
  rw [e2] at h1
  rw [e3]
  generalize (4294967296 : Nat) ^ n = R at *
  generalize (4294967296 : Nat) ^ j = P at *
  generalize vd (zs.take j) = low at *
  generalize vd (z4.drop j) = U4 at *
  generalize vd (z2.drop j) = U2 at *
  generalize vd z3 = V at *
  have e4 : (e' + o * 4294967296) * (P * R) = (e + c) * (P * R) := by rw [he]
  have e5 : P * (U4 + o * (R * 4294967296)) = P * (U2 + Y) := by
    have f1 : P * (U4 + o * (R * 4294967296)) = P * U4 + o * 4294967296 * (P * R) := by grind
    have f2 : P * (U2 + Y) = P * U2 + Y * P := by grind
    rw [f1, f2]
    rw [Nat.add_mul, Nat.add_mul] at e4
    omega
  exact Nat.eq_of_mul_eq_mul_left hp e5
/-- The guess was right. -/
theorem round_right {U U2 g Y R : Nat} (h : U2 + g * Y = U + 0 * R) (hg : U < (g + 1) * Y) : U = U2 + g * Y ∧ U2 < Y := by
  rw [Nat.add_mul, Nat.one_mul] at hg
  omega
/-- The guess was too great by one. -/
theorem round_back {U U2 U4 g Y R o : Nat} (h : U2 + g * Y = U + 1 * R) (hle : g * Y ≤ U + Y) (h2 : U2 < R) (h4 : U4 < R) (ho : o ≤ 1) (hb : U4 + o * R = U2 + Y) (hg : 0 < g) : U = U4 + (g - 1) * Y ∧ U4 < Y := by
  obtain ⟨k, rfl⟩ : ∃ k, g = k + 1 := ⟨g - 1, by omega⟩
  rw [Nat.add_mul, Nat.one_mul] at h hle
  simp only [Nat.add_sub_cancel]
  have : o = 0 ∨ o = 1 := by omega
  rcases this with rfl | rfl <;> omega
/-- A round's gain. -/
theorem round_gain {zs z' os : List Nat} {A Y j n q : Nat} (hs : Same zs z' j n) (hj : j ≤ zs.length) (hi : j < os.length) (h0 : os[j] = 0) (hA : A = vd zs + Y * vd os) (hU : vd (zs.drop j) = vd (z'.drop j) + q * Y) : A = vd z' + Y * vd (os.set j q) := by
  have h1 := vd_set os j q hi
  rw [h0, Nat.zero_mul, Nat.add_zero] at h1
  rw [h1, hA, hs.cut hj, vd_split zs j hj, hU]
  grind
/-- The end. -/
theorem div_end {a b s r q : Nat} (h : a * 2 ^ s = r + b * 2 ^ s * q) (hr : r < b * 2 ^ s) : q = a / b ∧ r = a % b * 2 ^ s := by
  have hp : 0 < 2 ^ s := Nat.pow_pos (by omega)
  have hb : 0 < b := by
    rcases Nat.eq_zero_or_pos b with h0 | h0
    · subst h0; simp at hr
    · exact h0
  have h1 : q = a * 2 ^ s / (b * 2 ^ s) := by
    rw [h, Nat.add_mul_div_left _ _ (Nat.mul_pos hb hp), Nat.div_eq_of_lt hr, Nat.zero_add]
  have h2 : r = a * 2 ^ s % (b * 2 ^ s) := by
    rw [h, Nat.add_mul_mod_self_left, Nat.mod_eq_of_lt hr]
  rw [Nat.mul_div_mul_right _ _ hp] at h1
  rw [Nat.mul_mod_mul_right] at h2
  exact ⟨h1, h2⟩
end Go.Vt
