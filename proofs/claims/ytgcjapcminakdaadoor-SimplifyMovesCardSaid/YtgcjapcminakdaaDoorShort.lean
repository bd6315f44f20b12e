/- Division by one digit, and shifting. Conditions: those that each statement names. -/
import Derived.Test.YtgcjapcminakdaaDoorArith
import Derived.Test.YtgcjapcminakdaaDoorLogicI
set_option linter.unusedSimpArgs false
set_option linter.unusedVariables false
set_option maxRecDepth 100000
namespace Go.Vt
open Go.RowKit Go.Proofs

theorem or_word (r x : Nat) (hr : r < 4294967296) (hx : x < 4294967296) : bits .or .u64 (IntKind.u64.wrap ((r : Int) * 2 ^ (32 : Int).toNat)) (x : Int) = ((r * 4294967296 + x : Nat) : Int) := by
  rw [p32, IntWalk.u64_in _ (by omega)]
  unfold bits
  rw [show (r : Int) * 4294967296 = ((r * 4294967296 : Nat) : Int) by omega]
  have h1 : BitVec.ofInt IntKind.u64.bits ((r * 4294967296 : Nat) : Int) = BitVec.ofNat 64 (r * 4294967296) := BitVec.ofInt_natCast _ _
  have h2 : BitVec.ofInt IntKind.u64.bits ((x : Nat) : Int) = BitVec.ofNat 64 x := BitVec.ofInt_natCast _ _
  have h3 : (r * 4294967296) ||| x = r * 4294967296 + x := by
    rw [show r * 4294967296 = r <<< 32 by rw [Nat.shiftLeft_eq]]
    rw [Nat.shiftLeft_add_eq_or_of_lt (by omega : x < 2 ^ 32)]
  simp only [h1, h2]
  show IntKind.u64.wrap ((BitVec.ofNat 64 (r * 4294967296) ||| BitVec.ofNat 64 x).toNat : Int) = _
  rw [BitVec.toNat_or, BitVec.toNat_ofNat, BitVec.toNat_ofNat, Nat.mod_eq_of_lt (by omega), Nat.mod_eq_of_lt (by omega), h3, IntWalk.u64_in _ (by omega)]
theorem or_low (o d s : Nat) (ho : o < 2 ^ s) (hs : s < 32) : bits .or .u32 (o : Int) (IntKind.u32.wrap ((d * 2 ^ s : Nat) : Int)) = ((o + d * 2 ^ s % 4294967296 : Nat) : Int) := by
  have hp : (2 : Nat) ^ s ≤ 2147483648 := by
    have h3 : (2 : Nat) ^ s ≤ 2 ^ 31 := Nat.pow_le_pow_right (by omega) (by omega)
    omega
  have e0 : d * 2 ^ s % 4294967296 = (d % 2 ^ (32 - s)) <<< s := by
    rw [Nat.shiftLeft_eq, show (4294967296 : Nat) = 2 ^ (32 - s) * 2 ^ s by rw [← Nat.pow_add, show 32 - s + s = 32 by omega]]
    exact Nat.mul_mod_mul_right _ _ _
  have hlt : d * 2 ^ s % 4294967296 < 4294967296 := Nat.mod_lt _ (by omega)
  rw [IntKind.wrap_u32, show ((d * 2 ^ s : Nat) : Int) % 4294967296 = ((d * 2 ^ s % 4294967296 : Nat) : Int) by omega]
  unfold bits
  have h1 : BitVec.ofInt IntKind.u32.bits ((o : Nat) : Int) = BitVec.ofNat 32 o := BitVec.ofInt_natCast _ _
  have h2 : BitVec.ofInt IntKind.u32.bits ((d * 2 ^ s % 4294967296 : Nat) : Int) = BitVec.ofNat 32 (d * 2 ^ s % 4294967296) := BitVec.ofInt_natCast _ _
  have h3 : o ||| (d * 2 ^ s % 4294967296) = o + d * 2 ^ s % 4294967296 := by
    rw [e0, Nat.or_comm, ← Nat.shiftLeft_add_eq_or_of_lt ho, Nat.add_comm]
  have h4 : o + d * 2 ^ s % 4294967296 < 4294967296 := by
    rw [← h3]
    exact Nat.or_lt_two_pow (n := 32) (by omega) (by omega)
  simp only [h1, h2]
  show IntKind.u32.wrap ((BitVec.ofNat 32 o ||| BitVec.ofNat 32 (d * 2 ^ s % 4294967296)).toNat : Int) = _
  rw [BitVec.toNat_or, BitVec.toNat_ofNat, BitVec.toNat_ofNat, Nat.mod_eq_of_lt (by omega), Nat.mod_eq_of_lt (by omega), h3, IntWalk.u32_in _ (by omega)]

/-! ### One digit -/
theorem short_step {V y r x : Nat} (hr : r < y) (hx : x < 4294967296) (hy : y < 4294967296) : (r * 4294967296 + x) / y < 4294967296 ∧ (r * 4294967296 + x) % y < y ∧ x + 4294967296 * (V * y + r) = ((r * 4294967296 + x) / y + 4294967296 * V) * y + (r * 4294967296 + x) % y := by
  refine ⟨?_, Nat.mod_lt _ (by omega), ?_⟩
  · rw [Nat.div_lt_iff_lt_mul (by omega)]
    have h1 : (r + 1) * 4294967296 ≤ y * 4294967296 := Nat.mul_le_mul_right _ hr
    rw [Nat.mul_comm 4294967296 y]
    omega
  · have h := Nat.div_add_mod (r * 4294967296 + x) y
    generalize (r * 4294967296 + x) / y = q at *
    generalize (r * 4294967296 + x) % y = p at *
    rw [Nat.add_mul, Nat.mul_add, Nat.mul_comm q y, Nat.mul_assoc]
    omega
theorem short_spec (b c : Nat) (xs : List Nat) (y : Nat) (hD : Dg xs) (hy0 : 0 < y) (hy : y < 4294967296) (hx : xs.length ≤ 1099511627776) (w0 w : World) (M : List Blk) (hw : Own w0 (⟨b, dig .u32 xs, 117⟩ :: M) w) :
    Calls Tryd.prog 88 [.slice (some ⟨b, 0, none⟩) xs.length c, .int .u32 y].toArray w (fun e w' => ∃ qs, qs.length = xs.length ∧ Dg qs ∧ vd qs = vd xs / y ∧ RetO (.int .u32 ((vd xs % y : Nat) : Int)) w0 (⟨b, dig .u32 qs, 117⟩ :: M) e w') := by
  refine fn_own hw Tryd.func88 rfl Tryd.ntmps88 rfl ?_
  repeat (first | refine sX rfl rfl ?_ | (refine sS rfl rfl ?_ ?_; focus omega) | (refine sC rfl rfl ?_ ?_; focus (first | exact trivial | assumption | exact ⟨by assumption, by assumption⟩ | exact mb2 rfl rfl | exact mb4 rfl rfl rfl rfl)) | refine cX ?_ | refine cY ?_ | (refine sA rfl rfl ?_; intro _) | refine sT rfl ?_ | refine sW rfl rfl ?_ | refine sK rfl rfl ?_ | refine j_if rfl ?_ | refine j_else rfl ?_ | refine Go.Vt.jq (wl_pickT rfl rfl) rfl rfl ?_ | refine Go.Vt.jq (wl_pickF rfl rfl) rfl rfl ?_)
  refine j_loop (S := Nat × List Nat × Nat) (fun s => s.1 ≤ xs.length ∧ s.2.1.length = xs.length ∧ Dg s.2.1 ∧ s.2.2 < y ∧ s.2.1.take s.1 = xs.take s.1 ∧ vd (xs.drop s.1) = vd (s.2.1.drop s.1) * y + s.2.2)
    (fun s => [(0, .slice (some ⟨b, 0, none⟩) xs.length c), (1, .int .u32 y), (5, .int .u64 s.2.2), (6, .int .i64 ((s.1 : Int) - 1))]) (fun s => ⟨b, dig .u32 s.2.1, 117⟩ :: M) (fun s => s.1) (xs.length, xs, 0)
    ⟨Nat.le_refl _, rfl, hD, hy0, rfl, by simp [vd]⟩ (by repeat (first | exact sub_nil | refine sub_cons rfl ?_)) (List.Sublist.refl _) (fun s hs => ?_)
  obtain ⟨k, qs, r⟩ := s
  obtain ⟨hk, hl, hDq, hr, ht, hv⟩ := hs
  simp only at hk hl hDq hr ht hv ⊢
  repeat (first | refine sX rfl rfl ?_ | (refine sS rfl rfl ?_ ?_; focus omega) | (refine sC rfl rfl ?_ ?_; focus (first | exact trivial | assumption | exact ⟨by assumption, by assumption⟩ | exact mb2 rfl rfl | exact mb4 rfl rfl rfl rfl)) | refine cX ?_ | refine cY ?_ | (refine sA rfl rfl ?_; intro _) | refine sT rfl ?_ | refine sW rfl rfl ?_ | refine sK rfl rfl ?_ | refine j_if rfl ?_ | refine j_else rfl ?_ | refine Go.Vt.jq (wl_pickT rfl rfl) rfl rfl ?_ | refine Go.Vt.jq (wl_pickF rfl rfl) rfl rfl ?_)
  refine j_cond rfl (fun h => ?_) (fun h => ?_)
  · have hpos : 0 < k := by have := of_decide_eq_true h; omega
    obtain ⟨i, rfl⟩ : ∃ i, k = i + 1 := ⟨k - 1, by omega⟩
    have hiq : i < qs.length := by omega
    have hix : i < xs.length := by omega
    have hdq := dg_get hDq hiq
    have hqx : qs[i] = xs[i] := by
      have h1 : (qs.take (i + 1))[i]? = (xs.take (i + 1))[i]? := by rw [ht]
      simpa [hiq, hix] using h1
    obtain ⟨g1, g2, g3⟩ := short_step (V := vd (qs.drop (i + 1))) hr hdq hy
    repeat (first | refine sX rfl rfl ?_ | (refine sS rfl rfl ?_ ?_; focus omega) | (refine sC rfl rfl ?_ ?_; focus (first | exact trivial | assumption | exact ⟨by assumption, by assumption⟩ | exact mb2 rfl rfl | exact mb4 rfl rfl rfl rfl)) | refine cX ?_ | refine cY ?_ | (refine sA rfl rfl ?_; intro _) | refine sT rfl ?_ | refine sW rfl rfl ?_ | refine sK rfl rfl ?_ | refine j_if rfl ?_ | refine j_else rfl ?_ | refine Go.Vt.jq (wl_pickT rfl rfl) rfl rfl ?_ | refine Go.Vt.jq (wl_pickF rfl rfl) rfl rfl ?_)
    refine jq (wl_shl rfl rfl (by decide)) rfl rfl ?_
    repeat (first | refine sX rfl rfl ?_ | (refine sS rfl rfl ?_ ?_; focus omega) | (refine sC rfl rfl ?_ ?_; focus (first | exact trivial | assumption | exact ⟨by assumption, by assumption⟩ | exact mb2 rfl rfl | exact mb4 rfl rfl rfl rfl)) | refine cX ?_ | refine cY ?_ | (refine sA rfl rfl ?_; intro _) | refine sT rfl ?_ | refine sW rfl rfl ?_ | refine sK rfl rfl ?_ | refine j_if rfl ?_ | refine j_else rfl ?_ | refine Go.Vt.jq (wl_pickT rfl rfl) rfl rfl ?_ | refine Go.Vt.jq (wl_pickF rfl rfl) rfl rfl ?_)
    refine jq (wl_loadD rfl (show qs[0 + (((i + 1 : Nat) : Int) - 1).toNat * 1]? = some qs[i] by rw [show 0 + (((i + 1 : Nat) : Int) - 1).toNat * 1 = i by omega]; simp [hiq])) rfl rfl ?_
    repeat (first | refine sX rfl rfl ?_ | (refine sS rfl rfl ?_ ?_; focus omega) | (refine sC rfl rfl ?_ ?_; focus (first | exact trivial | assumption | exact ⟨by assumption, by assumption⟩ | exact mb2 rfl rfl | exact mb4 rfl rfl rfl rfl)) | refine cX ?_ | refine cY ?_ | (refine sA rfl rfl ?_; intro _) | refine sT rfl ?_ | refine sW rfl rfl ?_ | refine sK rfl rfl ?_ | refine j_if rfl ?_ | refine j_else rfl ?_ | refine Go.Vt.jq (wl_pickT rfl rfl) rfl rfl ?_ | refine Go.Vt.jq (wl_pickF rfl rfl) rfl rfl ?_)
    refine jq (wl_or rfl rfl) rfl rfl ?_
    rw [or_word _ _ (by omega) hdq]
    repeat (first | refine sX rfl rfl ?_ | (refine sS rfl rfl ?_ ?_; focus omega) | (refine sC rfl rfl ?_ ?_; focus (first | exact trivial | assumption | exact ⟨by assumption, by assumption⟩ | exact mb2 rfl rfl | exact mb4 rfl rfl rfl rfl)) | refine cX ?_ | refine cY ?_ | (refine sA rfl rfl ?_; intro _) | refine sT rfl ?_ | refine sW rfl rfl ?_ | refine sK rfl rfl ?_ | refine j_if rfl ?_ | refine j_else rfl ?_ | refine Go.Vt.jq (wl_pickT rfl rfl) rfl rfl ?_ | refine Go.Vt.jq (wl_pickF rfl rfl) rfl rfl ?_)
    obtain ⟨Z, hZ⟩ : ∃ Z, Z = r * 4294967296 + qs[i] := ⟨_, rfl⟩
    rw [← hZ] at g1 g2 g3 ⊢
    have hZ64 : Z < 18446744073709551616 := by omega
    generalize hQ : Z / y = q at g1 g3
    generalize hR : Z % y = p at g2 g3
    have hq1 : ((Z : Nat) : Int) / (y : Int) = (q : Int) := by rw [← hQ]; rfl
    have hr1 : ((Z : Nat) : Int) % (y : Int) = (p : Int) := by rw [← hR]; rfl
    (refine j_late [0, 1, 2, 3, 4, 5, 6, 7, 8, 9, 10, 11] [12, 13] ([]) mixed (by kernel_rfl) (by decide) sbl ?_; simp only [picks, List.getElem?_cons_succ, List.getElem?_cons_zero])
    repeat (first | refine tX rfl rfl ?_ | (refine tS rfl rfl ?_ ?_; focus omega) | (refine tC rfl rfl ?_ ?_; focus (first | exact trivial | assumption | exact ⟨by assumption, by assumption⟩ | exact mb2 rfl rfl | exact mb4 rfl rfl rfl rfl)) | refine tW rfl rfl ?_ | refine tK rfl rfl ?_ | refine Go.Vt.hq (wl_pickT rfl rfl) rfl rfl ?_ | refine Go.Vt.hq (wl_pickF rfl rfl) rfl rfl ?_)
    refine hq (wl_quou rfl rfl ?_) rfl rfl ?_
    · omega
    rw [hq1]
    repeat (first | refine tX rfl rfl ?_ | (refine tS rfl rfl ?_ ?_; focus omega) | (refine tC rfl rfl ?_ ?_; focus (first | exact trivial | assumption | exact ⟨by assumption, by assumption⟩ | exact mb2 rfl rfl | exact mb4 rfl rfl rfl rfl)) | refine tW rfl rfl ?_ | refine tK rfl rfl ?_ | refine Go.Vt.hq (wl_pickT rfl rfl) rfl rfl ?_ | refine Go.Vt.hq (wl_pickF rfl rfl) rfl rfl ?_)
    refine hq (wl_remu rfl rfl ?_) rfl rfl ?_
    · omega
    rw [hr1]
    repeat (first | refine tX rfl rfl ?_ | (refine tS rfl rfl ?_ ?_; focus omega) | (refine tC rfl rfl ?_ ?_; focus (first | exact trivial | assumption | exact ⟨by assumption, by assumption⟩ | exact mb2 rfl rfl | exact mb4 rfl rfl rfl rfl)) | refine tW rfl rfl ?_ | refine tK rfl rfl ?_ | refine Go.Vt.hq (wl_pickT rfl rfl) rfl rfl ?_ | refine Go.Vt.hq (wl_pickF rfl rfl) rfl rfl ?_)
    refine jh_nil ?_
    refine we_storeD rfl rfl (by omega) rfl (List.nil_sublist _) ?_
    rw [show 0 + (((i + 1 : Nat) : Int) - 1).toNat * 1 = i by omega]
    refine je_assign rfl rfl rfl (List.nil_sublist _) (je_nil ?_)
    repeat (first | refine sX rfl rfl ?_ | (refine sS rfl rfl ?_ ?_; focus omega) | (refine sC rfl rfl ?_ ?_; focus (first | exact trivial | assumption | exact ⟨by assumption, by assumption⟩ | exact mb2 rfl rfl | exact mb4 rfl rfl rfl rfl)) | refine cX ?_ | refine cY ?_ | (refine sA rfl rfl ?_; intro _) | refine sT rfl ?_ | refine sW rfl rfl ?_ | refine sK rfl rfl ?_ | refine j_if rfl ?_ | refine j_else rfl ?_ | refine Go.Vt.jq (wl_pickT rfl rfl) rfl rfl ?_ | refine Go.Vt.jq (wl_pickF rfl rfl) rfl rfl ?_)
    have hvs : vd ((qs.set i q).drop i) = q + 4294967296 * vd (qs.drop (i + 1)) := by
      rw [vd_drop _ i (by rw [List.length_set]; exact hiq), List.getElem_set_self, List.drop_set_of_lt (by omega)]
    exact jx_loop (i, qs.set i q, p) ⟨by simp only; omega, by rw [List.length_set]; exact hl, dg_set hDq _ _ g1, g2, by
      simp only
      rw [List.take_set_of_le (by omega)]
      have h1 : (qs.take (i + 1)).take i = (xs.take (i + 1)).take i := by rw [ht]
      simpa [List.take_take] using h1, by
      simp only
      rw [hvs, vd_drop xs i hix, hv, ← hqx]
      exact g3⟩ (by rw [show ((i : Nat) : Int) - 1 = ((i + 1 : Nat) : Int) - 1 - 1 by omega]; repeat (first | exact sub_nil | refine sub_cons rfl ?_)) (List.Sublist.refl _) (by simp only; omega)
  · have hge : k = 0 := by have := of_decide_eq_false h; omega
    subst hge
    repeat (first | refine sX rfl rfl ?_ | (refine sS rfl rfl ?_ ?_; focus omega) | (refine sC rfl rfl ?_ ?_; focus (first | exact trivial | assumption | exact ⟨by assumption, by assumption⟩ | exact mb2 rfl rfl | exact mb4 rfl rfl rfl rfl)) | refine cX ?_ | refine cY ?_ | (refine sA rfl rfl ?_; intro _) | refine sT rfl ?_ | refine sW rfl rfl ?_ | refine sK rfl rfl ?_ | refine j_if rfl ?_ | refine j_else rfl ?_ | refine Go.Vt.jq (wl_pickT rfl rfl) rfl rfl ?_ | refine Go.Vt.jq (wl_pickF rfl rfl) rfl rfl ?_)
    simp only [List.drop_zero] at hv
    have h1 : vd qs = vd xs / y := by
      rw [hv, Nat.mul_comm, Nat.mul_add_div hy0, Nat.div_eq_of_lt hr, Nat.add_zero]
    have h2 : vd xs % y = r := by
      rw [hv, Nat.mul_comm, Nat.mul_add_mod, Nat.mod_eq_of_lt hr]
    rw [h2]
    exact jx_ret_tmp rfl rfl (fun w hw => ⟨qs, hl, hDq, h1, retO_ok hw⟩)

/-! ### Shifting -/
theorem pow31 {s : Nat} (hs : s < 32) : 1 ≤ 2 ^ s ∧ 2 ^ s ≤ 2147483648 := by
  have h3 : (2 : Nat) ^ s ≤ 2 ^ 31 := Nat.pow_le_pow_right (by omega) (by omega)
  have h4 : 0 < 2 ^ s := Nat.pow_pos (by omega)
  omega
theorem shift_step {os xs : List Nat} {i s : Nat} (hi : i < xs.length) (hl : os.length = xs.length + 1) (hDx : Dg xs) (hs : s < 32) (hv : vd os = vd (xs.take i) * 2 ^ s) :
    ∃ (h1 : i < os.length) (h2 : i + 1 < os.length), os[i] < 2 ^ s ∧ os[i + 1] = 0 ∧ xs[i] * 2 ^ s < 18446744073709551616 ∧ os[i] + xs[i] * 2 ^ s % 4294967296 < 4294967296 ∧ xs[i] * 2 ^ s / 4294967296 < 2 ^ s ∧
      vd ((os.set i (os[i] + xs[i] * 2 ^ s % 4294967296)).set (i + 1) (xs[i] * 2 ^ s / 4294967296)) = vd (xs.take (i + 1)) * 2 ^ s := by
  have h1 : i < os.length := by omega
  have h2 : i + 1 < os.length := by omega
  obtain ⟨hp1, hp2⟩ := pow31 hs
  have hd := dg_get hDx hi
  have hlow := vd_lt (dg_take hDx i)
  rw [List.length_take, Nat.min_eq_left (by omega)] at hlow
  have hbig : vd os < 2 ^ s * 4294967296 ^ i := by
    rw [hv, Nat.mul_comm]
    exact Nat.mul_lt_mul_of_pos_left hlow (by omega)
  have hoi : os[i] < 2 ^ s := by
    have h3 := vd_get_le os i h1
    exact Nat.lt_of_mul_lt_mul_right (a := 4294967296 ^ i) (Nat.lt_of_le_of_lt h3 hbig)
  have hoi1 : os[i + 1] = 0 := by
    refine vd_hi (i := i + 1) ?_ h2
    rw [Nat.pow_succ, Nat.mul_comm (4294967296 ^ i)]
    exact Nat.lt_of_lt_of_le hbig (Nat.mul_le_mul_right _ (by omega))
  have hw : xs[i] * 2 ^ s ≤ 4294967295 * 2147483648 := Nat.mul_le_mul (by omega) hp2
  have hwq : xs[i] * 2 ^ s / 4294967296 < 2 ^ s := by
    rw [Nat.div_lt_iff_lt_mul (by omega), Nat.mul_comm (2 ^ s)]
    exact Nat.mul_lt_mul_of_pos_right hd (by omega)
  have hsum : os[i] + xs[i] * 2 ^ s % 4294967296 < 4294967296 := by
    have e0 : xs[i] * 2 ^ s % 4294967296 = (xs[i] % 2 ^ (32 - s)) * 2 ^ s := by
      conv => lhs; rw [show (4294967296 : Nat) = 2 ^ (32 - s) * 2 ^ s by rw [← Nat.pow_add, show 32 - s + s = 32 by omega]]
      exact Nat.mul_mod_mul_right _ _ _
    have e1 : xs[i] % 2 ^ (32 - s) + 1 ≤ 2 ^ (32 - s) := Nat.mod_lt _ (Nat.pow_pos (by omega))
    have e2 : (xs[i] % 2 ^ (32 - s) + 1) * 2 ^ s ≤ 2 ^ (32 - s) * 2 ^ s := Nat.mul_le_mul_right _ e1
    rw [← Nat.pow_add, show 32 - s + s = 32 by omega, Nat.add_mul, Nat.one_mul] at e2
    omega
  refine ⟨h1, h2, hoi, hoi1, by omega, hsum, hwq, ?_⟩
  have hs1 := vd_set os i (os[i] + xs[i] * 2 ^ s % 4294967296) h1
  have hs2 := vd_set (os.set i (os[i] + xs[i] * 2 ^ s % 4294967296)) (i + 1) (xs[i] * 2 ^ s / 4294967296) (by rw [List.length_set]; exact h2)
  rw [List.getElem_set_ne (by omega), hoi1, Nat.zero_mul, Nat.add_zero] at hs2
  have hy : vd (xs.take (i + 1)) = vd (xs.take i) + 4294967296 ^ i * xs[i] := by
    rw [List.take_succ_eq_append_getElem hi, vd_append, List.length_take, Nat.min_eq_left (by omega)]
    simp [vd]
  rw [hs2, hy, Nat.add_mul, ← hv]
  have e3 : 4294967296 ^ i * xs[i] * 2 ^ s = xs[i] * 2 ^ s * 4294967296 ^ i := by rw [Nat.mul_assoc, Nat.mul_comm]
  rw [e3, Nat.pow_succ]
  have hb := Nat.div_add_mod (xs[i] * 2 ^ s) 4294967296
  generalize xs[i] * 2 ^ s / 4294967296 = q at *
  generalize xs[i] * 2 ^ s % 4294967296 = r at *
  rw [← hb]
  generalize (4294967296 : Nat) ^ i = p at *
  rw [Nat.add_mul] at hs1
  rw [Nat.add_mul, Nat.mul_comm p 4294967296, ← Nat.mul_assoc, Nat.mul_comm q 4294967296]
  omega
theorem pow2i (s : Nat) : (2 : Int) ^ ((s : Int)).toNat = ((2 ^ s : Nat) : Int) := by simp
theorem shifted_spec (b c : Nat) (xs : List Nat) (s : Nat) (fz : Nat × Nat) (hs : s < 32) (hD : Dg xs) (hx : xs.length ≤ 1099511627776) (w : World) (hw : w.heap[b]? = some (.cells (dig .u32 xs) 117 fz)) :
    ∃ os, os.length = xs.length + 1 ∧ Dg os ∧ vd os = vd xs * 2 ^ s ∧
    Calls Tryd.prog 90 [.slice (some ⟨b, 0, none⟩) xs.length c, .int .i64 s].toArray w (RetB (fun b => .slice (some ⟨b, 0, none⟩) (xs.length + 1) (xs.length + 1)) (dig .u32 os) 117 w) := by
  obtain ⟨os, hl, hDo, hv⟩ : ∃ os : List Nat, os.length = xs.length + 1 ∧ Dg os ∧ vd os = vd xs * 2 ^ s := by
    refine ⟨dgs (vd xs * 2 ^ s) (xs.length + 1), dgs_len _ _, dgs_dg _ _, ?_⟩
    rw [vd_dgs, Nat.mod_eq_of_lt]
    obtain ⟨hp1, hp2⟩ := pow31 hs
    have h1 := vd_lt hD
    rw [Nat.pow_succ]
    exact Nat.mul_lt_mul'' h1 (by omega)
  refine ⟨os, hl, hDo, hv, ?_⟩
  refine fn_intro Tryd.func90 rfl Tryd.ntmps90 rfl ?_
  repeat (first | refine sX rfl rfl ?_ | (refine sS rfl rfl ?_ ?_; focus omega) | (refine sC rfl rfl ?_ ?_; focus (first | exact trivial | assumption | exact ⟨by assumption, by assumption⟩ | exact mb2 rfl rfl | exact mb4 rfl rfl rfl rfl)) | refine cX ?_ | refine cY ?_ | (refine sA rfl rfl ?_; intro _) | refine sT rfl ?_ | refine sW rfl rfl ?_ | refine sK rfl rfl ?_ | refine j_if rfl ?_ | refine j_else rfl ?_ | refine Go.Vt.jq (wl_pickT rfl rfl) rfl rfl ?_ | refine Go.Vt.jq (wl_pickF rfl rfl) rfl rfl ?_)
  rw [show (xs.length : Int) + 1 = ((xs.length + 1 : Nat) : Int) by omega]
  refine wo_makeD (k := .u32) (B := 4) (m := xs.length + 1) rfl rfl ⟨by omega, by omega⟩ rfl rfl ?_
  intro bo
  repeat (first | refine sX rfl rfl ?_ | (refine sS rfl rfl ?_ ?_; focus omega) | (refine sC rfl rfl ?_ ?_; focus (first | exact trivial | assumption | exact ⟨by assumption, by assumption⟩ | exact mb2 rfl rfl | exact mb4 rfl rfl rfl rfl)) | refine cX ?_ | refine cY ?_ | (refine sA rfl rfl ?_; intro _) | refine sT rfl ?_ | refine sW rfl rfl ?_ | refine sK rfl rfl ?_ | refine j_if rfl ?_ | refine j_else rfl ?_ | refine Go.Vt.jq (wl_pickT rfl rfl) rfl rfl ?_ | refine Go.Vt.jq (wl_pickF rfl rfl) rfl rfl ?_)
  refine j_loop (S := Nat × List Nat) (fun t => t.1 ≤ xs.length ∧ t.2.length = xs.length + 1 ∧ Dg t.2 ∧ vd t.2 = vd (xs.take t.1) * 2 ^ s)
    (fun t => [(1, .int .i64 s), (5, .slice (some ⟨bo, 0, none⟩) (xs.length + 1) (xs.length + 1)), (13, .slice (some ⟨b, 0, none⟩) xs.length c), (14, .int .i64 (xs.length : Int)), (15, .int .i64 t.1)])
    (fun t => [⟨bo, dig .u32 t.2, 117⟩]) (fun t => xs.length - t.1) (0, List.replicate (xs.length + 1) 0)
    ⟨by simp, by simp, dg_zero _, by simp [vd, vd_zero]⟩ (by repeat (first | exact sub_nil | refine sub_cons rfl ?_)) (List.Sublist.refl _) (fun t ht => ?_)
  obtain ⟨i, ps⟩ := t
  obtain ⟨hi, hlp, hDp, hvp⟩ := ht
  simp only at hi hlp hDp hvp ⊢
  repeat (first | refine sX rfl rfl ?_ | (refine sS rfl rfl ?_ ?_; focus omega) | (refine sC rfl rfl ?_ ?_; focus (first | exact trivial | assumption | exact ⟨by assumption, by assumption⟩ | exact mb2 rfl rfl | exact mb4 rfl rfl rfl rfl)) | refine cX ?_ | refine cY ?_ | (refine sA rfl rfl ?_; intro _) | refine sT rfl ?_ | refine sW rfl rfl ?_ | refine sK rfl rfl ?_ | refine j_if rfl ?_ | refine j_else rfl ?_ | refine Go.Vt.jq (wl_pickT rfl rfl) rfl rfl ?_ | refine Go.Vt.jq (wl_pickF rfl rfl) rfl rfl ?_)
  refine j_cond rfl (fun h => ?_) (fun h => ?_)
  · have hlt : i < xs.length := by have := of_decide_eq_true h; omega
    obtain ⟨h1, h2, g1, g2, g3, g4, g5, g6⟩ := shift_step hlt hlp hD hs hvp
    have hdx := dg_get hD hlt
    obtain ⟨hp1, hp2⟩ := pow31 hs
    repeat (first | refine sX rfl rfl ?_ | (refine sS rfl rfl ?_ ?_; focus omega) | (refine sC rfl rfl ?_ ?_; focus (first | exact trivial | assumption | exact ⟨by assumption, by assumption⟩ | exact mb2 rfl rfl | exact mb4 rfl rfl rfl rfl)) | refine cX ?_ | refine cY ?_ | (refine sA rfl rfl ?_; intro _) | refine sT rfl ?_ | refine sW rfl rfl ?_ | refine sK rfl rfl ?_ | refine j_if rfl ?_ | refine j_else rfl ?_ | refine Go.Vt.jq (wl_pickT rfl rfl) rfl rfl ?_ | refine Go.Vt.jq (wl_pickF rfl rfl) rfl rfl ?_)
    refine jq (wl_loadDF rfl hw (show xs[0 + (i : Int).toNat * 1]? = some xs[i] by rw [show 0 + (i : Int).toNat * 1 = i by omega]; simp [hlt])) rfl rfl ?_
    repeat (first | refine sX rfl rfl ?_ | (refine sS rfl rfl ?_ ?_; focus omega) | (refine sC rfl rfl ?_ ?_; focus (first | exact trivial | assumption | exact ⟨by assumption, by assumption⟩ | exact mb2 rfl rfl | exact mb4 rfl rfl rfl rfl)) | refine cX ?_ | refine cY ?_ | (refine sA rfl rfl ?_; intro _) | refine sT rfl ?_ | refine sW rfl rfl ?_ | refine sK rfl rfl ?_ | refine j_if rfl ?_ | refine j_else rfl ?_ | refine Go.Vt.jq (wl_pickT rfl rfl) rfl rfl ?_ | refine Go.Vt.jq (wl_pickF rfl rfl) rfl rfl ?_)
    refine jq (wl_shl rfl rfl (by simp only [IntKind.bits]; omega)) rfl rfl ?_
    rw [pow2i, ← Int.natCast_mul, IntWalk.u64_in _ (by omega)]
    repeat (first | refine sX rfl rfl ?_ | (refine sS rfl rfl ?_ ?_; focus omega) | (refine sC rfl rfl ?_ ?_; focus (first | exact trivial | assumption | exact ⟨by assumption, by assumption⟩ | exact mb2 rfl rfl | exact mb4 rfl rfl rfl rfl)) | refine cX ?_ | refine cY ?_ | (refine sA rfl rfl ?_; intro _) | refine sT rfl ?_ | refine sW rfl rfl ?_ | refine sK rfl rfl ?_ | refine j_if rfl ?_ | refine j_else rfl ?_ | refine Go.Vt.jq (wl_pickT rfl rfl) rfl rfl ?_ | refine Go.Vt.jq (wl_pickF rfl rfl) rfl rfl ?_)
    refine jq (wl_loadD rfl (show ps[0 + (i : Int).toNat * 1]? = some ps[i] by rw [show 0 + (i : Int).toNat * 1 = i by omega]; simp [h1])) rfl rfl ?_
    refine jq (yl_move rfl) rfl rfl ?_
    refine jq (wl_cv rfl) rfl rfl ?_
    refine jq (wl_or rfl rfl) rfl rfl ?_
    rw [or_low _ _ _ g1 hs]
    repeat (first | refine sX rfl rfl ?_ | (refine sS rfl rfl ?_ ?_; focus omega) | (refine sC rfl rfl ?_ ?_; focus (first | exact trivial | assumption | exact ⟨by assumption, by assumption⟩ | exact mb2 rfl rfl | exact mb4 rfl rfl rfl rfl)) | refine cX ?_ | refine cY ?_ | (refine sA rfl rfl ?_; intro _) | refine sT rfl ?_ | refine sW rfl rfl ?_ | refine sK rfl rfl ?_ | refine j_if rfl ?_ | refine j_else rfl ?_ | refine Go.Vt.jq (wl_pickT rfl rfl) rfl rfl ?_ | refine Go.Vt.jq (wl_pickF rfl rfl) rfl rfl ?_)
    refine wo_storeD rfl rfl (by omega) rfl ?_
    rw [show 0 + (i : Int).toNat * 1 = i by omega]
    repeat (first | refine sX rfl rfl ?_ | (refine sS rfl rfl ?_ ?_; focus omega) | (refine sC rfl rfl ?_ ?_; focus (first | exact trivial | assumption | exact ⟨by assumption, by assumption⟩ | exact mb2 rfl rfl | exact mb4 rfl rfl rfl rfl)) | refine cX ?_ | refine cY ?_ | (refine sA rfl rfl ?_; intro _) | refine sT rfl ?_ | refine sW rfl rfl ?_ | refine sK rfl rfl ?_ | refine j_if rfl ?_ | refine j_else rfl ?_ | refine Go.Vt.jq (wl_pickT rfl rfl) rfl rfl ?_ | refine Go.Vt.jq (wl_pickF rfl rfl) rfl rfl ?_)
    refine jq (wl_shr rfl rfl (by decide)) rfl rfl ?_
    rw [p32, show ((xs[i] * 2 ^ s : Nat) : Int) / 4294967296 = ((xs[i] * 2 ^ s / 4294967296 : Nat) : Int) by omega]
    repeat (first | refine sX rfl rfl ?_ | (refine sS rfl rfl ?_ ?_; focus omega) | (refine sC rfl rfl ?_ ?_; focus (first | exact trivial | assumption | exact ⟨by assumption, by assumption⟩ | exact mb2 rfl rfl | exact mb4 rfl rfl rfl rfl)) | refine cX ?_ | refine cY ?_ | (refine sA rfl rfl ?_; intro _) | refine sT rfl ?_ | refine sW rfl rfl ?_ | refine sK rfl rfl ?_ | refine j_if rfl ?_ | refine j_else rfl ?_ | refine Go.Vt.jq (wl_pickT rfl rfl) rfl rfl ?_ | refine Go.Vt.jq (wl_pickF rfl rfl) rfl rfl ?_)
    refine wo_storeD rfl rfl (by rw [List.length_set]; omega) rfl ?_
    rw [show 0 + ((i : Int) + 1).toNat * 1 = i + 1 by omega]
    repeat (first | refine sX rfl rfl ?_ | (refine sS rfl rfl ?_ ?_; focus omega) | (refine sC rfl rfl ?_ ?_; focus (first | exact trivial | assumption | exact ⟨by assumption, by assumption⟩ | exact mb2 rfl rfl | exact mb4 rfl rfl rfl rfl)) | refine cX ?_ | refine cY ?_ | (refine sA rfl rfl ?_; intro _) | refine sT rfl ?_ | refine sW rfl rfl ?_ | refine sK rfl rfl ?_ | refine j_if rfl ?_ | refine j_else rfl ?_ | refine Go.Vt.jq (wl_pickT rfl rfl) rfl rfl ?_ | refine Go.Vt.jq (wl_pickF rfl rfl) rfl rfl ?_)
    exact jx_loop (i + 1, _) ⟨hlt, by simp only [List.length_set]; exact hlp, dg_set (dg_set hDp _ _ g4) _ _ (by omega), g6⟩ (by repeat (first | exact sub_nil | refine sub_cons rfl ?_)) (List.Sublist.refl _) (by simp only; omega)
  · have hge : i = xs.length := by have := of_decide_eq_false h; omega
    subst hge
    repeat (first | refine sX rfl rfl ?_ | (refine sS rfl rfl ?_ ?_; focus omega) | (refine sC rfl rfl ?_ ?_; focus (first | exact trivial | assumption | exact ⟨by assumption, by assumption⟩ | exact mb2 rfl rfl | exact mb4 rfl rfl rfl rfl)) | refine cX ?_ | refine cY ?_ | (refine sA rfl rfl ?_; intro _) | refine sT rfl ?_ | refine sW rfl rfl ?_ | refine sK rfl rfl ?_ | refine j_if rfl ?_ | refine j_else rfl ?_ | refine Go.Vt.jq (wl_pickT rfl rfl) rfl rfl ?_ | refine Go.Vt.jq (wl_pickF rfl rfl) rfl rfl ?_)
    rw [List.take_of_length_le (Nat.le_refl _)] at hvp
    have he : ps = os := vd_inj hDp hDo (by omega) (by rw [hvp, hv])
    subst he
    exact jx_ret_tmp rfl rfl (fun w hw => retB_ok hw)
end Go.Vt
