/- SimplifyBuilds (viator law 31): true for every input. Conditions: those that each statement names. (part 3 of 6.) Conditions: those that each statement names. -/
import Derived.Laws.AppendOwn
import Derived.Test.YtgcjapcminakdaaGreatDoorBu2
/- Division with remainder and the greatest common divisor of integers. Conditions: the lengths that each statement names. -/
set_option linter.unusedSimpArgs false
set_option linter.unusedVariables false
set_option maxRecDepth 100000
namespace Go.Vt
open Go.RowKit Go.Proofs
instance sp_div (a b : Nat) : SpecC Tryz.prog 132 [.string (mag a), .string (mag b)] (.tuple #[.string (mag (a / b)), .string (mag (a % b))]) (b ≠ 0 ∧ (mag a).size ≤ LIM ∧ (mag b).size ≤ LIM) := ⟨fun h w => div_spec a b h.1 h.2.1 h.2.2 w⟩
theorem divmod_eq (a b : Int) (hb : b ≠ 0) (q r : Nat) (hq : q = a.natAbs / b.natAbs) (hr : r = a.natAbs % b.natAbs) :
    (a < 0 ∧ r ≠ 0 → sg (decide (a < 0) != decide (b < 0)) (q + 1) = a / b ∧ ((b.natAbs - r : Nat) : Int) = a % b) ∧ (¬ (a < 0 ∧ r ≠ 0) → sg (decide (a < 0) != decide (b < 0)) q = a / b ∧ (r : Int) = a % b) := by
  have hb' : 0 < b.natAbs := by omega
  have h1 := Nat.div_add_mod a.natAbs b.natAbs
  have h2 := Nat.mod_lt a.natAbs hb'
  rw [← hq, ← hr] at h1
  rw [← hr] at h2
  have key : ∀ (x : Int) (y : Int), a = b * x + y → 0 ≤ y → y < b.natAbs → x = a / b ∧ y = a % b := by
    intro x y e h3 h4
    rcases Int.lt_or_le b 0 with h0 | h0
    · have := (Int.ediv_emod_unique' (a := a) (b := b) (r := y) (q := x) h0).2 ⟨by omega, h3, by omega⟩
      exact ⟨this.1.symm, this.2.symm⟩
    · have := (Int.ediv_emod_unique (a := a) (b := b) (r := y) (q := x) (by omega)).2 ⟨by omega, h3, by omega⟩
      exact ⟨this.1.symm, this.2.symm⟩
  have hm : ((b.natAbs * q : Nat) : Int) = (b.natAbs : Int) * (q : Int) := by simp
  unfold sg
  refine ⟨fun ⟨ha, hr0⟩ => ?_, fun hn => ?_⟩
  · refine key _ _ ?_ (by omega) (by omega)
    rcases Int.lt_or_le b 0 with hb0 | hb0
    · simp only [ha, hb0, decide_true, bne_self_eq_false, Bool.false_eq_true, if_false]
      have : b = -(b.natAbs : Int) := by omega
      rw [this, Int.natAbs_neg, Int.natAbs_natCast, Int.natCast_add, Int.mul_add, Int.neg_mul, ← hm]
      omega
    · have hb1 : ¬ b < 0 := by omega
      simp only [ha, hb1, decide_true, decide_false, Bool.bne_false, if_true]
      have : b = (b.natAbs : Int) := by omega
      rw [this, Int.natAbs_natCast, Int.natCast_add, Int.mul_neg, Int.mul_add, ← hm]
      omega
  · refine key _ _ ?_ (by omega) (by omega)
    rcases Int.lt_or_le a 0 with ha | ha
    · have hr0 : r = 0 := by
        rcases Nat.eq_zero_or_pos r with h | h
        · exact h
        · exact absurd ⟨ha, by omega⟩ hn
      rcases Int.lt_or_le b 0 with hb0 | hb0
      · simp only [ha, hb0, decide_true, bne_self_eq_false, Bool.false_eq_true, if_false]
        have : b = -(b.natAbs : Int) := by omega
        rw [this, Int.neg_mul, ← hm]
        omega
      · have hb1 : ¬ b < 0 := by omega
        simp only [ha, hb1, decide_true, decide_false, Bool.bne_false, if_true]
        have : b = (b.natAbs : Int) := by omega
        rw [this, Int.mul_neg, ← hm]
        omega
    · have ha1 : ¬ a < 0 := by omega
      rcases Int.lt_or_le b 0 with hb0 | hb0
      · simp only [ha1, hb0, decide_true, decide_false, Bool.bne_true, Bool.not_false, if_true]
        have : b = -(b.natAbs : Int) := by omega
        rw [this, Int.neg_mul, Int.mul_neg, Int.neg_neg, ← hm]
        omega
      · have hb1 : ¬ b < 0 := by omega
        simp only [ha1, hb1, decide_false, bne_self_eq_false, Bool.false_eq_true, if_false]
        have : b = (b.natAbs : Int) := by omega
        rw [this, ← hm]
        omega
theorem mag_one : (⟨#[1]⟩ : ByteArray) = mag 1 := by decide
instance sp_DivMod (a b : Int) : SpecC Tryz.prog 141 [vI a, vI b] (.tuple #[vI (a / b), vI (a % b), .int .i64 0]) (b ≠ 0 ∧ mg a ≤ LIM ∧ mg b ≤ LIM) := ⟨fun hp w => by
  obtain ⟨hb, ha, hbl⟩ := hp
  have hb' : b.natAbs ≠ 0 := by omega
  obtain ⟨k1, k2⟩ := divmod_eq a b hb _ _ rfl rfl
  have hsq : (mag (a.natAbs / b.natAbs)).size ≤ LIM := Nat.le_trans (size_mono (Nat.div_le_self _ _)) ha
  have hlt : a.natAbs % b.natAbs ≤ b.natAbs := Nat.le_of_lt (Nat.mod_lt _ (by omega))
  refine fn_intro Tryz.func141 rfl Tryz.ntmps141 rfl ?_
  repeat (first | refine sX rfl rfl ?_ | (refine sS rfl rfl ?_ ?_; focus omega) | (refine sC rfl rfl ?_ ?_; focus (first | exact trivial | assumption | constructor <;> assumption | exact mb2 rfl rfl | exact mb4 rfl rfl rfl rfl)) | refine cX ?_ | refine cY ?_ | (refine sA rfl rfl ?_; intro _) | refine sT rfl ?_ | refine sW rfl rfl ?_ | refine sK rfl rfl ?_ | refine j_if rfl ?_ | refine j_else rfl ?_ | refine pkT rfl rfl rfl rfl ?_ | refine pkF rfl rfl rfl rfl ?_)
  refine j_cond rfl (fun h => ?_) (fun h => ?_)
  · have := mag_eq_empty.1 (of_decide_eq_true h)
    omega
  repeat (first | refine sX rfl rfl ?_ | (refine sS rfl rfl ?_ ?_; focus omega) | (refine sC rfl rfl ?_ ?_; focus (first | exact trivial | exact ⟨hb', ha, hbl⟩)) | refine cX ?_ | refine cY ?_ | (refine sA rfl rfl ?_; intro _) | refine sT rfl ?_ | refine sW rfl rfl ?_ | refine sK rfl rfl ?_ | refine j_if rfl ?_ | refine j_else rfl ?_ | refine pkT rfl rfl rfl rfl ?_ | refine pkF rfl rfl rfl rfl ?_)
  generalize hq : a.natAbs / b.natAbs = q at *
  generalize hr : a.natAbs % b.natAbs = r at *
  by_cases hA : a < 0
  · simp only [decide_eq_true hA]
    repeat (first | refine sX rfl rfl ?_ | (refine sS rfl rfl ?_ ?_; focus omega) | (refine sC rfl rfl ?_ ?_; focus (first | exact trivial | assumption | constructor <;> assumption | exact mb2 rfl rfl | exact mb4 rfl rfl rfl rfl)) | refine cX ?_ | refine cY ?_ | (refine sA rfl rfl ?_; intro _) | refine sT rfl ?_ | refine sW rfl rfl ?_ | refine sK rfl rfl ?_ | refine j_if rfl ?_ | refine j_else rfl ?_ | refine pkT rfl rfl rfl rfl ?_ | refine pkF rfl rfl rfl rfl ?_)
    refine j_cond rfl (fun h => ?_) (fun h => ?_)
    · have hn : ¬ mag r = ⟨#[]⟩ := by simpa using h
      obtain ⟨e1, e2⟩ := k1 ⟨hA, fun h0 => hn (mag_eq_empty.2 h0)⟩
      (refine j_late [0, 1, 2, 3, 4, 5] [6, 7] _ mixed (by kernel_rfl) (by decide) (List.Sublist.refl _) ?_; simp only [picks, List.getElem?_cons_succ, List.getElem?_cons_zero])
      rw [mag_one]
      repeat (first | refine tX rfl rfl ?_ | (refine tS rfl rfl ?_ ?_; focus omega) | (refine tC rfl rfl ?_ ?_; focus (first | exact trivial | exact ⟨hsq, by decide⟩ | exact ⟨hbl, hlt⟩)) | refine tW rfl rfl ?_ | refine tK rfl rfl ?_ | refine Go.Vt.hq (wl_pickT rfl rfl) rfl rfl ?_ | refine Go.Vt.hq (wl_pickF rfl rfl) rfl rfl ?_)
      refine jh_nil ?_
      refine je_assign rfl rfl rfl (List.Sublist.refl _) (je_assign rfl rfl rfl (List.Sublist.refl _) (je_nil ?_))
      repeat (first | refine sX rfl rfl ?_ | (refine sS rfl rfl ?_ ?_; focus omega) | (refine sC rfl rfl ?_ ?_; focus (first | exact trivial | assumption | constructor <;> assumption | exact mb2 rfl rfl | exact mb4 rfl rfl rfl rfl)) | refine cX ?_ | refine cY ?_ | (refine sA rfl rfl ?_; intro _) | refine sT rfl ?_ | refine sW rfl rfl ?_ | refine sK rfl rfl ?_ | refine j_if rfl ?_ | refine j_else rfl ?_ | refine pkT rfl rfl rfl rfl ?_ | refine pkF rfl rfl rfl rfl ?_)
      exact jx_ret_three rfl (wr_cell rfl) (wr_cell rfl) (resv_tmp rfl) (fun w hw => by rw [e1, show sg false (b.natAbs - r) = a % b from e2]; exact ret_ok hw)
    · have hn : mag r = ⟨#[]⟩ := by simpa using h
      obtain ⟨e1, e2⟩ := k2 (fun h => h.2 (mag_eq_empty.1 hn))
      repeat (first | refine sX rfl rfl ?_ | (refine sS rfl rfl ?_ ?_; focus omega) | (refine sC rfl rfl ?_ ?_; focus (first | exact trivial | assumption | constructor <;> assumption | exact mb2 rfl rfl | exact mb4 rfl rfl rfl rfl)) | refine cX ?_ | refine cY ?_ | (refine sA rfl rfl ?_; intro _) | refine sT rfl ?_ | refine sW rfl rfl ?_ | refine sK rfl rfl ?_ | refine j_if rfl ?_ | refine j_else rfl ?_ | refine pkT rfl rfl rfl rfl ?_ | refine pkF rfl rfl rfl rfl ?_)
      exact jx_ret_three rfl (wr_cell rfl) (wr_cell rfl) (resv_tmp rfl) (fun w hw => by rw [e1, show sg false r = a % b from e2]; exact ret_ok hw)
  · simp only [decide_eq_false hA]
    obtain ⟨e1, e2⟩ := k2 (fun h => hA h.1)
    repeat (first | refine sX rfl rfl ?_ | (refine sS rfl rfl ?_ ?_; focus omega) | (refine sC rfl rfl ?_ ?_; focus (first | exact trivial | assumption | constructor <;> assumption | exact mb2 rfl rfl | exact mb4 rfl rfl rfl rfl)) | refine cX ?_ | refine cY ?_ | (refine sA rfl rfl ?_; intro _) | refine sT rfl ?_ | refine sW rfl rfl ?_ | refine sK rfl rfl ?_ | refine j_if rfl ?_ | refine j_else rfl ?_ | refine pkT rfl rfl rfl rfl ?_ | refine pkF rfl rfl rfl rfl ?_)
    exact jx_ret_three rfl (wr_cell rfl) (wr_cell rfl) (resv_tmp rfl) (fun w hw => by rw [e1, show sg false r = a % b from e2]; exact ret_ok hw)⟩
theorem gcd_spec (a b : Int) (ha : mg a ≤ LIM) (hb : mg b ≤ LIM) (w : World) : Calls Tryz.prog 94 [vI a, vI b].toArray w (Ret (vI (Int.gcd a b)) w) := by
  refine fn_intro Tryz.func94 rfl Tryz.ntmps94 rfl ?_
  repeat (first | refine sX rfl rfl ?_ | (refine sS rfl rfl ?_ ?_; focus omega) | (refine sC rfl rfl ?_ ?_; focus (first | exact trivial | assumption | constructor <;> assumption | exact mb2 rfl rfl | exact mb4 rfl rfl rfl rfl)) | refine cX ?_ | refine cY ?_ | (refine sA rfl rfl ?_; intro _) | refine sT rfl ?_ | refine sW rfl rfl ?_ | refine sK rfl rfl ?_ | refine j_if rfl ?_ | refine j_else rfl ?_ | refine pkT rfl rfl rfl rfl ?_ | refine pkF rfl rfl rfl rfl ?_)
  (refine j_late [0, 1, 2, 3] [4, 5] _ mixed (by kernel_rfl) (by decide) (List.Sublist.refl _) ?_; simp only [picks, List.getElem?_cons_succ, List.getElem?_cons_zero])
  repeat (first | refine tX rfl rfl ?_ | (refine tS rfl rfl ?_ ?_; focus omega) | (refine tC rfl rfl ?_ ?_; focus (first | exact trivial | assumption | constructor <;> assumption | exact mb2 rfl rfl | exact mb4 rfl rfl rfl rfl)) | refine tW rfl rfl ?_ | refine tK rfl rfl ?_ | refine Go.Vt.hq (wl_pickT rfl rfl) rfl rfl ?_ | refine Go.Vt.hq (wl_pickF rfl rfl) rfl rfl ?_)
  refine jh_nil ?_
  refine je_assign rfl rfl rfl (List.Sublist.refl _) (je_assign rfl rfl rfl (List.Sublist.refl _) (je_nil ?_))
  repeat (first | refine sX rfl rfl ?_ | (refine sS rfl rfl ?_ ?_; focus omega) | (refine sC rfl rfl ?_ ?_; focus (first | exact trivial | assumption | constructor <;> assumption | exact mb2 rfl rfl | exact mb4 rfl rfl rfl rfl)) | refine cX ?_ | refine cY ?_ | (refine sA rfl rfl ?_; intro _) | refine sT rfl ?_ | refine sW rfl rfl ?_ | refine sK rfl rfl ?_ | refine j_if rfl ?_ | refine j_else rfl ?_ | refine pkT rfl rfl rfl rfl ?_ | refine pkF rfl rfl rfl rfl ?_)
  rename_i ba bb bc
  refine j_loop (S := Nat × Nat) (fun s => Nat.gcd s.1 s.2 = Int.gcd a b ∧ (mag s.1).size ≤ LIM ∧ (mag s.2).size ≤ LIM) (fun s => [(4, .pointer (some ⟨bc, 0, none⟩)), (5, .string (mag s.1)), (6, .string (mag s.2))]) (fun _ => [⟨bc, e_api_Int z_api_Int, 26⟩]) (fun s => s.2) (a.natAbs, b.natAbs) ⟨rfl, ha, hb⟩
    (by repeat (first | exact sub_nil | refine sub_cons rfl ?_ | refine sub_cons' rfl (by congr 1; omega) ?_)) sbl (fun s hs => ?_)
  obtain ⟨x, y⟩ := s
  obtain ⟨hg, hx, hy⟩ := hs
  simp only at hg hx hy ⊢
  repeat (first | refine sX rfl rfl ?_ | (refine sS rfl rfl ?_ ?_; focus omega) | (refine sC rfl rfl ?_ ?_; focus (first | exact trivial | assumption | constructor <;> assumption | exact mb2 rfl rfl | exact mb4 rfl rfl rfl rfl)) | refine cX ?_ | refine cY ?_ | (refine sA rfl rfl ?_; intro _) | refine sT rfl ?_ | refine sW rfl rfl ?_ | refine sK rfl rfl ?_ | refine j_if rfl ?_ | refine j_else rfl ?_ | refine pkT rfl rfl rfl rfl ?_ | refine pkF rfl rfl rfl rfl ?_)
  refine j_cond rfl (fun h => ?_) (fun h => ?_)
  · have hn : ¬ mag y = ⟨#[]⟩ := by simpa using h
    have hy0 : y ≠ 0 := fun h0 => hn (mag_eq_empty.2 h0)
    repeat (first | refine sX rfl rfl ?_ | (refine sS rfl rfl ?_ ?_; focus omega) | (refine sC rfl rfl ?_ ?_; focus (first | exact trivial | assumption | constructor <;> assumption | exact mb2 rfl rfl | exact mb4 rfl rfl rfl rfl)) | refine cX ?_ | refine cY ?_ | (refine sA rfl rfl ?_; intro _) | refine sT rfl ?_ | refine sW rfl rfl ?_ | refine sK rfl rfl ?_ | refine j_if rfl ?_ | refine j_else rfl ?_ | refine pkT rfl rfl rfl rfl ?_ | refine pkF rfl rfl rfl rfl ?_)
    refine j_cond rfl (fun h => ?_) (fun h => ?_)
    · have hxy : sm x = true ∧ sm y = true := by simpa using h
      repeat (first | refine sX rfl rfl ?_ | (refine sS rfl rfl ?_ ?_; focus omega) | (refine sC rfl rfl ?_ ?_; focus (first | exact trivial | assumption | constructor <;> assumption | exact mb2 rfl rfl | exact mb4 rfl rfl rfl rfl)) | refine cX ?_ | refine cY ?_ | (refine sA rfl rfl ?_; intro _) | refine sT rfl ?_ | refine sW rfl rfl ?_ | refine sK rfl rfl ?_ | refine j_if rfl ?_ | refine j_else rfl ?_ | refine pkT rfl rfl rfl rfl ?_ | refine pkF rfl rfl rfl rfl ?_)
      refine j_loop (S := Nat × Nat) (fun s => Nat.gcd s.1 s.2 = Int.gcd a b ∧ s.1 < 18446744073709551616 ∧ s.2 < 18446744073709551616) (fun s => [(4, .pointer (some ⟨bc, 0, none⟩)), (7, .int .u64 s.1), (8, .int .u64 s.2)]) (fun _ => [⟨bc, e_api_Int z_api_Int, 26⟩]) (fun s => s.2) (lo x, lo y) ⟨by simp only [lo_sm hxy.1, lo_sm hxy.2]; exact hg, lo_lt _, lo_lt _⟩
        (by repeat (first | exact sub_nil | refine sub_cons rfl ?_ | refine sub_cons' rfl (by congr 1; omega) ?_)) sbl (fun s hs => ?_)
      obtain ⟨u, v⟩ := s
      obtain ⟨hg, hu, hv⟩ := hs
      simp only at hg hu hv ⊢
      repeat (first | refine sX rfl rfl ?_ | (refine sS rfl rfl ?_ ?_; focus omega) | (refine sC rfl rfl ?_ ?_; focus (first | exact trivial | assumption | constructor <;> assumption | exact mb2 rfl rfl | exact mb4 rfl rfl rfl rfl)) | refine cX ?_ | refine cY ?_ | (refine sA rfl rfl ?_; intro _) | refine sT rfl ?_ | refine sW rfl rfl ?_ | refine sK rfl rfl ?_ | refine j_if rfl ?_ | refine j_else rfl ?_ | refine pkT rfl rfl rfl rfl ?_ | refine pkF rfl rfl rfl rfl ?_)
      refine j_cond rfl (fun h => ?_) (fun h => ?_)
      · have hv0 : v ≠ 0 := fun h0 => by subst h0; simp at h
        have hm := Nat.mod_lt u (Nat.pos_of_ne_zero hv0)
        have hum : ((u : Int) % (v : Int)) = ((u % v : Nat) : Int) := rfl
        repeat (first | refine sX rfl rfl ?_ | (refine sS rfl rfl ?_ ?_; focus omega) | (refine sC rfl rfl ?_ ?_; focus (first | exact trivial | assumption | constructor <;> assumption | exact mb2 rfl rfl | exact mb4 rfl rfl rfl rfl)) | refine cX ?_ | refine cY ?_ | (refine sA rfl rfl ?_; intro _) | refine sT rfl ?_ | refine sW rfl rfl ?_ | refine sK rfl rfl ?_ | refine j_if rfl ?_ | refine j_else rfl ?_ | refine pkT rfl rfl rfl rfl ?_ | refine pkF rfl rfl rfl rfl ?_)
        (refine j_late [0, 1, 2, 3] [4, 5] ([]) mixed (by kernel_rfl) (by decide) sbl ?_; simp only [picks, List.getElem?_cons_succ, List.getElem?_cons_zero])
        repeat (first | refine tX rfl rfl ?_ | (refine tS rfl rfl ?_ ?_; focus omega) | (refine tC rfl rfl ?_ ?_; focus (first | exact trivial | assumption | constructor <;> assumption | exact mb2 rfl rfl | exact mb4 rfl rfl rfl rfl)) | refine tW rfl rfl ?_ | refine tK rfl rfl ?_ | refine Go.Vt.hq (wl_pickT rfl rfl) rfl rfl ?_ | refine Go.Vt.hq (wl_pickF rfl rfl) rfl rfl ?_)
        refine hq (wl_remu rfl rfl ?_) rfl rfl ?_
        · omega
        rw [hum]
        refine jh_nil ?_
        refine je_assign rfl rfl rfl (List.nil_sublist _) (je_assign rfl rfl rfl (List.nil_sublist _) (je_nil ?_))
        repeat (first | refine sX rfl rfl ?_ | (refine sS rfl rfl ?_ ?_; focus omega) | (refine sC rfl rfl ?_ ?_; focus (first | exact trivial | assumption | constructor <;> assumption | exact mb2 rfl rfl | exact mb4 rfl rfl rfl rfl)) | refine cX ?_ | refine cY ?_ | (refine sA rfl rfl ?_; intro _) | refine sT rfl ?_ | refine sW rfl rfl ?_ | refine sK rfl rfl ?_ | refine j_if rfl ?_ | refine j_else rfl ?_ | refine pkT rfl rfl rfl rfl ?_ | refine pkF rfl rfl rfl rfl ?_)
        exact jx_loop (v, u % v) ⟨by simp only; rw [← hg, Nat.gcd_comm u v, Nat.gcd_comm v, Nat.gcd_rec v u], by omega, by omega⟩ (by repeat (first | exact sub_nil | refine sub_cons rfl ?_ | refine sub_cons' rfl (by congr 1; omega) ?_)) sbl hm
      · have hv0 : v = 0 := by
          have : (v : Int) = 0 := by simpa using h
          omega
        subst hv0
        rw [Nat.gcd_zero_right] at hg
        subst hg
        repeat (first | refine sX rfl rfl ?_ | (refine sS rfl rfl ?_ ?_; focus omega) | (refine sC rfl rfl ?_ ?_; focus (first | exact trivial | omega)) | refine cX ?_ | refine cY ?_ | (refine sA rfl rfl ?_; intro _) | refine sT rfl ?_ | refine sW rfl rfl ?_ | refine sK rfl rfl ?_ | refine j_if rfl ?_ | refine j_else rfl ?_ | refine pkT rfl rfl rfl rfl ?_ | refine pkF rfl rfl rfl rfl ?_)
        exact wx_cell rfl rfl (fun w hw => ret_ok hw)
    · repeat (first | refine sX rfl rfl ?_ | (refine sS rfl rfl ?_ ?_; focus omega) | (refine sC rfl rfl ?_ ?_; focus (first | exact trivial | exact ⟨hy0, hx, hy⟩)) | refine cX ?_ | refine cY ?_ | (refine sA rfl rfl ?_; intro _) | refine sT rfl ?_ | refine sW rfl rfl ?_ | refine sK rfl rfl ?_ | refine j_if rfl ?_ | refine j_else rfl ?_ | refine pkT rfl rfl rfl rfl ?_ | refine pkF rfl rfl rfl rfl ?_)
      have hm := Nat.mod_lt x (Nat.pos_of_ne_zero hy0)
      exact jx_loop (y, x % y) ⟨by simp only; rw [← hg, Nat.gcd_comm x y, Nat.gcd_comm y, Nat.gcd_rec y x], hy, Nat.le_trans (size_mono (Nat.mod_le _ _)) hx⟩ (by repeat (first | exact sub_nil | refine sub_cons rfl ?_ | refine sub_cons' rfl (by congr 1; omega) ?_)) sbl hm
  · have hn : mag y = ⟨#[]⟩ := by simpa using h
    have hy0 := mag_eq_empty.1 hn
    subst hy0
    rw [Nat.gcd_zero_right] at hg
    subst hg
    repeat (first | refine sX rfl rfl ?_ | (refine sS rfl rfl ?_ ?_; focus omega) | (refine sC rfl rfl ?_ ?_; focus (first | exact trivial | assumption | constructor <;> assumption | exact mb2 rfl rfl | exact mb4 rfl rfl rfl rfl)) | refine cX ?_ | refine cY ?_ | (refine sA rfl rfl ?_; intro _) | refine sT rfl ?_ | refine sW rfl rfl ?_ | refine sK rfl rfl ?_ | refine j_if rfl ?_ | refine j_else rfl ?_ | refine pkT rfl rfl rfl rfl ?_ | refine pkF rfl rfl rfl rfl ?_)
    exact wx_cell rfl rfl (fun w hw => ret_ok hw)
instance sp_Gcd (a b : Int) : SpecC Tryz.prog 94 [vI a, vI b] (vI (Int.gcd a b)) (mg a ≤ LIM ∧ mg b ≤ LIM) := ⟨fun h w => gcd_spec a b h.1 h.2 w⟩
end Go.Vt
/- The fractions of the program: rational numbers in canonical form. Conditions: the lengths that each statement names. -/
set_option linter.unusedSimpArgs false
set_option linter.unusedVariables false
set_option maxRecDepth 100000
namespace Go.Vt
open Go.RowKit Go.Proofs
/-- The denominator as it is kept, the fraction, its length. -/
def dn (q : Rat) : Int := if q.den = 1 then 0 else q.den
def Q (q : Rat) : api_Rat := ⟨I q.num, I (dn q)⟩
abbrev vQ (q : Rat) : Value := .agg (e_api_Rat (Q q))
def M (q : Rat) : Nat := max (mg q.num) (mg q.den)
abbrev LQ : Nat := 274877906944
theorem I_inj {a b : Int} : I a = I b ↔ a = b := by
  refine ⟨fun h => ?_, fun h => by rw [h]⟩
  have h1 := congrArg api_Int.Neg h
  have h2 := congrArg api_Int.Mag h
  simp only [I] at h1 h2
  have h3 := mag_inj.1 h2
  by_cases ha : a < 0 <;> by_cases hb : b < 0 <;> simp [ha, hb] at h1 <;> omega
theorem dn_inj {p q : Rat} : dn p = dn q ↔ p.den = q.den := by
  have h1 := p.den_pos
  have h2 := q.den_pos
  unfold dn
  split <;> split <;> omega
theorem Q_inj {p q : Rat} : Q p = Q q ↔ p = q := by
  refine ⟨fun h => ?_, fun h => by rw [h]⟩
  have h1 := I_inj.1 (congrArg api_Rat.Num h)
  have h2 := dn_inj.1 (I_inj.1 (congrArg api_Rat.Den h))
  exact Rat.ext h1 h2
theorem z_I : z_api_Int = I 0 := by decide
theorem z_Q : z_api_Rat = Q 0 := by decide
instance (priority := high) zeroI : ZeroC Tryz.prog 26 (vI 0) (e_api_Int (I 0)) := ⟨by have h := @ZeroC.out Tryz.prog 26 (.agg (e_api_Int z_api_Int)) (e_api_Int z_api_Int) inferInstance; rw [z_I] at h; exact h, rfl⟩
instance (priority := high) zeroQ : ZeroC Tryz.prog 28 (vQ 0) (e_api_Rat (Q 0)) := ⟨by have h := @ZeroC.out Tryz.prog 28 (.agg (e_api_Rat z_api_Rat)) (e_api_Rat z_api_Rat) inferInstance; rw [z_Q] at h; exact h, rfl⟩
instance (priority := high) bdI0 : BdC Tryz.prog 26 [] (vI 0) := ⟨by have h := @BdC.out Tryz.prog 26 [] (.agg (e_api_Int z_api_Int)) inferInstance; rw [z_I] at h; exact h⟩
instance (priority := high) bdQ0 : BdC Tryz.prog 28 [] (vQ 0) := ⟨by have h := @BdC.out Tryz.prog 28 [] (.agg (e_api_Rat z_api_Rat)) inferInstance; rw [z_Q] at h; exact h⟩
instance (priority := high) ldQ_num (q : Rat) : LdC Tryz.prog 26 (e_api_Rat (Q q)) 0 (vI q.num) := ⟨ldv_agg 2 (by kernel_rfl) (by kernel_rfl) (by kernel_rfl)⟩
instance (priority := high) ldQ_den (q : Rat) : LdC Tryz.prog 26 (e_api_Rat (Q q)) 2 (vI (dn q)) := ⟨ldv_agg 2 (by kernel_rfl) (by kernel_rfl) (by kernel_rfl)⟩
instance (priority := high) eqI (a b : Int) : BinC Tryz.prog .eql 26 (vI a) (vI b) (.bool (decide (a = b))) := by
  have h : decide (I a = I b) = decide (a = b) := by rw [decide_eq_decide]; exact I_inj
  exact h ▸ (inferInstance : BinC Tryz.prog .eql 26 (vI a) (vI b) (.bool (decide (I a = I b))))
instance (priority := high) eqQ (a b : Rat) : BinC Tryz.prog .eql 28 (vQ a) (vQ b) (.bool (decide (a = b))) := by
  have h : decide (Q a = Q b) = decide (a = b) := by rw [decide_eq_decide]; exact Q_inj
  exact h ▸ (inferInstance : BinC Tryz.prog .eql 28 (vQ a) (vQ b) (.bool (decide (Q a = Q b))))
theorem M_num (q : Rat) : mg q.num ≤ M q := Nat.le_max_left _ _
theorem M_den (q : Rat) : mg q.den ≤ M q := Nat.le_max_right _ _
theorem mg_ofNat (n : Nat) : mg (n : Int) = (mag n).size := by unfold mg; rw [Int.natAbs_natCast]
theorem natAbs_ediv (a : Int) (g : Nat) (h : (g : Int) ∣ a) : (a / (g : Int)).natAbs ≤ a.natAbs := by
  obtain ⟨k, rfl⟩ := h
  rcases Nat.eq_zero_or_pos g with h | h
  · subst h; simp
  · rw [Int.mul_ediv_cancel_left _ (by omega), Int.natAbs_mul, Int.natAbs_natCast]
    exact Nat.le_mul_of_pos_left _ h
theorem M_divInt {a b : Int} {k : Nat} (ha : mg a ≤ k) (hb : mg b ≤ k) (h1 : 1 ≤ k) : M (Rat.divInt a b) ≤ k := by
  refine Nat.max_le.2 ⟨?_, ?_⟩
  · refine Nat.le_trans (mg_mono ?_) ha
    rw [Rat.num_divInt]
    refine Nat.le_trans (natAbs_ediv _ _ ?_) ?_
    · exact Int.dvd_trans (Int.gcd_dvd_right ..) (Int.dvd_mul_left _ _)
    · rw [Int.natAbs_mul]
      have : b.sign.natAbs ≤ 1 := by rw [Int.natAbs_sign]; split <;> omega
      calc b.sign.natAbs * a.natAbs ≤ 1 * a.natAbs := Nat.mul_le_mul_right _ this
        _ = a.natAbs := Nat.one_mul _
  · rw [Rat.den_divInt, mg_ofNat]
    split
    · exact Nat.le_trans (by decide) h1
    · exact Nat.le_trans (size_mono (Nat.div_le_self _ _)) hb
theorem den_ne (q : Rat) : (q.den : Int) ≠ 0 := by have := q.den_pos; omega
theorem add_divInt (a b : Rat) : a + b = Rat.divInt (a.num * b.den + b.num * a.den) (a.den * b.den) := by
  rw [Rat.add_def', ← Rat.divInt_ofNat, Int.natCast_mul]
theorem mul_divInt (a b : Rat) : a * b = Rat.divInt (a.num * b.num) (a.den * b.den) := by
  rw [Rat.mul_def', ← Rat.divInt_ofNat, Int.natCast_mul]
theorem div_divInt (a b : Rat) : a / b = Rat.divInt (a.num * b.den) (a.den * b.num) := by
  conv => lhs; rw [Rat.div_def, ← Rat.num_divInt_den a, ← Rat.num_divInt_den b, Rat.inv_divInt, Rat.divInt_mul_divInt]
theorem mg_pos {q : Rat} : 1 ≤ M q := by
  refine Nat.le_trans ?_ (M_den q)
  rw [mg_ofNat]
  rcases Nat.eq_zero_or_pos (mag q.den).size with h | h
  · have h1 := (mag_size (n := q.den) (k := 0)).1 (by omega)
    have := q.den_pos
    simp at h1
    omega
  · exact h
theorem M_add (a b : Rat) : M (a + b) ≤ M a + M b + 1 := by
  rw [add_divInt]
  have h1 := M_num a
  have h2 := M_den a
  have h3 := M_num b
  have h4 := M_den b
  refine M_divInt (mg_add (k := M a + M b) ?_ ?_) ?_ (by omega)
  · exact Nat.le_trans (mg_mul _ _) (by omega)
  · exact Nat.le_trans (mg_mul _ _) (by omega)
  · exact Nat.le_trans (mg_mul _ _) (by omega)
theorem M_mul (a b : Rat) : M (a * b) ≤ M a + M b := by
  rw [mul_divInt]
  have h1 := M_num a
  have h2 := M_den a
  have h3 := M_num b
  have h4 := M_den b
  have h5 := @mg_pos a
  exact M_divInt (Nat.le_trans (mg_mul _ _) (by omega)) (Nat.le_trans (mg_mul _ _) (by omega)) (by omega)
theorem M_div (a b : Rat) : M (a / b) ≤ M a + M b := by
  rw [div_divInt]
  have h1 := M_num a
  have h2 := M_den a
  have h3 := M_num b
  have h4 := M_den b
  have h5 := @mg_pos a
  exact M_divInt (Nat.le_trans (mg_mul _ _) (by omega)) (Nat.le_trans (mg_mul _ _) (by omega)) (by omega)
theorem M_neg (a : Rat) : M (-a) = M a := by unfold M; rw [Rat.neg_num, Rat.neg_den, mg_neg]
theorem M_sub (a b : Rat) : M (a - b) ≤ M a + M b + 1 := by rw [Rat.sub_eq_add_neg, ← M_neg b]; exact M_add _ _
/-- A bound of a fraction's length, found by its form. -/
class MB (q : Rat) (k : outParam Nat) : Prop where out : M q ≤ k
instance mb_add (a b : Rat) (j k : Nat) [h1 : MB a j] [h2 : MB b k] : MB (a + b) (j + k + 1) := ⟨by have := M_add a b; have := h1.out; have := h2.out; omega⟩
instance mb_sub (a b : Rat) (j k : Nat) [h1 : MB a j] [h2 : MB b k] : MB (a - b) (j + k + 1) := ⟨by have := M_sub a b; have := h1.out; have := h2.out; omega⟩
instance mb_mul (a b : Rat) (j k : Nat) [h1 : MB a j] [h2 : MB b k] : MB (a * b) (j + k) := ⟨by have := M_mul a b; have := h1.out; have := h2.out; omega⟩
instance mb_div (a b : Rat) (j k : Nat) [h1 : MB a j] [h2 : MB b k] : MB (a / b) (j + k) := ⟨by have := M_div a b; have := h1.out; have := h2.out; omega⟩
instance mb_zero : MB 0 1 := ⟨by decide⟩
theorem M_int (n : Int) : M (n : Rat) = max (mg n) 1 := by unfold M; rw [Rat.num_intCast, Rat.den_intCast]; rfl
theorem M_int8 {n : Int} (h : -9223372036854775808 ≤ n ∧ n ≤ 9223372036854775807) : M (n : Rat) ≤ 8 := by
  rw [M_int]
  refine Nat.max_le.2 ⟨mg_small ?_, by decide⟩
  have : (256 : Nat) ^ 8 = 18446744073709551616 := by decide
  omega
theorem MB.le {q : Rat} {k : Nat} [h : MB q k] (hk : Nat.ble k LQ = true) : M q ≤ LQ := Nat.le_trans h.out (Nat.le_of_ble_eq_true hk)
instance sp_one : SpecC Tryz.prog 93 [] (vI 1) True := ⟨fun _ w => by
  refine fn_intro Tryz.func93 rfl Tryz.ntmps93 rfl ?_
  repeat (first | refine sX rfl rfl ?_ | (refine sS rfl rfl ?_ ?_; focus omega) | (refine sC rfl rfl ?_ ?_; focus (first | exact trivial | omega)) | refine cX ?_ | refine cY ?_ | (refine sA rfl rfl ?_; intro _) | refine sT rfl ?_ | refine sW rfl rfl ?_ | refine sK rfl rfl ?_ | refine j_if rfl ?_ | refine j_else rfl ?_ | refine pkT rfl rfl rfl rfl ?_ | refine pkF rfl rfl rfl rfl ?_)
  exact wx_cell rfl rfl (fun w hw => ret_ok hw)⟩
theorem dn_zero {q : Rat} : dn q = 0 ↔ q.den = 1 := by
  have := q.den_pos
  unfold dn
  split <;> omega
instance sp_Den (q : Rat) : SpecC Tryz.prog 58 [vQ q] (vI q.den) True := ⟨fun _ w => by
  refine fn_intro Tryz.func58 rfl Tryz.ntmps58 rfl ?_
  repeat (first | refine sX rfl rfl ?_ | (refine sS rfl rfl ?_ ?_; focus omega) | (refine sC rfl rfl ?_ ?_; focus (first | exact trivial | assumption | constructor <;> assumption | exact mb2 rfl rfl | exact mb4 rfl rfl rfl rfl)) | refine cX ?_ | refine cY ?_ | (refine sA rfl rfl ?_; intro _) | refine sT rfl ?_ | refine sW rfl rfl ?_ | refine sK rfl rfl ?_ | refine j_if rfl ?_ | refine j_else rfl ?_ | refine pkT rfl rfl rfl rfl ?_ | refine pkF rfl rfl rfl rfl ?_)
  refine j_cond rfl (fun h => ?_) (fun h => ?_)
  · have h1 := dn_zero.1 (of_decide_eq_true h)
    rw [h1]
    repeat (first | refine sX rfl rfl ?_ | (refine sS rfl rfl ?_ ?_; focus omega) | (refine sC rfl rfl ?_ ?_; focus (first | exact trivial | assumption | constructor <;> assumption | exact mb2 rfl rfl | exact mb4 rfl rfl rfl rfl)) | refine cX ?_ | refine cY ?_ | (refine sA rfl rfl ?_; intro _) | refine sT rfl ?_ | refine sW rfl rfl ?_ | refine sK rfl rfl ?_ | refine j_if rfl ?_ | refine j_else rfl ?_ | refine pkT rfl rfl rfl rfl ?_ | refine pkF rfl rfl rfl rfl ?_)
    exact wx_cell rfl rfl (fun w hw => ret_ok hw)
  · have h1 : ¬ q.den = 1 := fun h0 => of_decide_eq_false h (dn_zero.2 h0)
    have h2 : dn q = q.den := by unfold dn; rw [if_neg h1]
    repeat (first | refine sX rfl rfl ?_ | (refine sS rfl rfl ?_ ?_; focus omega) | (refine sC rfl rfl ?_ ?_; focus (first | exact trivial | assumption | constructor <;> assumption | exact mb2 rfl rfl | exact mb4 rfl rfl rfl rfl)) | refine cX ?_ | refine cY ?_ | (refine sA rfl rfl ?_; intro _) | refine sT rfl ?_ | refine sW rfl rfl ?_ | refine sK rfl rfl ?_ | refine j_if rfl ?_ | refine j_else rfl ?_ | refine pkT rfl rfl rfl rfl ?_ | refine pkF rfl rfl rfl rfl ?_)
    exact wx_cell rfl rfl (fun w hw => by rw [← h2]; exact ret_ok hw)⟩
instance sp_quotient (a b : Int) : SpecC Tryz.prog 102 [vI a, vI b] (vI (a / b)) (b ≠ 0 ∧ mg a ≤ LIM ∧ mg b ≤ LIM) := ⟨fun hp w => by
  refine fn_intro Tryz.func102 rfl Tryz.ntmps102 rfl ?_
  repeat (first | refine sX rfl rfl ?_ | (refine sS rfl rfl ?_ ?_; focus omega) | (refine sC rfl rfl ?_ ?_; focus (first | exact trivial | assumption | constructor <;> assumption | exact mb2 rfl rfl | exact mb4 rfl rfl rfl rfl)) | refine cX ?_ | refine cY ?_ | (refine sA rfl rfl ?_; intro _) | refine sT rfl ?_ | refine sW rfl rfl ?_ | refine sK rfl rfl ?_ | refine j_if rfl ?_ | refine j_else rfl ?_ | refine pkT rfl rfl rfl rfl ?_ | refine pkF rfl rfl rfl rfl ?_)
  exact wx_cell rfl rfl (fun w hw => ret_ok hw)⟩
theorem canon_pos {x y : Int} (hy : 0 < y) : (Rat.divInt x y).num = x / (Int.gcd x y : Int) ∧ ((Rat.divInt x y).den : Int) = y / (Int.gcd x y : Int) := by
  refine ⟨?_, ?_⟩
  · rw [Rat.num_divInt, Int.sign_eq_one_of_pos hy, Int.one_mul, Int.gcd_comm]
  · rw [Rat.den_divInt, if_neg (by omega), Int.gcd_comm, Int.natCast_ediv]
    congr 1
    omega
instance sp_canonical (x y : Int) : SpecC Tryz.prog 55 [vI x, vI y] (vQ (Rat.divInt x y)) (y ≠ 0 ∧ mg x ≤ LIM ∧ mg y ≤ LIM) := ⟨fun hp w => by
  obtain ⟨hy, hx, hl⟩ := hp
  refine fn_intro Tryz.func55 rfl Tryz.ntmps55 rfl ?_
  repeat (first | refine sX rfl rfl ?_ | (refine sS rfl rfl ?_ ?_; focus omega) | (refine sC rfl rfl ?_ ?_; focus (first | exact trivial | assumption | constructor <;> assumption | exact mb2 rfl rfl | exact mb4 rfl rfl rfl rfl)) | refine cX ?_ | refine cY ?_ | (refine sA rfl rfl ?_; intro _) | refine sT rfl ?_ | refine sW rfl rfl ?_ | refine sK rfl rfl ?_ | refine j_if rfl ?_ | refine j_else rfl ?_ | refine pkT rfl rfl rfl rfl ?_ | refine pkF rfl rfl rfl rfl ?_)
  rename_i ba bb bc
  refine j_cut (S := Int × Int) (fun s => 0 < s.2 ∧ Rat.divInt s.1 s.2 = Rat.divInt x y ∧ mg s.1 ≤ LIM ∧ mg s.2 ≤ LIM) (fun _ => [(2, .pointer (some ⟨ba, 0, none⟩)), (3, .pointer (some ⟨bb, 0, none⟩)), (4, .pointer (some ⟨bc, 0, none⟩))]) (fun s => [⟨bc, e_api_Rat (Q 0), 28⟩, ⟨bb, e_api_Int (I s.2), 26⟩, ⟨ba, e_api_Int (I s.1), 26⟩]) ?_ (fun s hs => ?_)
  · refine j_cond rfl (fun h => ?_) (fun h => ?_)
    · have hneg : y < 0 := Int.sign_neg_iff.1 (of_decide_eq_true h)
      repeat (first | refine sX rfl rfl ?_ | (refine sS rfl rfl ?_ ?_; focus omega) | (refine sC rfl rfl ?_ ?_; focus (first | exact trivial | assumption | constructor <;> assumption | exact mb2 rfl rfl | exact mb4 rfl rfl rfl rfl)) | refine cX ?_ | refine cY ?_ | (refine sA rfl rfl ?_; intro _) | refine sT rfl ?_ | refine sW rfl rfl ?_ | refine sK rfl rfl ?_ | refine j_if rfl ?_ | refine j_else rfl ?_ | refine pkT rfl rfl rfl rfl ?_ | refine pkF rfl rfl rfl rfl ?_)
      (refine jD 4 4 mixed (by kernel_rfl) ?_; (repeat (first | refine tX rfl rfl ?_ | (refine tS rfl rfl ?_ ?_; focus omega) | (refine tC rfl rfl ?_ ?_; focus (first | exact trivial | assumption | constructor <;> assumption | exact mb2 rfl rfl | exact mb4 rfl rfl rfl rfl)) | refine tW rfl rfl ?_ | refine tK rfl rfl ?_ | refine Go.Vt.hq (wl_pickT rfl rfl) rfl rfl ?_ | refine Go.Vt.hq (wl_pickF rfl rfl) rfl rfl ?_)); refine jh_nil ?_; (repeat (refine wn_new ?_; intro _)); refine jn_nil ?_)
      repeat (first | refine sX rfl rfl ?_ | (refine sS rfl rfl ?_ ?_; focus omega) | (refine sC rfl rfl ?_ ?_; focus (first | exact trivial | assumption | constructor <;> assumption | exact mb2 rfl rfl | exact mb4 rfl rfl rfl rfl)) | refine cX ?_ | refine cY ?_ | (refine sA rfl rfl ?_; intro _) | refine sT rfl ?_ | refine sW rfl rfl ?_ | refine sK rfl rfl ?_ | refine j_if rfl ?_ | refine j_else rfl ?_ | refine pkT rfl rfl rfl rfl ?_ | refine pkF rfl rfl rfl rfl ?_)
      exact jx_mid (-x, -y) ⟨by simp only; omega, Rat.neg_divInt_neg _ _, by simp only [mg_neg]; exact hx, by simp only [mg_neg]; exact hl⟩ (by repeat (first | exact sub_nil | refine sub_cons rfl ?_ | refine sub_cons' rfl (by congr 1; omega) ?_)) sbl
    · have hpos : 0 < y := by
        have h1 : ¬ y.sign < 0 := of_decide_eq_false h
        have h2 : ¬ y < 0 := fun h3 => h1 (Int.sign_neg_iff.2 h3)
        omega
      repeat (first | refine sX rfl rfl ?_ | (refine sS rfl rfl ?_ ?_; focus omega) | (refine sC rfl rfl ?_ ?_; focus (first | exact trivial | assumption | constructor <;> assumption | exact mb2 rfl rfl | exact mb4 rfl rfl rfl rfl)) | refine cX ?_ | refine cY ?_ | (refine sA rfl rfl ?_; intro _) | refine sT rfl ?_ | refine sW rfl rfl ?_ | refine sK rfl rfl ?_ | refine j_if rfl ?_ | refine j_else rfl ?_ | refine pkT rfl rfl rfl rfl ?_ | refine pkF rfl rfl rfl rfl ?_)
      exact jx_mid (x, y) ⟨hpos, rfl, hx, hl⟩ (by repeat (first | exact sub_nil | refine sub_cons rfl ?_ | refine sub_cons' rfl (by congr 1; omega) ?_)) sbl
  obtain ⟨p, q⟩ := s
  obtain ⟨hq0, heq, hp, hq⟩ := hs
  simp only at hq0 heq hp hq ⊢
  obtain ⟨e1, e2⟩ := canon_pos (x := p) hq0
  have hg0 : ((Int.gcd p q : Nat) : Int) ≠ 0 := by
    have := Int.gcd_pos_of_ne_zero_right p (Int.ne_of_gt hq0)
    omega
  have hg1 : mg (Int.gcd p q : Nat) ≤ LIM := by
    refine Nat.le_trans (mg_mono ?_) hq
    rw [Int.natAbs_natCast]
    exact Nat.le_of_dvd (by omega) (Int.gcd_dvd_natAbs_right p q)
  rw [← heq]
  generalize hgd : ((Int.gcd p q : Nat) : Int) = g at *
  repeat (first | refine sX rfl rfl ?_ | (refine sS rfl rfl ?_ ?_; focus omega) | (refine sC rfl rfl ?_ ?_; focus (first | exact trivial | assumption | exact ⟨hp, hq⟩)) | refine cX ?_ | refine cY ?_ | (refine sA rfl rfl ?_; intro _) | refine sT rfl ?_ | refine sW rfl rfl ?_ | refine sK rfl rfl ?_ | refine j_if rfl ?_ | refine j_else rfl ?_ | refine pkT rfl rfl rfl rfl ?_ | refine pkF rfl rfl rfl rfl ?_)
  rw [hgd]
  (refine jD 6 6 mixed (by kernel_rfl) ?_; (repeat (first | refine tX rfl rfl ?_ | (refine tS rfl rfl ?_ ?_; focus omega) | (refine tC rfl rfl ?_ ?_; focus (first | exact trivial | exact ⟨hg0, hp, hg1⟩ | exact ⟨hg0, hq, hg1⟩)) | refine tW rfl rfl ?_ | refine tK rfl rfl ?_ | refine Go.Vt.hq (wl_pickT rfl rfl) rfl rfl ?_ | refine Go.Vt.hq (wl_pickF rfl rfl) rfl rfl ?_)); refine jh_nil ?_; (repeat (refine wn_new ?_; intro _)); refine jn_nil ?_)
  rw [← e1, ← e2]
  repeat (first | refine sX rfl rfl ?_ | (refine sS rfl rfl ?_ ?_; focus omega) | (refine sC rfl rfl ?_ ?_; focus (first | exact trivial | assumption | constructor <;> assumption | exact mb2 rfl rfl | exact mb4 rfl rfl rfl rfl)) | refine cX ?_ | refine cY ?_ | (refine sA rfl rfl ?_; intro _) | refine sT rfl ?_ | refine sW rfl rfl ?_ | refine sK rfl rfl ?_ | refine j_if rfl ?_ | refine j_else rfl ?_ | refine pkT rfl rfl rfl rfl ?_ | refine pkF rfl rfl rfl rfl ?_)
  (refine jD 3 3 mixed (by kernel_rfl) ?_; (repeat (first | refine tX rfl rfl ?_ | (refine tS rfl rfl ?_ ?_; focus omega) | (refine tC rfl rfl ?_ ?_; focus (first | exact trivial | assumption | constructor <;> assumption | exact mb2 rfl rfl | exact mb4 rfl rfl rfl rfl)) | refine tW rfl rfl ?_ | refine tK rfl rfl ?_ | refine Go.Vt.hq (wl_pickT rfl rfl) rfl rfl ?_ | refine Go.Vt.hq (wl_pickF rfl rfl) rfl rfl ?_)); refine jh_nil ?_; (repeat (refine wn_new ?_; intro _)); refine jn_nil ?_)
  repeat (first | refine sX rfl rfl ?_ | (refine sS rfl rfl ?_ ?_; focus omega) | (refine sC rfl rfl ?_ ?_; focus (first | exact trivial | assumption | constructor <;> assumption | exact mb2 rfl rfl | exact mb4 rfl rfl rfl rfl)) | refine cX ?_ | refine cY ?_ | (refine sA rfl rfl ?_; intro _) | refine sT rfl ?_ | refine sW rfl rfl ?_ | refine sK rfl rfl ?_ | refine j_if rfl ?_ | refine j_else rfl ?_ | refine pkT rfl rfl rfl rfl ?_ | refine pkF rfl rfl rfl rfl ?_)
  have key : ∀ d : Int, (if (Rat.divInt p q).den = 1 then 0 else ((Rat.divInt p q).den : Int)) = d → (⟨I (Rat.divInt p q).num, I d⟩ : api_Rat) = Q (Rat.divInt p q) := fun d hd => by rw [← hd]; rfl
  refine j_cond rfl (fun h => ?_) (fun h => ?_)
  · have h1 : (Rat.divInt p q).den = 1 := by have := of_decide_eq_true h; omega
    repeat (first | refine sX rfl rfl ?_ | (refine sS rfl rfl ?_ ?_; focus omega) | (refine sC rfl rfl ?_ ?_; focus (first | exact trivial | assumption | constructor <;> assumption | exact mb2 rfl rfl | exact mb4 rfl rfl rfl rfl)) | refine cX ?_ | refine cY ?_ | (refine sA rfl rfl ?_; intro _) | refine sT rfl ?_ | refine sW rfl rfl ?_ | refine sK rfl rfl ?_ | refine j_if rfl ?_ | refine j_else rfl ?_ | refine pkT rfl rfl rfl rfl ?_ | refine pkF rfl rfl rfl rfl ?_)
    exact wx_cell rfl rfl (fun w hw => by rw [key 0 (by rw [if_pos h1])]; exact ret_ok hw)
  · have h1 : ¬ (Rat.divInt p q).den = 1 := fun h0 => of_decide_eq_false h (by omega)
    repeat (first | refine sX rfl rfl ?_ | (refine sS rfl rfl ?_ ?_; focus omega) | (refine sC rfl rfl ?_ ?_; focus (first | exact trivial | assumption | constructor <;> assumption | exact mb2 rfl rfl | exact mb4 rfl rfl rfl rfl)) | refine cX ?_ | refine cY ?_ | (refine sA rfl rfl ?_; intro _) | refine sT rfl ?_ | refine sW rfl rfl ?_ | refine sK rfl rfl ?_ | refine j_if rfl ?_ | refine j_else rfl ?_ | refine pkT rfl rfl rfl rfl ?_ | refine pkF rfl rfl rfl rfl ?_)
    exact wx_cell rfl rfl (fun w hw => by rw [key _ (by rw [if_neg h1])]; exact ret_ok hw)⟩
instance sp_Make (x y : Int) : SpecC Tryz.prog 52 [vI x, vI y] (.tuple #[vQ (Rat.divInt x y), .int .i64 (if y = 0 then 6 else 0)]) (mg x ≤ LIM ∧ mg y ≤ LIM) := ⟨fun hp w => by
  refine fn_intro Tryz.func52 rfl Tryz.ntmps52 rfl ?_
  repeat (first | refine sX rfl rfl ?_ | (refine sS rfl rfl ?_ ?_; focus omega) | (refine sC rfl rfl ?_ ?_; focus (first | exact trivial | assumption | constructor <;> assumption | exact mb2 rfl rfl | exact mb4 rfl rfl rfl rfl)) | refine cX ?_ | refine cY ?_ | (refine sA rfl rfl ?_; intro _) | refine sT rfl ?_ | refine sW rfl rfl ?_ | refine sK rfl rfl ?_ | refine j_if rfl ?_ | refine j_else rfl ?_ | refine pkT rfl rfl rfl rfl ?_ | refine pkF rfl rfl rfl rfl ?_)
  refine j_cond rfl (fun h => ?_) (fun h => ?_)
  · have h1 : y = 0 := Int.sign_eq_zero_iff_zero.1 (of_decide_eq_true h)
    subst h1
    rw [Rat.divInt_zero, if_pos rfl]
    repeat (first | refine sX rfl rfl ?_ | (refine sS rfl rfl ?_ ?_; focus omega) | (refine sC rfl rfl ?_ ?_; focus (first | exact trivial | assumption | constructor <;> assumption | exact mb2 rfl rfl | exact mb4 rfl rfl rfl rfl)) | refine cX ?_ | refine cY ?_ | (refine sA rfl rfl ?_; intro _) | refine sT rfl ?_ | refine sW rfl rfl ?_ | refine sK rfl rfl ?_ | refine j_if rfl ?_ | refine j_else rfl ?_ | refine pkT rfl rfl rfl rfl ?_ | refine pkF rfl rfl rfl rfl ?_)
    exact jx_ret_two rfl (wr_cell rfl) (resv_tmp rfl) (fun w hw => ret_ok hw)
  · have h1 : ¬ y = 0 := fun h0 => of_decide_eq_false h (by rw [h0]; rfl)
    rw [if_neg h1]
    repeat (first | refine sX rfl rfl ?_ | (refine sS rfl rfl ?_ ?_; focus omega) | (refine sC rfl rfl ?_ ?_; focus (first | exact trivial | exact ⟨h1, hp.1, hp.2⟩)) | refine cX ?_ | refine cY ?_ | (refine sA rfl rfl ?_; intro _) | refine sT rfl ?_ | refine sW rfl rfl ?_ | refine sK rfl rfl ?_ | refine j_if rfl ?_ | refine j_else rfl ?_ | refine pkT rfl rfl rfl rfl ?_ | refine pkF rfl rfl rfl rfl ?_)
    exact jx_ret_two rfl (wr_cell rfl) (resv_tmp rfl) (fun w hw => ret_ok hw)⟩
theorem mg_int8 {n : Int} (h : -9223372036854775808 ≤ n ∧ n ≤ 9223372036854775807) : mg n ≤ LIM := by
  refine Nat.le_trans (mg_small (k := 8) ?_) (by decide)
  have : (256 : Nat) ^ 8 = 18446744073709551616 := by decide
  omega
instance sp_RFromInts (x y : Int) : SpecC Tryz.prog 14 [.int .i64 x, .int .i64 y] (.tuple #[vQ (Rat.divInt x y), .int .i64 (if y = 0 then 6 else 0)]) ((-9223372036854775808 ≤ x ∧ x ≤ 9223372036854775807) ∧ (-9223372036854775808 ≤ y ∧ y ≤ 9223372036854775807)) := ⟨fun hp w => by
  refine fn_intro Tryz.func14 rfl Tryz.ntmps14 rfl ?_
  repeat (first | refine sX rfl rfl ?_ | (refine sS rfl rfl ?_ ?_; focus omega) | (refine sC rfl rfl ?_ ?_; focus (first | exact trivial | exact hp.1 | exact hp.2 | exact ⟨mg_int8 hp.1, mg_int8 hp.2⟩)) | refine cX ?_ | refine cY ?_ | (refine sA rfl rfl ?_; intro _) | refine sT rfl ?_ | refine sW rfl rfl ?_ | refine sK rfl rfl ?_ | refine j_if rfl ?_ | refine j_else rfl ?_ | refine pkT rfl rfl rfl rfl ?_ | refine pkF rfl rfl rfl rfl ?_)
  exact jx_ret_two rfl (wr_cell rfl) (resv_tmp rfl) (fun w hw => ret_ok hw)⟩
theorem Q_int (n : Int) : (⟨I n, I 0⟩ : api_Rat) = Q (n : Rat) := rfl
instance sp_RFromInt (n : Int) : SpecC Tryz.prog 22 [.int .i64 n] (vQ (n : Rat)) (-9223372036854775808 ≤ n ∧ n ≤ 9223372036854775807) := ⟨fun hp w => by
  refine fn_intro Tryz.func22 rfl Tryz.ntmps22 rfl ?_
  repeat (first | refine sX rfl rfl ?_ | (refine sS rfl rfl ?_ ?_; focus omega) | (refine sC rfl rfl ?_ ?_; focus (first | exact trivial | assumption | constructor <;> assumption | exact mb2 rfl rfl | exact mb4 rfl rfl rfl rfl)) | refine cX ?_ | refine cY ?_ | (refine sA rfl rfl ?_; intro _) | refine sT rfl ?_ | refine sW rfl rfl ?_ | refine sK rfl rfl ?_ | refine j_if rfl ?_ | refine j_else rfl ?_ | refine pkT rfl rfl rfl rfl ?_ | refine pkF rfl rfl rfl rfl ?_)
  exact wx_cell rfl rfl (fun w hw => by rw [z_I, Q_int]; exact ret_ok hw)⟩
/-- Both numerators over a common denominator. -/
def crs (a b : Rat) : Int × Int × Int := if a.den = b.den then (a.num, b.num, a.den) else (a.num * b.den, b.num * a.den, a.den * b.den)
theorem crs_len (a b : Rat) : mg (crs a b).1 ≤ M a + M b ∧ mg (crs a b).2.1 ≤ M a + M b ∧ mg (crs a b).2.2 ≤ M a + M b := by
  have h1 := M_num a
  have h2 := M_den a
  have h3 := M_num b
  have h4 := M_den b
  have h5 := mg_mul a.num b.den
  have h6 := mg_mul b.num a.den
  have h7 := mg_mul a.den b.den
  unfold crs
  split <;> exact ⟨by simp only; omega, by simp only; omega, by simp only; omega⟩
theorem crs_pos (a b : Rat) : 0 < (crs a b).2.2 := by
  have h1 := a.den_pos
  have h2 := b.den_pos
  unfold crs
  split
  · show (0 : Int) < a.den
    omega
  · exact Int.mul_pos (by omega) (by omega)
theorem crs_val (a b : Rat) : a = Rat.divInt (crs a b).1 (crs a b).2.2 ∧ b = Rat.divInt (crs a b).2.1 (crs a b).2.2 := by
  have ha := den_ne a
  have hb := den_ne b
  unfold crs
  split
  · rename_i h
    exact ⟨(Rat.num_divInt_den a).symm, by rw [h]; exact (Rat.num_divInt_den b).symm⟩
  · refine ⟨?_, ?_⟩
    · conv => lhs; rw [← Rat.num_divInt_den a]
      exact (Rat.divInt_mul_right hb).symm
    · conv => lhs; rw [← Rat.num_divInt_den b]
      rw [Int.mul_comm (a.den : Int)]
      exact (Rat.divInt_mul_right ha).symm
theorem crs_add (a b : Rat) : Rat.divInt ((crs a b).1 + (crs a b).2.1) (crs a b).2.2 = a + b := by
  have h := crs_pos a b
  obtain ⟨h1, h2⟩ := crs_val a b
  have h3 : (crs a b).2.2 ≠ 0 := by omega
  have e : a + b = Rat.divInt (crs a b).1 (crs a b).2.2 + Rat.divInt (crs a b).2.1 (crs a b).2.2 := by rw [← h1, ← h2]
  rw [e, Rat.divInt_add_divInt _ _ h3 h3, ← Int.add_mul]
  exact (Rat.divInt_mul_right h3).symm
/-- How two fractions compare. -/
def cq (a b : Rat) : Int := if a < b then -1 else if b < a then 1 else 0
theorem crs_cmp (a b : Rat) : Lib.compareInt (crs a b).1 (crs a b).2.1 = cq a b := by
  have key : ∀ x y : Rat, x < y ↔ x.num * y.den < y.num * x.den := Rat.lt_iff
  have h : ((crs a b).1 < (crs a b).2.1 ↔ a < b) ∧ ((crs a b).2.1 < (crs a b).1 ↔ b < a) := by
    unfold crs
    rw [key a b, key b a]
    have h1 := a.den_pos
    split
    · rename_i hd
      rw [hd]
      have h2 : (0 : Int) < b.den := by have := b.den_pos; omega
      exact ⟨(Int.mul_lt_mul_right h2).symm, (Int.mul_lt_mul_right h2).symm⟩
    · exact ⟨Iff.rfl, Iff.rfl⟩
  unfold Lib.compareInt cq
  simp only [h.1, h.2, GT.gt]
instance sp_cross (a b : Rat) : SpecC Tryz.prog 54 [vQ a, vQ b] (.tuple #[vI (crs a b).1, vI (crs a b).2.1, vI (crs a b).2.2]) (M a ≤ LQ ∧ M b ≤ LQ) := ⟨fun hp w => by
  have hL : LQ ≤ LIM := by decide
  have h1 := Nat.le_trans (Nat.le_trans (M_num a) hp.1) hL
  have h2 := Nat.le_trans (Nat.le_trans (M_den a) hp.1) hL
  have h3 := Nat.le_trans (Nat.le_trans (M_num b) hp.2) hL
  have h4 := Nat.le_trans (Nat.le_trans (M_den b) hp.2) hL
  refine fn_intro Tryz.func54 rfl Tryz.ntmps54 rfl ?_
  repeat (first | refine sX rfl rfl ?_ | (refine sS rfl rfl ?_ ?_; focus omega) | (refine sC rfl rfl ?_ ?_; focus (first | exact trivial | assumption | constructor <;> assumption | exact mb2 rfl rfl | exact mb4 rfl rfl rfl rfl)) | refine cX ?_ | refine cY ?_ | (refine sA rfl rfl ?_; intro _) | refine sT rfl ?_ | refine sW rfl rfl ?_ | refine sK rfl rfl ?_ | refine j_if rfl ?_ | refine j_else rfl ?_ | refine pkT rfl rfl rfl rfl ?_ | refine pkF rfl rfl rfl rfl ?_)
  refine j_cond rfl (fun h => ?_) (fun h => ?_)
  · have hd : a.den = b.den := dn_inj.1 (of_decide_eq_true h)
    rw [show crs a b = (a.num, b.num, (a.den : Int)) by unfold crs; rw [if_pos hd]]
    repeat (first | refine sX rfl rfl ?_ | (refine sS rfl rfl ?_ ?_; focus omega) | (refine sC rfl rfl ?_ ?_; focus (first | exact trivial | assumption | constructor <;> assumption | exact mb2 rfl rfl | exact mb4 rfl rfl rfl rfl)) | refine cX ?_ | refine cY ?_ | (refine sA rfl rfl ?_; intro _) | refine sT rfl ?_ | refine sW rfl rfl ?_ | refine sK rfl rfl ?_ | refine j_if rfl ?_ | refine j_else rfl ?_ | refine pkT rfl rfl rfl rfl ?_ | refine pkF rfl rfl rfl rfl ?_)
    rename_i ba bb bc bd be
    (refine j_late [0, 1, 2, 3, 4, 5] [6, 7, 8] ([⟨bb, e_api_Rat (Q b), 28⟩, ⟨ba, e_api_Rat (Q a), 28⟩]) mixed (by kernel_rfl) (by decide) sbl ?_; simp only [picks, List.getElem?_cons_succ, List.getElem?_cons_zero])
    repeat (first | refine tX rfl rfl ?_ | (refine tS rfl rfl ?_ ?_; focus omega) | (refine tC rfl rfl ?_ ?_; focus (first | exact trivial | assumption | constructor <;> assumption | exact mb2 rfl rfl | exact mb4 rfl rfl rfl rfl)) | refine tW rfl rfl ?_ | refine tK rfl rfl ?_ | refine Go.Vt.hq (wl_pickT rfl rfl) rfl rfl ?_ | refine Go.Vt.hq (wl_pickF rfl rfl) rfl rfl ?_)
    refine jh_nil ?_
    refine we_store rfl rfl rfl sbl (we_store rfl rfl rfl sbl (we_store rfl rfl rfl sbl (je_nil ?_)))
    repeat (first | refine sX rfl rfl ?_ | (refine sS rfl rfl ?_ ?_; focus omega) | (refine sC rfl rfl ?_ ?_; focus (first | exact trivial | assumption | constructor <;> assumption | exact mb2 rfl rfl | exact mb4 rfl rfl rfl rfl)) | refine cX ?_ | refine cY ?_ | (refine sA rfl rfl ?_; intro _) | refine sT rfl ?_ | refine sW rfl rfl ?_ | refine sK rfl rfl ?_ | refine j_if rfl ?_ | refine j_else rfl ?_ | refine pkT rfl rfl rfl rfl ?_ | refine pkF rfl rfl rfl rfl ?_)
    exact jx_ret_three rfl (wr_cell rfl) (wr_cell rfl) (wr_cell rfl) (fun w hw => ret_ok hw)
  · have hd : ¬ a.den = b.den := fun h0 => of_decide_eq_false h (dn_inj.2 h0)
    rw [show crs a b = (a.num * b.den, b.num * a.den, (a.den : Int) * b.den) by unfold crs; rw [if_neg hd]]
    repeat (first | refine sX rfl rfl ?_ | (refine sS rfl rfl ?_ ?_; focus omega) | (refine sC rfl rfl ?_ ?_; focus (first | exact trivial | assumption | constructor <;> assumption | exact mb2 rfl rfl | exact mb4 rfl rfl rfl rfl)) | refine cX ?_ | refine cY ?_ | (refine sA rfl rfl ?_; intro _) | refine sT rfl ?_ | refine sW rfl rfl ?_ | refine sK rfl rfl ?_ | refine j_if rfl ?_ | refine j_else rfl ?_ | refine pkT rfl rfl rfl rfl ?_ | refine pkF rfl rfl rfl rfl ?_)
    (refine jD 15 15 mixed (by kernel_rfl) ?_; (repeat (first | refine tX rfl rfl ?_ | (refine tS rfl rfl ?_ ?_; focus omega) | (refine tC rfl rfl ?_ ?_; focus (first | exact trivial | assumption | constructor <;> assumption | exact mb2 rfl rfl | exact mb4 rfl rfl rfl rfl)) | refine tW rfl rfl ?_ | refine tK rfl rfl ?_ | refine Go.Vt.hq (wl_pickT rfl rfl) rfl rfl ?_ | refine Go.Vt.hq (wl_pickF rfl rfl) rfl rfl ?_)); refine jh_nil ?_; (repeat (refine wn_new ?_; intro _)); refine jn_nil ?_)
    repeat (first | refine sX rfl rfl ?_ | (refine sS rfl rfl ?_ ?_; focus omega) | (refine sC rfl rfl ?_ ?_; focus (first | exact trivial | assumption | constructor <;> assumption | exact mb2 rfl rfl | exact mb4 rfl rfl rfl rfl)) | refine cX ?_ | refine cY ?_ | (refine sA rfl rfl ?_; intro _) | refine sT rfl ?_ | refine sW rfl rfl ?_ | refine sK rfl rfl ?_ | refine j_if rfl ?_ | refine j_else rfl ?_ | refine pkT rfl rfl rfl rfl ?_ | refine pkF rfl rfl rfl rfl ?_)
    exact jx_ret_three rfl (wr_cell rfl) (wr_cell rfl) (wr_cell rfl) (fun w hw => ret_ok hw)⟩
theorem LQ2 {j k : Nat} (h : j ≤ LQ ∧ k ≤ LQ) : j + k + 1 ≤ LIM := by
  have h1 : LQ + LQ + 1 ≤ LIM := by decide
  exact Nat.le_trans (Nat.add_le_add_right (Nat.add_le_add h.1 h.2) 1) h1
instance sp_RAdd (a b : Rat) : SpecC Tryz.prog 15 [vQ a, vQ b] (vQ (a + b)) (M a ≤ LQ ∧ M b ≤ LQ) := ⟨fun hp w => by
  obtain ⟨h1, h2, h3⟩ := crs_len a b
  have hL := LQ2 hp
  have g1 : mg (crs a b).1 ≤ LIM := Nat.le_trans (Nat.le_succ_of_le h1) hL
  have g2 : mg (crs a b).2.1 ≤ LIM := Nat.le_trans (Nat.le_succ_of_le h2) hL
  have g3 : mg (crs a b).2.2 ≤ LIM := Nat.le_trans (Nat.le_succ_of_le h3) hL
  have g4 : mg ((crs a b).1 + (crs a b).2.1) ≤ LIM := Nat.le_trans (mg_add h1 h2) hL
  have g5 : (crs a b).2.2 ≠ 0 := Int.ne_of_gt (crs_pos a b)
  refine fn_intro Tryz.func15 rfl Tryz.ntmps15 rfl ?_
  repeat (first | refine sX rfl rfl ?_ | (refine sS rfl rfl ?_ ?_; focus omega) | (refine sC rfl rfl ?_ ?_; focus (first | exact trivial | assumption | constructor <;> assumption | exact mb2 rfl rfl | exact mb4 rfl rfl rfl rfl)) | refine cX ?_ | refine cY ?_ | (refine sA rfl rfl ?_; intro _) | refine sT rfl ?_ | refine sW rfl rfl ?_ | refine sK rfl rfl ?_ | refine j_if rfl ?_ | refine j_else rfl ?_ | refine pkT rfl rfl rfl rfl ?_ | refine pkF rfl rfl rfl rfl ?_)
  (refine jD 5 5 mixed (by kernel_rfl) ?_; (repeat (first | refine tX rfl rfl ?_ | (refine tS rfl rfl ?_ ?_; focus omega) | (refine tC rfl rfl ?_ ?_; focus (first | exact ⟨by assumption, by assumption⟩ | exact ⟨g5, g4, g3⟩)) | refine tW rfl rfl ?_ | refine tK rfl rfl ?_ | refine Go.Vt.hq (wl_pickT rfl rfl) rfl rfl ?_ | refine Go.Vt.hq (wl_pickF rfl rfl) rfl rfl ?_)); refine jh_nil ?_; (repeat (refine wn_new ?_; intro _)); refine jn_nil ?_)
  rw [crs_add]
  repeat (first | refine sX rfl rfl ?_ | (refine sS rfl rfl ?_ ?_; focus omega) | (refine sC rfl rfl ?_ ?_; focus (first | exact trivial | assumption | constructor <;> assumption | exact mb2 rfl rfl | exact mb4 rfl rfl rfl rfl)) | refine cX ?_ | refine cY ?_ | (refine sA rfl rfl ?_; intro _) | refine sT rfl ?_ | refine sW rfl rfl ?_ | refine sK rfl rfl ?_ | refine j_if rfl ?_ | refine j_else rfl ?_ | refine pkT rfl rfl rfl rfl ?_ | refine pkF rfl rfl rfl rfl ?_)
  exact wx_cell rfl rfl (fun w hw => ret_ok hw)⟩
instance sp_RMul (a b : Rat) : SpecC Tryz.prog 16 [vQ a, vQ b] (vQ (a * b)) (M a ≤ LQ ∧ M b ≤ LQ) := ⟨fun hp w => by
  have hL : LQ ≤ LIM := by decide
  have hM := LQ2 hp
  have h1 := Nat.le_trans (Nat.le_trans (M_num a) hp.1) hL
  have h2 := Nat.le_trans (Nat.le_trans (M_den a) hp.1) hL
  have h3 := Nat.le_trans (Nat.le_trans (M_num b) hp.2) hL
  have h4 := Nat.le_trans (Nat.le_trans (M_den b) hp.2) hL
  have g1 : mg (a.num * b.num) ≤ LIM := Nat.le_trans (mg_mul _ _) (Nat.le_trans (Nat.le_succ_of_le (Nat.add_le_add (M_num a) (M_num b))) hM)
  have g2 : mg ((a.den : Int) * b.den) ≤ LIM := Nat.le_trans (mg_mul _ _) (Nat.le_trans (Nat.le_succ_of_le (Nat.add_le_add (M_den a) (M_den b))) hM)
  have g3 : (a.den : Int) * b.den ≠ 0 := Int.mul_ne_zero (den_ne a) (den_ne b)
  refine fn_intro Tryz.func16 rfl Tryz.ntmps16 rfl ?_
  repeat (first | refine sX rfl rfl ?_ | (refine sS rfl rfl ?_ ?_; focus omega) | (refine sC rfl rfl ?_ ?_; focus (first | exact trivial | assumption | constructor <;> assumption | exact mb2 rfl rfl | exact mb4 rfl rfl rfl rfl)) | refine cX ?_ | refine cY ?_ | (refine sA rfl rfl ?_; intro _) | refine sT rfl ?_ | refine sW rfl rfl ?_ | refine sK rfl rfl ?_ | refine j_if rfl ?_ | refine j_else rfl ?_ | refine pkT rfl rfl rfl rfl ?_ | refine pkF rfl rfl rfl rfl ?_)
  (refine jD 11 11 mixed (by kernel_rfl) ?_; (repeat (first | refine tX rfl rfl ?_ | (refine tS rfl rfl ?_ ?_; focus omega) | (refine tC rfl rfl ?_ ?_; focus (first | exact trivial | exact ⟨by assumption, by assumption⟩ | exact ⟨g3, g1, g2⟩)) | refine tW rfl rfl ?_ | refine tK rfl rfl ?_ | refine Go.Vt.hq (wl_pickT rfl rfl) rfl rfl ?_ | refine Go.Vt.hq (wl_pickF rfl rfl) rfl rfl ?_)); refine jh_nil ?_; (repeat (refine wn_new ?_; intro _)); refine jn_nil ?_)
  rw [← mul_divInt]
  repeat (first | refine sX rfl rfl ?_ | (refine sS rfl rfl ?_ ?_; focus omega) | (refine sC rfl rfl ?_ ?_; focus (first | exact trivial | assumption | constructor <;> assumption | exact mb2 rfl rfl | exact mb4 rfl rfl rfl rfl)) | refine cX ?_ | refine cY ?_ | (refine sA rfl rfl ?_; intro _) | refine sT rfl ?_ | refine sW rfl rfl ?_ | refine sK rfl rfl ?_ | refine j_if rfl ?_ | refine j_else rfl ?_ | refine pkT rfl rfl rfl rfl ?_ | refine pkF rfl rfl rfl rfl ?_)
  exact wx_cell rfl rfl (fun w hw => ret_ok hw)⟩
instance sp_RDiv (a b : Rat) : SpecC Tryz.prog 91 [vQ a, vQ b] (.tuple #[vQ (a / b), .int .i64 (if b = 0 then 6 else 0)]) (M a ≤ LQ ∧ M b ≤ LQ) := ⟨fun hp w => by
  have hL : LQ ≤ LIM := by decide
  have hM := LQ2 hp
  have h1 := Nat.le_trans (Nat.le_trans (M_num a) hp.1) hL
  have h2 := Nat.le_trans (Nat.le_trans (M_den a) hp.1) hL
  have h3 := Nat.le_trans (Nat.le_trans (M_num b) hp.2) hL
  have h4 := Nat.le_trans (Nat.le_trans (M_den b) hp.2) hL
  have g1 : mg (a.num * b.den) ≤ LIM := Nat.le_trans (mg_mul _ _) (Nat.le_trans (Nat.le_succ_of_le (Nat.add_le_add (M_num a) (M_den b))) hM)
  have g2 : mg ((a.den : Int) * b.num) ≤ LIM := Nat.le_trans (mg_mul _ _) (Nat.le_trans (Nat.le_succ_of_le (Nat.add_le_add (M_den a) (M_num b))) hM)
  have hz : ((a.den : Int) * b.num = 0) ↔ b = 0 := by
    rw [Int.mul_eq_zero, Rat.num_eq_zero]
    exact ⟨fun h => h.resolve_left (den_ne a), .inr⟩
  refine fn_intro Tryz.func91 rfl Tryz.ntmps91 rfl ?_
  repeat (first | refine sX rfl rfl ?_ | (refine sS rfl rfl ?_ ?_; focus omega) | (refine sC rfl rfl ?_ ?_; focus (first | exact trivial | assumption | constructor <;> assumption | exact mb2 rfl rfl | exact mb4 rfl rfl rfl rfl)) | refine cX ?_ | refine cY ?_ | (refine sA rfl rfl ?_; intro _) | refine sT rfl ?_ | refine sW rfl rfl ?_ | refine sK rfl rfl ?_ | refine j_if rfl ?_ | refine j_else rfl ?_ | refine pkT rfl rfl rfl rfl ?_ | refine pkF rfl rfl rfl rfl ?_)
  (refine jD 13 13 mixed (by kernel_rfl) ?_; (repeat (first | refine tX rfl rfl ?_ | (refine tS rfl rfl ?_ ?_; focus omega) | (refine tC rfl rfl ?_ ?_; focus (first | exact trivial | assumption | constructor <;> assumption | exact mb2 rfl rfl | exact mb4 rfl rfl rfl rfl)) | refine tW rfl rfl ?_ | refine tK rfl rfl ?_ | refine Go.Vt.hq (wl_pickT rfl rfl) rfl rfl ?_ | refine Go.Vt.hq (wl_pickF rfl rfl) rfl rfl ?_)); refine jh_nil ?_; (repeat (refine wn_new ?_; intro _)); refine jn_nil ?_)
  rw [← div_divInt]
  simp only [hz]
  repeat (first | refine sX rfl rfl ?_ | (refine sS rfl rfl ?_ ?_; focus omega) | (refine sC rfl rfl ?_ ?_; focus (first | exact trivial | assumption | constructor <;> assumption | exact mb2 rfl rfl | exact mb4 rfl rfl rfl rfl)) | refine cX ?_ | refine cY ?_ | (refine sA rfl rfl ?_; intro _) | refine sT rfl ?_ | refine sW rfl rfl ?_ | refine sK rfl rfl ?_ | refine j_if rfl ?_ | refine j_else rfl ?_ | refine pkT rfl rfl rfl rfl ?_ | refine pkF rfl rfl rfl rfl ?_)
  exact jx_ret_two rfl (wr_cell rfl) (resv_tmp rfl) (fun w hw => ret_ok hw)⟩
theorem Q_neg (q : Rat) : (⟨I (-q.num), I (dn q)⟩ : api_Rat) = Q (-q) := rfl
instance sp_RNeg (a : Rat) : SpecC Tryz.prog 59 [vQ a] (vQ (-a)) True := ⟨fun _ w => by
  refine fn_intro Tryz.func59 rfl Tryz.ntmps59 rfl ?_
  repeat (first | refine sX rfl rfl ?_ | (refine sS rfl rfl ?_ ?_; focus omega) | (refine sC rfl rfl ?_ ?_; focus (first | exact trivial | assumption | constructor <;> assumption | exact mb2 rfl rfl | exact mb4 rfl rfl rfl rfl)) | refine cX ?_ | refine cY ?_ | (refine sA rfl rfl ?_; intro _) | refine sT rfl ?_ | refine sW rfl rfl ?_ | refine sK rfl rfl ?_ | refine j_if rfl ?_ | refine j_else rfl ?_ | refine pkT rfl rfl rfl rfl ?_ | refine pkF rfl rfl rfl rfl ?_)
  (refine jD 6 6 mixed (by kernel_rfl) ?_; (repeat (first | refine tX rfl rfl ?_ | (refine tS rfl rfl ?_ ?_; focus omega) | (refine tC rfl rfl ?_ ?_; focus (first | exact trivial | assumption | constructor <;> assumption | exact mb2 rfl rfl | exact mb4 rfl rfl rfl rfl)) | refine tW rfl rfl ?_ | refine tK rfl rfl ?_ | refine Go.Vt.hq (wl_pickT rfl rfl) rfl rfl ?_ | refine Go.Vt.hq (wl_pickF rfl rfl) rfl rfl ?_)); refine jh_nil ?_; (repeat (refine wn_new ?_; intro _)); refine jn_nil ?_)
  rw [Q_neg]
  repeat (first | refine sX rfl rfl ?_ | (refine sS rfl rfl ?_ ?_; focus omega) | (refine sC rfl rfl ?_ ?_; focus (first | exact trivial | assumption | constructor <;> assumption | exact mb2 rfl rfl | exact mb4 rfl rfl rfl rfl)) | refine cX ?_ | refine cY ?_ | (refine sA rfl rfl ?_; intro _) | refine sT rfl ?_ | refine sW rfl rfl ?_ | refine sK rfl rfl ?_ | refine j_if rfl ?_ | refine j_else rfl ?_ | refine pkT rfl rfl rfl rfl ?_ | refine pkF rfl rfl rfl rfl ?_)
  exact wx_cell rfl rfl (fun w hw => ret_ok hw)⟩
instance sp_RSub (a b : Rat) : SpecC Tryz.prog 17 [vQ a, vQ b] (vQ (a - b)) (M a ≤ LQ ∧ M b ≤ LQ) := ⟨fun hp w => by
  have h1 := hp.1
  have h2 : M (-b) ≤ LQ := by rw [M_neg]; exact hp.2
  refine fn_intro Tryz.func17 rfl Tryz.ntmps17 rfl ?_
  repeat (first | refine sX rfl rfl ?_ | (refine sS rfl rfl ?_ ?_; focus omega) | (refine sC rfl rfl ?_ ?_; focus (first | exact trivial | assumption | constructor <;> assumption | exact mb2 rfl rfl | exact mb4 rfl rfl rfl rfl)) | refine cX ?_ | refine cY ?_ | (refine sA rfl rfl ?_; intro _) | refine sT rfl ?_ | refine sW rfl rfl ?_ | refine sK rfl rfl ?_ | refine j_if rfl ?_ | refine j_else rfl ?_ | refine pkT rfl rfl rfl rfl ?_ | refine pkF rfl rfl rfl rfl ?_)
  (refine jD 4 4 mixed (by kernel_rfl) ?_; (repeat (first | refine tX rfl rfl ?_ | (refine tS rfl rfl ?_ ?_; focus omega) | (refine tC rfl rfl ?_ ?_; focus (first | exact trivial | assumption | constructor <;> assumption | exact mb2 rfl rfl | exact mb4 rfl rfl rfl rfl)) | refine tW rfl rfl ?_ | refine tK rfl rfl ?_ | refine Go.Vt.hq (wl_pickT rfl rfl) rfl rfl ?_ | refine Go.Vt.hq (wl_pickF rfl rfl) rfl rfl ?_)); refine jh_nil ?_; (repeat (refine wn_new ?_; intro _)); refine jn_nil ?_)
  rw [← Rat.sub_eq_add_neg]
  repeat (first | refine sX rfl rfl ?_ | (refine sS rfl rfl ?_ ?_; focus omega) | (refine sC rfl rfl ?_ ?_; focus (first | exact trivial | assumption | constructor <;> assumption | exact mb2 rfl rfl | exact mb4 rfl rfl rfl rfl)) | refine cX ?_ | refine cY ?_ | (refine sA rfl rfl ?_; intro _) | refine sT rfl ?_ | refine sW rfl rfl ?_ | refine sK rfl rfl ?_ | refine j_if rfl ?_ | refine j_else rfl ?_ | refine pkT rfl rfl rfl rfl ?_ | refine pkF rfl rfl rfl rfl ?_)
  exact wx_cell rfl rfl (fun w hw => ret_ok hw)⟩
instance sp_RCompare (a b : Rat) : SpecC Tryz.prog 19 [vQ a, vQ b] (.int .i64 (cq a b)) (M a ≤ LQ ∧ M b ≤ LQ) := ⟨fun hp w => by
  refine fn_intro Tryz.func19 rfl Tryz.ntmps19 rfl ?_
  repeat (first | refine sX rfl rfl ?_ | (refine sS rfl rfl ?_ ?_; focus omega) | (refine sC rfl rfl ?_ ?_; focus (first | exact trivial | assumption | constructor <;> assumption | exact mb2 rfl rfl | exact mb4 rfl rfl rfl rfl)) | refine cX ?_ | refine cY ?_ | (refine sA rfl rfl ?_; intro _) | refine sT rfl ?_ | refine sW rfl rfl ?_ | refine sK rfl rfl ?_ | refine j_if rfl ?_ | refine j_else rfl ?_ | refine pkT rfl rfl rfl rfl ?_ | refine pkF rfl rfl rfl rfl ?_)
  refine j_cond rfl (fun h => ?_) (fun h => ?_)
  · have h1 : a = b := of_decide_eq_true h
    rw [show cq a b = 0 by unfold cq; rw [h1, if_neg Rat.lt_irrefl, if_neg Rat.lt_irrefl]]
    repeat (first | refine sX rfl rfl ?_ | (refine sS rfl rfl ?_ ?_; focus omega) | (refine sC rfl rfl ?_ ?_; focus (first | exact trivial | assumption | constructor <;> assumption | exact mb2 rfl rfl | exact mb4 rfl rfl rfl rfl)) | refine cX ?_ | refine cY ?_ | (refine sA rfl rfl ?_; intro _) | refine sT rfl ?_ | refine sW rfl rfl ?_ | refine sK rfl rfl ?_ | refine j_if rfl ?_ | refine j_else rfl ?_ | refine pkT rfl rfl rfl rfl ?_ | refine pkF rfl rfl rfl rfl ?_)
    exact jx_ret_tmp rfl rfl (fun w hw => ret_ok hw)
  · repeat (first | refine sX rfl rfl ?_ | (refine sS rfl rfl ?_ ?_; focus omega) | (refine sC rfl rfl ?_ ?_; focus (first | exact trivial | assumption | constructor <;> assumption | exact mb2 rfl rfl | exact mb4 rfl rfl rfl rfl)) | refine cX ?_ | refine cY ?_ | (refine sA rfl rfl ?_; intro _) | refine sT rfl ?_ | refine sW rfl rfl ?_ | refine sK rfl rfl ?_ | refine j_if rfl ?_ | refine j_else rfl ?_ | refine pkT rfl rfl rfl rfl ?_ | refine pkF rfl rfl rfl rfl ?_)
    rw [crs_cmp]
    repeat (first | refine sX rfl rfl ?_ | (refine sS rfl rfl ?_ ?_; focus omega) | (refine sC rfl rfl ?_ ?_; focus (first | exact trivial | assumption | constructor <;> assumption | exact mb2 rfl rfl | exact mb4 rfl rfl rfl rfl)) | refine cX ?_ | refine cY ?_ | (refine sA rfl rfl ?_; intro _) | refine sT rfl ?_ | refine sW rfl rfl ?_ | refine sK rfl rfl ?_ | refine j_if rfl ?_ | refine j_else rfl ?_ | refine pkT rfl rfl rfl rfl ?_ | refine pkF rfl rfl rfl rfl ?_)
    exact jx_ret_tmp rfl rfl (fun w hw => ret_ok hw)⟩
instance sp_RSign (a : Rat) : SpecC Tryz.prog 78 [vQ a] (.int .i64 a.num.sign) True := ⟨fun _ w => by
  refine fn_intro Tryz.func78 rfl Tryz.ntmps78 rfl ?_
  repeat (first | refine sX rfl rfl ?_ | (refine sS rfl rfl ?_ ?_; focus omega) | (refine sC rfl rfl ?_ ?_; focus (first | exact trivial | assumption | constructor <;> assumption | exact mb2 rfl rfl | exact mb4 rfl rfl rfl rfl)) | refine cX ?_ | refine cY ?_ | (refine sA rfl rfl ?_; intro _) | refine sT rfl ?_ | refine sW rfl rfl ?_ | refine sK rfl rfl ?_ | refine j_if rfl ?_ | refine j_else rfl ?_ | refine pkT rfl rfl rfl rfl ?_ | refine pkF rfl rfl rfl rfl ?_)
  exact jx_ret_tmp rfl rfl (fun w hw => ret_ok hw)⟩
theorem cq_ge {a b : Rat} : 0 ≤ cq a b ↔ b ≤ a := by unfold cq; grind
theorem cq_le {a b : Rat} : cq a b ≤ 0 ↔ a ≤ b := by unfold cq; grind
theorem cq_gt {a b : Rat} : 0 < cq a b ↔ b < a := by unfold cq; grind
theorem cq_lt {a b : Rat} : cq a b < 0 ↔ a < b := by unfold cq; grind
theorem cq_eq {a b : Rat} : cq a b = 0 ↔ a = b := by unfold cq; grind
instance sp_RMax (a b : Rat) : SpecC Tryz.prog 47 [vQ a, vQ b] (vQ (max a b)) (M a ≤ LQ ∧ M b ≤ LQ) := ⟨fun hp w => by
  refine fn_intro Tryz.func47 rfl Tryz.ntmps47 rfl ?_
  repeat (first | refine sX rfl rfl ?_ | (refine sS rfl rfl ?_ ?_; focus omega) | (refine sC rfl rfl ?_ ?_; focus (first | exact trivial | assumption | constructor <;> assumption | exact mb2 rfl rfl | exact mb4 rfl rfl rfl rfl)) | refine cX ?_ | refine cY ?_ | (refine sA rfl rfl ?_; intro _) | refine sT rfl ?_ | refine sW rfl rfl ?_ | refine sK rfl rfl ?_ | refine j_if rfl ?_ | refine j_else rfl ?_ | refine pkT rfl rfl rfl rfl ?_ | refine pkF rfl rfl rfl rfl ?_)
  refine j_cond rfl (fun h => ?_) (fun h => ?_)
  · have h1 := cq_ge.1 (of_decide_eq_true h)
    rw [show max a b = a by rw [Rat.max_def]; split <;> grind]
    repeat (first | refine sX rfl rfl ?_ | (refine sS rfl rfl ?_ ?_; focus omega) | (refine sC rfl rfl ?_ ?_; focus (first | exact trivial | assumption | constructor <;> assumption | exact mb2 rfl rfl | exact mb4 rfl rfl rfl rfl)) | refine cX ?_ | refine cY ?_ | (refine sA rfl rfl ?_; intro _) | refine sT rfl ?_ | refine sW rfl rfl ?_ | refine sK rfl rfl ?_ | refine j_if rfl ?_ | refine j_else rfl ?_ | refine pkT rfl rfl rfl rfl ?_ | refine pkF rfl rfl rfl rfl ?_)
    exact wx_cell rfl rfl (fun w hw => ret_ok hw)
  · have h1 : ¬ b ≤ a := fun h0 => of_decide_eq_false h (cq_ge.2 h0)
    rw [show max a b = b by rw [Rat.max_def]; split <;> grind]
    repeat (first | refine sX rfl rfl ?_ | (refine sS rfl rfl ?_ ?_; focus omega) | (refine sC rfl rfl ?_ ?_; focus (first | exact trivial | assumption | constructor <;> assumption | exact mb2 rfl rfl | exact mb4 rfl rfl rfl rfl)) | refine cX ?_ | refine cY ?_ | (refine sA rfl rfl ?_; intro _) | refine sT rfl ?_ | refine sW rfl rfl ?_ | refine sK rfl rfl ?_ | refine j_if rfl ?_ | refine j_else rfl ?_ | refine pkT rfl rfl rfl rfl ?_ | refine pkF rfl rfl rfl rfl ?_)
    exact wx_cell rfl rfl (fun w hw => ret_ok hw)⟩
end Go.Vt
/- Structs in which fractions lie: as Lean structures over Rat, with their encodings and what loads, literals and comparisons give. Written by a program (gen_enc.py). Conditions: none. -/
set_option linter.unusedVariables false
set_option linter.unusedSimpArgs false
set_option maxRecDepth 100000
namespace Go.Vt
open Go.RowKit Go.Proofs
structure R_api_Real where
  P : Rat
  R : Rat
  Neg : Bool
  deriving DecidableEq
def q_api_Real (x : R_api_Real) : api_Real := ⟨Q x.P, Q x.R, x.Neg⟩
def zR_api_Real : R_api_Real := ⟨0, 0, false⟩
theorem q_api_Real_inj {x y : R_api_Real} : q_api_Real x = q_api_Real y ↔ x = y := by
  cases x; cases y; simp only [q_api_Real, api_Real.mk.injEq, R_api_Real.mk.injEq, Q_inj, I_inj]
instance (priority := high) rz_30 : ZeroC Tryz.prog 30 (.agg (e_api_Real (q_api_Real zR_api_Real))) (e_api_Real (q_api_Real zR_api_Real)) := ⟨by kernel_rfl, rfl⟩
instance (priority := high) rl_30_30_0 (x : R_api_Real) : LdC Tryz.prog 30 (e_api_Real (q_api_Real x)) 0 (.agg (e_api_Real (q_api_Real x))) := ⟨ldv_agg 9 (by kernel_rfl) (by kernel_rfl) (by kernel_rfl)⟩
instance (priority := high) rl_30_28_0 (x : R_api_Real) : LdC Tryz.prog 28 (e_api_Real (q_api_Real x)) 0 (vQ x.P) := ⟨ldv_agg 4 (by kernel_rfl) (by kernel_rfl) (by kernel_rfl)⟩
instance (priority := high) rl_30_28_4 (x : R_api_Real) : LdC Tryz.prog 28 (e_api_Real (q_api_Real x)) 4 (vQ x.R) := ⟨ldv_agg 4 (by kernel_rfl) (by kernel_rfl) (by kernel_rfl)⟩
instance (priority := high) rl_30_4_8 (x : R_api_Real) : LdC Tryz.prog 4 (e_api_Real (q_api_Real x)) 8 (.bool x.Neg) := ⟨ldv_one (by kernel_rfl) (by kernel_rfl)⟩
instance (priority := high) rb_30_0 (x0 : Rat) : BdC Tryz.prog 30 [(0, vQ x0)] (.agg (e_api_Real (q_api_Real ⟨x0, 0, false⟩))) := ⟨fun w => by kernel_rfl⟩
instance (priority := high) reql_30 (x y : R_api_Real) : BinC Tryz.prog .eql 30 (.agg (e_api_Real (q_api_Real x))) (.agg (e_api_Real (q_api_Real y))) (.bool (decide (x = y))) := by
  have h : decide (q_api_Real x = q_api_Real y) = decide (x = y) := by rw [decide_eq_decide]; exact q_api_Real_inj
  exact h ▸ (inferInstance : BinC Tryz.prog .eql 30 (.agg (e_api_Real (q_api_Real x))) (.agg (e_api_Real (q_api_Real y))) (.bool (decide (q_api_Real x = q_api_Real y))))
structure R_api_Interval where
  From : R_api_Real
  To : R_api_Real
  OpenFrom : Bool
  OpenTo : Bool
  deriving DecidableEq
def q_api_Interval (x : R_api_Interval) : api_Interval := ⟨q_api_Real x.From, q_api_Real x.To, x.OpenFrom, x.OpenTo⟩
def zR_api_Interval : R_api_Interval := ⟨zR_api_Real, zR_api_Real, false, false⟩
theorem q_api_Interval_inj {x y : R_api_Interval} : q_api_Interval x = q_api_Interval y ↔ x = y := by
  cases x; cases y; simp only [q_api_Interval, api_Interval.mk.injEq, R_api_Interval.mk.injEq, Q_inj, I_inj, q_api_Real_inj, q_api_Real_inj]
instance (priority := high) rz_32 : ZeroC Tryz.prog 32 (.agg (e_api_Interval (q_api_Interval zR_api_Interval))) (e_api_Interval (q_api_Interval zR_api_Interval)) := ⟨by kernel_rfl, rfl⟩
instance (priority := high) rl_32_32_0 (x : R_api_Interval) : LdC Tryz.prog 32 (e_api_Interval (q_api_Interval x)) 0 (.agg (e_api_Interval (q_api_Interval x))) := ⟨ldv_agg 20 (by kernel_rfl) (by kernel_rfl) (by kernel_rfl)⟩
instance (priority := high) rl_32_30_0 (x : R_api_Interval) : LdC Tryz.prog 30 (e_api_Interval (q_api_Interval x)) 0 (.agg (e_api_Real (q_api_Real x.From))) := ⟨ldv_agg 9 (by kernel_rfl) (by kernel_rfl) (by kernel_rfl)⟩
instance (priority := high) rl_32_30_9 (x : R_api_Interval) : LdC Tryz.prog 30 (e_api_Interval (q_api_Interval x)) 9 (.agg (e_api_Real (q_api_Real x.To))) := ⟨ldv_agg 9 (by kernel_rfl) (by kernel_rfl) (by kernel_rfl)⟩
instance (priority := high) rl_32_4_18 (x : R_api_Interval) : LdC Tryz.prog 4 (e_api_Interval (q_api_Interval x)) 18 (.bool x.OpenFrom) := ⟨ldv_one (by kernel_rfl) (by kernel_rfl)⟩
instance (priority := high) rl_32_4_19 (x : R_api_Interval) : LdC Tryz.prog 4 (e_api_Interval (q_api_Interval x)) 19 (.bool x.OpenTo) := ⟨ldv_one (by kernel_rfl) (by kernel_rfl)⟩
instance (priority := high) rb_32_0_1 (x0 : R_api_Real) (x1 : R_api_Real) : BdC Tryz.prog 32 [(0, .agg (e_api_Real (q_api_Real x0))), (1, .agg (e_api_Real (q_api_Real x1)))] (.agg (e_api_Interval (q_api_Interval ⟨x0, x1, false, false⟩))) := ⟨fun w => by kernel_rfl⟩
instance (priority := high) rb_32_0_1_2 (x0 : R_api_Real) (x1 : R_api_Real) (x2 : Bool) : BdC Tryz.prog 32 [(0, .agg (e_api_Real (q_api_Real x0))), (1, .agg (e_api_Real (q_api_Real x1))), (2, .bool x2)] (.agg (e_api_Interval (q_api_Interval ⟨x0, x1, x2, false⟩))) := ⟨fun w => by kernel_rfl⟩
instance (priority := high) rb_32_0_1_2_3 (x0 : R_api_Real) (x1 : R_api_Real) (x2 : Bool) (x3 : Bool) : BdC Tryz.prog 32 [(0, .agg (e_api_Real (q_api_Real x0))), (1, .agg (e_api_Real (q_api_Real x1))), (2, .bool x2), (3, .bool x3)] (.agg (e_api_Interval (q_api_Interval ⟨x0, x1, x2, x3⟩))) := ⟨fun w => by kernel_rfl⟩
instance (priority := high) rb_32_1 (x1 : R_api_Real) : BdC Tryz.prog 32 [(1, .agg (e_api_Real (q_api_Real x1)))] (.agg (e_api_Interval (q_api_Interval ⟨zR_api_Real, x1, false, false⟩))) := ⟨fun w => by kernel_rfl⟩
structure R_simplify_Run where
  In : R_api_Interval
  Points : Sl
def q_simplify_Run (x : R_simplify_Run) : simplify_Run := ⟨q_api_Interval x.In, x.Points⟩
def zR_simplify_Run : R_simplify_Run := ⟨zR_api_Interval, ⟨none, 0, 0⟩⟩
instance (priority := high) rz_35 : ZeroC Tryz.prog 35 (.agg (e_simplify_Run (q_simplify_Run zR_simplify_Run))) (e_simplify_Run (q_simplify_Run zR_simplify_Run)) := ⟨by kernel_rfl, rfl⟩
instance (priority := 20000) rc_35_32_0 (x0 : R_api_Interval) (x1 : Option Addr) (x1l x1c : Nat) : LdC Tryz.prog 32 (e_simplify_Run (q_simplify_Run ⟨x0, ⟨x1, x1l, x1c⟩⟩)) 0 (.agg (e_api_Interval (q_api_Interval x0))) := ⟨ldv_agg 20 (by kernel_rfl) (by kernel_rfl) (by kernel_rfl)⟩
instance (priority := 20000) rc_35_30_0 (x0 : R_api_Interval) (x1 : Option Addr) (x1l x1c : Nat) : LdC Tryz.prog 30 (e_simplify_Run (q_simplify_Run ⟨x0, ⟨x1, x1l, x1c⟩⟩)) 0 (.agg (e_api_Real (q_api_Real x0.From))) := ⟨ldv_agg 9 (by kernel_rfl) (by kernel_rfl) (by kernel_rfl)⟩
instance (priority := 20000) rc_35_30_9 (x0 : R_api_Interval) (x1 : Option Addr) (x1l x1c : Nat) : LdC Tryz.prog 30 (e_simplify_Run (q_simplify_Run ⟨x0, ⟨x1, x1l, x1c⟩⟩)) 9 (.agg (e_api_Real (q_api_Real x0.To))) := ⟨ldv_agg 9 (by kernel_rfl) (by kernel_rfl) (by kernel_rfl)⟩
instance (priority := 20000) rc_35_4_18 (x0 : R_api_Interval) (x1 : Option Addr) (x1l x1c : Nat) : LdC Tryz.prog 4 (e_simplify_Run (q_simplify_Run ⟨x0, ⟨x1, x1l, x1c⟩⟩)) 18 (.bool x0.OpenFrom) := ⟨ldv_one (by kernel_rfl) (by kernel_rfl)⟩
instance (priority := 20000) rc_35_4_19 (x0 : R_api_Interval) (x1 : Option Addr) (x1l x1c : Nat) : LdC Tryz.prog 4 (e_simplify_Run (q_simplify_Run ⟨x0, ⟨x1, x1l, x1c⟩⟩)) 19 (.bool x0.OpenTo) := ⟨ldv_one (by kernel_rfl) (by kernel_rfl)⟩
instance (priority := 20000) rc_35_33_20 (x0 : R_api_Interval) (x1 : Option Addr) (x1l x1c : Nat) : LdC Tryz.prog 33 (e_simplify_Run (q_simplify_Run ⟨x0, ⟨x1, x1l, x1c⟩⟩)) 20 (.slice x1 x1l x1c) := ⟨ldv_one (by kernel_rfl) (by kernel_rfl)⟩
instance (priority := high) rl_35_35_0 (x : R_simplify_Run) : LdC Tryz.prog 35 (e_simplify_Run (q_simplify_Run x)) 0 (.agg (e_simplify_Run (q_simplify_Run x))) := ⟨ldv_agg 21 (by kernel_rfl) (by kernel_rfl) (by kernel_rfl)⟩
instance (priority := high) rl_35_32_0 (x : R_simplify_Run) : LdC Tryz.prog 32 (e_simplify_Run (q_simplify_Run x)) 0 (.agg (e_api_Interval (q_api_Interval x.In))) := ⟨ldv_agg 20 (by kernel_rfl) (by kernel_rfl) (by kernel_rfl)⟩
instance (priority := high) rl_35_33_20 (x : R_simplify_Run) : LdC Tryz.prog 33 (e_simplify_Run (q_simplify_Run x)) 20 (.slice x.Points.a x.Points.len x.Points.cap) := ⟨ldv_one (by kernel_rfl) (by kernel_rfl)⟩
instance (priority := high) rb_35_0_1 (x0 : R_api_Interval) (x1 : Option Addr) (x1l x1c : Nat) : BdC Tryz.prog 35 [(0, .agg (e_api_Interval (q_api_Interval x0))), (1, .slice x1 x1l x1c)] (.agg (e_simplify_Run (q_simplify_Run ⟨x0, ⟨x1, x1l, x1c⟩⟩))) := ⟨fun w => by kernel_rfl⟩
structure R_api_Point where
  X : Rat
  Y : Rat
  deriving DecidableEq
def q_api_Point (x : R_api_Point) : api_Point := ⟨Q x.X, Q x.Y⟩
def zR_api_Point : R_api_Point := ⟨0, 0⟩
instance (priority := high) rz_45 : ZeroC Tryz.prog 45 (.agg (e_api_Point (q_api_Point zR_api_Point))) (e_api_Point (q_api_Point zR_api_Point)) := ⟨by kernel_rfl, rfl⟩
instance (priority := high) rl_45_45_0 (x : R_api_Point) : LdC Tryz.prog 45 (e_api_Point (q_api_Point x)) 0 (.agg (e_api_Point (q_api_Point x))) := ⟨ldv_agg 8 (by kernel_rfl) (by kernel_rfl) (by kernel_rfl)⟩
instance (priority := high) rl_45_28_0 (x : R_api_Point) : LdC Tryz.prog 28 (e_api_Point (q_api_Point x)) 0 (vQ x.X) := ⟨ldv_agg 4 (by kernel_rfl) (by kernel_rfl) (by kernel_rfl)⟩
instance (priority := high) rl_45_28_4 (x : R_api_Point) : LdC Tryz.prog 28 (e_api_Point (q_api_Point x)) 4 (vQ x.Y) := ⟨ldv_agg 4 (by kernel_rfl) (by kernel_rfl) (by kernel_rfl)⟩
instance (priority := high) rb_45_0_1 (x0 : Rat) (x1 : Rat) : BdC Tryz.prog 45 [(0, vQ x0), (1, vQ x1)] (.agg (e_api_Point (q_api_Point ⟨x0, x1⟩))) := ⟨fun w => by kernel_rfl⟩
structure R_movingpoint_Sample where
  T : Rat
  P : R_api_Point
  deriving DecidableEq
def q_movingpoint_Sample (x : R_movingpoint_Sample) : movingpoint_Sample := ⟨Q x.T, q_api_Point x.P⟩
def zR_movingpoint_Sample : R_movingpoint_Sample := ⟨0, zR_api_Point⟩
instance (priority := high) rz_47 : ZeroC Tryz.prog 47 (.agg (e_movingpoint_Sample (q_movingpoint_Sample zR_movingpoint_Sample))) (e_movingpoint_Sample (q_movingpoint_Sample zR_movingpoint_Sample)) := ⟨by kernel_rfl, rfl⟩
instance (priority := high) rl_47_47_0 (x : R_movingpoint_Sample) : LdC Tryz.prog 47 (e_movingpoint_Sample (q_movingpoint_Sample x)) 0 (.agg (e_movingpoint_Sample (q_movingpoint_Sample x))) := ⟨ldv_agg 12 (by kernel_rfl) (by kernel_rfl) (by kernel_rfl)⟩
instance (priority := high) rl_47_28_0 (x : R_movingpoint_Sample) : LdC Tryz.prog 28 (e_movingpoint_Sample (q_movingpoint_Sample x)) 0 (vQ x.T) := ⟨ldv_agg 4 (by kernel_rfl) (by kernel_rfl) (by kernel_rfl)⟩
instance (priority := high) rl_47_45_4 (x : R_movingpoint_Sample) : LdC Tryz.prog 45 (e_movingpoint_Sample (q_movingpoint_Sample x)) 4 (.agg (e_api_Point (q_api_Point x.P))) := ⟨ldv_agg 8 (by kernel_rfl) (by kernel_rfl) (by kernel_rfl)⟩
instance (priority := high) rl_47_28_4 (x : R_movingpoint_Sample) : LdC Tryz.prog 28 (e_movingpoint_Sample (q_movingpoint_Sample x)) 4 (vQ x.P.X) := ⟨ldv_agg 4 (by kernel_rfl) (by kernel_rfl) (by kernel_rfl)⟩
instance (priority := high) rl_47_28_8 (x : R_movingpoint_Sample) : LdC Tryz.prog 28 (e_movingpoint_Sample (q_movingpoint_Sample x)) 8 (vQ x.P.Y) := ⟨ldv_agg 4 (by kernel_rfl) (by kernel_rfl) (by kernel_rfl)⟩
instance (priority := high) rf_47_1 (x : R_movingpoint_Sample) : FdC Tryz.prog 47 (.agg (e_movingpoint_Sample (q_movingpoint_Sample x))) 1 (.agg (e_api_Point (q_api_Point x.P))) := ⟨fun w => by kernel_rfl⟩
instance (priority := high) rb_47_0_1 (x0 : Rat) (x1 : R_api_Point) : BdC Tryz.prog 47 [(0, vQ x0), (1, .agg (e_api_Point (q_api_Point x1)))] (.agg (e_movingpoint_Sample (q_movingpoint_Sample ⟨x0, x1⟩))) := ⟨fun w => by kernel_rfl⟩
structure R_api_Line where
  X0 : Rat
  X1 : Rat
  Y0 : Rat
  Y1 : Rat
  deriving DecidableEq
def q_api_Line (x : R_api_Line) : api_Line := ⟨Q x.X0, Q x.X1, Q x.Y0, Q x.Y1⟩
def zR_api_Line : R_api_Line := ⟨0, 0, 0, 0⟩
theorem q_api_Line_inj {x y : R_api_Line} : q_api_Line x = q_api_Line y ↔ x = y := by
  cases x; cases y; simp only [q_api_Line, api_Line.mk.injEq, R_api_Line.mk.injEq, Q_inj, I_inj]
instance (priority := high) rz_66 : ZeroC Tryz.prog 66 (.agg (e_api_Line (q_api_Line zR_api_Line))) (e_api_Line (q_api_Line zR_api_Line)) := ⟨by kernel_rfl, rfl⟩
instance (priority := high) rl_66_66_0 (x : R_api_Line) : LdC Tryz.prog 66 (e_api_Line (q_api_Line x)) 0 (.agg (e_api_Line (q_api_Line x))) := ⟨ldv_agg 16 (by kernel_rfl) (by kernel_rfl) (by kernel_rfl)⟩
instance (priority := high) rl_66_28_0 (x : R_api_Line) : LdC Tryz.prog 28 (e_api_Line (q_api_Line x)) 0 (vQ x.X0) := ⟨ldv_agg 4 (by kernel_rfl) (by kernel_rfl) (by kernel_rfl)⟩
instance (priority := high) rl_66_28_4 (x : R_api_Line) : LdC Tryz.prog 28 (e_api_Line (q_api_Line x)) 4 (vQ x.X1) := ⟨ldv_agg 4 (by kernel_rfl) (by kernel_rfl) (by kernel_rfl)⟩
instance (priority := high) rl_66_28_8 (x : R_api_Line) : LdC Tryz.prog 28 (e_api_Line (q_api_Line x)) 8 (vQ x.Y0) := ⟨ldv_agg 4 (by kernel_rfl) (by kernel_rfl) (by kernel_rfl)⟩
instance (priority := high) rl_66_28_12 (x : R_api_Line) : LdC Tryz.prog 28 (e_api_Line (q_api_Line x)) 12 (vQ x.Y1) := ⟨ldv_agg 4 (by kernel_rfl) (by kernel_rfl) (by kernel_rfl)⟩
instance (priority := high) rb_66_0_1_2_3 (x0 : Rat) (x1 : Rat) (x2 : Rat) (x3 : Rat) : BdC Tryz.prog 66 [(0, vQ x0), (1, vQ x1), (2, vQ x2), (3, vQ x3)] (.agg (e_api_Line (q_api_Line ⟨x0, x1, x2, x3⟩))) := ⟨fun w => by kernel_rfl⟩
instance (priority := high) rb_66_0_2 (x0 : Rat) (x2 : Rat) : BdC Tryz.prog 66 [(0, vQ x0), (2, vQ x2)] (.agg (e_api_Line (q_api_Line ⟨x0, 0, x2, 0⟩))) := ⟨fun w => by kernel_rfl⟩
instance (priority := high) reql_66 (x y : R_api_Line) : BinC Tryz.prog .eql 66 (.agg (e_api_Line (q_api_Line x))) (.agg (e_api_Line (q_api_Line y))) (.bool (decide (x = y))) := by
  have h : decide (q_api_Line x = q_api_Line y) = decide (x = y) := by rw [decide_eq_decide]; exact q_api_Line_inj
  exact h ▸ (inferInstance : BinC Tryz.prog .eql 66 (.agg (e_api_Line (q_api_Line x))) (.agg (e_api_Line (q_api_Line y))) (.bool (decide (q_api_Line x = q_api_Line y))))
structure R_api_PointUnit where
  In : R_api_Interval
  F : R_api_Line
  deriving DecidableEq
def q_api_PointUnit (x : R_api_PointUnit) : api_PointUnit := ⟨q_api_Interval x.In, q_api_Line x.F⟩
def zR_api_PointUnit : R_api_PointUnit := ⟨zR_api_Interval, zR_api_Line⟩
theorem q_api_PointUnit_inj {x y : R_api_PointUnit} : q_api_PointUnit x = q_api_PointUnit y ↔ x = y := by
  cases x; cases y; simp only [q_api_PointUnit, api_PointUnit.mk.injEq, R_api_PointUnit.mk.injEq, Q_inj, I_inj, q_api_Interval_inj, q_api_Line_inj]
instance (priority := high) rz_68 : ZeroC Tryz.prog 68 (.agg (e_api_PointUnit (q_api_PointUnit zR_api_PointUnit))) (e_api_PointUnit (q_api_PointUnit zR_api_PointUnit)) := ⟨by kernel_rfl, rfl⟩
instance (priority := high) rl_68_68_0 (x : R_api_PointUnit) : LdC Tryz.prog 68 (e_api_PointUnit (q_api_PointUnit x)) 0 (.agg (e_api_PointUnit (q_api_PointUnit x))) := ⟨ldv_agg 36 (by kernel_rfl) (by kernel_rfl) (by kernel_rfl)⟩
instance (priority := high) rl_68_32_0 (x : R_api_PointUnit) : LdC Tryz.prog 32 (e_api_PointUnit (q_api_PointUnit x)) 0 (.agg (e_api_Interval (q_api_Interval x.In))) := ⟨ldv_agg 20 (by kernel_rfl) (by kernel_rfl) (by kernel_rfl)⟩
instance (priority := high) rl_68_66_20 (x : R_api_PointUnit) : LdC Tryz.prog 66 (e_api_PointUnit (q_api_PointUnit x)) 20 (.agg (e_api_Line (q_api_Line x.F))) := ⟨ldv_agg 16 (by kernel_rfl) (by kernel_rfl) (by kernel_rfl)⟩
instance (priority := high) rb_68_0_1 (x0 : R_api_Interval) (x1 : R_api_Line) : BdC Tryz.prog 68 [(0, .agg (e_api_Interval (q_api_Interval x0))), (1, .agg (e_api_Line (q_api_Line x1)))] (.agg (e_api_PointUnit (q_api_PointUnit ⟨x0, x1⟩))) := ⟨fun w => by kernel_rfl⟩
instance (priority := high) rneq_68 (x y : R_api_PointUnit) : BinC Tryz.prog .neq 68 (.agg (e_api_PointUnit (q_api_PointUnit x))) (.agg (e_api_PointUnit (q_api_PointUnit y))) (.bool (!decide (x = y))) := by
  have h : decide (q_api_PointUnit x = q_api_PointUnit y) = decide (x = y) := by rw [decide_eq_decide]; exact q_api_PointUnit_inj
  exact h ▸ (inferInstance : BinC Tryz.prog .neq 68 (.agg (e_api_PointUnit (q_api_PointUnit x))) (.agg (e_api_PointUnit (q_api_PointUnit y))) (.bool (!decide (q_api_PointUnit x = q_api_PointUnit y))))
structure R_api_Quad where
  C0 : Rat
  C1 : Rat
  C2 : Rat
  deriving DecidableEq
def q_api_Quad (x : R_api_Quad) : api_Quad := ⟨Q x.C0, Q x.C1, Q x.C2⟩
def zR_api_Quad : R_api_Quad := ⟨0, 0, 0⟩
theorem q_api_Quad_inj {x y : R_api_Quad} : q_api_Quad x = q_api_Quad y ↔ x = y := by
  cases x; cases y; simp only [q_api_Quad, api_Quad.mk.injEq, R_api_Quad.mk.injEq, Q_inj, I_inj]
instance (priority := high) rz_102 : ZeroC Tryz.prog 102 (.agg (e_api_Quad (q_api_Quad zR_api_Quad))) (e_api_Quad (q_api_Quad zR_api_Quad)) := ⟨by kernel_rfl, rfl⟩
instance (priority := high) rl_102_102_0 (x : R_api_Quad) : LdC Tryz.prog 102 (e_api_Quad (q_api_Quad x)) 0 (.agg (e_api_Quad (q_api_Quad x))) := ⟨ldv_agg 12 (by kernel_rfl) (by kernel_rfl) (by kernel_rfl)⟩
instance (priority := high) rl_102_28_0 (x : R_api_Quad) : LdC Tryz.prog 28 (e_api_Quad (q_api_Quad x)) 0 (vQ x.C0) := ⟨ldv_agg 4 (by kernel_rfl) (by kernel_rfl) (by kernel_rfl)⟩
instance (priority := high) rl_102_28_4 (x : R_api_Quad) : LdC Tryz.prog 28 (e_api_Quad (q_api_Quad x)) 4 (vQ x.C1) := ⟨ldv_agg 4 (by kernel_rfl) (by kernel_rfl) (by kernel_rfl)⟩
instance (priority := high) rl_102_28_8 (x : R_api_Quad) : LdC Tryz.prog 28 (e_api_Quad (q_api_Quad x)) 8 (vQ x.C2) := ⟨ldv_agg 4 (by kernel_rfl) (by kernel_rfl) (by kernel_rfl)⟩
instance (priority := high) rb_102_  : BdC Tryz.prog 102 [] (.agg (e_api_Quad (q_api_Quad ⟨0, 0, 0⟩))) := ⟨fun w => by kernel_rfl⟩
instance (priority := high) rb_102_0 (x0 : Rat) : BdC Tryz.prog 102 [(0, vQ x0)] (.agg (e_api_Quad (q_api_Quad ⟨x0, 0, 0⟩))) := ⟨fun w => by kernel_rfl⟩
instance (priority := high) rb_102_0_1 (x0 : Rat) (x1 : Rat) : BdC Tryz.prog 102 [(0, vQ x0), (1, vQ x1)] (.agg (e_api_Quad (q_api_Quad ⟨x0, x1, 0⟩))) := ⟨fun w => by kernel_rfl⟩
instance (priority := high) rb_102_0_1_2 (x0 : Rat) (x1 : Rat) (x2 : Rat) : BdC Tryz.prog 102 [(0, vQ x0), (1, vQ x1), (2, vQ x2)] (.agg (e_api_Quad (q_api_Quad ⟨x0, x1, x2⟩))) := ⟨fun w => by kernel_rfl⟩
instance (priority := high) reql_102 (x y : R_api_Quad) : BinC Tryz.prog .eql 102 (.agg (e_api_Quad (q_api_Quad x))) (.agg (e_api_Quad (q_api_Quad y))) (.bool (decide (x = y))) := by
  have h : decide (q_api_Quad x = q_api_Quad y) = decide (x = y) := by rw [decide_eq_decide]; exact q_api_Quad_inj
  exact h ▸ (inferInstance : BinC Tryz.prog .eql 102 (.agg (e_api_Quad (q_api_Quad x))) (.agg (e_api_Quad (q_api_Quad y))) (.bool (decide (q_api_Quad x = q_api_Quad y))))
structure R_pieces_Unit_api_Line where
  In : R_api_Interval
  F : R_api_Line
  deriving DecidableEq
def q_pieces_Unit_api_Line (x : R_pieces_Unit_api_Line) : pieces_Unit_api_Line := ⟨q_api_Interval x.In, q_api_Line x.F⟩
def zR_pieces_Unit_api_Line : R_pieces_Unit_api_Line := ⟨zR_api_Interval, zR_api_Line⟩
instance (priority := high) rz_163 : ZeroC Tryz.prog 163 (.agg (e_pieces_Unit_api_Line (q_pieces_Unit_api_Line zR_pieces_Unit_api_Line))) (e_pieces_Unit_api_Line (q_pieces_Unit_api_Line zR_pieces_Unit_api_Line)) := ⟨by kernel_rfl, rfl⟩
instance (priority := high) rl_163_163_0 (x : R_pieces_Unit_api_Line) : LdC Tryz.prog 163 (e_pieces_Unit_api_Line (q_pieces_Unit_api_Line x)) 0 (.agg (e_pieces_Unit_api_Line (q_pieces_Unit_api_Line x))) := ⟨ldv_agg 36 (by kernel_rfl) (by kernel_rfl) (by kernel_rfl)⟩
instance (priority := high) rl_163_32_0 (x : R_pieces_Unit_api_Line) : LdC Tryz.prog 32 (e_pieces_Unit_api_Line (q_pieces_Unit_api_Line x)) 0 (.agg (e_api_Interval (q_api_Interval x.In))) := ⟨ldv_agg 20 (by kernel_rfl) (by kernel_rfl) (by kernel_rfl)⟩
instance (priority := high) rl_163_30_0 (x : R_pieces_Unit_api_Line) : LdC Tryz.prog 30 (e_pieces_Unit_api_Line (q_pieces_Unit_api_Line x)) 0 (.agg (e_api_Real (q_api_Real x.In.From))) := ⟨ldv_agg 9 (by kernel_rfl) (by kernel_rfl) (by kernel_rfl)⟩
instance (priority := high) rl_163_30_9 (x : R_pieces_Unit_api_Line) : LdC Tryz.prog 30 (e_pieces_Unit_api_Line (q_pieces_Unit_api_Line x)) 9 (.agg (e_api_Real (q_api_Real x.In.To))) := ⟨ldv_agg 9 (by kernel_rfl) (by kernel_rfl) (by kernel_rfl)⟩
instance (priority := high) rl_163_4_18 (x : R_pieces_Unit_api_Line) : LdC Tryz.prog 4 (e_pieces_Unit_api_Line (q_pieces_Unit_api_Line x)) 18 (.bool x.In.OpenFrom) := ⟨ldv_one (by kernel_rfl) (by kernel_rfl)⟩
instance (priority := high) rl_163_4_19 (x : R_pieces_Unit_api_Line) : LdC Tryz.prog 4 (e_pieces_Unit_api_Line (q_pieces_Unit_api_Line x)) 19 (.bool x.In.OpenTo) := ⟨ldv_one (by kernel_rfl) (by kernel_rfl)⟩
instance (priority := high) rl_163_66_20 (x : R_pieces_Unit_api_Line) : LdC Tryz.prog 66 (e_pieces_Unit_api_Line (q_pieces_Unit_api_Line x)) 20 (.agg (e_api_Line (q_api_Line x.F))) := ⟨ldv_agg 16 (by kernel_rfl) (by kernel_rfl) (by kernel_rfl)⟩
instance (priority := high) rb_163_0_1 (x0 : R_api_Interval) (x1 : R_api_Line) : BdC Tryz.prog 163 [(0, .agg (e_api_Interval (q_api_Interval x0))), (1, .agg (e_api_Line (q_api_Line x1)))] (.agg (e_pieces_Unit_api_Line (q_pieces_Unit_api_Line ⟨x0, x1⟩))) := ⟨fun w => by kernel_rfl⟩
instance (priority := high) rneq_26 (a b : Int) : BinC Tryz.prog .neq 26 (vI a) (vI b) (.bool (!decide (a = b))) := by
  have h : decide (I a = I b) = decide (a = b) := by rw [decide_eq_decide]; exact I_inj
  exact h ▸ (inferInstance : BinC Tryz.prog .neq 26 (vI a) (vI b) (.bool (!decide (I a = I b))))
instance (priority := high) rneq_28 (a b : Rat) : BinC Tryz.prog .neq 28 (vQ a) (vQ b) (.bool (!decide (a = b))) := by
  have h : decide (Q a = Q b) = decide (a = b) := by rw [decide_eq_decide]; exact Q_inj
  exact h ▸ (inferInstance : BinC Tryz.prog .neq 28 (vQ a) (vQ b) (.bool (!decide (Q a = Q b))))
end Go.Vt
/- Points, quadratics and straight ways over rational numbers. Conditions: the lengths that each statement names. -/
set_option linter.unusedSimpArgs false
set_option linter.unusedVariables false
set_option maxRecDepth 100000
namespace Go.Vt
open Go.RowKit Go.Proofs
theorem MB.lt {q : Rat} {k B : Nat} [h : MB q k] (hk : Nat.ble k B = true) : M q ≤ B := Nat.le_trans h.out (Nat.le_of_ble_eq_true hk)
theorem mb2 {p q : Rat} {j k B C : Nat} [MB p j] [MB q k] (h1 : Nat.ble j B = true) (h2 : Nat.ble k C = true) : M p ≤ B ∧ M q ≤ C := ⟨MB.lt h1, MB.lt h2⟩
theorem mb4 {p q r s : Rat} {i j k l A B C D : Nat} [MB p i] [MB q j] [MB r k] [MB s l] (h1 : Nat.ble i A = true) (h2 : Nat.ble j B = true) (h3 : Nat.ble k C = true) (h4 : Nat.ble l D = true) : M p ≤ A ∧ M q ≤ B ∧ M r ≤ C ∧ M s ≤ D := ⟨MB.lt h1, MB.lt h2, MB.lt h3, MB.lt h4⟩
theorem mb3 {p q r : Rat} {i j k A B C : Nat} [MB p i] [MB q j] [MB r k] (h1 : Nat.ble i A = true) (h2 : Nat.ble j B = true) (h3 : Nat.ble k C = true) : M p ≤ A ∧ M q ≤ B ∧ M r ≤ C := ⟨MB.lt h1, MB.lt h2, MB.lt h3⟩
abbrev vR (r : R_api_Real) : Value := .agg (e_api_Real (q_api_Real r))
abbrev vP (p : R_api_Point) : Value := .agg (e_api_Point (q_api_Point p))
abbrev vS (s : R_movingpoint_Sample) : Value := .agg (e_movingpoint_Sample (q_movingpoint_Sample s))
instance sp_FromRat (q : Rat) : SpecC Tryz.prog 45 [vQ q] (vR ⟨q, 0, false⟩) True := ⟨fun _ w => by
  refine fn_intro Tryz.func45 rfl Tryz.ntmps45 rfl ?_
  repeat (first | refine sX rfl rfl ?_ | (refine sS rfl rfl ?_ ?_; focus omega) | (refine sC rfl rfl ?_ ?_; focus (first | exact trivial | assumption | constructor <;> assumption | exact mb2 rfl rfl | exact mb4 rfl rfl rfl rfl)) | refine cX ?_ | refine cY ?_ | (refine sA rfl rfl ?_; intro _) | refine sT rfl ?_ | refine sW rfl rfl ?_ | refine sK rfl rfl ?_ | refine j_if rfl ?_ | refine j_else rfl ?_ | refine pkT rfl rfl rfl rfl ?_ | refine pkF rfl rfl rfl rfl ?_)
  exact wx_cell rfl rfl (fun w hw => ret_ok hw)⟩
instance sp_RealFromInt (n : Int) : SpecC Tryz.prog 41 [.int .i64 n] (vR ⟨(n : Rat), 0, false⟩) (-9223372036854775808 ≤ n ∧ n ≤ 9223372036854775807) := ⟨fun hp w => by
  refine fn_intro Tryz.func41 rfl Tryz.ntmps41 rfl ?_
  repeat (first | refine sX rfl rfl ?_ | (refine sS rfl rfl ?_ ?_; focus omega) | (refine sC rfl rfl ?_ ?_; focus (first | exact trivial | assumption | constructor <;> assumption | exact mb2 rfl rfl | exact mb4 rfl rfl rfl rfl)) | refine cX ?_ | refine cY ?_ | (refine sA rfl rfl ?_; intro _) | refine sT rfl ?_ | refine sW rfl rfl ?_ | refine sK rfl rfl ?_ | refine j_if rfl ?_ | refine j_else rfl ?_ | refine pkT rfl rfl rfl rfl ?_ | refine pkF rfl rfl rfl rfl ?_)
  exact wx_cell rfl rfl (fun w hw => ret_ok hw)⟩
instance sp_Rational (x : R_api_Real) : SpecC Tryz.prog 74 [vR x] (.tuple #[vQ (if x.R = 0 then x.P else 0), .bool (decide (x.R = 0))]) True := ⟨fun _ w => by
  refine fn_intro Tryz.func74 rfl Tryz.ntmps74 rfl ?_
  repeat (first | refine sX rfl rfl ?_ | (refine sS rfl rfl ?_ ?_; focus omega) | (refine sC rfl rfl ?_ ?_; focus (first | exact trivial | assumption | constructor <;> assumption | exact mb2 rfl rfl | exact mb4 rfl rfl rfl rfl)) | refine cX ?_ | refine cY ?_ | (refine sA rfl rfl ?_; intro _) | refine sT rfl ?_ | refine sW rfl rfl ?_ | refine sK rfl rfl ?_ | refine j_if rfl ?_ | refine j_else rfl ?_ | refine pkT rfl rfl rfl rfl ?_ | refine pkF rfl rfl rfl rfl ?_)
  refine j_cond rfl (fun h => ?_) (fun h => ?_)
  · have h1 : ¬ x.R = 0 := by simpa using h
    rw [if_neg h1, decide_eq_false h1]
    repeat (first | refine sX rfl rfl ?_ | (refine sS rfl rfl ?_ ?_; focus omega) | (refine sC rfl rfl ?_ ?_; focus (first | exact trivial | assumption | constructor <;> assumption | exact mb2 rfl rfl | exact mb4 rfl rfl rfl rfl)) | refine cX ?_ | refine cY ?_ | (refine sA rfl rfl ?_; intro _) | refine sT rfl ?_ | refine sW rfl rfl ?_ | refine sK rfl rfl ?_ | refine j_if rfl ?_ | refine j_else rfl ?_ | refine pkT rfl rfl rfl rfl ?_ | refine pkF rfl rfl rfl rfl ?_)
    exact jx_ret_two rfl (wr_cell rfl) (resv_tmp rfl) (fun w hw => ret_ok hw)
  · have h1 : x.R = 0 := by simpa using h
    rw [if_pos h1, decide_eq_true h1]
    repeat (first | refine sX rfl rfl ?_ | (refine sS rfl rfl ?_ ?_; focus omega) | (refine sC rfl rfl ?_ ?_; focus (first | exact trivial | assumption | constructor <;> assumption | exact mb2 rfl rfl | exact mb4 rfl rfl rfl rfl)) | refine cX ?_ | refine cY ?_ | (refine sA rfl rfl ?_; intro _) | refine sT rfl ?_ | refine sW rfl rfl ?_ | refine sK rfl rfl ?_ | refine j_if rfl ?_ | refine j_else rfl ?_ | refine pkT rfl rfl rfl rfl ?_ | refine pkF rfl rfl rfl rfl ?_)
    exact jx_ret_two rfl (wr_cell rfl) (resv_tmp rfl) (fun w hw => ret_ok hw)⟩
instance sp_PAt (x y : Int) : SpecC Tryz.prog 44 [.int .i64 x, .int .i64 y] (vP ⟨(x : Rat), (y : Rat)⟩) ((-9223372036854775808 ≤ x ∧ x ≤ 9223372036854775807) ∧ (-9223372036854775808 ≤ y ∧ y ≤ 9223372036854775807)) := ⟨fun hp w => by
  refine fn_intro Tryz.func44 rfl Tryz.ntmps44 rfl ?_
  repeat (first | refine sX rfl rfl ?_ | (refine sS rfl rfl ?_ ?_; focus omega) | (refine sC rfl rfl ?_ ?_; focus (first | exact hp.1 | exact hp.2)) | refine cX ?_ | refine cY ?_ | (refine sA rfl rfl ?_; intro _) | refine sT rfl ?_ | refine sW rfl rfl ?_ | refine sK rfl rfl ?_ | refine j_if rfl ?_ | refine j_else rfl ?_ | refine pkT rfl rfl rfl rfl ?_ | refine pkF rfl rfl rfl rfl ?_)
  exact wx_cell rfl rfl (fun w hw => ret_ok hw)⟩
instance sp_PSub (p q : R_api_Point) : SpecC Tryz.prog 66 [vP p, vP q] (vP ⟨p.X - q.X, p.Y - q.Y⟩) (M p.X ≤ LQ ∧ M p.Y ≤ LQ ∧ M q.X ≤ LQ ∧ M q.Y ≤ LQ) := ⟨fun hp w => by
  obtain ⟨h1, h2, h3, h4⟩ := hp
  refine fn_intro Tryz.func66 rfl Tryz.ntmps66 rfl ?_
  repeat (first | refine sX rfl rfl ?_ | (refine sS rfl rfl ?_ ?_; focus omega) | (refine sC rfl rfl ?_ ?_; focus (first | exact trivial | assumption | constructor <;> assumption | exact mb2 rfl rfl | exact mb4 rfl rfl rfl rfl)) | refine cX ?_ | refine cY ?_ | (refine sA rfl rfl ?_; intro _) | refine sT rfl ?_ | refine sW rfl rfl ?_ | refine sK rfl rfl ?_ | refine j_if rfl ?_ | refine j_else rfl ?_ | refine pkT rfl rfl rfl rfl ?_ | refine pkF rfl rfl rfl rfl ?_)
  (refine jD 11 11 mixed (by kernel_rfl) ?_; (repeat (first | refine tX rfl rfl ?_ | (refine tS rfl rfl ?_ ?_; focus omega) | (refine tC rfl rfl ?_ ?_; focus (first | exact trivial | assumption | constructor <;> assumption | exact mb2 rfl rfl | exact mb4 rfl rfl rfl rfl)) | refine tW rfl rfl ?_ | refine tK rfl rfl ?_ | refine Go.Vt.hq (wl_pickT rfl rfl) rfl rfl ?_ | refine Go.Vt.hq (wl_pickF rfl rfl) rfl rfl ?_)); refine jh_nil ?_; (repeat (refine wn_new ?_; intro _)); refine jn_nil ?_)
  repeat (first | refine sX rfl rfl ?_ | (refine sS rfl rfl ?_ ?_; focus omega) | (refine sC rfl rfl ?_ ?_; focus (first | exact trivial | assumption | constructor <;> assumption | exact mb2 rfl rfl | exact mb4 rfl rfl rfl rfl)) | refine cX ?_ | refine cY ?_ | (refine sA rfl rfl ?_; intro _) | refine sT rfl ?_ | refine sW rfl rfl ?_ | refine sK rfl rfl ?_ | refine j_if rfl ?_ | refine j_else rfl ?_ | refine pkT rfl rfl rfl rfl ?_ | refine pkF rfl rfl rfl rfl ?_)
  exact wx_cell rfl rfl (fun w hw => ret_ok hw)⟩
instance sp_PDot (p q : R_api_Point) : SpecC Tryz.prog 67 [vP p, vP q] (vQ (p.X * q.X + p.Y * q.Y)) (M p.X ≤ 68719476736 ∧ M p.Y ≤ 68719476736 ∧ M q.X ≤ 68719476736 ∧ M q.Y ≤ 68719476736) := ⟨fun hp w => by
  obtain ⟨h1, h2, h3, h4⟩ := hp
  have := MB.mk h1
  have := MB.mk h2
  have := MB.mk h3
  have := MB.mk h4
  refine fn_intro Tryz.func67 rfl Tryz.ntmps67 rfl ?_
  repeat (first | refine sX rfl rfl ?_ | (refine sS rfl rfl ?_ ?_; focus omega) | (refine sC rfl rfl ?_ ?_; focus (first | exact trivial | assumption | constructor <;> assumption | exact mb2 rfl rfl | exact mb4 rfl rfl rfl rfl)) | refine cX ?_ | refine cY ?_ | (refine sA rfl rfl ?_; intro _) | refine sT rfl ?_ | refine sW rfl rfl ?_ | refine sK rfl rfl ?_ | refine j_if rfl ?_ | refine j_else rfl ?_ | refine pkT rfl rfl rfl rfl ?_ | refine pkF rfl rfl rfl rfl ?_)
  (refine jD 11 11 mixed (by kernel_rfl) ?_; (repeat (first | refine tX rfl rfl ?_ | (refine tS rfl rfl ?_ ?_; focus omega) | (refine tC rfl rfl ?_ ?_; focus (first | exact trivial | assumption | constructor <;> assumption | exact mb2 rfl rfl | exact mb4 rfl rfl rfl rfl)) | refine tW rfl rfl ?_ | refine tK rfl rfl ?_ | refine Go.Vt.hq (wl_pickT rfl rfl) rfl rfl ?_ | refine Go.Vt.hq (wl_pickF rfl rfl) rfl rfl ?_)); refine jh_nil ?_; (repeat (refine wn_new ?_; intro _)); refine jn_nil ?_)
  repeat (first | refine sX rfl rfl ?_ | (refine sS rfl rfl ?_ ?_; focus omega) | (refine sC rfl rfl ?_ ?_; focus (first | exact trivial | assumption | constructor <;> assumption | exact mb2 rfl rfl | exact mb4 rfl rfl rfl rfl)) | refine cX ?_ | refine cY ?_ | (refine sA rfl rfl ?_; intro _) | refine sT rfl ?_ | refine sW rfl rfl ?_ | refine sK rfl rfl ?_ | refine j_if rfl ?_ | refine j_else rfl ?_ | refine pkT rfl rfl rfl rfl ?_ | refine pkF rfl rfl rfl rfl ?_)
  exact wx_cell rfl rfl (fun w hw => ret_ok hw)⟩
/-- The square of a distance. -/
def d2 (p q : R_api_Point) : Rat := (p.X - q.X) * (p.X - q.X) + (p.Y - q.Y) * (p.Y - q.Y)
instance sp_Distance2 (p q : R_api_Point) : SpecC Tryz.prog 20 [vP p, vP q] (vQ (d2 p q)) (M p.X ≤ 8589934592 ∧ M p.Y ≤ 8589934592 ∧ M q.X ≤ 8589934592 ∧ M q.Y ≤ 8589934592) := ⟨fun hp w => by
  obtain ⟨h1, h2, h3, h4⟩ := hp
  have := MB.mk h1
  have := MB.mk h2
  have := MB.mk h3
  have := MB.mk h4
  unfold d2
  refine fn_intro Tryz.func20 rfl Tryz.ntmps20 rfl ?_
  repeat (first | refine sX rfl rfl ?_ | (refine sS rfl rfl ?_ ?_; focus omega) | (refine sC rfl rfl ?_ ?_; focus (first | exact trivial | assumption | constructor <;> assumption | exact mb2 rfl rfl | exact mb4 rfl rfl rfl rfl)) | refine cX ?_ | refine cY ?_ | (refine sA rfl rfl ?_; intro _) | refine sT rfl ?_ | refine sW rfl rfl ?_ | refine sK rfl rfl ?_ | refine j_if rfl ?_ | refine j_else rfl ?_ | refine pkT rfl rfl rfl rfl ?_ | refine pkF rfl rfl rfl rfl ?_)
  exact wx_cell rfl rfl (fun w hw => ret_ok hw)⟩
instance mb_d2 (p q : R_api_Point) (i j k l : Nat) [h1 : MB p.X i] [h2 : MB p.Y j] [h3 : MB q.X k] [h4 : MB q.Y l] : MB (d2 p q) (2 * (i + j + k + l) + 5) := ⟨by
  unfold d2
  have := (inferInstance : MB ((p.X - q.X) * (p.X - q.X) + (p.Y - q.Y) * (p.Y - q.Y)) _).out
  omega⟩
instance sp_Linear (x y : Rat) : SpecC Tryz.prog 95 [vQ x, vQ y] (.agg (e_api_Quad (q_api_Quad ⟨x, y, 0⟩))) True := ⟨fun _ w => by
  refine fn_intro Tryz.func95 rfl Tryz.ntmps95 rfl ?_
  repeat (first | refine sX rfl rfl ?_ | (refine sS rfl rfl ?_ ?_; focus omega) | (refine sC rfl rfl ?_ ?_; focus (first | exact trivial | assumption | constructor <;> assumption | exact mb2 rfl rfl | exact mb4 rfl rfl rfl rfl)) | refine cX ?_ | refine cY ?_ | (refine sA rfl rfl ?_; intro _) | refine sT rfl ?_ | refine sW rfl rfl ?_ | refine sK rfl rfl ?_ | refine j_if rfl ?_ | refine j_else rfl ?_ | refine pkT rfl rfl rfl rfl ?_ | refine pkF rfl rfl rfl rfl ?_)
  exact wx_cell rfl rfl (fun w hw => ret_ok hw)⟩
instance sp_Eval (q : R_api_Quad) (t : Rat) : SpecC Tryz.prog 62 [.agg (e_api_Quad (q_api_Quad q)), vQ t] (vQ (q.C0 + t * (q.C1 + t * q.C2))) (M q.C0 ≤ 34359738368 ∧ M q.C1 ≤ 34359738368 ∧ M q.C2 ≤ 34359738368 ∧ M t ≤ 34359738368) := ⟨fun hp w => by
  obtain ⟨h1, h2, h3, h4⟩ := hp
  have := MB.mk h1
  have := MB.mk h2
  have := MB.mk h3
  have := MB.mk h4
  refine fn_intro Tryz.func62 rfl Tryz.ntmps62 rfl ?_
  repeat (first | refine sX rfl rfl ?_ | (refine sS rfl rfl ?_ ?_; focus omega) | (refine sC rfl rfl ?_ ?_; focus (first | exact trivial | assumption | constructor <;> assumption | exact mb2 rfl rfl | exact mb4 rfl rfl rfl rfl)) | refine cX ?_ | refine cY ?_ | (refine sA rfl rfl ?_; intro _) | refine sT rfl ?_ | refine sW rfl rfl ?_ | refine sK rfl rfl ?_ | refine j_if rfl ?_ | refine j_else rfl ?_ | refine pkT rfl rfl rfl rfl ?_ | refine pkF rfl rfl rfl rfl ?_)
  (refine jD 12 12 mixed (by kernel_rfl) ?_; (repeat (first | refine tX rfl rfl ?_ | (refine tS rfl rfl ?_ ?_; focus omega) | (refine tC rfl rfl ?_ ?_; focus (first | exact trivial | assumption | constructor <;> assumption | exact mb2 rfl rfl | exact mb4 rfl rfl rfl rfl)) | refine tW rfl rfl ?_ | refine tK rfl rfl ?_ | refine Go.Vt.hq (wl_pickT rfl rfl) rfl rfl ?_ | refine Go.Vt.hq (wl_pickF rfl rfl) rfl rfl ?_)); refine jh_nil ?_; (repeat (refine wn_new ?_; intro _)); refine jn_nil ?_)
  repeat (first | refine sX rfl rfl ?_ | (refine sS rfl rfl ?_ ?_; focus omega) | (refine sC rfl rfl ?_ ?_; focus (first | exact trivial | assumption | constructor <;> assumption | exact mb2 rfl rfl | exact mb4 rfl rfl rfl rfl)) | refine cX ?_ | refine cY ?_ | (refine sA rfl rfl ?_; intro _) | refine sT rfl ?_ | refine sW rfl rfl ?_ | refine sK rfl rfl ?_ | refine j_if rfl ?_ | refine j_else rfl ?_ | refine pkT rfl rfl rfl rfl ?_ | refine pkF rfl rfl rfl rfl ?_)
  exact wx_cell rfl rfl (fun w hw => ret_ok hw)⟩
/-- The linear function through two values. -/
def lin (t v u w : Rat) : R_api_Quad := if u - t = 0 then zR_api_Quad else ⟨v - (w - v) / (u - t) * t, (w - v) / (u - t), 0⟩
instance sp_Between (t v u x : Rat) : SpecC Tryz.prog 50 [vQ t, vQ v, vQ u, vQ x] (.tuple #[.agg (e_api_Quad (q_api_Quad (lin t v u x))), .int .i64 (if u - t = 0 then 6 else 0)]) (M t ≤ 34359738368 ∧ M v ≤ 34359738368 ∧ M u ≤ 34359738368 ∧ M x ≤ 34359738368) := ⟨fun hp w => by
  obtain ⟨h1, h2, h3, h4⟩ := hp
  have := MB.mk h1
  have := MB.mk h2
  have := MB.mk h3
  have := MB.mk h4
  refine fn_intro Tryz.func50 rfl Tryz.ntmps50 rfl ?_
  repeat (first | refine sX rfl rfl ?_ | (refine sS rfl rfl ?_ ?_; focus omega) | (refine sC rfl rfl ?_ ?_; focus (first | exact trivial | assumption | constructor <;> assumption | exact mb2 rfl rfl | exact mb4 rfl rfl rfl rfl)) | refine cX ?_ | refine cY ?_ | (refine sA rfl rfl ?_; intro _) | refine sT rfl ?_ | refine sW rfl rfl ?_ | refine sK rfl rfl ?_ | refine j_if rfl ?_ | refine j_else rfl ?_ | refine pkT rfl rfl rfl rfl ?_ | refine pkF rfl rfl rfl rfl ?_)
  (refine j_late [0, 1, 2, 3, 4, 5, 6, 7, 8, 9] [10, 11, 12] _ mixed (by kernel_rfl) (by decide) (List.Sublist.refl _) ?_; simp only [picks, List.getElem?_cons_succ, List.getElem?_cons_zero]; (repeat (first | refine tX rfl rfl ?_ | (refine tS rfl rfl ?_ ?_; focus omega) | (refine tC rfl rfl ?_ ?_; focus (first | exact trivial | assumption | constructor <;> assumption | exact mb2 rfl rfl | exact mb4 rfl rfl rfl rfl)) | refine tW rfl rfl ?_ | refine tK rfl rfl ?_ | refine Go.Vt.hq (wl_pickT rfl rfl) rfl rfl ?_ | refine Go.Vt.hq (wl_pickF rfl rfl) rfl rfl ?_)); refine jh_nil ?_; (repeat (first | (refine eA rfl rfl ?_; intro _) | refine eT rfl ?_ | refine eS rfl rfl ?_)); refine je_nil ?_)
  repeat (first | refine sX rfl rfl ?_ | (refine sS rfl rfl ?_ ?_; focus omega) | (refine sC rfl rfl ?_ ?_; focus (first | exact trivial | assumption | constructor <;> assumption | exact mb2 rfl rfl | exact mb4 rfl rfl rfl rfl)) | refine cX ?_ | refine cY ?_ | (refine sA rfl rfl ?_; intro _) | refine sT rfl ?_ | refine sW rfl rfl ?_ | refine sK rfl rfl ?_ | refine j_if rfl ?_ | refine j_else rfl ?_ | refine pkT rfl rfl rfl rfl ?_ | refine pkF rfl rfl rfl rfl ?_)
  by_cases hz : u - t = 0
  · unfold lin
    simp only [if_pos hz]
    repeat (first | refine sX rfl rfl ?_ | (refine sS rfl rfl ?_ ?_; focus omega) | (refine sC rfl rfl ?_ ?_; focus (first | exact trivial | assumption | constructor <;> assumption | exact mb2 rfl rfl | exact mb4 rfl rfl rfl rfl)) | refine cX ?_ | refine cY ?_ | (refine sA rfl rfl ?_; intro _) | refine sT rfl ?_ | refine sW rfl rfl ?_ | refine sK rfl rfl ?_ | refine j_if rfl ?_ | refine j_else rfl ?_ | refine pkT rfl rfl rfl rfl ?_ | refine pkF rfl rfl rfl rfl ?_)
    exact jx_ret_two rfl (wr_cell rfl) (resv_tmp rfl) (fun w hw => ret_ok hw)
  · unfold lin
    simp only [if_neg hz]
    repeat (first | refine sX rfl rfl ?_ | (refine sS rfl rfl ?_ ?_; focus omega) | (refine sC rfl rfl ?_ ?_; focus (first | exact trivial | assumption | constructor <;> assumption | exact mb2 rfl rfl | exact mb4 rfl rfl rfl rfl)) | refine cX ?_ | refine cY ?_ | (refine sA rfl rfl ?_; intro _) | refine sT rfl ?_ | refine sW rfl rfl ?_ | refine sK rfl rfl ?_ | refine j_if rfl ?_ | refine j_else rfl ?_ | refine pkT rfl rfl rfl rfl ?_ | refine pkF rfl rfl rfl rfl ?_)
    (refine jD 7 7 mixed (by kernel_rfl) ?_; (repeat (first | refine tX rfl rfl ?_ | (refine tS rfl rfl ?_ ?_; focus omega) | (refine tC rfl rfl ?_ ?_; focus (first | exact trivial | assumption | constructor <;> assumption | exact mb2 rfl rfl | exact mb4 rfl rfl rfl rfl)) | refine tW rfl rfl ?_ | refine tK rfl rfl ?_ | refine Go.Vt.hq (wl_pickT rfl rfl) rfl rfl ?_ | refine Go.Vt.hq (wl_pickF rfl rfl) rfl rfl ?_)); refine jh_nil ?_; (repeat (refine wn_new ?_; intro _)); refine jn_nil ?_)
    repeat (first | refine sX rfl rfl ?_ | (refine sS rfl rfl ?_ ?_; focus omega) | (refine sC rfl rfl ?_ ?_; focus (first | exact trivial | assumption | constructor <;> assumption | exact mb2 rfl rfl | exact mb4 rfl rfl rfl rfl)) | refine cX ?_ | refine cY ?_ | (refine sA rfl rfl ?_; intro _) | refine sT rfl ?_ | refine sW rfl rfl ?_ | refine sK rfl rfl ?_ | refine j_if rfl ?_ | refine j_else rfl ?_ | refine pkT rfl rfl rfl rfl ?_ | refine pkF rfl rfl rfl rfl ?_)
    exact jx_ret_two rfl (wr_cell rfl) (resv_tmp rfl) (fun w hw => ret_ok hw)⟩
end Go.Vt
/- Rows of structs, memory of the caller, calls that read or make memory, closures, slices and appends under the program logic. Conditions: those that each rule names. -/
set_option linter.unusedSimpArgs false
set_option linter.unusedVariables false
set_option linter.unusedSectionVars false
namespace Go.Vt
open Go.RowKit
section
variable {α : Type}
/-- The cells of a list's elements, one behind another. -/
def rowL (enc : α → Array Value) (xs : List α) : List Value := xs.flatMap fun x => (enc x).toList
/-- A row of elements, and what lies spare behind. -/
def row (enc : α → Array Value) (xs : List α) (sp : List Value) : Array Value := (rowL enc xs ++ sp).toArray
class EncC (enc : α → Array Value) (k : outParam Nat) : Prop where
  size : ∀ x, (enc x).size = k
  one : ∀ x, (enc x).all (·.oneCell') = true
def eI (k : IntKind) (z : Int) : Array Value := #[.int k z]
instance encI (k : IntKind) : EncC (eI k) 1 := ⟨fun _ => rfl, fun _ => by simp [eI, Value.oneCell']⟩
/-- The element at a place. -/
def gi [Inhabited α] (xs : List α) (i : Int) : α := xs.getD i.toNat default
theorem gi_eq [Inhabited α] {xs : List α} {i : Int} (h : i.toNat < xs.length) : gi xs i = xs[i.toNat] := by
  unfold gi
  rw [List.getD_eq_getElem?_getD, List.getElem?_eq_getElem h]
  rfl
theorem gi_nat [Inhabited α] {xs : List α} {i : Nat} (h : i < xs.length) : gi xs (i : Int) = xs[i] := gi_eq (i := (i : Int)) h
variable {enc : α → Array Value} {k : Nat}
theorem rowL_nil : rowL enc [] = [] := rfl
theorem rowL_append (xs ys : List α) : rowL enc (xs ++ ys) = rowL enc xs ++ rowL enc ys := by simp [rowL]
theorem rowL_len [h : EncC enc k] (xs : List α) : (rowL enc xs).length = xs.length * k := by
  induction xs with
  | nil => simp [rowL]
  | cons x xs ih =>
    have h1 := h.size x
    simp only [rowL, List.flatMap_cons, List.length_append, Array.length_toList, List.length_cons, h1, Nat.add_mul] at ih ⊢
    omega
theorem rowL_get [h : EncC enc k] (xs : List α) (i j : Nat) (hi : i < xs.length) (hj : j < k) : (rowL enc xs)[i * k + j]? = (enc xs[i])[j]? := by
  induction xs generalizing i with
  | nil => simp at hi
  | cons x xs ih =>
    have h1 := h.size x
    simp only [rowL, List.flatMap_cons] at ih ⊢
    cases i with
    | zero =>
      rw [Nat.zero_mul, Nat.zero_add, List.getElem?_append_left (by simp; omega)]
      simp
    | succ i =>
      rw [List.getElem?_append_right (by simp [Nat.add_mul]; omega)]
      have e : (i + 1) * k + j - (enc x).toList.length = i * k + j := by simp [Nat.add_mul, h1]; omega
      rw [e, ih i (by simpa using hi)]
      simp
theorem row_get [h : EncC enc k] (xs : List α) (sp : List Value) (i j : Nat) (hi : i < xs.length) (hj : j < k) : (row enc xs sp)[i * k + j]? = (enc xs[i])[j]? := by
  have hl := rowL_len (enc := enc) xs
  have hlt : i * k + j < xs.length * k := by
    have := Nat.mul_le_mul_right k (show i + 1 ≤ xs.length from hi)
    rw [Nat.add_mul] at this
    omega
  rw [row, List.getElem?_toArray, List.getElem?_append_left (by omega)]
  exact rowL_get xs i j hi hj
theorem row_size [h : EncC enc k] (xs : List α) (sp : List Value) : (row enc xs sp).size = xs.length * k + sp.length := by
  simp [row, rowL_len]
theorem ldv_row {P : Program} {T : TypeId} {f : Nat} {v : Value} [h : EncC enc k] {xs : List α} {sp : List Value} {i : Nat} (hi : i < xs.length) (hv : LdV P T (enc xs[i]) f v) : LdV P T (row enc xs sp) (i * k + f) v := by
  have hk := h.size xs[i]
  have hle := Nat.mul_le_mul_right k (show i + 1 ≤ xs.length from hi)
  rw [Nat.add_mul] at hle
  rcases hv with ⟨n, ha, hs, rfl⟩ | ⟨ho, hv⟩
  · refine .inl ⟨n, ha, by rw [row_size (k := k)]; omega, ?_⟩
    congr 1
    apply Array.ext_getElem?
    intro j
    rw [Array.getElem?_extract, Array.getElem?_extract]
    by_cases hj : j < n
    · rw [if_pos (by omega), if_pos (by rw [row_size (k := k)]; omega), Nat.add_assoc, row_get xs sp i (f + j) hi (by omega)]
    · rw [if_neg (by omega), if_neg (by rw [row_size (k := k)]; omega)]
  · have hf : f < k := by
      rcases Nat.lt_or_ge f k with h1 | h1
      · exact h1
      · rw [Array.getElem?_eq_none (by omega)] at hv
        cases hv
    exact .inr ⟨ho, by rw [row_get xs sp i f hi hf]; exact hv⟩
theorem spl_row [h : EncC enc k] (xs : List α) (sp : List Value) (i : Nat) (z : α) (hi : i < xs.length) : spl (row enc xs sp) (i * k) (enc z).toList = row enc (xs.set i z) sp := by
  have hle := Nat.mul_le_mul_right k (show i + 1 ≤ xs.length from hi)
  rw [Nat.add_mul] at hle
  have hz := h.size z
  apply Array.ext_getElem?
  intro j
  rw [spl_get _ _ _ _ (by rw [row_size (k := k)]; simp; omega)]
  simp only [Array.length_toList, hz]
  by_cases h1 : i * k ≤ j ∧ j < i * k + k
  · rw [if_pos h1]
    obtain ⟨m, rfl⟩ : ∃ m, j = i * k + m := ⟨j - i * k, by omega⟩
    rw [row_get _ sp i m (by simpa using hi) (by omega), Nat.add_sub_cancel_left]
    simp
  · rw [if_neg h1]
    rcases Nat.lt_or_ge j (xs.length * k) with h2 | h2
    · rcases Nat.eq_zero_or_pos k with h0 | h0
      · subst h0; simp at h2
      · obtain ⟨q, m, rfl, hm⟩ : ∃ q m, j = q * k + m ∧ m < k := ⟨j / k, j % k, by rw [Nat.mul_comm]; exact (Nat.div_add_mod j k).symm, Nat.mod_lt _ h0⟩
        have hq : q < xs.length := by
          rcases Nat.lt_or_ge q xs.length with h3 | h3
          · exact h3
          · have := Nat.mul_le_mul_right k h3
            omega
        have hqi : i ≠ q := by
          rintro rfl
          exact h1 ⟨by omega, by omega⟩
        rw [row_get xs sp q m hq hm, row_get _ sp q m (by simpa using hq) hm]
        simp [List.getElem_set_ne hqi]
    · rw [row, row, List.getElem?_toArray, List.getElem?_toArray, List.getElem?_append_right (by rw [rowL_len (k := k)]; exact h2), List.getElem?_append_right (by rw [rowL_len (k := k)]; simpa using h2)]
      simp [rowL_len (k := k)]
theorem row_one [h : EncC enc k] (xs : List α) : ∀ u ∈ rowL enc xs, u.oneCell' = true := fun u hu => by
  obtain ⟨x, _, hx⟩ := List.mem_flatMap.1 hu
  exact Array.all_eq_true_iff_forall_mem.1 (h.one x) u (Array.mem_toList_iff.1 hx)
end
/-- A block that was there when the call began. -/
class FoC (w0 : World) (b : Nat) (cs : outParam (Array Value)) (T : outParam TypeId) : Prop where
  out : ∃ fz, w0.heap[b]? = some (.cells cs T fz)
/-- A block that is known, the call's own or not. -/
class AtC (w0 : World) (L : List Blk) (b : Nat) (cs : outParam (Array Value)) (T : outParam TypeId) : Prop where
  out : ∀ w, Own w0 L w → ∃ fz, w.heap[b]? = some (.cells cs T fz)
instance (priority := high) atMem (w0 : World) (L : List Blk) (b : Nat) (cs : Array Value) (T : TypeId) [h : MemC b L cs T] : AtC w0 L b cs T := ⟨fun _ hw => ⟨(0, 0), (hw.mem _ h.out).2⟩⟩
instance (priority := low) atFo (w0 : World) (L : List Blk) (b : Nat) (cs : Array Value) (T : TypeId) [h : FoC w0 b cs T] : AtC w0 L b cs T := ⟨fun w hw => by
  obtain ⟨fz, hf⟩ := h.out
  exact ⟨fz, by rw [hw.ext.block b (lt_of_block hf)]; exact hf⟩⟩
instance (priority := low) sblA (X A B : List Blk) [h : SblC A B] : SblC A (X ++ B) := ⟨h.out.trans (List.sublist_append_right _ _)⟩
instance (priority := low) memSkip (b : Nat) (A L : List Blk) (cs : Array Value) (T : TypeId) [h : MemC b L cs T] : MemC b (A ++ L) cs T := ⟨List.mem_append_right _ h.out⟩
section
variable {P : Program} {w0 : World} {n : Nat} {ops : Array Oper} {L L' : List Blk} {E : Env}
variable {Q : Exit → Act → World → Prop} {rest : List Oper} {v : Value}
variable {d : Option Tmp} {ty : TypeId} {pos : String} {aft : Array Edge} {gd : Option (Nat × Bool)} {t : Tmp}
variable {x y : Operand} {T : TypeId}
theorem yl_loadA {T0 : TypeId} {b off : Nat} {cs : Array Value} (hx : Env.ev E x = some (.pointer (some ⟨b, off, none⟩))) (h : ∀ w, Own w0 L w → ∃ fz, w.heap[b]? = some (.cells cs T0 fz)) (hv : LdV P T cs off v) : Yl P w0 n L E ⟨d, .load T x, ty, pos, aft, gd⟩ v :=
  yl_run (fun _ => loadVar T ⟨b, off, none⟩) (fun a ha => by
    simp only [execOp, ha.ev hx, Instr.loadAt, Instr.sureAddr]
    rfl) (fun a w _ hw => by
      obtain ⟨fz, hf⟩ := h w hw
      exact run_loadVar hf hv)
instance (priority := low) yk_loadF {T0 : TypeId} {b off : Nat} {cs : Array Value} [IsC (evl E x) (.pointer (some ⟨b, off, none⟩))] [h : FoC w0 b cs T0] [hv : LdC P T cs off v] : YlC P w0 n L E (.load T x) v := ⟨fun _ _ _ _ _ => yl_loadA isE (atFo w0 L b cs T0).out hv.out⟩
section
variable {α : Type} [Inhabited α] {enc : α → Array Value} {k b f : Nat} {xs : List α} {sp : List Value} {T0 : TypeId} {i lo : Int}
instance ldEI {k : IntKind} {z : Int} [h : UndC P T (.int k)] : LdC P T (eI k z) 0 (.int k z) := ⟨ldv_one (by simp [oneB, h.out]) rfl⟩
instance ys_row0 [IsC (evl E x) (.pointer (some ⟨b, 0 + i.toNat * k, none⟩))] [h : AtC w0 L b (row enc xs sp) T0] [EncC enc k] [hv : LdC P T (enc (gi xs i)) 0 v] : YsC P w0 n L E (.load T x) v (i.toNat < xs.length) := ⟨fun hi _ _ _ _ _ => yl_loadA isE h.out (by
  have h1 := ldv_row (P := P) (T := T) (v := v) (enc := enc) (k := k) (sp := sp) (f := 0) hi (by rw [← gi_eq hi]; exact hv.out)
  rwa [Nat.add_zero, ← Nat.zero_add (i.toNat * k)] at h1)⟩
instance ys_rowF [IsC (evl E x) (.pointer (some ⟨b, 0 + i.toNat * k + f, none⟩))] [h : AtC w0 L b (row enc xs sp) T0] [EncC enc k] [hv : LdC P T (enc (gi xs i)) f v] : YsC P w0 n L E (.load T x) v (i.toNat < xs.length) := ⟨fun hi _ _ _ _ _ => yl_loadA isE h.out (by
  have h1 := ldv_row (P := P) (T := T) (v := v) (enc := enc) (k := k) (sp := sp) (f := f) hi (by rw [← gi_eq hi]; exact hv.out)
  rwa [← Nat.zero_add (i.toNat * k)] at h1)⟩
/-- In a part of a slice. -/
instance (priority := high) ys_row1 [IsC (evl E x) (.pointer (some ⟨b, 0 + lo.toNat * k + i.toNat * k, none⟩))] [h : AtC w0 L b (row enc xs sp) T0] [EncC enc k] [hv : LdC P T (enc (gi xs (lo + i))) 0 v] : YsC P w0 n L E (.load T x) v (0 ≤ lo ∧ 0 ≤ i ∧ (lo + i).toNat < xs.length) := ⟨fun hi _ _ _ _ _ => yl_loadA isE h.out (by
  have h1 := ldv_row (P := P) (T := T) (v := v) (enc := enc) (k := k) (sp := sp) (f := 0) hi.2.2 (by rw [← gi_eq hi.2.2]; exact hv.out)
  rw [show (lo + i).toNat = lo.toNat + i.toNat by omega, Nat.add_mul, Nat.add_zero, ← Nat.zero_add (lo.toNat * k)] at h1
  exact h1)⟩
/-- What a value holds for an element. -/
class ValC {α : Type} (enc : α → Array Value) (u : Value) (z : outParam α) : Prop where
  out : u.cells = enc z
instance valI {k : IntKind} {z : Int} : ValC (eI k) (.int k z) z := ⟨rfl⟩
instance valA (enc : α → Array Value) (z : α) : ValC enc (.agg (enc z)) z := ⟨rfl⟩
/-- An element is turned. -/
theorem sR {u : Value} {z : α} [hx : IsC (evl E x) (.pointer (some ⟨b, 0 + i.toNat * k, none⟩))] [hy : IsC (evl E y) u] [hk : SizeC P T k] [MemC b L (row enc xs sp) T0] [he : EncC enc k] [hu : ValC enc u z] [hU : UpdC b (row enc (xs.set i.toNat z) sp) L (row enc xs sp) T0 L']
    (hg : guardB ops E gd = some true) (s : i.toNat < xs.length) (h : JO P w0 n ops Q rest E L') : JO P w0 n ops Q (⟨none, .store T x y, ty, pos, aft, gd⟩ :: rest) E L := by
  have h1 := he.size z
  have hle := Nat.mul_le_mul_right k (show i.toNat + 1 ≤ xs.length from s)
  rw [Nat.add_mul] at hle
  exact jo_store (u := u) k isE isE hU.out hk.out (by rw [hu.out, h1]) (by rw [row_size (k := k)]; exact Nat.ble_eq_true_of_le (by omega)) (by rw [hu.out]; exact he.one z) (by rw [hu.out, Nat.zero_add]; exact spl_row xs sp _ z s) hg rfl h
end
/-- A part of a struct is turned. -/
class StC (P : Program) (T : TypeId) (cs : Array Value) (off : Nat) (u : Value) (cs' : outParam (Array Value)) : Prop where
  size : (P.info? T).map (·.size) = some u.cells.size
  fit : Nat.ble (off + u.cells.size) cs.size = true
  one : u.cells.all (·.oneCell') = true
  out : spl cs off u.cells.toList = cs'
theorem sF {T0 : TypeId} {b off : Nat} {cs cs' : Array Value} {u : Value} [hx : IsC (evl E x) (.pointer (some ⟨b, off, none⟩))] [hy : IsC (evl E y) u] [MemC b L cs T0] [hs : StC P T cs off u cs'] [hU : UpdC b cs' L cs T0 L'] (hg : guardB ops E gd = some true)
    (h : JO P w0 n ops Q rest E L') : JO P w0 n ops Q (⟨none, .store T x y, ty, pos, aft, gd⟩ :: rest) E L := jo_store (u := u) u.cells.size isE isE hU.out hs.size rfl hs.fit hs.one hs.out hg rfl h
theorem eF {K : Env → List Blk → Prop} {Lw : List Blk} {T0 : TypeId} {b off : Nat} {cs cs' : Array Value} {u : Value} [hx : IsC (evl E x) (.pointer (some ⟨b, off, none⟩))] [hy : IsC (evl E y) u] [MemC b L cs T0] [hs : StC P T cs off u cs'] [hU : UpdC b cs' L cs T0 L'] (hg : guardB ops E gd = some true) [hw : SblC Lw L']
    (h : JE P w0 n ops Lw K rest E L') : JE P w0 n ops Lw K (⟨none, .store T x y, ty, pos, aft, gd⟩ :: rest) E L := je_store (u := u) u.cells.size isE isE hU.out hs.size rfl hs.fit hs.one hs.out hg hw.out h
class SpecM (P : Program) (w0 : World) (L : List Blk) (f : FuncId) (args : List Value) (v : outParam Value) (pre : outParam Prop) : Prop where
  out : pre → ∀ w, Own w0 L w → Calls P f args.toArray w (Ret v w)
instance (priority := low) specM_C {f : FuncId} {args : List Value} {pre : Prop} [h : SpecC P f args v pre] : SpecM P w0 L f args v pre := ⟨fun hp w _ => h.out hp w⟩
instance (priority := low) yc_callM {f : FuncId} {xs : List Operand} {l : List Value} {ats : Array TypeId} {pre : Prop} [hf : CallC P f] [IsC (evsl E xs) l] [h : SpecM P w0 L f l v pre] : YcC P w0 n L E (.call ⟨.value (.func f), xs.toArray, ats⟩) v pre := ⟨fun hp _ _ _ _ _ => yl_call hf.out isS (h.out hp)⟩
theorem yl_makeFunc {f : Fn} {xs : List Operand} {l : List Value} (hl : Env.evs E xs = some l) : Yl P w0 n L E ⟨d, .makeFunc f #[] xs.toArray, ty, pos, aft, gd⟩ (.func f #[] l.toArray) :=
  yl_run (fun _ => Instr.makeFunc f #[] l.toArray) (fun a ha => by
    have h1 : xs.toArray.map a.eval = l.toArray := by rw [← ha.evs xs l hl]; simp
    simp only [execOp, h1, Array.map_empty]) (fun a w _ _ => by simp [Instr.makeFunc])
instance yk_makeFunc {f : Fn} {xs : List Operand} {l : List Value} [IsC (evsl E xs) l] : YlC P w0 n L E (.makeFunc f #[] xs.toArray) (.func f #[] l.toArray) := ⟨fun _ _ _ _ _ => yl_makeFunc isS⟩
/-- Two lists, one behind the other. -/
class AppC (a b : List Value) (c : outParam (List Value)) : Prop where out : a ++ b = c
instance appN (b : List Value) : AppC [] b b := ⟨rfl⟩
instance appS (x : Value) (a b c : List Value) [h : AppC a b c] : AppC (x :: a) b (x :: c) := ⟨by rw [← h.out]; rfl⟩
theorem run_callcl {f : FuncId} {g : Operand} {xs : List Operand} {l cap c : List Value} {ats : Array TypeId} {a : Act} {w : World} (hf : callableB P f = true) (ha : Rep n E a) (hg : Env.ev E g = some (.func (.func f) #[] cap.toArray)) (hl : Env.evs E xs = some l) (hc : l ++ cap = c) :
    (execOp a.eval ⟨d, .call ⟨.value g, xs.toArray, ats⟩, ty, pos, aft, gd⟩).run P w = .ok (.enter f c.toArray) w := by
  have h1 : xs.toArray.map a.eval = l.toArray := by rw [← ha.evs xs l hl]; simp
  simp only [execOp, resolve, h1, ha.ev hg, Deferred.ofValue, Sem.run_bind, Sem.run_pure, Result.andThen, invoke]
  rw [show (#[] ++ l.toArray : Array Value) = l.toArray from Array.empty_append]
  have h2 : l.toArray ++ cap.toArray = c.toArray := by rw [← hc]; simp
  rw [h2]
  exact run_callFunc hf _ _
instance yc_callcl {f : FuncId} {u : Tmp} {xs : List Operand} {l cap c : List Value} {ats : Array TypeId} {pre : Prop} [hu : IsC (evl E (.tmp u)) (.func (.func f) #[] cap.toArray)] [hf : CallC P f] [IsC (evsl E xs) l] [hc : AppC l cap c] [h : SpecM P w0 L f c v pre] : YcC P w0 n L E (.call ⟨.value (.tmp u), xs.toArray, ats⟩) v pre := ⟨fun hp _ _ _ _ _ => ⟨fun a w ha hw => by
  unfold calm
  rw [run_callcl hf.out ha isE isS hc.out]
  exact ⟨rfl, h.out hp w hw⟩⟩⟩
def RetM (S : Type) (val : S → Value) (mem : S → List Blk) (w : World) (e : Ending) (w' : World) : Prop := ∃ s, e = .returned (val s) ∧ Own w (mem s) w'
theorem Own.join {w w' : World} {G : List Blk} (h : Own w0 L w) (k : Own w G w') : Own w0 (G ++ L) w' := by
  have h' := h.to k.ext
  refine ⟨h'.ext, fun e he => ?_, ?_⟩
  · rcases List.mem_append.1 he with he | he
    · exact ⟨Nat.le_trans h.ext.size (k.mem e he).1, (k.mem e he).2⟩
    · exact h'.mem e he
  · rw [List.map_append]
    refine List.nodup_append.2 ⟨k.nd, h.nd, fun a ha b hb hab => ?_⟩
    obtain ⟨e1, h1, rfl⟩ := List.mem_map.1 ha
    obtain ⟨e2, h2, rfl⟩ := List.mem_map.1 hb
    have h3 := (k.mem e1 h1).1
    have h4 := h.lt h2
    omega
class SpecR (P : Program) (w0 : World) (L : List Blk) (f : FuncId) (args : List Value) (S : outParam Type) (val : outParam (S → Value)) (mem : outParam (S → List Blk)) (pre : outParam Prop) : Prop where
  out : pre → ∀ w, Own w0 L w → Calls P f args.toArray w (RetM S val mem w)
theorem wo_callM {S : Type} {val : S → Value} {mem : S → List Blk} {f : FuncId} {xs : List Operand} {l : List Value} {ats : Array TypeId} (hl : Env.evs E xs = some l) (hf : callableB P f = true) (hc : ∀ w, Own w0 L w → Calls P f l.toArray w (RetM S val mem w))
    (hg : guardB ops E gd = some true) (hd : Nat.blt t n = true) (h : ∀ s, JO P w0 n ops Q rest ((t, val s) :: E) (mem s ++ L)) : JO P w0 n ops Q (⟨some t, .call ⟨.value (.func f), xs.toArray, ats⟩, ty, pos, aft, gd⟩ :: rest) E L :=
  jo_c (S := S) (o := ⟨some t, .call ⟨.value (.func f), xs.toArray, ats⟩, ty, pos, aft, gd⟩) hg hd val (fun s => mem s ++ L) (fun _ _ ha => run_call hf ha hl)
    (fun w hw => (hc w hw).mono fun _ _ ⟨s, he, ho⟩ => ⟨s, he, hw.join ho⟩) h
theorem sN {S : Type} {val : S → Value} {mem : S → List Blk} {f : FuncId} {xs : List Operand} {l : List Value} {ats : Array TypeId} {pre : Prop} [hf : CallC P f] [hl : IsC (evsl E xs) l] [hc : SpecR P w0 L f l S val mem pre]
    (hg : guardB ops E gd = some true) (hd : Nat.blt t n = true) (s : pre) (h : ∀ s, JO P w0 n ops Q rest ((t, val s) :: E) (mem s ++ L)) : JO P w0 n ops Q (⟨some t, .call ⟨.value (.func f), xs.toArray, ats⟩, ty, pos, aft, gd⟩ :: rest) E L := wo_callM isS hf.out (hc.out s) hg hd h
theorem eN {K : Env → List Blk → Prop} {Lw : List Blk} {S : Type} {val : S → Value} {mem : S → List Blk} {f : FuncId} {xs : List Operand} {l : List Value} {ats : Array TypeId} {pre : Prop} [hf : CallC P f] [hl : IsC (evsl E xs) l] [hc : SpecR P w0 L f l S val mem pre]
    (hg : guardB ops E gd = some true) (hd : Nat.blt t n = true) [hw : SblC Lw L] (s : pre) (h : ∀ s, JE P w0 n ops Lw K rest ((t, val s) :: E) (mem s ++ L)) : JE P w0 n ops Lw K (⟨some t, .call ⟨.value (.func f), xs.toArray, ats⟩, ty, pos, aft, gd⟩ :: rest) E L :=
  je_c (S := S) (o := ⟨some t, .call ⟨.value (.func f), xs.toArray, ats⟩, ty, pos, aft, gd⟩) hg hd val (fun s => mem s ++ L) (fun _ _ ha => run_call hf.out ha isS)
    (fun w hw' => (hc.out s w hw').mono fun _ _ ⟨s, he, ho⟩ => ⟨s, he, hw'.join ho⟩) (fun _ => weak_sub (hw.out.trans (List.sublist_append_right _ _))) h
/-- The rest of a call's value operations, behind all others. -/
theorem eX {K : Env → List Blk → Prop} {Lw : List Blk} {op : Op} [h : YlC P w0 n L E op v] (hg : guardB ops E gd = some true) (hd : Nat.blt t n = true) [hw : SblC Lw L] (k : JE P w0 n ops Lw K rest ((t, v) :: E) L) : JE P w0 n ops Lw K (⟨some t, op, ty, pos, aft, gd⟩ :: rest) E L :=
  ⟨hg, hd, Unit, fun _ => v, fun _ => L, fun a w ha hw => by
    have h1 := (h.out (some t) ty pos aft gd).out a w ha hw
    unfold calm at h1
    generalize (execOp a.eval ⟨some t, op, ty, pos, aft, gd⟩).run P w = r at *
    cases r with
    | ok x w' =>
      cases x <;> simp only [calmUpon] at h1 <;> simp only [Hap]
      case value u => exact ⟨(), h1.1, hw.to h1.2⟩
      case skip => exact ⟨(), h1.1.symm, hw.to h1.2⟩
      case enter f args =>
        obtain ⟨rfl, h2⟩ := h1
        exact h2.mono fun e w'' ⟨he, hx⟩ => ⟨_, he, (), rfl, hw.to hx⟩
    | halt x w' => simp only [calmUpon] at h1, fun _ => weak_sub hw.out, fun _ => k⟩
theorem sB {len : Nat} {ps : List (Nat × Operand)} {l : List (Nat × Value)} {cs : Array Value} {e : TypeId} [hp : IsC (evpl E ps) l] [hb : BsC P T len l cs e] (hg : guardB ops E gd = some true) (hd : Nat.blt t n = true)
    (h : ∀ b, JO P w0 n ops Q rest ((t, .slice (some ⟨b, 0, none⟩) len len) :: E) (⟨b, cs, e⟩ :: L)) : JO P w0 n ops Q (⟨some t, .buildSlice T len ps.toArray, ty, pos, aft, gd⟩ :: rest) E L := wo_bslice isP hg hd h
theorem eB {K : Env → List Blk → Prop} {Lw : List Blk} {len : Nat} {ps : List (Nat × Operand)} {l : List (Nat × Value)} {cs : Array Value} {e : TypeId} [hp : IsC (evpl E ps) l] [hb : BsC P T len l cs e] (hg : guardB ops E gd = some true) (hd : Nat.blt t n = true) [hw : SblC Lw L]
    (h : ∀ b, JE P w0 n ops Lw K rest ((t, .slice (some ⟨b, 0, none⟩) len len) :: E) (⟨b, cs, e⟩ :: L)) : JE P w0 n ops Lw K (⟨some t, .buildSlice T len ps.toArray, ty, pos, aft, gd⟩ :: rest) E L := je_bslice isP hg hd hw.out h
/-- A part of a slice. -/
instance ys_slice2 {e s b o l c : Nat} {i m : Int} {z1 z2 : Operand} [IsC (evl E x) (.slice (some ⟨b, o, none⟩) l c)] [hy : IsC (evl E z1) (.int .i64 i)] [hz : IsC (evl E z2) (.int .i64 m)] [h : UndC P T (.slice e)] [hs : SizeC P e s] : YsC P w0 n L E (.slice T x (some z1) (some z2) none) (.slice (some ⟨b, o + i.toNat * s, none⟩) (m - i).toNat (c - i).toNat) (0 ≤ i ∧ i ≤ m ∧ m ≤ c ∧ i < c) := ⟨fun hi d ty pos aft gd =>
  yl_run (fun _ => Instr.sliceAt T (.slice (some ⟨b, o, none⟩) l c) (some (.int .i64 i)) (some (.int .i64 m)) none) (fun a ha => by simp only [execOp, ha.ev (isE (x := x)), Option.map_none, Option.map_some, ha.ev (isE (x := z1)), ha.ev (isE (x := z2))]) (fun a w _ _ => by
    have h1 : (0 : Int) ≤ m := by omega
    have h2 : i ≤ ((m.toNat : Nat) : Int) := by omega
    have h3 : ¬ c = i.toNat := by omega
    have h4 : m.toNat - i.toNat = (m - i).toNat := by omega
    have h5 : c - i.toNat = ((c : Int) - i).toNat := by omega
    have h6 : max m 0 = m := by omega
    have h7 : ¬ m < i := by omega
    simp [Instr.sliceAt, Instr.slice, run_underlying h.out, Instr.sliceBounds, Instr.sliceBound, asIntOf, hi.1, h1, h2, hi.2.2.1, run_sizeOf hs.out, h3, h4, h5, h6, h7, addr_add])⟩
end
/-- A block taken out of the list. -/
class DelC (b : Nat) (L : List Blk) (cs : outParam (Array Value)) (T : outParam TypeId) (L1 : outParam (List Blk)) : Prop where
  out : L.Perm (⟨b, cs, T⟩ :: L1)
instance (priority := high) delHere (b : Nat) (cs : Array Value) (T : TypeId) (L : List Blk) : DelC b (⟨b, cs, T⟩ :: L) cs T L := ⟨.refl _⟩
instance (priority := low) delThere (b : Nat) (e : Blk) (cs : Array Value) (T : TypeId) (L L1 : List Blk) [h : DelC b L cs T L1] : DelC b (e :: L) cs T (e :: L1) := ⟨(h.out.cons e).trans (.swap _ _ _)⟩
section
variable {P : Program} {w0 : World} {n : Nat} {ops : Array Oper} {L L1 : List Blk} {E : Env}
variable {Q : Exit → Act → World → Prop} {rest : List Oper}
variable {ty : TypeId} {pos : String} {aft : Array Edge} {gd : Option (Nat × Bool)} {t : Tmp} {x y : Operand}
theorem info_some {T : TypeId} {β : Type} {g : TypeInfo → β} {v : β} (h : (P.info? T).map g = some v) : ∃ i, P.info? T = some i ∧ g i = v := by
  cases hi : P.info? T with
  | none => simp [hi] at h
  | some i => exact ⟨i, rfl, by simpa [hi] using h⟩
/-- What an append onto a row of the call's own comes to. -/
theorem run_app {S T : TypeId} {b len c b2 off2 m c2 k B : Nat} {xs sp news : List Value} {cs2 : Array Value} {z : Value} {zc : Array Value} {w : World} (hT : P.underlying S = some (.slice T)) (hz : (P.info? T).bind (·.zero) = some z) (hzc : z.cells = zc) (hk : (P.info? T).map (·.size) = some k) (hB : (P.info? T).map (·.bytes) = some B)
    (hzk : zc.size = k) (hw : Own w0 L w) (hd : L.Perm (⟨b, (xs ++ sp).toArray, T⟩ :: L1)) (hx : xs.length = len * k) (hs : sp.length = (c - len) * k) (hc : len ≤ c) (h2 : ∃ T2 fz, w.heap[b2]? = some (.cells cs2 T2 fz)) (hn : news.length = m * k) (hcs : ∀ j u, news[j]? = some u → cs2[off2 + j]? = some u)
    (h1 : ∀ u ∈ news, u.oneCell' = true) (hbytes : (len + m) * B ≤ 140737488355328) (h63 : len + m ≤ 9223372036854775807) :
    ∃ s : { s : Nat × Nat × List Value // len + m ≤ s.2.1 ∧ s.2.2.length = (s.2.1 - (len + m)) * k }, ∃ w', (Builtin.append_ #[S, S] ty #[.slice (some ⟨b, 0, none⟩) len c, .slice (some ⟨b2, off2, none⟩) m c2]).run P w = .ok (.slice (some ⟨s.1.1, 0, none⟩) (len + m) s.1.2.1) w' ∧ Own w0 (⟨s.1.1, (xs ++ news ++ s.1.2.2).toArray, T⟩ :: L1) w' := by
  have hwp := hw.perm hd
  have hb := (hwp.mem _ (.head _)).2
  obtain ⟨i, hi, hik⟩ := info_some hk
  obtain ⟨i', hi', hiB⟩ := info_some hB
  obtain rfl : i' = i := Option.some.inj (hi'.symm.trans hi)
  have hz' : i'.zero = some z := by simpa [hi] using hz
  obtain ⟨T2, fz, h2⟩ := h2
  have hnew : ∀ j u, news[j]? = some u → w.cell? ((⟨b2, off2, none⟩ : Addr).add j) = some u := fun j u hu => by rw [addr_add, cell_block h2]; exact hcs j u hu
  by_cases hroom : len + m ≤ c
  · have hle : (c - len) * k = (c - (len + m)) * k + m * k := by rw [← Nat.add_mul, show c - (len + m) + m = c - len by omega]
    have hr := run_append_room w S ty T i' hT hi b len c (xs ++ sp).toArray hb ⟨b2, off2, none⟩ m c2 news (by rw [hik]; exact hn) hnew h1 hroom (by rw [hik]; simp; omega)
    refine ⟨⟨(b, c, sp.drop (m * k)), hroom, by rw [List.length_drop]; simp only; omega⟩, _, hr, ?_⟩
    have e1 : ((xs ++ sp).toArray.toList.take (len * i'.size) ++ news ++ (xs ++ sp).toArray.toList.drop (len * i'.size + news.length)) = xs ++ news ++ sp.drop (m * k) := by
      rw [hik, hn, ← hx]
      simp only [List.take_left', List.drop_append, List.append_assoc]
      rw [List.drop_eq_nil_of_le (by omega), Nat.add_sub_cancel_left]
      simp
    rw [e1]
    refine hwp.turn (b := b) (cs := (xs ++ sp).toArray) (T := T) .here ?_
    have hsz : b < w.heap.size := lt_of_block hb
    refine ⟨by simp [World.setRow], by simp [World.setRow], by simp [World.setRow], by simp [World.setRow], fun q hq => ?_, ?_⟩
    · simp [World.setRow, Array.getElem?_modify, Ne.symm hq]
    · simp [World.setRow, Array.getElem?_modify, hb]
  · have hold : ∀ j u, xs[j]? = some u → w.cell? ((⟨b, 0, none⟩ : Addr).add j) = some u := fun j u hu => by
      rw [addr_add, cell_block hb, Nat.zero_add, List.getElem?_toArray, List.getElem?_append_left (by
        rcases Nat.lt_or_ge j xs.length with h | h
        · exact h
        · rw [List.getElem?_eq_none h] at hu; cases hu)]
      exact hu
    have hr := run_append_grow w S ty T i' z hT hi hz' ⟨b, 0, none⟩ len c xs (by rw [hik]; exact hx) hold ⟨b2, off2, none⟩ m c2 news (by rw [hik]; exact hn) hnew (by omega) (by omega) (growslice_fits (by omega) (by rw [hiB]; exact hbytes))
    have hge := grownCap_ge w (len + m) c T
    refine ⟨⟨(w.heap.size, grownCap w (len + m) c T, (Builtin.zeroCells z.cells (grownCap w (len + m) c T - (len + m))).toList), hge, by rw [Array.length_toList, size_zeroCells, hzc, hzk]⟩, _, hr, ?_⟩
    have hL1 : Own w0 L1 w := hwp.sub (List.sublist_cons_self _ _)
    have h3 := (hL1.to (Ext.drew w)).alloc (xs.toArray ++ news.toArray ++ Builtin.zeroCells z.cells (grownCap w (len + m) c T - (len + m))) T
    have e2 : xs.toArray ++ news.toArray ++ Builtin.zeroCells z.cells (grownCap w (len + m) c T - (len + m)) = (xs ++ news ++ (Builtin.zeroCells z.cells (grownCap w (len + m) c T - (len + m))).toList).toArray := by
      apply Array.ext'
      simp
    rw [e2] at h3
    rw [e2]
    exact h3
theorem run_app_nil {S T : TypeId} {b2 off2 m c2 k B : Nat} {news : List Value} {cs2 : Array Value} {z : Value} {zc : Array Value} {w : World} (hT : P.underlying S = some (.slice T)) (hz : (P.info? T).bind (·.zero) = some z) (hzc : z.cells = zc) (hk : (P.info? T).map (·.size) = some k) (hB : (P.info? T).map (·.bytes) = some B)
    (hzk : zc.size = k) (hw : Own w0 L w) (h2 : ∃ T2 fz, w.heap[b2]? = some (.cells cs2 T2 fz)) (hn : news.length = m * k) (hcs : ∀ j u, news[j]? = some u → cs2[off2 + j]? = some u)
    (hm : 0 < m) (hbytes : m * B ≤ 140737488355328) (h63 : m ≤ 9223372036854775807) :
    ∃ s : { s : Nat × Nat × List Value // m ≤ s.2.1 ∧ s.2.2.length = (s.2.1 - m) * k }, ∃ w', (Builtin.append_ #[S, S] ty #[.slice none 0 0, .slice (some ⟨b2, off2, none⟩) m c2]).run P w = .ok (.slice (some ⟨s.1.1, 0, none⟩) m s.1.2.1) w' ∧ Own w0 (⟨s.1.1, (news ++ s.1.2.2).toArray, T⟩ :: L) w' := by
  obtain ⟨i, hi, hik⟩ := info_some hk
  obtain ⟨i', hi', hiB⟩ := info_some hB
  obtain rfl : i' = i := Option.some.inj (hi'.symm.trans hi)
  have hz' : i'.zero = some z := by simpa [hi] using hz
  obtain ⟨T2, fz, h2⟩ := h2
  have hnew : ∀ j u, news[j]? = some u → w.cell? ((⟨b2, off2, none⟩ : Addr).add j) = some u := fun j u hu => by rw [addr_add, cell_block h2]; exact hcs j u hu
  have hr := run_append_nil w S ty T i' z hT hi hz' ⟨b2, off2, none⟩ m c2 news (by rw [hik]; exact hn) hnew hm (by omega) (by rw [hiB]; omega)
  have hge := grownCap_ge w m 0 T
  refine ⟨⟨(w.heap.size, grownCap w m 0 T, (Builtin.zeroCells z.cells (grownCap w m 0 T - m)).toList), hge, by rw [Array.length_toList, size_zeroCells, hzc, hzk]⟩, _, hr, ?_⟩
  have h3 := (hw.to (Ext.drew w)).alloc (news.toArray ++ Builtin.zeroCells z.cells (grownCap w m 0 T - m)) T
  have e2 : news.toArray ++ Builtin.zeroCells z.cells (grownCap w m 0 T - m) = (news ++ (Builtin.zeroCells z.cells (grownCap w m 0 T - m)).toList).toArray := by
    apply Array.ext'
    simp
  rw [e2] at h3
  rw [e2]
  exact h3
theorem run_appop {S : TypeId} {vx vy : Value} {a : Act} {w w' : World} {r : Value} {d : Option Tmp} (ha : Rep n E a) (hx : Env.ev E x = some vx) (hy : Env.ev E y = some vy) (hr : (Builtin.append_ #[S, S] ty #[vx, vy]).run P w = .ok r w') :
    (execOp a.eval ⟨d, .call ⟨.builtin .append, #[x, y], #[S, S]⟩, ty, pos, aft, gd⟩).run P w = .ok (.value r) w' := by
  have h1 : (#[x, y] : Array Operand).map a.eval = #[vx, vy] := by simp [ha.ev hx, ha.ev hy]
  have h2 : ∀ cs : Array Bool, (builtin .append #[S, S] ty cs #[vx, vy]).run P w = .ok (.value r) w' := fun cs => by
    show Sem.run P (do pure (Next.value (← Builtin.append_ #[S, S] ty #[vx, vy])) : Sem Next) w = _
    rw [Sem.run_bind, hr]
    rfl
  simp only [execOp, resolve, h1, Sem.run_bind, Sem.run_pure, Result.andThen, invoke]
  exact h2 _
section
variable {α : Type} {enc : α → Array Value} {S T T2 : TypeId} {b c b2 m c2 k B : Nat} {xs ys : List α} {sp : List Value} {z : Value} {zc : Array Value}
variable [hx : IsC (evl E x) (.slice (some ⟨b, 0, none⟩) xs.length c)] [hy : IsC (evl E y) (.slice (some ⟨b2, 0, none⟩) m c2)] [hd : DelC b L (row enc xs sp) T L1] [h2 : AtC w0 L b2 (row enc ys []) T2] [hT : UndC P S (.slice T)] [hz : ZeroC P T z zc] [he : EncC enc k] [hk : SizeC P T k] [hB : BytesC P T B]
include hx hy hd h2 hT hz he hk hB
theorem app_run (hm : ys.length = m) (hc : xs.length ≤ c ∧ sp.length = (c - xs.length) * k) (hzk : zc.size = k) (hb : (xs.length + m) * B ≤ 140737488355328 ∧ xs.length + m ≤ 9223372036854775807) (a : Act) (w : World) (ha : Rep n E a) (hw : Own w0 L w) :
    ∃ s : { s : Nat × Nat × List Value // xs.length + m ≤ s.2.1 ∧ s.2.2.length = (s.2.1 - (xs.length + m)) * k }, ∃ w', (execOp a.eval ⟨some t, .call ⟨.builtin .append, #[x, y], #[S, S]⟩, ty, pos, aft, gd⟩).run P w = .ok (.value (.slice (some ⟨s.1.1, 0, none⟩) (xs.length + m) s.1.2.1)) w' ∧ Own w0 (⟨s.1.1, row enc (xs ++ ys) s.1.2.2, T⟩ :: L1) w' := by
  obtain ⟨fz, hf⟩ := h2.out w hw
  obtain ⟨s, w', hr, ho⟩ := run_app (ty := ty) (b := b) (len := xs.length) (c := c) (b2 := b2) (off2 := 0) (m := m) (c2 := c2) (xs := rowL enc xs) (sp := sp) (news := rowL enc ys) hT.out hz.out hz.cells hk.out hB.out hzk hw hd.out (rowL_len xs) hc.2 hc.1 ⟨T2, fz, hf⟩ (by rw [rowL_len (k := k), hm]) (fun j u hu => by rw [Nat.zero_add]; simpa [row] using hu) (row_one ys) hb.1 hb.2
  refine ⟨s, w', run_appop ha isE isE hr, ?_⟩
  rw [row, rowL_append]
  exact ho
theorem sP (hg : guardB ops E gd = some true) (hd' : Nat.blt t n = true) (hm : ys.length = m) (hc : xs.length ≤ c ∧ sp.length = (c - xs.length) * k) (hzk : zc.size = k) (hb : (xs.length + m) * B ≤ 140737488355328 ∧ xs.length + m ≤ 9223372036854775807)
    (h : ∀ b' c' sp', xs.length + m ≤ c' → sp'.length = (c' - (xs.length + m)) * k → JO P w0 n ops Q rest ((t, .slice (some ⟨b', 0, none⟩) (xs.length + m) c') :: E) (⟨b', row enc (xs ++ ys) sp', T⟩ :: L1)) : JO P w0 n ops Q (⟨some t, .call ⟨.builtin .append, #[x, y], #[S, S]⟩, ty, pos, aft, gd⟩ :: rest) E L :=
  jo_w (L' := { s : Nat × Nat × List Value // xs.length + m ≤ s.2.1 ∧ s.2.2.length = (s.2.1 - (xs.length + m)) * k }) (o := ⟨some t, .call ⟨.builtin .append, #[x, y], #[S, S]⟩, ty, pos, aft, gd⟩) hg hd' (fun s => .slice (some ⟨s.1.1, 0, none⟩) (xs.length + m) s.1.2.1) (fun s => ⟨s.1.1, row enc (xs ++ ys) s.1.2.2, T⟩ :: L1)
    (fun a w ha hw => by
      obtain ⟨s, w', hr, ho⟩ := app_run (hx := hx) (hy := hy) (hd := hd) (h2 := h2) (hT := hT) (hz := hz) (he := he) (hk := hk) (hB := hB) hm hc hzk hb a w ha hw
      exact ⟨s, w', .inl hr, ho⟩) (fun s => h _ _ _ s.2.1 s.2.2)
theorem eP {K : Env → List Blk → Prop} {Lw : List Blk} (hg : guardB ops E gd = some true) (hd' : Nat.blt t n = true) [hw : SblC Lw L1] (hm : ys.length = m) (hc : xs.length ≤ c ∧ sp.length = (c - xs.length) * k) (hzk : zc.size = k) (hb : (xs.length + m) * B ≤ 140737488355328 ∧ xs.length + m ≤ 9223372036854775807)
    (h : ∀ b' c' sp', xs.length + m ≤ c' → sp'.length = (c' - (xs.length + m)) * k → JE P w0 n ops Lw K rest ((t, .slice (some ⟨b', 0, none⟩) (xs.length + m) c') :: E) (⟨b', row enc (xs ++ ys) sp', T⟩ :: L1)) : JE P w0 n ops Lw K (⟨some t, .call ⟨.builtin .append, #[x, y], #[S, S]⟩, ty, pos, aft, gd⟩ :: rest) E L :=
  je_old (S := { s : Nat × Nat × List Value // xs.length + m ≤ s.2.1 ∧ s.2.2.length = (s.2.1 - (xs.length + m)) * k }) (o := ⟨some t, .call ⟨.builtin .append, #[x, y], #[S, S]⟩, ty, pos, aft, gd⟩) hg hd' (fun s => .slice (some ⟨s.1.1, 0, none⟩) (xs.length + m) s.1.2.1) (fun s => ⟨s.1.1, row enc (xs ++ ys) s.1.2.2, T⟩ :: L1)
    (fun a w ha hw => by
      obtain ⟨s, w', hr, ho⟩ := app_run (hx := hx) (hy := hy) (hd := hd) (h2 := h2) (hT := hT) (hz := hz) (he := he) (hk := hk) (hB := hB) hm hc hzk hb a w ha hw
      exact ⟨s, w', .inl hr, ho⟩) (fun _ => weak_sub (.cons _ hw.out)) (fun s => h _ _ _ s.2.1 s.2.2)
end
section
variable {α : Type} {enc : α → Array Value} {S T T2 : TypeId} {b2 m c2 k B : Nat} {ys : List α} {z : Value} {zc : Array Value}
variable [hx : IsC (evl E x) (.slice none 0 0)] [hy : IsC (evl E y) (.slice (some ⟨b2, 0, none⟩) m c2)] [h2 : AtC w0 L b2 (row enc ys []) T2] [hT : UndC P S (.slice T)] [hz : ZeroC P T z zc] [he : EncC enc k] [hk : SizeC P T k] [hB : BytesC P T B]
include hx hy h2 hT hz he hk hB
theorem app_run0 (hm : ys.length = m) (hzk : zc.size = k) (hb : 0 < m ∧ m * B ≤ 140737488355328 ∧ m ≤ 9223372036854775807) (a : Act) (w : World) (ha : Rep n E a) (hw : Own w0 L w) :
    ∃ s : { s : Nat × Nat × List Value // m ≤ s.2.1 ∧ s.2.2.length = (s.2.1 - m) * k }, ∃ w', (execOp a.eval ⟨some t, .call ⟨.builtin .append, #[x, y], #[S, S]⟩, ty, pos, aft, gd⟩).run P w = .ok (.value (.slice (some ⟨s.1.1, 0, none⟩) m s.1.2.1)) w' ∧ Own w0 (⟨s.1.1, row enc ys s.1.2.2, T⟩ :: L) w' := by
  obtain ⟨fz, hf⟩ := h2.out w hw
  obtain ⟨s, w', hr, ho⟩ := run_app_nil (ty := ty) (b2 := b2) (off2 := 0) (m := m) (c2 := c2) (news := rowL enc ys) hT.out hz.out hz.cells hk.out hB.out hzk hw ⟨T2, fz, hf⟩ (by rw [rowL_len (k := k), hm]) (fun j u hu => by rw [Nat.zero_add]; simpa [row] using hu) hb.1 hb.2.1 hb.2.2
  exact ⟨s, w', run_appop ha isE isE hr, ho⟩
theorem eP0 {K : Env → List Blk → Prop} {Lw : List Blk} (hg : guardB ops E gd = some true) (hd' : Nat.blt t n = true) [hw : SblC Lw L] (hm : ys.length = m) (hzk : zc.size = k) (hb : 0 < m ∧ m * B ≤ 140737488355328 ∧ m ≤ 9223372036854775807)
    (h : ∀ b' c' sp', m ≤ c' → sp'.length = (c' - m) * k → JE P w0 n ops Lw K rest ((t, .slice (some ⟨b', 0, none⟩) m c') :: E) (⟨b', row enc ys sp', T⟩ :: L)) : JE P w0 n ops Lw K (⟨some t, .call ⟨.builtin .append, #[x, y], #[S, S]⟩, ty, pos, aft, gd⟩ :: rest) E L :=
  je_old (S := { s : Nat × Nat × List Value // m ≤ s.2.1 ∧ s.2.2.length = (s.2.1 - m) * k }) (o := ⟨some t, .call ⟨.builtin .append, #[x, y], #[S, S]⟩, ty, pos, aft, gd⟩) hg hd' (fun s => .slice (some ⟨s.1.1, 0, none⟩) m s.1.2.1) (fun s => ⟨s.1.1, row enc ys s.1.2.2, T⟩ :: L)
    (fun a w ha hw => by
      obtain ⟨s, w', hr, ho⟩ := app_run0 (hx := hx) (hy := hy) (h2 := h2) (hT := hT) (hz := hz) (he := he) (hk := hk) (hB := hB) hm hzk hb a w ha hw
      exact ⟨s, w', .inl hr, ho⟩) (fun _ => weak_sub (.cons _ hw.out)) (fun s => h _ _ _ s.2.1 s.2.2)
end
section
variable {α : Type} {enc : α → Array Value} {S T T1 T2 : TypeId} {b b2 m c2 k B : Nat} {xs ys : List α} {sp : List Value} {z : Value} {zc : Array Value}
variable [hx : IsC (evl E x) (.slice (some ⟨b, 0, none⟩) xs.length xs.length)] [hy : IsC (evl E y) (.slice (some ⟨b2, 0, none⟩) m c2)] [h1 : AtC w0 L b (row enc xs sp) T1] [h2 : AtC w0 L b2 (row enc ys []) T2] [hT : UndC P S (.slice T)] [hz : ZeroC P T z zc] [he : EncC enc k] [hk : SizeC P T k] [hB : BytesC P T B]
include hx hy h1 h2 hT hz he hk hB
end
theorem nums_row (k : IntKind) (xs : List Int) : nums k xs = row (eI k) xs [] := by
  have h : ∀ l : List Int, l.flatMap (fun x => [Value.int k x]) = l.map (Value.int k) := by
    intro l
    induction l with
    | nil => rfl
    | cons a l ih => simp [ih]
  simp [nums, row, rowL, eI, h]
/-- A new row of integers. -/
theorem sM {T e : TypeId} {k : IntKind} {B m : Nat} [hT : UndC P T (.slice e)] [hz : ZeroC P e (.int k 0) #[.int k 0]] [hs : SizeC P e 1] [hB : BytesC P e B] [hx : IsC (evl E x) (.int .i64 (m : Nat))] [hy : IsC (evl E y) (.int .i64 (m : Nat))] (hg : guardB ops E gd = some true) (hd : Nat.blt t n = true) (hm : B * m ≤ 281474976710656 ∧ m ≤ 281474976710656)
    (h : ∀ b, JO P w0 n ops Q rest ((t, .slice (some ⟨b, 0, none⟩) m m) :: E) (⟨b, row (eI k) (List.replicate m 0) [], e⟩ :: L)) : JO P w0 n ops Q (⟨some t, .makeSlice T x y, ty, pos, aft, gd⟩ :: rest) E L :=
  wo_make isE isE hm hg hd (fun b => by rw [nums_row]; exact h b)
end
end Go.Vt
/- Rows of structs and integers: encodings, literals, stores of parts. Written by a program (gen_row.py). Conditions: none. -/
set_option linter.unusedVariables false
set_option maxRecDepth 100000
namespace Go.Vt
open Go.RowKit Go.Proofs
abbrev r_api_Interval (x : R_api_Interval) : Array Value := e_api_Interval (q_api_Interval x)
instance : Inhabited R_api_Interval := ⟨zR_api_Interval⟩
instance enc_api_Interval : EncC r_api_Interval 20 := ⟨fun _ => CsC.size, fun _ => CsC.one⟩
abbrev r_simplify_Run (x : R_simplify_Run) : Array Value := e_simplify_Run (q_simplify_Run x)
instance : Inhabited R_simplify_Run := ⟨zR_simplify_Run⟩
instance enc_simplify_Run : EncC r_simplify_Run 21 := ⟨fun _ => CsC.size, fun _ => CsC.one⟩
abbrev r_movingpoint_Sample (x : R_movingpoint_Sample) : Array Value := e_movingpoint_Sample (q_movingpoint_Sample x)
instance : Inhabited R_movingpoint_Sample := ⟨zR_movingpoint_Sample⟩
instance enc_movingpoint_Sample : EncC r_movingpoint_Sample 12 := ⟨fun _ => CsC.size, fun _ => CsC.one⟩
abbrev r_api_PointUnit (x : R_api_PointUnit) : Array Value := e_api_PointUnit (q_api_PointUnit x)
instance : Inhabited R_api_PointUnit := ⟨zR_api_PointUnit⟩
instance enc_api_PointUnit : EncC r_api_PointUnit 36 := ⟨fun _ => CsC.size, fun _ => CsC.one⟩
instance : Inhabited st_Time_X_Y := ⟨z_st_Time_X_Y⟩
instance enc_st_Time_X_Y : EncC e_st_Time_X_Y 3 := ⟨fun _ => CsC.size, fun _ => CsC.one⟩
abbrev r_pieces_Unit_api_Line (x : R_pieces_Unit_api_Line) : Array Value := e_pieces_Unit_api_Line (q_pieces_Unit_api_Line x)
instance : Inhabited R_pieces_Unit_api_Line := ⟨zR_pieces_Unit_api_Line⟩
instance enc_pieces_Unit_api_Line : EncC r_pieces_Unit_api_Line 36 := ⟨fun _ => CsC.size, fun _ => CsC.one⟩
instance st_30_0 (x : R_api_Real) (v : Rat) : StC Tryz.prog 28 (e_api_Real (q_api_Real x)) 0 (vQ v) (e_api_Real (q_api_Real { x with P := v })) := ⟨by kernel_rfl, by kernel_rfl, by kernel_rfl, by kernel_rfl⟩
instance st_32_0 (x : R_api_Interval) (v : R_api_Real) : StC Tryz.prog 30 (e_api_Interval (q_api_Interval x)) 0 (.agg (e_api_Real (q_api_Real v))) (e_api_Interval (q_api_Interval { x with From := v })) := ⟨by kernel_rfl, by kernel_rfl, by kernel_rfl, by kernel_rfl⟩
instance st_32_1 (x : R_api_Interval) (v : R_api_Real) : StC Tryz.prog 30 (e_api_Interval (q_api_Interval x)) 9 (.agg (e_api_Real (q_api_Real v))) (e_api_Interval (q_api_Interval { x with To := v })) := ⟨by kernel_rfl, by kernel_rfl, by kernel_rfl, by kernel_rfl⟩
instance st_32_2 (x : R_api_Interval) (v : Bool) : StC Tryz.prog 4 (e_api_Interval (q_api_Interval x)) 18 (.bool v) (e_api_Interval (q_api_Interval { x with OpenFrom := v })) := ⟨by kernel_rfl, by kernel_rfl, by kernel_rfl, by kernel_rfl⟩
instance st_32_3 (x : R_api_Interval) (v : Bool) : StC Tryz.prog 4 (e_api_Interval (q_api_Interval x)) 19 (.bool v) (e_api_Interval (q_api_Interval { x with OpenTo := v })) := ⟨by kernel_rfl, by kernel_rfl, by kernel_rfl, by kernel_rfl⟩
instance st_35_0 (x : R_simplify_Run) (v : R_api_Interval) : StC Tryz.prog 32 (e_simplify_Run (q_simplify_Run x)) 0 (.agg (e_api_Interval (q_api_Interval v))) (e_simplify_Run (q_simplify_Run { x with In := v })) := ⟨by kernel_rfl, by kernel_rfl, by kernel_rfl, by kernel_rfl⟩
instance st_35_0_0 (x : R_simplify_Run) (v : R_api_Real) : StC Tryz.prog 30 (e_simplify_Run (q_simplify_Run x)) 0 (.agg (e_api_Real (q_api_Real v))) (e_simplify_Run (q_simplify_Run { x with In := { x.In with From := v } })) := ⟨by kernel_rfl, by kernel_rfl, by kernel_rfl, by kernel_rfl⟩
instance st_35_0_1 (x : R_simplify_Run) (v : R_api_Real) : StC Tryz.prog 30 (e_simplify_Run (q_simplify_Run x)) 9 (.agg (e_api_Real (q_api_Real v))) (e_simplify_Run (q_simplify_Run { x with In := { x.In with To := v } })) := ⟨by kernel_rfl, by kernel_rfl, by kernel_rfl, by kernel_rfl⟩
instance st_35_0_2 (x : R_simplify_Run) (v : Bool) : StC Tryz.prog 4 (e_simplify_Run (q_simplify_Run x)) 18 (.bool v) (e_simplify_Run (q_simplify_Run { x with In := { x.In with OpenFrom := v } })) := ⟨by kernel_rfl, by kernel_rfl, by kernel_rfl, by kernel_rfl⟩
instance st_35_0_3 (x : R_simplify_Run) (v : Bool) : StC Tryz.prog 4 (e_simplify_Run (q_simplify_Run x)) 19 (.bool v) (e_simplify_Run (q_simplify_Run { x with In := { x.In with OpenTo := v } })) := ⟨by kernel_rfl, by kernel_rfl, by kernel_rfl, by kernel_rfl⟩
instance st_35_1 (x : R_simplify_Run) (a : Option Addr) (l c : Nat) : StC Tryz.prog 33 (e_simplify_Run (q_simplify_Run x)) 20 (.slice a l c) (e_simplify_Run (q_simplify_Run { x with Points := ⟨a, l, c⟩ })) := ⟨by kernel_rfl, by kernel_rfl, by kernel_rfl, by kernel_rfl⟩
instance st_47_0 (x : R_movingpoint_Sample) (v : Rat) : StC Tryz.prog 28 (e_movingpoint_Sample (q_movingpoint_Sample x)) 0 (vQ v) (e_movingpoint_Sample (q_movingpoint_Sample { x with T := v })) := ⟨by kernel_rfl, by kernel_rfl, by kernel_rfl, by kernel_rfl⟩
instance st_163_0_1 (x : R_pieces_Unit_api_Line) (v : R_api_Real) : StC Tryz.prog 30 (e_pieces_Unit_api_Line (q_pieces_Unit_api_Line x)) 9 (.agg (e_api_Real (q_api_Real v))) (e_pieces_Unit_api_Line (q_pieces_Unit_api_Line { x with In := { x.In with To := v } })) := ⟨by kernel_rfl, by kernel_rfl, by kernel_rfl, by kernel_rfl⟩
instance st_163_0_2 (x : R_pieces_Unit_api_Line) (v : Bool) : StC Tryz.prog 4 (e_pieces_Unit_api_Line (q_pieces_Unit_api_Line x)) 18 (.bool v) (e_pieces_Unit_api_Line (q_pieces_Unit_api_Line { x with In := { x.In with OpenFrom := v } })) := ⟨by kernel_rfl, by kernel_rfl, by kernel_rfl, by kernel_rfl⟩
instance st_163_0_3 (x : R_pieces_Unit_api_Line) (v : Bool) : StC Tryz.prog 4 (e_pieces_Unit_api_Line (q_pieces_Unit_api_Line x)) 19 (.bool v) (e_pieces_Unit_api_Line (q_pieces_Unit_api_Line { x with In := { x.In with OpenTo := v } })) := ⟨by kernel_rfl, by kernel_rfl, by kernel_rfl, by kernel_rfl⟩
instance st_163_1 (x : R_pieces_Unit_api_Line) (v : R_api_Line) : StC Tryz.prog 66 (e_pieces_Unit_api_Line (q_pieces_Unit_api_Line x)) 20 (.agg (e_api_Line (q_api_Line v))) (e_pieces_Unit_api_Line (q_pieces_Unit_api_Line { x with F := v })) := ⟨by kernel_rfl, by kernel_rfl, by kernel_rfl, by kernel_rfl⟩
theorem bsr_33_1 (x0 : R_movingpoint_Sample) (w : World) : (Instr.buildSlice 33 1 [(0, .agg (e_movingpoint_Sample (q_movingpoint_Sample x0)))].toArray).run Tryz.prog w = .ok (.slice (some ⟨w.heap.size, 0, none⟩) 1 1) (w.alloc (.cells (row (r_movingpoint_Sample) [x0] []) 47)) := by kernel_rfl
instance (priority := high) bsi_33_1 (x0 : R_movingpoint_Sample) : BsC Tryz.prog 33 1 [(0, .agg (e_movingpoint_Sample (q_movingpoint_Sample x0)))] (row (r_movingpoint_Sample) [x0] []) 47 := ⟨bsr_33_1 x0⟩
theorem bsr_33_3 (x0 x1 x2 : R_movingpoint_Sample) (w : World) : (Instr.buildSlice 33 3 [(0, .agg (e_movingpoint_Sample (q_movingpoint_Sample x0))), (1, .agg (e_movingpoint_Sample (q_movingpoint_Sample x1))), (2, .agg (e_movingpoint_Sample (q_movingpoint_Sample x2)))].toArray).run Tryz.prog w = .ok (.slice (some ⟨w.heap.size, 0, none⟩) 3 3) (w.alloc (.cells (row (r_movingpoint_Sample) [x0, x1, x2] []) 47)) := by kernel_rfl
instance (priority := high) bsi_33_3 (x0 x1 x2 : R_movingpoint_Sample) : BsC Tryz.prog 33 3 [(0, .agg (e_movingpoint_Sample (q_movingpoint_Sample x0))), (1, .agg (e_movingpoint_Sample (q_movingpoint_Sample x1))), (2, .agg (e_movingpoint_Sample (q_movingpoint_Sample x2)))] (row (r_movingpoint_Sample) [x0, x1, x2] []) 47 := ⟨bsr_33_3 x0 x1 x2⟩
theorem bsr_33_5 (x0 x1 x2 x3 x4 : R_movingpoint_Sample) (w : World) : (Instr.buildSlice 33 5 [(0, .agg (e_movingpoint_Sample (q_movingpoint_Sample x0))), (1, .agg (e_movingpoint_Sample (q_movingpoint_Sample x1))), (2, .agg (e_movingpoint_Sample (q_movingpoint_Sample x2))), (3, .agg (e_movingpoint_Sample (q_movingpoint_Sample x3))), (4, .agg (e_movingpoint_Sample (q_movingpoint_Sample x4)))].toArray).run Tryz.prog w = .ok (.slice (some ⟨w.heap.size, 0, none⟩) 5 5) (w.alloc (.cells (row (r_movingpoint_Sample) [x0, x1, x2, x3, x4] []) 47)) := by kernel_rfl
instance (priority := high) bsi_33_5 (x0 x1 x2 x3 x4 : R_movingpoint_Sample) : BsC Tryz.prog 33 5 [(0, .agg (e_movingpoint_Sample (q_movingpoint_Sample x0))), (1, .agg (e_movingpoint_Sample (q_movingpoint_Sample x1))), (2, .agg (e_movingpoint_Sample (q_movingpoint_Sample x2))), (3, .agg (e_movingpoint_Sample (q_movingpoint_Sample x3))), (4, .agg (e_movingpoint_Sample (q_movingpoint_Sample x4)))] (row (r_movingpoint_Sample) [x0, x1, x2, x3, x4] []) 47 := ⟨bsr_33_5 x0 x1 x2 x3 x4⟩
theorem bsr_41_1 (x0 : R_api_PointUnit) (w : World) : (Instr.buildSlice 41 1 [(0, .agg (e_api_PointUnit (q_api_PointUnit x0)))].toArray).run Tryz.prog w = .ok (.slice (some ⟨w.heap.size, 0, none⟩) 1 1) (w.alloc (.cells (row (r_api_PointUnit) [x0] []) 68)) := by kernel_rfl
instance (priority := high) bsi_41_1 (x0 : R_api_PointUnit) : BsC Tryz.prog 41 1 [(0, .agg (e_api_PointUnit (q_api_PointUnit x0)))] (row (r_api_PointUnit) [x0] []) 68 := ⟨bsr_41_1 x0⟩
theorem bsr_62_2 (x0 x1 : R_simplify_Run) (w : World) : (Instr.buildSlice 62 2 [(0, .agg (e_simplify_Run (q_simplify_Run x0))), (1, .agg (e_simplify_Run (q_simplify_Run x1)))].toArray).run Tryz.prog w = .ok (.slice (some ⟨w.heap.size, 0, none⟩) 2 2) (w.alloc (.cells (row (r_simplify_Run) [x0, x1] []) 35)) := by kernel_rfl
instance (priority := high) bsi_62_2 (x0 x1 : R_simplify_Run) : BsC Tryz.prog 62 2 [(0, .agg (e_simplify_Run (q_simplify_Run x0))), (1, .agg (e_simplify_Run (q_simplify_Run x1)))] (row (r_simplify_Run) [x0, x1] []) 35 := ⟨bsr_62_2 x0 x1⟩
theorem bsr_87_1 (x0 : R_api_Interval) (w : World) : (Instr.buildSlice 87 1 [(0, .agg (e_api_Interval (q_api_Interval x0)))].toArray).run Tryz.prog w = .ok (.slice (some ⟨w.heap.size, 0, none⟩) 1 1) (w.alloc (.cells (row (r_api_Interval) [x0] []) 32)) := by kernel_rfl
instance (priority := high) bsi_87_1 (x0 : R_api_Interval) : BsC Tryz.prog 87 1 [(0, .agg (e_api_Interval (q_api_Interval x0)))] (row (r_api_Interval) [x0] []) 32 := ⟨bsr_87_1 x0⟩
theorem bsr_89_1 (x0 : Int) (w : World) : (Instr.buildSlice 89 1 [(0, .int .i64 x0)].toArray).run Tryz.prog w = .ok (.slice (some ⟨w.heap.size, 0, none⟩) 1 1) (w.alloc (.cells (row (eI .i64) [x0] []) 3)) := by kernel_rfl
instance (priority := high) bsi_89_1 (x0 : Int) : BsC Tryz.prog 89 1 [(0, .int .i64 x0)] (row (eI .i64) [x0] []) 3 := ⟨bsr_89_1 x0⟩
theorem bsr_89_2 (x0 x1 : Int) (w : World) : (Instr.buildSlice 89 2 [(0, .int .i64 x0), (1, .int .i64 x1)].toArray).run Tryz.prog w = .ok (.slice (some ⟨w.heap.size, 0, none⟩) 2 2) (w.alloc (.cells (row (eI .i64) [x0, x1] []) 3)) := by kernel_rfl
instance (priority := high) bsi_89_2 (x0 x1 : Int) : BsC Tryz.prog 89 2 [(0, .int .i64 x0), (1, .int .i64 x1)] (row (eI .i64) [x0, x1] []) 3 := ⟨bsr_89_2 x0 x1⟩
theorem bsr_89_3 (x0 x1 x2 : Int) (w : World) : (Instr.buildSlice 89 3 [(0, .int .i64 x0), (1, .int .i64 x1), (2, .int .i64 x2)].toArray).run Tryz.prog w = .ok (.slice (some ⟨w.heap.size, 0, none⟩) 3 3) (w.alloc (.cells (row (eI .i64) [x0, x1, x2] []) 3)) := by kernel_rfl
instance (priority := high) bsi_89_3 (x0 x1 x2 : Int) : BsC Tryz.prog 89 3 [(0, .int .i64 x0), (1, .int .i64 x1), (2, .int .i64 x2)] (row (eI .i64) [x0, x1, x2] []) 3 := ⟨bsr_89_3 x0 x1 x2⟩
theorem bsr_89_5 (x0 x1 x2 x3 x4 : Int) (w : World) : (Instr.buildSlice 89 5 [(0, .int .i64 x0), (1, .int .i64 x1), (2, .int .i64 x2), (3, .int .i64 x3), (4, .int .i64 x4)].toArray).run Tryz.prog w = .ok (.slice (some ⟨w.heap.size, 0, none⟩) 5 5) (w.alloc (.cells (row (eI .i64) [x0, x1, x2, x3, x4] []) 3)) := by kernel_rfl
instance (priority := high) bsi_89_5 (x0 x1 x2 x3 x4 : Int) : BsC Tryz.prog 89 5 [(0, .int .i64 x0), (1, .int .i64 x1), (2, .int .i64 x2), (3, .int .i64 x3), (4, .int .i64 x4)] (row (eI .i64) [x0, x1, x2, x3, x4] []) 3 := ⟨bsr_89_5 x0 x1 x2 x3 x4⟩
theorem bsr_116_1 (x0 : R_pieces_Unit_api_Line) (w : World) : (Instr.buildSlice 116 1 [(0, .agg (e_pieces_Unit_api_Line (q_pieces_Unit_api_Line x0)))].toArray).run Tryz.prog w = .ok (.slice (some ⟨w.heap.size, 0, none⟩) 1 1) (w.alloc (.cells (row (r_pieces_Unit_api_Line) [x0] []) 163)) := by kernel_rfl
instance (priority := high) bsi_116_1 (x0 : R_pieces_Unit_api_Line) : BsC Tryz.prog 116 1 [(0, .agg (e_pieces_Unit_api_Line (q_pieces_Unit_api_Line x0)))] (row (r_pieces_Unit_api_Line) [x0] []) 163 := ⟨bsr_116_1 x0⟩
end Go.Vt
/- Straight ways between samples and their deviations. Conditions: the lengths and indexes that each statement names. -/
set_option linter.unusedSimpArgs false
set_option linter.unusedVariables false
set_option maxRecDepth 100000
namespace Go.Vt
open Go.RowKit Go.Proofs
abbrev vLn (f : R_api_Line) : Value := .agg (e_api_Line (q_api_Line f))
abbrev vRun (r : R_api_Interval) (b n c : Nat) : Value := .agg (e_simplify_Run (q_simplify_Run ⟨r, ⟨some ⟨b, 0, none⟩, n, c⟩⟩))
def stl (a b : R_movingpoint_Sample) : R_api_Line := ⟨(lin a.T a.P.X b.T b.P.X).C0, (lin a.T a.P.X b.T b.P.X).C1, (lin a.T a.P.Y b.T b.P.Y).C0, (lin a.T a.P.Y b.T b.P.Y).C1⟩
/-- The position of a line at a rational instant. -/
def pos (f : R_api_Line) (t : Rat) : R_api_Point := ⟨f.X0 + t * (f.X1 + t * 0), f.Y0 + t * (f.Y1 + t * 0)⟩
instance mb_lin0 (t v u x : Rat) (i j k l : Nat) [h1 : MB t i] [h2 : MB v j] [h3 : MB u k] [h4 : MB x l] : MB (lin t v u x).C0 (2 * i + 2 * j + k + l + 4) := ⟨by
  unfold lin
  split
  · exact Nat.le_trans (mb_zero.out) (by omega)
  · have := (inferInstance : MB (v - (x - v) / (u - t) * t) _).out
    simp only
    omega⟩
instance mb_lin1 (t v u x : Rat) (i j k l : Nat) [h1 : MB t i] [h2 : MB v j] [h3 : MB u k] [h4 : MB x l] : MB (lin t v u x).C1 (i + j + k + l + 3) := ⟨by
  unfold lin
  split
  · exact Nat.le_trans (mb_zero.out) (by omega)
  · have := (inferInstance : MB ((x - v) / (u - t)) _).out
    simp only
    omega⟩
instance mb_stlX0 (a b : R_movingpoint_Sample) (i j k l : Nat) [MB a.T i] [MB a.P.X j] [MB b.T k] [MB b.P.X l] : MB (stl a b).X0 (2 * i + 2 * j + k + l + 4) := inferInstanceAs (MB (lin a.T a.P.X b.T b.P.X).C0 _)
instance mb_stlX1 (a b : R_movingpoint_Sample) (i j k l : Nat) [MB a.T i] [MB a.P.X j] [MB b.T k] [MB b.P.X l] : MB (stl a b).X1 (i + j + k + l + 3) := inferInstanceAs (MB (lin a.T a.P.X b.T b.P.X).C1 _)
instance mb_stlY0 (a b : R_movingpoint_Sample) (i j k l : Nat) [MB a.T i] [MB a.P.Y j] [MB b.T k] [MB b.P.Y l] : MB (stl a b).Y0 (2 * i + 2 * j + k + l + 4) := inferInstanceAs (MB (lin a.T a.P.Y b.T b.P.Y).C0 _)
instance mb_stlY1 (a b : R_movingpoint_Sample) (i j k l : Nat) [MB a.T i] [MB a.P.Y j] [MB b.T k] [MB b.P.Y l] : MB (stl a b).Y1 (i + j + k + l + 3) := inferInstanceAs (MB (lin a.T a.P.Y b.T b.P.Y).C1 _)
instance mb_posX (f : R_api_Line) (t : Rat) (i j k : Nat) [MB f.X0 i] [MB f.X1 j] [MB t k] : MB (pos f t).X (i + (k + (j + (k + 1) + 1)) + 1) := inferInstanceAs (MB (f.X0 + t * (f.X1 + t * 0)) _)
instance mb_posY (f : R_api_Line) (t : Rat) (i j k : Nat) [MB f.Y0 i] [MB f.Y1 j] [MB t k] : MB (pos f t).Y (i + (k + (j + (k + 1) + 1)) + 1) := inferInstanceAs (MB (f.Y0 + t * (f.Y1 + t * 0)) _)
theorem mb5 {p q r s t : Rat} {i j k l m A B C D F : Nat} [MB p i] [MB q j] [MB r k] [MB s l] [MB t m] (h1 : Nat.ble i A = true) (h2 : Nat.ble j B = true) (h3 : Nat.ble k C = true) (h4 : Nat.ble l D = true) (h5 : Nat.ble m F = true) : M p ≤ A ∧ M q ≤ B ∧ M r ≤ C ∧ M s ≤ D ∧ M t ≤ F := ⟨MB.lt h1, MB.lt h2, MB.lt h3, MB.lt h4, MB.lt h5⟩
instance sp_straight (a b : R_movingpoint_Sample) : SpecC Tryz.prog 70 [vS a, vS b] (vLn (stl a b)) ((M a.T ≤ 34359738368 ∧ M a.P.X ≤ 34359738368 ∧ M a.P.Y ≤ 34359738368) ∧ (M b.T ≤ 34359738368 ∧ M b.P.X ≤ 34359738368 ∧ M b.P.Y ≤ 34359738368)) := ⟨fun hp w => by
  obtain ⟨⟨h1, h2, h3⟩, h4, h5, h6⟩ := hp
  refine fn_intro Tryz.func70 rfl Tryz.ntmps70 rfl ?_
  repeat (first | refine sX rfl rfl ?_ | (refine sS rfl rfl ?_ ?_; focus omega) | (refine sC rfl rfl ?_ ?_; focus (exact ⟨by assumption, by assumption, by assumption, by assumption⟩)) | refine cX ?_ | refine cY ?_ | (refine sA rfl rfl ?_; intro _) | refine sT rfl ?_ | refine sF rfl ?_ | (refine sR rfl ?_ ?_; focus omega) | (refine sB rfl rfl ?_; intro _) | (refine sN rfl rfl ?_ ?_; (focus (exact ⟨by assumption, by assumption, by assumption, by assumption⟩)); intro _; (try simp only [List.cons_append, List.nil_append, List.append_nil])) | refine sW rfl rfl ?_ | refine sK rfl rfl ?_ | refine j_if rfl ?_ | refine j_else rfl ?_ | refine pkT rfl rfl rfl rfl ?_ | refine pkF rfl rfl rfl rfl ?_)
  exact wx_cell rfl rfl (fun w hw => ret_ok hw)⟩
instance sp_sample (f : R_api_Line) (t : R_api_Real) : SpecC Tryz.prog 77 [vLn f, vR t] (vS ⟨t.P, pos f t.P⟩) (t.R = 0 ∧ M t.P ≤ 34359738368 ∧ M f.X0 ≤ 34359738368 ∧ M f.X1 ≤ 34359738368 ∧ M f.Y0 ≤ 34359738368 ∧ M f.Y1 ≤ 34359738368) := ⟨fun hp w => by
  obtain ⟨h0, h1, h2, h3, h4, h5⟩ := hp
  have h6 : M 0 ≤ 34359738368 := Nat.le_trans mb_zero.out (by decide)
  refine fn_intro Tryz.func77 rfl Tryz.ntmps77 rfl ?_
  repeat (first | refine sX rfl rfl ?_ | (refine sS rfl rfl ?_ ?_; focus omega) | (refine sC rfl rfl ?_ ?_; focus (first | exact trivial | assumption | constructor <;> assumption | exact mb2 rfl rfl | exact mb4 rfl rfl rfl rfl)) | refine cX ?_ | refine cY ?_ | (refine sA rfl rfl ?_; intro _) | refine sT rfl ?_ | refine sF rfl ?_ | (refine sR rfl ?_ ?_; focus omega) | (refine sB rfl rfl ?_; intro _) | (refine sN rfl rfl ?_ ?_; (focus (first | exact trivial | assumption | constructor <;> assumption | exact mb2 rfl rfl | exact mb4 rfl rfl rfl rfl)); intro _; (try simp only [List.cons_append, List.nil_append, List.append_nil])) | refine sW rfl rfl ?_ | refine sK rfl rfl ?_ | refine j_if rfl ?_ | refine j_else rfl ?_ | refine pkT rfl rfl rfl rfl ?_ | refine pkF rfl rfl rfl rfl ?_)
  simp only [if_pos h0]
  (refine jD 7 8 mixed (by kernel_rfl) ?_; (repeat (first | refine tX rfl rfl ?_ | (refine tS rfl rfl ?_ ?_; focus omega) | (refine tC rfl rfl ?_ ?_; focus (first | exact trivial | exact ⟨by assumption, by assumption, by assumption, by assumption⟩)) | refine tW rfl rfl ?_ | refine tK rfl rfl ?_ | refine Go.Vt.hq (wl_pickT rfl rfl) rfl rfl ?_ | refine Go.Vt.hq (wl_pickF rfl rfl) rfl rfl ?_)); refine jh_nil ?_; (repeat (refine wn_new ?_; intro _)); refine jn_nil ?_)
  repeat (first | refine sX rfl rfl ?_ | (refine sS rfl rfl ?_ ?_; focus omega) | (refine sC rfl rfl ?_ ?_; focus (first | exact trivial | assumption | constructor <;> assumption | exact mb2 rfl rfl | exact mb4 rfl rfl rfl rfl)) | refine cX ?_ | refine cY ?_ | (refine sA rfl rfl ?_; intro _) | refine sT rfl ?_ | refine sF rfl ?_ | (refine sR rfl ?_ ?_; focus omega) | (refine sB rfl rfl ?_; intro _) | (refine sN rfl rfl ?_ ?_; (focus (first | exact trivial | assumption | constructor <;> assumption | exact mb2 rfl rfl | exact mb4 rfl rfl rfl rfl)); intro _; (try simp only [List.cons_append, List.nil_append, List.append_nil])) | refine sW rfl rfl ?_ | refine sK rfl rfl ?_ | refine j_if rfl ?_ | refine j_else rfl ?_ | refine pkT rfl rfl rfl rfl ?_ | refine pkF rfl rfl rfl rfl ?_)
  (refine jD 7 8 mixed (by kernel_rfl) ?_; (repeat (first | refine tX rfl rfl ?_ | (refine tS rfl rfl ?_ ?_; focus omega) | (refine tC rfl rfl ?_ ?_; focus (first | exact trivial | exact ⟨by assumption, by assumption, by assumption, by assumption⟩)) | refine tW rfl rfl ?_ | refine tK rfl rfl ?_ | refine Go.Vt.hq (wl_pickT rfl rfl) rfl rfl ?_ | refine Go.Vt.hq (wl_pickF rfl rfl) rfl rfl ?_)); refine jh_nil ?_; (repeat (refine wn_new ?_; intro _)); refine jn_nil ?_)
  repeat (first | refine sX rfl rfl ?_ | (refine sS rfl rfl ?_ ?_; focus omega) | (refine sC rfl rfl ?_ ?_; focus (first | exact trivial | assumption | constructor <;> assumption | exact mb2 rfl rfl | exact mb4 rfl rfl rfl rfl)) | refine cX ?_ | refine cY ?_ | (refine sA rfl rfl ?_; intro _) | refine sT rfl ?_ | refine sF rfl ?_ | (refine sR rfl ?_ ?_; focus omega) | (refine sB rfl rfl ?_; intro _) | (refine sN rfl rfl ?_ ?_; (focus (first | exact trivial | assumption | constructor <;> assumption | exact mb2 rfl rfl | exact mb4 rfl rfl rfl rfl)); intro _; (try simp only [List.cons_append, List.nil_append, List.append_nil])) | refine sW rfl rfl ?_ | refine sK rfl rfl ?_ | refine j_if rfl ?_ | refine j_else rfl ?_ | refine pkT rfl rfl rfl rfl ?_ | refine pkF rfl rfl rfl rfl ?_)
  exact wx_cell rfl rfl (fun w hw => ret_ok hw)⟩
abbrev PB : Nat := 1048576
/-- The samples are short. -/
def Bnd (pts : List R_movingpoint_Sample) : Prop := ∀ i : Int, M (gi pts i).T ≤ PB ∧ M (gi pts i).P.X ≤ PB ∧ M (gi pts i).P.Y ≤ PB
/-- The greatest squared distance of the breakpoints behind 'i', of which there are 'n', from the straight way from 'i' to 'j'. -/
def dv (pts : List R_movingpoint_Sample) (i j : Nat) : Nat → Rat
  | 0 => 0
  | n + 1 => max (dv pts i j n) (d2 (gi pts ((i : Int) + 1 + n)).P (pos (stl (gi pts (i : Int)) (gi pts (j : Int))) (gi pts ((i : Int) + 1 + n)).T))
theorem M_max (a b : Rat) : M (max a b) ≤ max (M a) (M b) := by rw [Rat.max_def]; split <;> omega
theorem M_dv {pts : List R_movingpoint_Sample} (hB : Bnd pts) (i j : Nat) : ∀ n, M (dv pts i j n) ≤ 67108864
  | 0 => Nat.le_trans mb_zero.out (by decide)
  | n + 1 => by
    have g1 : ∀ i, MB (gi pts i).T PB := fun i => ⟨(hB i).1⟩
    have g2 : ∀ i, MB (gi pts i).P.X PB := fun i => ⟨(hB i).2.1⟩
    have g3 : ∀ i, MB (gi pts i).P.Y PB := fun i => ⟨(hB i).2.2⟩
    have h1 := M_dv hB i j n
    have h2 : M (d2 (gi pts ((i : Int) + 1 + n)).P (pos (stl (gi pts (i : Int)) (gi pts (j : Int))) (gi pts ((i : Int) + 1 + n)).T)) ≤ 67108864 := by
      exact MB.lt rfl
    exact Nat.le_trans (M_max _ _) (by omega)
theorem dev_spec (I : R_api_Interval) (b n c i j : Nat) (pts : List R_movingpoint_Sample) (sp : List Value) (T : TypeId) (hn : pts.length = n) (hc : n ≤ c) (hB : Bnd pts) (hij : i < j) (hj : j < n) (h63 : n ≤ 1099511627776) (w : World) (hw : ∃ fz, w.heap[b]? = some (.cells (row r_movingpoint_Sample pts sp) T fz)) :
    Calls Tryz.prog 46 [vRun I b n c, .int .i64 i, .int .i64 j].toArray w (Ret (vQ (dv pts i j (j - i - 1))) w) := by
  have := FoC.mk hw
  have g1 : ∀ i, MB (gi pts i).T PB := fun i => ⟨(hB i).1⟩
  have g2 : ∀ i, MB (gi pts i).P.X PB := fun i => ⟨(hB i).2.1⟩
  have g3 : ∀ i, MB (gi pts i).P.Y PB := fun i => ⟨(hB i).2.2⟩
  refine fn_intro Tryz.func46 rfl Tryz.ntmps46 rfl ?_
  repeat (first | refine sX rfl rfl ?_ | (refine sS rfl rfl ?_ ?_; focus omega) | (refine sC rfl rfl ?_ ?_; focus (first | exact trivial | assumption | constructor <;> assumption | exact mb2 rfl rfl | exact mb4 rfl rfl rfl rfl)) | refine cX ?_ | refine cY ?_ | (refine sA rfl rfl ?_; intro _) | refine sT rfl ?_ | refine sF rfl ?_ | (refine sR rfl ?_ ?_; focus omega) | (refine sB rfl rfl ?_; intro _) | (refine sN rfl rfl ?_ ?_; (focus (first | exact trivial | assumption | constructor <;> assumption | exact mb2 rfl rfl | exact mb4 rfl rfl rfl rfl)); intro _; (try simp only [List.cons_append, List.nil_append, List.append_nil])) | refine sW rfl rfl ?_ | refine sK rfl rfl ?_ | refine j_if rfl ?_ | refine j_else rfl ?_ | refine pkT rfl rfl rfl rfl ?_ | refine pkF rfl rfl rfl rfl ?_)
  refine j_cond rfl (fun h => ?_) (fun h => ?_)
  · have := of_decide_eq_true h
    omega
  repeat (first | refine sX rfl rfl ?_ | (refine sS rfl rfl ?_ ?_; focus omega) | (refine sC rfl rfl ?_ ?_; focus (first | exact trivial | assumption | constructor <;> assumption | exact mb2 rfl rfl | exact mb4 rfl rfl rfl rfl)) | refine cX ?_ | refine cY ?_ | (refine sA rfl rfl ?_; intro _) | refine sT rfl ?_ | refine sF rfl ?_ | (refine sR rfl ?_ ?_; focus omega) | (refine sB rfl rfl ?_; intro _) | (refine sN rfl rfl ?_ ?_; (focus (first | exact trivial | assumption | constructor <;> assumption | exact mb2 rfl rfl | exact mb4 rfl rfl rfl rfl)); intro _; (try simp only [List.cons_append, List.nil_append, List.append_nil])) | refine sW rfl rfl ?_ | refine sK rfl rfl ?_ | refine j_if rfl ?_ | refine j_else rfl ?_ | refine pkT rfl rfl rfl rfl ?_ | refine pkF rfl rfl rfl rfl ?_)
  (refine jD 11 12 mixed (by kernel_rfl) ?_; (repeat (first | refine tX rfl rfl ?_ | (refine tS rfl rfl ?_ ?_; focus omega) | (refine tC rfl rfl ?_ ?_; focus (exact ⟨mb3 rfl rfl rfl, mb3 rfl rfl rfl⟩)) | refine tW rfl rfl ?_ | refine tK rfl rfl ?_ | refine Go.Vt.hq (wl_pickT rfl rfl) rfl rfl ?_ | refine Go.Vt.hq (wl_pickF rfl rfl) rfl rfl ?_)); refine jh_nil ?_; (repeat (refine wn_new ?_; intro _)); refine jn_nil ?_)
  repeat (first | refine sX rfl rfl ?_ | (refine sS rfl rfl ?_ ?_; focus omega) | (refine sC rfl rfl ?_ ?_; focus (first | exact trivial | assumption | constructor <;> assumption | exact mb2 rfl rfl | exact mb4 rfl rfl rfl rfl)) | refine cX ?_ | refine cY ?_ | (refine sA rfl rfl ?_; intro _) | refine sT rfl ?_ | refine sF rfl ?_ | (refine sR rfl ?_ ?_; focus omega) | (refine sB rfl rfl ?_; intro _) | (refine sN rfl rfl ?_ ?_; (focus (first | exact trivial | assumption | constructor <;> assumption | exact mb2 rfl rfl | exact mb4 rfl rfl rfl rfl)); intro _; (try simp only [List.cons_append, List.nil_append, List.append_nil])) | refine sW rfl rfl ?_ | refine sK rfl rfl ?_ | refine j_if rfl ?_ | refine j_else rfl ?_ | refine pkT rfl rfl rfl rfl ?_ | refine pkF rfl rfl rfl rfl ?_)
  rename_i b3 b6 b7 b8
  refine j_loop (S := Nat) (fun m => m ≤ j - i - 1) (fun m => [(6, .pointer (some ⟨b6, 0, none⟩)), (7, .pointer (some ⟨b7, 0, none⟩)), (8, .pointer (some ⟨b8, 0, none⟩)), (32, .slice (some ⟨b, 0 + ((i : Int) + 1).toNat * 12, none⟩) ((j : Int) - ((i : Int) + 1)).toNat ((c : Int) - ((i : Int) + 1)).toNat), (33, .int .i64 (((j : Int) - ((i : Int) + 1)).toNat : Nat)), (34, .int .i64 (m : Nat))])
    (fun m => [⟨b8, e_api_Line (q_api_Line (stl (gi pts i) (gi pts j))), 66⟩, ⟨b7, e_api_Rat (Q (dv pts i j m)), 28⟩, ⟨b6, e_api_Rat (Q 0), 28⟩]) (fun m => j - i - 1 - m) 0 (Nat.zero_le _)
    (by repeat (first | exact sub_nil | refine sub_cons rfl ?_ | refine sub_cons' rfl (by congr 1; omega) ?_)) (by repeat (first | exact List.Sublist.refl _ | exact List.nil_sublist _ | refine List.Sublist.cons_cons _ ?_ | refine List.Sublist.cons _ ?_)) (fun m hm => ?_)
  repeat (first | refine sX rfl rfl ?_ | (refine sS rfl rfl ?_ ?_; focus omega) | (refine sC rfl rfl ?_ ?_; focus (first | exact trivial | assumption | constructor <;> assumption | exact mb2 rfl rfl | exact mb4 rfl rfl rfl rfl)) | refine cX ?_ | refine cY ?_ | (refine sA rfl rfl ?_; intro _) | refine sT rfl ?_ | refine sF rfl ?_ | (refine sR rfl ?_ ?_; focus omega) | (refine sB rfl rfl ?_; intro _) | (refine sN rfl rfl ?_ ?_; (focus (first | exact trivial | assumption | constructor <;> assumption | exact mb2 rfl rfl | exact mb4 rfl rfl rfl rfl)); intro _; (try simp only [List.cons_append, List.nil_append, List.append_nil])) | refine sW rfl rfl ?_ | refine sK rfl rfl ?_ | refine j_if rfl ?_ | refine j_else rfl ?_ | refine pkT rfl rfl rfl rfl ?_ | refine pkF rfl rfl rfl rfl ?_)
  refine j_cond rfl (fun h => ?_) (fun h => ?_)
  · have hlt : m < j - i - 1 := by have := of_decide_eq_true h; omega
    repeat (first | refine sX rfl rfl ?_ | (refine sS rfl rfl ?_ ?_; focus omega) | (refine sC rfl rfl ?_ ?_; focus (first | exact trivial | assumption | constructor <;> assumption | exact mb2 rfl rfl | exact mb4 rfl rfl rfl rfl)) | refine cX ?_ | refine cY ?_ | (refine sA rfl rfl ?_; intro _) | refine sT rfl ?_ | refine sF rfl ?_ | (refine sR rfl ?_ ?_; focus omega) | (refine sB rfl rfl ?_; intro _) | (refine sN rfl rfl ?_ ?_; (focus (first | exact trivial | assumption | constructor <;> assumption | exact mb2 rfl rfl | exact mb4 rfl rfl rfl rfl)); intro _; (try simp only [List.cons_append, List.nil_append, List.append_nil])) | refine sW rfl rfl ?_ | refine sK rfl rfl ?_ | refine j_if rfl ?_ | refine j_else rfl ?_ | refine pkT rfl rfl rfl rfl ?_ | refine pkF rfl rfl rfl rfl ?_)
    (refine jD 9 10 mixed (by kernel_rfl) ?_; (repeat (first | refine tX rfl rfl ?_ | (refine tS rfl rfl ?_ ?_; focus omega) | (refine tC rfl rfl ?_ ?_; focus (first | exact trivial | exact ⟨rfl, mb5 rfl rfl rfl rfl rfl⟩ | exact mb4 rfl rfl rfl rfl)) | refine tW rfl rfl ?_ | refine tK rfl rfl ?_ | refine Go.Vt.hq (wl_pickT rfl rfl) rfl rfl ?_ | refine Go.Vt.hq (wl_pickF rfl rfl) rfl rfl ?_)); refine jh_nil ?_; (repeat (refine wn_new ?_; intro _)); refine jn_nil ?_)
    have h1 := M_dv hB i j m
    repeat (first | refine sX rfl rfl ?_ | (refine sS rfl rfl ?_ ?_; focus omega) | (refine sC rfl rfl ?_ ?_; focus (exact ⟨Nat.le_trans h1 (by decide), MB.lt rfl⟩)) | refine cX ?_ | refine cY ?_ | (refine sA rfl rfl ?_; intro _) | refine sT rfl ?_ | refine sF rfl ?_ | (refine sR rfl ?_ ?_; focus omega) | (refine sB rfl rfl ?_; intro _) | (refine sN rfl rfl ?_ ?_; (focus (exact ⟨Nat.le_trans h1 (by decide), MB.lt rfl⟩)); intro _; (try simp only [List.cons_append, List.nil_append, List.append_nil])) | refine sW rfl rfl ?_ | refine sK rfl rfl ?_ | refine j_if rfl ?_ | refine j_else rfl ?_ | refine pkT rfl rfl rfl rfl ?_ | refine pkF rfl rfl rfl rfl ?_)
    exact jx_loop (m + 1) hlt (by repeat (first | exact sub_nil | refine sub_cons rfl ?_ | refine sub_cons' rfl (by congr 1; omega) ?_)) (by repeat (first | exact List.Sublist.refl _ | exact List.nil_sublist _ | refine List.Sublist.cons_cons _ ?_ | refine List.Sublist.cons _ ?_)) (by omega)
  · have hge : m = j - i - 1 := by have := of_decide_eq_false h; omega
    subst hge
    repeat (first | refine sX rfl rfl ?_ | (refine sS rfl rfl ?_ ?_; focus omega) | (refine sC rfl rfl ?_ ?_; focus (first | exact trivial | assumption | constructor <;> assumption | exact mb2 rfl rfl | exact mb4 rfl rfl rfl rfl)) | refine cX ?_ | refine cY ?_ | (refine sA rfl rfl ?_; intro _) | refine sT rfl ?_ | refine sF rfl ?_ | (refine sR rfl ?_ ?_; focus omega) | (refine sB rfl rfl ?_; intro _) | (refine sN rfl rfl ?_ ?_; (focus (first | exact trivial | assumption | constructor <;> assumption | exact mb2 rfl rfl | exact mb4 rfl rfl rfl rfl)); intro _; (try simp only [List.cons_append, List.nil_append, List.append_nil])) | refine sW rfl rfl ?_ | refine sK rfl rfl ?_ | refine j_if rfl ?_ | refine j_else rfl ?_ | refine pkT rfl rfl rfl rfl ?_ | refine pkF rfl rfl rfl rfl ?_)
    exact wx_cell rfl rfl (fun w hw => ret_ok hw)
instance sm_dev (w0 : World) (L : List Blk) (I : R_api_Interval) (b n c : Nat) (i j : Int) (pts : List R_movingpoint_Sample) (sp : List Value) (T : TypeId) [h : AtC w0 L b (row r_movingpoint_Sample pts sp) T] : SpecM Tryz.prog w0 L 46 [vRun I b n c, .int .i64 i, .int .i64 j] (vQ (dv pts i.toNat j.toNat (j.toNat - i.toNat - 1))) ((pts.length = n ∧ n ≤ c ∧ n ≤ 1099511627776 ∧ Bnd pts) ∧ 0 ≤ i ∧ i < j ∧ j < n) := ⟨fun hp w hw => by
  obtain ⟨⟨h1, h2, h3, h4⟩, h5, h6, h7⟩ := hp
  have := dev_spec I b n c i.toNat j.toNat pts sp T h1 h2 h4 (by omega) (by omega) h3 w (h.out w hw)
  rw [show ((i.toNat : Nat) : Int) = i by omega, show ((j.toNat : Nat) : Int) = j by omega] at this
  exact this⟩
end Go.Vt
/- The reference's deviations, and the functions on lists of indexes. Conditions: the lengths and indexes that each statement names. -/
set_option linter.unusedSimpArgs false
set_option linter.unusedVariables false
set_option maxRecDepth 100000
namespace Go.Vt
open Go.RowKit Go.Proofs
abbrev vL (b : Nat) (xs : List Int) (c : Nat) : Value := .slice (some ⟨b, 0, none⟩) xs.length c
theorem same_spec (a b ca cb : Nat) (xs ys : List Int) (spx spy : List Value) (Tx Ty : TypeId) (hx : xs.length ≤ 1099511627776) (w : World) (hwx : ∃ fz, w.heap[a]? = some (.cells (row (eI .i64) xs spx) Tx fz)) (hwy : ∃ fz, w.heap[b]? = some (.cells (row (eI .i64) ys spy) Ty fz)) :
    Calls Tryz.prog 43 [vL a xs ca, vL b ys cb].toArray w (Ret (.bool (decide (xs = ys))) w) := by
  have := FoC.mk hwx
  have := FoC.mk hwy
  refine fn_intro Tryz.func43 rfl Tryz.ntmps43 rfl ?_
  repeat (first | refine sX rfl rfl ?_ | (refine sS rfl rfl ?_ ?_; focus omega) | (refine sC rfl rfl ?_ ?_; focus (first | exact trivial | assumption | constructor <;> assumption | exact mb2 rfl rfl | exact mb4 rfl rfl rfl rfl)) | refine cX ?_ | refine cY ?_ | (refine sA rfl rfl ?_; intro _) | refine sT rfl ?_ | refine sF rfl ?_ | (refine sR rfl ?_ ?_; focus omega) | (refine sB rfl rfl ?_; intro _) | (refine sN rfl rfl ?_ ?_; (focus (first | exact trivial | assumption | constructor <;> assumption | exact mb2 rfl rfl | exact mb4 rfl rfl rfl rfl)); intro _; (try simp only [List.cons_append, List.nil_append, List.append_nil])) | refine sW rfl rfl ?_ | refine sK rfl rfl ?_ | refine j_if rfl ?_ | refine j_else rfl ?_ | refine pkT rfl rfl rfl rfl ?_ | refine pkF rfl rfl rfl rfl ?_)
  refine j_cond rfl (fun h => ?_) (fun h => ?_)
  · have hl : ¬ xs.length = ys.length := by
      have : ¬ (xs.length : Int) = ys.length := by simpa using h
      omega
    repeat (first | refine sX rfl rfl ?_ | (refine sS rfl rfl ?_ ?_; focus omega) | (refine sC rfl rfl ?_ ?_; focus (first | exact trivial | assumption | constructor <;> assumption | exact mb2 rfl rfl | exact mb4 rfl rfl rfl rfl)) | refine cX ?_ | refine cY ?_ | (refine sA rfl rfl ?_; intro _) | refine sT rfl ?_ | refine sF rfl ?_ | (refine sR rfl ?_ ?_; focus omega) | (refine sB rfl rfl ?_; intro _) | (refine sN rfl rfl ?_ ?_; (focus (first | exact trivial | assumption | constructor <;> assumption | exact mb2 rfl rfl | exact mb4 rfl rfl rfl rfl)); intro _; (try simp only [List.cons_append, List.nil_append, List.append_nil])) | refine sW rfl rfl ?_ | refine sK rfl rfl ?_ | refine j_if rfl ?_ | refine j_else rfl ?_ | refine pkT rfl rfl rfl rfl ?_ | refine pkF rfl rfl rfl rfl ?_)
    rw [decide_eq_false (fun h => hl (by rw [h]))]
    exact jx_ret_tmp rfl rfl (fun w hw => ret_ok hw)
  have hl : xs.length = ys.length := by
    have : (xs.length : Int) = ys.length := by simpa using h
    omega
  repeat (first | refine sX rfl rfl ?_ | (refine sS rfl rfl ?_ ?_; focus omega) | (refine sC rfl rfl ?_ ?_; focus (first | exact trivial | assumption | constructor <;> assumption | exact mb2 rfl rfl | exact mb4 rfl rfl rfl rfl)) | refine cX ?_ | refine cY ?_ | (refine sA rfl rfl ?_; intro _) | refine sT rfl ?_ | refine sF rfl ?_ | (refine sR rfl ?_ ?_; focus omega) | (refine sB rfl rfl ?_; intro _) | (refine sN rfl rfl ?_ ?_; (focus (first | exact trivial | assumption | constructor <;> assumption | exact mb2 rfl rfl | exact mb4 rfl rfl rfl rfl)); intro _; (try simp only [List.cons_append, List.nil_append, List.append_nil])) | refine sW rfl rfl ?_ | refine sK rfl rfl ?_ | refine j_if rfl ?_ | refine j_else rfl ?_ | refine pkT rfl rfl rfl rfl ?_ | refine pkF rfl rfl rfl rfl ?_)
  refine j_loop (S := Nat) (fun m => m ≤ xs.length ∧ xs.take m = ys.take m) (fun m => [(0, vL a xs ca), (1, vL b ys cb), (5, .int .i64 (m : Nat))]) (fun _ => []) (fun m => xs.length - m) 0 ⟨Nat.zero_le _, by simp⟩ (by repeat (first | exact sub_nil | refine sub_cons rfl ?_ | refine sub_cons' rfl (by congr 1; omega) ?_)) sbl (fun m hm => ?_)
  obtain ⟨hm, ht⟩ := hm
  repeat (first | refine sX rfl rfl ?_ | (refine sS rfl rfl ?_ ?_; focus omega) | (refine sC rfl rfl ?_ ?_; focus (first | exact trivial | assumption | constructor <;> assumption | exact mb2 rfl rfl | exact mb4 rfl rfl rfl rfl)) | refine cX ?_ | refine cY ?_ | (refine sA rfl rfl ?_; intro _) | refine sT rfl ?_ | refine sF rfl ?_ | (refine sR rfl ?_ ?_; focus omega) | (refine sB rfl rfl ?_; intro _) | (refine sN rfl rfl ?_ ?_; (focus (first | exact trivial | assumption | constructor <;> assumption | exact mb2 rfl rfl | exact mb4 rfl rfl rfl rfl)); intro _; (try simp only [List.cons_append, List.nil_append, List.append_nil])) | refine sW rfl rfl ?_ | refine sK rfl rfl ?_ | refine j_if rfl ?_ | refine j_else rfl ?_ | refine pkT rfl rfl rfl rfl ?_ | refine pkF rfl rfl rfl rfl ?_)
  refine j_cond rfl (fun h => ?_) (fun h => ?_)
  · have hlt : m < xs.length := by have := of_decide_eq_true h; omega
    repeat (first | refine sX rfl rfl ?_ | (refine sS rfl rfl ?_ ?_; focus omega) | (refine sC rfl rfl ?_ ?_; focus (first | exact trivial | assumption | constructor <;> assumption | exact mb2 rfl rfl | exact mb4 rfl rfl rfl rfl)) | refine cX ?_ | refine cY ?_ | (refine sA rfl rfl ?_; intro _) | refine sT rfl ?_ | refine sF rfl ?_ | (refine sR rfl ?_ ?_; focus omega) | (refine sB rfl rfl ?_; intro _) | (refine sN rfl rfl ?_ ?_; (focus (first | exact trivial | assumption | constructor <;> assumption | exact mb2 rfl rfl | exact mb4 rfl rfl rfl rfl)); intro _; (try simp only [List.cons_append, List.nil_append, List.append_nil])) | refine sW rfl rfl ?_ | refine sK rfl rfl ?_ | refine j_if rfl ?_ | refine j_else rfl ?_ | refine pkT rfl rfl rfl rfl ?_ | refine pkF rfl rfl rfl rfl ?_)
    (refine jD 9 9 mixed (by kernel_rfl) ?_; (repeat (first | refine tX rfl rfl ?_ | (refine tS rfl rfl ?_ ?_; focus omega) | (refine tC rfl rfl ?_ ?_; focus (first | exact trivial | assumption | constructor <;> assumption | exact mb2 rfl rfl | exact mb4 rfl rfl rfl rfl)) | refine tW rfl rfl ?_ | refine tK rfl rfl ?_ | refine Go.Vt.hq (wl_pickT rfl rfl) rfl rfl ?_ | refine Go.Vt.hq (wl_pickF rfl rfl) rfl rfl ?_)); refine jh_nil ?_; (repeat (refine wn_new ?_; intro _)); refine jn_nil ?_)
    repeat (first | refine sX rfl rfl ?_ | (refine sS rfl rfl ?_ ?_; focus omega) | (refine sC rfl rfl ?_ ?_; focus (first | exact trivial | assumption | constructor <;> assumption | exact mb2 rfl rfl | exact mb4 rfl rfl rfl rfl)) | refine cX ?_ | refine cY ?_ | (refine sA rfl rfl ?_; intro _) | refine sT rfl ?_ | refine sF rfl ?_ | (refine sR rfl ?_ ?_; focus omega) | (refine sB rfl rfl ?_; intro _) | (refine sN rfl rfl ?_ ?_; (focus (first | exact trivial | assumption | constructor <;> assumption | exact mb2 rfl rfl | exact mb4 rfl rfl rfl rfl)); intro _; (try simp only [List.cons_append, List.nil_append, List.append_nil])) | refine sW rfl rfl ?_ | refine sK rfl rfl ?_ | refine j_if rfl ?_ | refine j_else rfl ?_ | refine pkT rfl rfl rfl rfl ?_ | refine pkF rfl rfl rfl rfl ?_)
    rw [gi_nat hlt, gi_nat (xs := ys) (by omega)]
    refine j_cond rfl (fun h => ?_) (fun h => ?_)
    · have hne : ¬ xs[m] = ys[m] := by simpa using h
      repeat (first | refine sX rfl rfl ?_ | (refine sS rfl rfl ?_ ?_; focus omega) | (refine sC rfl rfl ?_ ?_; focus (first | exact trivial | assumption | constructor <;> assumption | exact mb2 rfl rfl | exact mb4 rfl rfl rfl rfl)) | refine cX ?_ | refine cY ?_ | (refine sA rfl rfl ?_; intro _) | refine sT rfl ?_ | refine sF rfl ?_ | (refine sR rfl ?_ ?_; focus omega) | (refine sB rfl rfl ?_; intro _) | (refine sN rfl rfl ?_ ?_; (focus (first | exact trivial | assumption | constructor <;> assumption | exact mb2 rfl rfl | exact mb4 rfl rfl rfl rfl)); intro _; (try simp only [List.cons_append, List.nil_append, List.append_nil])) | refine sW rfl rfl ?_ | refine sK rfl rfl ?_ | refine j_if rfl ?_ | refine j_else rfl ?_ | refine pkT rfl rfl rfl rfl ?_ | refine pkF rfl rfl rfl rfl ?_)
      rw [decide_eq_false (fun h => hne (by subst h; rfl))]
      exact jx_ret_tmp rfl rfl (fun w hw => ret_ok hw)
    · have heq : xs[m] = ys[m] := by simpa using h
      repeat (first | refine sX rfl rfl ?_ | (refine sS rfl rfl ?_ ?_; focus omega) | (refine sC rfl rfl ?_ ?_; focus (first | exact trivial | assumption | constructor <;> assumption | exact mb2 rfl rfl | exact mb4 rfl rfl rfl rfl)) | refine cX ?_ | refine cY ?_ | (refine sA rfl rfl ?_; intro _) | refine sT rfl ?_ | refine sF rfl ?_ | (refine sR rfl ?_ ?_; focus omega) | (refine sB rfl rfl ?_; intro _) | (refine sN rfl rfl ?_ ?_; (focus (first | exact trivial | assumption | constructor <;> assumption | exact mb2 rfl rfl | exact mb4 rfl rfl rfl rfl)); intro _; (try simp only [List.cons_append, List.nil_append, List.append_nil])) | refine sW rfl rfl ?_ | refine sK rfl rfl ?_ | refine j_if rfl ?_ | refine j_else rfl ?_ | refine pkT rfl rfl rfl rfl ?_ | refine pkF rfl rfl rfl rfl ?_)
      exact jx_loop (m + 1) ⟨hlt, by rw [List.take_succ_eq_append_getElem hlt, List.take_succ_eq_append_getElem (by omega), ht, heq]⟩ (by repeat (first | exact sub_nil | refine sub_cons rfl ?_ | refine sub_cons' rfl (by congr 1; omega) ?_)) sbl (by omega)
  · have hge : m = xs.length := by have := of_decide_eq_false h; omega
    subst hge
    rw [List.take_of_length_le (Nat.le_refl _), List.take_of_length_le (by omega)] at ht
    repeat (first | refine sX rfl rfl ?_ | (refine sS rfl rfl ?_ ?_; focus omega) | (refine sC rfl rfl ?_ ?_; focus (first | exact trivial | assumption | constructor <;> assumption | exact mb2 rfl rfl | exact mb4 rfl rfl rfl rfl)) | refine cX ?_ | refine cY ?_ | (refine sA rfl rfl ?_; intro _) | refine sT rfl ?_ | refine sF rfl ?_ | (refine sR rfl ?_ ?_; focus omega) | (refine sB rfl rfl ?_; intro _) | (refine sN rfl rfl ?_ ?_; (focus (first | exact trivial | assumption | constructor <;> assumption | exact mb2 rfl rfl | exact mb4 rfl rfl rfl rfl)); intro _; (try simp only [List.cons_append, List.nil_append, List.append_nil])) | refine sW rfl rfl ?_ | refine sK rfl rfl ?_ | refine j_if rfl ?_ | refine j_else rfl ?_ | refine pkT rfl rfl rfl rfl ?_ | refine pkF rfl rfl rfl rfl ?_)
    rw [decide_eq_true ht]
    exact jx_ret_tmp rfl rfl (fun w hw => ret_ok hw)
end Go.Vt
/- The best kept breakpoints: the program's table. Conditions: the lengths that each statement names. -/
set_option linter.unusedSimpArgs false
set_option linter.unusedVariables false
set_option maxRecDepth 100000
namespace Go.Vt
open Go.RowKit Go.Proofs
/-- The samples of a run in memory: how many, how short. -/
def RunOk (pts : List R_movingpoint_Sample) (n c : Nat) : Prop := pts.length = n ∧ n ≤ c ∧ n ≤ 1099511627776 ∧ Bnd pts
/-- Is the straight way from 'i' to 'k' enough? -/
def okd (pts : List R_movingpoint_Sample) (mo : Rat) (i k : Nat) : Bool := decide (dv pts i k (k - i - 1) ≤ mo)
abbrev rS := r_movingpoint_Sample
abbrev cRun (r : R_api_Interval) (b n c : Nat) : Array Value := e_simplify_Run (q_simplify_Run ⟨r, ⟨some ⟨b, 0, none⟩, n, c⟩⟩)
theorem enough1_spec (I : R_api_Interval) (b n c i j b1 b2 : Nat) (mo : Rat) (pts : List R_movingpoint_Sample) (sp : List Value) (T T1 T2 : TypeId) (hr : RunOk pts n c) (hmo : M mo ≤ LQ) (hij : i < j) (hj : j < n) (w : World) (hw : ∃ fz, w.heap[b]? = some (.cells (row rS pts sp) T fz)) (hw1 : ∃ fz, w.heap[b1]? = some (.cells (cRun I b n c) T1 fz)) (hw2 : ∃ fz, w.heap[b2]? = some (.cells (e_api_Rat (Q mo)) T2 fz)) :
    Calls Tryz.prog 130 [.int .i64 i, .int .i64 j, .pointer (some ⟨b1, 0, none⟩), .pointer (some ⟨b2, 0, none⟩)].toArray w (Ret (.bool (okd pts mo i j)) w) := by
  have := FoC.mk hw
  have := FoC.mk hw1
  have := FoC.mk hw2
  have h1 := M_dv hr.2.2.2 i j (j - i - 1)
  refine fn_intro Tryz.func130 rfl Tryz.ntmps130 rfl ?_
  repeat (first | refine sX rfl rfl ?_ | (refine sS rfl rfl ?_ ?_; focus omega) | (refine sC rfl rfl ?_ ?_; focus (first | exact trivial | assumption | constructor <;> assumption | exact mb2 rfl rfl | exact mb4 rfl rfl rfl rfl)) | refine cX ?_ | refine cY ?_ | (refine sA rfl rfl ?_; intro _) | refine sT rfl ?_ | refine sF rfl ?_ | (refine sR rfl ?_ ?_; focus omega) | (refine sB rfl rfl ?_; intro _) | (refine sN rfl rfl ?_ ?_; (focus (first | exact trivial | assumption | constructor <;> assumption | exact mb2 rfl rfl | exact mb4 rfl rfl rfl rfl)); intro _; (try simp only [List.cons_append, List.nil_append, List.append_nil])) | refine sW rfl rfl ?_ | refine sK rfl rfl ?_ | refine j_if rfl ?_ | refine j_else rfl ?_ | refine pkT rfl rfl rfl rfl ?_ | refine pkF rfl rfl rfl rfl ?_)
  (refine jD 7 7 mixed (by kernel_rfl) ?_; (repeat (first | refine tX rfl rfl ?_ | (refine tS rfl rfl ?_ ?_; focus omega) | (refine tC rfl rfl ?_ ?_; focus (first | exact ⟨hr, by omega, by omega, by omega⟩ | exact ⟨Nat.le_trans h1 (by decide), hmo⟩)) | refine tW rfl rfl ?_ | refine tK rfl rfl ?_ | refine Go.Vt.hq (wl_pickT rfl rfl) rfl rfl ?_ | refine Go.Vt.hq (wl_pickF rfl rfl) rfl rfl ?_)); refine jh_nil ?_; (repeat (refine wn_new ?_; intro _)); refine jn_nil ?_)
  repeat (first | refine sX rfl rfl ?_ | (refine sS rfl rfl ?_ ?_; focus omega) | (refine sC rfl rfl ?_ ?_; focus (first | exact trivial | assumption | constructor <;> assumption | exact mb2 rfl rfl | exact mb4 rfl rfl rfl rfl)) | refine cX ?_ | refine cY ?_ | (refine sA rfl rfl ?_; intro _) | refine sT rfl ?_ | refine sF rfl ?_ | (refine sR rfl ?_ ?_; focus omega) | (refine sB rfl rfl ?_; intro _) | (refine sN rfl rfl ?_ ?_; (focus (first | exact trivial | assumption | constructor <;> assumption | exact mb2 rfl rfl | exact mb4 rfl rfl rfl rfl)); intro _; (try simp only [List.cons_append, List.nil_append, List.append_nil])) | refine sW rfl rfl ?_ | refine sK rfl rfl ?_ | refine j_if rfl ?_ | refine j_else rfl ?_ | refine pkT rfl rfl rfl rfl ?_ | refine pkF rfl rfl rfl rfl ?_)
  simp only [Int.toNat_natCast]
  rw [show decide (cq (dv pts i j (j - i - 1)) mo ≤ 0) = okd pts mo i j by unfold okd; rw [decide_eq_decide]; exact cq_le]
  exact jx_ret_tmp rfl rfl (fun w hw => ret_ok hw)
instance sm_enough1 (w0 : World) (L : List Blk) (I : R_api_Interval) (b n c b1 b2 : Nat) (i j : Int) (mo : Rat) (pts : List R_movingpoint_Sample) (sp : List Value) (T T1 T2 : TypeId) [h1 : AtC w0 L b1 (cRun I b n c) T1] [h2 : AtC w0 L b2 (e_api_Rat (Q mo)) T2] [h : AtC w0 L b (row rS pts sp) T] : SpecM Tryz.prog w0 L 130 [.int .i64 i, .int .i64 j, .pointer (some ⟨b1, 0, none⟩), .pointer (some ⟨b2, 0, none⟩)] (.bool (okd pts mo i.toNat j.toNat)) (RunOk pts n c ∧ M mo ≤ LQ ∧ 0 ≤ i ∧ i < j ∧ j < n) := ⟨fun hp w hw => by
  obtain ⟨g1, g2, g3, g4, g5⟩ := hp
  have := enough1_spec I b n c i.toNat j.toNat b1 b2 mo pts sp T T1 T2 g1 g2 (by omega) (by omega) w (h.out w hw) (h1.out w hw) (h2.out w hw)
  rw [show ((i.toNat : Nat) : Int) = i by omega, show ((j.toNat : Nat) : Int) = j by omega] at this
  exact this⟩
instance sr_enough (w0 : World) (L : List Blk) (I : R_api_Interval) (b n c : Nat) (d : Rat) : SpecR Tryz.prog w0 L 90 [vRun I b n c, vQ d] (Nat × Nat) (fun s => .func (.func 130) #[] #[.pointer (some ⟨s.1, 0, none⟩), .pointer (some ⟨s.2, 0, none⟩)]) (fun s => [⟨s.2, e_api_Rat (Q (d * d)), 28⟩, ⟨s.1, cRun I b n c, 35⟩]) (M d ≤ LQ) := ⟨fun hp w _ => by
  refine fn_intro Tryz.func90 rfl Tryz.ntmps90 rfl ?_
  repeat (first | refine sX rfl rfl ?_ | (refine sS rfl rfl ?_ ?_; focus omega) | (refine sC rfl rfl ?_ ?_; focus (first | exact trivial | assumption | constructor <;> assumption | exact mb2 rfl rfl | exact mb4 rfl rfl rfl rfl)) | refine cX ?_ | refine cY ?_ | (refine sA rfl rfl ?_; intro _) | refine sT rfl ?_ | refine sF rfl ?_ | (refine sR rfl ?_ ?_; focus omega) | (refine sB rfl rfl ?_; intro _) | (refine sN rfl rfl ?_ ?_; (focus (first | exact trivial | assumption | constructor <;> assumption | exact mb2 rfl rfl | exact mb4 rfl rfl rfl rfl)); intro _; (try simp only [List.cons_append, List.nil_append, List.append_nil])) | refine sW rfl rfl ?_ | refine sK rfl rfl ?_ | refine j_if rfl ?_ | refine j_else rfl ?_ | refine pkT rfl rfl rfl rfl ?_ | refine pkF rfl rfl rfl rfl ?_)
  rename_i b1 b2 b3
  exact jx_ret_tmp rfl rfl (fun w hw => ⟨(b1, b3), rfl, hw.sub sbl⟩)⟩
theorem gi_set {xs : List Int} {i j : Nat} {z : Int} (hi : i < xs.length) : gi (xs.set i z) (j : Int) = if i = j then z else gi xs (j : Int) := by
  unfold gi
  simp only [Int.toNat_natCast, List.getD_eq_getElem?_getD, List.getElem?_set]
  split
  · simp [hi]
  · rfl
/-- One test: from 'i' by 'k'. -/
def stp (ok : Nat → Nat → Bool) (i k : Nat) (s : List Int × List Int) : List Int × List Int := if (gi s.1 (i : Int) = 0 ∨ gi s.2 (k : Int) + 1 ≤ gi s.2 (i : Int)) ∧ ok i k = true then (s.1.set i (k : Int), s.2.set i (gi s.2 (k : Int) + 1)) else s
/-- All tests from 'i', the last one first. -/
def inn (ok : Nat → Nat → Bool) (l i : Nat) : Nat → List Int × List Int → List Int × List Int
  | 0, s => s
  | q + 1, s => stp ok i (l - q) (inn ok l i q s)
/-- The last 'm' places. -/
def ou (ok : Nat → Nat → Bool) (l : Nat) : Nat → List Int × List Int
  | 0 => (List.replicate (l + 1) 0, List.replicate (l + 1) 0)
  | m + 1 => inn ok l (l - 1 - m) (m + 1) (ou ok l m)
structure WF (l : Nat) (s : List Int × List Int) : Prop where
  l1 : s.1.length = l + 1
  l2 : s.2.length = l + 1
  b2 : ∀ j : Nat, j ≤ l → 0 ≤ gi s.2 (j : Int) ∧ gi s.2 (j : Int) ≤ (l : Int) - j
  b1 : ∀ j : Nat, j ≤ l → gi s.1 (j : Int) = 0 ∨ ((j : Int) < gi s.1 (j : Int) ∧ gi s.1 (j : Int) ≤ l)
variable {ok : Nat → Nat → Bool} {l i k : Nat} {s : List Int × List Int}
theorem WF.stp (h : WF l s) (hik : i < k) (hk : k ≤ l) : WF l (Go.Vt.stp ok i k s) := by
  unfold Go.Vt.stp
  split
  · have hk2 := h.b2 k hk
    refine ⟨by simpa using h.l1, by simpa using h.l2, fun j hj => ?_, fun j hj => ?_⟩
    · rw [gi_set (by rw [h.l2]; omega)]
      split
      · omega
      · exact h.b2 j hj
    · rw [gi_set (by rw [h.l1]; omega)]
      split
      · omega
      · exact h.b1 j hj
  · exact h
theorem WF.inn (h : WF l s) (hi : i < l) : ∀ q, q ≤ l - i → WF l (Go.Vt.inn ok l i q s)
  | 0, _ => h
  | q + 1, hq => (WF.inn h hi q (by omega)).stp (by omega) (by omega)
theorem gi_rep (m j : Nat) : gi (List.replicate m (0 : Int)) (j : Int) = 0 := by
  unfold gi
  simp only [Int.toNat_natCast, List.getD_eq_getElem?_getD, List.getElem?_replicate]
  split <;> rfl
theorem WF.ou : ∀ m, m ≤ l → WF l (Go.Vt.ou ok l m)
  | 0, _ => ⟨by simp [Go.Vt.ou], by simp [Go.Vt.ou], fun j hj => by simp only [Go.Vt.ou, gi_rep]; omega, fun j hj => by simp only [Go.Vt.ou, gi_rep]; exact .inl trivial⟩
  | m + 1, hm => (WF.ou m (by omega)).inn (by omega) _ (by omega)
/-- Elsewhere nothing turns. -/
theorem stp_other {j : Nat} (h : WF l s) (hi : i ≤ l) (hij : i ≠ j) : gi (stp ok i k s).1 (j : Int) = gi s.1 (j : Int) ∧ gi (stp ok i k s).2 (j : Int) = gi s.2 (j : Int) := by
  unfold stp
  split
  · simp only [gi_set (show i < s.1.length by rw [h.l1]; omega), gi_set (show i < s.2.length by rw [h.l2]; omega), if_neg hij]
    exact ⟨trivial, trivial⟩
  · exact ⟨rfl, rfl⟩
theorem inn_other {j : Nat} (h : WF l s) (hi : i < l) (hij : i ≠ j) : ∀ q, q ≤ l - i → gi (inn ok l i q s).1 (j : Int) = gi s.1 (j : Int) ∧ gi (inn ok l i q s).2 (j : Int) = gi s.2 (j : Int)
  | 0, _ => ⟨rfl, rfl⟩
  | q + 1, hq => by
    have h1 := inn_other h hi hij q (by omega)
    have h2 := stp_other (ok := ok) (k := l - q) (h.inn (ok := ok) hi q (by omega)) (by omega) hij
    exact ⟨h2.1.trans h1.1, h2.2.trans h1.2⟩
theorem stp_set (h : WF l s) (hi : i ≤ l) (hk : k ≠ 0) (hok : ok i k = true) : gi (stp ok i k s).1 (i : Int) ≠ 0 := by
  unfold stp
  split
  · rw [gi_set (by rw [h.l1]; omega), if_pos rfl]
    omega
  · rename_i hn
    intro h0
    exact hn ⟨.inl h0, hok⟩
theorem ou_next (hok : ∀ i, i < l → ok i (i + 1) = true) : ∀ m, m ≤ l → ∀ j : Nat, j < l → l - m ≤ j → (j : Int) < gi (ou ok l m).1 (j : Int) ∧ gi (ou ok l m).1 (j : Int) ≤ l
  | 0, _, j, h1, h2 => by omega
  | m + 1, hm, j, h1, h2 => by
    have hw := WF.ou (ok := ok) m (show m ≤ l by omega)
    have hi : l - 1 - m < l := by omega
    by_cases hj : l - 1 - m = j
    · have hb := (WF.ou (ok := ok) (m + 1) hm).b1 j (by omega)
      have hne : gi (ou ok l (m + 1)).1 (j : Int) ≠ 0 := by
        rw [← hj, ou, inn]
        refine stp_set (hw.inn hi m (by omega)) (by omega) (by omega) ?_
        have := hok (l - 1 - m) hi
        rwa [show l - m = l - 1 - m + 1 by omega]
      exact hb.resolve_left hne
    · have h3 := ou_next hok m (by omega) j h1 (by omega)
      have h4 := inn_other (ok := ok) hw hi hj (m + 1) (by omega)
      rw [ou, h4.1]
      exact h3
/-- The way along the table. -/
def chn (nx : List Int) (l : Nat) : Nat → Int → List Int
  | 0, _ => []
  | f + 1, i => if i < l then gi nx i :: chn nx l f (gi nx i) else []
def keptL (ok : Nat → Nat → Bool) (l : Nat) : List Int := 0 :: chn (ou ok l l).1 l l 0
theorem okd_next {pts : List R_movingpoint_Sample} {d : Rat} (i : Nat) : okd pts (d * d) i (i + 1) = true := by
  unfold okd
  rw [show i + 1 - i - 1 = 0 by omega]
  refine decide_eq_true ?_
  have : 0 ≤ d * d := by
    rcases Rat.le_total (a := 0) (b := d) with h | h
    · exact Rat.mul_nonneg h h
    · have h2 : 0 ≤ -d := by grind
      have := Rat.mul_nonneg h2 h2
      grind
  exact this
theorem sign_nonneg {q : Rat} (h : 0 ≤ q) : ¬ q.num.sign < 0 := by
  intro h1
  have h2 := Int.sign_neg_iff.1 h1
  have h3 := Rat.num_nonneg.2 h
  omega
theorem kept_spec (I : R_api_Interval) (b l c : Nat) (d : Rat) (pts : List R_movingpoint_Sample) (sp : List Value) (T : TypeId) (hr : RunOk pts (l + 1) c) (hl : l ≤ 1048576) (hd : M d ≤ 1073741824) (hd0 : 0 ≤ d) (w : World) (hw : ∃ fz, w.heap[b]? = some (.cells (row rS pts sp) T fz)) :
    Calls Tryz.prog 39 [vRun I b (l + 1) c, vQ d].toArray w (RetM { s : Nat × Nat × List Value // (keptL (okd pts (d * d)) l).length ≤ s.2.1 } (fun s => .tuple #[vL s.1.1 (keptL (okd pts (d * d)) l) s.1.2.1, .int .i64 0]) (fun s => [⟨s.1.1, row (eI .i64) (keptL (okd pts (d * d)) l) s.1.2.2, 3⟩]) w) := by
  have := FoC.mk hw
  have hdd : M (d * d) ≤ LQ := Nat.le_trans (M_mul d d) (by have : LQ = 274877906944 := rfl; omega)
  have hd' : M d ≤ LQ := Nat.le_trans hd (by decide)
  refine fn_intro Tryz.func39 rfl Tryz.ntmps39 rfl ?_
  repeat (first | refine sX rfl rfl ?_ | (refine sS rfl rfl ?_ ?_; focus omega) | (refine sC rfl rfl ?_ ?_; focus (first | exact trivial | assumption | constructor <;> assumption | exact mb2 rfl rfl | exact mb4 rfl rfl rfl rfl)) | refine cX ?_ | refine cY ?_ | (refine sA rfl rfl ?_; intro _) | refine sT rfl ?_ | refine sF rfl ?_ | (refine sR rfl ?_ ?_; focus omega) | (refine sB rfl rfl ?_; intro _) | (refine sN rfl rfl ?_ ?_; (focus (first | exact trivial | assumption | constructor <;> assumption | exact mb2 rfl rfl | exact mb4 rfl rfl rfl rfl)); intro _; (try simp only [List.cons_append, List.nil_append, List.append_nil])) | refine sW rfl rfl ?_ | refine sK rfl rfl ?_ | refine j_if rfl ?_ | refine j_else rfl ?_ | refine pkT rfl rfl rfl rfl ?_ | refine pkF rfl rfl rfl rfl ?_)
  refine j_else (by rw [decide_eq_false (sign_nonneg hd0)]; rfl) ?_
  repeat (first | refine sX rfl rfl ?_ | (refine sS rfl rfl ?_ ?_; focus omega) | (refine sC rfl rfl ?_ ?_; focus (first | exact trivial | assumption | constructor <;> assumption | exact mb2 rfl rfl | exact mb4 rfl rfl rfl rfl)) | refine cX ?_ | refine cY ?_ | (refine sA rfl rfl ?_; intro _) | refine sT rfl ?_ | refine sF rfl ?_ | (refine sR rfl ?_ ?_; focus omega) | (refine sB rfl rfl ?_; intro _) | (refine sN rfl rfl ?_ ?_; (focus (first | exact trivial | assumption | constructor <;> assumption | exact mb2 rfl rfl | exact mb4 rfl rfl rfl rfl)); intro _; (try simp only [List.cons_append, List.nil_append, List.append_nil])) | refine sW rfl rfl ?_ | refine sK rfl rfl ?_ | refine j_if rfl ?_ | refine j_else rfl ?_ | refine pkT rfl rfl rfl rfl ?_ | refine pkF rfl rfl rfl rfl ?_)
  rename_i b2 b3 q
  obtain ⟨b1, bm⟩ := q
  have e1 : ((l + 1 : Nat) : Int) - 1 = (l : Int) := by omega
  have e2 : (l : Int) + 1 = ((l + 1 : Nat) : Int) := by omega
  simp only [e1, e2]
  refine sM rfl rfl ⟨by omega, by omega⟩ ?_
  intro bn
  repeat (first | refine sX rfl rfl ?_ | (refine sS rfl rfl ?_ ?_; focus omega) | (refine sC rfl rfl ?_ ?_; focus (first | exact trivial | assumption | constructor <;> assumption | exact mb2 rfl rfl | exact mb4 rfl rfl rfl rfl)) | refine cX ?_ | refine cY ?_ | (refine sA rfl rfl ?_; intro _) | refine sT rfl ?_ | refine sF rfl ?_ | (refine sR rfl ?_ ?_; focus omega) | (refine sB rfl rfl ?_; intro _) | (refine sN rfl rfl ?_ ?_; (focus (first | exact trivial | assumption | constructor <;> assumption | exact mb2 rfl rfl | exact mb4 rfl rfl rfl rfl)); intro _; (try simp only [List.cons_append, List.nil_append, List.append_nil])) | refine sW rfl rfl ?_ | refine sK rfl rfl ?_ | refine j_if rfl ?_ | refine j_else rfl ?_ | refine pkT rfl rfl rfl rfl ?_ | refine pkF rfl rfl rfl rfl ?_)
  simp only [e2]
  refine sM rfl rfl ⟨by omega, by omega⟩ ?_
  intro bl
  repeat (first | refine sX rfl rfl ?_ | (refine sS rfl rfl ?_ ?_; focus omega) | (refine sC rfl rfl ?_ ?_; focus (first | exact trivial | assumption | constructor <;> assumption | exact mb2 rfl rfl | exact mb4 rfl rfl rfl rfl)) | refine cX ?_ | refine cY ?_ | (refine sA rfl rfl ?_; intro _) | refine sT rfl ?_ | refine sF rfl ?_ | (refine sR rfl ?_ ?_; focus omega) | (refine sB rfl rfl ?_; intro _) | (refine sN rfl rfl ?_ ?_; (focus (first | exact trivial | assumption | constructor <;> assumption | exact mb2 rfl rfl | exact mb4 rfl rfl rfl rfl)); intro _; (try simp only [List.cons_append, List.nil_append, List.append_nil])) | refine sW rfl rfl ?_ | refine sK rfl rfl ?_ | refine j_if rfl ?_ | refine j_else rfl ?_ | refine pkT rfl rfl rfl rfl ?_ | refine pkF rfl rfl rfl rfl ?_)
  generalize hok : okd pts (d * d) = ok at *
  refine j_loop (S := Nat) (fun m => m ≤ l) (fun m => [(5, .int .i64 0), (6, .func (.func 130) #[] #[.pointer (some ⟨b1, 0, none⟩), .pointer (some ⟨bm, 0, none⟩)]), (7, .int .i64 (l : Nat)), (8, .slice (some ⟨bn, 0, none⟩) (l + 1) (l + 1)), (9, .slice (some ⟨bl, 0, none⟩) (l + 1) (l + 1)), (10, .int .i64 ((l : Int) - 1 - (m : Nat)))])
    (fun m => [⟨bl, row (eI .i64) (ou ok l m).2 [], 3⟩, ⟨bn, row (eI .i64) (ou ok l m).1 [], 3⟩, ⟨bm, e_api_Rat (Q (d * d)), 28⟩, ⟨b1, cRun I b (l + 1) c, 35⟩]) (fun m => l - m) 0 (Nat.zero_le _)
    (by repeat (first | exact sub_nil | refine sub_cons rfl ?_ | refine sub_cons' rfl (by congr 1; omega) ?_)) (by repeat (first | exact List.Sublist.refl _ | exact List.nil_sublist _ | refine List.Sublist.cons_cons _ ?_ | refine List.Sublist.cons _ ?_)) (fun m hm => ?_)
  have hwf := WF.ou (ok := ok) (l := l) m hm
  repeat (first | refine sX rfl rfl ?_ | (refine sS rfl rfl ?_ ?_; focus omega) | (refine sC rfl rfl ?_ ?_; focus (first | exact trivial | assumption | constructor <;> assumption | exact mb2 rfl rfl | exact mb4 rfl rfl rfl rfl)) | refine cX ?_ | refine cY ?_ | (refine sA rfl rfl ?_; intro _) | refine sT rfl ?_ | refine sF rfl ?_ | (refine sR rfl ?_ ?_; focus omega) | (refine sB rfl rfl ?_; intro _) | (refine sN rfl rfl ?_ ?_; (focus (first | exact trivial | assumption | constructor <;> assumption | exact mb2 rfl rfl | exact mb4 rfl rfl rfl rfl)); intro _; (try simp only [List.cons_append, List.nil_append, List.append_nil])) | refine sW rfl rfl ?_ | refine sK rfl rfl ?_ | refine j_if rfl ?_ | refine j_else rfl ?_ | refine pkT rfl rfl rfl rfl ?_ | refine pkF rfl rfl rfl rfl ?_)
  refine j_cond rfl (fun h => ?_) (fun h => ?_)
  · have hlt : m < l := by have := of_decide_eq_true h; omega
    obtain ⟨i, hi⟩ : ∃ i, i = l - 1 - m := ⟨_, rfl⟩
    have hil : i < l := by omega
    have ei : (l : Int) - 1 - (m : Int) = (i : Int) := by omega
    simp only [ei]
    repeat (first | refine sX rfl rfl ?_ | (refine sS rfl rfl ?_ ?_; focus omega) | (refine sC rfl rfl ?_ ?_; focus (first | exact trivial | assumption | constructor <;> assumption | exact mb2 rfl rfl | exact mb4 rfl rfl rfl rfl)) | refine cX ?_ | refine cY ?_ | (refine sA rfl rfl ?_; intro _) | refine sT rfl ?_ | refine sF rfl ?_ | (refine sR rfl ?_ ?_; focus omega) | (refine sB rfl rfl ?_; intro _) | (refine sN rfl rfl ?_ ?_; (focus (first | exact trivial | assumption | constructor <;> assumption | exact mb2 rfl rfl | exact mb4 rfl rfl rfl rfl)); intro _; (try simp only [List.cons_append, List.nil_append, List.append_nil])) | refine sW rfl rfl ?_ | refine sK rfl rfl ?_ | refine j_if rfl ?_ | refine j_else rfl ?_ | refine pkT rfl rfl rfl rfl ?_ | refine pkF rfl rfl rfl rfl ?_)
    refine j_loop (S := Nat) (fun q => q ≤ l - i) (fun q => [(5, .int .i64 0), (6, .func (.func 130) #[] #[.pointer (some ⟨b1, 0, none⟩), .pointer (some ⟨bm, 0, none⟩)]), (7, .int .i64 (l : Nat)), (8, .slice (some ⟨bn, 0, none⟩) (l + 1) (l + 1)), (9, .slice (some ⟨bl, 0, none⟩) (l + 1) (l + 1)), (10, .int .i64 (i : Nat)), (11, .int .i64 ((l : Int) - (q : Nat)))])
      (fun q => [⟨bl, row (eI .i64) (inn ok l i q (ou ok l m)).2 [], 3⟩, ⟨bn, row (eI .i64) (inn ok l i q (ou ok l m)).1 [], 3⟩, ⟨bm, e_api_Rat (Q (d * d)), 28⟩, ⟨b1, cRun I b (l + 1) c, 35⟩]) (fun q => l - i - q) 0 (Nat.zero_le _)
      (by repeat (first | exact sub_nil | refine sub_cons rfl ?_ | refine sub_cons' rfl (by congr 1; omega) ?_)) (by repeat (first | exact List.Sublist.refl _ | exact List.nil_sublist _ | refine List.Sublist.cons_cons _ ?_ | refine List.Sublist.cons _ ?_)) (fun q hq => ?_)
    have hwq := hwf.inn (ok := ok) hil q hq
    obtain ⟨s, hs⟩ : ∃ s, s = inn ok l i q (ou ok l m) := ⟨_, rfl⟩
    have hsn : inn ok l i (q + 1) (ou ok l m) = stp ok i (l - q) s := by rw [inn, ← hs]
    simp only [← hs] at hwq ⊢
    repeat (first | refine sX rfl rfl ?_ | (refine sS rfl rfl ?_ ?_; focus omega) | (refine sC rfl rfl ?_ ?_; focus (first | exact trivial | assumption | constructor <;> assumption | exact mb2 rfl rfl | exact mb4 rfl rfl rfl rfl)) | refine cX ?_ | refine cY ?_ | (refine sA rfl rfl ?_; intro _) | refine sT rfl ?_ | refine sF rfl ?_ | (refine sR rfl ?_ ?_; focus omega) | (refine sB rfl rfl ?_; intro _) | (refine sN rfl rfl ?_ ?_; (focus (first | exact trivial | assumption | constructor <;> assumption | exact mb2 rfl rfl | exact mb4 rfl rfl rfl rfl)); intro _; (try simp only [List.cons_append, List.nil_append, List.append_nil])) | refine sW rfl rfl ?_ | refine sK rfl rfl ?_ | refine j_if rfl ?_ | refine j_else rfl ?_ | refine pkT rfl rfl rfl rfl ?_ | refine pkF rfl rfl rfl rfl ?_)
    refine j_cond rfl (fun h => ?_) (fun h => ?_)
    · obtain ⟨k, hk⟩ : ∃ k, k = l - q := ⟨_, rfl⟩
      have hik : i < k := by have := of_decide_eq_true h; omega
      have hkl : k ≤ l := by omega
      have ek : (l : Int) - (q : Int) = (k : Int) := by omega
      rw [← hk] at hsn
      obtain ⟨w1, w2, w3, w4⟩ := hwq
      have b2i := w3 i (by omega)
      have b2k := w3 k hkl
      simp only [ek]
      repeat (first | refine sX rfl rfl ?_ | (refine sS rfl rfl ?_ ?_; focus omega) | (refine sC rfl rfl ?_ ?_; focus (first | exact trivial | assumption | constructor <;> assumption | exact mb2 rfl rfl | exact mb4 rfl rfl rfl rfl)) | refine cX ?_ | refine cY ?_ | (refine sA rfl rfl ?_; intro _) | refine sT rfl ?_ | refine sF rfl ?_ | (refine sR rfl ?_ ?_; focus omega) | (refine sB rfl rfl ?_; intro _) | (refine sN rfl rfl ?_ ?_; (focus (first | exact trivial | assumption | constructor <;> assumption | exact mb2 rfl rfl | exact mb4 rfl rfl rfl rfl)); intro _; (try simp only [List.cons_append, List.nil_append, List.append_nil])) | refine sW rfl rfl ?_ | refine sK rfl rfl ?_ | refine j_if rfl ?_ | refine j_else rfl ?_ | refine pkT rfl rfl rfl rfl ?_ | refine pkF rfl rfl rfl rfl ?_)
      have hcall : RunOk pts (l + 1) c ∧ M (d * d) ≤ LQ ∧ (0 : Int) ≤ (i : Int) ∧ (i : Int) < (k : Int) ∧ (k : Int) < ((l + 1 : Nat) : Int) := ⟨hr, hdd, by omega, by omega, by omega⟩
      have yes : ok i k = true → (gi s.1 (i : Int) = 0 ∨ gi s.2 (k : Int) + 1 ≤ gi s.2 (i : Int)) → stp ok i k s = (s.1.set i (k : Int), s.2.set i (gi s.2 (k : Int) + 1)) := fun h1 h2 => by unfold stp; rw [if_pos ⟨h2, h1⟩]
      have no : ¬ ((gi s.1 (i : Int) = 0 ∨ gi s.2 (k : Int) + 1 ≤ gi s.2 (i : Int)) ∧ ok i k = true) → stp ok i k s = s := fun h1 => by unfold stp; rw [if_neg h1]
      refine j_cut (S := Bool) (fun v => v = decide ((gi s.1 (i : Int) = 0 ∨ gi s.2 (k : Int) + 1 ≤ gi s.2 (i : Int)) ∧ ok i k = true)) (fun v => [(64, .bool v), (5, .int .i64 0), (6, .func (.func 130) #[] #[.pointer (some ⟨b1, 0, none⟩), .pointer (some ⟨bm, 0, none⟩)]), (7, .int .i64 (l : Nat)), (8, .slice (some ⟨bn, 0, none⟩) (l + 1) (l + 1)), (9, .slice (some ⟨bl, 0, none⟩) (l + 1) (l + 1)), (10, .int .i64 (i : Nat)), (11, .int .i64 (k : Nat))])
        (fun _ => [⟨bl, row (eI .i64) s.2 [], 3⟩, ⟨bn, row (eI .i64) s.1 [], 3⟩, ⟨bm, e_api_Rat (Q (d * d)), 28⟩, ⟨b1, cRun I b (l + 1) c, 35⟩]) ?_ (fun v hv => ?_)
      · by_cases h0 : gi s.1 (i : Int) = 0
        · refine jD 23 23 mixed (by kernel_rfl) ?_
          repeat (first | refine tX rfl rfl ?_ | (refine tS rfl rfl ?_ ?_; focus omega) | (refine tC rfl rfl ?_ ?_; focus (first | exact trivial | assumption | constructor <;> assumption | exact mb2 rfl rfl | exact mb4 rfl rfl rfl rfl)) | refine tW rfl rfl ?_ | refine tK rfl rfl ?_ | refine Go.Vt.hq (wl_pickT rfl rfl) rfl rfl ?_ | refine Go.Vt.hq (wl_pickF rfl rfl) rfl rfl ?_)
          simp only [decide_eq_true h0]
          repeat (first | refine tX rfl rfl ?_ | (refine tS rfl rfl ?_ ?_; focus omega) | (refine tC rfl rfl ?_ ?_; focus (exact hcall)) | refine tW rfl rfl ?_ | refine tK rfl rfl ?_ | refine Go.Vt.hq (wl_pickT rfl rfl) rfl rfl ?_ | refine Go.Vt.hq (wl_pickF rfl rfl) rfl rfl ?_)
          refine jh_nil ?_
          refine jn_nil ?_
          repeat (first | refine sX rfl rfl ?_ | (refine sS rfl rfl ?_ ?_; focus omega) | (refine sC rfl rfl ?_ ?_; focus (first | exact trivial | assumption | constructor <;> assumption | exact mb2 rfl rfl | exact mb4 rfl rfl rfl rfl)) | refine cX ?_ | refine cY ?_ | (refine sA rfl rfl ?_; intro _) | refine sT rfl ?_ | refine sF rfl ?_ | (refine sR rfl ?_ ?_; focus omega) | (refine sB rfl rfl ?_; intro _) | (refine sN rfl rfl ?_ ?_; (focus (first | exact trivial | assumption | constructor <;> assumption | exact mb2 rfl rfl | exact mb4 rfl rfl rfl rfl)); intro _; (try simp only [List.cons_append, List.nil_append, List.append_nil])) | refine sW rfl rfl ?_ | refine sK rfl rfl ?_ | refine j_if rfl ?_ | refine j_else rfl ?_ | refine pkT rfl rfl rfl rfl ?_ | refine pkF rfl rfl rfl rfl ?_)
          simp only [Int.toNat_natCast, hok]
          exact jx_mid (ok i k) (by simp [h0]) (by repeat (first | exact sub_nil | refine sub_cons rfl ?_ | refine sub_cons' rfl (by congr 1; omega) ?_)) sbl
        · by_cases h1 : gi s.2 (k : Int) + 1 ≤ gi s.2 (i : Int)
          · refine jD 23 23 mixed (by kernel_rfl) ?_
            repeat (first | refine tX rfl rfl ?_ | (refine tS rfl rfl ?_ ?_; focus omega) | (refine tC rfl rfl ?_ ?_; focus (first | exact trivial | assumption | constructor <;> assumption | exact mb2 rfl rfl | exact mb4 rfl rfl rfl rfl)) | refine tW rfl rfl ?_ | refine tK rfl rfl ?_ | refine Go.Vt.hq (wl_pickT rfl rfl) rfl rfl ?_ | refine Go.Vt.hq (wl_pickF rfl rfl) rfl rfl ?_)
            simp only [decide_eq_false h0]
            repeat (first | refine tX rfl rfl ?_ | (refine tS rfl rfl ?_ ?_; focus omega) | (refine tC rfl rfl ?_ ?_; focus (first | exact trivial | assumption | constructor <;> assumption | exact mb2 rfl rfl | exact mb4 rfl rfl rfl rfl)) | refine tW rfl rfl ?_ | refine tK rfl rfl ?_ | refine Go.Vt.hq (wl_pickT rfl rfl) rfl rfl ?_ | refine Go.Vt.hq (wl_pickF rfl rfl) rfl rfl ?_)
            simp only [decide_eq_true h1]
            repeat (first | refine tX rfl rfl ?_ | (refine tS rfl rfl ?_ ?_; focus omega) | (refine tC rfl rfl ?_ ?_; focus (exact hcall)) | refine tW rfl rfl ?_ | refine tK rfl rfl ?_ | refine Go.Vt.hq (wl_pickT rfl rfl) rfl rfl ?_ | refine Go.Vt.hq (wl_pickF rfl rfl) rfl rfl ?_)
            refine jh_nil ?_
            refine jn_nil ?_
            repeat (first | refine sX rfl rfl ?_ | (refine sS rfl rfl ?_ ?_; focus omega) | (refine sC rfl rfl ?_ ?_; focus (first | exact trivial | assumption | constructor <;> assumption | exact mb2 rfl rfl | exact mb4 rfl rfl rfl rfl)) | refine cX ?_ | refine cY ?_ | (refine sA rfl rfl ?_; intro _) | refine sT rfl ?_ | refine sF rfl ?_ | (refine sR rfl ?_ ?_; focus omega) | (refine sB rfl rfl ?_; intro _) | (refine sN rfl rfl ?_ ?_; (focus (first | exact trivial | assumption | constructor <;> assumption | exact mb2 rfl rfl | exact mb4 rfl rfl rfl rfl)); intro _; (try simp only [List.cons_append, List.nil_append, List.append_nil])) | refine sW rfl rfl ?_ | refine sK rfl rfl ?_ | refine j_if rfl ?_ | refine j_else rfl ?_ | refine pkT rfl rfl rfl rfl ?_ | refine pkF rfl rfl rfl rfl ?_)
            simp only [Int.toNat_natCast, hok]
            exact jx_mid (ok i k) (by simp [h1]) (by repeat (first | exact sub_nil | refine sub_cons rfl ?_ | refine sub_cons' rfl (by congr 1; omega) ?_)) sbl
          · refine jD 23 23 mixed (by kernel_rfl) ?_
            repeat (first | refine tX rfl rfl ?_ | (refine tS rfl rfl ?_ ?_; focus omega) | (refine tC rfl rfl ?_ ?_; focus (first | exact trivial | assumption | constructor <;> assumption | exact mb2 rfl rfl | exact mb4 rfl rfl rfl rfl)) | refine tW rfl rfl ?_ | refine tK rfl rfl ?_ | refine Go.Vt.hq (wl_pickT rfl rfl) rfl rfl ?_ | refine Go.Vt.hq (wl_pickF rfl rfl) rfl rfl ?_)
            simp only [decide_eq_false h0]
            repeat (first | refine tX rfl rfl ?_ | (refine tS rfl rfl ?_ ?_; focus omega) | (refine tC rfl rfl ?_ ?_; focus (first | exact trivial | assumption | constructor <;> assumption | exact mb2 rfl rfl | exact mb4 rfl rfl rfl rfl)) | refine tW rfl rfl ?_ | refine tK rfl rfl ?_ | refine Go.Vt.hq (wl_pickT rfl rfl) rfl rfl ?_ | refine Go.Vt.hq (wl_pickF rfl rfl) rfl rfl ?_)
            simp only [decide_eq_false h1]
            repeat (first | refine tX rfl rfl ?_ | (refine tS rfl rfl ?_ ?_; focus omega) | (refine tC rfl rfl ?_ ?_; focus (exact hcall)) | refine tW rfl rfl ?_ | refine tK rfl rfl ?_ | refine Go.Vt.hq (wl_pickT rfl rfl) rfl rfl ?_ | refine Go.Vt.hq (wl_pickF rfl rfl) rfl rfl ?_)
            refine jh_nil ?_
            refine jn_nil ?_
            repeat (first | refine sX rfl rfl ?_ | (refine sS rfl rfl ?_ ?_; focus omega) | (refine sC rfl rfl ?_ ?_; focus (first | exact trivial | assumption | constructor <;> assumption | exact mb2 rfl rfl | exact mb4 rfl rfl rfl rfl)) | refine cX ?_ | refine cY ?_ | (refine sA rfl rfl ?_; intro _) | refine sT rfl ?_ | refine sF rfl ?_ | (refine sR rfl ?_ ?_; focus omega) | (refine sB rfl rfl ?_; intro _) | (refine sN rfl rfl ?_ ?_; (focus (first | exact trivial | assumption | constructor <;> assumption | exact mb2 rfl rfl | exact mb4 rfl rfl rfl rfl)); intro _; (try simp only [List.cons_append, List.nil_append, List.append_nil])) | refine sW rfl rfl ?_ | refine sK rfl rfl ?_ | refine j_if rfl ?_ | refine j_else rfl ?_ | refine pkT rfl rfl rfl rfl ?_ | refine pkF rfl rfl rfl rfl ?_)
            exact jx_mid false (by simp [h0, h1]) (by repeat (first | exact sub_nil | refine sub_cons rfl ?_ | refine sub_cons' rfl (by congr 1; omega) ?_)) sbl
      · have hst : stp ok i k s = if v = true then (s.1.set i (k : Int), s.2.set i (gi s.2 (k : Int) + 1)) else s := by
          rw [hv]
          by_cases hc : (gi s.1 (i : Int) = 0 ∨ gi s.2 (k : Int) + 1 ≤ gi s.2 (i : Int)) ∧ ok i k = true
          · rw [yes hc.2 hc.1, decide_eq_true hc, if_pos rfl]
          · rw [no hc, decide_eq_false hc, if_neg (by simp)]
        refine j_cond rfl (fun h => ?_) (fun h => ?_)
        · rw [h, if_pos rfl] at hst
          repeat (first | refine sX rfl rfl ?_ | (refine sS rfl rfl ?_ ?_; focus omega) | (refine sC rfl rfl ?_ ?_; focus (first | exact trivial | assumption | constructor <;> assumption | exact mb2 rfl rfl | exact mb4 rfl rfl rfl rfl)) | refine cX ?_ | refine cY ?_ | (refine sA rfl rfl ?_; intro _) | refine sT rfl ?_ | refine sF rfl ?_ | (refine sR rfl ?_ ?_; focus omega) | (refine sB rfl rfl ?_; intro _) | (refine sN rfl rfl ?_ ?_; (focus (first | exact trivial | assumption | constructor <;> assumption | exact mb2 rfl rfl | exact mb4 rfl rfl rfl rfl)); intro _; (try simp only [List.cons_append, List.nil_append, List.append_nil])) | refine sW rfl rfl ?_ | refine sK rfl rfl ?_ | refine j_if rfl ?_ | refine j_else rfl ?_ | refine pkT rfl rfl rfl rfl ?_ | refine pkF rfl rfl rfl rfl ?_)
          exact jx_loop (q + 1) (by omega) (by repeat (first | exact sub_nil | refine sub_cons rfl ?_ | refine sub_cons' rfl (by congr 1; omega) ?_)) (by simp only [Int.toNat_natCast]; rw [hsn, hst]; exact sbl) (by omega)
        · rw [h, if_neg (by simp)] at hst
          repeat (first | refine sX rfl rfl ?_ | (refine sS rfl rfl ?_ ?_; focus omega) | (refine sC rfl rfl ?_ ?_; focus (first | exact trivial | assumption | constructor <;> assumption | exact mb2 rfl rfl | exact mb4 rfl rfl rfl rfl)) | refine cX ?_ | refine cY ?_ | (refine sA rfl rfl ?_; intro _) | refine sT rfl ?_ | refine sF rfl ?_ | (refine sR rfl ?_ ?_; focus omega) | (refine sB rfl rfl ?_; intro _) | (refine sN rfl rfl ?_ ?_; (focus (first | exact trivial | assumption | constructor <;> assumption | exact mb2 rfl rfl | exact mb4 rfl rfl rfl rfl)); intro _; (try simp only [List.cons_append, List.nil_append, List.append_nil])) | refine sW rfl rfl ?_ | refine sK rfl rfl ?_ | refine j_if rfl ?_ | refine j_else rfl ?_ | refine pkT rfl rfl rfl rfl ?_ | refine pkF rfl rfl rfl rfl ?_)
          exact jx_loop (q + 1) (by omega) (by repeat (first | exact sub_nil | refine sub_cons rfl ?_ | refine sub_cons' rfl (by congr 1; omega) ?_)) (by rw [hsn, hst]; exact sbl) (by omega)
    · have hqe : q = m + 1 := by have := of_decide_eq_false h; omega
      rw [hqe, hi, ← ou] at hs
      subst hs
      repeat (first | refine sX rfl rfl ?_ | (refine sS rfl rfl ?_ ?_; focus omega) | (refine sC rfl rfl ?_ ?_; focus (first | exact trivial | assumption | constructor <;> assumption | exact mb2 rfl rfl | exact mb4 rfl rfl rfl rfl)) | refine cX ?_ | refine cY ?_ | (refine sA rfl rfl ?_; intro _) | refine sT rfl ?_ | refine sF rfl ?_ | (refine sR rfl ?_ ?_; focus omega) | (refine sB rfl rfl ?_; intro _) | (refine sN rfl rfl ?_ ?_; (focus (first | exact trivial | assumption | constructor <;> assumption | exact mb2 rfl rfl | exact mb4 rfl rfl rfl rfl)); intro _; (try simp only [List.cons_append, List.nil_append, List.append_nil])) | refine sW rfl rfl ?_ | refine sK rfl rfl ?_ | refine j_if rfl ?_ | refine j_else rfl ?_ | refine pkT rfl rfl rfl rfl ?_ | refine pkF rfl rfl rfl rfl ?_)
      exact jx_loop (m + 1) hlt (by repeat (first | exact sub_nil | refine sub_cons rfl ?_ | refine sub_cons' rfl (by congr 1; omega) ?_)) sbl (by omega)
  · have hme : m = l := by have := of_decide_eq_false h; omega
    rw [hme] at hwf
    obtain ⟨w1, w2, w3, w4⟩ := hwf
    have hnx := ou_next (ok := ok) (l := l) (fun i _ => by rw [← hok]; exact okd_next i) l (Nat.le_refl _)
    obtain ⟨nx, hnxe⟩ : ∃ nx, nx = (ou ok l l).1 := ⟨_, rfl⟩
    have hkl : keptL ok l = 0 :: chn nx l l 0 := by rw [hnxe]; rfl
    rw [hme]
    simp only [← hnxe] at w1 hnx ⊢
    repeat (first | refine sX rfl rfl ?_ | (refine sS rfl rfl ?_ ?_; focus omega) | (refine sC rfl rfl ?_ ?_; focus (first | exact trivial | assumption | constructor <;> assumption | exact mb2 rfl rfl | exact mb4 rfl rfl rfl rfl)) | refine cX ?_ | refine cY ?_ | (refine sA rfl rfl ?_; intro _) | refine sT rfl ?_ | refine sF rfl ?_ | (refine sR rfl ?_ ?_; focus omega) | (refine sB rfl rfl ?_; intro _) | (refine sN rfl rfl ?_ ?_; (focus (first | exact trivial | assumption | constructor <;> assumption | exact mb2 rfl rfl | exact mb4 rfl rfl rfl rfl)); intro _; (try simp only [List.cons_append, List.nil_append, List.append_nil])) | refine sW rfl rfl ?_ | refine sK rfl rfl ?_ | refine j_if rfl ?_ | refine j_else rfl ?_ | refine pkT rfl rfl rfl rfl ?_ | refine pkF rfl rfl rfl rfl ?_)
    rename_i bo
    refine j_loop (S := Nat × List Int × Nat × Nat × List Value) (fun s => s.1 ≤ l ∧ (∃ f, l - s.1 ≤ f ∧ s.2.1 ++ chn nx l f (s.1 : Int) = keptL ok l) ∧ s.2.1.length ≤ s.1 + 1 ∧ s.2.1.length ≤ s.2.2.2.1 ∧ s.2.2.2.2.length = (s.2.2.2.1 - s.2.1.length) * 1)
      (fun s => [(5, .int .i64 0), (7, .int .i64 (l : Nat)), (8, .slice (some ⟨bn, 0, none⟩) (l + 1) (l + 1)), (12, vL s.2.2.1 s.2.1 s.2.2.2.1), (13, .int .i64 (s.1 : Nat))]) (fun s => [⟨s.2.2.1, row (eI .i64) s.2.1 s.2.2.2.2, 3⟩, ⟨bn, row (eI .i64) nx [], 3⟩]) (fun s => l - s.1) (0, [0], bo, 1, [])
      ⟨Nat.zero_le _, ⟨l, Nat.le_refl _, hkl.symm⟩, Nat.le_refl _, Nat.le_refl _, rfl⟩ (by repeat (first | exact sub_nil | refine sub_cons rfl ?_ | refine sub_cons' rfl (by congr 1; omega) ?_)) (by repeat (first | exact List.Sublist.refl _ | exact List.nil_sublist _ | refine List.Sublist.cons_cons _ ?_ | refine List.Sublist.cons _ ?_)) (fun s hs => ?_)
    obtain ⟨i, acc, bo, co, so⟩ := s
    obtain ⟨hil, ⟨f, hf, hch⟩, ha1, ha2, ha3⟩ := hs
    simp only at hil hf hch ha1 ha2 ha3 ⊢
    repeat (first | refine sX rfl rfl ?_ | (refine sS rfl rfl ?_ ?_; focus omega) | (refine sC rfl rfl ?_ ?_; focus (first | exact trivial | assumption | constructor <;> assumption | exact mb2 rfl rfl | exact mb4 rfl rfl rfl rfl)) | refine cX ?_ | refine cY ?_ | (refine sA rfl rfl ?_; intro _) | refine sT rfl ?_ | refine sF rfl ?_ | (refine sR rfl ?_ ?_; focus omega) | (refine sB rfl rfl ?_; intro _) | (refine sN rfl rfl ?_ ?_; (focus (first | exact trivial | assumption | constructor <;> assumption | exact mb2 rfl rfl | exact mb4 rfl rfl rfl rfl)); intro _; (try simp only [List.cons_append, List.nil_append, List.append_nil])) | refine sW rfl rfl ?_ | refine sK rfl rfl ?_ | refine j_if rfl ?_ | refine j_else rfl ?_ | refine pkT rfl rfl rfl rfl ?_ | refine pkF rfl rfl rfl rfl ?_)
    refine j_cond rfl (fun h => ?_) (fun h => ?_)
    · have hlt : i < l := by have := of_decide_eq_true h; omega
      obtain ⟨g1, g2⟩ := hnx i hlt (by omega)
      obtain ⟨z, hz⟩ : ∃ z : Nat, gi nx (i : Int) = (z : Int) := ⟨(gi nx (i : Int)).toNat, by omega⟩
      repeat (first | refine sX rfl rfl ?_ | (refine sS rfl rfl ?_ ?_; focus omega) | (refine sC rfl rfl ?_ ?_; focus (first | exact trivial | assumption | constructor <;> assumption | exact mb2 rfl rfl | exact mb4 rfl rfl rfl rfl)) | refine cX ?_ | refine cY ?_ | (refine sA rfl rfl ?_; intro _) | refine sT rfl ?_ | refine sF rfl ?_ | (refine sR rfl ?_ ?_; focus omega) | (refine sB rfl rfl ?_; intro _) | (refine sN rfl rfl ?_ ?_; (focus (first | exact trivial | assumption | constructor <;> assumption | exact mb2 rfl rfl | exact mb4 rfl rfl rfl rfl)); intro _; (try simp only [List.cons_append, List.nil_append, List.append_nil])) | refine sW rfl rfl ?_ | refine sK rfl rfl ?_ | refine j_if rfl ?_ | refine j_else rfl ?_ | refine pkT rfl rfl rfl rfl ?_ | refine pkF rfl rfl rfl rfl ?_)
      simp only [hz]
      repeat (first | refine sX rfl rfl ?_ | (refine sS rfl rfl ?_ ?_; focus omega) | (refine sC rfl rfl ?_ ?_; focus (first | exact trivial | assumption | constructor <;> assumption | exact mb2 rfl rfl | exact mb4 rfl rfl rfl rfl)) | refine cX ?_ | refine cY ?_ | (refine sA rfl rfl ?_; intro _) | refine sT rfl ?_ | refine sF rfl ?_ | (refine sR rfl ?_ ?_; focus omega) | (refine sB rfl rfl ?_; intro _) | (refine sN rfl rfl ?_ ?_; (focus (first | exact trivial | assumption | constructor <;> assumption | exact mb2 rfl rfl | exact mb4 rfl rfl rfl rfl)); intro _; (try simp only [List.cons_append, List.nil_append, List.append_nil])) | refine sW rfl rfl ?_ | refine sK rfl rfl ?_ | refine j_if rfl ?_ | refine j_else rfl ?_ | refine pkT rfl rfl rfl rfl ?_ | refine pkF rfl rfl rfl rfl ?_)
      rename_i bz
      refine sP rfl rfl ?_ ⟨ha2, ha3⟩ rfl ?_ ?_
      · rfl
      · exact ⟨by omega, by omega⟩
      intro b' c' sp' h1 h2
      rw [show acc.length + 1 = (acc ++ [(z : Int)]).length by simp] at h1 h2 ⊢
      repeat (first | refine sX rfl rfl ?_ | (refine sS rfl rfl ?_ ?_; focus omega) | (refine sC rfl rfl ?_ ?_; focus (first | exact trivial | assumption | constructor <;> assumption | exact mb2 rfl rfl | exact mb4 rfl rfl rfl rfl)) | refine cX ?_ | refine cY ?_ | (refine sA rfl rfl ?_; intro _) | refine sT rfl ?_ | refine sF rfl ?_ | (refine sR rfl ?_ ?_; focus omega) | (refine sB rfl rfl ?_; intro _) | (refine sN rfl rfl ?_ ?_; (focus (first | exact trivial | assumption | constructor <;> assumption | exact mb2 rfl rfl | exact mb4 rfl rfl rfl rfl)); intro _; (try simp only [List.cons_append, List.nil_append, List.append_nil])) | refine sW rfl rfl ?_ | refine sK rfl rfl ?_ | refine j_if rfl ?_ | refine j_else rfl ?_ | refine pkT rfl rfl rfl rfl ?_ | refine pkF rfl rfl rfl rfl ?_)
      refine jx_loop (z, acc ++ [(z : Int)], b', c', sp') ⟨by simp only; omega, ?_, by simp only [List.length_append, List.length_singleton]; omega, h1, h2⟩ (by repeat (first | exact sub_nil | refine sub_cons rfl ?_ | refine sub_cons' rfl (by congr 1; omega) ?_)) (by repeat (first | exact List.Sublist.refl _ | exact List.nil_sublist _ | refine List.Sublist.cons_cons _ ?_ | refine List.Sublist.cons _ ?_)) (by simp only; omega)
      obtain ⟨f', rfl⟩ : ∃ f', f = f' + 1 := ⟨f - 1, by omega⟩
      refine ⟨f', by simp only; omega, ?_⟩
      rw [chn, if_pos (by omega), hz] at hch
      simp only
      rw [← hch, List.append_assoc]
      rfl
    · have hge : i = l := by have := of_decide_eq_false h; omega
      subst hge
      have hnil : chn nx i f (i : Int) = [] := by
        cases f with
        | zero => rfl
        | succ f => rw [chn, if_neg (by omega)]
      rw [hnil, List.append_nil] at hch
      subst hch
      repeat (first | refine sX rfl rfl ?_ | (refine sS rfl rfl ?_ ?_; focus omega) | (refine sC rfl rfl ?_ ?_; focus (first | exact trivial | assumption | constructor <;> assumption | exact mb2 rfl rfl | exact mb4 rfl rfl rfl rfl)) | refine cX ?_ | refine cY ?_ | (refine sA rfl rfl ?_; intro _) | refine sT rfl ?_ | refine sF rfl ?_ | (refine sR rfl ?_ ?_; focus omega) | (refine sB rfl rfl ?_; intro _) | (refine sN rfl rfl ?_ ?_; (focus (first | exact trivial | assumption | constructor <;> assumption | exact mb2 rfl rfl | exact mb4 rfl rfl rfl rfl)); intro _; (try simp only [List.cons_append, List.nil_append, List.append_nil])) | refine sW rfl rfl ?_ | refine sK rfl rfl ?_ | refine j_if rfl ?_ | refine j_else rfl ?_ | refine pkT rfl rfl rfl rfl ?_ | refine pkF rfl rfl rfl rfl ?_)
      exact jx_ret_two rfl (resv_tmp rfl) (resv_tmp rfl) (fun w hw => ⟨⟨(bo, co, so), ha2⟩, rfl, hw.sub sbl⟩)
abbrev SL3 (xs : List Int) := { s : Nat × Nat × List Value // xs.length ≤ s.2.1 }
instance sr_Kept (w0 : World) (L : List Blk) (I : R_api_Interval) (b n c : Nat) (d : Rat) (pts : List R_movingpoint_Sample) (sp : List Value) (T : TypeId) [h : AtC w0 L b (row rS pts sp) T] : SpecR Tryz.prog w0 L 39 [vRun I b n c, vQ d] (SL3 (keptL (okd pts (d * d)) (n - 1))) (fun s => .tuple #[vL s.1.1 (keptL (okd pts (d * d)) (n - 1)) s.1.2.1, .int .i64 0]) (fun s => [⟨s.1.1, row (eI .i64) (keptL (okd pts (d * d)) (n - 1)) s.1.2.2, 3⟩]) (RunOk pts n c ∧ (1 ≤ n ∧ n ≤ 1048576) ∧ M d ≤ 1073741824 ∧ 0 ≤ d) := ⟨fun hp w hw => by
  obtain ⟨g1, ⟨g2, g3⟩, g4, g5⟩ := hp
  obtain ⟨l, rfl⟩ : ∃ l, n = l + 1 := ⟨n - 1, by omega⟩
  exact kept_spec I b l c d pts sp T g1 (by omega) g4 g5 w (h.out w hw)⟩
end Go.Vt
/- The best kept breakpoints: the reference's search among all lists. Conditions: the lengths that each statement names. -/
set_option linter.unusedSimpArgs false
set_option linter.unusedVariables false
set_option maxRecDepth 100000
namespace Go.Vt
open Go.RowKit Go.Proofs
def lx : List Int → List Int → Bool
  | x :: xs, y :: ys => if x = y then lx xs ys else decide (x < y)
  | _, _ => false
def btr (xs ys : List Int) : Bool := if xs.length = ys.length then lx xs ys else decide (xs.length < ys.length)
/-- The first 'q' breakpoints behind 'i' are tried. -/
def bf (g : Nat → List Int) (ok : Nat → Bool) (i : Nat) : Nat → List Int
  | 0 => []
  | q + 1 => if ok (i + 1 + q) = true ∧ (bf g ok i q = [] ∨ btr (g (i + 1 + q)) (bf g ok i q) = true) then g (i + 1 + q) else bf g ok i q
end Go.Vt
/- Slices that came in, wherever they lie, under the program logic. Conditions: those that each rule names. -/
set_option linter.unusedSimpArgs false
set_option linter.unusedVariables false
set_option linter.unusedSectionVars false
namespace Go.Vt
open Go.RowKit
/-- At place 'o' of block 'b' lies a row. -/
class RowC (w0 : World) (L : List Blk) (b o : Nat) (α : outParam Type) (enc : outParam (α → Array Value)) (xs : outParam (List α)) : Prop where
  out : ∀ w, Own w0 L w → ∃ cs T fz, w.heap[b]? = some (.cells cs T fz) ∧ ∀ (i f k : Nat) (u : Value) (hi : i < xs.length), (∀ x, (enc x).size = k) → (enc xs[i])[f]? = some u → cs[o + i * k + f]? = some u ∧ o + xs.length * k ≤ cs.size
/-- A slice that came in. -/
structure ArgS {α : Type} (w0 : World) (v : Value) (enc : α → Array Value) (xs : List α) : Prop where
  out : (v = .slice none 0 0 ∧ xs = []) ∨ ∃ (a : Addr) (c : Nat), v = .slice (some a) xs.length c ∧ xs.length ≤ c ∧ ∀ (i f k : Nat) (u : Value) (hi : i < xs.length), (∀ x, (enc x).size = k) → (enc xs[i])[f]? = some u → w0.cell? (a.add (i * k + f)) = some u
class ArgC (w0 : World) (v : Value) (α : outParam Type) (enc : outParam (α → Array Value)) (xs : outParam (List α)) : Prop where
  out : ArgS w0 v enc xs
theorem cell_some {w : World} {a : Addr} {v : Value} (h : w.cell? a = some v) : a = ⟨a.block, a.off, none⟩ ∧ ∃ cs T fz, w.heap[a.block]? = some (.cells cs T fz) ∧ cs[a.off]? = some v := by
  unfold World.cell? at h
  split at h
  · rename_i c T fz hb
    split at h
    · cases h
    · rename_i hs
      obtain ⟨b, o, s⟩ := a
      cases s with
      | none => exact ⟨rfl, c, T, fz, hb, h⟩
      | some s => exact absurd rfl hs
  · cases h
/-- A slice that is not empty: its block. -/
theorem ArgS.blk {α : Type} {w0 : World} {v : Value} {enc : α → Array Value} {xs : List α} {k : Nat} [he : EncC enc (k + 1)] (h : ArgS w0 v enc xs) (hne : xs ≠ []) (L : List Blk) : ∃ b o c, v = .slice (some ⟨b, o, none⟩) xs.length c ∧ xs.length ≤ c ∧ RowC w0 L b o α enc xs := by
  rcases h.out with ⟨_, h0⟩ | ⟨a, c, hv, hc, hcell⟩
  · exact absurd h0 hne
  have hlen : 0 < xs.length := List.length_pos_iff.2 hne
  have hfirst : ∃ u, (enc xs[0])[0]? = some u := by
    have := he.size xs[0]
    exact ⟨(enc xs[0])[0]'(by omega), by simp⟩
  obtain ⟨u, hu⟩ := hfirst
  have h0 := hcell 0 0 (k + 1) u hlen he.size hu
  rw [Nat.zero_mul, Nat.add_zero] at h0
  have ha : a.add 0 = a := by simp [Addr.add]
  rw [ha] at h0
  obtain ⟨hae, cs, T, fz, hb, _⟩ := cell_some h0
  obtain ⟨b, o, s⟩ := a
  simp only [Addr.mk.injEq, true_and] at hae
  subst hae
  refine ⟨b, o, c, hv, hc, ⟨fun w hw => ⟨cs, T, fz, by rw [hw.ext.block b (lt_of_block hb)]; exact hb, fun i f k' u hi hk hu => ?_⟩⟩⟩
  have h1 := hcell i f k' u hi hk hu
  rw [addr_add, cell_block hb] at h1
  refine ⟨by rw [Nat.add_assoc]; exact h1, ?_⟩
  have hkk : k' = k + 1 := by rw [← hk xs[0], he.size xs[0]]
  subst hkk
  have hl : xs.length - 1 < xs.length := by omega
  obtain ⟨u2, hu2⟩ : ∃ u, (enc xs[xs.length - 1])[k]? = some u := ⟨(enc xs[xs.length - 1])[k]'(by rw [he.size]; omega), by simp⟩
  have h2 := hcell (xs.length - 1) k (k + 1) u2 hl he.size hu2
  rw [addr_add, cell_block hb] at h2
  have h3 : o + ((xs.length - 1) * (k + 1) + k) < cs.size := by
    rcases Nat.lt_or_ge (o + ((xs.length - 1) * (k + 1) + k)) cs.size with h | h
    · exact h
    · rw [Array.getElem?_eq_none h] at h2; cases h2
  have h4 : xs.length * (k + 1) = (xs.length - 1) * (k + 1) + (k + 1) := by
    rw [← Nat.succ_mul]
    congr 1
    omega
  omega
section
variable {P : Program} {w0 : World} {n : Nat} {ops : Array Oper} {L : List Blk} {E : Env} {v : Value} {x : Operand} {T : TypeId}
variable {α : Type} [Inhabited α] {enc : α → Array Value} {k b o f : Nat} {xs : List α} {i : Int}
theorem yl_rowG [he : EncC enc k] [h : RowC w0 L b o α enc xs] {d : Option Tmp} {ty : TypeId} {pos : String} {aft : Array Edge} {gd : Option (Nat × Bool)} (hk : 0 < k) (hx : Env.ev E x = some (.pointer (some ⟨b, o + i.toNat * k + f, none⟩))) (hi : i.toNat < xs.length) (hv : LdV P T (enc (gi xs i)) f v) : Yl P w0 n L E ⟨d, .load T x, ty, pos, aft, gd⟩ v :=
  yl_run (fun _ => loadVar T ⟨b, o + i.toNat * k + f, none⟩) (fun a ha => by
    simp only [execOp, ha.ev hx, Instr.loadAt, Instr.sureAddr]
    rfl) (fun a w _ hw => by
      obtain ⟨cs, T0, fz, hb, hc⟩ := h.out w hw
      rw [gi_eq hi] at hv
      refine run_loadVar hb ?_
      have hsz := he.size xs[i.toNat]
      have hle := Nat.mul_le_mul_right k (show i.toNat + 1 ≤ xs.length from hi)
      rw [Nat.add_mul, Nat.one_mul] at hle
      rcases hv with ⟨m, ha, hs, rfl⟩ | ⟨ho, hv⟩
      · have hbig := (hc i.toNat 0 k _ hi he.size (show (enc xs[i.toNat])[0]? = some ((enc xs[i.toNat])[0]'(by omega)) by simp)).2
        refine .inl ⟨m, ha, by omega, ?_⟩
        congr 1
        apply Array.ext_getElem?
        intro j
        rw [Array.getElem?_extract, Array.getElem?_extract]
        by_cases hj : j < m
        · rw [if_pos (by omega), if_pos (by omega)]
          have hfj : f + j < (enc xs[i.toNat]).size := by omega
          have := (hc i.toNat (f + j) k _ hi he.size (show (enc xs[i.toNat])[f + j]? = some ((enc xs[i.toNat])[f + j]'hfj) by simp)).1
          rw [show o + i.toNat * k + f + j = o + i.toNat * k + (f + j) by omega, this]
          simp
        · rw [if_neg (by omega), if_neg (by omega)]
      · exact .inr ⟨ho, (hc i.toNat f k v hi he.size hv).1⟩)
instance (priority := low) ys_rowG0 [IsC (evl E x) (.pointer (some ⟨b, o + i.toNat * k, none⟩))] [h : RowC w0 L b o α enc xs] [he : EncC enc k] [hv : LdC P T (enc (gi xs i)) 0 v] : YsC P w0 n L E (.load T x) v (0 < k ∧ i.toNat < xs.length) := ⟨fun hi _ _ _ _ _ => yl_rowG (f := 0) (k := k) hi.1 (by rw [Nat.add_zero]; exact isE) hi.2 hv.out⟩
instance (priority := low) ys_rowGF [IsC (evl E x) (.pointer (some ⟨b, o + i.toNat * k + f, none⟩))] [h : RowC w0 L b o α enc xs] [he : EncC enc k] [hv : LdC P T (enc (gi xs i)) f v] : YsC P w0 n L E (.load T x) v (0 < k ∧ i.toNat < xs.length) := ⟨fun hi _ _ _ _ _ => yl_rowG hi.1 isE hi.2 hv.out⟩
instance (priority := low) ys_remk {kd : IntKind} {T' : TypeId} {y : Operand} {a c : Int} [hx : IsC (evl E x) (.int kd a)] [hy : IsC (evl E y) (.int kd c)] : YsC P w0 n L E (.binOp .rem T x y T') (.int kd (a % c)) (0 ≤ a ∧ 1 ≤ c) := ⟨fun h _ _ _ _ _ => yl_arith isE isE fun w => by rw [run_rem _ _ (by omega), IntWalk.rem_in _ _ h.1]⟩
end
end Go.Vt
/- The runs of the statements: their decoding. Conditions: those that each statement names. -/
set_option linter.unusedSimpArgs false
set_option linter.unusedVariables false
set_option maxRecDepth 100000
namespace Go.Vt
open Go.RowKit Go.Proofs
instance sp_at (t x y : Int) : SpecC Tryz.prog 42 [.int .i64 t, .int .i64 x, .int .i64 y] (vS ⟨(t : Rat), ⟨(x : Rat), (y : Rat)⟩⟩) ((-9223372036854775808 ≤ t ∧ t ≤ 9223372036854775807) ∧ (-9223372036854775808 ≤ x ∧ x ≤ 9223372036854775807) ∧ (-9223372036854775808 ≤ y ∧ y ≤ 9223372036854775807)) := ⟨fun hp w => by
  obtain ⟨h1, h2, h3⟩ := hp
  refine fn_intro Tryz.func42 rfl Tryz.ntmps42 rfl ?_
  repeat (first | refine sX rfl rfl ?_ | (refine sS rfl rfl ?_ ?_; focus omega) | (refine sC rfl rfl ?_ ?_; focus (first | exact trivial | assumption | constructor <;> assumption | exact mb2 rfl rfl | exact mb4 rfl rfl rfl rfl)) | refine cX ?_ | refine cY ?_ | (refine sA rfl rfl ?_; intro _) | refine sT rfl ?_ | refine sF rfl ?_ | (refine sR rfl ?_ ?_; focus omega) | (refine sB rfl rfl ?_; intro _) | (refine sN rfl rfl ?_ ?_; (focus (first | exact trivial | assumption | constructor <;> assumption | exact mb2 rfl rfl | exact mb4 rfl rfl rfl rfl)); intro _; (try simp only [List.cons_append, List.nil_append, List.append_nil])) | refine sW rfl rfl ?_ | refine sK rfl rfl ?_ | refine j_if rfl ?_ | refine j_else rfl ?_ | refine pkT rfl rfl rfl rfl ?_ | refine pkF rfl rfl rfl rfl ?_)
  exact wx_cell rfl rfl (fun w hw => ret_ok hw)⟩
def dst (n : Int) : Rat := Rat.divInt (n % 128) 4
abbrev WStep := st_Time_X_Y
/-- The first 'm' breakpoints, and the time behind them. -/
def pA (ws : List WStep) : Nat → List R_movingpoint_Sample × Rat
  | 0 => ([], 0)
  | m + 1 => ((pA ws m).1 ++ [⟨(pA ws m).2 + Rat.divInt (1 + (gi ws (m : Int)).Time % 8) 2, ⟨(((gi ws (m : Int)).X % 32 : Int) : Rat), (((gi ws (m : Int)).Y % 32 : Int) : Rat)⟩⟩], (pA ws m).2 + Rat.divInt (1 + (gi ws (m : Int)).Time % 8) 2)
def ptsW (ws : List WStep) : List R_movingpoint_Sample := if ws.length = 0 then [⟨((3 : Int) : Rat), ⟨((5 : Int) : Rat), ((7 : Int) : Rat)⟩⟩] else (pA ws (min ws.length 7)).1
/-- The numbers of a way are bytes. -/
def WOk (ws : List WStep) : Prop := ∀ i : Int, (0 ≤ (gi ws i).Time ∧ (gi ws i).Time ≤ 255) ∧ (0 ≤ (gi ws i).X ∧ (gi ws i).X ≤ 255) ∧ (0 ≤ (gi ws i).Y ∧ (gi ws i).Y ≤ 255)
theorem pA_len (ws : List WStep) : ∀ m, (pA ws m).1.length = m
  | 0 => rfl
  | m + 1 => by rw [pA, List.length_append, pA_len ws m]; rfl
theorem M_half (n : Int) (h : 0 ≤ n ∧ n ≤ 255) : M (Rat.divInt n 2) ≤ 1 := M_divInt (mg_small (by omega)) (by decide) (Nat.le_refl _)
theorem pA_time (ws : List WStep) : ∀ m, M (pA ws m).2 ≤ 2 * m + 1
  | 0 => mb_zero.out
  | m + 1 => by
    have h1 := pA_time ws m
    have h2 := M_half (1 + (gi ws (m : Int)).Time % 8) (by omega)
    have h3 := M_add (pA ws m).2 (Rat.divInt (1 + (gi ws (m : Int)).Time % 8) 2)
    simp only [pA]
    omega
def runI (ps : List R_movingpoint_Sample) (op : Int) : R_api_Interval := ⟨⟨(gi ps 0).T, 0, false⟩, ⟨(gi ps ((ps.length : Int) - 1)).T, 0, false⟩, decide (1 < ps.length) && decide (op % 2 = 1), decide (1 < ps.length) && decide (2 ≤ op % 4)⟩
theorem Upd.app {b : Nat} {cs cs' : Array Value} {T : TypeId} {L L' : List Blk} (h : Upd b cs T cs' L L') : ∀ A : List Blk, Upd b cs T cs' (A ++ L) (A ++ L')
  | [] => h
  | _ :: A => (h.app A).there
instance (priority := low) updSkip (b : Nat) (cs' : Array Value) (A L L' : List Blk) (cs : Array Value) (T : TypeId) [h : UpdC b cs' L cs T L'] : UpdC b cs' (A ++ L) cs T (A ++ L') := ⟨h.out.app A⟩
/-- The header of a slice that grows, and its block. -/
def hSl (n : Nat) : Option (Nat × Nat × List Value) → Sl
  | none => ⟨none, 0, 0⟩
  | some s => ⟨some ⟨s.1, 0, none⟩, n, s.2.1⟩
def mSl (T : TypeId) (ps : List R_movingpoint_Sample) : Option (Nat × Nat × List Value) → List Blk
  | none => []
  | some s => [⟨s.1, row rS ps s.2.2, T⟩]
theorem ArgS.form {α : Type} {w0 : World} {v : Value} {enc : α → Array Value} {xs : List α} (h : ArgS w0 v enc xs) : ∃ p c, v = .slice p xs.length c := by
  rcases h.out with ⟨h1, h2⟩ | ⟨a, c, h1, _⟩
  · subst h2
    exact ⟨none, 0, h1⟩
  · exact ⟨some a, c, h1⟩
theorem run_spec (v : Value) (ws : List WStep) (op : Int) (hop : 0 ≤ op ∧ op ≤ 255) (hws : WOk ws) (w : World) (hv : ArgS w v e_st_Time_X_Y ws) (hlen : ws.length ≤ 9223372036854775807) :
    Calls Tryz.prog 10 [v, .int .u8 op].toArray w (RetM { s : Nat × Nat × List Value // (ptsW ws).length ≤ s.2.1 } (fun s => vRun (runI (ptsW ws) op) s.1.1 (ptsW ws).length s.1.2.1) (fun s => [⟨s.1.1, row rS (ptsW ws) s.1.2.2, 47⟩]) w) := by
  refine fn_intro Tryz.func10 rfl Tryz.ntmps10 rfl ?_
  repeat (first | refine sX rfl rfl ?_ | (refine sS rfl rfl ?_ ?_; focus omega) | (refine sC rfl rfl ?_ ?_; focus (exact ⟨by omega, by omega⟩)) | refine cX ?_ | refine cY ?_ | (refine sA rfl rfl ?_; intro _) | refine sT rfl ?_ | refine sF rfl ?_ | (refine sR rfl ?_ ?_; focus omega) | (refine sB rfl rfl ?_; intro _) | (refine sN rfl rfl ?_ ?_; (focus (exact ⟨by omega, by omega⟩)); intro _; (try simp only [List.cons_append, List.nil_append, List.append_nil])) | refine sW rfl rfl ?_ | refine sK rfl rfl ?_ | refine j_if rfl ?_ | refine j_else rfl ?_ | refine pkT rfl rfl rfl rfl ?_ | refine pkF rfl rfl rfl rfl ?_)
  rename_i b4 b5 b6
  obtain ⟨p, cp, rfl⟩ := hv.form
  refine j_loop (S := Nat × Option (Nat × Nat × List Value)) (fun s => s.1 ≤ ws.length ∧ s.1 ≤ 7 ∧ (s.2 = none ↔ s.1 = 0) ∧ ∀ t, s.2 = some t → s.1 ≤ t.2.1 ∧ t.2.2.length = (t.2.1 - s.1) * 12) (fun s => [(0, .slice p ws.length cp), (1, .int .u8 op), (4, .pointer (some ⟨b4, 0, none⟩)), (5, .pointer (some ⟨b5, 0, none⟩)), (6, .pointer (some ⟨b6, 0, none⟩)), (7, .int .i64 (s.1 : Nat))])
    (fun s => mSl 47 (pA ws s.1).1 s.2 ++ [⟨b6, e_api_Rat (Q (pA ws s.1).2), 28⟩, ⟨b5, e_simplify_Run (q_simplify_Run ⟨zR_api_Interval, hSl (pA ws s.1).1.length s.2⟩), 35⟩, ⟨b4, e_simplify_Run (q_simplify_Run zR_simplify_Run), 35⟩]) (fun s => 7 - s.1) (0, none)
    ⟨Nat.zero_le _, Nat.zero_le _, by simp, by simp⟩ (by repeat (first | exact sub_nil | refine sub_cons rfl ?_ | refine sub_cons' rfl (by congr 1; omega) ?_)) (by repeat (first | exact List.Sublist.refl _ | exact List.nil_sublist _ | refine List.Sublist.cons_cons _ ?_ | refine List.Sublist.cons _ ?_)) (fun s hs => ?_)
  obtain ⟨m, og⟩ := s
  obtain ⟨hm1, hm7, hog, hogs⟩ := hs
  simp only at hm1 hm7 hog hogs ⊢
  refine cX ?_
  refine j_mid (S := Bool) (fun v => v = decide (m < ws.length ∧ m < 7)) (fun v => [(19, .bool v), (0, .slice p ws.length cp), (1, .int .u8 op), (4, .pointer (some ⟨b4, 0, none⟩)), (5, .pointer (some ⟨b5, 0, none⟩)), (6, .pointer (some ⟨b6, 0, none⟩)), (7, .int .i64 (m : Nat))])
    (fun _ => mSl 47 (pA ws m).1 og ++ [⟨b6, e_api_Rat (Q (pA ws m).2), 28⟩, ⟨b5, e_simplify_Run (q_simplify_Run ⟨zR_api_Interval, hSl (pA ws m).1.length og⟩), 35⟩, ⟨b4, e_simplify_Run (q_simplify_Run zR_simplify_Run), 35⟩]) ?_ (fun v hv2 => ?_)
  · repeat (first | refine sX rfl rfl ?_ | (refine sS rfl rfl ?_ ?_; focus omega) | (refine sC rfl rfl ?_ ?_; focus (first | exact trivial | assumption | constructor <;> assumption | exact mb2 rfl rfl | exact mb4 rfl rfl rfl rfl)) | refine cX ?_ | refine cY ?_ | (refine sA rfl rfl ?_; intro _) | refine sT rfl ?_ | refine sF rfl ?_ | (refine sR rfl ?_ ?_; focus omega) | (refine sB rfl rfl ?_; intro _) | (refine sN rfl rfl ?_ ?_; (focus (first | exact trivial | assumption | constructor <;> assumption | exact mb2 rfl rfl | exact mb4 rfl rfl rfl rfl)); intro _; (try simp only [List.cons_append, List.nil_append, List.append_nil])) | refine sW rfl rfl ?_ | refine sK rfl rfl ?_ | refine j_if rfl ?_ | refine j_else rfl ?_ | refine pkT rfl rfl rfl rfl ?_ | refine pkF rfl rfl rfl rfl ?_)
    by_cases h1 : (m : Int) < (ws.length : Int)
    · simp only [decide_eq_true h1]
      repeat (first | refine sX rfl rfl ?_ | (refine sS rfl rfl ?_ ?_; focus omega) | (refine sC rfl rfl ?_ ?_; focus (first | exact trivial | assumption | constructor <;> assumption | exact mb2 rfl rfl | exact mb4 rfl rfl rfl rfl)) | refine cX ?_ | refine cY ?_ | (refine sA rfl rfl ?_; intro _) | refine sT rfl ?_ | refine sF rfl ?_ | (refine sR rfl ?_ ?_; focus omega) | (refine sB rfl rfl ?_; intro _) | (refine sN rfl rfl ?_ ?_; (focus (first | exact trivial | assumption | constructor <;> assumption | exact mb2 rfl rfl | exact mb4 rfl rfl rfl rfl)); intro _; (try simp only [List.cons_append, List.nil_append, List.append_nil])) | refine sW rfl rfl ?_ | refine sK rfl rfl ?_ | refine j_if rfl ?_ | refine j_else rfl ?_ | refine pkT rfl rfl rfl rfl ?_ | refine pkF rfl rfl rfl rfl ?_)
      exact jx_mid (decide ((m : Int) < 7)) (by rw [decide_eq_decide]; omega) (by repeat (first | exact sub_nil | refine sub_cons rfl ?_ | refine sub_cons' rfl (by congr 1; omega) ?_)) (by repeat (first | exact List.Sublist.refl _ | exact List.nil_sublist _ | refine List.Sublist.cons_cons _ ?_ | refine List.Sublist.cons _ ?_))
    · simp only [decide_eq_false h1]
      repeat (first | refine sX rfl rfl ?_ | (refine sS rfl rfl ?_ ?_; focus omega) | (refine sC rfl rfl ?_ ?_; focus (first | exact trivial | assumption | constructor <;> assumption | exact mb2 rfl rfl | exact mb4 rfl rfl rfl rfl)) | refine cX ?_ | refine cY ?_ | (refine sA rfl rfl ?_; intro _) | refine sT rfl ?_ | refine sF rfl ?_ | (refine sR rfl ?_ ?_; focus omega) | (refine sB rfl rfl ?_; intro _) | (refine sN rfl rfl ?_ ?_; (focus (first | exact trivial | assumption | constructor <;> assumption | exact mb2 rfl rfl | exact mb4 rfl rfl rfl rfl)); intro _; (try simp only [List.cons_append, List.nil_append, List.append_nil])) | refine sW rfl rfl ?_ | refine sK rfl rfl ?_ | refine j_if rfl ?_ | refine j_else rfl ?_ | refine pkT rfl rfl rfl rfl ?_ | refine pkF rfl rfl rfl rfl ?_)
      exact jx_mid false (by rw [eq_comm, decide_eq_false_iff_not]; omega) (by repeat (first | exact sub_nil | refine sub_cons rfl ?_ | refine sub_cons' rfl (by congr 1; omega) ?_)) (by repeat (first | exact List.Sublist.refl _ | exact List.nil_sublist _ | refine List.Sublist.cons_cons _ ?_ | refine List.Sublist.cons _ ?_))
  by_cases hend : m < ws.length ∧ m < 7
  · rw [decide_eq_true hend] at hv2
    subst hv2
    obtain ⟨hend1, hend2⟩ := hend
    have hne : ws ≠ [] := fun h0 => by rw [h0] at hend1; simp at hend1
    obtain ⟨bw, ow, cw, hvw, hcw, hrow⟩ := hv.blk (k := 2) hne []
    injection hvw with e1 e2 e3
    subst e1
    subst e3
    have hrow' : ∀ L, RowC w L bw ow WStep e_st_Time_X_Y ws := fun L => ⟨fun w' hw' => hrow.out w' (hw'.sub (List.nil_sublist _))⟩
    have hb := hws (m : Int)
    obtain ⟨x, hx⟩ : ∃ x, x = gi ws (m : Int) := ⟨_, rfl⟩
    have hpl := pA_len ws m
    have ht := Nat.le_trans (pA_time ws m) (show 2 * m + 1 ≤ 100 by omega)
    have hh := M_half (1 + (gi ws (m : Int)).Time % 8) (by omega)
    have htt : M (pA ws m).2 ≤ LQ ∧ M (Rat.divInt (1 + (gi ws (m : Int)).Time % 8) 2) ≤ LQ := ⟨Nat.le_trans ht (by decide), Nat.le_trans hh (by decide)⟩
    have epA : pA ws (m + 1) = ((pA ws m).1 ++ [⟨(pA ws m).2 + Rat.divInt (1 + (gi ws (m : Int)).Time % 8) 2, ⟨(((gi ws (m : Int)).X % 32 : Int) : Rat), (((gi ws (m : Int)).Y % 32 : Int) : Rat)⟩⟩], (pA ws m).2 + Rat.divInt (1 + (gi ws (m : Int)).Time % 8) 2) := rfl
    have elen : (pA ws m).1.length + 1 = (pA ws (m + 1)).1.length := by rw [pA_len, pA_len]
    rcases og with _ | ⟨bo, co, so⟩
    · have hm0 := hog.1 rfl
      simp only [mSl, hSl, List.nil_append]
      repeat (first | refine sX rfl rfl ?_ | (refine sS rfl rfl ?_ ?_; focus omega) | (refine sC rfl rfl ?_ ?_; focus (first | exact htt | exact ⟨⟨by omega, by omega⟩, ⟨by omega, by omega⟩⟩)) | refine cX ?_ | refine cY ?_ | (refine sA rfl rfl ?_; intro _) | refine sT rfl ?_ | refine sF rfl ?_ | (refine sR rfl ?_ ?_; focus omega) | (refine sB rfl rfl ?_; intro _) | (refine sN rfl rfl ?_ ?_; (focus (first | exact htt | exact ⟨⟨by omega, by omega⟩, ⟨by omega, by omega⟩⟩)); intro _; (try simp only [List.cons_append, List.nil_append, List.append_nil])) | refine sW rfl rfl ?_ | refine sK rfl rfl ?_ | refine j_if rfl ?_ | refine j_else rfl ?_ | refine pkT rfl rfl rfl rfl ?_ | refine pkF rfl rfl rfl rfl ?_)
      (refine j_late2 [0, 1, 2, 3, 4, 5, 6, 7, 8, 9, 10, 11, 12, 13, 14, 15, 16, 17, 18] [19, 20] [21, 22] ([⟨b6, e_api_Rat (Q ((pA ws m).2 + Rat.divInt (1 + (gi ws (m : Int)).Time % 8) 2)), 28⟩, ⟨b5, e_simplify_Run (q_simplify_Run ⟨zR_api_Interval, ⟨none, 0, 0⟩⟩), 35⟩]) mixed (by kernel_rfl) (by kernel_rfl) (by decide) (by decide) (by repeat (first | exact List.Sublist.refl _ | exact List.nil_sublist _ | refine List.Sublist.cons_cons _ ?_ | refine List.Sublist.cons _ ?_ | refine List.Sublist.trans ?_ (List.sublist_append_right _ _))) ?_; simp only [picks, List.getElem?_cons_succ, List.getElem?_cons_zero])
      repeat (first | refine tX rfl rfl ?_ | (refine tS rfl rfl ?_ ?_; focus omega) | (refine tC rfl rfl ?_ ?_; focus (exact ⟨⟨by omega, by omega⟩, ⟨by omega, by omega⟩⟩)) | refine tW rfl rfl ?_ | refine tK rfl rfl ?_ | refine Go.Vt.hq (wl_pickT rfl rfl) rfl rfl ?_ | refine Go.Vt.hq (wl_pickF rfl rfl) rfl rfl ?_)
      refine jh_nil ?_
      refine eB rfl rfl ?_
      intro bN
      refine eP0 rfl rfl ?_ rfl ?_ ?_
      · rfl
      · exact ⟨by omega, by omega, by omega⟩
      intro b' c' sp' h1 h2
      refine eX rfl rfl ?_
      refine eF rfl ?_
      refine je_nil ?_
      subst hm0
      repeat (first | refine sX rfl rfl ?_ | (refine sS rfl rfl ?_ ?_; focus omega) | (refine sC rfl rfl ?_ ?_; focus (exact ⟨by omega, by omega⟩)) | refine cX ?_ | refine cY ?_ | (refine sA rfl rfl ?_; intro _) | refine sT rfl ?_ | refine sF rfl ?_ | (refine sR rfl ?_ ?_; focus omega) | (refine sB rfl rfl ?_; intro _) | (refine sN rfl rfl ?_ ?_; (focus (exact ⟨by omega, by omega⟩)); intro _; (try simp only [List.cons_append, List.nil_append, List.append_nil])) | refine sW rfl rfl ?_ | refine sK rfl rfl ?_ | refine j_if rfl ?_ | refine j_else rfl ?_ | refine pkT rfl rfl rfl rfl ?_ | refine pkF rfl rfl rfl rfl ?_)
      exact jx_loop (1, some (b', c', sp')) ⟨by omega, by omega, by simp, fun t ht => by injection ht with ht; subst ht; exact ⟨h1, h2⟩⟩ (by repeat (first | exact sub_nil | refine sub_cons rfl ?_ | refine sub_cons' rfl (by congr 1; omega) ?_)) (by simp only [mSl, hSl, List.cons_append, List.nil_append]; exact (by repeat (first | exact List.Sublist.refl _ | exact List.nil_sublist _ | refine List.Sublist.cons_cons _ ?_ | refine List.Sublist.cons _ ?_))) (by show 7 - 1 < 7 - 0; decide)
    · have hsp := hogs _ rfl
      simp only [mSl, hSl, List.cons_append, List.nil_append] at hsp ⊢
      repeat (first | refine sX rfl rfl ?_ | (refine sS rfl rfl ?_ ?_; focus omega) | (refine sC rfl rfl ?_ ?_; focus (first | exact htt | exact ⟨⟨by omega, by omega⟩, ⟨by omega, by omega⟩⟩)) | refine cX ?_ | refine cY ?_ | (refine sA rfl rfl ?_; intro _) | refine sT rfl ?_ | refine sF rfl ?_ | (refine sR rfl ?_ ?_; focus omega) | (refine sB rfl rfl ?_; intro _) | (refine sN rfl rfl ?_ ?_; (focus (first | exact htt | exact ⟨⟨by omega, by omega⟩, ⟨by omega, by omega⟩⟩)); intro _; (try simp only [List.cons_append, List.nil_append, List.append_nil])) | refine sW rfl rfl ?_ | refine sK rfl rfl ?_ | refine j_if rfl ?_ | refine j_else rfl ?_ | refine pkT rfl rfl rfl rfl ?_ | refine pkF rfl rfl rfl rfl ?_)
      (refine j_late2 [0, 1, 2, 3, 4, 5, 6, 7, 8, 9, 10, 11, 12, 13, 14, 15, 16, 17, 18] [19, 20] [21, 22] ([⟨b6, e_api_Rat (Q ((pA ws m).2 + Rat.divInt (1 + (gi ws (m : Int)).Time % 8) 2)), 28⟩, ⟨b5, e_simplify_Run (q_simplify_Run ⟨zR_api_Interval, ⟨some ⟨bo, 0, none⟩, (pA ws m).1.length, co⟩⟩), 35⟩]) mixed (by kernel_rfl) (by kernel_rfl) (by decide) (by decide) (by repeat (first | exact List.Sublist.refl _ | exact List.nil_sublist _ | refine List.Sublist.cons_cons _ ?_ | refine List.Sublist.cons _ ?_ | refine List.Sublist.trans ?_ (List.sublist_append_right _ _))) ?_; simp only [picks, List.getElem?_cons_succ, List.getElem?_cons_zero])
      repeat (first | refine tX rfl rfl ?_ | (refine tS rfl rfl ?_ ?_; focus omega) | (refine tC rfl rfl ?_ ?_; focus (exact ⟨⟨by omega, by omega⟩, ⟨by omega, by omega⟩⟩)) | refine tW rfl rfl ?_ | refine tK rfl rfl ?_ | refine Go.Vt.hq (wl_pickT rfl rfl) rfl rfl ?_ | refine Go.Vt.hq (wl_pickF rfl rfl) rfl rfl ?_)
      refine jh_nil ?_
      refine eB rfl rfl ?_
      intro bN
      refine eP rfl rfl ?_ ?_ ?_ ?_ ?_
      · rfl
      · rw [hpl]; exact hsp
      · rfl
      · exact ⟨by omega, by omega⟩
      intro b' c' sp' h1 h2
      rw [elen]
      refine eX rfl rfl ?_
      refine eF rfl ?_
      refine je_nil ?_
      repeat (first | refine sX rfl rfl ?_ | (refine sS rfl rfl ?_ ?_; focus omega) | (refine sC rfl rfl ?_ ?_; focus (exact ⟨by omega, by omega⟩)) | refine cX ?_ | refine cY ?_ | (refine sA rfl rfl ?_; intro _) | refine sT rfl ?_ | refine sF rfl ?_ | (refine sR rfl ?_ ?_; focus omega) | (refine sB rfl rfl ?_; intro _) | (refine sN rfl rfl ?_ ?_; (focus (exact ⟨by omega, by omega⟩)); intro _; (try simp only [List.cons_append, List.nil_append, List.append_nil])) | refine sW rfl rfl ?_ | refine sK rfl rfl ?_ | refine j_if rfl ?_ | refine j_else rfl ?_ | refine pkT rfl rfl rfl rfl ?_ | refine pkF rfl rfl rfl rfl ?_)
      exact jx_loop (m + 1, some (b', c', sp')) ⟨by omega, by omega, by simp, fun t ht => by injection ht with ht; subst ht; rw [hpl] at h1 h2; exact ⟨h1, h2⟩⟩ (by repeat (first | exact sub_nil | refine sub_cons rfl ?_ | refine sub_cons' rfl (by congr 1; omega) ?_)) (by simp only [mSl, hSl, List.cons_append, List.nil_append]; exact (by repeat (first | exact List.Sublist.refl _ | exact List.nil_sublist _ | refine List.Sublist.cons_cons _ ?_ | refine List.Sublist.cons _ ?_))) (by show 7 - (m + 1) < 7 - m; omega)
  · rw [decide_eq_false hend] at hv2
    subst hv2
    have hmin : min ws.length 7 = m := by omega
    (first | refine sX rfl rfl ?_ | (refine sS rfl rfl ?_ ?_; focus omega) | (refine sC rfl rfl ?_ ?_; focus (first | exact trivial | assumption | constructor <;> assumption | exact mb2 rfl rfl | exact mb4 rfl rfl rfl rfl)) | refine cX ?_ | refine cY ?_ | (refine sA rfl rfl ?_; intro _) | refine sT rfl ?_ | refine sF rfl ?_ | (refine sR rfl ?_ ?_; focus omega) | (refine sB rfl rfl ?_; intro _) | (refine sN rfl rfl ?_ ?_; (focus (first | exact trivial | assumption | constructor <;> assumption | exact mb2 rfl rfl | exact mb4 rfl rfl rfl rfl)); intro _; (try simp only [List.cons_append, List.nil_append, List.append_nil])) | refine sW rfl rfl ?_ | refine sK rfl rfl ?_ | refine j_if rfl ?_ | refine j_else rfl ?_ | refine pkT rfl rfl rfl rfl ?_ | refine pkF rfl rfl rfl rfl ?_)
    (first | refine sX rfl rfl ?_ | (refine sS rfl rfl ?_ ?_; focus omega) | (refine sC rfl rfl ?_ ?_; focus (first | exact trivial | assumption | constructor <;> assumption | exact mb2 rfl rfl | exact mb4 rfl rfl rfl rfl)) | refine cX ?_ | refine cY ?_ | (refine sA rfl rfl ?_; intro _) | refine sT rfl ?_ | refine sF rfl ?_ | (refine sR rfl ?_ ?_; focus omega) | (refine sB rfl rfl ?_; intro _) | (refine sN rfl rfl ?_ ?_; (focus (first | exact trivial | assumption | constructor <;> assumption | exact mb2 rfl rfl | exact mb4 rfl rfl rfl rfl)); intro _; (try simp only [List.cons_append, List.nil_append, List.append_nil])) | refine sW rfl rfl ?_ | refine sK rfl rfl ?_ | refine j_if rfl ?_ | refine j_else rfl ?_ | refine pkT rfl rfl rfl rfl ?_ | refine pkF rfl rfl rfl rfl ?_)
    (first | refine sX rfl rfl ?_ | (refine sS rfl rfl ?_ ?_; focus omega) | (refine sC rfl rfl ?_ ?_; focus (first | exact trivial | assumption | constructor <;> assumption | exact mb2 rfl rfl | exact mb4 rfl rfl rfl rfl)) | refine cX ?_ | refine cY ?_ | (refine sA rfl rfl ?_; intro _) | refine sT rfl ?_ | refine sF rfl ?_ | (refine sR rfl ?_ ?_; focus omega) | (refine sB rfl rfl ?_; intro _) | (refine sN rfl rfl ?_ ?_; (focus (first | exact trivial | assumption | constructor <;> assumption | exact mb2 rfl rfl | exact mb4 rfl rfl rfl rfl)); intro _; (try simp only [List.cons_append, List.nil_append, List.append_nil])) | refine sW rfl rfl ?_ | refine sK rfl rfl ?_ | refine j_if rfl ?_ | refine j_else rfl ?_ | refine pkT rfl rfl rfl rfl ?_ | refine pkF rfl rfl rfl rfl ?_)
    (first | refine sX rfl rfl ?_ | (refine sS rfl rfl ?_ ?_; focus omega) | (refine sC rfl rfl ?_ ?_; focus (first | exact trivial | assumption | constructor <;> assumption | exact mb2 rfl rfl | exact mb4 rfl rfl rfl rfl)) | refine cX ?_ | refine cY ?_ | (refine sA rfl rfl ?_; intro _) | refine sT rfl ?_ | refine sF rfl ?_ | (refine sR rfl ?_ ?_; focus omega) | (refine sB rfl rfl ?_; intro _) | (refine sN rfl rfl ?_ ?_; (focus (first | exact trivial | assumption | constructor <;> assumption | exact mb2 rfl rfl | exact mb4 rfl rfl rfl rfl)); intro _; (try simp only [List.cons_append, List.nil_append, List.append_nil])) | refine sW rfl rfl ?_ | refine sK rfl rfl ?_ | refine j_if rfl ?_ | refine j_else rfl ?_ | refine pkT rfl rfl rfl rfl ?_ | refine pkF rfl rfl rfl rfl ?_)
    (first | refine sX rfl rfl ?_ | (refine sS rfl rfl ?_ ?_; focus omega) | (refine sC rfl rfl ?_ ?_; focus (first | exact trivial | assumption | constructor <;> assumption | exact mb2 rfl rfl | exact mb4 rfl rfl rfl rfl)) | refine cX ?_ | refine cY ?_ | (refine sA rfl rfl ?_; intro _) | refine sT rfl ?_ | refine sF rfl ?_ | (refine sR rfl ?_ ?_; focus omega) | (refine sB rfl rfl ?_; intro _) | (refine sN rfl rfl ?_ ?_; (focus (first | exact trivial | assumption | constructor <;> assumption | exact mb2 rfl rfl | exact mb4 rfl rfl rfl rfl)); intro _; (try simp only [List.cons_append, List.nil_append, List.append_nil])) | refine sW rfl rfl ?_ | refine sK rfl rfl ?_ | refine j_if rfl ?_ | refine j_else rfl ?_ | refine pkT rfl rfl rfl rfl ?_ | refine pkF rfl rfl rfl rfl ?_)
    (first | refine sX rfl rfl ?_ | (refine sS rfl rfl ?_ ?_; focus omega) | (refine sC rfl rfl ?_ ?_; focus (first | exact trivial | assumption | constructor <;> assumption | exact mb2 rfl rfl | exact mb4 rfl rfl rfl rfl)) | refine cX ?_ | refine cY ?_ | (refine sA rfl rfl ?_; intro _) | refine sT rfl ?_ | refine sF rfl ?_ | (refine sR rfl ?_ ?_; focus omega) | (refine sB rfl rfl ?_; intro _) | (refine sN rfl rfl ?_ ?_; (focus (first | exact trivial | assumption | constructor <;> assumption | exact mb2 rfl rfl | exact mb4 rfl rfl rfl rfl)); intro _; (try simp only [List.cons_append, List.nil_append, List.append_nil])) | refine sW rfl rfl ?_ | refine sK rfl rfl ?_ | refine j_if rfl ?_ | refine j_else rfl ?_ | refine pkT rfl rfl rfl rfl ?_ | refine pkF rfl rfl rfl rfl ?_)
    refine j_mid (S := Nat × Nat × List Value) (fun s => (ptsW ws).length ≤ s.2.1) (fun s => [(1, .int .u8 op), (4, .pointer (some ⟨b4, 0, none⟩)), (5, .pointer (some ⟨b5, 0, none⟩))])
      (fun s => [⟨s.1, row rS (ptsW ws) s.2.2, 47⟩, ⟨b5, e_simplify_Run (q_simplify_Run ⟨zR_api_Interval, ⟨some ⟨s.1, 0, none⟩, (ptsW ws).length, s.2.1⟩⟩), 35⟩, ⟨b4, e_simplify_Run (q_simplify_Run zR_simplify_Run), 35⟩]) ?_ (fun s hs => ?_)
    · rcases og with _ | ⟨bo, co, so⟩
      · have hm0 := hog.1 rfl
        subst hm0
        have hp : ptsW ws = [⟨((3 : Int) : Rat), ⟨((5 : Int) : Rat), ((7 : Int) : Rat)⟩⟩] := if_pos (by omega)
        rw [hp]
        simp only [mSl, hSl, List.nil_append]
        repeat (first | refine sX rfl rfl ?_ | (refine sS rfl rfl ?_ ?_; focus omega) | (refine sC rfl rfl ?_ ?_; focus (first | exact trivial | assumption | constructor <;> assumption | exact mb2 rfl rfl | exact mb4 rfl rfl rfl rfl)) | refine cX ?_ | refine cY ?_ | (refine sA rfl rfl ?_; intro _) | refine sT rfl ?_ | refine sF rfl ?_ | (refine sR rfl ?_ ?_; focus omega) | (refine sB rfl rfl ?_; intro _) | (refine sN rfl rfl ?_ ?_; (focus (first | exact trivial | assumption | constructor <;> assumption | exact mb2 rfl rfl | exact mb4 rfl rfl rfl rfl)); intro _; (try simp only [List.cons_append, List.nil_append, List.append_nil])) | refine sW rfl rfl ?_ | refine sK rfl rfl ?_ | refine j_if rfl ?_ | refine j_else rfl ?_ | refine pkT rfl rfl rfl rfl ?_ | refine pkF rfl rfl rfl rfl ?_)
        simp only [decide_eq_true (show ((0 : Nat) : Int) = 0 from rfl)]
        repeat (first | refine sX rfl rfl ?_ | (refine sS rfl rfl ?_ ?_; focus omega) | (refine sC rfl rfl ?_ ?_; focus (first | exact trivial | assumption | constructor <;> assumption | exact mb2 rfl rfl | exact mb4 rfl rfl rfl rfl)) | refine cX ?_ | refine cY ?_ | (refine sA rfl rfl ?_; intro _) | refine sT rfl ?_ | refine sF rfl ?_ | (refine sR rfl ?_ ?_; focus omega) | (refine sB rfl rfl ?_; intro _) | (refine sN rfl rfl ?_ ?_; (focus (first | exact trivial | assumption | constructor <;> assumption | exact mb2 rfl rfl | exact mb4 rfl rfl rfl rfl)); intro _; (try simp only [List.cons_append, List.nil_append, List.append_nil])) | refine sW rfl rfl ?_ | refine sK rfl rfl ?_ | refine j_if rfl ?_ | refine j_else rfl ?_ | refine pkT rfl rfl rfl rfl ?_ | refine pkF rfl rfl rfl rfl ?_)
        repeat (first | refine sX rfl rfl ?_ | (refine sS rfl rfl ?_ ?_; focus omega) | (refine sC rfl rfl ?_ ?_; focus (exact ⟨⟨by omega, by omega⟩, ⟨by omega, by omega⟩, ⟨by omega, by omega⟩⟩)) | refine cX ?_ | refine cY ?_ | (refine sA rfl rfl ?_; intro _) | refine sT rfl ?_ | refine sF rfl ?_ | (refine sR rfl ?_ ?_; focus omega) | (refine sB rfl rfl ?_; intro _) | (refine sN rfl rfl ?_ ?_; (focus (exact ⟨⟨by omega, by omega⟩, ⟨by omega, by omega⟩, ⟨by omega, by omega⟩⟩)); intro _; (try simp only [List.cons_append, List.nil_append, List.append_nil])) | refine sW rfl rfl ?_ | refine sK rfl rfl ?_ | refine j_if rfl ?_ | refine j_else rfl ?_ | refine pkT rfl rfl rfl rfl ?_ | refine pkF rfl rfl rfl rfl ?_)
        rename_i bN
        exact jx_mid (bN, 1, []) (Nat.le_refl 1) (by repeat (first | exact sub_nil | refine sub_cons rfl ?_ | refine sub_cons' rfl (by congr 1; omega) ?_)) (by repeat (first | exact List.Sublist.refl _ | exact List.nil_sublist _ | refine List.Sublist.cons_cons _ ?_ | refine List.Sublist.cons _ ?_))
      · have hm0 : m ≠ 0 := fun h => by cases hog.2 h
        have hsp := hogs _ rfl
        have hp : ptsW ws = (pA ws m).1 := by rw [ptsW, if_neg (by omega), hmin]
        have hpl := pA_len ws m
        rw [hp]
        simp only [mSl, hSl, List.cons_append, List.nil_append]
        repeat (first | refine sX rfl rfl ?_ | (refine sS rfl rfl ?_ ?_; focus omega) | (refine sC rfl rfl ?_ ?_; focus (first | exact trivial | assumption | constructor <;> assumption | exact mb2 rfl rfl | exact mb4 rfl rfl rfl rfl)) | refine cX ?_ | refine cY ?_ | (refine sA rfl rfl ?_; intro _) | refine sT rfl ?_ | refine sF rfl ?_ | (refine sR rfl ?_ ?_; focus omega) | (refine sB rfl rfl ?_; intro _) | (refine sN rfl rfl ?_ ?_; (focus (first | exact trivial | assumption | constructor <;> assumption | exact mb2 rfl rfl | exact mb4 rfl rfl rfl rfl)); intro _; (try simp only [List.cons_append, List.nil_append, List.append_nil])) | refine sW rfl rfl ?_ | refine sK rfl rfl ?_ | refine j_if rfl ?_ | refine j_else rfl ?_ | refine pkT rfl rfl rfl rfl ?_ | refine pkF rfl rfl rfl rfl ?_)
        simp only [decide_eq_false (show ¬ ((pA ws m).1.length : Int) = 0 by omega)]
        repeat (first | refine sX rfl rfl ?_ | (refine sS rfl rfl ?_ ?_; focus omega) | (refine sC rfl rfl ?_ ?_; focus (first | exact trivial | assumption | constructor <;> assumption | exact mb2 rfl rfl | exact mb4 rfl rfl rfl rfl)) | refine cX ?_ | refine cY ?_ | (refine sA rfl rfl ?_; intro _) | refine sT rfl ?_ | refine sF rfl ?_ | (refine sR rfl ?_ ?_; focus omega) | (refine sB rfl rfl ?_; intro _) | (refine sN rfl rfl ?_ ?_; (focus (first | exact trivial | assumption | constructor <;> assumption | exact mb2 rfl rfl | exact mb4 rfl rfl rfl rfl)); intro _; (try simp only [List.cons_append, List.nil_append, List.append_nil])) | refine sW rfl rfl ?_ | refine sK rfl rfl ?_ | refine j_if rfl ?_ | refine j_else rfl ?_ | refine pkT rfl rfl rfl rfl ?_ | refine pkF rfl rfl rfl rfl ?_)
        exact jx_mid (bo, co, so) (by rw [hpl]; exact hsp.1) (by repeat (first | exact sub_nil | refine sub_cons rfl ?_ | refine sub_cons' rfl (by congr 1; omega) ?_)) (by repeat (first | exact List.Sublist.refl _ | exact List.nil_sublist _ | refine List.Sublist.cons_cons _ ?_ | refine List.Sublist.cons _ ?_))
    · obtain ⟨bo, co, so⟩ := s
      simp only at hs ⊢
      have hne : 0 < (ptsW ws).length := by
        unfold ptsW
        split
        · exact Nat.one_pos
        · rw [pA_len]; omega
      have hle : (ptsW ws).length ≤ 7 := by
        unfold ptsW
        split
        · show 1 ≤ 7; decide
        · rw [pA_len]; omega
      repeat (first | refine sX rfl rfl ?_ | (refine sS rfl rfl ?_ ?_; focus omega) | (refine sC rfl rfl ?_ ?_; focus (first | exact trivial | assumption | constructor <;> assumption | exact mb2 rfl rfl | exact mb4 rfl rfl rfl rfl)) | refine cX ?_ | refine cY ?_ | (refine sA rfl rfl ?_; intro _) | refine sT rfl ?_ | refine sF rfl ?_ | (refine sR rfl ?_ ?_; focus omega) | (refine sB rfl rfl ?_; intro _) | (refine sN rfl rfl ?_ ?_; (focus (first | exact trivial | assumption | constructor <;> assumption | exact mb2 rfl rfl | exact mb4 rfl rfl rfl rfl)); intro _; (try simp only [List.cons_append, List.nil_append, List.append_nil])) | refine sW rfl rfl ?_ | refine sK rfl rfl ?_ | refine j_if rfl ?_ | refine j_else rfl ?_ | refine pkT rfl rfl rfl rfl ?_ | refine pkF rfl rfl rfl rfl ?_)
      (refine j_late2 [0, 1, 2, 3, 4, 5, 6, 7, 8, 9, 10, 11, 12, 13, 14] [15] [16] ([⟨bo, row rS (ptsW ws) so, 47⟩, ⟨b5, e_simplify_Run (q_simplify_Run ⟨zR_api_Interval, ⟨some ⟨bo, 0, none⟩, (ptsW ws).length, co⟩⟩), 35⟩, ⟨b4, e_simplify_Run (q_simplify_Run zR_simplify_Run), 35⟩]) mixed (by kernel_rfl) (by kernel_rfl) (by decide) (by decide) (by repeat (first | exact List.Sublist.refl _ | exact List.nil_sublist _ | refine List.Sublist.cons_cons _ ?_ | refine List.Sublist.cons _ ?_ | refine List.Sublist.trans ?_ (List.sublist_append_right _ _))) ?_; simp only [picks, List.getElem?_cons_succ, List.getElem?_cons_zero])
      repeat (first | refine tX rfl rfl ?_ | (refine tS rfl rfl ?_ ?_; focus omega) | (refine tC rfl rfl ?_ ?_; focus (first | exact trivial | exact ⟨by omega, by omega⟩ | exact ⟨⟨by omega, by omega⟩, ⟨by omega, by omega⟩⟩)) | refine tW rfl rfl ?_ | refine tK rfl rfl ?_ | refine Go.Vt.hq (wl_pickT rfl rfl) rfl rfl ?_ | refine Go.Vt.hq (wl_pickF rfl rfl) rfl rfl ?_)
      refine jh_nil ?_
      refine eX rfl rfl ?_
      refine eF rfl ?_
      refine je_nil ?_
      repeat (first | refine sX rfl rfl ?_ | (refine sS rfl rfl ?_ ?_; focus omega) | (refine sC rfl rfl ?_ ?_; focus (first | exact trivial | assumption | constructor <;> assumption | exact mb2 rfl rfl | exact mb4 rfl rfl rfl rfl)) | refine cX ?_ | refine cY ?_ | (refine sA rfl rfl ?_; intro _) | refine sT rfl ?_ | refine sF rfl ?_ | (refine sR rfl ?_ ?_; focus omega) | (refine sB rfl rfl ?_; intro _) | (refine sN rfl rfl ?_ ?_; (focus (first | exact trivial | assumption | constructor <;> assumption | exact mb2 rfl rfl | exact mb4 rfl rfl rfl rfl)); intro _; (try simp only [List.cons_append, List.nil_append, List.append_nil])) | refine sW rfl rfl ?_ | refine sK rfl rfl ?_ | refine j_if rfl ?_ | refine j_else rfl ?_ | refine pkT rfl rfl rfl rfl ?_ | refine pkF rfl rfl rfl rfl ?_)
      by_cases h1n : 1 < ((ptsW ws).length : Int)
      · simp only [decide_eq_true h1n]
        repeat (first | refine sX rfl rfl ?_ | (refine sS rfl rfl ?_ ?_; focus omega) | (refine sC rfl rfl ?_ ?_; focus (exact ⟨by omega, by omega⟩)) | refine cX ?_ | refine cY ?_ | (refine sA rfl rfl ?_; intro _) | refine sT rfl ?_ | refine sF rfl ?_ | (refine sR rfl ?_ ?_; focus omega) | (refine sB rfl rfl ?_; intro _) | (refine sN rfl rfl ?_ ?_; (focus (exact ⟨by omega, by omega⟩)); intro _; (try simp only [List.cons_append, List.nil_append, List.append_nil])) | refine sW rfl rfl ?_ | refine sK rfl rfl ?_ | refine j_if rfl ?_ | refine j_else rfl ?_ | refine pkT rfl rfl rfl rfl ?_ | refine pkF rfl rfl rfl rfl ?_)
        simp only [decide_eq_true h1n]
        repeat (first | refine sX rfl rfl ?_ | (refine sS rfl rfl ?_ ?_; focus omega) | (refine sC rfl rfl ?_ ?_; focus (exact ⟨by omega, by omega⟩)) | refine cX ?_ | refine cY ?_ | (refine sA rfl rfl ?_; intro _) | refine sT rfl ?_ | refine sF rfl ?_ | (refine sR rfl ?_ ?_; focus omega) | (refine sB rfl rfl ?_; intro _) | (refine sN rfl rfl ?_ ?_; (focus (exact ⟨by omega, by omega⟩)); intro _; (try simp only [List.cons_append, List.nil_append, List.append_nil])) | refine sW rfl rfl ?_ | refine sK rfl rfl ?_ | refine j_if rfl ?_ | refine j_else rfl ?_ | refine pkT rfl rfl rfl rfl ?_ | refine pkF rfl rfl rfl rfl ?_)
        refine wx_cell rfl rfl (fun w hw => ⟨⟨(bo, co, so), hs⟩, ?_, hw.sub (by repeat (first | exact List.Sublist.refl _ | exact List.nil_sublist _ | refine List.Sublist.cons_cons _ ?_ | refine List.Sublist.cons _ ?_))⟩)
        unfold runI
        simp only [decide_eq_true (show 1 < (ptsW ws).length by omega), Bool.true_and]
      · simp only [decide_eq_false h1n]
        repeat (first | refine sX rfl rfl ?_ | (refine sS rfl rfl ?_ ?_; focus omega) | (refine sC rfl rfl ?_ ?_; focus (exact ⟨by omega, by omega⟩)) | refine cX ?_ | refine cY ?_ | (refine sA rfl rfl ?_; intro _) | refine sT rfl ?_ | refine sF rfl ?_ | (refine sR rfl ?_ ?_; focus omega) | (refine sB rfl rfl ?_; intro _) | (refine sN rfl rfl ?_ ?_; (focus (exact ⟨by omega, by omega⟩)); intro _; (try simp only [List.cons_append, List.nil_append, List.append_nil])) | refine sW rfl rfl ?_ | refine sK rfl rfl ?_ | refine j_if rfl ?_ | refine j_else rfl ?_ | refine pkT rfl rfl rfl rfl ?_ | refine pkF rfl rfl rfl rfl ?_)
        simp only [decide_eq_false h1n]
        repeat (first | refine sX rfl rfl ?_ | (refine sS rfl rfl ?_ ?_; focus omega) | (refine sC rfl rfl ?_ ?_; focus (exact ⟨by omega, by omega⟩)) | refine cX ?_ | refine cY ?_ | (refine sA rfl rfl ?_; intro _) | refine sT rfl ?_ | refine sF rfl ?_ | (refine sR rfl ?_ ?_; focus omega) | (refine sB rfl rfl ?_; intro _) | (refine sN rfl rfl ?_ ?_; (focus (exact ⟨by omega, by omega⟩)); intro _; (try simp only [List.cons_append, List.nil_append, List.append_nil])) | refine sW rfl rfl ?_ | refine sK rfl rfl ?_ | refine j_if rfl ?_ | refine j_else rfl ?_ | refine pkT rfl rfl rfl rfl ?_ | refine pkF rfl rfl rfl rfl ?_)
        refine wx_cell rfl rfl (fun w hw => ⟨⟨(bo, co, so), hs⟩, ?_, hw.sub (by repeat (first | exact List.Sublist.refl _ | exact List.nil_sublist _ | refine List.Sublist.cons_cons _ ?_ | refine List.Sublist.cons _ ?_))⟩)
        unfold runI
        simp only [decide_eq_false (show ¬ 1 < (ptsW ws).length by omega), Bool.false_and]
theorem ArgS.to {α : Type} {w0 w : World} {v : Value} {enc : α → Array Value} {xs : List α} (h : ArgS w0 v enc xs) (hx : Ext w0 w) : ArgS w v enc xs := by
  rcases h.out with h1 | ⟨a, c, h1, h2, h3⟩
  · exact ⟨.inl h1⟩
  · refine ⟨.inr ⟨a, c, h1, h2, fun i f k u hi hk hu => ?_⟩⟩
    have h4 := h3 i f k u hi hk hu
    obtain ⟨hae, cs, T, fz, hb, hc⟩ := cell_some h4
    rw [hae]
    have hb' : w.heap[(a.add (i * k + f)).block]? = some (.cells cs T fz) := by rw [hx.block _ (lt_of_block hb)]; exact hb
    rw [cell_block hb']
    exact hc
abbrev SP3 (ps : List R_movingpoint_Sample) := { s : Nat × Nat × List Value // ps.length ≤ s.2.1 }
instance sr_Run (w0 : World) (L : List Blk) (v : Value) (ws : List WStep) (op : Int) [h : ArgC w0 v WStep e_st_Time_X_Y ws] : SpecR Tryz.prog w0 L 10 [v, .int .u8 op] (SP3 (ptsW ws)) (fun s => vRun (runI (ptsW ws) op) s.1.1 (ptsW ws).length s.1.2.1) (fun s => [⟨s.1.1, row rS (ptsW ws) s.1.2.2, 47⟩]) ((0 ≤ op ∧ op ≤ 255) ∧ WOk ws ∧ ws.length ≤ 9223372036854775807) := ⟨fun hp w hw =>
  run_spec v ws op hp.1 hp.2.1 w (h.out.to hw.ext) hp.2.2⟩
end Go.Vt
