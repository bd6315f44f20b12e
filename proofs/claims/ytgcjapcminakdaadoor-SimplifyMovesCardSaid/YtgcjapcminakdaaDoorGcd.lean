/- Division with remainder and the greatest common divisor of integers. Conditions: the lengths that each statement names. -/
import Derived.Test.YtgcjapcminakdaaDoorDiv
set_option linter.unusedSimpArgs false
set_option linter.unusedVariables false
set_option maxRecDepth 100000
namespace Go.Vt
open Go.RowKit Go.Proofs

instance sp_div (a b : Nat) : SpecC Tryd.prog 69 [.string (mag a), .string (mag b)] (.tuple #[.string (mag (a / b)), .string (mag (a % b))]) (b ≠ 0 ∧ (mag a).size ≤ LIM ∧ (mag b).size ≤ LIM) := ⟨fun h w => div_spec a b h.1 h.2.1 h.2.2 w⟩
theorem divmod_eq (a b : Int) (hb : b ≠ 0) (q r : Nat) (hq : q = a.natAbs / b.natAbs) (hr : r = a.natAbs % b.natAbs) :
    (a < 0 ∧ r ≠ 0 → sg (decide (a < 0) != decide (b < 0)) (q + 1) = a / b ∧ ((b.natAbs - r : Nat) : Int) = a % b) ∧ (¬ (a < 0 ∧ r ≠ 0) → sg (decide (a < 0) != decide (b < 0)) q = a / b ∧ (r : Int) = a % b) := by
  have hb' : 0 < b.natAbs := by omega
  have h1 := Nat.div_add_mod a.natAbs b.natAbs
  have h2 := Nat.mod_lt a.natAbs hb'
  rw [← hq, ← hr] at h1
  rw [← hr] at h2
  have key : ∀ (x : Int) (y : Int), a = b * x + y → 0 ≤ y → y < b.natAbs → x = a / b ∧ y = a % b := by
    intro x y e h3 h4
    rcases Int.lt_or_le b 0 with h0 | h0
    · have := (Int.ediv_emod_unique' (a := a) (b := b) (r := y) (q := x) h0).2 ⟨by omega, h3, by omega⟩
      exact ⟨this.1.symm, this.2.symm⟩
    · have := (Int.ediv_emod_unique (a := a) (b := b) (r := y) (q := x) (by omega)).2 ⟨by omega, h3, by omega⟩
      exact ⟨this.1.symm, this.2.symm⟩
  have hm : ((b.natAbs * q : Nat) : Int) = (b.natAbs : Int) * (q : Int) := by simp
  unfold sg
  refine ⟨fun ⟨ha, hr0⟩ => ?_, fun hn => ?_⟩
  · refine key _ _ ?_ (by omega) (by omega)
    rcases Int.lt_or_le b 0 with hb0 | hb0
    · simp only [ha, hb0, decide_true, bne_self_eq_false, Bool.false_eq_true, if_false]
      have : b = -(b.natAbs : Int) := by omega
      rw [this, Int.natAbs_neg, Int.natAbs_natCast, Int.natCast_add, Int.mul_add, Int.neg_mul, ← hm]
      omega
    · have hb1 : ¬ b < 0 := by omega
      simp only [ha, hb1, decide_true, decide_false, Bool.bne_false, if_true]
      have : b = (b.natAbs : Int) := by omega
      rw [this, Int.natAbs_natCast, Int.natCast_add, Int.mul_neg, Int.mul_add, ← hm]
      omega
  · refine key _ _ ?_ (by omega) (by omega)
    rcases Int.lt_or_le a 0 with ha | ha
    · have hr0 : r = 0 := by
        rcases Nat.eq_zero_or_pos r with h | h
        · exact h
        · exact absurd ⟨ha, by omega⟩ hn
      rcases Int.lt_or_le b 0 with hb0 | hb0
      · simp only [ha, hb0, decide_true, bne_self_eq_false, Bool.false_eq_true, if_false]
        have : b = -(b.natAbs : Int) := by omega
        rw [this, Int.neg_mul, ← hm]
        omega
      · have hb1 : ¬ b < 0 := by omega
        simp only [ha, hb1, decide_true, decide_false, Bool.bne_false, if_true]
        have : b = (b.natAbs : Int) := by omega
        rw [this, Int.mul_neg, ← hm]
        omega
    · have ha1 : ¬ a < 0 := by omega
      rcases Int.lt_or_le b 0 with hb0 | hb0
      · simp only [ha1, hb0, decide_true, decide_false, Bool.bne_true, Bool.not_false, if_true]
        have : b = -(b.natAbs : Int) := by omega
        rw [this, Int.neg_mul, Int.mul_neg, Int.neg_neg, ← hm]
        omega
      · have hb1 : ¬ b < 0 := by omega
        simp only [ha1, hb1, decide_false, bne_self_eq_false, Bool.false_eq_true, if_false]
        have : b = (b.natAbs : Int) := by omega
        rw [this, ← hm]
        omega
theorem mag_one : (⟨#[1]⟩ : ByteArray) = mag 1 := by decide
instance sp_DivMod (a b : Int) : SpecC Tryd.prog 70 [vI a, vI b] (.tuple #[vI (a / b), vI (a % b), .int .i64 0]) (b ≠ 0 ∧ mg a ≤ LIM ∧ mg b ≤ LIM) := ⟨fun hp w => by
  obtain ⟨hb, ha, hbl⟩ := hp
  have hb' : b.natAbs ≠ 0 := by omega
  obtain ⟨k1, k2⟩ := divmod_eq a b hb _ _ rfl rfl
  have hsq : (mag (a.natAbs / b.natAbs)).size ≤ LIM := Nat.le_trans (size_mono (Nat.div_le_self _ _)) ha
  have hlt : a.natAbs % b.natAbs ≤ b.natAbs := Nat.le_of_lt (Nat.mod_lt _ (by omega))
  refine fn_intro Tryd.func70 rfl Tryd.ntmps70 rfl ?_
  repeat (first | refine sX rfl rfl ?_ | (refine sS rfl rfl ?_ ?_; focus omega) | (refine sC rfl rfl ?_ ?_; focus (first | exact trivial | assumption | exact ⟨by assumption, by assumption⟩ | exact mb2 rfl rfl | exact mb4 rfl rfl rfl rfl)) | refine cX ?_ | refine cY ?_ | (refine sA rfl rfl ?_; intro _) | refine sT rfl ?_ | refine sW rfl rfl ?_ | refine sK rfl rfl ?_ | refine j_if rfl ?_ | refine j_else rfl ?_ | refine Go.Vt.jq (wl_pickT rfl rfl) rfl rfl ?_ | refine Go.Vt.jq (wl_pickF rfl rfl) rfl rfl ?_)
  refine j_cond rfl (fun h => ?_) (fun h => ?_)
  · have := mag_eq_empty.1 (of_decide_eq_true h)
    omega
  repeat (first | refine sX rfl rfl ?_ | (refine sS rfl rfl ?_ ?_; focus omega) | (refine sC rfl rfl ?_ ?_; focus (first | exact trivial | exact ⟨hb', ha, hbl⟩)) | refine cX ?_ | refine cY ?_ | (refine sA rfl rfl ?_; intro _) | refine sT rfl ?_ | refine sW rfl rfl ?_ | refine sK rfl rfl ?_ | refine j_if rfl ?_ | refine j_else rfl ?_ | refine Go.Vt.jq (wl_pickT rfl rfl) rfl rfl ?_ | refine Go.Vt.jq (wl_pickF rfl rfl) rfl rfl ?_)
  generalize hq : a.natAbs / b.natAbs = q at *
  generalize hr : a.natAbs % b.natAbs = r at *
  by_cases hA : a < 0
  · simp only [decide_eq_true hA]
    repeat (first | refine sX rfl rfl ?_ | (refine sS rfl rfl ?_ ?_; focus omega) | (refine sC rfl rfl ?_ ?_; focus (first | exact trivial | assumption | exact ⟨by assumption, by assumption⟩ | exact mb2 rfl rfl | exact mb4 rfl rfl rfl rfl)) | refine cX ?_ | refine cY ?_ | (refine sA rfl rfl ?_; intro _) | refine sT rfl ?_ | refine sW rfl rfl ?_ | refine sK rfl rfl ?_ | refine j_if rfl ?_ | refine j_else rfl ?_ | refine Go.Vt.jq (wl_pickT rfl rfl) rfl rfl ?_ | refine Go.Vt.jq (wl_pickF rfl rfl) rfl rfl ?_)
    refine j_cond rfl (fun h => ?_) (fun h => ?_)
    · have hn : ¬ mag r = ⟨#[]⟩ := by simpa using h
      obtain ⟨e1, e2⟩ := k1 ⟨hA, fun h0 => hn (mag_eq_empty.2 h0)⟩
      (refine j_late [0, 1, 2, 3, 4, 5] [6, 7] _ mixed (by kernel_rfl) (by decide) (List.Sublist.refl _) ?_; simp only [picks, List.getElem?_cons_succ, List.getElem?_cons_zero])
      rw [mag_one]
      repeat (first | refine tX rfl rfl ?_ | (refine tS rfl rfl ?_ ?_; focus omega) | (refine tC rfl rfl ?_ ?_; focus (first | exact trivial | exact ⟨hsq, by decide⟩ | exact ⟨hbl, hlt⟩)) | refine tW rfl rfl ?_ | refine tK rfl rfl ?_ | refine Go.Vt.hq (wl_pickT rfl rfl) rfl rfl ?_ | refine Go.Vt.hq (wl_pickF rfl rfl) rfl rfl ?_)
      refine jh_nil ?_
      refine je_assign rfl rfl rfl (List.Sublist.refl _) (je_assign rfl rfl rfl (List.Sublist.refl _) (je_nil ?_))
      repeat (first | refine sX rfl rfl ?_ | (refine sS rfl rfl ?_ ?_; focus omega) | (refine sC rfl rfl ?_ ?_; focus (first | exact trivial | assumption | exact ⟨by assumption, by assumption⟩ | exact mb2 rfl rfl | exact mb4 rfl rfl rfl rfl)) | refine cX ?_ | refine cY ?_ | (refine sA rfl rfl ?_; intro _) | refine sT rfl ?_ | refine sW rfl rfl ?_ | refine sK rfl rfl ?_ | refine j_if rfl ?_ | refine j_else rfl ?_ | refine Go.Vt.jq (wl_pickT rfl rfl) rfl rfl ?_ | refine Go.Vt.jq (wl_pickF rfl rfl) rfl rfl ?_)
      exact jx_ret_three rfl (wr_cell rfl) (wr_cell rfl) (resv_tmp rfl) (fun w hw => by rw [e1, show sg false (b.natAbs - r) = a % b from e2]; exact ret_ok hw)
    · have hn : mag r = ⟨#[]⟩ := by simpa using h
      obtain ⟨e1, e2⟩ := k2 (fun h => h.2 (mag_eq_empty.1 hn))
      repeat (first | refine sX rfl rfl ?_ | (refine sS rfl rfl ?_ ?_; focus omega) | (refine sC rfl rfl ?_ ?_; focus (first | exact trivial | assumption | exact ⟨by assumption, by assumption⟩ | exact mb2 rfl rfl | exact mb4 rfl rfl rfl rfl)) | refine cX ?_ | refine cY ?_ | (refine sA rfl rfl ?_; intro _) | refine sT rfl ?_ | refine sW rfl rfl ?_ | refine sK rfl rfl ?_ | refine j_if rfl ?_ | refine j_else rfl ?_ | refine Go.Vt.jq (wl_pickT rfl rfl) rfl rfl ?_ | refine Go.Vt.jq (wl_pickF rfl rfl) rfl rfl ?_)
      exact jx_ret_three rfl (wr_cell rfl) (wr_cell rfl) (resv_tmp rfl) (fun w hw => by rw [e1, show sg false r = a % b from e2]; exact ret_ok hw)
  · simp only [decide_eq_false hA]
    obtain ⟨e1, e2⟩ := k2 (fun h => hA h.1)
    repeat (first | refine sX rfl rfl ?_ | (refine sS rfl rfl ?_ ?_; focus omega) | (refine sC rfl rfl ?_ ?_; focus (first | exact trivial | assumption | exact ⟨by assumption, by assumption⟩ | exact mb2 rfl rfl | exact mb4 rfl rfl rfl rfl)) | refine cX ?_ | refine cY ?_ | (refine sA rfl rfl ?_; intro _) | refine sT rfl ?_ | refine sW rfl rfl ?_ | refine sK rfl rfl ?_ | refine j_if rfl ?_ | refine j_else rfl ?_ | refine Go.Vt.jq (wl_pickT rfl rfl) rfl rfl ?_ | refine Go.Vt.jq (wl_pickF rfl rfl) rfl rfl ?_)
    exact jx_ret_three rfl (wr_cell rfl) (wr_cell rfl) (resv_tmp rfl) (fun w hw => by rw [e1, show sg false r = a % b from e2]; exact ret_ok hw)⟩

/-! ### The greatest common divisor -/
theorem gcd_spec (a b : Int) (ha : mg a ≤ LIM) (hb : mg b ≤ LIM) (w : World) : Calls Tryd.prog 55 [vI a, vI b].toArray w (Ret (vI (Int.gcd a b)) w) := by
  refine fn_intro Tryd.func55 rfl Tryd.ntmps55 rfl ?_
  repeat (first | refine sX rfl rfl ?_ | (refine sS rfl rfl ?_ ?_; focus omega) | (refine sC rfl rfl ?_ ?_; focus (first | exact trivial | assumption | exact ⟨by assumption, by assumption⟩ | exact mb2 rfl rfl | exact mb4 rfl rfl rfl rfl)) | refine cX ?_ | refine cY ?_ | (refine sA rfl rfl ?_; intro _) | refine sT rfl ?_ | refine sW rfl rfl ?_ | refine sK rfl rfl ?_ | refine j_if rfl ?_ | refine j_else rfl ?_ | refine Go.Vt.jq (wl_pickT rfl rfl) rfl rfl ?_ | refine Go.Vt.jq (wl_pickF rfl rfl) rfl rfl ?_)
  (refine j_late [0, 1, 2, 3] [4, 5] _ mixed (by kernel_rfl) (by decide) (List.Sublist.refl _) ?_; simp only [picks, List.getElem?_cons_succ, List.getElem?_cons_zero])
  repeat (first | refine tX rfl rfl ?_ | (refine tS rfl rfl ?_ ?_; focus omega) | (refine tC rfl rfl ?_ ?_; focus (first | exact trivial | assumption | exact ⟨by assumption, by assumption⟩ | exact mb2 rfl rfl | exact mb4 rfl rfl rfl rfl)) | refine tW rfl rfl ?_ | refine tK rfl rfl ?_ | refine Go.Vt.hq (wl_pickT rfl rfl) rfl rfl ?_ | refine Go.Vt.hq (wl_pickF rfl rfl) rfl rfl ?_)
  refine jh_nil ?_
  refine je_assign rfl rfl rfl (List.Sublist.refl _) (je_assign rfl rfl rfl (List.Sublist.refl _) (je_nil ?_))
  repeat (first | refine sX rfl rfl ?_ | (refine sS rfl rfl ?_ ?_; focus omega) | (refine sC rfl rfl ?_ ?_; focus (first | exact trivial | assumption | exact ⟨by assumption, by assumption⟩ | exact mb2 rfl rfl | exact mb4 rfl rfl rfl rfl)) | refine cX ?_ | refine cY ?_ | (refine sA rfl rfl ?_; intro _) | refine sT rfl ?_ | refine sW rfl rfl ?_ | refine sK rfl rfl ?_ | refine j_if rfl ?_ | refine j_else rfl ?_ | refine Go.Vt.jq (wl_pickT rfl rfl) rfl rfl ?_ | refine Go.Vt.jq (wl_pickF rfl rfl) rfl rfl ?_)
  rename_i ba bb bc
  refine j_loop (S := Nat × Nat) (fun s => Nat.gcd s.1 s.2 = Int.gcd a b ∧ (mag s.1).size ≤ LIM ∧ (mag s.2).size ≤ LIM) (fun s => [(4, .pointer (some ⟨bc, 0, none⟩)), (5, .string (mag s.1)), (6, .string (mag s.2))]) (fun _ => [⟨bc, e_api_Int z_api_Int, 26⟩]) (fun s => s.2) (a.natAbs, b.natAbs) ⟨rfl, ha, hb⟩
    (by repeat (first | exact sub_nil | refine sub_cons rfl ?_ | refine sub_cons' rfl (by congr 1; omega) ?_)) sbl (fun s hs => ?_)
  obtain ⟨x, y⟩ := s
  obtain ⟨hg, hx, hy⟩ := hs
  simp only at hg hx hy ⊢
  repeat (first | refine sX rfl rfl ?_ | (refine sS rfl rfl ?_ ?_; focus omega) | (refine sC rfl rfl ?_ ?_; focus (first | exact trivial | assumption | exact ⟨by assumption, by assumption⟩ | exact mb2 rfl rfl | exact mb4 rfl rfl rfl rfl)) | refine cX ?_ | refine cY ?_ | (refine sA rfl rfl ?_; intro _) | refine sT rfl ?_ | refine sW rfl rfl ?_ | refine sK rfl rfl ?_ | refine j_if rfl ?_ | refine j_else rfl ?_ | refine Go.Vt.jq (wl_pickT rfl rfl) rfl rfl ?_ | refine Go.Vt.jq (wl_pickF rfl rfl) rfl rfl ?_)
  refine j_cond rfl (fun h => ?_) (fun h => ?_)
  · have hn : ¬ mag y = ⟨#[]⟩ := by simpa using h
    have hy0 : y ≠ 0 := fun h0 => hn (mag_eq_empty.2 h0)
    repeat (first | refine sX rfl rfl ?_ | (refine sS rfl rfl ?_ ?_; focus omega) | (refine sC rfl rfl ?_ ?_; focus (first | exact trivial | assumption | exact ⟨by assumption, by assumption⟩ | exact mb2 rfl rfl | exact mb4 rfl rfl rfl rfl)) | refine cX ?_ | refine cY ?_ | (refine sA rfl rfl ?_; intro _) | refine sT rfl ?_ | refine sW rfl rfl ?_ | refine sK rfl rfl ?_ | refine j_if rfl ?_ | refine j_else rfl ?_ | refine Go.Vt.jq (wl_pickT rfl rfl) rfl rfl ?_ | refine Go.Vt.jq (wl_pickF rfl rfl) rfl rfl ?_)
    refine j_cond rfl (fun h => ?_) (fun h => ?_)
    · have hxy : sm x = true ∧ sm y = true := by simpa using h
      repeat (first | refine sX rfl rfl ?_ | (refine sS rfl rfl ?_ ?_; focus omega) | (refine sC rfl rfl ?_ ?_; focus (first | exact trivial | assumption | exact ⟨by assumption, by assumption⟩ | exact mb2 rfl rfl | exact mb4 rfl rfl rfl rfl)) | refine cX ?_ | refine cY ?_ | (refine sA rfl rfl ?_; intro _) | refine sT rfl ?_ | refine sW rfl rfl ?_ | refine sK rfl rfl ?_ | refine j_if rfl ?_ | refine j_else rfl ?_ | refine Go.Vt.jq (wl_pickT rfl rfl) rfl rfl ?_ | refine Go.Vt.jq (wl_pickF rfl rfl) rfl rfl ?_)
      refine j_loop (S := Nat × Nat) (fun s => Nat.gcd s.1 s.2 = Int.gcd a b ∧ s.1 < 18446744073709551616 ∧ s.2 < 18446744073709551616) (fun s => [(4, .pointer (some ⟨bc, 0, none⟩)), (7, .int .u64 s.1), (8, .int .u64 s.2)]) (fun _ => [⟨bc, e_api_Int z_api_Int, 26⟩]) (fun s => s.2) (lo x, lo y) ⟨by simp only [lo_sm hxy.1, lo_sm hxy.2]; exact hg, lo_lt _, lo_lt _⟩
        (by repeat (first | exact sub_nil | refine sub_cons rfl ?_ | refine sub_cons' rfl (by congr 1; omega) ?_)) sbl (fun s hs => ?_)
      obtain ⟨u, v⟩ := s
      obtain ⟨hg, hu, hv⟩ := hs
      simp only at hg hu hv ⊢
      repeat (first | refine sX rfl rfl ?_ | (refine sS rfl rfl ?_ ?_; focus omega) | (refine sC rfl rfl ?_ ?_; focus (first | exact trivial | assumption | exact ⟨by assumption, by assumption⟩ | exact mb2 rfl rfl | exact mb4 rfl rfl rfl rfl)) | refine cX ?_ | refine cY ?_ | (refine sA rfl rfl ?_; intro _) | refine sT rfl ?_ | refine sW rfl rfl ?_ | refine sK rfl rfl ?_ | refine j_if rfl ?_ | refine j_else rfl ?_ | refine Go.Vt.jq (wl_pickT rfl rfl) rfl rfl ?_ | refine Go.Vt.jq (wl_pickF rfl rfl) rfl rfl ?_)
      refine j_cond rfl (fun h => ?_) (fun h => ?_)
      · have hv0 : v ≠ 0 := fun h0 => by subst h0; simp at h
        have hm := Nat.mod_lt u (Nat.pos_of_ne_zero hv0)
        have hum : ((u : Int) % (v : Int)) = ((u % v : Nat) : Int) := rfl
        repeat (first | refine sX rfl rfl ?_ | (refine sS rfl rfl ?_ ?_; focus omega) | (refine sC rfl rfl ?_ ?_; focus (first | exact trivial | assumption | exact ⟨by assumption, by assumption⟩ | exact mb2 rfl rfl | exact mb4 rfl rfl rfl rfl)) | refine cX ?_ | refine cY ?_ | (refine sA rfl rfl ?_; intro _) | refine sT rfl ?_ | refine sW rfl rfl ?_ | refine sK rfl rfl ?_ | refine j_if rfl ?_ | refine j_else rfl ?_ | refine Go.Vt.jq (wl_pickT rfl rfl) rfl rfl ?_ | refine Go.Vt.jq (wl_pickF rfl rfl) rfl rfl ?_)
        (refine j_late [0, 1, 2, 3] [4, 5] ([]) mixed (by kernel_rfl) (by decide) sbl ?_; simp only [picks, List.getElem?_cons_succ, List.getElem?_cons_zero])
        repeat (first | refine tX rfl rfl ?_ | (refine tS rfl rfl ?_ ?_; focus omega) | (refine tC rfl rfl ?_ ?_; focus (first | exact trivial | assumption | exact ⟨by assumption, by assumption⟩ | exact mb2 rfl rfl | exact mb4 rfl rfl rfl rfl)) | refine tW rfl rfl ?_ | refine tK rfl rfl ?_ | refine Go.Vt.hq (wl_pickT rfl rfl) rfl rfl ?_ | refine Go.Vt.hq (wl_pickF rfl rfl) rfl rfl ?_)
        refine hq (wl_remu rfl rfl ?_) rfl rfl ?_
        · omega
        rw [hum]
        refine jh_nil ?_
        refine je_assign rfl rfl rfl (List.nil_sublist _) (je_assign rfl rfl rfl (List.nil_sublist _) (je_nil ?_))
        repeat (first | refine sX rfl rfl ?_ | (refine sS rfl rfl ?_ ?_; focus omega) | (refine sC rfl rfl ?_ ?_; focus (first | exact trivial | assumption | exact ⟨by assumption, by assumption⟩ | exact mb2 rfl rfl | exact mb4 rfl rfl rfl rfl)) | refine cX ?_ | refine cY ?_ | (refine sA rfl rfl ?_; intro _) | refine sT rfl ?_ | refine sW rfl rfl ?_ | refine sK rfl rfl ?_ | refine j_if rfl ?_ | refine j_else rfl ?_ | refine Go.Vt.jq (wl_pickT rfl rfl) rfl rfl ?_ | refine Go.Vt.jq (wl_pickF rfl rfl) rfl rfl ?_)
        exact jx_loop (v, u % v) ⟨by simp only; rw [← hg, Nat.gcd_comm u v, Nat.gcd_comm v, Nat.gcd_rec v u], by omega, by omega⟩ (by repeat (first | exact sub_nil | refine sub_cons rfl ?_ | refine sub_cons' rfl (by congr 1; omega) ?_)) sbl hm
      · have hv0 : v = 0 := by
          have : (v : Int) = 0 := by simpa using h
          omega
        subst hv0
        rw [Nat.gcd_zero_right] at hg
        subst hg
        repeat (first | refine sX rfl rfl ?_ | (refine sS rfl rfl ?_ ?_; focus omega) | (refine sC rfl rfl ?_ ?_; focus (first | exact trivial | omega)) | refine cX ?_ | refine cY ?_ | (refine sA rfl rfl ?_; intro _) | refine sT rfl ?_ | refine sW rfl rfl ?_ | refine sK rfl rfl ?_ | refine j_if rfl ?_ | refine j_else rfl ?_ | refine Go.Vt.jq (wl_pickT rfl rfl) rfl rfl ?_ | refine Go.Vt.jq (wl_pickF rfl rfl) rfl rfl ?_)
        exact wx_cell rfl rfl (fun w hw => ret_ok hw)
    · repeat (first | refine sX rfl rfl ?_ | (refine sS rfl rfl ?_ ?_; focus omega) | (refine sC rfl rfl ?_ ?_; focus (first | exact trivial | exact ⟨hy0, hx, hy⟩)) | refine cX ?_ | refine cY ?_ | (refine sA rfl rfl ?_; intro _) | refine sT rfl ?_ | refine sW rfl rfl ?_ | refine sK rfl rfl ?_ | refine j_if rfl ?_ | refine j_else rfl ?_ | refine Go.Vt.jq (wl_pickT rfl rfl) rfl rfl ?_ | refine Go.Vt.jq (wl_pickF rfl rfl) rfl rfl ?_)
      have hm := Nat.mod_lt x (Nat.pos_of_ne_zero hy0)
      exact jx_loop (y, x % y) ⟨by simp only; rw [← hg, Nat.gcd_comm x y, Nat.gcd_comm y, Nat.gcd_rec y x], hy, Nat.le_trans (size_mono (Nat.mod_le _ _)) hx⟩ (by repeat (first | exact sub_nil | refine sub_cons rfl ?_ | refine sub_cons' rfl (by congr 1; omega) ?_)) sbl hm
  · have hn : mag y = ⟨#[]⟩ := by simpa using h
    have hy0 := mag_eq_empty.1 hn
    subst hy0
    rw [Nat.gcd_zero_right] at hg
    subst hg
    repeat (first | refine sX rfl rfl ?_ | (refine sS rfl rfl ?_ ?_; focus omega) | (refine sC rfl rfl ?_ ?_; focus (first | exact trivial | assumption | exact ⟨by assumption, by assumption⟩ | exact mb2 rfl rfl | exact mb4 rfl rfl rfl rfl)) | refine cX ?_ | refine cY ?_ | (refine sA rfl rfl ?_; intro _) | refine sT rfl ?_ | refine sW rfl rfl ?_ | refine sK rfl rfl ?_ | refine j_if rfl ?_ | refine j_else rfl ?_ | refine Go.Vt.jq (wl_pickT rfl rfl) rfl rfl ?_ | refine Go.Vt.jq (wl_pickF rfl rfl) rfl rfl ?_)
    exact wx_cell rfl rfl (fun w hw => ret_ok hw)
instance sp_Gcd (a b : Int) : SpecC Tryd.prog 55 [vI a, vI b] (vI (Int.gcd a b)) (mg a ≤ LIM ∧ mg b ≤ LIM) := ⟨fun h w => gcd_spec a b h.1 h.2 w⟩
end Go.Vt
