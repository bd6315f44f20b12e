/- ReconstructThrough: for at most 12 reports and any settings, Through returns the trajectory through the reports of their chain. (part 6 of 6.) Conditions: those that each statement names. -/
import Derived.Test.YtecgnhneekbhgaaGreatDoorKT5
/- The law's longest chain, walked. Conditions: those that each statement names. -/
set_option linter.unusedSimpArgs false
set_option linter.unusedVariables false
set_option maxHeartbeats 2000000
set_option maxRecDepth 100000
namespace Go.Vt
open Go.RowKit Go.Proofs
set_option maxHeartbeats 8000000 in
theorem chainR_spec (v : Value) (l : List R_intake_Timed) (s : api_Settings) (w : World) (hv : ArgS w v r_intake_Timed l) (hl : l.length ≤ 4096) (hok : ∀ x ∈ l, TkOk x) (hs : -1048576 ≤ s.MaxSpeed ∧ s.MaxSpeed ≤ 1048576) :
    Calls Tryz.prog 13 [v, .agg (e_api_Settings s)].toArray w (RetM (SlS (eI .i64) 1 (cI (chainL (cCp s.MaxSpeed l) l.length))) (fun o => vSl o) (fun o => mS 3 o) w) := by
  obtain ⟨p, cp, rfl⟩ := hv.form
  have hC : ∀ i k, cCp s.MaxSpeed l i k = cpt s.MaxSpeed (gi l (i : Int)) (gi l (k : Int)) := fun _ _ => rfl
  generalize hCe : cCp s.MaxSpeed l = C at *
  generalize hn : l.length = n at *
  have hgo : ∀ i : Nat, i < n → TkOk (gi l (i : Int)) := fun i hi => hok _ (gi_mem (by omega))
  refine fn_intro Tryz.func13 rfl Tryz.ntmps13 rfl ?_
  repeat (first | (refine wkB ?_; try intro _) | (refine sC rfl rfl ?_ ?_; focus (first | exact trivial | assumption | constructor <;> assumption | exact mb2 rfl rfl | exact mb4 rfl rfl rfl rfl)) | (refine sN rfl rfl ?_ ?_; (focus (first | exact trivial | assumption | constructor <;> assumption | exact mb2 rfl rfl | exact mb4 rfl rfl rfl rfl)); intro _; (try simp only [List.cons_append, List.nil_append, List.append_nil])) | refine sMu rfl ?_ | (refine sMm rfl rfl ?_; intro _) | (refine sRg rfl rfl ?_; intro _))
  refine sM rfl rfl ⟨by omega, by omega⟩ (fun b5 => ?_)
  repeat (first | (refine wkB ?_; try intro _) | (refine sC rfl rfl ?_ ?_; focus (first | exact trivial | assumption | constructor <;> assumption | exact mb2 rfl rfl | exact mb4 rfl rfl rfl rfl)) | (refine sN rfl rfl ?_ ?_; (focus (first | exact trivial | assumption | constructor <;> assumption | exact mb2 rfl rfl | exact mb4 rfl rfl rfl rfl)); intro _; (try simp only [List.cons_append, List.nil_append, List.append_nil])) | refine sMu rfl ?_ | (refine sMm rfl rfl ?_; intro _) | (refine sRg rfl rfl ?_; intro _))
  rename_i b3
  refine j_loop (S := Nat) (fun m => m ≤ n) (fun m => [(0, .slice p n cp), (3, .pointer (some ⟨b3, 0, none⟩)), (5, .slice (some ⟨b5, 0, none⟩) n n), (6, .int .i64 (mostL (bestL C n m))), (7, .int .i64 ((n : Int) - 1 - m))]) (fun m => [⟨b5, row (eI .i64) (tabL (n - m) (bestL C n m)) [], 3⟩, ⟨b3, e_api_Settings s, 26⟩]) (fun m => n - m) 0 (Nat.zero_le _) ?_ ?_ (fun m hm => ?_)
  · exact sbB
  · have e : tabL (n - 0) (bestL C n 0) = List.replicate n 0 := by simp [tabL, cI, bestL]
    simp only [e]
    exact slB
  repeat (first | (refine wkB ?_; try intro _) | (refine sC rfl rfl ?_ ?_; focus (first | exact trivial | assumption | constructor <;> assumption | exact mb2 rfl rfl | exact mb4 rfl rfl rfl rfl)) | (refine sN rfl rfl ?_ ?_; (focus (first | exact trivial | assumption | constructor <;> assumption | exact mb2 rfl rfl | exact mb4 rfl rfl rfl rfl)); intro _; (try simp only [List.cons_append, List.nil_append, List.append_nil])) | refine sMu rfl ?_ | (refine sMm rfl rfl ?_; intro _) | (refine sRg rfl rfl ?_; intro _))
  refine j_cond rfl (fun h => ?_) (fun h => ?_)
  · have hlt : m < n := by have := of_decide_eq_true h; omega
    obtain ⟨i, hi⟩ : ∃ i, n = m + i + 1 := ⟨n - m - 1, by omega⟩
    have e7 : (n : Int) - 1 - (m : Int) = (i : Int) := by omega
    have e8 : n - m = i + 1 := by omega
    have hbl := bestL_le C n m
    have hbn := bestL_len C n m
    have hnx : bestL C n (m + 1) = innB C i (i + 1) (bestL C n m) 1 :: bestL C n m := by
      rw [bestL, show n - (m + 1) = i by omega, show n - m = i + 1 by omega]
    have hmo := mostL_le hbl
    generalize bestL C n m = r at *
    rw [e8]
    simp only [e7]
    have ht1 := tab_len (i + 1) r
    have hset : (tabL (i + 1) r).set ((i : Int)).toNat (1 : Int) = tabL i (1 :: r) := by
      rw [Int.toNat_natCast]
      exact tab_set0 i r 1
    repeat (first | (refine wkB ?_; try intro _) | (refine sC rfl rfl ?_ ?_; focus (first | exact trivial | assumption | constructor <;> assumption | exact mb2 rfl rfl | exact mb4 rfl rfl rfl rfl)) | (refine sN rfl rfl ?_ ?_; (focus (first | exact trivial | assumption | constructor <;> assumption | exact mb2 rfl rfl | exact mb4 rfl rfl rfl rfl)); intro _; (try simp only [List.cons_append, List.nil_append, List.append_nil])) | refine sMu rfl ?_ | (refine sMm rfl rfl ?_; intro _) | (refine sRg rfl rfl ?_; intro _))
    simp only [hset]
    refine j_loop (S := Nat × Nat) (fun q => q.1 ≤ m ∧ innB C i (i + 1) r 1 = innB C i (i + 1 + q.1) (r.drop q.1) q.2 ∧ q.2 ≤ m + 1) (fun q => [(0, .slice p n cp), (3, .pointer (some ⟨b3, 0, none⟩)), (5, .slice (some ⟨b5, 0, none⟩) n n), (6, .int .i64 (mostL r)), (7, .int .i64 (i : Nat)), (8, .int .i64 ((i + 1 + q.1 : Nat)))]) (fun q => [⟨b5, row (eI .i64) (tabL i (q.2 :: r)) [], 3⟩, ⟨b3, e_api_Settings s, 26⟩]) (fun q => m - q.1) (0, 1) ⟨Nat.zero_le _, rfl, by show 1 ≤ m + 1; omega⟩ sbB slB (fun q hq => ?_)
    obtain ⟨j, a⟩ := q
    obtain ⟨hj, hin, ha⟩ := hq
    simp only at hj hin ha ⊢
    have ht2 := tab_len i (a :: r)
    rw [List.length_cons] at ht2
    have hai := tab_at i r a
    repeat (first | (refine wkB ?_; try intro _) | (refine sC rfl rfl ?_ ?_; focus (first | exact trivial | assumption | constructor <;> assumption | exact mb2 rfl rfl | exact mb4 rfl rfl rfl rfl)) | (refine sN rfl rfl ?_ ?_; (focus (first | exact trivial | assumption | constructor <;> assumption | exact mb2 rfl rfl | exact mb4 rfl rfl rfl rfl)); intro _; (try simp only [List.cons_append, List.nil_append, List.append_nil])) | refine sMu rfl ?_ | (refine sMm rfl rfl ?_; intro _) | (refine sRg rfl rfl ?_; intro _))
    refine j_cond rfl (fun h => ?_) (fun h => ?_)
    · have hjm : j < m := by have := of_decide_eq_true h; omega
      have hget := tab_get i r a j (by omega)
      have hb := hbl (r.getD j 0) (by rw [List.getD_eq_getElem?_getD, List.getElem?_eq_getElem (by omega)]; exact List.getElem_mem _)
      have hdr : r.drop j = r.getD j 0 :: r.drop (j + 1) := by
        rw [List.drop_eq_getElem_cons (by omega), List.getD_eq_getElem?_getD, List.getElem?_eq_getElem (by omega)]
        rfl
      rw [hdr] at hin
      simp only [innB] at hin
      have hne : l ≠ [] := fun h0 => by rw [h0] at hn; simp at hn; omega
      obtain ⟨bw, ow, cw, hvw, hcw, hrow⟩ := hv.blk (k := 11) hne []
      injection hvw with e1 e2 e3
      subst e1
      subst e3
      have hrow' : ∀ L, RowC w L bw ow R_intake_Timed r_intake_Timed l := fun L => ⟨fun w' hw' => hrow.out w' (hw'.sub (List.nil_sublist _))⟩
      have k1 := hgo i (by omega)
      have k2 := hgo (i + 1 + j) (by omega)
      have hCk := hC i (i + 1 + j)
      generalize r.getD j 0 = bb at *
      repeat (first | (refine wkB ?_; try intro _) | (refine sC rfl rfl ?_ ?_; focus (first | exact trivial | assumption | constructor <;> assumption | exact mb2 rfl rfl | exact mb4 rfl rfl rfl rfl)) | (refine sN rfl rfl ?_ ?_; (focus (first | exact trivial | assumption | constructor <;> assumption | exact mb2 rfl rfl | exact mb4 rfl rfl rfl rfl)); intro _; (try simp only [List.cons_append, List.nil_append, List.append_nil])) | refine sMu rfl ?_ | (refine sMm rfl rfl ?_; intro _) | (refine sRg rfl rfl ?_; intro _))
      (refine jD 10 10 (h := ?_); (repeat (first | refine wkH ?_ | (refine tC rfl rfl ?_ ?_; focus (exact ⟨k1, k2, hs⟩)))); refine jh_nil ?_; (repeat (refine wn_new ?_; intro _)); refine jn_nil ?_)
      simp only [← hCk]
      cases hc : C i (i + 1 + j)
      · rw [hc, if_neg (by decide)] at hin
        repeat (first | (refine wkB ?_; try intro _) | (refine sC rfl rfl ?_ ?_; focus (exact ⟨by omega, by omega⟩)) | (refine sN rfl rfl ?_ ?_; (focus (exact ⟨by omega, by omega⟩)); intro _; (try simp only [List.cons_append, List.nil_append, List.append_nil])) | refine sMu rfl ?_ | (refine sMm rfl rfl ?_; intro _) | (refine sRg rfl rfl ?_; intro _))
        exact jx_loop (j + 1, a) ⟨hjm, by rw [hin]; rfl, ha⟩ sbB slB (by show m - (j + 1) < m - j; omega)
      · rw [hc, if_pos rfl] at hin
        have hmv : (if (bb : Int) + 1 > (a : Int) then (bb : Int) + 1 else (a : Int)) = ((max a (bb + 1) : Nat) : Int) := by
          split <;> omega
        have hs2 : (tabL i (a :: r)).set ((i : Int)).toNat ((max a (bb + 1) : Nat) : Int) = tabL i (max a (bb + 1) :: r) := by
          rw [Int.toNat_natCast]
          exact tab_set i r a (max a (bb + 1))
        repeat (first | (refine wkB ?_; try intro _) | (refine sC rfl rfl ?_ ?_; focus (first | exact trivial | assumption | constructor <;> assumption | exact mb2 rfl rfl | exact mb4 rfl rfl rfl rfl)) | (refine sN rfl rfl ?_ ?_; (focus (first | exact trivial | assumption | constructor <;> assumption | exact mb2 rfl rfl | exact mb4 rfl rfl rfl rfl)); intro _; (try simp only [List.cons_append, List.nil_append, List.append_nil])) | refine sMu rfl ?_ | (refine sMm rfl rfl ?_; intro _) | (refine sRg rfl rfl ?_; intro _))
        refine jD 13 13 (h := ?_)
        (repeat (refine wkH ?_))
        rw [hget, hai, hmv]
        refine jh_nil ?_
        refine jn_nil ?_
        repeat (first | (refine wkB ?_; try intro _) | (refine sC rfl rfl ?_ ?_; focus (first | exact trivial | assumption | constructor <;> assumption | exact mb2 rfl rfl | exact mb4 rfl rfl rfl rfl)) | (refine sN rfl rfl ?_ ?_; (focus (first | exact trivial | assumption | constructor <;> assumption | exact mb2 rfl rfl | exact mb4 rfl rfl rfl rfl)); intro _; (try simp only [List.cons_append, List.nil_append, List.append_nil])) | refine sMu rfl ?_ | (refine sMm rfl rfl ?_; intro _) | (refine sRg rfl rfl ?_; intro _))
        simp only [hs2]
        repeat (first | (refine wkB ?_; try intro _) | (refine sC rfl rfl ?_ ?_; focus (exact ⟨by omega, by omega⟩)) | (refine sN rfl rfl ?_ ?_; (focus (exact ⟨by omega, by omega⟩)); intro _; (try simp only [List.cons_append, List.nil_append, List.append_nil])) | refine sMu rfl ?_ | (refine sMm rfl rfl ?_; intro _) | (refine sRg rfl rfl ?_; intro _))
        exact jx_loop (j + 1, max a (bb + 1)) ⟨hjm, by rw [hin]; rfl, by show max a (bb + 1) ≤ m + 1; omega⟩ sbB slB (by show m - (j + 1) < m - j; omega)
    · have hge : j = m := by have := of_decide_eq_false h; omega
      subst hge
      rw [← hbn, List.drop_length, hbn] at hin
      simp only [innB] at hin
      rw [hin] at hnx
      have hmx : (if (a : Int) > (mostL r : Int) then (a : Int) else (mostL r : Int)) = ((mostL (bestL C n (j + 1)) : Nat) : Int) := by
        rw [hnx, mostL]
        split <;> omega
      have e9 : n - (j + 1) = i := by omega
      repeat (first | (refine wkB ?_; try intro _) | (refine sC rfl rfl ?_ ?_; focus (first | exact trivial | assumption | constructor <;> assumption | exact mb2 rfl rfl | exact mb4 rfl rfl rfl rfl)) | (refine sN rfl rfl ?_ ?_; (focus (first | exact trivial | assumption | constructor <;> assumption | exact mb2 rfl rfl | exact mb4 rfl rfl rfl rfl)); intro _; (try simp only [List.cons_append, List.nil_append, List.append_nil])) | refine sMu rfl ?_ | (refine sMm rfl rfl ?_; intro _) | (refine sRg rfl rfl ?_; intro _))
      simp only [hai, hmx]
      exact jx_loop (j + 1) hlt sbB (by simp only [e9, hnx]; exact List.Sublist.refl _) (by omega)
  · have hge : m = n := by have := of_decide_eq_false h; omega
    subst hge
    have hbn := bestL_len C m m
    have hat : ∀ i : Nat, i < m → gi (tabL 0 (bestL C m m)) (i : Int) = ((bestA C m i : Nat) : Int) := fun i hi => by
      rw [gi_nat (by rw [tab_len]; omega)]
      simp only [tabL, List.replicate_zero, List.nil_append, cI, List.getElem_map, bestA, List.getD_eq_getElem?_getD, List.getElem?_eq_getElem (show i < (bestL C m m).length by omega), Option.getD_some]
    have hmo := mostL_le (bestL_le C m m)
    have htl := tab_len 0 (bestL C m m)
    rw [Nat.sub_self]
    repeat (first | (refine wkB ?_; try intro _) | (refine sC rfl rfl ?_ ?_; focus (first | exact trivial | assumption | constructor <;> assumption | exact mb2 rfl rfl | exact mb4 rfl rfl rfl rfl)) | (refine sN rfl rfl ?_ ?_; (focus (first | exact trivial | assumption | constructor <;> assumption | exact mb2 rfl rfl | exact mb4 rfl rfl rfl rfl)); intro _; (try simp only [List.cons_append, List.nil_append, List.append_nil])) | refine sMu rfl ?_ | (refine sMm rfl rfl ?_; intro _) | (refine sRg rfl rfl ?_; intro _))
    have hO := fun i (hi : i ≤ m) => outN_ok C m i hi
    have hmA : mostL (bestL C m m) = mostA C m := rfl
    have hB : ∀ i, bestA C m i ≤ m := fun i => by
      have : bestA C m i ≤ mostA C m := mostL_ge _ _
      omega
    generalize tabL 0 (bestL C m m) = tb at *
    refine j_loop (S := (i : Nat) × SlS (eI .i64) 1 (cI (outN C m i).1)) (fun q => q.1 ≤ m) (fun q => [(0, .slice p m cp), (3, .pointer (some ⟨b3, 0, none⟩)), (5, .slice (some ⟨b5, 0, none⟩) m m), (6, .int .i64 ((outN C m q.1).2 : Nat)), (9, vSl q.2), (10, .int .i64 (q.1 : Nat))]) (fun q => mS 3 q.2 ++ [⟨b5, row (eI .i64) tb [], 3⟩, ⟨b3, e_api_Settings s, 26⟩]) (fun q => m - q.1) ⟨0, SlS.no⟩ (Nat.zero_le _) sbB suB (fun q hq => ?_)
    obtain ⟨i, o⟩ := q
    simp only at hq ⊢
    have hOi := hO i hq
    have hnx : outN C m (i + 1) = outS C m (outN C m i) i := rfl
    unfold outS at hnx
    have hlen := hOi.len
    repeat (first | (refine wkB ?_; try intro _) | (refine sC rfl rfl ?_ ?_; focus (first | exact trivial | assumption | constructor <;> assumption | exact mb2 rfl rfl | exact mb4 rfl rfl rfl rfl)) | (refine sN rfl rfl ?_ ?_; (focus (first | exact trivial | assumption | constructor <;> assumption | exact mb2 rfl rfl | exact mb4 rfl rfl rfl rfl)); intro _; (try simp only [List.cons_append, List.nil_append, List.append_nil])) | refine sMu rfl ?_ | (refine sMm rfl rfl ?_; intro _) | (refine sRg rfl rfl ?_; intro _))
    refine j_cond rfl (fun h => ?_) (fun h => ?_)
    · have hlt : i < m := by have := of_decide_eq_true h; omega
      have hai := hat i hlt
      have hol := cI_len (outN C m i).1
      repeat (first | (refine wkB ?_; try intro _) | (refine sC rfl rfl ?_ ?_; focus (first | exact trivial | assumption | constructor <;> assumption | exact mb2 rfl rfl | exact mb4 rfl rfl rfl rfl)) | (refine sN rfl rfl ?_ ?_; (focus (first | exact trivial | assumption | constructor <;> assumption | exact mb2 rfl rfl | exact mb4 rfl rfl rfl rfl)); intro _; (try simp only [List.cons_append, List.nil_append, List.append_nil])) | refine sMu rfl ?_ | (refine sMm rfl rfl ?_; intro _) | (refine sRg rfl rfl ?_; intro _))
      refine j_cut (S := Bool) (fun q => q = decide (bestA C m i = (outN C m i).2 ∧ 0 < (outN C m i).2 ∧ ((outN C m i).1 = [] ∨ C ((outN C m i).1.getLastD 0) i = true))) (fun q => [(0, .slice p m cp), (3, .pointer (some ⟨b3, 0, none⟩)), (5, .slice (some ⟨b5, 0, none⟩) m m), (6, .int .i64 ((outN C m i).2 : Nat)), (9, vSl o), (10, .int .i64 (i : Nat)), (98, .bool q)]) (fun _ => mS 3 o ++ [⟨b5, row (eI .i64) tb [], 3⟩, ⟨b3, e_api_Settings s, 26⟩]) ?_ (fun q hq => ?_)
      · have hne : l ≠ [] := fun h0 => by rw [h0] at hn; simp at hn; omega
        obtain ⟨bw, ow, cw, hvw, hcw, hrow⟩ := hv.blk (k := 11) hne []
        injection hvw with e1 e2 e3
        subst e1
        subst e3
        have hrow' : ∀ L, RowC w L bw ow R_intake_Timed r_intake_Timed l := fun L => ⟨fun w' hw' => hrow.out w' (hw'.sub (List.nil_sublist _))⟩
        have k2 := hgo i hlt
        rcases o.cases 3 with ⟨x0, x1, x2⟩ | ⟨bo, co, sp, hc1, x1, x2, xne⟩
        · have hout : (outN C m i).1 = [] := by
            have := congrArg List.length x0
            rw [hol] at this
            exact List.length_eq_zero_iff.1 this
          simp only [x1, x2, List.cons_append, List.nil_append]
          by_cases c1 : bestA C m i = (outN C m i).2
          · refine jD 32 32 (h := ?_)
            (repeat (refine wkH ?_))
            simp only [hai, decide_eq_true (show ((bestA C m i : Nat) : Int) = ((outN C m i).2 : Int) by omega)]
            (repeat (refine wkH ?_))
            try simp only [decide_eq_true (show ((0 : Nat) : Int) = 0 by omega)]
            (repeat (refine wkH ?_))
            by_cases c2 : 0 < (outN C m i).2
            · have hd : decide (bestA C m i = (outN C m i).2 ∧ 0 < (outN C m i).2 ∧ ((outN C m i).1 = [] ∨ C ((outN C m i).1.getLastD 0) i = true)) = true := decide_eq_true ⟨c1, c2, .inl hout⟩
              simp only [decide_eq_true (show (0 : Int) < ((outN C m i).2 : Int) by omega)]
              (repeat (refine wkH ?_))
              refine jh_nil ?_
              refine jn_nil ?_
              repeat (first | (refine wkB ?_; try intro _) | (refine sC rfl rfl ?_ ?_; focus (first | exact trivial | assumption | constructor <;> assumption | exact mb2 rfl rfl | exact mb4 rfl rfl rfl rfl)) | (refine sN rfl rfl ?_ ?_; (focus (first | exact trivial | assumption | constructor <;> assumption | exact mb2 rfl rfl | exact mb4 rfl rfl rfl rfl)); intro _; (try simp only [List.cons_append, List.nil_append, List.append_nil])) | refine sMu rfl ?_ | (refine sMm rfl rfl ?_; intro _) | (refine sRg rfl rfl ?_; intro _))
              exact jx_mid true hd.symm sbB suB
            · have hd : decide (bestA C m i = (outN C m i).2 ∧ 0 < (outN C m i).2 ∧ ((outN C m i).1 = [] ∨ C ((outN C m i).1.getLastD 0) i = true)) = false := decide_eq_false fun h => c2 h.2.1
              simp only [decide_eq_false (show ¬ (0 : Int) < ((outN C m i).2 : Int) by omega)]
              (repeat (refine wkH ?_))
              refine jh_nil ?_
              refine jn_nil ?_
              repeat (first | (refine wkB ?_; try intro _) | (refine sC rfl rfl ?_ ?_; focus (first | exact trivial | assumption | constructor <;> assumption | exact mb2 rfl rfl | exact mb4 rfl rfl rfl rfl)) | (refine sN rfl rfl ?_ ?_; (focus (first | exact trivial | assumption | constructor <;> assumption | exact mb2 rfl rfl | exact mb4 rfl rfl rfl rfl)); intro _; (try simp only [List.cons_append, List.nil_append, List.append_nil])) | refine sMu rfl ?_ | (refine sMm rfl rfl ?_; intro _) | (refine sRg rfl rfl ?_; intro _))
              exact jx_mid false hd.symm sbB suB
          · have hd : decide (bestA C m i = (outN C m i).2 ∧ 0 < (outN C m i).2 ∧ ((outN C m i).1 = [] ∨ C ((outN C m i).1.getLastD 0) i = true)) = false := decide_eq_false fun h => c1 h.1
            refine jD 32 32 (h := ?_)
            (repeat (refine wkH ?_))
            simp only [hai, decide_eq_false (show ¬ ((bestA C m i : Nat) : Int) = ((outN C m i).2 : Int) by omega)]
            (repeat (refine wkH ?_))
            refine jh_nil ?_
            refine jn_nil ?_
            repeat (first | (refine wkB ?_; try intro _) | (refine sC rfl rfl ?_ ?_; focus (first | exact trivial | assumption | constructor <;> assumption | exact mb2 rfl rfl | exact mb4 rfl rfl rfl rfl)) | (refine sN rfl rfl ?_ ?_; (focus (first | exact trivial | assumption | constructor <;> assumption | exact mb2 rfl rfl | exact mb4 rfl rfl rfl rfl)); intro _; (try simp only [List.cons_append, List.nil_append, List.append_nil])) | refine sMu rfl ?_ | (refine sMm rfl rfl ?_; intro _) | (refine sRg rfl rfl ?_; intro _))
            exact jx_mid false hd.symm sbB suB
        · have hone : (outN C m i).1 ≠ [] := fun h0 => by rw [h0] at xne; exact xne rfl
          have hpos : 0 < (outN C m i).1.length := List.length_pos_iff.2 hone
          have hlm : (outN C m i).1.getLastD 0 < m := by
            have h1 : (outN C m i).1.getLastD 0 ∈ (outN C m i).1 := by
              rw [getLastD_getD hone, List.getD_eq_getElem?_getD, List.getElem?_eq_getElem (by omega)]
              exact List.getElem_mem _
            have := hOi.lt _ h1
            omega
          have hla : gi (cI (outN C m i).1) (((cI (outN C m i).1).length : Int) - 1) = (((outN C m i).1.getLastD 0 : Nat) : Int) := by
            rw [hol, show (((outN C m i).1.length : Int) - 1) = (((outN C m i).1.length - 1 : Nat) : Int) by omega, gi_nat (by rw [hol]; omega), getLastD_getD hone]
            simp only [cI, List.getElem_map, List.getD_eq_getElem?_getD, List.getElem?_eq_getElem (show (outN C m i).1.length - 1 < (outN C m i).1.length by omega), Option.getD_some]
          have k1 := hgo _ hlm
          have hCk := hC ((outN C m i).1.getLastD 0) i
          simp only [x1, x2, List.cons_append, List.nil_append]
          by_cases c1 : bestA C m i = (outN C m i).2
          · refine jD 32 32 (h := ?_)
            (repeat (refine wkH ?_))
            simp only [hai, decide_eq_true (show ((bestA C m i : Nat) : Int) = ((outN C m i).2 : Int) by omega)]
            (repeat (refine wkH ?_))
            simp only [decide_eq_false (show ¬ ((cI (outN C m i).1).length : Int) = 0 by omega)]
            (repeat (refine wkH ?_))
            simp only [hla]
            (repeat (first | refine wkH ?_ | (refine tC rfl rfl ?_ ?_; focus (exact ⟨k1, k2, hs⟩))))
            simp only [← hCk]
            cases hc : C ((outN C m i).1.getLastD 0) i
            · have hd : decide (bestA C m i = (outN C m i).2 ∧ 0 < (outN C m i).2 ∧ ((outN C m i).1 = [] ∨ C ((outN C m i).1.getLastD 0) i = true)) = false := by
                simp only [hc, c1, hone, false_or, decide_eq_false_iff_not]
                exact fun h => absurd h.2.2 (by decide)
              rw [hc] at hd
              (repeat (refine wkH ?_))
              refine jh_nil ?_
              refine jn_nil ?_
              repeat (first | (refine wkB ?_; try intro _) | (refine sC rfl rfl ?_ ?_; focus (first | exact trivial | assumption | constructor <;> assumption | exact mb2 rfl rfl | exact mb4 rfl rfl rfl rfl)) | (refine sN rfl rfl ?_ ?_; (focus (first | exact trivial | assumption | constructor <;> assumption | exact mb2 rfl rfl | exact mb4 rfl rfl rfl rfl)); intro _; (try simp only [List.cons_append, List.nil_append, List.append_nil])) | refine sMu rfl ?_ | (refine sMm rfl rfl ?_; intro _) | (refine sRg rfl rfl ?_; intro _))
              exact jx_mid false hd.symm sbB suB
            · by_cases c2 : 0 < (outN C m i).2
              · have hd : decide (bestA C m i = (outN C m i).2 ∧ 0 < (outN C m i).2 ∧ ((outN C m i).1 = [] ∨ C ((outN C m i).1.getLastD 0) i = true)) = true := decide_eq_true ⟨c1, c2, .inr hc⟩
                rw [hc] at hd
                (repeat (refine wkH ?_))
                simp only [decide_eq_true (show (0 : Int) < ((outN C m i).2 : Int) by omega)]
                (repeat (refine wkH ?_))
                refine jh_nil ?_
                refine jn_nil ?_
                repeat (first | (refine wkB ?_; try intro _) | (refine sC rfl rfl ?_ ?_; focus (first | exact trivial | assumption | constructor <;> assumption | exact mb2 rfl rfl | exact mb4 rfl rfl rfl rfl)) | (refine sN rfl rfl ?_ ?_; (focus (first | exact trivial | assumption | constructor <;> assumption | exact mb2 rfl rfl | exact mb4 rfl rfl rfl rfl)); intro _; (try simp only [List.cons_append, List.nil_append, List.append_nil])) | refine sMu rfl ?_ | (refine sMm rfl rfl ?_; intro _) | (refine sRg rfl rfl ?_; intro _))
                exact jx_mid true (hd.symm.trans (by simp)) sbB suB
              · have hd : decide (bestA C m i = (outN C m i).2 ∧ 0 < (outN C m i).2 ∧ ((outN C m i).1 = [] ∨ C ((outN C m i).1.getLastD 0) i = true)) = false := decide_eq_false fun h => c2 h.2.1
                rw [hc] at hd
                (repeat (refine wkH ?_))
                simp only [decide_eq_false (show ¬ (0 : Int) < ((outN C m i).2 : Int) by omega)]
                (repeat (refine wkH ?_))
                refine jh_nil ?_
                refine jn_nil ?_
                repeat (first | (refine wkB ?_; try intro _) | (refine sC rfl rfl ?_ ?_; focus (first | exact trivial | assumption | constructor <;> assumption | exact mb2 rfl rfl | exact mb4 rfl rfl rfl rfl)) | (refine sN rfl rfl ?_ ?_; (focus (first | exact trivial | assumption | constructor <;> assumption | exact mb2 rfl rfl | exact mb4 rfl rfl rfl rfl)); intro _; (try simp only [List.cons_append, List.nil_append, List.append_nil])) | refine sMu rfl ?_ | (refine sMm rfl rfl ?_; intro _) | (refine sRg rfl rfl ?_; intro _))
                exact jx_mid false (hd.symm.trans (by simp)) sbB suB
          · have hd : decide (bestA C m i = (outN C m i).2 ∧ 0 < (outN C m i).2 ∧ ((outN C m i).1 = [] ∨ C ((outN C m i).1.getLastD 0) i = true)) = false := decide_eq_false fun h => c1 h.1
            refine jD 32 32 (h := ?_)
            (repeat (refine wkH ?_))
            simp only [hai, decide_eq_false (show ¬ ((bestA C m i : Nat) : Int) = ((outN C m i).2 : Int) by omega)]
            (repeat (refine wkH ?_))
            refine jh_nil ?_
            refine jn_nil ?_
            repeat (first | (refine wkB ?_; try intro _) | (refine sC rfl rfl ?_ ?_; focus (first | exact trivial | assumption | constructor <;> assumption | exact mb2 rfl rfl | exact mb4 rfl rfl rfl rfl)) | (refine sN rfl rfl ?_ ?_; (focus (first | exact trivial | assumption | constructor <;> assumption | exact mb2 rfl rfl | exact mb4 rfl rfl rfl rfl)); intro _; (try simp only [List.cons_append, List.nil_append, List.append_nil])) | refine sMu rfl ?_ | (refine sMm rfl rfl ?_; intro _) | (refine sRg rfl rfl ?_; intro _))
            exact jx_mid false hd.symm sbB suB
      · by_cases hP : bestA C m i = (outN C m i).2 ∧ 0 < (outN C m i).2 ∧ ((outN C m i).1 = [] ∨ C ((outN C m i).1.getLastD 0) i = true)
        · rw [decide_eq_true hP] at hq
          subst hq
          rw [if_pos hP] at hnx
          repeat (first | (refine wkB ?_; try intro _) | (refine sC rfl rfl ?_ ?_; focus (first | exact trivial | assumption | constructor <;> assumption | exact mb2 rfl rfl | exact mb4 rfl rfl rfl rfl)) | (refine sN rfl rfl ?_ ?_; (focus (first | exact trivial | assumption | constructor <;> assumption | exact mb2 rfl rfl | exact mb4 rfl rfl rfl rfl)); intro _; (try simp only [List.cons_append, List.nil_append, List.append_nil])) | refine sMu rfl ?_ | (refine sMm rfl rfl ?_; intro _) | (refine sRg rfl rfl ?_; intro _))
          refine sU rfl rfl ?_ ?_ ?_ ?_
          · rfl
          · rfl
          · exact ⟨by decide, by omega, by omega⟩
          intro s'
          repeat (first | (refine wkB ?_; try intro _) | (refine sC rfl rfl ?_ ?_; focus (exact ⟨by omega, by omega⟩)) | (refine sN rfl rfl ?_ ?_; (focus (exact ⟨by omega, by omega⟩)); intro _; (try simp only [List.cons_append, List.nil_append, List.append_nil])) | refine sMu rfl ?_ | (refine sMm rfl rfl ?_; intro _) | (refine sRg rfl rfl ?_; intro _))
          have e1 : cI (outN C m (i + 1)).1 = cI (outN C m i).1 ++ [(i : Int)] := by rw [hnx]; simp [cI]
          have e4 : (((outN C m (i + 1)).2 : Nat) : Int) = ((outN C m i).2 : Int) - 1 := by rw [hnx]; simp only; omega
          obtain ⟨s3, e2, e3⟩ := SlS.turn 3 e1.symm s'
          exact jx_loop ⟨i + 1, s3⟩ hlt (by simp only [e2, e4]; exact sbB) (by simp only [e3]; exact suB) (by show m - (i + 1) < m - i; omega)
        · rw [decide_eq_false hP] at hq
          subst hq
          rw [if_neg hP] at hnx
          repeat (first | (refine wkB ?_; try intro _) | (refine sC rfl rfl ?_ ?_; focus (exact ⟨by omega, by omega⟩)) | (refine sN rfl rfl ?_ ?_; (focus (exact ⟨by omega, by omega⟩)); intro _; (try simp only [List.cons_append, List.nil_append, List.append_nil])) | refine sMu rfl ?_ | (refine sMm rfl rfl ?_; intro _) | (refine sRg rfl rfl ?_; intro _))
          have e1 : cI (outN C m (i + 1)).1 = cI (outN C m i).1 := by rw [hnx]
          have e4 : (((outN C m (i + 1)).2 : Nat) : Int) = ((outN C m i).2 : Int) := by rw [hnx]
          obtain ⟨s3, e2, e3⟩ := SlS.turn 3 e1.symm o
          exact jx_loop ⟨i + 1, s3⟩ hlt (by simp only [e2, e4]; exact sbB) (by simp only [e3]; exact suB) (by show m - (i + 1) < m - i; omega)
    · have hge : i = m := by have := of_decide_eq_false h; omega
      subst hge
      repeat (first | (refine wkB ?_; try intro _) | (refine sC rfl rfl ?_ ?_; focus (first | exact trivial | assumption | constructor <;> assumption | exact mb2 rfl rfl | exact mb4 rfl rfl rfl rfl)) | (refine sN rfl rfl ?_ ?_; (focus (first | exact trivial | assumption | constructor <;> assumption | exact mb2 rfl rfl | exact mb4 rfl rfl rfl rfl)); intro _; (try simp only [List.cons_append, List.nil_append, List.append_nil])) | refine sMu rfl ?_ | (refine sMm rfl rfl ?_; intro _) | (refine sRg rfl rfl ?_; intro _))
      exact jx_ret_tmp rfl rfl (fun w hw => ⟨o, rfl, hw.sub suB⟩)
instance sr_chainR (w0 : World) (L : List Blk) (v : Value) (l : List R_intake_Timed) (s : api_Settings) [h : LstC w0 L v R_intake_Timed r_intake_Timed l] : SpecR Tryz.prog w0 L 13 [v, .agg (e_api_Settings s)] (SlS (eI .i64) 1 (cI (chainL (cCp s.MaxSpeed l) l.length))) (fun o => vSl o) (fun o => mS 3 o) (l.length ≤ 4096 ∧ (∀ x ∈ l, TkOk x) ∧ (-1048576 ≤ s.MaxSpeed ∧ s.MaxSpeed ≤ 1048576)) := ⟨fun hp w hw =>
  chainR_spec v l s w (h.out w hw) hp.1 hp.2.1 hp.2.2⟩
end Go.Vt
/- The instants that two intervals have in common; the part of a value during a period: walked. Conditions: those that each statement names. -/
set_option linter.unusedSimpArgs false
set_option linter.unusedVariables false
set_option maxHeartbeats 2000000
set_option maxRecDepth 100000
namespace Go.Vt
open Go.RowKit Go.Proofs
open Fv (va red)
def mtF (a b : R_api_Interval) : R_api_Real × Bool := if a.From.P < b.From.P then (b.From, b.OpenFrom) else if a.From.P = b.From.P then (a.From, a.OpenFrom || b.OpenFrom) else (a.From, a.OpenFrom)
def mtT (a b : R_api_Interval) : R_api_Real × Bool := if b.To.P < a.To.P then (b.To, b.OpenTo) else if a.To.P = b.To.P then (a.To, a.OpenTo || b.OpenTo) else (a.To, a.OpenTo)
/-- What two intervals have in common, and is there any? -/
def mt (a b : R_api_Interval) : R_api_Interval := ⟨(mtF a b).1, (mtT a b).1, (mtF a b).2, (mtT a b).2⟩
def mtO (a b : R_api_Interval) : Bool := decide ((mt a b).From.P < (mt a b).To.P) || (decide ((mt a b).From.P = (mt a b).To.P) && (!(mt a b).OpenFrom && !(mt a b).OpenTo))
theorem mtF_ok {K : Nat} {a b : R_api_Interval} (ha : IvOk K a) (hb : IvOk K b) : RtOk (mtF a b).1 ∧ M (mtF a b).1.P ≤ K := by
  unfold mtF
  split
  · exact ⟨hb.rf, hb.m1⟩
  · split <;> exact ⟨ha.rf, ha.m1⟩
theorem mtT_ok {K : Nat} {a b : R_api_Interval} (ha : IvOk K a) (hb : IvOk K b) : RtOk (mtT a b).1 ∧ M (mtT a b).1.P ≤ K := by
  unfold mtT
  split
  · exact ⟨hb.rt, hb.m2⟩
  · split <;> exact ⟨ha.rt, ha.m2⟩
theorem mt_ok {K : Nat} {a b : R_api_Interval} (ha : IvOk K a) (hb : IvOk K b) : IvOk K (mt a b) := by
  obtain ⟨⟨h1, h2⟩, h3⟩ := mtF_ok ha hb
  obtain ⟨⟨h4, h5⟩, h6⟩ := mtT_ok ha hb
  exact ⟨h1, h4, h2, h5, h3, h6⟩
end Go.Vt
/- The part of a value during a period, walked. Conditions: those that each statement names. -/
set_option linter.unusedSimpArgs false
set_option linter.unusedVariables false
set_option maxHeartbeats 2000000
set_option maxRecDepth 100000
namespace Go.Vt
open Go.RowKit Go.Proofs
open Fv (va red)
/-- What a unit has in common with the first intervals of a list; the same for all units. -/
def ri (u : UL) (ds : List R_api_Interval) : Nat → List UL
  | 0 => []
  | k + 1 => ri u ds k ++ (if mtO u.In (gi ds (k : Int)) = true then [⟨mt u.In (gi ds (k : Int)), u.F⟩] else [])
def ro (us : List UL) (ds : List R_api_Interval) : Nat → List UL
  | 0 => []
  | m + 1 => ro us ds m ++ ri (gi us (m : Int)) ds ds.length
theorem ri_len (u : UL) (ds : List R_api_Interval) : ∀ k, (ri u ds k).length ≤ k
  | 0 => Nat.le_refl _
  | k + 1 => by
    have := ri_len u ds k
    rw [ri, List.length_append]
    split <;> simp <;> omega
theorem ro_len (us : List UL) (ds : List R_api_Interval) : ∀ m, (ro us ds m).length ≤ m * ds.length
  | 0 => by simp [ro]
  | m + 1 => by
    have := ro_len us ds m
    have := ri_len (gi us (m : Int)) ds ds.length
    rw [ro, List.length_append, Nat.add_mul, Nat.one_mul]
    omega
end Go.Vt
/- What the part of a value during a period says: plain. Conditions: those that each statement names. -/
set_option linter.unusedSimpArgs false
set_option linter.unusedVariables false
set_option maxHeartbeats 2000000
set_option maxRecDepth 100000
namespace Go.Vt
open Go.RowKit Go.Proofs
open Fv (va red)
def memI (I : R_api_Interval) (t : Rat) : Prop := (I.From.P < t ∨ (I.From.P = t ∧ I.OpenFrom = false)) ∧ (t < I.To.P ∨ (t = I.To.P ∧ I.OpenTo = false))
def okI (I : R_api_Interval) : Prop := I.From.P < I.To.P ∨ (I.From.P = I.To.P ∧ I.OpenFrom = false ∧ I.OpenTo = false)
theorem memI_ok {I : R_api_Interval} {t : Rat} (h : memI I t) : okI I := by
  unfold memI okI at *
  grind
theorem mt_mem {a b : R_api_Interval} {t : Rat} : memI (mt a b) t ↔ memI a t ∧ memI b t := by
  unfold memI mt mtF mtT
  split <;> split <;> (try split) <;> (try split) <;> simp only [Bool.or_eq_false_iff] <;> grind
theorem mtO_iff {a b : R_api_Interval} : mtO a b = true ↔ okI (mt a b) := by
  unfold mtO okI
  simp
theorem has_map {us : List UL} {t : Rat} {v : R_api_Point} : Has (us.map absU) t v ↔ ∃ u ∈ us, memI u.In t ∧ pos u.F t = v := by
  unfold Has
  constructor
  · rintro ⟨x, hx, h1, h2⟩
    obtain ⟨u, hu, rfl⟩ := List.mem_map.1 hx
    exact ⟨u, hu, h1, h2⟩
  · rintro ⟨u, hu, h1, h2⟩
    exact ⟨_, List.mem_map.2 ⟨u, hu, rfl⟩, h1, h2⟩
theorem ri_mem {u x : UL} {ds : List R_api_Interval} : ∀ {k : Nat}, k ≤ ds.length → (x ∈ ri u ds k ↔ ∃ j : Nat, j < k ∧ mtO u.In (gi ds (j : Int)) = true ∧ x = ⟨mt u.In (gi ds (j : Int)), u.F⟩)
  | 0, _ => by simp [ri]
  | k + 1, hk => by
    rw [ri, List.mem_append, ri_mem (by omega)]
    constructor
    · rintro (⟨j, h1, h2⟩ | h1)
      · exact ⟨j, by omega, h2⟩
      · split at h1
        · rename_i hm
          rw [List.mem_singleton] at h1
          exact ⟨k, by omega, hm, h1⟩
        · cases h1
    · rintro ⟨j, h1, h2, h3⟩
      rcases (by omega : j < k ∨ j = k) with h4 | h4
      · exact .inl ⟨j, h4, h2, h3⟩
      · subst h4
        rw [if_pos h2]
        exact .inr (by simp [h3])
theorem ro_mem {us : List UL} {x : UL} {ds : List R_api_Interval} : ∀ {m : Nat}, m ≤ us.length → (x ∈ ro us ds m ↔ ∃ i : Nat, i < m ∧ x ∈ ri (gi us (i : Int)) ds ds.length)
  | 0, _ => by simp [ro]
  | m + 1, hm => by
    rw [ro, List.mem_append, ro_mem (by omega)]
    constructor
    · rintro (⟨i, h1, h2⟩ | h1)
      · exact ⟨i, by omega, h2⟩
      · exact ⟨m, by omega, h1⟩
    · rintro ⟨i, h1, h2⟩
      rcases (by omega : i < m ∨ i = m) with h4 | h4
      · exact .inl ⟨i, h4, h2⟩
      · subst h4; exact .inr h2
/-- The parts: each is of a unit and an interval. -/
theorem ro_iff {us : List UL} {x : UL} {ds : List R_api_Interval} : x ∈ ro us ds us.length ↔ ∃ u ∈ us, ∃ d ∈ ds, mtO u.In d = true ∧ x = ⟨mt u.In d, u.F⟩ := by
  rw [ro_mem (Nat.le_refl _)]
  constructor
  · rintro ⟨i, h1, h2⟩
    obtain ⟨j, h3, h4, h5⟩ := (ri_mem (Nat.le_refl _)).1 h2
    exact ⟨_, gi_mem (by omega), _, gi_mem (by omega), h4, h5⟩
  · rintro ⟨u, hu, d, hd, h1, h2⟩
    obtain ⟨i, hi, rfl⟩ := List.getElem_of_mem hu
    obtain ⟨j, hj, rfl⟩ := List.getElem_of_mem hd
    exact ⟨i, hi, (ri_mem (Nat.le_refl _)).2 ⟨j, hj, by rw [gi_nat hi, gi_nat hj]; exact h1, by rw [gi_nat hi, gi_nat hj]; exact h2⟩⟩
theorem ro_has {us : List UL} {ds : List R_api_Interval} {t : Rat} {v : R_api_Point} : Has ((ro us ds us.length).map absU) t v ↔ Has (us.map absU) t v ∧ ∃ d ∈ ds, memI d t := by
  rw [has_map, has_map]
  constructor
  · rintro ⟨x, hx, h1, h2⟩
    obtain ⟨u, hu, d, hd, h3, rfl⟩ := ro_iff.1 hx
    have h4 := mt_mem.1 h1
    exact ⟨⟨u, hu, h4.1, h2⟩, d, hd, h4.2⟩
  · rintro ⟨⟨u, hu, h1, h2⟩, d, hd, h3⟩
    have h4 := mt_mem.2 ⟨h1, h3⟩
    exact ⟨_, ro_iff.2 ⟨u, hu, d, hd, mtO_iff.2 (memI_ok h4), rfl⟩, h4, h2⟩
theorem ro_ok {us : List UL} {ds : List R_api_Interval} : ∀ u ∈ ro us ds us.length, (absU u).ok := fun x hx => by
  obtain ⟨u, hu, d, hd, h3, rfl⟩ := ro_iff.1 hx
  exact mtO_iff.1 h3
def DisI (a b : R_api_Interval) : Prop := ∀ t, ¬ (memI a t ∧ memI b t)
theorem ri_pw {u : UL} {ds : List R_api_Interval} (hd : ds.Pairwise DisI) : ∀ k, k ≤ ds.length → ((ri u ds k).map absU).Pairwise Dis
  | 0, _ => by simp [ri]
  | k + 1, hk => by
    rw [ri, List.map_append]
    refine List.pairwise_append.2 ⟨ri_pw hd k (by omega), ?_, fun x hx y hy => ?_⟩
    · split <;> simp
    · split at hy
      · simp only [List.map_cons, List.map_nil, List.mem_singleton] at hy
        subst hy
        obtain ⟨x', hx', rfl⟩ := List.mem_map.1 hx
        obtain ⟨j, h1, h2, rfl⟩ := (ri_mem (by omega)).1 hx'
        rintro t ⟨h3, h4⟩
        have h5 := List.pairwise_iff_getElem.1 hd j k (by omega) (by omega) h1
        exact h5 t ⟨by rw [← gi_nat (by omega)]; exact (mt_mem.1 h3).2, by rw [← gi_nat (by omega)]; exact (mt_mem.1 h4).2⟩
      · cases hy
theorem ro_pw {us : List UL} {ds : List R_api_Interval} (hu : (us.map absU).Pairwise Dis) (hd : ds.Pairwise DisI) : ∀ m, m ≤ us.length → ((ro us ds m).map absU).Pairwise Dis
  | 0, _ => by simp [ro]
  | m + 1, hm => by
    rw [ro, List.map_append]
    refine List.pairwise_append.2 ⟨ro_pw hu hd m (by omega), ri_pw hd _ (Nat.le_refl _), fun x hx y hy => ?_⟩
    obtain ⟨x', hx', rfl⟩ := List.mem_map.1 hx
    obtain ⟨y', hy', rfl⟩ := List.mem_map.1 hy
    obtain ⟨i, h1, h2⟩ := (ro_mem (by omega)).1 hx'
    obtain ⟨j, h3, h4, rfl⟩ := (ri_mem (Nat.le_refl _)).1 h2
    obtain ⟨j', h5, h6, rfl⟩ := (ri_mem (Nat.le_refl _)).1 hy'
    rintro t ⟨h7, h8⟩
    have h9 := List.pairwise_iff_getElem.1 hu i m (by rw [List.length_map]; omega) (by rw [List.length_map]; omega) h1
    rw [List.getElem_map, List.getElem_map, ← gi_nat (by omega), ← gi_nat (by omega)] at h9
    exact h9 t ⟨(mt_mem.1 h7).1, (mt_mem.1 h8).1⟩
structure UK (K : Nat) (u : UL) : Prop where
  i : IvOk K u.In
  f : LnOk K u.F
theorem UK.mono {K K' : Nat} {u : UL} (h : UK K u) (hk : K ≤ K') : UK K' u := ⟨h.i.mono hk, h.f.mono hk⟩
theorem UK.uin {K : Nat} {u : UL} (h : UK K u) (hk : K ≤ KN) : UIn u := ⟨h.i.mono hk, h.f.mono hk⟩
theorem lred_K {K : Nat} {f : R_api_Line} {t : Rat} (h : LnOk K f) (ht : M t ≤ K) : LnOk (4 * K + 4) (lred f t) := by
  have one : ∀ a b : Rat, M a ≤ K → M b ≤ K → M (a + t * (b + t * 0)) ≤ 4 * K + 4 := fun a b ha hb => by
    have h1 := M_add a (t * (b + t * 0))
    have h2 := M_mul t (b + t * 0)
    have h3 := M_add b (t * 0)
    have h4 := M_mul t 0
    have h5 : M 0 = 1 := by decide
    omega
  have h0 : M 0 ≤ 4 * K + 4 := by
    have h5 : M 0 = 1 := by decide
    omega
  exact ⟨one _ _ h.x0 h.x1, h0, one _ _ h.y0 h.y1, h0⟩
theorem nstp_K {K : Nat} {l : List UL} {i : Nat} {xs : List UL} {x : UL} (h : ∀ v ∈ xs, UK (4 * K + 4) v) (hx : UK K x) : ∀ v ∈ nstp l i xs x, UK (4 * K + 4) v := by
  have hx' := hx.mono (show K ≤ 4 * K + 4 by omega)
  have trn : ∀ {u : UL}, UK (4 * K + 4) u → ∀ v ∈ turn xs u, UK (4 * K + 4) v := fun hu v hv => by
    rcases List.mem_or_eq_of_mem_set hv with h1 | h1
    · exact h v h1
    · rw [h1]; exact hu
  unfold nstp
  split
  · split
    · rename_i hc
      have h0 : 0 < xs.length := by
        unfold cA at hc
        simp only [Bool.and_eq_true] at hc
        exact bef_len hc.1
      have hl := h _ (gi_mem (i := (xs.length : Int) - 1) (xs := xs) (by omega))
      exact trn ⟨⟨hl.i.r1, hx'.i.r2, hl.i.n1, hx'.i.n2, hl.i.m1, hx'.i.m2⟩, hl.f⟩
    · intro v hv
      rcases List.mem_append.1 hv with h1 | h1
      · exact h v h1
      · rw [List.mem_singleton] at h1
        subst h1
        split
        · exact ⟨hx'.i.at _ _, hx'.f⟩
        · exact hx'
  · split
    · rename_i hc
      have h0 : 0 < xs.length := by
        unfold cC at hc
        simp only [Bool.and_eq_true] at hc
        exact bef_len hc.1
      have hl := h _ (gi_mem (i := (xs.length : Int) - 1) (xs := xs) (by omega))
      exact trn ⟨hl.i.at _ _, hl.f⟩
    · split
      · exact h
      · intro v hv
        rcases List.mem_append.1 hv with h1 | h1
        · exact h v h1
        · rw [List.mem_singleton] at h1
          subst h1
          exact ⟨hx'.i, lred_K hx.f hx.i.m1⟩
theorem nrm_K {K : Nat} {l : List UL} (h : ∀ u ∈ l, UK K u) : ∀ m, m ≤ l.length → ∀ v ∈ nrm l m, UK (4 * K + 4) v
  | 0, _ => fun v hv => by cases hv
  | m + 1, hm => nstp_K (nrm_K h m (by omega)) (h _ (gi_mem (by omega)))
theorem atU_K {K : Nat} {u v : UL} (h : UK K u) (hv : v ∈ atU u) : UK K v := by
  unfold atU at hv
  rcases List.mem_append.1 hv with h1 | h1
  · split at h1
    · cases h1
    · rw [List.mem_singleton] at h1
      subst h1
      exact ⟨⟨h.i.r1, h.i.r1, h.i.n1, h.i.n1, h.i.m1, h.i.m1⟩, h.f⟩
  · split at h1
    · cases h1
    · rcases List.mem_cons.1 h1 with h2 | h2
      · subst h2
        exact ⟨h.i.at _ _, h.f⟩
      · split at h2
        · cases h2
        · rw [List.mem_singleton] at h2
          subst h2
          exact ⟨⟨h.i.r2, h.i.r2, h.i.n2, h.i.n2, h.i.m2, h.i.m2⟩, h.f⟩
theorem atm_K {K : Nat} {us : List UL} (h : ∀ u ∈ us, UK K u) : ∀ m, m ≤ us.length → ∀ v ∈ atm us m, UK K v
  | 0, _, v, hv => by cases hv
  | m + 1, hm, v, hv => by
    rw [atm] at hv
    rcases List.mem_append.1 hv with h1 | h1
    · exact atm_K h m (by omega) v h1
    · exact atU_K (h _ (gi_mem (by omega))) h1
theorem nrmR_K {K : Nat} {us : List UL} (h : ∀ u ∈ us, UK K u) : ∀ v ∈ nrmR us, UK (4 * K + 4) v := by
  unfold nrmR
  split
  · exact nrm_K (atm_K (fun u hu => h u (sor_mem hu)) _ (Nat.le_refl _)) _ (Nat.le_refl _)
  · intro v hv
    cases hv
theorem ro_K {K : Nat} {us : List UL} {ds : List R_api_Interval} (h : ∀ u ∈ us, UK K u) (hd : ∀ d ∈ ds, IvOk K d) : ∀ u ∈ ro us ds us.length, UK K u := fun x hx => by
  obtain ⟨u, hu, d, hd', h3, rfl⟩ := ro_iff.1 hx
  exact ⟨mt_ok (h u hu).i (hd d hd'), (h u hu).f⟩
end Go.Vt
/- The part of a moving point during a period; equal moving points: walked. Conditions: those that each statement names. -/
set_option linter.unusedSimpArgs false
set_option linter.unusedVariables false
set_option maxHeartbeats 2000000
set_option maxRecDepth 100000
namespace Go.Vt
open Go.RowKit Go.Proofs
/-- The units of a moving point, restricted. -/
def mRes (us : List PU) (ds : List R_api_Interval) : List UL := ro (mpN toU us us.length) ds (mpN toU us us.length).length
structure ResOk (us : List PU) (ds : List R_api_Interval) : Prop where
  l1 : us.length ≤ 1024
  l2 : ds.length ≤ 1024
  l3 : (mRes us ds).length ≤ 19
  o1 : ∀ u ∈ mpN toU us us.length, IvOk BQ u.In
  o2 : ∀ d ∈ ds, IvOk BQ d
  o3 : ∀ u ∈ mRes us ds, UIn u
def eqN (us vs : List PU) : Nat → Bool
  | 0 => true
  | m + 1 => eqN us vs m && decide (gi us (m : Int) = gi vs (m : Int))
theorem eqN_iff {us vs : List PU} : ∀ m, m ≤ us.length → m ≤ vs.length → (eqN us vs m = true ↔ us.take m = vs.take m)
  | 0, _, _ => by simp [eqN]
  | m + 1, h1, h2 => by
    rw [eqN, Bool.and_eq_true, eqN_iff m (by omega) (by omega), decide_eq_true_iff, List.take_succ_eq_append_getElem h1, List.take_succ_eq_append_getElem h2, gi_nat h1, gi_nat h2]
    constructor
    · rintro ⟨h3, h4⟩
      rw [h3, h4]
    · intro h3
      have := List.append_inj' h3 rfl
      exact ⟨this.1, by simpa using this.2⟩
theorem seq_spec (v1 v2 : Value) (us vs : List PU) (w : World) (h1 : ArgS w v1 rP us) (h2 : ArgS w v2 rP vs) (hl : us.length ≤ 1048576) (hl2 : vs.length ≤ 1048576) :
    Calls Tryz.prog 38 [v1, v2].toArray w (Ret (.bool (decide (us = vs))) w) := by
  refine fn_intro Tryz.func38 rfl Tryz.ntmps38 rfl ?_
  obtain ⟨p1, c1, rfl⟩ := h1.form
  obtain ⟨p2, c2, rfl⟩ := h2.form
  repeat (refine wkB ?_; try intro _)
  by_cases hll : us.length = vs.length
  · simp only [decide_eq_true (show (us.length : Int) = (vs.length : Int) by omega), Bool.not_true]
    repeat (refine wkB ?_; try intro _)
    refine j_loop (S := Nat) (fun m => m ≤ us.length ∧ eqN us vs m = true) (fun m => [(0, .slice p1 us.length c1), (1, .slice p2 vs.length c2), (11, .slice p1 us.length c1), (12, .int .i64 us.length), (13, .int .i64 (m : Nat))]) (fun _ => []) (fun m => us.length - m) 0 ⟨Nat.zero_le _, rfl⟩ sbB slB (fun m hm => ?_)
    obtain ⟨hm, he⟩ := hm
    repeat (refine wkB ?_; try intro _)
    refine j_cond rfl (fun h => ?_) (fun h => ?_)
    · have hlt : m < us.length := by have := of_decide_eq_true h; omega
      have hne : us ≠ [] := fun h0 => by rw [h0] at hlt; simp at hlt
      have hne2 : vs ≠ [] := fun h0 => by rw [h0] at hll; simp at hll; rw [hll] at hlt; simp at hlt
      obtain ⟨b1, o1, c1', hv1, hc1, hr1⟩ := h1.blk (k := 35) hne []
      injection hv1 with e1 e2 e3
      subst e1
      subst e3
      obtain ⟨b2, o2, c2', hv2, hc2, hr2⟩ := h2.blk (k := 35) hne2 []
      injection hv2 with e1 e2 e3
      subst e1
      subst e3
      have hr1' : ∀ L, RowC w L b1 o1 PU rP us := fun L => ⟨fun w' hw' => hr1.out w' (hw'.sub (List.nil_sublist _))⟩
      have hr2' : ∀ L, RowC w L b2 o2 PU rP vs := fun L => ⟨fun w' hw' => hr2.out w' (hw'.sub (List.nil_sublist _))⟩
      repeat (refine wkB ?_; try intro _)
      refine jD 9 9 (h := ?_)
      (repeat (refine wkH ?_))
      rcases hd : decide (gi us (m : Int) = gi vs (m : Int)) with _ | _
      · refine jh_nil ?_
        refine jn_nil ?_
        have hno : decide (us = vs) = false := decide_eq_false fun h0 => by
          subst h0
          exact of_decide_eq_false hd rfl
        repeat (refine wkB ?_; try intro _)
        rw [hno]
        exact jx_ret_tmp rfl rfl (fun w hw => ret_ok hw)
      · refine jh_nil ?_
        refine jn_nil ?_
        repeat (first | (refine wkB ?_; try intro _) | (refine sC rfl rfl ?_ ?_; focus (exact ⟨by omega, by omega⟩)) | (refine sN rfl rfl ?_ ?_; (focus (exact ⟨by omega, by omega⟩)); intro _; (try simp only [List.cons_append, List.nil_append, List.append_nil])))
        exact jx_loop (m + 1) ⟨hlt, by rw [eqN, he, hd]; rfl⟩ sbB slB (by omega)
    · have hge : m = us.length := by have := of_decide_eq_false h; omega
      subst hge
      have hyes : decide (us = vs) = true := by
        have := (eqN_iff us.length (Nat.le_refl _) (by omega)).1 he
        rw [List.take_length, hll, List.take_length] at this
        exact decide_eq_true this
      repeat (refine wkB ?_; try intro _)
      rw [hyes]
      exact jx_ret_tmp rfl rfl (fun w hw => ret_ok hw)
  · have hno : decide (us = vs) = false := decide_eq_false fun h0 => hll (by rw [h0])
    simp only [decide_eq_false (show ¬ (us.length : Int) = (vs.length : Int) by omega), Bool.not_false]
    repeat (refine wkB ?_; try intro _)
    rw [hno]
    exact jx_ret_tmp rfl rfl (fun w hw => ret_ok hw)
theorem msame_spec (v1 v2 : Value) (us vs : List PU) (w : World) (h1 : ArgS w v1 rP us) (h2 : ArgS w v2 rP vs) (hl : us.length ≤ 1048576) (hl2 : vs.length ≤ 1048576) :
    Calls Tryz.prog 17 [v1, v2].toArray w (Ret (.bool (decide (us = vs))) w) := by
  have : ∀ L, SpecM Tryz.prog w L 38 [v1, v2] (.bool (decide (us = vs))) True := fun L => ⟨fun _ w' hw' => seq_spec v1 v2 us vs w' (h1.to hw'.ext) (h2.to hw'.ext) hl hl2⟩
  refine fn_intro Tryz.func17 rfl Tryz.ntmps17 rfl ?_
  repeat (refine wkB ?_; try intro _)
  exact jx_ret_tmp rfl rfl (fun w hw => ret_ok hw)
instance sm_msame (w0 : World) (L : List Blk) (v1 v2 : Value) (us vs : List PU) [h1 : LstC w0 L v1 PU rP us] [h2 : LstC w0 L v2 PU rP vs] : SpecM Tryz.prog w0 L 17 [v1, v2] (.bool (decide (us = vs))) (us.length ≤ 1048576 ∧ vs.length ≤ 1048576) := ⟨fun hp w hw => msame_spec v1 v2 us vs w (h1.out w hw) (h2.out w hw) hp.1 hp.2⟩
end Go.Vt
/- The moving point that runs make up, walked. Conditions: those that each statement names. -/
set_option linter.unusedSimpArgs false
set_option linter.unusedVariables false
set_option maxHeartbeats 2000000
set_option maxRecDepth 100000
namespace Go.Vt
open Go.RowKit Go.Proofs
/-- A run, and where its breakpoints lie. -/
structure RD where
  I : R_api_Interval
  b : Nat
  c : Nat
  pts : List SS
  sp : List Value
instance : Inhabited RD := ⟨⟨zR_api_Interval, 0, 0, [], []⟩⟩
/-- The unit behind a breakpoint of a run. -/
def bsU (I : R_api_Interval) (pts : List SS) (i : Nat) : PU := ⟨⟨⟨(gi pts (i : Int)).T, 0, false⟩, ⟨(gi pts ((i + 1 : Nat) : Int)).T, 0, false⟩, if i = 0 then I.OpenFrom else true, if i + 2 = pts.length then I.OpenTo else false⟩, stl (gi pts (i : Int)) (gi pts ((i + 1 : Nat) : Int))⟩
def bs (I : R_api_Interval) (pts : List SS) : Nat → List PU
  | 0 => []
  | m + 1 => bs I pts m ++ [bsU I pts m]
def b1 (I : R_api_Interval) (pts : List SS) : List PU := if pts.length = 1 then [⟨I, ⟨(gi pts 0).P.X, 0, (gi pts 0).P.Y, 0⟩⟩] else bs I pts (pts.length - 1)
def bA (rs : List RD) : Nat → List PU
  | 0 => []
  | m + 1 => bA rs m ++ b1 (gi rs (m : Int)).I (gi rs (m : Int)).pts
/-- The runs are short, their breakpoints lie in memory. -/
structure RdOk (w : World) (r : RD) : Prop where
  len : r.pts.length ≤ 1024
  bnd : Bnd r.pts
  mem : ∃ T fz, w.heap[r.b]? = some (.cells (row rS r.pts r.sp) T fz)
end Go.Vt
/- The same moving point by the other road, walked. Conditions: those that each statement names. -/
set_option linter.unusedSimpArgs false
set_option linter.unusedVariables false
set_option maxHeartbeats 2000000
set_option maxRecDepth 100000
namespace Go.Vt
open Go.RowKit Go.Proofs
/-- The units through a run's samples, during its period. -/
def bu (r : RD) : List PU := mpN ofU (nrmR (mRes (frS r.pts) [r.I])) (nrmR (mRes (frS r.pts) [r.I])).length
def buA (rs : List RD) : Nat → List PU
  | 0 => []
  | m + 1 => buA rs m ++ bu (gi rs (m : Int))
structure BuOk (w : World) (r : RD) : Prop where
  l1 : 1 ≤ r.pts.length
  l2 : r.pts.length ≤ 19
  bnd : Bnd r.pts
  inc : Inc r.pts
  res : ResOk (frS r.pts) [r.I]
  cap : (bu r).length ≤ 1024
  mem : ∃ T fz, w.heap[r.b]? = some (.cells (row rS r.pts r.sp) T fz)
end Go.Vt
/- Runs made into moving points by two roads: plain. Conditions: those that each statement names. -/
set_option linter.unusedSimpArgs false
set_option linter.unusedVariables false
set_option maxHeartbeats 2000000
set_option maxRecDepth 100000
namespace Go.Vt
open Go.RowKit Go.Proofs
open Fv (va red)
/-- A run as the program makes them, its times moved or not. -/
structure RLn (N : Nat) (r : RD) : Prop where
  fr : r.I.From = ⟨(gi r.pts 0).T, 0, false⟩
  to : r.I.To = ⟨(gi r.pts ((r.pts.length - 1 : Nat) : Int)).T, 0, false⟩
  fl : r.pts.length = 1 → r.I.OpenFrom = false ∧ r.I.OpenTo = false
  B : Bnd r.pts
  i : Inc r.pts
  l1 : 1 ≤ r.pts.length
  l2 : r.pts.length ≤ N
  nb : N ≤ 13
abbrev K0 : Nat := 6291460
abbrev K1 : Nat := 4 * K0 + 4
abbrev K2 : Nat := 4 * K1 + 4
theorem stl_K {pts : List SS} (hB : Bnd pts) (i : Nat) : LnOk K0 (stl (gi pts (i : Int)) (gi pts ((i + 1 : Nat) : Int))) := by
  obtain ⟨h1, h2, h3⟩ := hB (i : Int)
  obtain ⟨h4, h5, h6⟩ := hB ((i + 1 : Nat) : Int)
  have := MB.mk h1
  have := MB.mk h2
  have := MB.mk h3
  have := MB.mk h4
  have := MB.mk h5
  have := MB.mk h6
  exact ⟨MB.lt (q := (stl (gi pts (i : Int)) (gi pts ((i + 1 : Nat) : Int))).X0) rfl, MB.lt (q := (stl (gi pts (i : Int)) (gi pts ((i + 1 : Nat) : Int))).X1) rfl, MB.lt (q := (stl (gi pts (i : Int)) (gi pts ((i + 1 : Nat) : Int))).Y0) rfl, MB.lt (q := (stl (gi pts (i : Int)) (gi pts ((i + 1 : Nat) : Int))).Y1) rfl⟩
theorem K_one : K0 ≤ K1 ∧ K1 ≤ KN ∧ K0 ≤ KN ∧ K2 ≤ KN ∧ PB ≤ K0 ∧ KN ≤ BQ := by decide
theorem sgU_K {pts : List SS} (hB : Bnd pts) (i : Nat) : UK K0 (toU (sgU pts i)) :=
  ⟨⟨rfl, rfl, rfl, rfl, Nat.le_trans (hB (i : Int)).1 K_one.2.2.2.2.1, Nat.le_trans (hB ((i + 1 : Nat) : Int)).1 K_one.2.2.2.2.1⟩, stl_K hB i⟩
theorem bsU_K {I : R_api_Interval} {pts : List SS} (hB : Bnd pts) (i : Nat) : UK K0 (toU (bsU I pts i)) :=
  ⟨⟨rfl, rfl, rfl, rfl, Nat.le_trans (hB (i : Int)).1 K_one.2.2.2.2.1, Nat.le_trans (hB ((i + 1 : Nat) : Int)).1 K_one.2.2.2.2.1⟩, stl_K hB i⟩
def bW (I : R_api_Interval) (pts : List SS) (m : Nat) : List UL := (bs I pts m).map toU
theorem bW_succ (I : R_api_Interval) (pts : List SS) (m : Nat) : bW I pts (m + 1) = bW I pts m ++ [toU (bsU I pts m)] := by
  show ((bs I pts m ++ [bsU I pts m]).map toU) = _
  rw [List.map_append]
  rfl
theorem bW_mem {I : R_api_Interval} {pts : List SS} {u : UL} : ∀ {m : Nat}, u ∈ bW I pts m ↔ ∃ i, i < m ∧ u = toU (bsU I pts i)
  | 0 => by
    constructor
    · intro h; cases h
    · rintro ⟨i, h, -⟩; omega
  | m + 1 => by
    rw [bW_succ, List.mem_append, bW_mem, List.mem_singleton]
    constructor
    · rintro (⟨i, h1, h2⟩ | h)
      · exact ⟨i, by omega, h2⟩
      · exact ⟨m, by omega, h⟩
    · rintro ⟨i, h1, h2⟩
      rcases (by omega : i < m ∨ i = m) with h3 | h3
      · exact .inl ⟨i, h3, h2⟩
      · exact .inr (h3 ▸ h2)
theorem sgW_mem' {pts : List SS} {m : Nat} {u : UL} : u ∈ sgW pts m ↔ ∃ i, i < m ∧ u = toU (sgU pts i) := by
  refine ⟨sgW_mem, ?_⟩
  rintro ⟨i, h, rfl⟩
  rw [← sgW_get h]
  exact gi_mem (by rw [sgW_len]; omega)
theorem bsU_mem {N : Nat} {r : RD} (h : RLn N r) {i : Nat} (hi : i + 1 < r.pts.length) (t : Rat) : memI (bsU r.I r.pts i).In t ↔ memI (sgU r.pts i).In t ∧ memI r.I t := by
  have e1 : r.I.From.P = (gi r.pts ((0 : Nat) : Int)).T := by rw [h.fr]; rfl
  have e2 : r.I.To.P = (gi r.pts ((r.pts.length - 1 : Nat) : Int)).T := by rw [h.to]
  have k1 := h.i i hi
  have k2 : 0 < i → (gi r.pts ((0 : Nat) : Int)).T < (gi r.pts (i : Int)).T := fun h0 => h.i.lt h0 (by omega)
  have k3 : i + 2 < r.pts.length → (gi r.pts ((i + 1 : Nat) : Int)).T < (gi r.pts ((r.pts.length - 1 : Nat) : Int)).T := fun h0 => h.i.lt (by omega) (by omega)
  unfold memI bsU sgU
  simp only [e1, e2]
  rcases (by omega : i = 0 ∨ 0 < i) with h0 | h0
  · subst h0
    rcases (by omega : 0 + 2 = r.pts.length ∨ 0 + 2 < r.pts.length) with h4 | h4
    · rw [if_pos rfl, if_pos h4, show r.pts.length - 1 = 0 + 1 by omega]
      have : decide ((1 : Int) < ((0 + 1 : Nat) : Int)) = false := by decide
      rw [this]
      grind
    · have := k3 h4
      rw [if_pos rfl, if_neg (by omega)]
      have : decide ((1 : Int) < ((0 + 1 : Nat) : Int)) = false := by decide
      rw [this]
      grind
  · have := k2 h0
    have e3 : decide ((1 : Int) < ((i + 1 : Nat) : Int)) = true := decide_eq_true (by omega)
    rw [e3, if_neg (by omega)]
    rcases (by omega : i + 2 = r.pts.length ∨ i + 2 < r.pts.length) with h4 | h4
    · rw [if_pos h4, show r.pts.length - 1 = i + 1 by omega]
      grind
    · have := k3 h4
      rw [if_neg (by omega)]
      grind
theorem bsU_bfr {N : Nat} {r : RD} (h : RLn N r) {i m : Nat} (him : i < m) (hm : m + 1 < r.pts.length) : (absU (toU (bsU r.I r.pts i))).bfr (absU (toU (bsU r.I r.pts m))) := by
  rcases (by omega : i + 1 = m ∨ i + 1 < m) with h1 | h1
  · subst h1
    exact .inr ⟨rfl, .inr (by show (if i + 1 = 0 then r.I.OpenFrom else true) = true; rw [if_neg (by omega)])⟩
  · exact .inl (h.i.lt h1 (by omega))
theorem bsU_lt {N : Nat} {r : RD} (h : RLn N r) {i : Nat} (hi : i + 1 < r.pts.length) : (absU (toU (bsU r.I r.pts i))).a < (absU (toU (bsU r.I r.pts i))).b := h.i i hi
theorem bW_pw {N : Nat} {r : RD} (h : RLn N r) : ∀ m, m + 1 ≤ r.pts.length → ((bW r.I r.pts m).map absU).Pairwise Dis
  | 0, _ => List.Pairwise.nil
  | m + 1, hm => by
    rw [bW_succ, List.map_append, List.pairwise_append]
    refine ⟨bW_pw h m (by omega), List.pairwise_singleton _ _, fun u hu w hw => ?_⟩
    obtain ⟨x, hx, rfl⟩ := List.mem_map.1 hu
    obtain ⟨i, h1, rfl⟩ := bW_mem.1 hx
    obtain rfl := List.mem_singleton.1 hw
    exact (bsU_bfr h h1 (by omega)).Dis
theorem bW_has {N : Nat} {r : RD} (h : RLn N r) {m : Nat} (hm : m + 1 ≤ r.pts.length) {t : Rat} {v : R_api_Point} : Has ((bW r.I r.pts m).map absU) t v ↔ Has ((sgW r.pts m).map absU) t v ∧ memI r.I t := by
  rw [has_map, has_map]
  constructor
  · rintro ⟨u, hu, h1, h2⟩
    obtain ⟨i, h3, rfl⟩ := bW_mem.1 hu
    obtain ⟨h4, h5⟩ := (bsU_mem h (by omega) t).1 h1
    exact ⟨⟨_, sgW_mem'.2 ⟨i, h3, rfl⟩, h4, h2⟩, h5⟩
  · rintro ⟨⟨u, hu, h1, h2⟩, h5⟩
    obtain ⟨i, h3, rfl⟩ := sgW_mem'.1 hu
    exact ⟨_, bW_mem.2 ⟨i, h3, rfl⟩, (bsU_mem h (by omega) t).2 ⟨h1, h5⟩, h2⟩
def frW (pts : List SS) : List UL := mpN toU (frS pts) (frS pts).length
theorem frW_one {pts : List SS} (h : pts.length = 1) : frW pts = [toU (one1 (gi pts 0))] := by
  unfold frW
  rw [mpN_all]
  have : frS pts = [one1 (gi pts 0)] := by unfold frS; rw [if_pos h]
  rw [this]
  rfl
theorem one_K {pts : List SS} (hB : Bnd pts) : UK K0 (toU (one1 (gi pts 0))) := by
  have h0 : M 0 ≤ K0 := by decide
  have h1 := K_one.2.2.2.2.1
  exact ⟨⟨rfl, rfl, rfl, rfl, Nat.le_trans (hB 0).1 h1, Nat.le_trans (hB 0).1 h1⟩, ⟨Nat.le_trans (hB 0).2.1 h1, h0, Nat.le_trans (hB 0).2.2 h1, h0⟩⟩
/-- The units of the first road. -/
def b1W (r : RD) : List UL := (b1 r.I r.pts).map toU
theorem RLn.one {N : Nat} {r : RD} (h : RLn N r) (h1 : r.pts.length = 1) : b1W r = frW r.pts ∧ r.I = (one1 (gi r.pts 0)).In := by
  have e1 : r.I = (one1 (gi r.pts 0)).In := by
    obtain ⟨f1, f2⟩ := h.fl h1
    have f3 := h.fr
    have f4 := h.to
    rw [h1] at f4
    cases hI : r.I with
    | mk a b c d =>
      rw [hI] at f1 f2 f3 f4
      simp only at f1 f2 f3 f4
      rw [f1, f2, f3, f4]
      rfl
  refine ⟨?_, e1⟩
  rw [frW_one h1]
  unfold b1W b1
  rw [if_pos h1, e1]
  rfl
theorem RLn.two {r : RD} (h1 : ¬ r.pts.length = 1) : b1W r = bW r.I r.pts (r.pts.length - 1) := by
  unfold b1W b1 bW
  rw [if_neg h1]
theorem RLn.iv {N : Nat} {r : RD} (h : RLn N r) : IvOk K0 r.I := by
  have h1 := K_one.2.2.2.2.1
  exact ⟨by rw [h.fr], by rw [h.to], by rw [h.fr], by rw [h.to], by rw [h.fr]; exact Nat.le_trans (h.B _).1 h1, by rw [h.to]; exact Nat.le_trans (h.B _).1 h1⟩
/-- What a list of units is, that the normal form asks for. -/
structure Fit (K : Nat) (A : List UL) : Prop where
  k : ∀ u ∈ A, UK K u
  o : ∀ u ∈ A, (absU u).ok
  p : (A.map absU).Pairwise Dis
theorem Fit.val {K : Nat} {A : List UL} (h : Fit K A) (hk : K ≤ KN) : UVal A := ⟨fun u hu => (h.k u hu).uin hk, h.o⟩
theorem one_fit {pts : List SS} (hB : Bnd pts) : Fit K0 [toU (one1 (gi pts 0))] :=
  ⟨fun u hu => List.mem_singleton.1 hu ▸ one_K hB, fun u hu => List.mem_singleton.1 hu ▸ .inr ⟨rfl, rfl, rfl⟩, List.pairwise_singleton _ _⟩
theorem b1_fit {N : Nat} {r : RD} (h : RLn N r) : Fit K0 (b1W r) := by
  by_cases h1 : r.pts.length = 1
  · rw [(h.one h1).1, frW_one h1]
    exact one_fit h.B
  · rw [RLn.two h1]
    have := h.l1
    refine ⟨fun u hu => ?_, fun u hu => ?_, bW_pw h _ (by omega)⟩
    · obtain ⟨i, h3, rfl⟩ := bW_mem.1 hu
      exact bsU_K h.B i
    · obtain ⟨i, h3, rfl⟩ := bW_mem.1 hu
      exact .inl (bsU_lt h (by omega))
theorem fr_fit {N : Nat} {r : RD} (h : RLn N r) : Fit K1 (frW r.pts) := by
  by_cases h1 : r.pts.length = 1
  · rw [frW_one h1]
    obtain ⟨k, o, p⟩ := one_fit h.B
    exact ⟨fun u hu => (k u hu).mono K_one.1, o, p⟩
  · have := h.l1
    have e : frW r.pts = nrmR (sgW r.pts (r.pts.length - 1)) := by
      unfold frW frS
      rw [if_neg h1, mNorm_U]
      rfl
    obtain ⟨-, n1, -, -⟩ := frS_law h.B h.i (by omega)
    rw [e]
    refine ⟨nrmR_K (fun u hu => ?_), fun u hu => ?_, ?_⟩
    · obtain ⟨i, h3, rfl⟩ := sgW_mem'.1 hu
      exact sgU_K h.B i
    · rw [← e] at hu
      exact n1.ok _ (List.mem_map.2 ⟨u, hu, rfl⟩)
    · rw [← e]
      exact n1.pw.imp fun k => k.bf.Dis
theorem b1_has {N : Nat} {r : RD} (h : RLn N r) {t : Rat} {v : R_api_Point} : Has ((b1W r).map absU) t v ↔ Has ((frW r.pts).map absU) t v ∧ memI r.I t := by
  by_cases h1 : r.pts.length = 1
  · obtain ⟨e1, e2⟩ := h.one h1
    rw [e1]
    refine ⟨fun k => ⟨k, ?_⟩, fun k => k.1⟩
    rw [frW_one h1, has_map] at k
    obtain ⟨u, hu, k1, k2⟩ := k
    rw [List.mem_singleton.1 hu] at k1
    rw [e2]
    exact k1
  · have := h.l1
    rw [RLn.two h1, bW_has h (by omega)]
    obtain ⟨-, -, -, n4⟩ := frS_law h.B h.i (by omega)
    exact and_congr (n4 t v).symm Iff.rfl
/-- The units of the second road. -/
def mrW (r : RD) : List UL := mRes (frS r.pts) [r.I]
theorem mr_fit {N : Nat} {r : RD} (h : RLn N r) : Fit K1 (mrW r) := by
  obtain ⟨k, o, p⟩ := fr_fit h
  refine ⟨ro_K k (fun d hd => ?_), ro_ok, ro_pw p (List.pairwise_singleton _ _) _ (Nat.le_refl _)⟩
  rw [List.mem_singleton.1 hd]
  exact ⟨h.iv.r1, h.iv.r2, h.iv.n1, h.iv.n2, Nat.le_trans h.iv.m1 K_one.1, Nat.le_trans h.iv.m2 K_one.1⟩
theorem mr_has {N : Nat} {r : RD} (h : RLn N r) {t : Rat} {v : R_api_Point} : Has ((mrW r).map absU) t v ↔ Has ((b1W r).map absU) t v := by
  rw [b1_has h]
  refine (ro_has (us := frW r.pts) (ds := [r.I])).trans (and_congr Iff.rfl ?_)
  simp
def buW (r : RD) : List UL := mpN toU (bu r) (bu r).length
theorem buW_eq (r : RD) : buW r = nrmR (mrW r) := toU_ofU _
theorem bu_nf {N : Nat} {r : RD} (h : RLn N r) : NF ((buW r).map absU) ∧ ∀ t v, Has ((buW r).map absU) t v ↔ Has ((b1W r).map absU) t v := by
  rw [buW_eq]
  have hf := mr_fit h
  obtain ⟨n1, n2⟩ := nrm_nf (hf.val K_one.2.1) hf.p
  exact ⟨n1, fun t v => (n2 t v).trans (mr_has h)⟩
theorem bu_fit {N : Nat} {r : RD} (h : RLn N r) : Fit K2 (buW r) := by
  obtain ⟨n1, -⟩ := bu_nf h
  refine ⟨?_, fun u hu => n1.ok _ (List.mem_map.2 ⟨u, hu, rfl⟩), n1.pw.imp fun k => k.bf.Dis⟩
  rw [buW_eq]
  exact nrmR_K (mr_fit h).k
theorem frW_len {N : Nat} {r : RD} (h : RLn N r) : (frW r.pts).length ≤ 18 := by
  by_cases h1 : r.pts.length = 1
  · rw [frW_one h1]; exact Nat.le_of_ble_eq_true rfl
  · have e : frW r.pts = nrmR (sgW r.pts (r.pts.length - 1)) := by
      unfold frW frS
      rw [if_neg h1, mNorm_U]
      rfl
    have hl1 := h.l1
    have h2 := nrmR_few (sgW_val h.B h.i (m := r.pts.length - 1) (by omega))
    have h3 := sgW_len r.pts (r.pts.length - 1)
    have := h.l2
    have := h.nb
    rw [e]
    omega
theorem mr_len {N : Nat} {r : RD} (h : RLn N r) : (mrW r).length ≤ 18 := by
  have h1 := ro_len (frW r.pts) [r.I] (frW r.pts).length
  have h2 := frW_len h
  have : (mrW r).length ≤ (frW r.pts).length * 1 := h1
  omega
theorem RLn.res {N : Nat} {r : RD} (h : RLn N r) : ResOk (frS r.pts) [r.I] := by
  have hb := K_one
  have hm := fr_fit h
  have hk : ∀ {K : Nat} {I : R_api_Interval}, IvOk K I → K ≤ KN → IvOk BQ I := fun g k => ⟨g.r1, g.r2, g.n1, g.n2, Nat.le_trans g.m1 (Nat.le_trans k hb.2.2.2.2.2), Nat.le_trans g.m2 (Nat.le_trans k hb.2.2.2.2.2)⟩
  have hl : (frS r.pts).length = (frW r.pts).length := (mpN_len _ _ _).symm
  have h18 := frW_len h
  refine ⟨by omega, Nat.le_of_ble_eq_true rfl, Nat.le_trans (mr_len h) (by decide), fun u hu => hk (hm.k u hu).i hb.2.1, fun d hd => ?_, fun u hu => ((mr_fit h).k u hu).uin hb.2.1⟩
  rw [List.mem_singleton.1 hd]
  exact hk h.iv hb.2.2.1
theorem dis_app {A B : List (GU Rat R_api_Line)} : (A ++ B).Pairwise Dis ↔ A.Pairwise Dis ∧ B.Pairwise Dis ∧ ∀ t, ¬ ((∃ v, Has A t v) ∧ ∃ v, Has B t v) := by
  rw [List.pairwise_append]
  refine and_congr Iff.rfl (and_congr Iff.rfl ?_)
  constructor
  · rintro h t ⟨⟨v, u, hu, h1, -⟩, v', w, hw, h2, -⟩
    exact h u hu w hw t ⟨h1, h2⟩
  · intro h u hu w hw t ⟨h1, h2⟩
    exact h t ⟨⟨_, u, hu, h1, rfl⟩, _, w, hw, h2, rfl⟩
def bAW (rs : List RD) (m : Nat) : List UL := (bA rs m).map toU
def buAW (rs : List RD) (m : Nat) : List UL := (buA rs m).map toU
theorem bAW_succ (rs : List RD) (m : Nat) : bAW rs (m + 1) = bAW rs m ++ b1W (gi rs (m : Int)) := by
  show ((bA rs m ++ b1 _ _).map toU) = _
  rw [List.map_append]
  rfl
theorem buAW_succ (rs : List RD) (m : Nat) : buAW rs (m + 1) = buAW rs m ++ buW (gi rs (m : Int)) := by
  show ((buA rs m ++ bu _).map toU) = _
  rw [List.map_append]
  unfold buW
  rw [mpN_all]
  rfl
theorem roads {N : Nat} {rs : List RD} (h : ∀ r ∈ rs, RLn N r) : ∀ m, m ≤ rs.length → ((∀ u ∈ bAW rs m, UK K0 u ∧ (absU u).ok) ∧ (∀ u ∈ buAW rs m, UK K2 u ∧ (absU u).ok)) ∧ (∀ t v, Has ((buAW rs m).map absU) t v ↔ Has ((bAW rs m).map absU) t v) ∧ (((buAW rs m).map absU).Pairwise Dis ↔ ((bAW rs m).map absU).Pairwise Dis)
  | 0, _ => by
    refine ⟨⟨fun u hu => ?_, fun u hu => ?_⟩, fun t v => Iff.rfl, Iff.rfl⟩
    · cases hu
    · cases hu
  | m + 1, hm => by
    obtain ⟨⟨g1, g2⟩, g3, g4⟩ := roads h m (by omega)
    have hr := h _ (gi_mem (i := (m : Int)) (xs := rs) (by omega))
    have f1 := b1_fit hr
    have f2 := bu_fit hr
    obtain ⟨-, n2⟩ := bu_nf hr
    rw [bAW_succ, buAW_succ]
    refine ⟨⟨fun u hu => ?_, fun u hu => ?_⟩, fun t v => ?_, ?_⟩
    · rcases List.mem_append.1 hu with k | k
      · exact g1 u k
      · exact ⟨f1.k u k, f1.o u k⟩
    · rcases List.mem_append.1 hu with k | k
      · exact g2 u k
      · exact ⟨f2.k u k, f2.o u k⟩
    · rw [List.map_append, List.map_append, has_app, has_app, g3, n2]
    · rw [List.map_append, List.map_append, dis_app, dis_app, g4]
      refine and_congr Iff.rfl (and_congr ⟨fun _ => f1.p, fun _ => f2.p⟩ ?_)
      simp only [g3, n2]
end Go.Vt
/- Trajectories of cars, walked: the parts. Conditions: those that each statement names. -/
set_option linter.unusedSimpArgs false
set_option linter.unusedVariables false
set_option maxHeartbeats 2000000
set_option maxRecDepth 100000
namespace Go.Vt
open Go.RowKit Go.Proofs
end Go.Vt
/- Trajectories of cars, walked. Conditions: those that each statement names. -/
set_option linter.unusedSimpArgs false
set_option linter.unusedVariables false
set_option maxHeartbeats 2000000
set_option maxRecDepth 100000
namespace Go.Vt
open Go.RowKit Go.Proofs
structure TjS where
  out : List PU
  t : Int
  x : Int
  y : Int
  al : Bool
end Go.Vt
/- Borders of periods, walked. Conditions: those that each statement names. -/
set_option linter.unusedSimpArgs false
set_option linter.unusedVariables false
set_option maxHeartbeats 2000000
set_option maxRecDepth 100000
namespace Go.Vt
open Go.RowKit Go.Proofs
abbrev Bd := R_period_border
abbrev vBd (b : Bd) : Value := .agg (e_period_border (q_period_border b))
def bdF (i : R_api_Interval) : Bd := ⟨i.From, i.OpenFrom⟩
def bdL (i : R_api_Interval) : Bd := ⟨i.To, !i.OpenTo⟩
def bdB (a b : Bd) : R_api_Interval := ⟨a.at_, b.at_, a.behind, !b.behind⟩
/-- The order of borders. -/
def cmpB (a b : Bd) : Int := if cq a.at_.P b.at_.P ≠ 0 then cq a.at_.P b.at_.P else if a.behind = b.behind then 0 else if b.behind = true then -1 else 1
structure BdOk (b : Bd) : Prop where
  r : b.at_.R = 0
  n : b.at_.Neg = false
  m : M b.at_.P ≤ LQ
instance sp_first (i : R_api_Interval) : SpecC Tryz.prog 100 [vIv i] (vBd (bdF i)) True := ⟨fun hp w => by
  refine fn_intro Tryz.func100 rfl Tryz.ntmps100 rfl ?_
  repeat (refine wkB ?_; try intro _)
  exact wx_cell rfl rfl (fun w hw => ret_ok hw)⟩
instance sp_last (i : R_api_Interval) : SpecC Tryz.prog 101 [vIv i] (vBd (bdL i)) True := ⟨fun hp w => by
  refine fn_intro Tryz.func101 rfl Tryz.ntmps101 rfl ?_
  repeat (refine wkB ?_; try intro _)
  exact wx_cell rfl rfl (fun w hw => ret_ok hw)⟩
instance sp_cmpB (a b : Bd) : SpecC Tryz.prog 99 [vBd a, vBd b] (.int .i64 (cmpB a b)) (BdOk a ∧ BdOk b) := ⟨fun hp w => by
  obtain ⟨⟨a1, a2, a3⟩, b1', b2, b3⟩ := hp
  refine fn_intro Tryz.func99 rfl Tryz.ntmps99 rfl ?_
  repeat (first | (refine wkB ?_; try intro _) | (refine sC rfl rfl ?_ ?_; focus (exact ⟨⟨a1, b1'⟩, a3, b3⟩)) | (refine sN rfl rfl ?_ ?_; (focus (exact ⟨⟨a1, b1'⟩, a3, b3⟩)); intro _; (try simp only [List.cons_append, List.nil_append, List.append_nil])))
  unfold cmpB
  by_cases h1 : cq a.at_.P b.at_.P = 0
  · simp only [h1, decide_true, Bool.not_true]
    repeat (refine wkB ?_; try intro _)
    rw [if_neg (by simp)]
    rcases ha : a.behind with _ | _ <;> rcases hb : b.behind with _ | _
    · repeat (refine wkB ?_; try intro _)
      exact jx_ret_tmp rfl rfl (fun w hw => ret_ok hw)
    · repeat (refine wkB ?_; try intro _)
      simp only [hb]
      repeat (refine wkB ?_; try intro _)
      exact jx_ret_tmp rfl rfl (fun w hw => ret_ok hw)
    · repeat (refine wkB ?_; try intro _)
      simp only [hb]
      repeat (refine wkB ?_; try intro _)
      exact jx_ret_tmp rfl rfl (fun w hw => ret_ok hw)
    · repeat (refine wkB ?_; try intro _)
      exact jx_ret_tmp rfl rfl (fun w hw => ret_ok hw)
  · simp only [decide_eq_false h1, Bool.not_false]
    rw [if_pos h1]
    repeat (refine wkB ?_; try intro _)
    exact jx_ret_tmp rfl rfl (fun w hw => ret_ok hw)⟩
/-- A closed period, or none. -/
def closL (a b : Rat) : List R_api_Interval := if cmpB ⟨⟨a, 0, false⟩, false⟩ ⟨⟨b, 0, false⟩, true⟩ ≥ 0 then [] else [⟨⟨a, 0, false⟩, ⟨b, 0, false⟩, false, false⟩]
def ivU (u : UL) : R_api_Interval := u.In
end Go.Vt
/- Events of periods: what loads and stores give; their order, walked. Conditions: those that each statement names. -/
set_option linter.unusedSimpArgs false
set_option linter.unusedVariables false
set_option maxHeartbeats 2000000
set_option maxRecDepth 100000
namespace Go.Vt
open Go.RowKit Go.Proofs
/-- A border, and by how much the numbers of intervals change there. -/
structure Ev where
  b : Bd
  n0 : Int
  n1 : Int
instance : Inhabited Ev := ⟨⟨zR_period_border, 0, 0⟩⟩
end Go.Vt
/- Sorting events, walked. Conditions: those that each statement names. -/
set_option linter.unusedSimpArgs false
set_option linter.unusedVariables false
set_option maxHeartbeats 2000000
set_option maxRecDepth 100000
namespace Go.Vt
open Go.RowKit Go.Proofs
abbrev cmpE (x y : Ev) : Int := cmpB x.b y.b
/-- Two neighbours change places. -/
def swpE (xs : List Ev) (j : Nat) : List Ev := (xs.set (j + 1) (gi xs (j : Int))).set j (gi xs ((j + 1 : Nat) : Int))
/-- An element goes down as long as it is less than the one ahead of it. -/
def dwnE (xs : List Ev) : Nat → List Ev
  | 0 => xs
  | j + 1 => if cmpE (gi xs ((j + 1 : Nat) : Int)) (gi xs (j : Int)) < 0 then dwnE (swpE xs j) j else xs
/-- The first elements are in order. -/
def srtE (xs : List Ev) : Nat → List Ev
  | 0 => xs
  | i + 1 => dwnE (srtE xs i) (i + 1)
end Go.Vt
/- Events that are in order stay so, walked. Conditions: those that each statement names. -/
set_option linter.unusedSimpArgs false
set_option linter.unusedVariables false
set_option maxHeartbeats 2000000
set_option maxRecDepth 100000
namespace Go.Vt
open Go.RowKit Go.Proofs
/-- No event is less than one ahead of it. -/
def OrdE (xs : List Ev) : Prop := ∀ p q : Nat, p < q → q < xs.length → ¬ cmpE (gi xs (q : Int)) (gi xs (p : Int)) < 0
/-- What is asked of events in order. -/
structure OkE (xs : List Ev) (n : Nat) : Prop where
  l : xs.length = n
  n : n ≤ 1048576
  k : ∀ u ∈ xs, BdOk u.b
  o : OrdE xs
theorem OkE.two {xs : List Ev} {n : Nat} (h : OkE xs n) {i j : Int} (hi : 0 ≤ i ∧ i < n) (hj : 0 ≤ j ∧ j < n) : BdOk (gi xs i).b ∧ BdOk (gi xs j).b := by
  have := h.l
  exact ⟨h.k _ (gi_mem (by omega)), h.k _ (gi_mem (by omega))⟩
section
variable (w0 : World) (L : List Blk) (b c n : Nat) (xs : List Ev) (sp : List Value) (T : TypeId)
end
end Go.Vt
/- The sort of few events, walked. Conditions: those that each statement names. -/
set_option linter.unusedSimpArgs false
set_option linter.unusedVariables false
set_option maxHeartbeats 2000000
set_option maxRecDepth 100000
namespace Go.Vt
open Go.RowKit Go.Proofs
end Go.Vt
/- Sweeping over the borders of two periods, walked. Conditions: those that each statement names. -/
set_option linter.unusedSimpArgs false
set_option linter.unusedVariables false
set_option maxHeartbeats 2000000
set_option maxRecDepth 100000
namespace Go.Vt
open Go.RowKit Go.Proofs
/-- The events of some intervals of the first, of the second period. -/
def evA (is : List R_api_Interval) : Nat → List Ev
  | 0 => []
  | m + 1 => evA is m ++ [⟨bdF (gi is (m : Int)), 1, 0⟩, ⟨bdL (gi is (m : Int)), -1, 0⟩]
def evB (is : List R_api_Interval) : Nat → List Ev
  | 0 => []
  | m + 1 => evB is m ++ [⟨bdF (gi is (m : Int)), 0, 1⟩, ⟨bdL (gi is (m : Int)), 0, -1⟩]
def kpM (a b : Bool) : Bool := a && !b
def kpU (a b : Bool) : Bool := a || b
/-- What is known behind so many events: the numbers of intervals, where the last one began, whether one is open, what has been found. -/
structure SwS where
  n0 : Int
  n1 : Int
  fr : Bd
  on : Bool
  out : List R_api_Interval
def sws (kp : Bool → Bool → Bool) (l : List Ev) : Nat → SwS
  | 0 => ⟨0, 0, zR_period_border, false, []⟩
  | m + 1 =>
    let p := sws kp l m
    let x := gi l (m : Int)
    let n0 := p.n0 + x.n0
    let n1 := p.n1 + x.n1
    if m + 1 < l.length ∧ cmpB x.b (gi l ((m + 1 : Nat) : Int)).b = 0 then ⟨n0, n1, p.fr, p.on, p.out⟩
    else
      let now := kp (decide (0 < n0)) (decide (0 < n1))
      ⟨n0, n1, if now && !p.on then x.b else p.fr, now, if now && !p.on then p.out else if !now && p.on then p.out ++ [bdB p.fr x.b] else p.out⟩
end Go.Vt
/- Sweeping, walked (under way). Conditions: those that each statement names. -/
set_option linter.unusedSimpArgs false
set_option linter.unusedVariables false
set_option maxHeartbeats 2000000
set_option maxRecDepth 100000
namespace Go.Vt
open Go.RowKit Go.Proofs
def evK (is js : List R_api_Interval) (k : Nat) : List Ev := if k = 0 then [] else if k = 1 then evA is is.length else evA is is.length ++ evB js js.length
/-- What sweep returns. -/
def swpR (kp : Bool → Bool → Bool) (is js : List R_api_Interval) : List R_api_Interval := (sws kp (srtE (evK is js 2) ((evK is js 2).length - 1)) (srtE (evK is js 2) ((evK is js 2).length - 1)).length).out
end Go.Vt
/- What sweeping over the borders of two periods gives: the instants of the result, and that its intervals lie apart. Conditions: those that each statement names. -/
set_option linter.unusedSimpArgs false
set_option linter.unusedVariables false
set_option maxHeartbeats 2000000
set_option maxRecDepth 100000
set_option linter.unusedSectionVars false
namespace Go.Vt
open Go.RowKit Go.Proofs
def bLt (a b : Bd) : Prop := a.at_.P < b.at_.P ∨ (a.at_.P = b.at_.P ∧ a.behind = false ∧ b.behind = true)
def bLe (a b : Bd) : Prop := a.at_.P < b.at_.P ∨ (a.at_.P = b.at_.P ∧ (a.behind = true → b.behind = true))
def bAt (b : Bd) (t : Rat) : Prop := b.at_.P < t ∨ (b.at_.P = t ∧ b.behind = false)
theorem bLt_le {a b : Bd} : bLt a b ↔ ¬ bLe b a := by unfold bLt bLe; grind
theorem bLe_tr {a b c : Bd} (h : bLe a b) (k : bLe b c) : bLe a c := by unfold bLe at *; grind
theorem bLt.le {a b : Bd} (h : bLt a b) : bLe a b := by unfold bLe bLt at *; grind
theorem bAt_le {a b : Bd} {t : Rat} (h : bLe a b) (k : bAt b t) : bAt a t := by unfold bLe bAt at *; grind
theorem cmpB_ge {a b : Bd} (h : ¬ cmpB a b < 0) : bLe b a := by
  unfold cmpB at h
  unfold bLe
  split at h
  · rename_i h1
    have h2 : ¬ a.at_.P < b.at_.P := fun e => h (cq_lt.2 e)
    have h1 : ¬ a.at_.P = b.at_.P := fun e => h1 (cq_eq.2 e)
    exact .inl (by grind)
  · rename_i h1
    have h1 := cq_eq.1 (Decidable.not_not.1 h1)
    split at h
    · rename_i h2
      exact .inr ⟨h1.symm, fun e => by rw [h2]; exact e⟩
    · split at h
      · omega
      · rename_i h3
        exact .inr ⟨h1.symm, fun e => absurd e h3⟩
theorem memI_at {I : R_api_Interval} {t : Rat} : memI I t ↔ bAt (bdF I) t ∧ ¬ bAt (bdL I) t := by
  unfold memI bAt bdF bdL
  rcases I.OpenFrom <;> rcases I.OpenTo <;> simp <;> grind
noncomputable def cntT (d : Ev → Int) (t : Rat) : List Ev → Int
  | [] => 0
  | x :: l => (open Classical in if bAt x.b t then d x else 0) + cntT d t l
section
variable {kp : Bool → Bool → Bool} {l : List Ev}
noncomputable def keeps (kp : Bool → Bool → Bool) (l : List Ev) (t : Rat) : Bool := kp (decide (0 < cntT Ev.n0 t l)) (decide (0 < cntT Ev.n1 t l))
end
end Go.Vt
/- Periods as functions with one value; the period during which a car is somewhere. Conditions: those that each statement names. -/
set_option linter.unusedSimpArgs false
set_option linter.unusedVariables false
set_option maxHeartbeats 2000000
set_option maxRecDepth 100000
set_option linter.unusedSectionVars false
namespace Go.Vt
open Go.RowKit Go.Proofs
open Fv (va red)
instance fvU : Fv Unit Rat Unit := ⟨fun _ _ => (), fun f _ => f, fun _ _ => rfl, fun _ _ _ _ => rfl, fun _ _ _ _ _ _ => rfl⟩
def absI (I : R_api_Interval) : GU Rat Unit := ⟨I.From.P, I.To.P, I.OpenFrom, I.OpenTo, ()⟩
/-- Intervals that lie apart, in order. -/
structure Sep (l : List R_api_Interval) : Prop where
  p : l.Pairwise (fun i j => bLt (bdL i) (bdF j))
  v : ∀ i ∈ l, bLt (bdF i) (bdL i)
theorem okI_bd {i : R_api_Interval} : okI i ↔ bLt (bdF i) (bdL i) := by
  unfold okI bLt bdF bdL
  rcases i.OpenFrom <;> rcases i.OpenTo <;> simp
theorem Sep.nf {l : List R_api_Interval} (h : Sep l) : NF (l.map absI) := by
  refine ⟨fun u hu => ?_, fun u hu _ => rfl, ?_⟩
  · obtain ⟨i, hi, rfl⟩ := List.mem_map.1 hu
    exact okI_bd.2 (h.v i hi)
  · rw [List.pairwise_map]
    refine List.Pairwise.imp_of_mem (fun {i j} hi hj hb => ?_) h.p
    have hv := okI_bd.2 (h.v i hi)
    unfold okI at hv
    unfold bLt bdL bdF at hb
    rcases hb with hb | ⟨e, h1, h2⟩
    · have hb : i.To.P < j.From.P := hb
      exact ⟨.inl hb, fun e => absurd (show i.To.P = j.From.P from e) (by grind), fun e => absurd (show i.To.P = j.From.P from e) (by grind), fun e => absurd (show i.To.P = j.From.P from e) (by grind)⟩
    · have e : i.To.P = j.From.P := e
      have h1 : i.OpenTo = true := by simpa using h1
      have h2 : j.OpenFrom = true := h2
      exact ⟨.inr ⟨e, .inl h1⟩, fun _ k => absurd (show i.OpenTo = false from k) (by simp [h1]), fun _ k => absurd (show j.OpenFrom = false from k) (by simp [h2]), fun _ k => absurd (show i.From.P = i.To.P from k) (hv.elim (fun hv => by grind) (fun hv => by rw [h1] at hv; cases hv.2.2))⟩
theorem has_absI {l : List R_api_Interval} {t : Rat} {v : Unit} : Has (l.map absI) t v ↔ ∃ i ∈ l, memI i t := by
  constructor
  · rintro ⟨u, hu, hm, _⟩
    obtain ⟨i, hi, rfl⟩ := List.mem_map.1 hu
    exact ⟨i, hi, hm⟩
  · rintro ⟨i, hi, hm⟩
    exact ⟨absI i, List.mem_map.2 ⟨i, hi, rfl⟩, hm, rfl⟩
theorem Sep.uniq {l m : List R_api_Interval} (h : Sep l) (k : Sep m) (H : ∀ t, (∃ i ∈ l, memI i t) ↔ ∃ i ∈ m, memI i t) : l.map absI = m.map absI :=
  NF.uniq h.nf k.nf (fun t v => by rw [has_absI, has_absI]; exact H t)
theorem Sep.len {l m : List R_api_Interval} (h : Sep l) (k : Sep m) (H : ∀ t, (∃ i ∈ l, memI i t) ↔ ∃ i ∈ m, memI i t) : l.length = m.length := by
  rw [← List.length_map (f := absI), h.uniq k H, List.length_map]
theorem Sep.lt {l : List R_api_Interval} (h : Sep l) {i j : Nat} (hij : i < j) (hj : j < l.length) : bLt (bdL (gi l (i : Int))) (bdF (gi l (j : Int))) := by
  rw [gi_nat hj, gi_nat (by omega : i < l.length)]
  exact (List.pairwise_iff_getElem.1 h.p) i j (by omega) hj hij
theorem Sep.ok {l : List R_api_Interval} (h : Sep l) {i : Nat} (hi : i < l.length) : bLt (bdF (gi l (i : Int))) (bdL (gi l (i : Int))) := h.v _ (gi_mem (xs := l) (i := (i : Int)) (by omega))
/-- Between two of them lies an instant that is in none. -/
theorem Sep.gap {l : List R_api_Interval} (h : Sep l) {i j : Nat} (hij : i < j) (hj : j < l.length) {t s : Rat} (ht : memI (gi l (i : Int)) t) (hs : memI (gi l (j : Int)) s) : ∃ g, t < g ∧ g < s ∧ ¬ ∃ d ∈ l, memI d g := by
  have hx := h.lt (i := i) (j := i + 1) (by omega) (by omega)
  have hy : bLe (bdF (gi l ((i + 1 : Nat) : Int))) (bdF (gi l (j : Int))) := by
    by_cases e : j = i + 1
    · subst e; exact .inr ⟨rfl, id⟩
    · exact ((h.ok (i := i + 1) (by omega)).le |> fun k => bLe_tr k (h.lt (i := i + 1) (j := j) (by omega) hj).le)
  have h1 := (memI_at.1 ht).2
  have h2 := bAt_le hy (memI_at.1 hs).1
  have key : ∃ g, t < g ∧ g < s ∧ bAt (bdL (gi l (i : Int))) g ∧ ¬ bAt (bdF (gi l ((i + 1 : Nat) : Int))) g := by
    generalize bdL (gi l (i : Int)) = x at *
    generalize bdF (gi l ((i + 1 : Nat) : Int)) = y at *
    unfold bLt at hx
    unfold bAt at h1 h2 ⊢
    rcases hx with hx | ⟨h3, h4, h5⟩
    · exact ⟨(x.at_.P + y.at_.P) / 2, by grind, by grind, by grind, by grind⟩
    · exact ⟨x.at_.P, by grind, by grind, by grind, by grind⟩
  obtain ⟨g, h3, h4, h5, h6⟩ := key
  refine ⟨g, h3, h4, fun ⟨d, hd, hm⟩ => ?_⟩
  obtain ⟨k, hk, rfl⟩ := List.getElem_of_mem hd
  rw [← gi_nat hk] at hm
  obtain ⟨m1, m2⟩ := memI_at.1 hm
  by_cases hki : k ≤ i
  · by_cases e : k = i
    · subst e; exact m2 h5
    · exact m2 (bAt_le (bLe_tr (h.lt (i := k) (j := i) (by omega) (by omega)).le (h.ok (i := i) (by omega)).le) h5)
  · by_cases e : k = i + 1
    · subst e; exact h6 m1
    · exact h6 (bAt_le (bLe_tr (h.ok (i := i + 1) (by omega)).le (h.lt (i := i + 1) (j := k) (by omega) hk).le) m1)
def ivZ (a b : Int) : R_api_Interval := ⟨⟨(a : Rat), 0, false⟩, ⟨(b : Rat), 0, false⟩, false, false⟩
structure DjS where
  dn : List (Int × Int)
  f : Int
def djL (d : DjS) (p : TjS) : List (Int × Int) := if p.al = true then d.dn else d.dn ++ [(d.f, p.t)]
structure DjI (d : DjS) (p : TjS) (m : Nat) : Prop where
  n : 2 * d.dn.length + (if p.al = true then 0 else 1) ≤ m
  w : ∀ i ∈ d.dn, i.1 ≤ i.2 ∧ i.2 < p.t
  a : p.al = false → d.f < p.t ∧ (∀ i ∈ d.dn, i.2 < d.f) ∧ 0 < p.out.length
  s : d.dn.Pairwise (fun i j => i.2 < j.1)
  h : ∀ t, (∃ i ∈ djL d p, memI (ivZ i.1 i.2) t) ↔ ∃ u ∈ p.out, memI u.In t
end Go.Vt
/- The runs of a moving point: plain. Conditions: those that each statement names. -/
set_option linter.unusedSimpArgs false
set_option linter.unusedVariables false
set_option maxHeartbeats 2000000
set_option maxRecDepth 100000
namespace Go.Vt
open Go.RowKit Go.Proofs
open Fv (va red)
abbrev absP (u : PU) : GU Rat R_api_Line := absU (toU u)
/-- Do two neighbouring units meet at a turn? -/
def trn (a b : PU) : Bool := decide (a.In.To = b.In.From) && ((!a.In.OpenTo || !b.In.OpenFrom) && smL a.F b.F b.In.From.P)
/-- The units of a moving point in normal form. -/
structure PNf (l : List PU) : Prop where
  nf : NF (l.map absP)
  rf : ∀ u ∈ l, RtOk u.In.From ∧ RtOk u.In.To
section
variable {l : List PU}
theorem PNf.g (h : PNf l) {i : Nat} (hi : i < l.length) : RtOk (gi l (i : Int)).In.From ∧ RtOk (gi l (i : Int)).In.To := h.rf _ (gi_mem (by omega))
theorem PNf.ok (h : PNf l) {i : Nat} (hi : i < l.length) : (absP (gi l (i : Int))).ok := h.nf.ok _ (List.mem_map.2 ⟨_, gi_mem (by omega), rfl⟩)
theorem PNf.rd (h : PNf l) {i : Nat} (hi : i < l.length) : (absP (gi l (i : Int))).a = (absP (gi l (i : Int))).b → (gi l (i : Int)).F = red (gi l (i : Int)).F (gi l (i : Int)).In.From.P := h.nf.rd _ (List.mem_map.2 ⟨_, gi_mem (by omega), rfl⟩)
end
end Go.Vt
/- The moving point of a car without a part: plain. Conditions: those that each statement names. -/
set_option linter.unusedSimpArgs false
set_option linter.unusedVariables false
set_option maxHeartbeats 2000000
set_option maxRecDepth 100000
namespace Go.Vt
open Go.RowKit Go.Proofs
open Fv (va red)
structure PGood (K n : Nat) (l : List PU) : Prop where
  nf : PNf l
  k : ∀ u ∈ l, UK K (toU u)
  n : l.length ≤ n
theorem mpN_map {α β : Type} [Inhabited α] (f : α → β) (xs : List α) : mpN f xs xs.length = xs.map f := by
  rw [mpN_take f xs _ (Nat.le_refl _), List.take_length]
theorem map_toU (r : List PU) : (r.map toU).map absU = r.map absP := by
  rw [List.map_map]
  rfl
structure BdK (K : Nat) (b : Bd) : Prop where
  r : b.at_.R = 0
  n : b.at_.Neg = false
  m : M b.at_.P ≤ K
theorem BdK.ok {K : Nat} {b : Bd} (h : BdK K b) (hk : K ≤ LQ) : BdOk b := ⟨h.r, h.n, Nat.le_trans h.m hk⟩
theorem BdK.iv {K : Nat} {i : R_api_Interval} (h : BdK K (bdF i)) (h' : BdK K (bdL i)) : IvOk K i := ⟨h.r, h'.r, h.n, h'.n, h.m, h'.m⟩
theorem IvOk.bd {K : Nat} {i : R_api_Interval} (h : IvOk K i) : BdK K (bdF i) ∧ BdK K (bdL i) := ⟨⟨h.r1, h.n1, h.m1⟩, ⟨h.r2, h.n2, h.m2⟩⟩
/-- The instants of a moving point. -/
def pIv (l : List PU) : List R_api_Interval := mpN ivU (mpN toU l l.length) (mpN toU l l.length).length
def pDom (l : List PU) : List R_api_Interval := swpR kpU (pIv l) []
/-- The moving point without what lies between two instants. -/
def movM (l : List PU) (a b : Rat) : List R_api_Interval := swpR kpM (pDom l) (closL a b)
def movL (l : List PU) (a b : Rat) : List PU := mpN ofU (nrmR (mRes l (movM l a b))) (nrmR (mRes l (movM l a b))).length
section
variable {D M : List R_api_Interval} {a b : Rat} (hM : Sep M) (hs : ∀ t, (∃ d ∈ M, memI d t) ↔ (∃ d ∈ D, memI d t) ∧ ¬ (a ≤ t ∧ t ≤ b))
include hM hs
end
structure MovOk (l : List PU) (a b : Rat) : Prop where
  l1 : 2 * (pDom l).length + 2 * (closL a b).length ≤ 12
  b1 : ∀ i ∈ pDom l, BdOk (bdF i) ∧ BdOk (bdL i)
  b2 : ∀ i ∈ closL a b, BdOk (bdF i) ∧ BdOk (bdL i)
  l2 : 2 * (pIv l).length + 2 * 0 ≤ 12
  b3 : ∀ i ∈ pIv l, BdOk (bdF i) ∧ BdOk (bdL i)
  r : ResOk l (movM l a b)
  g : PGood 276 12 (movL l a b)
end Go.Vt
/- Union and difference of periods; the instants of a moving point: walked. Conditions: those that each statement names. -/
set_option linter.unusedSimpArgs false
set_option linter.unusedVariables false
set_option maxHeartbeats 2000000
set_option maxRecDepth 100000
namespace Go.Vt
open Go.RowKit Go.Proofs
/-- Two periods that a sweep takes: few intervals, or in order. -/
structure SwOk (is js : List R_api_Interval) : Prop where
  l : 2 * is.length + 2 * js.length ≤ 12 ∨ (OrdE (evA is is.length ++ evB js js.length) ∧ 2 * is.length + 2 * js.length < 50)
  a : ∀ i ∈ is, BdOk (bdF i) ∧ BdOk (bdL i)
  b : ∀ i ∈ js, BdOk (bdF i) ∧ BdOk (bdL i)
theorem SwOk.n {is js : List R_api_Interval} (h : SwOk is js) : 2 * is.length + 2 * js.length < 50 := h.l.elim (fun h => by omega) (fun h => h.2)
end Go.Vt
/- Are instants, intervals, units valid? Walked where they are. Conditions: those that each statement names. -/
set_option linter.unusedSimpArgs false
set_option linter.unusedVariables false
set_option maxHeartbeats 2000000
set_option maxRecDepth 100000
namespace Go.Vt
open Go.RowKit Go.Proofs
theorem zero_sign : (0 : Rat).num.sign = 0 := by decide
instance sp_RealCheck0 (x : R_api_Real) : SpecC Tryz.prog 98 [vR x] (.int .i64 0) (x.R = 0 ∧ x.Neg = false ∧ M x.P ≤ LQ) := ⟨fun hp w => by
  obtain ⟨p, r, n⟩ := x
  obtain ⟨h1, h2, h3⟩ := hp
  simp only at h1 h2 h3
  subst h1
  subst h2
  have h0 : M 0 ≤ LQ := by decide
  refine fn_intro Tryz.func98 rfl Tryz.ntmps98 rfl ?_
  repeat (refine wkB ?_; try intro _)
  simp only [zero_sign]
  repeat (refine wkB ?_; try intro _)
  exact jx_ret_tmp rfl rfl (fun w hw => ret_ok hw)⟩
instance sp_CheckIv (i : R_api_Interval) : SpecC Tryz.prog 66 [vIv i] (.int .i64 0) (IvOk LQ i ∧ okI i) := ⟨fun hp w => by
  obtain ⟨h1, h2⟩ := hp
  have hlt := okI_bd.1 h2
  have hn : ¬ 0 ≤ cmpB (bdF i) (bdL i) := fun h => (bLt_le.1 hlt) (cmpB_ge (by omega))
  refine fn_intro Tryz.func66 rfl Tryz.ntmps66 rfl ?_
  repeat (first | (refine wkB ?_; try intro _) | (refine sC rfl rfl ?_ ?_; focus (first | exact ⟨h1.r1, h1.n1, h1.m1⟩ | exact ⟨h1.r2, h1.n2, h1.m2⟩)) | (refine sN rfl rfl ?_ ?_; (focus (first | exact ⟨h1.r1, h1.n1, h1.m1⟩ | exact ⟨h1.r2, h1.n2, h1.m2⟩)); intro _; (try simp only [List.cons_append, List.nil_append, List.append_nil])))
  (refine jD 6 6 (h := ?_); (repeat (first | refine wkH ?_ | (refine tC rfl rfl ?_ ?_; focus (first | exact trivial | exact ⟨⟨h1.r1, h1.n1, h1.m1⟩, ⟨h1.r2, h1.n2, h1.m2⟩⟩)))); refine jh_nil ?_; (repeat (refine wn_new ?_; intro _)); refine jn_nil ?_)
  simp only [decide_eq_false hn]
  repeat (refine wkB ?_; try intro _)
  exact jx_ret_tmp rfl rfl (fun w hw => ret_ok hw)⟩
abbrev ln4 (f : R_api_Line) : Nat → Rat
  | 0 => f.X0
  | 1 => f.X1
  | 2 => f.Y0
  | _ => f.Y1
abbrev e4Q (f : R_api_Line) : Array Value := e_api_Line (q_api_Line f)
instance bd_four (a b c d : Rat) : BdC Tryz.prog 390 [(0, vQ a), (1, vQ b), (2, vQ c), (3, vQ d)] (.agg (e4Q ⟨a, b, c, d⟩)) := ⟨fun w => by kernel_rfl⟩
theorem run_index4 (f : R_api_Line) (w : World) : ∀ m : Nat, m < 4 → (Instr.index 390 (.agg (e4Q f)) (.int .i64 (m : Int))).run Tryz.prog w = .ok (vQ (ln4 f m)) w
  | 0, _ => by kernel_rfl
  | 1, _ => by kernel_rfl
  | 2, _ => by kernel_rfl
  | 3, _ => by kernel_rfl
  | m + 4, h => by omega
theorem lcheck_spec (f : R_api_Line) (z : Array Value) (w : World) (h : LnOk LQ f) : Calls Tryz.prog 294 [.agg z, vLn f].toArray w (Ret (.int .i64 0) w) := by
  obtain ⟨h1, h2, h3, h4⟩ := h
  refine fn_intro Tryz.func294 rfl Tryz.ntmps294 rfl ?_
  repeat (refine wkB ?_; try intro _)
  rename_i b3 b2
  refine j_loop (S := Nat) (fun m => m ≤ 4) (fun m => [(16, .agg (e4Q f)), (17, .int .i64 (m : Nat))]) (fun _ => []) (fun m => 4 - m) 0 (by omega) sbB slB (fun m hm => ?_)
  repeat (refine wkB ?_; try intro _)
  refine j_cond rfl (fun h => ?_) (fun h => ?_)
  · have hlt : m < 4 := by have := of_decide_eq_true h; omega
    have hM : M (ln4 f m) ≤ LQ := by
      rcases (by omega : m = 0 ∨ m = 1 ∨ m = 2 ∨ m = 3) with rfl | rfl | rfl | rfl
      · exact h1
      · exact h2
      · exact h3
      · exact h4
    have : ∀ (L : List Blk) (E : Env) [IsC (evl E (.tmp 16)) (.agg (e4Q f))] [IsC (evl E (.tmp 17)) (.int .i64 (m : Int))], YlC Tryz.prog w 26 L E (.index 390 (.tmp 16) (.tmp 17)) (vQ (ln4 f m)) := fun L E _ _ => ⟨fun _ _ _ _ _ => yl_index isE isE fun w => run_index4 f w m hlt⟩
    repeat (first | (refine wkB ?_; try intro _) | (refine sC rfl rfl ?_ ?_; focus (exact hM)) | (refine sN rfl rfl ?_ ?_; (focus (exact hM)); intro _; (try simp only [List.cons_append, List.nil_append, List.append_nil])))
    exact jx_loop (m + 1) hlt sbB slB (by omega)
  · repeat (refine wkB ?_; try intro _)
    exact jx_ret_tmp rfl rfl (fun w hw => ret_ok hw)
instance sp_LCheck (f : R_api_Line) (z : Array Value) : SpecC Tryz.prog 294 [.agg z, vLn f] (.int .i64 0) (LnOk LQ f) := ⟨fun h w => lcheck_spec f z w h⟩
instance meth_Check : MethC Tryz.prog 96 (.agg #[]) "Check" 294 (.agg #[]) := ⟨fun w => by kernel_rfl⟩
instance ld_rules : LdC Tryz.prog 135 #[vLines] 0 vLines := ⟨ldv_one (by kernel_rfl) rfl⟩
instance al_boxL {E : Env} {T : TypeId} {x : Operand} {d : TypeId} {v : Value} [h : IsC (evl E x) (.iface d v)] : AlC Tryz.prog E (.box T x) #[.iface d v] T := ⟨fun hg hd h => jo_box isE hg hd h⟩
theorem eq1_spec (x y : UL) (b : Nat) (w : World) (hb : ∃ T fz, w.heap[b]? = some (.cells #[vLines] T fz)) : Calls Tryz.prog 108 [vUL x, vUL y, .pointer (some ⟨b, 0, none⟩)].toArray w (Ret (.bool (decide (x = y))) w) := by
  obtain ⟨T, hb⟩ := hb
  have := FoC.mk hb
  refine fn_intro Tryz.func108 rfl Tryz.ntmps108 rfl ?_
  repeat (refine wkB ?_; try intro _)
  by_cases h : x.In = y.In
  · simp only [decide_eq_true h]
    repeat (refine wkB ?_; try intro _)
    have e : decide (x.F = y.F) = decide (x = y) := by
      rw [decide_eq_decide]
      obtain ⟨I, F⟩ := x
      obtain ⟨I', F'⟩ := y
      simp only at h
      subst h
      simp
    rw [e]
    exact jx_ret_tmp rfl rfl (fun w hw => ret_ok hw)
  · simp only [decide_eq_false h]
    repeat (refine wkB ?_; try intro _)
    rw [decide_eq_false (show ¬ x = y from fun e => h (by rw [e]))]
    exact jx_ret_tmp rfl rfl (fun w hw => ret_ok hw)
instance sm_eq1 (w0 : World) (L : List Blk) (x y : UL) (b : Nat) (T : TypeId) [h : AtC w0 L b #[vLines] T] : SpecM Tryz.prog w0 L 108 [vUL x, vUL y, .pointer (some ⟨b, 0, none⟩)] (.bool (decide (x = y))) True := ⟨fun _ w hw => eq1_spec x y b w ⟨T, h.out w hw⟩⟩
theorem eqf_spec (v1 v2 : Value) (us : List UL) (b : Nat) (w : World) (h1 : ArgS w v1 rU us) (h2 : ArgS w v2 rU us) (hb : ∃ T fz, w.heap[b]? = some (.cells #[vLines] T fz)) (hl : us.length ≤ 1048576) :
    Calls Tryz.prog 107 [v1, v2, .func (.func 108) #[] [.pointer (some ⟨b, 0, none⟩)].toArray].toArray w (Ret (.bool true) w) := by
  obtain ⟨T, hb⟩ := hb
  have := FoC.mk hb
  refine fn_intro Tryz.func107 rfl Tryz.ntmps107 rfl ?_
  obtain ⟨p1, c1, rfl⟩ := h1.form
  obtain ⟨p2, c2, rfl⟩ := h2.form
  repeat (refine wkB ?_; try intro _)
  simp only [decide_eq_true (rfl : (us.length : Int) = (us.length : Int)), Bool.not_true]
  repeat (refine wkB ?_; try intro _)
  refine j_loop (S := Nat) (fun m => m ≤ us.length) (fun m => [(1, .slice p2 us.length c2), (2, .func (.func 108) #[] [.pointer (some ⟨b, 0, none⟩)].toArray), (15, .slice p1 us.length c1), (16, .int .i64 us.length), (17, .int .i64 (m : Nat))]) (fun _ => []) (fun m => us.length - m) 0 (Nat.zero_le _) sbB slB (fun m hm => ?_)
  repeat (refine wkB ?_; try intro _)
  refine j_cond rfl (fun h => ?_) (fun h => ?_)
  · have hlt : m < us.length := by have := of_decide_eq_true h; omega
    have hne : us ≠ [] := fun h0 => by rw [h0] at hlt; simp at hlt
    obtain ⟨b1, o1, c1', hv1, hc1, hr1⟩ := h1.blk (k := 35) hne []
    injection hv1 with e1 e2 e3
    subst e1
    subst e3
    obtain ⟨b2, o2, c2', hv2, hc2, hr2⟩ := h2.blk (k := 35) hne []
    injection hv2 with e1 e2 e3
    subst e1
    subst e3
    have hr1' : ∀ L, RowC w L b1 o1 UL rU us := fun L => ⟨fun w' hw' => hr1.out w' (hw'.sub (List.nil_sublist _))⟩
    have hr2' : ∀ L, RowC w L b2 o2 UL rU us := fun L => ⟨fun w' hw' => hr2.out w' (hw'.sub (List.nil_sublist _))⟩
    repeat (refine wkB ?_; try intro _)
    simp only [decide_eq_true (rfl : gi us (m : Int) = gi us (m : Int)), Bool.not_true]
    repeat (refine wkB ?_; try intro _)
    exact jx_loop (m + 1) hlt sbB slB (by omega)
  · repeat (refine wkB ?_; try intro _)
    exact jx_ret_tmp rfl rfl (fun w hw => ret_ok hw)
instance sm_eqf (w0 : World) (L : List Blk) (v1 v2 : Value) (us : List UL) (b : Nat) (T : TypeId) [h1 : LstC w0 L v1 UL rU us] [h2 : LstC w0 L v2 UL rU us] [h : AtC w0 L b #[vLines] T] : SpecM Tryz.prog w0 L 107 [v1, v2, .func (.func 108) #[] [.pointer (some ⟨b, 0, none⟩)].toArray] (.bool true) (us.length ≤ 1048576) := ⟨fun hp w hw => eqf_spec v1 v2 us b w (h1.out w hw) (h2.out w hw) ⟨T, h.out w hw⟩ hp⟩
theorem peq_spec (v1 v2 : Value) (us : List UL) (w : World) (h1 : ArgS w v1 rU us) (h2 : ArgS w v2 rU us) (hl : us.length ≤ 1048576) :
    Calls Tryz.prog 69 [vLines, v1, v2].toArray w (Ret (.bool true) w) := by
  have := ArgC.mk h1
  have := ArgC.mk h2
  refine fn_intro Tryz.func69 rfl Tryz.ntmps69 rfl ?_
  repeat (first | (refine wkB ?_; try intro _) | (refine sC rfl rfl ?_ ?_; focus (exact hl)) | (refine sN rfl rfl ?_ ?_; (focus (exact hl)); intro _; (try simp only [List.cons_append, List.nil_append, List.append_nil])))
  exact jx_ret_tmp rfl rfl (fun w hw => ret_ok hw)
instance sm_peq (w0 : World) (L : List Blk) (v1 v2 : Value) (us : List UL) [h1 : LstC w0 L v1 UL rU us] [h2 : LstC w0 L v2 UL rU us] : SpecM Tryz.prog w0 L 69 [vLines, v1, v2] (.bool true) (us.length ≤ 1048576) := ⟨fun hp w hw => peq_spec v1 v2 us w (h1.out w hw) (h2.out w hw) hp⟩
/-- A moving point in normal form is its own normal form. -/
theorem nrm_same {us : List UL} (h : NF (us.map absU)) (hk : ∀ u ∈ us, UIn u) : nrmR us = us ∧ nrmE us = 0 ∧ ∀ i, i + 1 < us.length → aprt (gi us (i : Int)).In (gi us ((i + 1 : Nat) : Int)).In = true := by
  have hd : (us.map absU).Pairwise Dis := h.pw.imp fun h => h.bf.Dis
  have hv : UVal us := ⟨hk, fun u hu => h.ok _ (List.mem_map.2 ⟨u, hu, rfl⟩)⟩
  obtain ⟨h1, h2⟩ := nrm_nf hv hd
  refine ⟨absL_inj (fun u hu => (nrmR_ok hk u hu).i) (fun u hu => (hk u hu).i) (NF.uniq h1 h h2), (nrmE_0 hv).2 hd, fun i hi => ?_⟩
  exact aprt_iff.2 (nf_le h (i := i) (j := i + 1) (by omega) hi)
theorem pcheck_spec (v : Value) (us : List UL) (w : World) (hv : ArgS w v rU us) (hnil : us = [] → v = .slice none 0 0) (h : NF (us.map absU)) (hk : ∀ u ∈ us, UIn u) (hl : us.length ≤ 19) :
    Calls Tryz.prog 36 [vLines, v].toArray w (Ret (.int .i64 0) w) := by
  obtain ⟨n1, n2, n3⟩ := nrm_same h hk
  have := ArgC.mk hv
  obtain ⟨p, cp, rfl⟩ := hv.form
  have : ∀ L, LstN w L (.slice p us.length cp) UL rU us := fun L => ⟨fun w' hw' => hv.to hw'.ext, hnil⟩
  refine fn_intro Tryz.func36 rfl Tryz.ntmps36 rfl ?_
  repeat (refine wkB ?_; try intro _)
  simp only [decide_eq_false (show ¬ (256 : Int) < us.length by omega)]
  repeat (refine wkB ?_; try intro _)
  refine j_loop (S := Nat) (fun m => m ≤ us.length) (fun m => [(0, vLines), (1, .slice p us.length cp), (14, .slice p us.length cp), (15, .int .i64 us.length), (16, .int .i64 (m : Nat))]) (fun _ => []) (fun m => us.length - m) 0 (Nat.zero_le _) sbB slB (fun m hm => ?_)
  repeat (refine wkB ?_; try intro _)
  refine j_cond rfl (fun hc => ?_) (fun hc => ?_)
  · have hlt : m < us.length := by have := of_decide_eq_true hc; omega
    have hne : us ≠ [] := fun h0 => by rw [h0] at hlt; simp at hlt
    obtain ⟨b1, o1, c1', hv1, hc1, hr1⟩ := hv.blk (k := 35) hne []
    injection hv1 with e1 e2 e3
    subst e1
    subst e3
    have hr1' : ∀ L, RowC w L b1 o1 UL rU us := fun L => ⟨fun w' hw' => hr1.out w' (hw'.sub (List.nil_sublist _))⟩
    have hu := hk _ (gi_mem (i := (m : Int)) (xs := us) (by omega))
    have ho := h.ok _ (List.mem_map.2 ⟨_, gi_mem (i := (m : Int)) (xs := us) (by omega), rfl⟩)
    have p1 : IvOk LQ (gi us (m : Int)).In ∧ okI (gi us (m : Int)).In := ⟨hu.i.mono (by decide), ho⟩
    have p2 : LnOk LQ (gi us (m : Int)).F := hu.f.mono (by decide)
    repeat (first | (refine wkB ?_; try intro _) | (refine sC rfl rfl ?_ ?_; focus (first | exact p1 | exact p2)) | (refine sN rfl rfl ?_ ?_; (focus (first | exact p1 | exact p2)); intro _; (try simp only [List.cons_append, List.nil_append, List.append_nil])))
    rename_i b6
    rcases Nat.eq_zero_or_pos m with h0 | h0
    · subst h0
      refine jD 14 14 (h := ?_)
      (repeat (refine wkH ?_))
      simp only [decide_eq_false (show ¬ (0 : Int) < ((0 : Nat) : Int) by decide)]
      (repeat (refine wkH ?_))
      refine jh_nil ?_
      refine jn_nil ?_
      repeat (refine wkB ?_; try intro _)
      exact jx_loop 1 hlt sbB slB (by omega)
    · have hu0 := hk _ (gi_mem (i := (m : Int) - 1) (xs := us) (by omega))
      have ha : aprt (gi us ((m : Int) - 1)).In (gi us (m : Int)).In = true := by
        have := n3 (m - 1) (by omega)
        rw [show ((m - 1 : Nat) : Int) = (m : Int) - 1 by omega, show ((m - 1 + 1 : Nat) : Int) = (m : Int) by omega] at this
        exact this
      refine jD 14 14 (h := ?_)
      (repeat (refine wkH ?_))
      simp only [decide_eq_true (show (0 : Int) < (m : Int) by omega)]
      (repeat (first | refine wkH ?_ | (refine tC rfl rfl ?_ ?_; focus (exact ⟨⟨hu0.i.r2, hu.i.r1⟩, Nat.le_trans hu0.i.m2 (by decide), Nat.le_trans hu.i.m1 (by decide)⟩))))
      simp only [ha, Bool.not_true]
      (repeat (refine wkH ?_))
      refine jh_nil ?_
      refine jn_nil ?_
      repeat (refine wkB ?_; try intro _)
      exact jx_loop (m + 1) hlt sbB slB (by omega)
  · repeat (first | (refine wkB ?_; try intro _) | (refine sC rfl rfl ?_ ?_; focus (first | exact ⟨hl, hk⟩)) | (refine sN rfl rfl ?_ ?_; (focus (first | exact ⟨hl, hk⟩)); intro _; (try simp only [List.cons_append, List.nil_append, List.append_nil])))
    rename_i s
    obtain ⟨s', e1, e2⟩ := SlS.turn 136 n1 s
    simp only [← e1, ← e2, n2, decide_eq_true (rfl : (0 : Int) = 0), Bool.not_true]
    repeat (first | (refine wkB ?_; try intro _) | (refine sC rfl rfl ?_ ?_; focus (exact (show us.length ≤ 1048576 by omega))) | (refine sN rfl rfl ?_ ?_; (focus (exact (show us.length ≤ 1048576 by omega))); intro _; (try simp only [List.cons_append, List.nil_append, List.append_nil])))
    exact jx_ret_tmp rfl rfl (fun w hw => ret_ok hw)
instance sm_pcheck (w0 : World) (L : List Blk) (v : Value) (us : List UL) [h : LstN w0 L v UL rU us] : SpecM Tryz.prog w0 L 36 [vLines, v] (.int .i64 0) (NF (us.map absU) ∧ (∀ u ∈ us, UIn u) ∧ us.length ≤ 19) := ⟨fun hp w hw => pcheck_spec v us w (h.out w hw) h.nil hp.1 hp.2.1 hp.2.2⟩
/-- A moving point in normal form, short enough. -/
structure PFine (us : List PU) : Prop where
  nf : NF (us.map absP)
  k : ∀ u ∈ us, UIn (toU u)
  l : us.length ≤ 19
theorem mcheck_spec (v : Value) (us : List PU) (w : World) (hv : ArgS w v rP us) (h : PFine us) : Calls Tryz.prog 16 [v].toArray w (Ret (.int .i64 0) w) := by
  have hl := h.l
  have hml := mpN_map toU us
  have p1 : NF ((mpN toU us us.length).map absU) ∧ (∀ u ∈ mpN toU us us.length, UIn u) ∧ (mpN toU us us.length).length ≤ 19 := by
    rw [hml, map_toU, List.length_map]
    refine ⟨h.nf, fun u hu => ?_, hl⟩
    obtain ⟨x, hx, rfl⟩ := List.mem_map.1 hu
    exact h.k x hx
  have := ArgC.mk hv
  refine fn_intro Tryz.func16 rfl Tryz.ntmps16 rfl ?_
  repeat (first | (refine wkB ?_; try intro _) | (refine sC rfl rfl ?_ ?_; focus (first | exact trivial | exact (show us.length ≤ 1048576 by omega) | exact p1)) | (refine sN rfl rfl ?_ ?_; (focus (first | exact trivial | exact (show us.length ≤ 1048576 by omega) | exact p1)); intro _; (try simp only [List.cons_append, List.nil_append, List.append_nil])))
  exact jx_ret_tmp rfl rfl (fun w hw => ret_ok hw)
instance sm_mcheck (w0 : World) (L : List Blk) (v : Value) (us : List PU) [h : LstC w0 L v PU rP us] : SpecM Tryz.prog w0 L 16 [v] (.int .i64 0) (PFine us) := ⟨fun hp w hw => mcheck_spec v us w (h.out w hw) hp⟩
end Go.Vt
/- The trajectory through reports is a moving point in normal form. Conditions: those that each statement names. -/
set_option linter.unusedSimpArgs false
set_option linter.unusedVariables false
set_option maxHeartbeats 2000000
set_option maxRecDepth 100000
namespace Go.Vt
open Go.RowKit Go.Proofs
theorem frS_in {pts : List SS} (hB : Bnd pts) : ∀ u ∈ frS pts, UIn (toU u) := fun u hu => by
  by_cases h1 : pts.length = 1
  · have e : frS pts = [one1 (gi pts 0)] := by unfold frS; rw [if_pos h1]
    rw [e, List.mem_singleton] at hu
    subst hu
    exact (one_K hB).uin K_one.2.2.1
  · have e : frS pts = mNorm (sgs pts (pts.length - 1)) := by unfold frS; rw [if_neg h1]
    have e3 : (frS pts).map toU = nrmR (sgW pts (pts.length - 1)) := by
      rw [e, ← mpN_all toU, mNorm_U]
      rfl
    refine (nrmR_K (K := K0) (us := sgW pts (pts.length - 1)) (fun v hv => ?_) (toU u) (by rw [← e3]; exact List.mem_map.2 ⟨u, hu, rfl⟩)).uin K_one.2.1
    obtain ⟨i, -, rfl⟩ := sgW_mem hv
    exact sgU_K hB i
theorem thr_in {l : List SS} {g : Rat} (hB : Bnd l) (hi : Inc l) : ∀ i, i ≤ l.length → ∀ u ∈ (thrN l g i).1, UIn (toU u)
  | 0, _, u, hu => by cases hu
  | i + 1, h, u, hu => by
    have ih := thr_in (g := g) hB hi i (by omega)
    have hk := thr_ok (g := g) hB hi i (by omega)
    simp only [thrN] at hu
    split at hu
    · exact ih u hu
    · rcases List.mem_append.1 hu with h1 | h1
      · exact ih u h1
      · have hr := hk.r
        have e : (thrN l g i).2 ++ [gi l (i : Int)] = (l.drop (i - (thrN l g i).2.length)).take ((thrN l g i).2.length + 1) := by
          have e1 := hk.run
          rw [List.take_succ_eq_append_getElem (by rw [List.length_drop]; omega), ← e1, List.getElem_drop, gi_nat (by omega)]
          congr 2
          simp only [show i - (thrN l g i).2.length + (thrN l g i).2.length = i by omega]
        rw [e] at h1
        exact frS_in (part_of hB hi (by omega)).1 u h1
theorem thr_fine {l : List SS} {g : Rat} (hB : Bnd l) (hi : Inc l) (hn : l.length ≤ 19) : PFine (thrN l g l.length).1 := by
  have hk := thr_ok (g := g) hB hi l.length (Nat.le_refl _)
  have h1 := hk.n
  refine ⟨?_, thr_in hB hi _ (Nat.le_refl _), by omega⟩
  rw [← map_toU]
  exact hk.nf
theorem mNorm_same {us : List PU} (h : PFine us) : mNorm us = us ∧ nrmE (us.map toU) = 0 := by
  have h1 := nrm_same (us := us.map toU) (by rw [map_toU]; exact h.nf) (fun u hu => by
    obtain ⟨x, hx, rfl⟩ := List.mem_map.1 hu
    exact h.k x hx)
  refine ⟨?_, h1.2.1⟩
  unfold mNorm
  rw [mpN_map toU, h1.1, mpN_map ofU, List.map_map]
  exact List.map_id'' (fun _ => rfl) us
end Go.Vt
/- The law's trajectory through reports, walked. Conditions: those that each statement names. -/
set_option linter.unusedSimpArgs false
set_option linter.unusedVariables false
set_option maxHeartbeats 2000000
set_option maxRecDepth 100000
namespace Go.Vt
open Go.RowKit Go.Proofs
set_option maxHeartbeats 8000000 in
theorem thrR_spec (v : Value) (l : List R_intake_Timed) (s : api_Settings) (w : World) (hv : ArgS w v r_intake_Timed l) (hl : l.length ≤ 19) (hok : ∀ x ∈ l, TkOk x) (hinc : Inc (spL l)) (hs : -2147483648 ≤ s.MaxGap ∧ s.MaxGap ≤ 2147483648) :
    Calls Tryz.prog 18 [v, .agg (e_api_Settings s)].toArray w (RetM (SlS rP 36 (thrT l s.MaxGap l.length).1) (fun o => vSl o) (fun o => mS 87 o) w) := by
  obtain ⟨p, cp, rfl⟩ := hv.form
  have hfine := thr_fine (g := (s.MaxGap : Rat)) (spL_bnd hok) hinc (by rw [spL_len]; exact hl)
  rw [spL_len] at hfine
  have hsame := mNorm_same hfine
  generalize hn : l.length = n at *
  have hgo : ∀ i : Nat, i < n → TkOk (gi l (i : Int)) := fun i hi => hok _ (gi_mem (by omega))
  have hO := fun i (hi : i ≤ n) => thr_ok (g := (s.MaxGap : Rat)) (spL_bnd hok) hinc i (by rw [spL_len]; omega)
  refine fn_intro Tryz.func18 rfl Tryz.ntmps18 rfl ?_
  repeat (first | (refine wkB ?_; try intro _) | (refine sC rfl rfl ?_ ?_; focus (first | exact trivial | assumption | constructor <;> assumption | exact mb2 rfl rfl | exact mb4 rfl rfl rfl rfl)) | (refine sN rfl rfl ?_ ?_; (focus (first | exact trivial | assumption | constructor <;> assumption | exact mb2 rfl rfl | exact mb4 rfl rfl rfl rfl)); intro _; (try simp only [List.cons_append, List.nil_append, List.append_nil])) | refine sMu rfl ?_ | (refine sMm rfl rfl ?_; intro _) | (refine sRg rfl rfl ?_; intro _))
  rename_i b3
  refine j_loop (S := (i : Nat) × (th : List PU × List SS) × SlS rP 36 th.1 × SlS rS 12 th.2) (fun q => q.1 ≤ n ∧ q.2.1 = thrT l s.MaxGap q.1) (fun q => [(0, .slice p n cp), (3, .pointer (some ⟨b3, 0, none⟩)), (5, vSl q.2.2.1), (6, vSl q.2.2.2), (7, .int .i64 (q.1 : Nat))]) (fun q => mS 91 q.2.2.2 ++ (mS 87 q.2.2.1 ++ [⟨b3, e_api_Settings s, 26⟩])) (fun q => n - q.1) ⟨0, ([], []), SlS.no, SlS.no⟩ ⟨Nat.zero_le _, rfl⟩ sbB suB (fun q hq => ?_)
  obtain ⟨i, ⟨out, run⟩, o, r⟩ := q
  obtain ⟨hq, hth⟩ := hq
  simp only at hq hth o r ⊢
  have hi := hO i hq
  have hnx : thrT l s.MaxGap (i + 1) = if thrC (spL l) (s.MaxGap : Rat) i then ((thrT l s.MaxGap i).1, (thrT l s.MaxGap i).2 ++ [gi (spL l) (i : Int)]) else ((thrT l s.MaxGap i).1 ++ frS ((thrT l s.MaxGap i).2 ++ [gi (spL l) (i : Int)]), []) := rfl
  rw [show thrN (spL l) (s.MaxGap : Rat) i = (out, run) from hth.symm] at hi
  rw [← hth] at hnx
  have hrn : run.length ≤ i := hi.r
  have hon : out.length + run.length ≤ i := hi.n
  repeat (first | (refine wkB ?_; try intro _) | (refine sC rfl rfl ?_ ?_; focus (first | exact trivial | assumption | constructor <;> assumption | exact mb2 rfl rfl | exact mb4 rfl rfl rfl rfl)) | (refine sN rfl rfl ?_ ?_; (focus (first | exact trivial | assumption | constructor <;> assumption | exact mb2 rfl rfl | exact mb4 rfl rfl rfl rfl)); intro _; (try simp only [List.cons_append, List.nil_append, List.append_nil])) | refine sMu rfl ?_ | (refine sMm rfl rfl ?_; intro _) | (refine sRg rfl rfl ?_; intro _))
  refine j_cond rfl (fun h => ?_) (fun h => ?_)
  · have hlt : i < n := by have := of_decide_eq_true h; omega
    have hrun : run ++ [gi (spL l) (i : Int)] = ((spL l).drop (i - run.length)).take (run.length + 1) := by
      have e : run = ((spL l).drop (i - run.length)).take run.length := hi.run
      rw [List.take_succ_eq_append_getElem (by rw [List.length_drop, spL_len]; omega), ← e]
      rw [List.getElem_drop, gi_nat (by rw [spL_len]; omega)]
      congr 2
      simp only [show i - run.length + run.length = i by omega]
    obtain ⟨p1, p2, -⟩ := part_of (a := i - run.length) (r := run.length + 1) (spL_bnd hok) hinc (by rw [spL_len]; omega)
    rw [← hrun] at p1 p2
    have hCC := thrC_eq (g := s.MaxGap) (i := i) (l := l) (by omega)
    have hsm : gi (spL l) (i : Int) = smT (gi l (i : Int)) := gi_mapT (f := smT) (by omega)
    rw [hsm] at hnx p1 p2
    have hlen : (run ++ [smT (gi l (i : Int))]).length = run.length + 1 := by simp
    have hfew := frS_few p1 p2 (by omega)
    have hne : l ≠ [] := fun h0 => by rw [h0] at hn; simp at hn; omega
    obtain ⟨bw, ow, cw, hvw, hcw, hrow⟩ := hv.blk (k := 11) hne []
    injection hvw with e1 e2 e3
    subst e1
    subst e3
    have hrow' : ∀ L, RowC w L bw ow R_intake_Timed r_intake_Timed l := fun L => ⟨fun w' hw' => hrow.out w' (hw'.sub (List.nil_sublist _))⟩
    have k1 := hgo i hlt
    have hx : -9223372036854775808 ≤ (gi l (i : Int)).Report.X ∧ (gi l (i : Int)).Report.X ≤ 9223372036854775807 := by have := k1.x; omega
    have hy : -9223372036854775808 ≤ (gi l (i : Int)).Report.Y ∧ (gi l (i : Int)).Report.Y ≤ 9223372036854775807 := by have := k1.y; omega
    repeat (first | (refine wkB ?_; try intro _) | (refine sC rfl rfl ?_ ?_; focus (first | exact trivial | assumption | constructor <;> assumption | exact mb2 rfl rfl | exact mb4 rfl rfl rfl rfl)) | (refine sN rfl rfl ?_ ?_; (focus (first | exact trivial | assumption | constructor <;> assumption | exact mb2 rfl rfl | exact mb4 rfl rfl rfl rfl)); intro _; (try simp only [List.cons_append, List.nil_append, List.append_nil])) | refine sMu rfl ?_ | (refine sMm rfl rfl ?_; intro _) | (refine sRg rfl rfl ?_; intro _))
    rename_i b8
    (refine j_tree (.v [0, 1, 2, 3, 4, 5, 6, 7, 8, 9, 10, 11, 12, 13] (.e1 14 (.e1 15 (.e1 16 (.fin))))) ([⟨b8, e_api_Report (q_intake_Timed (gi l (i : Int))).Report, 34⟩]) (h := ?_); refine wkX ?_)
    (repeat (first | refine wkH ?_ | (refine tC rfl rfl ?_ ?_; focus (first | exact hx | exact hy))))
    repeat (refine wkT ?_; try intro _)
    refine eU rfl rfl ?_ ?_ ?_ ?_
    · rfl
    · rfl
    · exact ⟨by decide, by omega, by omega⟩
    intro r'
    repeat (refine wkT ?_; try intro _)
    have hr' : ∃ r2 : SlS rS 12 (run ++ [smT (gi l (i : Int))]), vSl r2 = vSl r' ∧ ∀ T, mS T r2 = mS T r' := r'.like rfl
    obtain ⟨r2, hr2, hm2⟩ := hr'
    rw [← hr2]
    simp only [← hm2]
    clear hr2 hm2
    repeat (first | (refine wkB ?_; try intro _) | (refine sC rfl rfl ?_ ?_; focus (first | exact trivial | assumption | constructor <;> assumption | exact mb2 rfl rfl | exact mb4 rfl rfl rfl rfl)) | (refine sN rfl rfl ?_ ?_; (focus (first | exact trivial | assumption | constructor <;> assumption | exact mb2 rfl rfl | exact mb4 rfl rfl rfl rfl)); intro _; (try simp only [List.cons_append, List.nil_append, List.append_nil])) | refine sMu rfl ?_ | (refine sMm rfl rfl ?_; intro _) | (refine sRg rfl rfl ?_; intro _))
    refine j_cut (S := Bool) (fun q => q = !thrC (spL l) (s.MaxGap : Rat) i) (fun q => [(0, .slice (some ⟨bw, ow, none⟩) n cp), (3, .pointer (some ⟨b3, 0, none⟩)), (5, vSl o), (6, vSl r2), (7, .int .i64 (i : Nat)), (61, .bool q)]) (fun _ => mS 91 r2 ++ (mS 87 o ++ [⟨b3, e_api_Settings s, 26⟩])) ?_ (fun q hq2 => ?_)
    · by_cases c1 : i + 1 < n
      · rw [decide_eq_true (show i + 1 < l.length by omega), Bool.true_and] at hCC
        have k2 := hgo (i + 1) c1
        have g1 := MB.mk k1.t
        have g2 := MB.mk k2.t
        have h1 : M (gi l ((i + 1 : Nat) : Int)).T ≤ LQ ∧ M (gi l (i : Int)).T ≤ LQ := ⟨Nat.le_trans k2.t (by decide), Nat.le_trans k1.t (by decide)⟩
        have h2 : M ((gi l ((i + 1 : Nat) : Int)).T - (gi l (i : Int)).T) ≤ LQ ∧ M (s.MaxGap : Rat) ≤ LQ := ⟨MB.lt rfl, Nat.le_trans (M_int4 hs) (by decide)⟩
        have h3 : -9223372036854775808 ≤ s.MaxGap ∧ s.MaxGap ≤ 9223372036854775807 := by omega
        have hf : decide (0 < cq ((gi l ((i + 1 : Nat) : Int)).T - (gi l (i : Int)).T) (s.MaxGap : Rat)) = farT s.MaxGap (gi l (i : Int)) (gi l ((i + 1 : Nat) : Int)) := decide_eq_decide.2 cq_gt
        have hnn : (!thrC (spL l) (s.MaxGap : Rat) i) = farT s.MaxGap (gi l (i : Int)) (gi l ((i + 1 : Nat) : Int)) := by rw [hCC, Bool.not_not]
        refine jD 24 24 (h := ?_)
        (repeat (refine wkH ?_))
        simp only [decide_eq_false (show ¬ (i : Int) + 1 = (n : Int) by omega)]
        (repeat (first | refine wkH ?_ | (refine tC rfl rfl ?_ ?_; focus (first | exact h1 | exact h2 | exact h3))))
        refine jh_nil ?_
        refine jn_nil ?_
        repeat (first | (refine wkB ?_; try intro _) | (refine sC rfl rfl ?_ ?_; focus (first | exact trivial | assumption | constructor <;> assumption | exact mb2 rfl rfl | exact mb4 rfl rfl rfl rfl)) | (refine sN rfl rfl ?_ ?_; (focus (first | exact trivial | assumption | constructor <;> assumption | exact mb2 rfl rfl | exact mb4 rfl rfl rfl rfl)); intro _; (try simp only [List.cons_append, List.nil_append, List.append_nil])) | refine sMu rfl ?_ | (refine sMm rfl rfl ?_; intro _) | (refine sRg rfl rfl ?_; intro _))
        exact jx_mid _ (hf.trans hnn.symm) sbB suB
      · rw [decide_eq_false (show ¬ i + 1 < l.length by omega), Bool.false_and] at hCC
        have hnn : (!thrC (spL l) (s.MaxGap : Rat) i) = true := by rw [hCC]; rfl
        refine jD 24 24 (h := ?_)
        (repeat (refine wkH ?_))
        simp only [decide_eq_true (show (i : Int) + 1 = (n : Int) by omega)]
        (repeat (refine wkH ?_))
        refine jh_nil ?_
        refine jn_nil ?_
        repeat (first | (refine wkB ?_; try intro _) | (refine sC rfl rfl ?_ ?_; focus (first | exact trivial | assumption | constructor <;> assumption | exact mb2 rfl rfl | exact mb4 rfl rfl rfl rfl)) | (refine sN rfl rfl ?_ ?_; (focus (first | exact trivial | assumption | constructor <;> assumption | exact mb2 rfl rfl | exact mb4 rfl rfl rfl rfl)); intro _; (try simp only [List.cons_append, List.nil_append, List.append_nil])) | refine sMu rfl ?_ | (refine sMm rfl rfl ?_; intro _) | (refine sRg rfl rfl ?_; intro _))
        exact jx_mid true hnn.symm sbB suB
    · subst hq2
      generalize smT (gi l (i : Int)) = x at *
      cases hc : thrC (spL l) (s.MaxGap : Rat) i
      · rw [hc, if_neg (by decide)] at hnx
        simp only [Bool.not_false]
        rcases r2.cases 91 with ⟨x0, x1, x2⟩ | ⟨bo, co, sp, hc1, x1, x2, xne⟩
        · exact absurd (congrArg List.length x0) (by rw [hlen]; exact Nat.succ_ne_zero _)
        simp only [x1, x2, List.cons_append, List.nil_append]
        repeat (first | (refine wkB ?_; try intro _) | (refine sC rfl rfl ?_ ?_; focus (exact ⟨⟨rfl, by omega, by omega⟩, p1, p2⟩)) | (refine sN rfl rfl ?_ ?_; (focus (exact ⟨⟨rfl, by omega, by omega⟩, p1, p2⟩)); intro _; (try simp only [List.cons_append, List.nil_append, List.append_nil])) | refine sMu rfl ?_ | (refine sMm rfl rfl ?_; intro _) | (refine sRg rfl rfl ?_; intro _))
        rename_i fs
        refine sV rfl rfl ?_ ?_ ?_
        · rfl
        · exact ⟨by omega, by omega⟩
        intro o'
        repeat (first | (refine wkB ?_; try intro _) | (refine sC rfl rfl ?_ ?_; focus (exact ⟨by omega, by omega⟩)) | (refine sN rfl rfl ?_ ?_; (focus (exact ⟨by omega, by omega⟩)); intro _; (try simp only [List.cons_append, List.nil_append, List.append_nil])) | refine sMu rfl ?_ | (refine sMm rfl rfl ?_; intro _) | (refine sRg rfl rfl ?_; intro _))
        exact jx_loop ⟨i + 1, (out ++ frS (run ++ [x]), []), o', SlS.no⟩ ⟨hlt, hnx.symm⟩ sbB suB (by show n - (i + 1) < n - i; omega)
      · rw [hc, if_pos rfl] at hnx
        simp only [Bool.not_true]
        repeat (first | (refine wkB ?_; try intro _) | (refine sC rfl rfl ?_ ?_; focus (exact ⟨by omega, by omega⟩)) | (refine sN rfl rfl ?_ ?_; (focus (exact ⟨by omega, by omega⟩)); intro _; (try simp only [List.cons_append, List.nil_append, List.append_nil])) | refine sMu rfl ?_ | (refine sMm rfl rfl ?_; intro _) | (refine sRg rfl rfl ?_; intro _))
        exact jx_loop ⟨i + 1, (out, run ++ [x]), o, r2⟩ ⟨hlt, hnx.symm⟩ sbB suB (by show n - (i + 1) < n - i; omega)
  · have hge : i = n := by have := of_decide_eq_false h; omega
    subst hge
    have hth' : thrN (spL l) (s.MaxGap : Rat) i = (out, run) := hth.symm
    rw [hth'] at hfine hsame
    rw [← hth]
    simp only at hfine hsame
    have hk : out.length ≤ 19 ∧ ∀ u ∈ mpN toU out out.length, UIn u := ⟨hfine.l, fun u hu => by
      rw [mpN_map toU] at hu
      obtain ⟨x, hx, rfl⟩ := List.mem_map.1 hu
      exact hfine.k x hx⟩
    repeat (first | (refine wkB ?_; try intro _) | (refine sC rfl rfl ?_ ?_; focus (exact hk)) | (refine sN rfl rfl ?_ ?_; (focus (exact hk)); intro _; (try simp only [List.cons_append, List.nil_append, List.append_nil])) | refine sMu rfl ?_ | (refine sMm rfl rfl ?_; intro _) | (refine sRg rfl rfl ?_; intro _))
    rename_i s5
    obtain ⟨s6, e1, e2⟩ := SlS.turn 87 hsame.1 s5
    refine jx_ret_tmp rfl rfl (fun w hw => ⟨s6, ?_, ?_⟩)
    · show Ending.returned (vSl s5) = Ending.returned (vSl s6)
      rw [e1]
    · show Own _ (mS 87 s6) w
      rw [e2]
      exact hw.sub suB
instance sr_throughR (w0 : World) (L : List Blk) (v : Value) (l : List R_intake_Timed) (s : api_Settings) [h : LstC w0 L v R_intake_Timed r_intake_Timed l] : SpecR Tryz.prog w0 L 18 [v, .agg (e_api_Settings s)] (SlS rP 36 (thrT l s.MaxGap l.length).1) (fun o => vSl o) (fun o => mS 87 o) (l.length ≤ 19 ∧ (∀ x ∈ l, TkOk x) ∧ Inc (spL l) ∧ (-2147483648 ≤ s.MaxGap ∧ s.MaxGap ≤ 2147483648)) := ⟨fun hp w hw =>
  thrR_spec v l s w (h.out w hw) hp.1 hp.2.1 hp.2.2.1 hp.2.2.2⟩
end Go.Vt
/- ReconstructThrough, walked. Conditions: those that each statement names. -/
set_option linter.unusedSimpArgs false
set_option linter.unusedVariables false
set_option maxHeartbeats 2000000
set_option maxRecDepth 100000
namespace Go.Vt
open Go.RowKit Go.Proofs
theorem kpT_inc (v : Int) (l : List R_intake_Timed) : Inc (spL (kpT v l)) := fun i hi => by
  rw [spL_len, kpT_len] at hi
  have hok := chainL_ok (cCp v l) l.length hi
  have hg : ∀ j : Nat, j < (chainL (cCp v l) l.length).length → gi (spL (kpT v l)) (j : Int) = smT (gi l (((chainL (cCp v l) l.length).getD j 0 : Nat) : Int)) := fun j hj => by
    rw [show gi (spL (kpT v l)) (j : Int) = smT (gi (kpT v l) (j : Int)) from gi_mapT (f := smT) (by rw [kpT_len]; exact hj)]
    rw [gi_nat (by rw [kpT_len]; exact hj)]
    simp only [kpT, List.getElem_map, List.getD_eq_getElem?_getD, List.getElem?_eq_getElem hj, Option.getD_some]
  rw [hg i (by omega), hg (i + 1) hi]
  have h1 : cpt v (gi l (((chainL (cCp v l) l.length).getD i 0 : Nat) : Int)) (gi l (((chainL (cCp v l) l.length).getD (i + 1) 0 : Nat) : Int)) = true := hok
  unfold cpt at h1
  rw [Bool.and_eq_true] at h1
  have h2 := of_decide_eq_true h1.1
  show (gi l _).T < (gi l _).T
  grind
set_option maxHeartbeats 8000000 in
theorem lthr_spec (v : Value) (ss : List Spt) (a b : Int) (w : World) (hv : ArgS w v eSp ss) (hlen : ss.length ≤ 9223372036854775807) (hok : SpOk ss) (ha : 0 ≤ a ∧ a ≤ 255) (hb : 0 ≤ b ∧ b ≤ 255) :
    Calls Tryz.prog 6 [v, .int .u8 a, .int .u8 b].toArray w (Ret (.bool true) w) := by
  have hls := fun L => hv.lst L
  have hp1 : ss.length ≤ 9223372036854775807 ∧ SpOk ss := ⟨hlen, hok⟩
  have hp2 : (0 ≤ a ∧ a ≤ 255) ∧ (0 ≤ b ∧ b ≤ 255) := ⟨ha, hb⟩
  have hs : -1048576 ≤ (setT a b).MaxSpeed ∧ (setT a b).MaxSpeed ≤ 1048576 := by
    show -1048576 ≤ 1 + a % 24 ∧ 1 + a % 24 ≤ 1048576
    omega
  have hg : -2147483648 ≤ (setT a b).MaxGap ∧ (setT a b).MaxGap ≤ 2147483648 := by
    show -2147483648 ≤ 1 + b % 30 ∧ 1 + b % 30 ≤ 2147483648
    omega
  refine fn_intro Tryz.func6 rfl Tryz.ntmps6 rfl ?_
  repeat (first | (refine wkB ?_; try intro _) | (refine sC rfl rfl ?_ ?_; focus (first | exact hp1 | exact hp2)) | (refine sN rfl rfl ?_ ?_; (focus (first | exact hp1 | exact hp2)); intro _; (try simp only [List.cons_append, List.nil_append, List.append_nil])) | refine sMu rfl ?_ | (refine sMm rfl rfl ?_; intro _) | (refine sRg rfl rfl ?_; intro _))
  rename_i r b8
  have hT := rowT_ok ss
  have hTl := rowT_len ss
  generalize rowT ss = T at *
  generalize setT a b = s at *
  have hcp : T.length ≤ 4096 ∧ (∀ x ∈ T, TkOk x) ∧ (-1048576 ≤ s.MaxSpeed ∧ s.MaxSpeed ≤ 1048576) := ⟨by omega, hT, hs⟩
  repeat (first | (refine wkB ?_; try intro _) | (refine sC rfl rfl ?_ ?_; focus (exact hcp)) | (refine sN rfl rfl ?_ ?_; (focus (exact hcp)); intro _; (try simp only [List.cons_append, List.nil_append, List.append_nil])) | refine sMu rfl ?_ | (refine sMm rfl rfl ?_; intro _) | (refine sRg rfl rfl ?_; intro _))
  rename_i ch
  have hKi := kpT_inc s.MaxSpeed T
  have hKo : ∀ x ∈ kpT s.MaxSpeed T, TkOk x := fun x hx => hT x (kpT_mem hx)
  have hKl := kpT_len s.MaxSpeed T
  have hcn := chainL_few (cCp s.MaxSpeed T) T.length
  have hcl := fun k (h : k ∈ chainL (cCp s.MaxSpeed T) T.length) => chainL_rng h
  have hkp : kpT s.MaxSpeed T = (chainL (cCp s.MaxSpeed T) T.length).map fun k : Nat => gi T (k : Int) := rfl
  generalize chainL (cCp s.MaxSpeed T) T.length = C at *
  have hCl := cI_len C
  refine j_loop (S := (m : Nat) × SlS r_intake_Timed 12 ((C.take m).map fun k : Nat => gi T (k : Int))) (fun q => q.1 ≤ C.length) (fun q => [(7, vSl r), (8, .pointer (some ⟨b8, 0, none⟩)), (9, vSl ch), (10, vSl q.2), (11, .int .i64 (q.1 : Nat))]) (fun q => mS 36 q.2 ++ (mS 3 ch ++ ([⟨b8, e_api_Settings s, 26⟩] ++ mS 36 r))) (fun q => C.length - q.1) ⟨0, SlS.no⟩ (Nat.zero_le _) sbB suB (fun q hq => ?_)
  obtain ⟨m, q⟩ := q
  simp only [List.cons_append, List.nil_append] at hq ⊢
  have hml : ((C.take m).map fun k : Nat => gi T (k : Int)).length = m := by rw [List.length_map, List.length_take]; omega
  repeat (first | (refine wkB ?_; try intro _) | (refine sC rfl rfl ?_ ?_; focus (first | exact trivial | assumption | constructor <;> assumption | exact mb2 rfl rfl | exact mb4 rfl rfl rfl rfl)) | (refine sN rfl rfl ?_ ?_; (focus (first | exact trivial | assumption | constructor <;> assumption | exact mb2 rfl rfl | exact mb4 rfl rfl rfl rfl)); intro _; (try simp only [List.cons_append, List.nil_append, List.append_nil])) | refine sMu rfl ?_ | (refine sMm rfl rfl ?_; intro _) | (refine sRg rfl rfl ?_; intro _))
  refine j_cond rfl (fun h => ?_) (fun h => ?_)
  · have hlt : m < C.length := by have := of_decide_eq_true h; omega
    have hcm : gi (cI C) (m : Int) = ((C[m] : Nat) : Int) := by
      rw [gi_nat (by omega)]
      simp only [cI, List.getElem_map]
    have hCm := hcl C[m] (List.getElem_mem _)
    have hnx : ((C.take (m + 1)).map fun k : Nat => gi T (k : Int)) = ((C.take m).map fun k : Nat => gi T (k : Int)) ++ [gi T ((C[m] : Nat) : Int)] := by
      rw [List.take_succ_eq_append_getElem hlt, List.map_append]
      rfl
    generalize C[m] = k at *
    rcases r.cases 36 with ⟨x0, -, -⟩ | ⟨bs, cb, sp, hc1, x1, x2, xne⟩
    · rw [x0] at hCm
      cases hCm
    rcases ch.cases 3 with ⟨y0, -, -⟩ | ⟨bc, cc, sq, hc2, y1, y2, yne⟩
    · rw [y0, List.length_nil] at hCl
      omega
    simp only [x1, x2, y1, y2, List.cons_append, List.nil_append]
    repeat (first | (refine wkB ?_; try intro _) | (refine sC rfl rfl ?_ ?_; focus (first | exact trivial | assumption | constructor <;> assumption | exact mb2 rfl rfl | exact mb4 rfl rfl rfl rfl)) | (refine sN rfl rfl ?_ ?_; (focus (first | exact trivial | assumption | constructor <;> assumption | exact mb2 rfl rfl | exact mb4 rfl rfl rfl rfl)); intro _; (try simp only [List.cons_append, List.nil_append, List.append_nil])) | refine sMu rfl ?_ | (refine sMm rfl rfl ?_; intro _) | (refine sRg rfl rfl ?_; intro _))
    simp only [hcm]
    repeat (first | (refine wkB ?_; try intro _) | (refine sC rfl rfl ?_ ?_; focus (first | exact trivial | assumption | constructor <;> assumption | exact mb2 rfl rfl | exact mb4 rfl rfl rfl rfl)) | (refine sN rfl rfl ?_ ?_; (focus (first | exact trivial | assumption | constructor <;> assumption | exact mb2 rfl rfl | exact mb4 rfl rfl rfl rfl)); intro _; (try simp only [List.cons_append, List.nil_append, List.append_nil])) | refine sMu rfl ?_ | (refine sMm rfl rfl ?_; intro _) | (refine sRg rfl rfl ?_; intro _))
    refine sU rfl rfl ?_ ?_ ?_ ?_
    · rfl
    · rfl
    · exact ⟨by decide, by omega, by omega⟩
    intro s'
    repeat (first | (refine wkB ?_; try intro _) | (refine sC rfl rfl ?_ ?_; focus (exact ⟨by omega, by omega⟩)) | (refine sN rfl rfl ?_ ?_; (focus (exact ⟨by omega, by omega⟩)); intro _; (try simp only [List.cons_append, List.nil_append, List.append_nil])) | refine sMu rfl ?_ | (refine sMm rfl rfl ?_; intro _) | (refine sRg rfl rfl ?_; intro _))
    obtain ⟨s3, e1, e2⟩ := SlS.turn 36 hnx.symm s'
    exact jx_loop ⟨m + 1, s3⟩ hlt (by simp only [e1, x1, y1]; exact sbB) (by simp only [e2, x2, y2]; exact suB) (by show C.length - (m + 1) < C.length - m; omega)
  · have hge : m = C.length := by have := of_decide_eq_false h; omega
    subst hge
    obtain ⟨s3, e1, e2⟩ := SlS.turn 36 (show ((C.take C.length).map fun k : Nat => gi T (k : Int)) = kpT s.MaxSpeed T by rw [List.take_length, hkp]) q
    rw [← e1]
    simp only [← e2]
    have hfine := thr_fine (g := (s.MaxGap : Rat)) (spL_bnd hKo) hKi (by rw [spL_len]; omega)
    rw [spL_len] at hfine
    have hpt : (kpT s.MaxSpeed T).length ≤ 19 ∧ (∀ x ∈ kpT s.MaxSpeed T, TkOk x) ∧ Inc (spL (kpT s.MaxSpeed T)) ∧ (-2147483648 ≤ s.MaxGap ∧ s.MaxGap ≤ 2147483648) := ⟨by omega, hKo, hKi, hg⟩
    generalize kpT s.MaxSpeed T = K at *
    have hll : (thrT K s.MaxGap K.length).1.length ≤ 1048576 ∧ (thrT K s.MaxGap K.length).1.length ≤ 1048576 := ⟨Nat.le_trans hfine.l (by decide), Nat.le_trans hfine.l (by decide)⟩
    repeat (first | (refine wkB ?_; try intro _) | (refine sC rfl rfl ?_ ?_; focus (first | exact hpt | exact hfine | exact hll | exact trivial)) | (refine sN rfl rfl ?_ ?_; (focus (first | exact hpt | exact hfine | exact hll | exact trivial)); intro _; (try simp only [List.cons_append, List.nil_append, List.append_nil])) | refine sMu rfl ?_ | (refine sMm rfl rfl ?_; intro _) | (refine sRg rfl rfl ?_; intro _))
    try simp only [decide_eq_true (show (0 : Int) = 0 from rfl)]
    repeat (first | (refine wkB ?_; try intro _) | (refine sC rfl rfl ?_ ?_; focus (first | exact hpt | exact hfine | exact hll | exact trivial)) | (refine sN rfl rfl ?_ ?_; (focus (first | exact hpt | exact hfine | exact hll | exact trivial)); intro _; (try simp only [List.cons_append, List.nil_append, List.append_nil])) | refine sMu rfl ?_ | (refine sMm rfl rfl ?_; intro _) | (refine sRg rfl rfl ?_; intro _))
    try simp only [decide_eq_true (show (thrT K s.MaxGap K.length).1 = (thrT K s.MaxGap K.length).1 from rfl)]
    repeat (first | (refine wkB ?_; try intro _) | (refine sC rfl rfl ?_ ?_; focus (first | exact trivial | assumption | constructor <;> assumption | exact mb2 rfl rfl | exact mb4 rfl rfl rfl rfl)) | (refine sN rfl rfl ?_ ?_; (focus (first | exact trivial | assumption | constructor <;> assumption | exact mb2 rfl rfl | exact mb4 rfl rfl rfl rfl)); intro _; (try simp only [List.cons_append, List.nil_append, List.append_nil])) | refine sMu rfl ?_ | (refine sMm rfl rfl ?_; intro _) | (refine sRg rfl rfl ?_; intro _))
    exact jx_ret_tmp rfl rfl (fun w hw => ret_ok hw)
end Go.Vt
/- The card of ReconstructThrough. Conditions: none. -/
set_option linter.unusedSimpArgs false
set_option linter.unusedVariables false
set_option maxHeartbeats 2000000
