/- SimplifyNear holds for every input that the card takes. Conditions: none. (part 5 of 6.) Conditions: those that each statement names. -/
import Derived.RangeFuncNested
import Derived.OrdersIn
import Derived.RangeFuncBox
import Derived.Test.YtgcjapcminakdaaGreatDoorNr4
/- Sweeping, walked (under way). Conditions: those that each statement names. -/
set_option linter.unusedSimpArgs false
set_option linter.unusedVariables false
set_option maxHeartbeats 2000000
set_option maxRecDepth 100000
namespace Go.Vt
open Go.RowKit Go.Proofs
instance (priority := high) ys_slc {P : Program} {w0 : World} {n : Nat} {L : List Blk} {E : Env} {T T0 : TypeId} {x : Operand} {b : Nat} {i : Int} {a1 a2 : Sl} [IsC (evl E x) (.pointer (some ⟨b, 0 + i.toNat * 1, none⟩))] [h : AtC w0 L b (row eSlc [a1, a2] []) T0] [hv : LdC P T (eSlc (gi [a1, a2] i)) 0 (.slice (gi [a1, a2] i).a (gi [a1, a2] i).len (gi [a1, a2] i).cap)] : YsC P w0 n L E (.load T x) (.slice (gi [a1, a2] i).a (gi [a1, a2] i).len (gi [a1, a2] i).cap) (0 ≤ i ∧ i < 2) := ⟨fun hi => ys_row0.out (by show i.toNat < 2; omega)⟩
theorem bsr_Ev2 (x y : Ev) : ∀ w : World, (Instr.buildSlice 229 2 [(0, vEv x), (1, vEv y)].toArray).run Tryz.prog w = .ok (.slice (some ⟨w.heap.size, 0, none⟩) 2 2) (w.alloc (.cells (row eEv [x, y] []) 233)) := fun w => by kernel_rfl
instance bs_Ev2 (x y : Ev) : BsC Tryz.prog 229 2 [(0, vEv x), (1, vEv y)] (row eEv [x, y] []) 233 := ⟨bsr_Ev2 x y⟩
instance (priority := high) ys_e2I {P : Program} {w0 : World} {n : Nat} {L : List Blk} {E : Env} {T T0 : TypeId} {x : Operand} {b : Nat} {i a1 a2 : Int} [IsC (evl E x) (.pointer (some ⟨b, 0 + i.toNat * 1, none⟩))] [h : AtC w0 L b (row (eI .i64) [a1, a2] []) T0] [hv : LdC P T (eI .i64 (gi [a1, a2] i)) 0 (.int .i64 (gi [a1, a2] i))] : YsC P w0 n L E (.load T x) (.int .i64 (gi [a1, a2] i)) (0 ≤ i ∧ i < 2) := ⟨fun hi => ys_row0.out (by show i.toNat < 2; omega)⟩
instance ld_EvA0 (x : Ev) : LdC Tryz.prog 3 (eEv x) (10 + Int.toNat 0 * 1) (.int .i64 x.n0) := ⟨ldv_one (by kernel_rfl) (by kernel_rfl)⟩
instance ld_EvA1 (x : Ev) : LdC Tryz.prog 3 (eEv x) (10 + Int.toNat 1 * 1) (.int .i64 x.n1) := ⟨ldv_one (by kernel_rfl) (by kernel_rfl)⟩
def evK (is js : List R_api_Interval) (k : Nat) : List Ev := if k = 0 then [] else if k = 1 then evA is is.length else evA is is.length ++ evB js js.length
theorem evA_ok {is : List R_api_Interval} (h : ∀ i ∈ is, BdOk (bdF i) ∧ BdOk (bdL i)) : ∀ m, m ≤ is.length → ∀ u ∈ evA is m, BdOk u.b
  | 0, _, u, hu => by cases hu
  | m + 1, hm, u, hu => by
    rw [evA] at hu
    have hi := h _ (gi_mem (i := (m : Int)) (xs := is) (by omega))
    rcases List.mem_append.1 hu with k | k
    · exact evA_ok h m (by omega) u k
    · rcases List.mem_cons.1 k with k1 | k1
      · rw [k1]; exact hi.1
      · rw [List.mem_singleton.1 k1]; exact hi.2
theorem evB_ok {is : List R_api_Interval} (h : ∀ i ∈ is, BdOk (bdF i) ∧ BdOk (bdL i)) : ∀ m, m ≤ is.length → ∀ u ∈ evB is m, BdOk u.b
  | 0, _, u, hu => by cases hu
  | m + 1, hm, u, hu => by
    rw [evB] at hu
    have hi := h _ (gi_mem (i := (m : Int)) (xs := is) (by omega))
    rcases List.mem_append.1 hu with k | k
    · exact evB_ok h m (by omega) u k
    · rcases List.mem_cons.1 k with k1 | k1
      · rw [k1]; exact hi.1
      · rw [List.mem_singleton.1 k1]; exact hi.2
def Ev1 (x : Ev) : Prop := (-1 ≤ x.n0 ∧ x.n0 ≤ 1) ∧ (-1 ≤ x.n1 ∧ x.n1 ≤ 1)
theorem evA_1 (is : List R_api_Interval) : ∀ m, ∀ u ∈ evA is m, Ev1 u
  | 0, u, hu => by cases hu
  | m + 1, u, hu => by
    rw [evA] at hu
    rcases List.mem_append.1 hu with k | k
    · exact evA_1 is m u k
    · rcases List.mem_cons.1 k with k1 | k1
      · rw [k1]; unfold Ev1; simp
      · rw [List.mem_singleton.1 k1]; unfold Ev1; simp
theorem evB_1 (is : List R_api_Interval) : ∀ m, ∀ u ∈ evB is m, Ev1 u
  | 0, u, hu => by cases hu
  | m + 1, u, hu => by
    rw [evB] at hu
    rcases List.mem_append.1 hu with k | k
    · exact evB_1 is m u k
    · rcases List.mem_cons.1 k with k1 | k1
      · rw [k1]; unfold Ev1; simp
      · rw [List.mem_singleton.1 k1]; unfold Ev1; simp
theorem sws_bnd {kp : Bool → Bool → Bool} {l : List Ev} (h : ∀ x ∈ l, Ev1 x) : ∀ m : Nat, m ≤ l.length → (-(m : Int) ≤ (sws kp l m).n0 ∧ (sws kp l m).n0 ≤ m) ∧ (-(m : Int) ≤ (sws kp l m).n1 ∧ (sws kp l m).n1 ≤ m)
  | 0, _ => by simp [sws]
  | m + 1, hm => by
    obtain ⟨h1, h2⟩ := sws_bnd (kp := kp) h m (by omega)
    obtain ⟨h3, h4⟩ := h _ (gi_mem (i := (m : Int)) (xs := l) (by omega))
    rw [sws]
    simp only
    split
    · exact ⟨⟨by show _ ≤ (sws kp l m).n0 + (gi l (m : Int)).n0; omega, by show (sws kp l m).n0 + (gi l (m : Int)).n0 ≤ _; omega⟩, by show _ ≤ (sws kp l m).n1 + (gi l (m : Int)).n1; omega, by show (sws kp l m).n1 + (gi l (m : Int)).n1 ≤ _; omega⟩
    · exact ⟨⟨by show _ ≤ (sws kp l m).n0 + (gi l (m : Int)).n0; omega, by show (sws kp l m).n0 + (gi l (m : Int)).n0 ≤ _; omega⟩, by show _ ≤ (sws kp l m).n1 + (gi l (m : Int)).n1; omega, by show (sws kp l m).n1 + (gi l (m : Int)).n1 ≤ _; omega⟩
/-- What sweep returns. -/
def swpR (kp : Bool → Bool → Bool) (is js : List R_api_Interval) : List R_api_Interval := (sws kp (srtE (evK is js 2) ((evK is js 2).length - 1)) (srtE (evK is js 2) ((evK is js 2).length - 1)).length).out
theorem sws_out (kp : Bool → Bool → Bool) (l : List Ev) : ∀ m, (sws kp l m).out.length ≤ m
  | 0 => Nat.le_refl _
  | m + 1 => by
    have := sws_out kp l m
    rw [sws]
    simp only
    split
    · show (sws kp l m).out.length ≤ m + 1
      omega
    · simp only
      split
      · omega
      · split
        · rw [List.length_append]; simp; omega
        · omega
set_option maxHeartbeats 4000000 in
theorem sweep_spec (kf : FuncId) (kp : Bool → Bool → Bool) [CallC Tryz.prog kf] (hkp : ∀ a b, SpecC Tryz.prog kf [.bool a, .bool b] (.bool (kp a b)) True) (v1 v2 : Value) (is js : List R_api_Interval) (w : World) (hv1 : ArgS w v1 rI is) (hv2 : ArgS w v2 rI js) (hlo : 2 * is.length + 2 * js.length ≤ 12 ∨ (OrdE (evA is is.length ++ evB js js.length) ∧ 2 * is.length + 2 * js.length < 50)) (ho1 : ∀ i ∈ is, BdOk (bdF i) ∧ BdOk (bdL i)) (ho2 : ∀ i ∈ js, BdOk (bdF i) ∧ BdOk (bdL i)) :
    Calls Tryz.prog 122 [v1, v2, vFn kf].toArray w (RetM (SlS rI 20 (swpR kp is js)) (fun s => vSl s) (fun s => mS 32 s) w) := by
  have hl : 2 * is.length + 2 * js.length < 50 := hlo.elim (fun h => by omega) (fun h => h.2)
  refine fn_intro Tryz.func122 rfl Tryz.ntmps122 rfl ?_
  obtain ⟨p1, c1, rfl⟩ := hv1.form
  obtain ⟨p2, c2, rfl⟩ := hv2.form
  repeat (refine wkB ?_; try intro _)
  rename_i b23
  refine j_loop (S := (ys : List Ev) × Nat × SlS eEv 12 ys) (fun s => s.1 = evK is js s.2.1 ∧ s.2.1 ≤ 2) (fun s => [(2, vFn kf), (7, vSl s.2.2), (23, .slice (some ⟨b23, 0, none⟩) 2 2), (24, .int .i64 2), (25, .int .i64 (s.2.1 : Nat))])
    (fun s => mS 233 s.2.2 ++ [⟨b23, row eSlc [⟨p1, is.length, c1⟩, ⟨p2, js.length, c2⟩] [], 87⟩]) (fun s => 2 - s.2.1) ⟨[], 0, SlS.no⟩ ⟨rfl, Nat.zero_le _⟩ sbB slB (fun s hs => ?_)
  obtain ⟨ys, k, s⟩ := s
  obtain ⟨hys, hk⟩ := hs
  simp only at hys hk s ⊢
  have hz : Tryz.prog.info? 0 = Tryz.prog.info? 0 := rfl
  repeat (refine wkB ?_; try intro _)
  rcases (by omega : k = 0 ∨ k = 1 ∨ k = 2) with h0 | h0 | h0
  · subst h0
    simp only [decide_eq_true (show ((0 : Nat) : Int) < 2 by omega)]
    repeat (refine wkB ?_; try intro _)
    simp only [show gi [(⟨p1, is.length, c1⟩ : Sl), ⟨p2, js.length, c2⟩] ((0 : Nat) : Int) = ⟨p1, is.length, c1⟩ from rfl]
    repeat (refine wkB ?_; try intro _)
    refine j_loop (S := (zs : List Ev) × Nat × SlS eEv 12 zs) (fun r => r.1 = evA is r.2.1 ∧ r.2.1 ≤ is.length) (fun r => [(2, vFn kf), (7, vSl r.2.2), (8, .int .i64 0), (23, .slice (some ⟨b23, 0, none⟩) 2 2), (24, .int .i64 2), (25, .int .i64 0), (30, .slice p1 is.length c1), (31, .int .i64 is.length), (32, .int .i64 (r.2.1 : Nat))])
      (fun r => mS 233 r.2.2 ++ [⟨b23, row eSlc [⟨p1, is.length, c1⟩, ⟨p2, js.length, c2⟩] [], 87⟩]) (fun r => is.length - r.2.1) ⟨ys, 0, s⟩ ⟨hys, Nat.zero_le _⟩ sbB slB (fun r hr => ?_)
    obtain ⟨zs, m, r⟩ := r
    obtain ⟨hzs, hm⟩ := hr
    simp only at hzs hm r ⊢
    repeat (refine wkB ?_; try intro _)
    refine j_cond rfl (fun h => ?_) (fun h => ?_)
    · have hlt : m < is.length := by have := of_decide_eq_true h; omega
      have hne : is ≠ [] := fun h0 => by rw [h0] at hlt; simp at hlt
      obtain ⟨bw, ow, cw, hvw, hcw, hrow⟩ := hv1.blk (k := 19) hne []
      injection hvw with e1 e2 e3
      subst e1
      subst e3
      have hrow' : ∀ L, RowC w L bw ow R_api_Interval rI is := fun L => ⟨fun w' hw' => hrow.out w' (hw'.sub (List.nil_sublist _))⟩
      have hel := evA_len is m
      repeat (refine wkB ?_; try intro _)
      rename_i b11
      obtain ⟨iv, hiv⟩ : ∃ iv, iv = gi is (m : Int) := ⟨_, rfl⟩
      simp only [← hiv]
      (refine j_drawL [0, 1, 2, 3, 4, 5] [6, 7] [8, 9] ([⟨b11, e_api_Interval (q_api_Interval iv), 32⟩]) (h := ?_); refine wkI ?_)
      (repeat (refine wkH ?_))
      repeat (refine wkT ?_; try intro _)
      repeat (refine wkB ?_; try intro _)
      refine sU rfl rfl ?_ ?_ ?_ ?_
      · rfl
      · rfl
      · exact ⟨by decide, by rw [hzs]; omega, by rw [hzs]; omega⟩
      intro r'
      repeat (first | (refine wkB ?_; try intro _) | (refine sC rfl rfl ?_ ?_; focus (exact ⟨by omega, by omega⟩)) | (refine sN rfl rfl ?_ ?_; (focus (exact ⟨by omega, by omega⟩)); intro _; (try simp only [List.cons_append, List.nil_append, List.append_nil])))
      exact jx_loop ⟨_, m + 1, r'⟩ ⟨by show zs ++ _ = evA is m ++ _; rw [hzs, hiv], hlt⟩ sbB suB (by show is.length - (m + 1) < is.length - m; omega)
    · have hge : m = is.length := by have := of_decide_eq_false h; omega
      subst hge
      repeat (refine wkB ?_; try intro _)
      exact jx_loop ⟨zs, 1, r⟩ ⟨hzs, Nat.le_of_ble_eq_true rfl⟩ sbB suB (by show 2 - 1 < 2 - 0; decide)
  · subst h0
    simp only [decide_eq_true (show ((1 : Nat) : Int) < 2 by omega)]
    repeat (refine wkB ?_; try intro _)
    simp only [show gi [(⟨p1, is.length, c1⟩ : Sl), ⟨p2, js.length, c2⟩] ((1 : Nat) : Int) = ⟨p2, js.length, c2⟩ from rfl]
    repeat (refine wkB ?_; try intro _)
    refine j_loop (S := (zs : List Ev) × Nat × SlS eEv 12 zs) (fun r => r.1 = evA is is.length ++ evB js r.2.1 ∧ r.2.1 ≤ js.length) (fun r => [(2, vFn kf), (7, vSl r.2.2), (8, .int .i64 1), (23, .slice (some ⟨b23, 0, none⟩) 2 2), (24, .int .i64 2), (25, .int .i64 1), (30, .slice p2 js.length c2), (31, .int .i64 js.length), (32, .int .i64 (r.2.1 : Nat))])
      (fun r => mS 233 r.2.2 ++ [⟨b23, row eSlc [⟨p1, is.length, c1⟩, ⟨p2, js.length, c2⟩] [], 87⟩]) (fun r => js.length - r.2.1) ⟨ys, 0, s⟩ ⟨by rw [evB, List.append_nil]; exact hys, Nat.zero_le _⟩ sbB slB (fun r hr => ?_)
    obtain ⟨zs, m, r⟩ := r
    obtain ⟨hzs, hm⟩ := hr
    simp only at hzs hm r ⊢
    repeat (refine wkB ?_; try intro _)
    refine j_cond rfl (fun h => ?_) (fun h => ?_)
    · have hlt : m < js.length := by have := of_decide_eq_true h; omega
      have hne : js ≠ [] := fun h0 => by rw [h0] at hlt; simp at hlt
      obtain ⟨bw, ow, cw, hvw, hcw, hrow⟩ := hv2.blk (k := 19) hne []
      injection hvw with e1 e2 e3
      subst e1
      subst e3
      have hrow' : ∀ L, RowC w L bw ow R_api_Interval rI js := fun L => ⟨fun w' hw' => hrow.out w' (hw'.sub (List.nil_sublist _))⟩
      have hel := evB_len js m
      have hel2 := evA_len is is.length
      repeat (refine wkB ?_; try intro _)
      rename_i b11
      obtain ⟨iv, hiv⟩ : ∃ iv, iv = gi js (m : Int) := ⟨_, rfl⟩
      simp only [← hiv]
      (refine j_drawL [0, 1, 2, 3, 4, 5] [6, 7] [8, 9] ([⟨b11, e_api_Interval (q_api_Interval iv), 32⟩]) (h := ?_); refine wkI ?_)
      (repeat (refine wkH ?_))
      repeat (refine wkT ?_; try intro _)
      repeat (refine wkB ?_; try intro _)
      refine sU rfl rfl ?_ ?_ ?_ ?_
      · rfl
      · rfl
      · exact ⟨by decide, by rw [hzs, List.length_append]; omega, by rw [hzs, List.length_append]; omega⟩
      intro r'
      repeat (first | (refine wkB ?_; try intro _) | (refine sC rfl rfl ?_ ?_; focus (exact ⟨by omega, by omega⟩)) | (refine sN rfl rfl ?_ ?_; (focus (exact ⟨by omega, by omega⟩)); intro _; (try simp only [List.cons_append, List.nil_append, List.append_nil])))
      exact jx_loop ⟨_, m + 1, r'⟩ ⟨by show zs ++ _ = evA is is.length ++ (evB js m ++ _); rw [hzs, hiv, List.append_assoc], hlt⟩ sbB suB (by show js.length - (m + 1) < js.length - m; omega)
    · have hge : m = js.length := by have := of_decide_eq_false h; omega
      subst hge
      repeat (refine wkB ?_; try intro _)
      exact jx_loop ⟨zs, 2, r⟩ ⟨hzs, Nat.le_of_ble_eq_true rfl⟩ sbB suB (by show 2 - 2 < 2 - 1; decide)
  · subst h0
    simp only [decide_eq_false (show ¬ ((2 : Nat) : Int) < 2 by omega)]
    have hlen : ys.length ≤ 12 ∨ (OrdE ys ∧ ys.length < 50) := by
      rw [hys]
      show (evA is is.length ++ evB js js.length).length ≤ 12 ∨ (OrdE (evA is is.length ++ evB js js.length) ∧ (evA is is.length ++ evB js js.length).length < 50)
      rw [List.length_append, evA_len, evB_len]
      exact hlo
    have hlen2 : ys.length < 50 := hlen.elim (fun h => by omega) (fun h => h.2)
    have hbd : ∀ u ∈ ys, BdOk u.b := by
      rw [hys]
      intro u hu
      rcases List.mem_append.1 (show u ∈ evA is is.length ++ evB js js.length from hu) with h1 | h1
      · exact evA_ok ho1 _ (Nat.le_refl _) u h1
      · exact evB_ok ho2 _ (Nat.le_refl _) u h1
    repeat (refine wkB ?_; try intro _)
    refine sZ rfl rfl ?_ ?_
    · exact ⟨hlen, hbd⟩
    intro s'
    obtain ⟨s2, hs2⟩ := s'
    repeat (refine wkB ?_; try intro _)
    rename_i b15 b16
    have hzb : ∀ u ∈ srtE ys (ys.length - 1), BdOk u.b := fun u hu => by
      rcases (by omega : ys.length = 0 ∨ ys.length - 1 < ys.length) with h1 | h1
      · rw [List.length_eq_zero_iff.1 h1] at hu
        cases hu
      · exact hbd u (srt_memE ys _ h1 u hu)
    have hz1 : ∀ u ∈ srtE ys (ys.length - 1), Ev1 u := fun u hu => by
      rcases (by omega : ys.length = 0 ∨ ys.length - 1 < ys.length) with h1 | h1
      · rw [List.length_eq_zero_iff.1 h1] at hu
        cases hu
      · have h2 := srt_memE ys _ h1 u hu
        rw [hys] at h2
        rcases List.mem_append.1 (show u ∈ evA is is.length ++ evB js js.length from h2) with h3 | h3
        · exact evA_1 _ _ u h3
        · exact evB_1 _ _ u h3
    obtain ⟨es, s3, hes, hv3, hm3⟩ : ∃ (es : List Ev) (s3 : SlS eEv 12 es), es = srtE ys (ys.length - 1) ∧ vSl s3 = vSl s ∧ mS 233 s3 = mS 233 s2 := ⟨_, s2, rfl, hs2, rfl⟩
    have hzl : ys.length = es.length := by rw [hes, srt_lenE]
    rw [← hes] at hzb hz1
    simp only [← hv3, ← hm3, hzl]
    refine j_loop (S := (q : SwS) × Nat × SlS rI 20 q.out) (fun r => r.1 = sws kp es r.2.1 ∧ r.2.1 ≤ es.length) (fun r => [(2, vFn kf), (7, vSl s3), (14, vSl r.2.2), (15, .pointer (some ⟨b15, 0, none⟩)), (16, .pointer (some ⟨b16, 0, none⟩)), (17, .bool r.1.on), (57, vSl s3), (58, .int .i64 es.length), (59, .int .i64 (r.2.1 : Nat))])
      (fun r => mS 32 r.2.2 ++ (⟨b16, e_period_border (q_period_border r.1.fr), 181⟩ :: ⟨b15, row (eI .i64) [r.1.n0, r.1.n1] [], 231⟩ :: mS 233 s3)) (fun r => es.length - r.2.1) ⟨sws kp es 0, 0, SlS.no⟩ ⟨rfl, Nat.zero_le _⟩ sbB suB (fun r hr => ?_)
    obtain ⟨q, m, r⟩ := r
    obtain ⟨hq, hm⟩ := hr
    simp only at hq hm r ⊢
    repeat (refine wkB ?_; try intro _)
    refine j_cond rfl (fun h => ?_) (fun h => ?_)
    · have hlt : m < es.length := by have := of_decide_eq_true h; omega
      rcases s3.cases 233 with ⟨h0, -, -⟩ | ⟨bE, cE, spE, hc1, hvE, hmE, hneE⟩
      · rw [h0] at hlt; simp at hlt
      · simp only [hvE, hmE]
        obtain ⟨w1, w2⟩ := sws_bnd (kp := kp) hz1 m (by omega)
        rw [← hq] at w1 w2
        obtain ⟨w3, w4⟩ := hz1 _ (gi_mem (i := (m : Int)) (xs := es) (by omega))
        repeat (refine wkB ?_; try intro _)
        rename_i b19
        have q0 : gi [q.n0, q.n1] 0 = q.n0 := rfl
        have q1 : gi [q.n0, q.n1] 1 = q.n1 := rfl
        refine j_cut (S := Unit) (fun _ => True) (fun _ => [(2, vFn kf), (7, .slice (some ⟨bE, 0, none⟩) es.length cE), (14, vSl r), (15, .pointer (some ⟨b15, 0, none⟩)), (16, .pointer (some ⟨b16, 0, none⟩)), (17, .bool q.on), (18, .int .i64 (m : Nat)), (19, .pointer (some ⟨b19, 0, none⟩)), (57, .slice (some ⟨bE, 0, none⟩) es.length cE), (58, .int .i64 es.length), (59, .int .i64 (m : Nat))])
          (fun _ => ⟨b19, eEv (gi es (m : Int)), 233⟩ :: (mS 32 r ++ [⟨b16, e_period_border (q_period_border q.fr), 181⟩, ⟨b15, row (eI .i64) [q.n0 + (gi es (m : Int)).n0, q.n1 + (gi es (m : Int)).n1] [], 231⟩, ⟨bE, row eEv es spE, 233⟩])) ?_ (fun _ _ => ?_)
        · (refine j_tree (.v [0, 2, 3, 4, 6, 8, 9, 10] (.e2 1 (.v [5] (.e1 7 (.v [11, 12] (.e1 13 (.v [14] (.e1 15 (.fin))))))) 7 (.v [11] (.e1 1 (.v [5, 12] (.e1 13 (.v [14] (.e1 15 (.fin))))))))) ([⟨b19, eEv (gi es (m : Int)), 233⟩]) (h := ?_); refine wkX ?_)
          repeat' (first | (with_reducible refine And.intro ?_ ?_) | (with_reducible exact True.intro) | (refine wkT ?_; try intro _) | fail)
          all_goals simp only [q0, q1]
          all_goals refine eR rfl ?_ ?_
          all_goals first | exact Nat.le_of_ble_eq_true rfl | skip
          repeat' (first | (with_reducible refine And.intro ?_ ?_) | (with_reducible exact True.intro) | (refine wkT ?_; try intro _) | fail)
          all_goals refine eR rfl ?_ ?_
          all_goals first | exact Nat.le_of_ble_eq_true rfl | skip
          repeat' (first | (with_reducible refine And.intro ?_ ?_) | (with_reducible exact True.intro) | (refine wkT ?_; try intro _) | fail)
          all_goals exact jx_mid () trivial sbB suB
        repeat (refine wkB ?_; try intro _)
        obtain ⟨x, hx⟩ : ∃ x, x = gi es (m : Int) := ⟨_, rfl⟩
        obtain ⟨nx, hnx⟩ : ∃ nx, nx = gi es ((m + 1 : Nat) : Int) := ⟨_, rfl⟩
        obtain ⟨N0, hN0⟩ : ∃ N0, N0 = q.n0 + (gi es (m : Int)).n0 := ⟨_, rfl⟩
        obtain ⟨N1, hN1⟩ : ∃ N1, N1 = q.n1 + (gi es (m : Int)).n1 := ⟨_, rfl⟩
        simp only [← hN0, ← hN1]
        have hxo := hzb _ (gi_mem (i := (m : Int)) (xs := es) (by omega))
        have e1 : (m : Int) + 1 = ((m + 1 : Nat) : Int) := by omega
        refine j_cut (S := Bool) (fun v => v = decide (m + 1 < es.length ∧ cmpB x.b nx.b = 0)) (fun v => [(2, vFn kf), (7, .slice (some ⟨bE, 0, none⟩) es.length cE), (14, vSl r), (15, .pointer (some ⟨b15, 0, none⟩)), (16, .pointer (some ⟨b16, 0, none⟩)), (17, .bool q.on), (18, .int .i64 (m : Nat)), (19, .pointer (some ⟨b19, 0, none⟩)), (57, .slice (some ⟨bE, 0, none⟩) es.length cE), (58, .int .i64 es.length), (59, .int .i64 (m : Nat)), (94, .bool v)])
          (fun _ => ⟨b19, eEv (gi es (m : Int)), 233⟩ :: (mS 32 r ++ [⟨b16, e_period_border (q_period_border q.fr), 181⟩, ⟨b15, row (eI .i64) [N0, N1] [], 231⟩, ⟨bE, row eEv es spE, 233⟩])) ?_ (fun v hv => ?_)
        · by_cases hml : m + 1 < es.length
          · have hno := hzb _ (gi_mem (i := ((m + 1 : Nat) : Int)) (xs := es) (by omega))
            refine jD 17 17 (h := ?_)
            (repeat (refine wkH ?_))
            simp only [decide_eq_true (show (m : Int) + 1 < (es.length : Int) by omega)]
            (repeat (refine wkH ?_))
            simp only [e1]
            (repeat (first | refine wkH ?_ | (refine tC rfl rfl ?_ ?_; focus (exact ⟨hxo, hno⟩))))
            refine jh_nil ?_
            refine jn_nil ?_
            repeat (refine wkB ?_; try intro _)
            exact jx_mid (decide (cmpB (gi es (m : Int)).b (gi es ((m + 1 : Nat) : Int)).b = 0)) (by rw [hx, hnx]; simp [hml]) sbB suB
          · refine jD 17 17 (h := ?_)
            (repeat (refine wkH ?_))
            simp only [decide_eq_false (show ¬ (m : Int) + 1 < (es.length : Int) by omega)]
            (repeat (refine wkH ?_))
            refine jh_nil ?_
            refine jn_nil ?_
            repeat (refine wkB ?_; try intro _)
            exact jx_mid false (by simp [hml]) sbB suB
        · have hsw : sws kp es (m + 1) = if m + 1 < es.length ∧ cmpB x.b nx.b = 0 then ⟨N0, N1, q.fr, q.on, q.out⟩ else
              ⟨N0, N1, if kp (decide (0 < N0)) (decide (0 < N1)) && !q.on then x.b else q.fr, kp (decide (0 < N0)) (decide (0 < N1)), if kp (decide (0 < N0)) (decide (0 < N1)) && !q.on then q.out else if !kp (decide (0 < N0)) (decide (0 < N1)) && q.on then q.out ++ [bdB q.fr x.b] else q.out⟩ := by
            rw [sws, ← hq, ← hx, ← hnx, hN0, hN1, hx]
          by_cases hc : m + 1 < es.length ∧ cmpB x.b nx.b = 0
          · rw [if_pos hc] at hsw
            rw [decide_eq_true hc] at hv
            subst hv
            repeat (first | (refine wkB ?_; try intro _) | (refine sC rfl rfl ?_ ?_; focus (exact ⟨by omega, by omega⟩)) | (refine sN rfl rfl ?_ ?_; (focus (exact ⟨by omega, by omega⟩)); intro _; (try simp only [List.cons_append, List.nil_append, List.append_nil])))
            exact jx_loop ⟨⟨N0, N1, q.fr, q.on, q.out⟩, m + 1, r⟩ ⟨hsw.symm, hlt⟩ sbB suB (by show es.length - (m + 1) < es.length - m; omega)
          · rw [if_neg hc] at hsw
            rw [decide_eq_false hc] at hv
            subst hv
            repeat (first | (refine wkB ?_; try intro _) | (refine sC rfl rfl ?_ ?_; focus (first | exact trivial | exact ⟨by omega, by omega⟩)) | (refine sN rfl rfl ?_ ?_; (focus (first | exact trivial | exact ⟨by omega, by omega⟩)); intro _; (try simp only [List.cons_append, List.nil_append, List.append_nil])))
            obtain ⟨nw, hnw⟩ : ∃ nw, nw = kp (decide (0 < N0)) (decide (0 < N1)) := ⟨_, rfl⟩
            simp only [show gi [N0, N1] 0 = N0 from rfl, show gi [N0, N1] 1 = N1 from rfl, ← hnw]
            rw [← hnw] at hsw
            have hol := sws_out kp es m
            rw [← hq] at hol
            obtain ⟨n0', n1', fr, on, out⟩ := q
            simp only at hol
            simp only at hsw r ⊢
            rcases nw with _ | _ <;> rcases on with _ | _
            · repeat (first | (refine wkB ?_; try intro _) | (refine sC rfl rfl ?_ ?_; focus (exact ⟨by omega, by omega⟩)) | (refine sN rfl rfl ?_ ?_; (focus (exact ⟨by omega, by omega⟩)); intro _; (try simp only [List.cons_append, List.nil_append, List.append_nil])))
              exact jx_loop ⟨⟨N0, N1, fr, false, out⟩, m + 1, r⟩ ⟨hsw.symm, hlt⟩ sbB suB (by show es.length - (m + 1) < es.length - m; omega)
            · repeat (first | (refine wkB ?_; try intro _) | (refine sC rfl rfl ?_ ?_; focus (first | exact trivial | exact ⟨by omega, by omega⟩)) | (refine sN rfl rfl ?_ ?_; (focus (first | exact trivial | exact ⟨by omega, by omega⟩)); intro _; (try simp only [List.cons_append, List.nil_append, List.append_nil])))
              rw [← hx]
              refine sU rfl rfl ?_ ?_ ?_ ?_
              · rfl
              · rfl
              · exact ⟨by decide, by omega, by omega⟩
              intro r'
              repeat (first | (refine wkB ?_; try intro _) | (refine sC rfl rfl ?_ ?_; focus (exact ⟨by omega, by omega⟩)) | (refine sN rfl rfl ?_ ?_; (focus (exact ⟨by omega, by omega⟩)); intro _; (try simp only [List.cons_append, List.nil_append, List.append_nil])))
              exact jx_loop ⟨⟨N0, N1, fr, false, out ++ [bdB fr x.b]⟩, m + 1, r'⟩ ⟨hsw.symm, hlt⟩ sbB suB (by show es.length - (m + 1) < es.length - m; omega)
            · repeat (first | (refine wkB ?_; try intro _) | (refine sC rfl rfl ?_ ?_; focus (exact ⟨by omega, by omega⟩)) | (refine sN rfl rfl ?_ ?_; (focus (exact ⟨by omega, by omega⟩)); intro _; (try simp only [List.cons_append, List.nil_append, List.append_nil])))
              rw [← hx]
              exact jx_loop ⟨⟨N0, N1, x.b, true, out⟩, m + 1, r⟩ ⟨hsw.symm, hlt⟩ sbB suB (by show es.length - (m + 1) < es.length - m; omega)
            · repeat (first | (refine wkB ?_; try intro _) | (refine sC rfl rfl ?_ ?_; focus (exact ⟨by omega, by omega⟩)) | (refine sN rfl rfl ?_ ?_; (focus (exact ⟨by omega, by omega⟩)); intro _; (try simp only [List.cons_append, List.nil_append, List.append_nil])))
              exact jx_loop ⟨⟨N0, N1, fr, true, out⟩, m + 1, r⟩ ⟨hsw.symm, hlt⟩ sbB suB (by show es.length - (m + 1) < es.length - m; omega)
    · have hge : m = es.length := by have := of_decide_eq_false h; omega
      subst hge
      subst hq
      repeat (refine wkB ?_; try intro _)
      have hfin : swpR kp is js = (sws kp es es.length).out := by
        unfold swpR
        rw [← hys, ← hes]
      obtain ⟨r2, hr1, hr2⟩ := r.like hfin
      refine jx_ret_tmp (v := vSl r2) rfl (by rw [hr1]; rfl) (fun w hw => ⟨r2, rfl, ?_⟩)
      dsimp only
      rw [hr2]
      exact hw.sub suB
instance sr_sweep (w0 : World) (L : List Blk) (kf : FuncId) (kp : Bool → Bool → Bool) [CallC Tryz.prog kf] [hkp : ∀ a b, SpecC Tryz.prog kf [.bool a, .bool b] (.bool (kp a b)) True] (v1 v2 : Value) (is js : List R_api_Interval) [h1 : LstC w0 L v1 R_api_Interval rI is] [h2 : LstC w0 L v2 R_api_Interval rI js] : SpecR Tryz.prog w0 L 122 [v1, v2, vFn kf] (SlS rI 20 (swpR kp is js)) (fun s => vSl s) (fun s => mS 32 s) ((2 * is.length + 2 * js.length ≤ 12 ∨ (OrdE (evA is is.length ++ evB js js.length) ∧ 2 * is.length + 2 * js.length < 50)) ∧ (∀ i ∈ is, BdOk (bdF i) ∧ BdOk (bdL i)) ∧ ∀ i ∈ js, BdOk (bdF i) ∧ BdOk (bdL i)) := ⟨fun hp w hw => sweep_spec kf kp hkp v1 v2 is js w (h1.out w hw) (h2.out w hw) hp.1 hp.2.1 hp.2.2⟩
end Go.Vt
/- What sweeping over the borders of two periods gives: the instants of the result, and that its intervals lie apart. Conditions: those that each statement names. -/
set_option linter.unusedSimpArgs false
set_option linter.unusedVariables false
set_option maxHeartbeats 2000000
set_option maxRecDepth 100000
set_option linter.unusedSectionVars false
namespace Go.Vt
open Go.RowKit Go.Proofs
def bLt (a b : Bd) : Prop := a.at_.P < b.at_.P ∨ (a.at_.P = b.at_.P ∧ a.behind = false ∧ b.behind = true)
def bLe (a b : Bd) : Prop := a.at_.P < b.at_.P ∨ (a.at_.P = b.at_.P ∧ (a.behind = true → b.behind = true))
def bAt (b : Bd) (t : Rat) : Prop := b.at_.P < t ∨ (b.at_.P = t ∧ b.behind = false)
theorem bLt_le {a b : Bd} : bLt a b ↔ ¬ bLe b a := by unfold bLt bLe; grind
theorem bLe_tr {a b c : Bd} (h : bLe a b) (k : bLe b c) : bLe a c := by unfold bLe at *; grind
theorem bLt_tr {a b c : Bd} (h : bLt a b) (k : bLe b c) : bLt a c := by unfold bLe bLt at *; grind
theorem bLt.le {a b : Bd} (h : bLt a b) : bLe a b := by unfold bLe bLt at *; grind
theorem bAt_le {a b : Bd} {t : Rat} (h : bLe a b) (k : bAt b t) : bAt a t := by unfold bLe bAt at *; grind
theorem cmpB_0 {a b : Bd} : cmpB a b = 0 ↔ bLe a b ∧ bLe b a := by
  unfold cmpB bLe
  by_cases h : cq a.at_.P b.at_.P = 0
  · rw [if_neg (by simpa using h)]
    have h := cq_eq.1 h
    rcases ha : a.behind <;> rcases hb : b.behind <;> simp [h]
  · rw [if_pos h]
    have h' : ¬ a.at_.P = b.at_.P := fun e => h (cq_eq.2 e)
    constructor
    · intro k; exact absurd k h
    · rintro ⟨k1, k2⟩; grind
theorem cmpB_lt {a b : Bd} (h : cmpB a b < 0) : bLe a b := by
  unfold cmpB at h
  unfold bLe
  split at h
  · exact .inl (cq_lt.1 h)
  · rename_i h1
    have h1 := cq_eq.1 (Decidable.not_not.1 h1)
    split at h
    · omega
    · split at h
      · rename_i h3
        exact .inr ⟨h1, fun _ => h3⟩
      · omega
theorem cmpB_ge {a b : Bd} (h : ¬ cmpB a b < 0) : bLe b a := by
  unfold cmpB at h
  unfold bLe
  split at h
  · rename_i h1
    have h2 : ¬ a.at_.P < b.at_.P := fun e => h (cq_lt.2 e)
    have h1 : ¬ a.at_.P = b.at_.P := fun e => h1 (cq_eq.2 e)
    exact .inl (by grind)
  · rename_i h1
    have h1 := cq_eq.1 (Decidable.not_not.1 h1)
    split at h
    · rename_i h2
      exact .inr ⟨h1.symm, fun e => by rw [h2]; exact e⟩
    · split at h
      · omega
      · rename_i h3
        exact .inr ⟨h1.symm, fun e => absurd e h3⟩
theorem memI_at {I : R_api_Interval} {t : Rat} : memI I t ↔ bAt (bdF I) t ∧ ¬ bAt (bdL I) t := by
  unfold memI bAt bdF bdL
  rcases I.OpenFrom <;> rcases I.OpenTo <;> simp <;> grind
theorem bdF_B (a b : Bd) : bdF (bdB a b) = a := rfl
theorem bdL_B (a b : Bd) : bdL (bdB a b) = b := by
  unfold bdL bdB
  simp
noncomputable def cntT (d : Ev → Int) (t : Rat) : List Ev → Int
  | [] => 0
  | x :: l => (open Classical in if bAt x.b t then d x else 0) + cntT d t l
theorem cntT_app (d : Ev → Int) (t : Rat) : ∀ l m, cntT d t (l ++ m) = cntT d t l + cntT d t m
  | [], m => by simp [cntT]
  | x :: l, m => by rw [List.cons_append, cntT, cntT, cntT_app d t l m]; omega
theorem cntT_perm {d : Ev → Int} {t : Rat} {l m : List Ev} (h : l.Perm m) : cntT d t l = cntT d t m := by
  induction h with
  | nil => rfl
  | cons x _ ih => rw [cntT, cntT, ih]
  | swap x y l => simp only [cntT]; omega
  | trans _ _ h1 h2 => exact h1.trans h2
theorem take_snoc {α : Type} [Inhabited α] {l : List α} {m : Nat} (h : m < l.length) : l.take (m + 1) = l.take m ++ [gi l (m : Int)] := by
  rw [gi_nat h, List.take_succ_eq_append_getElem h]
theorem cntT_all {d : Ev → Int} {t : Rat} {l : List Ev} (f : Nat → Int) (h0 : f 0 = 0) (hs : ∀ m, f (m + 1) = f m + d (gi l (m : Int))) : ∀ k, k ≤ l.length → (∀ j, j < k → bAt (gi l (j : Int)).b t) → cntT d t (l.take k) = f k
  | 0, _, _ => by simp [cntT, h0]
  | k + 1, hk, h => by
    rw [take_snoc (by omega), cntT_app, cntT_all f h0 hs k (by omega) (fun j hj => h j (by omega)), hs, cntT, cntT, if_pos (h k (by omega))]
    omega
theorem cntT_none {d : Ev → Int} {t : Rat} : ∀ {l : List Ev}, (∀ x ∈ l, ¬ bAt x.b t) → cntT d t l = 0
  | [], _ => rfl
  | x :: l, h => by rw [cntT, if_neg (h x (.head _)), cntT_none (fun y hy => h y (.tail _ hy))]; rfl
theorem cntT_cut {d : Ev → Int} {t : Rat} {l : List Ev} (f : Nat → Int) (h0 : f 0 = 0) (hs : ∀ m, f (m + 1) = f m + d (gi l (m : Int))) {k : Nat} (hk : k ≤ l.length) (h : ∀ j, j < k → bAt (gi l (j : Int)).b t) (h' : ∀ j, k ≤ j → j < l.length → ¬ bAt (gi l (j : Int)).b t) : cntT d t l = f k := by
  have e : cntT d t l = cntT d t (l.take k ++ l.drop k) := by rw [List.take_append_drop]
  rw [e, cntT_app, cntT_all f h0 hs k hk h, cntT_none (l := l.drop k) fun x hx => ?_]
  · omega
  · obtain ⟨j, hj, rfl⟩ := List.getElem_of_mem hx
    rw [List.length_drop] at hj
    rw [List.getElem_drop, ← gi_nat (by omega)]
    exact h' (k + j) (by omega) (by omega)
section
variable {kp : Bool → Bool → Bool} {l : List Ev}
theorem sws_n0 (m : Nat) : (sws kp l (m + 1)).n0 = (sws kp l m).n0 + (gi l (m : Int)).n0 := by
  rw [sws]
  simp only
  split <;> rfl
theorem sws_n1 (m : Nat) : (sws kp l (m + 1)).n1 = (sws kp l m).n1 + (gi l (m : Int)).n1 := by
  rw [sws]
  simp only
  split <;> rfl
theorem cnt_pair {w : Rat} {k : Nat} (hk : k ≤ l.length) (h : ∀ j, j < k → bAt (gi l (j : Int)).b w) (h' : ∀ j, k ≤ j → j < l.length → ¬ bAt (gi l (j : Int)).b w) : cntT Ev.n0 w l = (sws kp l k).n0 ∧ cntT Ev.n1 w l = (sws kp l k).n1 :=
  ⟨cntT_cut (fun m => (sws kp l m).n0) rfl sws_n0 hk h h', cntT_cut (fun m => (sws kp l m).n1) rfl sws_n1 hk h h'⟩
noncomputable def keeps (kp : Bool → Bool → Bool) (l : List Ev) (t : Rat) : Bool := kp (decide (0 < cntT Ev.n0 t l)) (decide (0 < cntT Ev.n1 t l))
structure SwI (kp : Bool → Bool → Bool) (l : List Ev) (s : SwS) (k : Nat) : Prop where
  h : ∀ t, (k < l.length → ¬ bAt (gi l (k : Int)).b t) → (((∃ i ∈ s.out, memI i t) ∨ (s.on = true ∧ bAt s.fr t)) ↔ keeps kp l t = true)
  r : k < l.length → ∀ i ∈ s.out, bLt (bdL i) (gi l (k : Int)).b
  f : k < l.length → s.on = true → bLt s.fr (gi l (k : Int)).b
  o : s.on = true → ∀ i ∈ s.out, bLt (bdL i) s.fr
  pw : s.out.Pairwise (fun i j => bLt (bdL i) (bdF j))
  v : ∀ i ∈ s.out, bLt (bdF i) (bdL i)
theorem sws_inv (hs : ∀ p q : Nat, p < q → q < l.length → bLe (gi l (p : Int)).b (gi l (q : Int)).b) (hk : kp false false = false) : ∀ k, k ≤ l.length → SwI kp l (sws kp l k) k
  | 0, _ => by
    refine ⟨fun t h => ?_, fun _ i hi => (by cases hi), fun _ h => (by cases h), fun h => by (cases h), List.Pairwise.nil, fun i hi => (by cases hi)⟩
    have hn : ∀ j, 0 ≤ j → j < l.length → ¬ bAt (gi l (j : Int)).b t := fun j _ hj => by
      by_cases e : j = 0
      · subst e; exact h hj
      · exact fun hb => h (by omega) (bAt_le (hs 0 j (by omega) hj) hb)
    obtain ⟨e1, e2⟩ := cnt_pair (kp := kp) (Nat.zero_le _) (fun j hj => by omega) hn
    unfold keeps
    rw [e1, e2]
    simp [sws, hk]
  | k + 1, hkl => by
    have ih := sws_inv hs hk k (by omega)
    have hn0 := sws_n0 (kp := kp) (l := l) k
    have hn1 := sws_n1 (kp := kp) (l := l) k
    have hnxt : k + 1 < l.length → bLe (gi l (k : Int)).b (gi l ((k + 1 : Nat) : Int)).b := fun h => hs k (k + 1) (by omega) h
    by_cases hsk : k + 1 < l.length ∧ cmpB (gi l (k : Int)).b (gi l ((k + 1 : Nat) : Int)).b = 0
    · have e : sws kp l (k + 1) = ⟨(sws kp l k).n0 + (gi l (k : Int)).n0, (sws kp l k).n1 + (gi l (k : Int)).n1, (sws kp l k).fr, (sws kp l k).on, (sws kp l k).out⟩ := by rw [sws]; simp only; rw [if_pos hsk]
      obtain ⟨e1, e2⟩ := cmpB_0.1 hsk.2
      rw [e]
      exact ⟨fun t h => ih.h t (fun _ hb => h hsk.1 (bAt_le e2 hb)), fun _ i hi => bLt_tr (ih.r (by omega) i hi) e1, fun _ ho => bLt_tr (ih.f (by omega) ho) e1, ih.o, ih.pw, ih.v⟩
    · have e : sws kp l (k + 1) = ⟨(sws kp l k).n0 + (gi l (k : Int)).n0, (sws kp l k).n1 + (gi l (k : Int)).n1, if kp (decide (0 < (sws kp l k).n0 + (gi l (k : Int)).n0)) (decide (0 < (sws kp l k).n1 + (gi l (k : Int)).n1)) && !(sws kp l k).on then (gi l (k : Int)).b else (sws kp l k).fr, kp (decide (0 < (sws kp l k).n0 + (gi l (k : Int)).n0)) (decide (0 < (sws kp l k).n1 + (gi l (k : Int)).n1)), if kp (decide (0 < (sws kp l k).n0 + (gi l (k : Int)).n0)) (decide (0 < (sws kp l k).n1 + (gi l (k : Int)).n1)) && !(sws kp l k).on then (sws kp l k).out else if !kp (decide (0 < (sws kp l k).n0 + (gi l (k : Int)).n0)) (decide (0 < (sws kp l k).n1 + (gi l (k : Int)).n1)) && (sws kp l k).on then (sws kp l k).out ++ [bdB (sws kp l k).fr (gi l (k : Int)).b] else (sws kp l k).out⟩ := by rw [sws]; simp only; rw [if_neg hsk]
      have hlt : k + 1 < l.length → bLt (gi l (k : Int)).b (gi l ((k + 1 : Nat) : Int)).b := fun h => by
        rw [bLt_le]
        exact fun h2 => hsk ⟨h, cmpB_0.2 ⟨hnxt h, h2⟩⟩
      -- what is kept at an instant behind this border and ahead of the next one
      have hkeep : ∀ t, bAt (gi l (k : Int)).b t → (k + 1 < l.length → ¬ bAt (gi l ((k + 1 : Nat) : Int)).b t) → keeps kp l t = (sws kp l (k + 1)).on := fun t h1 h2 => by
        obtain ⟨e1, e2⟩ := cnt_pair (kp := kp) (l := l) (w := t) (k := k + 1) hkl
          (fun j hj => by
            by_cases e : j = k
            · subst e; exact h1
            · exact bAt_le (hs j k (by omega) (by omega)) h1)
          (fun j h3 hj => by
            by_cases e : j = k + 1
            · subst e; exact h2 hj
            · exact fun hb => h2 (by omega) (bAt_le (hs (k + 1) j (by omega) hj) hb))
        unfold keeps
        rw [e1, e2, hn0, hn1, e]
      generalize hnow : kp (decide (0 < (sws kp l k).n0 + (gi l (k : Int)).n0)) (decide (0 < (sws kp l k).n1 + (gi l (k : Int)).n1)) = now at e
      generalize hx : (gi l (k : Int)).b = x at *
      have hnew : ∀ t, memI (bdB (sws kp l k).fr x) t ↔ bAt (sws kp l k).fr t ∧ ¬ bAt x t := fun t => by rw [memI_at, bdF_B, bdL_B]
      have hr := ih.r (by omega)
      have hf := ih.f (by omega)
      rw [hx] at hr hf
      have hno : ∀ t, bAt x t → ∀ i ∈ (sws kp l k).out, ¬ memI i t := fun t h i hi hm => (memI_at.1 hm).2 (bAt_le (hr i hi).le h)
      have hfr : ∀ t, bAt x t → (sws kp l k).on = true → bAt (sws kp l k).fr t := fun t h ho => bAt_le (hf ho).le h
      have hih : ∀ t, ¬ bAt x t → (((∃ i ∈ (sws kp l k).out, memI i t) ∨ ((sws kp l k).on = true ∧ bAt (sws kp l k).fr t)) ↔ keeps kp l t = true) := fun t h => ih.h t (fun _ => by rw [hx]; exact h)
      rw [e] at hkeep
      rw [e]
      simp only at hkeep ⊢
      rcases now with _ | _ <;> rcases hon : (sws kp l k).on with _ | _ <;> simp only [Bool.not_true, Bool.not_false, Bool.and_true, Bool.and_false, Bool.false_eq_true, if_false, if_true] <;> rw [hon] at hih
      · refine ⟨fun t h => ?_, fun h i hi => bLt_tr (hr i hi) (hnxt h), fun _ h => (by cases h), fun h => (by cases h), ih.pw, ih.v⟩
        by_cases hb : bAt x t
        · rw [hkeep t hb h]
          exact ⟨fun h => (h.resolve_right (fun h => by cases h.1)).elim fun i hi => absurd hi.2 (hno t hb i hi.1), fun h => (by cases h)⟩
        · exact hih t hb
      · refine ⟨fun t h => ?_, fun h i hi => ?_, fun _ h => (by cases h), fun h => (by cases h), ?_, fun i hi => ?_⟩
        · by_cases hb : bAt x t
          · rw [hkeep t hb h]
            refine ⟨fun h => (h.resolve_right (fun h => by cases h.1)).elim fun i hi => ?_, fun h => (by cases h)⟩
            rcases List.mem_append.1 hi.1 with h1 | h1
            · exact absurd hi.2 (hno t hb i h1)
            · rw [List.mem_singleton.1 h1] at hi
              exact absurd hb ((hnew t).1 hi.2).2
          · rw [← hih t hb]
            constructor
            · rintro (⟨i, hi, hm⟩ | ⟨h, _⟩)
              · rcases List.mem_append.1 hi with h1 | h1
                · exact .inl ⟨i, h1, hm⟩
                · rw [List.mem_singleton.1 h1] at hm
                  exact .inr ⟨rfl, ((hnew t).1 hm).1⟩
              · cases h
            · rintro (⟨i, hi, hm⟩ | ⟨_, h⟩)
              · exact .inl ⟨i, List.mem_append_left _ hi, hm⟩
              · exact .inl ⟨_, List.mem_append_right _ (.head _), (hnew t).2 ⟨h, hb⟩⟩
        · rcases List.mem_append.1 hi with h1 | h1
          · exact bLt_tr (hr i h1) (hnxt h)
          · rw [List.mem_singleton.1 h1, bdL_B]
            exact hlt h
        · rw [List.pairwise_append]
          refine ⟨ih.pw, List.pairwise_singleton _ _, fun i hi j hj => ?_⟩
          rw [List.mem_singleton.1 hj, bdF_B]
          exact ih.o hon i hi
        · rcases List.mem_append.1 hi with h1 | h1
          · exact ih.v i h1
          · rw [List.mem_singleton.1 h1, bdL_B, bdF_B]
            exact hf hon
      · refine ⟨fun t h => ?_, fun h i hi => bLt_tr (hr i hi) (hnxt h), fun h _ => hlt h, fun _ i hi => hr i hi, ih.pw, ih.v⟩
        by_cases hb : bAt x t
        · rw [hkeep t hb h]
          exact ⟨fun _ => rfl, fun _ => .inr ⟨rfl, hb⟩⟩
        · rw [← hih t hb]
          exact ⟨fun h => .inl (h.resolve_right fun h => hb h.2), fun h => .inl (h.resolve_right fun h => by cases h.1)⟩
      · refine ⟨fun t h => ?_, fun h i hi => bLt_tr (hr i hi) (hnxt h), fun h _ => bLt_tr (hf hon) (hnxt h), fun _ i hi => ih.o hon i hi, ih.pw, ih.v⟩
        by_cases hb : bAt x t
        · rw [hkeep t hb h]
          exact ⟨fun _ => rfl, fun _ => .inr ⟨rfl, hfr t hb hon⟩⟩
        · exact hih t hb
/-- What borders are found. -/
theorem sws_bd {Pb : Bd → Prop} (h : ∀ x ∈ l, Pb x.b) : ∀ k, k ≤ l.length → ((sws kp l k).on = true → Pb (sws kp l k).fr) ∧ ∀ i ∈ (sws kp l k).out, Pb (bdF i) ∧ Pb (bdL i)
  | 0, _ => ⟨fun h => (by cases h), fun i hi => (by cases hi)⟩
  | k + 1, hk => by
    obtain ⟨h1, h2⟩ := sws_bd h k (by omega)
    have hx := h _ (gi_mem (xs := l) (i := (k : Int)) (by omega))
    rw [sws]
    simp only
    split
    · exact ⟨h1, h2⟩
    · generalize kp _ _ = now
      rcases now with _ | _ <;> rcases hon : (sws kp l k).on with _ | _ <;> simp only [Bool.not_true, Bool.not_false, Bool.and_true, Bool.and_false, Bool.false_eq_true, if_false, if_true]
      · exact ⟨fun h => (by cases h), h2⟩
      · refine ⟨fun h => (by cases h), fun i hi => ?_⟩
        rcases List.mem_append.1 hi with h3 | h3
        · exact h2 i h3
        · rw [List.mem_singleton.1 h3, bdL_B, bdF_B]
          exact ⟨h1 hon, hx⟩
      · exact ⟨fun _ => hx, h2⟩
      · exact ⟨fun _ => h1 hon, h2⟩
/-- The law of sweeping. -/
theorem sws_law (hs : ∀ p q : Nat, p < q → q < l.length → bLe (gi l (p : Int)).b (gi l (q : Int)).b) (hk : kp false false = false) (h0 : (sws kp l l.length).n0 = 0) (h1 : (sws kp l l.length).n1 = 0) :
    (∀ t, (∃ i ∈ (sws kp l l.length).out, memI i t) ↔ keeps kp l t = true) ∧ (sws kp l l.length).out.Pairwise (fun i j => bLt (bdL i) (bdF j)) ∧ ∀ i ∈ (sws kp l l.length).out, bLt (bdF i) (bdL i) := by
  have hi := sws_inv hs hk l.length (Nat.le_refl _)
  have hon : (sws kp l l.length).on = false := by
    rcases hl : l.length with _ | m
    · rfl
    · rw [hl] at h0 h1
      rw [sws_n0] at h0
      rw [sws_n1] at h1
      rw [sws]
      simp only
      rw [if_neg (fun h => by omega), h0, h1]
      exact hk
  refine ⟨fun t => ?_, hi.pw, hi.v⟩
  rw [← hi.h t (fun h => absurd h (Nat.lt_irrefl _)), hon]
  exact ⟨.inl, fun h => h.resolve_right (fun h => by cases h.1)⟩
end
def sumT (d : Ev → Int) : List Ev → Int
  | [] => 0
  | x :: l => d x + sumT d l
theorem sumT_app (d : Ev → Int) : ∀ l m, sumT d (l ++ m) = sumT d l + sumT d m
  | [], m => by simp [sumT]
  | x :: l, m => by rw [List.cons_append, sumT, sumT, sumT_app d l m]; omega
theorem sumT_perm {d : Ev → Int} {l m : List Ev} (h : l.Perm m) : sumT d l = sumT d m := by
  induction h with
  | nil => rfl
  | cons x _ ih => rw [sumT, sumT, ih]
  | swap x y l => simp only [sumT]; omega
  | trans _ _ h1 h2 => exact h1.trans h2
theorem sumT_take {d : Ev → Int} {l : List Ev} (f : Nat → Int) (h0 : f 0 = 0) (hs : ∀ m, f (m + 1) = f m + d (gi l (m : Int))) : ∀ k, k ≤ l.length → sumT d (l.take k) = f k
  | 0, _ => by simp [sumT, h0]
  | k + 1, hk => by
    rw [take_snoc (by omega), sumT_app, sumT_take f h0 hs k (by omega), hs]
    simp [sumT]
theorem sws_sum (kp : Bool → Bool → Bool) (l : List Ev) : (sws kp l l.length).n0 = sumT Ev.n0 l ∧ (sws kp l l.length).n1 = sumT Ev.n1 l := by
  constructor
  · rw [← sumT_take (l := l) (fun m => (sws kp l m).n0) rfl sws_n0 l.length (Nat.le_refl _), List.take_length]
  · rw [← sumT_take (l := l) (fun m => (sws kp l m).n1) rfl sws_n1 l.length (Nat.le_refl _), List.take_length]
theorem ev_sum (is : List R_api_Interval) : ∀ m, (sumT Ev.n0 (evA is m) = 0 ∧ sumT Ev.n1 (evA is m) = 0) ∧ sumT Ev.n0 (evB is m) = 0 ∧ sumT Ev.n1 (evB is m) = 0
  | 0 => by simp [evA, evB, sumT]
  | m + 1 => by
    obtain ⟨⟨h1, h2⟩, h3, h4⟩ := ev_sum is m
    rw [evA, evB, sumT_app, sumT_app, sumT_app, sumT_app, h1, h2, h3, h4]
    simp [sumT]
theorem cnt_iv {i : R_api_Interval} (h : bLe (bdF i) (bdL i)) (t : Rat) : (open Classical in (if bAt (bdF i) t then (1 : Int) else 0) + ((if bAt (bdL i) t then -1 else 0) + 0)) = (open Classical in if memI i t then 1 else 0) := by
  have := memI_at (I := i) (t := t)
  have h2 := fun k => bAt_le (t := t) h k
  by_cases h3 : bAt (bdF i) t <;> by_cases h4 : bAt (bdL i) t <;> simp_all
theorem ite_z (p : Prop) [Decidable p] : (if p then (0 : Int) else 0) = 0 := by split <;> rfl
theorem cnt_evA {is : List R_api_Interval} (h : ∀ i ∈ is, bLe (bdF i) (bdL i)) (t : Rat) : ∀ m, m ≤ is.length → cntT Ev.n1 t (evA is m) = 0 ∧ 0 ≤ cntT Ev.n0 t (evA is m) ∧ (0 < cntT Ev.n0 t (evA is m) ↔ ∃ j : Nat, j < m ∧ memI (gi is (j : Int)) t)
  | 0, _ => by simp [evA, cntT]
  | m + 1, hm => by
    obtain ⟨h1, h2, h3⟩ := cnt_evA h t m (by omega)
    have h4 := cnt_iv (h _ (gi_mem (xs := is) (i := (m : Int)) (by omega))) t
    have e : (∃ j : Nat, j < m + 1 ∧ memI (gi is (j : Int)) t) ↔ (∃ j : Nat, j < m ∧ memI (gi is (j : Int)) t) ∨ memI (gi is (m : Int)) t := by
      constructor
      · rintro ⟨j, hj, hm⟩
        by_cases e : j = m
        · exact .inr (e ▸ hm)
        · exact .inl ⟨j, by omega, hm⟩
      · rintro (⟨j, hj, hm⟩ | hm)
        · exact ⟨j, by omega, hm⟩
        · exact ⟨m, by omega, hm⟩
    rw [e, ← h3, evA, cntT_app, cntT_app, h1]
    simp only [cntT, ite_z]
    rw [h4]
    refine ⟨by omega, ?_⟩
    by_cases h5 : memI (gi is (m : Int)) t
    · rw [if_pos h5]; exact ⟨by omega, by simp only [h5, or_true, iff_true]; omega⟩
    · rw [if_neg h5]; exact ⟨by omega, by simp only [h5, or_false]; omega⟩
theorem cnt_evB {is : List R_api_Interval} (h : ∀ i ∈ is, bLe (bdF i) (bdL i)) (t : Rat) : ∀ m, m ≤ is.length → cntT Ev.n0 t (evB is m) = 0 ∧ 0 ≤ cntT Ev.n1 t (evB is m) ∧ (0 < cntT Ev.n1 t (evB is m) ↔ ∃ j : Nat, j < m ∧ memI (gi is (j : Int)) t)
  | 0, _ => by simp [evB, cntT]
  | m + 1, hm => by
    obtain ⟨h1, h2, h3⟩ := cnt_evB h t m (by omega)
    have h4 := cnt_iv (h _ (gi_mem (xs := is) (i := (m : Int)) (by omega))) t
    have e : (∃ j : Nat, j < m + 1 ∧ memI (gi is (j : Int)) t) ↔ (∃ j : Nat, j < m ∧ memI (gi is (j : Int)) t) ∨ memI (gi is (m : Int)) t := by
      constructor
      · rintro ⟨j, hj, hm⟩
        by_cases e : j = m
        · exact .inr (e ▸ hm)
        · exact .inl ⟨j, by omega, hm⟩
      · rintro (⟨j, hj, hm⟩ | hm)
        · exact ⟨j, by omega, hm⟩
        · exact ⟨m, by omega, hm⟩
    rw [e, ← h3, evB, cntT_app, cntT_app, h1]
    simp only [cntT, ite_z]
    rw [h4]
    refine ⟨by omega, ?_⟩
    by_cases h5 : memI (gi is (m : Int)) t
    · rw [if_pos h5]; exact ⟨by omega, by simp only [h5, or_true, iff_true]; omega⟩
    · rw [if_neg h5]; exact ⟨by omega, by simp only [h5, or_false]; omega⟩
theorem ex_gi {is : List R_api_Interval} {t : Rat} : (∃ j : Nat, j < is.length ∧ memI (gi is (j : Int)) t) ↔ ∃ i ∈ is, memI i t := by
  constructor
  · rintro ⟨j, hj, hm⟩
    exact ⟨_, gi_mem (xs := is) (i := (j : Int)) (by omega), hm⟩
  · rintro ⟨i, hi, hm⟩
    obtain ⟨j, hj, rfl⟩ := List.getElem_of_mem hi
    exact ⟨j, hj, by rw [gi_nat hj]; exact hm⟩
theorem swp_GE (xs : List Ev) (j : Nat) : swpE xs j = swpG xs j := rfl
theorem dwn_GE : ∀ (j : Nat) (xs : List Ev), dwnE xs j = dwnG cmpE xs j
  | 0, _ => rfl
  | j + 1, xs => by rw [dwnE, dwnG, dwn_GE j, swp_GE]
theorem srt_GE (xs : List Ev) : ∀ i, srtE xs i = srtG cmpE xs i
  | 0 => rfl
  | i + 1 => by rw [srtE, srtG, dwn_GE, srt_GE xs i]
theorem srtE_perm (xs : List Ev) : (srtE xs (xs.length - 1)).Perm xs := by
  rcases xs with _ | ⟨u, us⟩
  · exact .refl _
  · rw [srt_GE]
    exact srtG_perm _ _ _ (by simp)
theorem srtE_ord (xs : List Ev) (p q : Nat) (hpq : p < q) (hq : q < (srtE xs (xs.length - 1)).length) : bLe (gi (srtE xs (xs.length - 1)) (p : Int)).b (gi (srtE xs (xs.length - 1)) (q : Int)).b := by
  rw [(srtE_perm xs).length_eq] at hq
  rw [srt_GE]
  exact srtG_ord (c := cmpE) (le := fun x y => bLe x.b y.b) (fun _ _ => cmpB_lt) (fun _ _ => cmpB_ge) (fun _ _ _ => bLe_tr) xs (xs.length - 1) (by omega) p q hpq (by omega)
theorem evK2 (is js : List R_api_Interval) : evK is js 2 = evA is is.length ++ evB js js.length := rfl
/-- The law of the operations on periods: which instants the result has, and that its intervals lie apart. -/
theorem swpR_law {kp : Bool → Bool → Bool} (hk : kp false false = false) {is js : List R_api_Interval} (h : ∀ i ∈ is, bLe (bdF i) (bdL i)) (h' : ∀ i ∈ js, bLe (bdF i) (bdL i)) :
    (∀ t, (∃ i ∈ swpR kp is js, memI i t) ↔ (open Classical in kp (decide (∃ i ∈ is, memI i t)) (decide (∃ i ∈ js, memI i t))) = true) ∧ (swpR kp is js).Pairwise (fun i j => bLt (bdL i) (bdF j)) ∧ ∀ i ∈ swpR kp is js, bLt (bdF i) (bdL i) := by
  have hp := srtE_perm (evK is js 2)
  obtain ⟨h1, h2⟩ := sws_sum kp (srtE (evK is js 2) ((evK is js 2).length - 1))
  obtain ⟨⟨a1, a2⟩, a3, a4⟩ := ev_sum is is.length
  obtain ⟨⟨b1, b2⟩, b3, b4⟩ := ev_sum js js.length
  rw [sumT_perm hp, evK2, sumT_app, a1, b3] at h1
  rw [sumT_perm hp, evK2, sumT_app, a2, b4] at h2
  obtain ⟨h3, h4, h5⟩ := sws_law (kp := kp) (srtE_ord (evK is js 2)) hk (by rw [evK2]; exact h1) (by rw [evK2]; exact h2)
  refine ⟨fun t => ?_, h4, h5⟩
  rw [swpR, h3 t, keeps, cntT_perm hp, cntT_perm hp, evK2, cntT_app, cntT_app]
  obtain ⟨c1, c2, c3⟩ := cnt_evA h t is.length (Nat.le_refl _)
  obtain ⟨d1, d2, d3⟩ := cnt_evB h' t js.length (Nat.le_refl _)
  rw [c1, d1, Int.add_zero, Int.zero_add]
  rw [ex_gi] at c3 d3
  rw [show decide (0 < cntT Ev.n0 t (evA is is.length)) = (open Classical in decide (∃ i ∈ is, memI i t)) from decide_eq_decide.2 c3, show decide (0 < cntT Ev.n1 t (evB js js.length)) = (open Classical in decide (∃ i ∈ js, memI i t)) from decide_eq_decide.2 d3]
theorem evA_bd {Pb : Bd → Prop} {is : List R_api_Interval} (h : ∀ i ∈ is, Pb (bdF i) ∧ Pb (bdL i)) : ∀ m, m ≤ is.length → (∀ x ∈ evA is m, Pb x.b) ∧ ∀ x ∈ evB is m, Pb x.b
  | 0, _ => ⟨fun x hx => (by cases hx), fun x hx => (by cases hx)⟩
  | m + 1, hm => by
    obtain ⟨h1, h2⟩ := evA_bd h m (by omega)
    obtain ⟨h3, h4⟩ := h _ (gi_mem (xs := is) (i := (m : Int)) (by omega))
    constructor
    · intro x hx
      rw [evA] at hx
      rcases List.mem_append.1 hx with h5 | h5
      · exact h1 x h5
      · rcases List.mem_cons.1 h5 with rfl | h5
        · exact h3
        · rw [List.mem_singleton.1 h5]; exact h4
    · intro x hx
      rw [evB] at hx
      rcases List.mem_append.1 hx with h5 | h5
      · exact h2 x h5
      · rcases List.mem_cons.1 h5 with rfl | h5
        · exact h3
        · rw [List.mem_singleton.1 h5]; exact h4
theorem swpR_bd {Pb : Bd → Prop} (kp : Bool → Bool → Bool) {is js : List R_api_Interval} (h : ∀ i ∈ is, Pb (bdF i) ∧ Pb (bdL i)) (h' : ∀ i ∈ js, Pb (bdF i) ∧ Pb (bdL i)) : ∀ i ∈ swpR kp is js, Pb (bdF i) ∧ Pb (bdL i) := by
  refine (sws_bd (kp := kp) (l := srtE (evK is js 2) ((evK is js 2).length - 1)) (Pb := Pb) (fun x hx => ?_) _ (Nat.le_refl _)).2
  have hx := (srtE_perm (evK is js 2)).mem_iff.1 hx
  rw [evK2] at hx
  rcases List.mem_append.1 hx with h1 | h1
  · exact (evA_bd h is.length (Nat.le_refl _)).1 x h1
  · exact (evA_bd h' js.length (Nat.le_refl _)).2 x h1
end Go.Vt
/- Periods as functions with one value; the period during which a car is somewhere. Conditions: those that each statement names. -/
set_option linter.unusedSimpArgs false
set_option linter.unusedVariables false
set_option maxHeartbeats 2000000
set_option maxRecDepth 100000
set_option linter.unusedSectionVars false
namespace Go.Vt
open Go.RowKit Go.Proofs
open Fv (va red)
instance fvU : Fv Unit Rat Unit := ⟨fun _ _ => (), fun f _ => f, fun _ _ => rfl, fun _ _ _ _ => rfl, fun _ _ _ _ _ _ => rfl⟩
def absI (I : R_api_Interval) : GU Rat Unit := ⟨I.From.P, I.To.P, I.OpenFrom, I.OpenTo, ()⟩
/-- Intervals that lie apart, in order. -/
structure Sep (l : List R_api_Interval) : Prop where
  p : l.Pairwise (fun i j => bLt (bdL i) (bdF j))
  v : ∀ i ∈ l, bLt (bdF i) (bdL i)
theorem okI_bd {i : R_api_Interval} : okI i ↔ bLt (bdF i) (bdL i) := by
  unfold okI bLt bdF bdL
  rcases i.OpenFrom <;> rcases i.OpenTo <;> simp
theorem okI_le {i : R_api_Interval} (h : okI i) : bLe (bdF i) (bdL i) := (okI_bd.1 h).le
theorem Sep.nf {l : List R_api_Interval} (h : Sep l) : NF (l.map absI) := by
  refine ⟨fun u hu => ?_, fun u hu _ => rfl, ?_⟩
  · obtain ⟨i, hi, rfl⟩ := List.mem_map.1 hu
    exact okI_bd.2 (h.v i hi)
  · rw [List.pairwise_map]
    refine List.Pairwise.imp_of_mem (fun {i j} hi hj hb => ?_) h.p
    have hv := okI_bd.2 (h.v i hi)
    unfold okI at hv
    unfold bLt bdL bdF at hb
    rcases hb with hb | ⟨e, h1, h2⟩
    · have hb : i.To.P < j.From.P := hb
      exact ⟨.inl hb, fun e => absurd (show i.To.P = j.From.P from e) (by grind), fun e => absurd (show i.To.P = j.From.P from e) (by grind), fun e => absurd (show i.To.P = j.From.P from e) (by grind)⟩
    · have e : i.To.P = j.From.P := e
      have h1 : i.OpenTo = true := by simpa using h1
      have h2 : j.OpenFrom = true := h2
      exact ⟨.inr ⟨e, .inl h1⟩, fun _ k => absurd (show i.OpenTo = false from k) (by simp [h1]), fun _ k => absurd (show j.OpenFrom = false from k) (by simp [h2]), fun _ k => absurd (show i.From.P = i.To.P from k) (hv.elim (fun hv => by grind) (fun hv => by rw [h1] at hv; cases hv.2.2))⟩
theorem has_absI {l : List R_api_Interval} {t : Rat} {v : Unit} : Has (l.map absI) t v ↔ ∃ i ∈ l, memI i t := by
  constructor
  · rintro ⟨u, hu, hm, _⟩
    obtain ⟨i, hi, rfl⟩ := List.mem_map.1 hu
    exact ⟨i, hi, hm⟩
  · rintro ⟨i, hi, hm⟩
    exact ⟨absI i, List.mem_map.2 ⟨i, hi, rfl⟩, hm, rfl⟩
theorem Sep.uniq {l m : List R_api_Interval} (h : Sep l) (k : Sep m) (H : ∀ t, (∃ i ∈ l, memI i t) ↔ ∃ i ∈ m, memI i t) : l.map absI = m.map absI :=
  NF.uniq h.nf k.nf (fun t v => by rw [has_absI, has_absI]; exact H t)
theorem Sep.len {l m : List R_api_Interval} (h : Sep l) (k : Sep m) (H : ∀ t, (∃ i ∈ l, memI i t) ↔ ∃ i ∈ m, memI i t) : l.length = m.length := by
  rw [← List.length_map (f := absI), h.uniq k H, List.length_map]
theorem Sep.lt {l : List R_api_Interval} (h : Sep l) {i j : Nat} (hij : i < j) (hj : j < l.length) : bLt (bdL (gi l (i : Int))) (bdF (gi l (j : Int))) := by
  rw [gi_nat hj, gi_nat (by omega : i < l.length)]
  exact (List.pairwise_iff_getElem.1 h.p) i j (by omega) hj hij
theorem Sep.ok {l : List R_api_Interval} (h : Sep l) {i : Nat} (hi : i < l.length) : bLt (bdF (gi l (i : Int))) (bdL (gi l (i : Int))) := h.v _ (gi_mem (xs := l) (i := (i : Int)) (by omega))
/-- Between two of them lies an instant that is in none. -/
theorem Sep.gap {l : List R_api_Interval} (h : Sep l) {i j : Nat} (hij : i < j) (hj : j < l.length) {t s : Rat} (ht : memI (gi l (i : Int)) t) (hs : memI (gi l (j : Int)) s) : ∃ g, t < g ∧ g < s ∧ ¬ ∃ d ∈ l, memI d g := by
  have hx := h.lt (i := i) (j := i + 1) (by omega) (by omega)
  have hy : bLe (bdF (gi l ((i + 1 : Nat) : Int))) (bdF (gi l (j : Int))) := by
    by_cases e : j = i + 1
    · subst e; exact .inr ⟨rfl, id⟩
    · exact ((h.ok (i := i + 1) (by omega)).le |> fun k => bLe_tr k (h.lt (i := i + 1) (j := j) (by omega) hj).le)
  have h1 := (memI_at.1 ht).2
  have h2 := bAt_le hy (memI_at.1 hs).1
  have key : ∃ g, t < g ∧ g < s ∧ bAt (bdL (gi l (i : Int))) g ∧ ¬ bAt (bdF (gi l ((i + 1 : Nat) : Int))) g := by
    generalize bdL (gi l (i : Int)) = x at *
    generalize bdF (gi l ((i + 1 : Nat) : Int)) = y at *
    unfold bLt at hx
    unfold bAt at h1 h2 ⊢
    rcases hx with hx | ⟨h3, h4, h5⟩
    · exact ⟨(x.at_.P + y.at_.P) / 2, by grind, by grind, by grind, by grind⟩
    · exact ⟨x.at_.P, by grind, by grind, by grind, by grind⟩
  obtain ⟨g, h3, h4, h5, h6⟩ := key
  refine ⟨g, h3, h4, fun ⟨d, hd, hm⟩ => ?_⟩
  obtain ⟨k, hk, rfl⟩ := List.getElem_of_mem hd
  rw [← gi_nat hk] at hm
  obtain ⟨m1, m2⟩ := memI_at.1 hm
  by_cases hki : k ≤ i
  · by_cases e : k = i
    · subst e; exact m2 h5
    · exact m2 (bAt_le (bLe_tr (h.lt (i := k) (j := i) (by omega) (by omega)).le (h.ok (i := i) (by omega)).le) h5)
  · by_cases e : k = i + 1
    · subst e; exact h6 m1
    · exact h6 (bAt_le (bLe_tr (h.ok (i := i + 1) (by omega)).le (h.lt (i := i + 1) (j := k) (by omega) hk).le) m1)
theorem memI_mid {I : R_api_Interval} {s t g : Rat} (hs : memI I s) (ht : memI I t) (h1 : s < g) (h2 : g < t) : memI I g := by
  unfold memI at *
  grind
/-- An interval of a period meets at most two parts of what is left of the period without an interval. -/
theorem no_three {D M : List R_api_Interval} {a b : Rat} {U : R_api_Interval} (hM : Sep M) (hs : ∀ t, (∃ d ∈ M, memI d t) ↔ (∃ d ∈ D, memI d t) ∧ ¬ (a ≤ t ∧ t ≤ b)) (hU : ∀ t, memI U t → ∃ d ∈ D, memI d t) {i j k : Nat} (hij : i < j) (hjk : j < k) (hk : k < M.length) {t1 t2 t3 : Rat}
    (h1 : memI U t1 ∧ memI (gi M (i : Int)) t1) (h2 : memI U t2 ∧ memI (gi M (j : Int)) t2) (h3 : memI U t3 ∧ memI (gi M (k : Int)) t3) : False := by
  obtain ⟨g, g1, g2, g3⟩ := hM.gap hij (by omega) h1.2 h2.2
  obtain ⟨g', g1', g2', g3'⟩ := hM.gap hjk hk h2.2 h3.2
  have e1 := hU g (memI_mid h1.1 h2.1 g1 g2)
  have e2 := hU g' (memI_mid h2.1 h3.1 g1' g2')
  have f1 : a ≤ g ∧ g ≤ b := Classical.byContradiction fun h => g3 ((hs g).2 ⟨e1, h⟩)
  have f2 : a ≤ g' ∧ g' ≤ b := Classical.byContradiction fun h => g3' ((hs g').2 ⟨e2, h⟩)
  exact ((hs t2).1 ⟨_, gi_mem (xs := M) (i := (j : Int)) (by omega), h2.2⟩).2 ⟨by grind, by grind⟩
def ivZ (a b : Int) : R_api_Interval := ⟨⟨(a : Rat), 0, false⟩, ⟨(b : Rat), 0, false⟩, false, false⟩
theorem memI_Z {a b : Int} {t : Rat} : memI (ivZ a b) t ↔ (a : Rat) ≤ t ∧ t ≤ (b : Rat) := by
  unfold memI ivZ
  simp only [and_true]
  grind
theorem bLt_Z {a b c d : Int} : bLt (bdL (ivZ a b)) (bdF (ivZ c d)) ↔ b < c := by
  unfold bLt bdL bdF ivZ
  simp [Rat.intCast_lt_intCast]
theorem ok_Z {a b : Int} (h : a ≤ b) : bLt (bdF (ivZ a b)) (bdL (ivZ a b)) := by
  rcases Int.lt_or_eq_of_le h with h | rfl
  · exact .inl (Rat.intCast_lt_intCast.2 h)
  · exact .inr ⟨rfl, rfl, rfl⟩
structure DjS where
  dn : List (Int × Int)
  f : Int
def dj (T X Y : Int) (ss : List Stp15) : Nat → DjS
  | 0 => ⟨[], 0⟩
  | m + 1 => if (gi ss (m : Int)).Kind % 8 = 0 then ⟨if (tj T X Y ss m).al = true then (dj T X Y ss m).dn else (dj T X Y ss m).dn ++ [((dj T X Y ss m).f, (tj T X Y ss m).t)], 0⟩
    else ⟨(dj T X Y ss m).dn, if (tj T X Y ss m).al = true then (tj T X Y ss m).t else (dj T X Y ss m).f⟩
def djL (d : DjS) (p : TjS) : List (Int × Int) := if p.al = true then d.dn else d.dn ++ [(d.f, p.t)]
def djR (c : viatorlaw15_Car) (ss : List Stp15) : List (Int × Int) := (dj c.Time c.X c.Y ss ss.length).dn ++ [(if (tj c.Time c.X c.Y ss ss.length).al = true then (tj c.Time c.X c.Y ss ss.length).t else (dj c.Time c.X c.Y ss ss.length).f, (tj c.Time c.X c.Y ss ss.length).t)]
structure DjI (d : DjS) (p : TjS) (m : Nat) : Prop where
  n : 2 * d.dn.length + (if p.al = true then 0 else 1) ≤ m
  w : ∀ i ∈ d.dn, i.1 ≤ i.2 ∧ i.2 < p.t
  a : p.al = false → d.f < p.t ∧ (∀ i ∈ d.dn, i.2 < d.f) ∧ 0 < p.out.length
  s : d.dn.Pairwise (fun i j => i.2 < j.1)
  h : ∀ t, (∃ i ∈ djL d p, memI (ivZ i.1 i.2) t) ↔ ∃ u ∈ p.out, memI u.In t
theorem dj_inv {T X Y : Int} {ss : List Stp15} (h : ∀ s ∈ ss, StOk s) : ∀ m, m ≤ ss.length → DjI (dj T X Y ss m) (tj T X Y ss m) m
  | 0, _ => ⟨by simp [dj, tj], fun i hi => (by cases hi), fun h => (by cases h), List.Pairwise.nil, fun t => by simp [djL, dj, tj]⟩
  | m + 1, hm => by
    have ih := dj_inv (T := T) (X := X) (Y := Y) h m (by omega)
    have hs := (h _ (gi_mem (i := (m : Int)) (xs := ss) (by omega))).t
    rw [dj, tj]
    generalize dj T X Y ss m = d at *
    generalize tj T X Y ss m = p at *
    generalize gi ss (m : Int) = s at *
    have ⟨i1, i2, i3, i4, i5⟩ := ih
    by_cases hk : s.Kind % 8 = 0
    · simp only [hk, if_true, decide_true]
      rcases ha : p.al with _ | _ <;> rw [ha] at i1 <;> simp only [ha, djL, if_true, if_false, Bool.false_eq_true] at i1 i5 ⊢
      · obtain ⟨a1, a2, a3⟩ := i3 ha
        refine ⟨?_, fun i hi => ?_, fun h => (by cases h), ?_, fun t => ?_⟩
        · simp only [List.length_append, List.length_singleton, if_true]
          omega
        · rcases List.mem_append.1 hi with h1 | h1
          · have := i2 i h1; simp only; omega
          · rw [List.mem_singleton.1 h1]; simp only; omega
        · rw [List.pairwise_append]
          refine ⟨i4, List.pairwise_singleton _ _, fun i hi j hj => ?_⟩
          rw [List.mem_singleton.1 hj]
          exact a2 i hi
        · exact i5 t
      · exact ⟨by simp only [if_true]; omega, fun i hi => by have := i2 i hi; simp only; omega, fun h => (by cases h), i4, fun t => i5 t⟩
    · simp only [hk, if_false, decide_false]
      have hu : ∀ t, (∃ u ∈ p.out ++ [tjU p s], memI u.In t) ↔ (∃ u ∈ p.out, memI u.In t) ∨ memI (tjU p s).In t := fun t => by
        constructor
        · rintro ⟨u, hu, hm⟩
          rcases List.mem_append.1 hu with h1 | h1
          · exact .inl ⟨u, h1, hm⟩
          · rw [List.mem_singleton.1 h1] at hm; exact .inr hm
        · rintro (⟨u, hu, hm⟩ | hm)
          · exact ⟨u, List.mem_append_left _ hu, hm⟩
          · exact ⟨_, List.mem_append_right _ (.head _), hm⟩
      have hc : ((p.t : Int) : Rat) < ((p.t + 1 + s.Time % 8 : Int) : Rat) := Rat.intCast_lt_intCast.2 (by omega)
      rcases ha : p.al with _ | _ <;> rw [ha] at i1 <;> simp only [ha, djL, if_true, if_false, Bool.false_eq_true] at i1 i5 ⊢
      · obtain ⟨a1, a2, a3⟩ := i3 ha
        refine ⟨by simp only [Bool.false_eq_true, if_false]; omega, fun i hi => by have := i2 i hi; simp only; omega, fun _ => ⟨by simp only; omega, a2, by simp⟩, i4, fun t => ?_⟩
        rw [hu, ← i5]
        have hf : ((d.f : Int) : Rat) < ((p.t : Int) : Rat) := Rat.intCast_lt_intCast.2 a1
        have e : memI (tjU p s).In t ↔ ((p.t : Int) : Rat) < t ∧ t ≤ ((p.t + 1 + s.Time % 8 : Int) : Rat) := by
          unfold memI tjU
          have : decide ((0 : Int) < p.out.length) = true := decide_eq_true (by omega)
          simp only [ha, this]
          simp
          grind
        rw [e]
        constructor
        · rintro ⟨i, hi, hm⟩
          rcases List.mem_append.1 hi with h1 | h1
          · exact .inl ⟨i, List.mem_append_left _ h1, hm⟩
          · rw [List.mem_singleton.1 h1, memI_Z] at hm
            simp only at hm
            by_cases h2 : t ≤ ((p.t : Int) : Rat)
            · exact .inl ⟨(d.f, p.t), List.mem_append_right _ (.head _), memI_Z.2 ⟨hm.1, h2⟩⟩
            · exact .inr ⟨by grind, hm.2⟩
        · rintro (⟨i, hi, hm⟩ | hm)
          · rcases List.mem_append.1 hi with h1 | h1
            · exact ⟨i, List.mem_append_left _ h1, hm⟩
            · rw [List.mem_singleton.1 h1, memI_Z] at hm
              simp only at hm
              exact ⟨_, List.mem_append_right _ (.head _), memI_Z.2 ⟨hm.1, by simp only; grind⟩⟩
          · exact ⟨_, List.mem_append_right _ (.head _), memI_Z.2 ⟨by simp only; grind, hm.2⟩⟩
      · refine ⟨by simp only [Bool.false_eq_true, if_false]; omega, fun i hi => by have := i2 i hi; simp only; omega, fun _ => ⟨by simp only; omega, fun i hi => (i2 i hi).2, by simp⟩, i4, fun t => ?_⟩
        rw [hu, ← i5]
        have e : memI (tjU p s).In t ↔ memI (ivZ p.t (p.t + 1 + s.Time % 8)) t := by
          unfold memI tjU ivZ
          simp [ha]
        rw [e]
        constructor
        · rintro ⟨i, hi, hm⟩
          rcases List.mem_append.1 hi with h1 | h1
          · exact .inl ⟨i, h1, hm⟩
          · rw [List.mem_singleton.1 h1] at hm
            exact .inr hm
        · rintro (⟨i, hi, hm⟩ | hm)
          · exact ⟨i, List.mem_append_left _ hi, hm⟩
          · exact ⟨_, List.mem_append_right _ (.head _), hm⟩
theorem djR_law {c : viatorlaw15_Car} {ss : List Stp15} (h : ∀ s ∈ ss, StOk s) : 2 * (djR c ss).length ≤ ss.length + 2 ∧ Sep ((djR c ss).map fun i => ivZ i.1 i.2) ∧ ∀ t, (∃ i ∈ (djR c ss).map fun i => ivZ i.1 i.2, memI i t) ↔ ∃ u ∈ tjR c ss, memI u.In t := by
  have ih := dj_inv (T := c.Time) (X := c.X) (Y := c.Y) h ss.length (Nat.le_refl _)
  unfold djR tjR
  generalize dj c.Time c.X c.Y ss ss.length = d at *
  generalize tj c.Time c.X c.Y ss ss.length = p at *
  have ⟨i1, i2, i3, i4, i5⟩ := ih
  have hmp : ∀ {l : List (Int × Int)} {t : Rat}, (∃ i ∈ l.map fun i => ivZ i.1 i.2, memI i t) ↔ ∃ i ∈ l, memI (ivZ i.1 i.2) t := by
    intro l t
    constructor
    · rintro ⟨i, hi, hm⟩
      obtain ⟨j, hj, rfl⟩ := List.mem_map.1 hi
      exact ⟨j, hj, hm⟩
    · rintro ⟨i, hi, hm⟩
      exact ⟨_, List.mem_map.2 ⟨i, hi, rfl⟩, hm⟩
  have hsep : ∀ f : Int, f ≤ p.t → (∀ i ∈ d.dn, i.2 < f) → Sep ((d.dn ++ [(f, p.t)]).map fun i => ivZ i.1 i.2) := fun f h1 h2 => by
    refine ⟨?_, fun i hi => ?_⟩
    · rw [List.pairwise_map, List.pairwise_append]
      refine ⟨i4.imp fun h => bLt_Z.2 h, List.pairwise_singleton _ _, fun i hi j hj => ?_⟩
      rw [List.mem_singleton.1 hj]
      exact bLt_Z.2 (h2 i hi)
    · obtain ⟨j, hj, rfl⟩ := List.mem_map.1 hi
      rcases List.mem_append.1 hj with h3 | h3
      · exact ok_Z (i2 j h3).1
      · rw [List.mem_singleton.1 h3]; exact ok_Z h1
  rcases ha : p.al with _ | _ <;> rw [ha] at i1 <;> simp only [ha, djL, if_true, if_false, Bool.false_eq_true] at i1 i5 ⊢
  · obtain ⟨a1, a2, a3⟩ := i3 ha
    refine ⟨by rw [List.length_append]; simp only [List.length_singleton]; omega, hsep d.f (by omega) a2, fun t => ?_⟩
    rw [hmp]
    exact i5 t
  · refine ⟨by rw [List.length_append]; simp only [List.length_singleton]; omega, hsep p.t (Int.le_refl _) (fun i hi => (i2 i hi).2), fun t => ?_⟩
    rw [hmp]
    constructor
    · rintro ⟨i, hi, hm⟩
      rcases List.mem_append.1 hi with h1 | h1
      · obtain ⟨u, hu, hm⟩ := (i5 t).1 ⟨i, h1, hm⟩
        exact ⟨u, List.mem_append_left _ hu, hm⟩
      · rw [List.mem_singleton.1 h1] at hm
        exact ⟨_, List.mem_append_right _ (.head _), hm⟩
    · rintro ⟨u, hu, hm⟩
      rcases List.mem_append.1 hu with h1 | h1
      · obtain ⟨i, hi, hm⟩ := (i5 t).2 ⟨u, h1, hm⟩
        exact ⟨i, List.mem_append_left _ hi, hm⟩
      · rw [List.mem_singleton.1 h1] at hm
        exact ⟨_, List.mem_append_right _ (.head _), hm⟩
end Go.Vt
/- The runs of a moving point: plain. Conditions: those that each statement names. -/
set_option linter.unusedSimpArgs false
set_option linter.unusedVariables false
set_option maxHeartbeats 2000000
set_option maxRecDepth 100000
namespace Go.Vt
open Go.RowKit Go.Proofs
open Fv (va red)
abbrev absP (u : PU) : GU Rat R_api_Line := absU (toU u)
def smq (f : R_api_Line) (t : R_api_Real) : SS := ⟨t.P, pos f t.P⟩
/-- Do two neighbouring units meet at a turn? -/
def trn (a b : PU) : Bool := decide (a.In.To = b.In.From) && ((!a.In.OpenTo || !b.In.OpenFrom) && smL a.F b.F b.In.From.P)
structure RnS where
  dn : List (R_api_Interval × List SS)
  I : R_api_Interval
  P : List SS
def rnD (s : RnS) : List (R_api_Interval × List SS) := if s.P = [] then s.dn else s.dn ++ [(s.I, s.P)]
def rnI (u : PU) (I : R_api_Interval) : R_api_Interval := ⟨I.From, u.In.To, I.OpenFrom, u.In.OpenTo⟩
def rnP (u : PU) (P : List SS) : List SS := if u.In.From = u.In.To then P else P ++ [smq u.F u.In.To]
def rn (c : Nat → Bool) (l : List PU) : Nat → RnS
  | 0 => ⟨[], zR_api_Interval, []⟩
  | m + 1 => if c m = true then ⟨rnD (rn c l m), rnI (gi l (m : Int)) (gi l (m : Int)).In, rnP (gi l (m : Int)) [smq (gi l (m : Int)).F (gi l (m : Int)).In.From]⟩
    else ⟨(rn c l m).dn, rnI (gi l (m : Int)) (rn c l m).I, rnP (gi l (m : Int)) (rn c l m).P⟩
/-- Does a run begin here? -/
def fstU (l : List PU) (m : Nat) : Bool := decide (m = 0) || !trn (gi l ((m - 1 : Nat) : Int)) (gi l (m : Int))
def rns (c : Nat → Bool) (l : List PU) : List (R_api_Interval × List SS) := rnD (rn c l l.length)
/-- The instants at which units meet at a turn. -/
def tns (l : List PU) : Nat → List R_api_Real
  | 0 => []
  | m + 1 => if 0 < m ∧ trn (gi l ((m - 1 : Nat) : Int)) (gi l (m : Int)) = true ∧ ¬ (tns l m).getLast? = some (gi l (m : Int)).In.From then tns l m ++ [(gi l (m : Int)).In.From] else tns l m
theorem tns_mem {l : List PU} {t : R_api_Real} : ∀ {m : Nat}, t ∈ tns l m ↔ ∃ j, 0 < j ∧ j < m ∧ trn (gi l ((j - 1 : Nat) : Int)) (gi l (j : Int)) = true ∧ t = (gi l (j : Int)).In.From
  | 0 => by
    constructor
    · intro h; cases h
    · rintro ⟨j, _, h, _⟩; omega
  | m + 1 => by
    have ih := tns_mem (l := l) (t := t) (m := m)
    have hs : (∃ j, 0 < j ∧ j < m + 1 ∧ trn (gi l ((j - 1 : Nat) : Int)) (gi l (j : Int)) = true ∧ t = (gi l (j : Int)).In.From) ↔ t ∈ tns l m ∨ (0 < m ∧ trn (gi l ((m - 1 : Nat) : Int)) (gi l (m : Int)) = true ∧ t = (gi l (m : Int)).In.From) := by
      rw [ih]
      constructor
      · rintro ⟨j, h1, h2, h3, h4⟩
        rcases (by omega : j < m ∨ j = m) with h5 | h5
        · exact .inl ⟨j, h1, h5, h3, h4⟩
        · subst h5; exact .inr ⟨h1, h3, h4⟩
      · rintro (⟨j, h1, h2, h3, h4⟩ | ⟨h1, h3, h4⟩)
        · exact ⟨j, h1, by omega, h3, h4⟩
        · exact ⟨m, h1, by omega, h3, h4⟩
    rw [hs, tns]
    split
    · rename_i h
      rw [List.mem_append, List.mem_singleton]
      constructor
      · rintro (h1 | h1)
        · exact .inl h1
        · exact .inr ⟨h.1, h.2.1, h1⟩
      · rintro (h1 | ⟨h1, h2, h3⟩)
        · exact .inl h1
        · exact .inr h3
    · rename_i h
      constructor
      · exact .inl
      · rintro (h1 | ⟨h1, h2, h3⟩)
        · exact h1
        · have h4 : (tns l m).getLast? = some (gi l (m : Int)).In.From := Classical.byContradiction fun k => h ⟨h1, h2, k⟩
          rw [h3]
          exact List.mem_of_getLast? h4
theorem tns_len (l : List PU) : ∀ m, (tns l m).length ≤ m
  | 0 => Nat.le_refl _
  | m + 1 => by
    have := tns_len l m
    rw [tns]
    split
    · rw [List.length_append]; simp; exact this
    · omega
/-- The units of a moving point in normal form. -/
structure PNf (l : List PU) : Prop where
  nf : NF (l.map absP)
  rf : ∀ u ∈ l, RtOk u.In.From ∧ RtOk u.In.To
section
variable {l : List PU}
theorem PNf.g (h : PNf l) {i : Nat} (hi : i < l.length) : RtOk (gi l (i : Int)).In.From ∧ RtOk (gi l (i : Int)).In.To := h.rf _ (gi_mem (by omega))
theorem PNf.ok (h : PNf l) {i : Nat} (hi : i < l.length) : (absP (gi l (i : Int))).ok := h.nf.ok _ (List.mem_map.2 ⟨_, gi_mem (by omega), rfl⟩)
theorem PNf.rd (h : PNf l) {i : Nat} (hi : i < l.length) : (absP (gi l (i : Int))).a = (absP (gi l (i : Int))).b → (gi l (i : Int)).F = red (gi l (i : Int)).F (gi l (i : Int)).In.From.P := h.nf.rd _ (List.mem_map.2 ⟨_, gi_mem (by omega), rfl⟩)
theorem PNf.ad (h : PNf l) {i j : Nat} (hij : i < j) (hj : j < l.length) : Adj (absP (gi l (i : Int))) (absP (gi l (j : Int))) := by
  have h1 := List.pairwise_iff_getElem.1 h.nf.pw i j (by rw [List.length_map]; omega) (by rw [List.length_map]; omega) hij
  rw [List.getElem_map, List.getElem_map, ← gi_nat (by omega), ← gi_nat hj] at h1
  exact h1
theorem rt_of {x y : R_api_Real} (hx : RtOk x) (hy : RtOk y) (h : x.P = y.P) : x = y := by
  obtain ⟨p, r, n⟩ := x
  obtain ⟨p', r', n'⟩ := y
  obtain ⟨h1, h2⟩ := hx
  obtain ⟨h3, h4⟩ := hy
  simp only at h1 h2 h3 h4 h
  rw [h, h1, h2, h3, h4]
theorem rt_is {x : R_api_Real} (hx : RtOk x) : x = ⟨x.P, 0, false⟩ := rt_of hx ⟨rfl, rfl⟩ rfl
/-- At a turn both units are long, the first has the instant. -/
theorem trn_spec (h : PNf l) {i j : Nat} (hij : i < j) (hj : j < l.length) (ht : trn (gi l (i : Int)) (gi l (j : Int)) = true) :
    (gi l (i : Int)).In.To = (gi l (j : Int)).In.From ∧ (gi l (i : Int)).In.OpenTo = false ∧ (gi l (j : Int)).In.OpenFrom = true ∧ (gi l (i : Int)).In.From.P < (gi l (i : Int)).In.To.P ∧ (gi l (j : Int)).In.From.P < (gi l (j : Int)).In.To.P ∧ va (gi l (i : Int)).F (gi l (j : Int)).In.From.P = va (gi l (j : Int)).F (gi l (j : Int)).In.From.P := by
  unfold trn at ht
  simp only [Bool.and_eq_true, decide_eq_true_eq] at ht
  obtain ⟨h1, h2, h3⟩ := ht
  have h3 := smL_iff.1 h3
  have ha := h.ad hij hj
  have k1 := h.ok (i := i) (by omega)
  have k2 := h.ok hj
  have n1 := ha.n1
  have n2 := ha.n2
  have n3 := ha.n3
  have h1' : (gi l (i : Int)).In.To.P = (gi l (j : Int)).In.From.P := by rw [h1]
  unfold GU.ok at k1 k2
  simp only [absP, absU, toU] at k1 k2 n1 n2 n3
  rcases hq : (gi l (j : Int)).In.OpenFrom with _ | _
  · exact absurd h3 (n2 h1' hq)
  · rw [hq] at h2 k2
    have h4 : (gi l (i : Int)).In.OpenTo = false := by simpa using h2
    refine ⟨h1, h4, rfl, ?_, ?_, h3⟩
    · rcases k1 with k1 | k1
      · exact k1
      · exact absurd h3 (n3 h1' k1.1)
    · rcases k2 with k2 | k2
      · exact k2
      · exact absurd k2.2.1 (by simp)
theorem bfr_le (h : PNf l) {i j : Nat} (hij : i < j) (hj : j < l.length) : (gi l (i : Int)).In.To.P ≤ (gi l (j : Int)).In.From.P := by
  have := (h.ad hij hj).bf
  unfold GU.bfr at this
  simp only [absP, absU, toU] at this
  grind
theorem ok_le (h : PNf l) {i : Nat} (hi : i < l.length) : (gi l (i : Int)).In.From.P ≤ (gi l (i : Int)).In.To.P := by
  have := h.ok hi
  unfold GU.ok at this
  simp only [absP, absU, toU] at this
  grind
/-- The program's condition is the reference's. -/
theorem first_iff (h : PNf l) {i : Nat} (hi : i < l.length) : (decide (i = 0) || (!decide ((gi l ((i - 1 : Nat) : Int)).In.To = (gi l (i : Int)).In.From) || !decide ((gi l (i : Int)).In.From ∈ tns l l.length))) = fstU l i := by
  unfold fstU
  by_cases h0 : i = 0
  · simp [h0]
  · rw [decide_eq_false h0, Bool.false_or, Bool.false_or]
    rcases ht : trn (gi l ((i - 1 : Nat) : Int)) (gi l (i : Int)) with _ | _
    · show _ = true
      by_cases h1 : (gi l ((i - 1 : Nat) : Int)).In.To = (gi l (i : Int)).In.From
      · have : ¬ (gi l (i : Int)).In.From ∈ tns l l.length := fun hm => by
          obtain ⟨j, j0, jl, jt, je⟩ := tns_mem.1 hm
          have js := trn_spec h (i := j - 1) (j := j) (by omega) jl jt
          have je' : (gi l (i : Int)).In.From.P = (gi l (j : Int)).In.From.P := by rw [je]
          have h1' : (gi l ((i - 1 : Nat) : Int)).In.To.P = (gi l (i : Int)).In.From.P := by rw [h1]
          have js1 : (gi l ((j - 1 : Nat) : Int)).In.To.P = (gi l (j : Int)).In.From.P := by rw [js.1]
          have js4 := js.2.2.2.1
          have js5 := js.2.2.2.2.1
          rcases (by omega : j = i ∨ j < i ∨ i < j) with k | k | k
          · subst k; rw [ht] at jt; cases jt
          · have := bfr_le h k hi
            have := ok_le h jl
            grind
          · have := ok_le h hi
            rcases (by omega : i = j - 1 ∨ i < j - 1) with k2 | k2
            · subst k2; grind
            · have := bfr_le h k2 (by omega)
              grind
        rw [decide_eq_false this]; simp
      · rw [decide_eq_false h1]; rfl
    · have js := trn_spec h (i := i - 1) (j := i) (by omega) hi ht
      have hm : (gi l (i : Int)).In.From ∈ tns l l.length := tns_mem.2 ⟨i, by omega, hi, ht, rfl⟩
      rw [decide_eq_true js.1, decide_eq_true hm]; rfl
theorem stl_smq {f : R_api_Line} {s t : R_api_Real} (h : s.P < t.P) : stl (smq f s) (smq f t) = f := by
  refine Fv.agree _ _ s.P t.P h fun x h1 h2 => ?_
  show pos (stl (smq f s) (smq f t)) x = pos f x
  rw [stl_pos (a := smq f s) (b := smq f t) h]
  unfold smq pos
  simp only [R_api_Point.mk.injEq]
  have key : (t.P - s.P) * ((x - s.P) / (t.P - s.P)) = x - s.P := by
    rw [Rat.div_def, Rat.mul_comm (x - s.P), ← Rat.mul_assoc, Rat.mul_inv_cancel _ (by grind), Rat.one_mul]
  generalize (x - s.P) / (t.P - s.P) = q at *
  constructor <;> grind
theorem gi_app {α : Type} [Inhabited α] {xs ys : List α} {i : Nat} (h : i < xs.length) : gi (xs ++ ys) (i : Int) = gi xs (i : Int) := by
  rw [gi_nat h, gi_nat (by rw [List.length_append]; omega), List.getElem_append_left h]
theorem gi_snoc {α : Type} [Inhabited α] (xs : List α) (y : α) : gi (xs ++ [y]) (xs.length : Int) = y := by
  rw [gi_nat (by rw [List.length_append]; simp), List.getElem_append_right (Nat.le_refl _)]
  simp
theorem bs_ext {I I' : R_api_Interval} {P : List SS} {s : SS} (h1 : I.OpenFrom = I'.OpenFrom) (h2 : I.OpenTo = false) : ∀ m, m + 1 ≤ P.length → bs I' (P ++ [s]) m = bs I P m
  | 0, _ => rfl
  | m + 1, hm => by
    rw [bs, bs, bs_ext h1 h2 m (by omega)]
    congr 2
    unfold bsU
    rw [gi_app (by omega), gi_app (by omega), h1, h2, List.length_append, List.length_singleton, if_neg (by omega : ¬ m + 2 = P.length + 1)]
    congr 2
    split <;> rfl
def b1s (ps : List (R_api_Interval × List SS)) : List PU := ps.flatMap fun p => b1 p.1 p.2
theorem b1s_snoc (ps : List (R_api_Interval × List SS)) (p : R_api_Interval × List SS) : b1s (ps ++ [p]) = b1s ps ++ b1 p.1 p.2 := by
  unfold b1s
  rw [List.flatMap_append]
  simp
/-- What is known of the runs so far: they make up the units so far. -/
structure RnI (l : List PU) (s : RnS) (m : Nat) : Prop where
  e : b1s (rnD s) = l.take m
  p : 0 < m → 1 ≤ s.P.length
  to : 0 < m → s.I.To = (gi l ((m - 1 : Nat) : Int)).In.To ∧ s.I.OpenTo = (gi l ((m - 1 : Nat) : Int)).In.OpenTo
  la : 0 < m → gi s.P ((s.P.length - 1 : Nat) : Int) = smq (gi l ((m - 1 : Nat) : Int)).F (gi l ((m - 1 : Nat) : Int)).In.To
  lg : 0 < m → (gi l ((m - 1 : Nat) : Int)).In.From.P < (gi l ((m - 1 : Nat) : Int)).In.To.P → 2 ≤ s.P.length
theorem rnD_ne {s : RnS} (h : 1 ≤ s.P.length) : rnD s = s.dn ++ [(s.I, s.P)] := by
  unfold rnD
  rw [if_neg (by intro h0; rw [h0] at h; simp at h)]
theorem one_unit (h : PNf l) {m : Nat} (hm : m < l.length) : b1 (rnI (gi l (m : Int)) (gi l (m : Int)).In) (rnP (gi l (m : Int)) [smq (gi l (m : Int)).F (gi l (m : Int)).In.From]) = [gi l (m : Int)] := by
  have hk := h.ok hm
  have hr := h.rd hm
  have hg := h.g hm
  have hrI : rnI (gi l (m : Int)) (gi l (m : Int)).In = (gi l (m : Int)).In := rfl
  rw [hrI]
  generalize gi l (m : Int) = u at *
  unfold rnP
  by_cases h1 : u.In.From = u.In.To
  · rw [if_pos h1]
    unfold b1
    rw [if_pos (by rfl)]
    have h2 := hr (show u.In.From.P = u.In.To.P by rw [h1])
    congr 1
    obtain ⟨I, F⟩ := u
    simp only [R_api_PointUnit.mk.injEq, true_and]
    exact (show F = lred F I.From.P from h2).symm
  · rw [if_neg h1]
    have hlt : u.In.From.P < u.In.To.P := by
      unfold GU.ok at hk
      simp only [absP, absU, toU] at hk
      rcases hk with hk | hk
      · exact hk
      · exact absurd (rt_of hg.1 hg.2 hk.1) h1
    unfold b1
    rw [if_neg (by simp)]
    show bs _ _ 1 = _
    rw [bs, bs, List.nil_append]
    congr 1
    unfold bsU
    show R_api_PointUnit.mk ⟨⟨u.In.From.P, 0, false⟩, ⟨u.In.To.P, 0, false⟩, u.In.OpenFrom, u.In.OpenTo⟩ (stl (smq u.F u.In.From) (smq u.F u.In.To)) = u
    rw [stl_smq hlt, ← rt_is hg.1, ← rt_is hg.2]
theorem rnP_last (u : PU) (P : List SS) (s : SS) (h : u.In.From = u.In.To → s = smq u.F u.In.To) : gi (rnP u (P ++ [s])) (((rnP u (P ++ [s])).length - 1 : Nat) : Int) = smq u.F u.In.To := by
  unfold rnP
  by_cases h1 : u.In.From = u.In.To
  · rw [if_pos h1, List.length_append, List.length_singleton, Nat.add_sub_cancel, gi_snoc, h h1]
  · rw [if_neg h1, List.length_append, List.length_singleton, Nat.add_sub_cancel, gi_snoc]
theorem rnP_len (u : PU) (P : List SS) : P.length ≤ (rnP u P).length ∧ (rnP u P).length ≤ P.length + 1 ∧ (¬ u.In.From = u.In.To → (rnP u P).length = P.length + 1) := by
  unfold rnP
  split
  · exact ⟨Nat.le_refl _, Nat.le_succ _, fun h => absurd (by assumption) h⟩
  · rw [List.length_append]; simp
theorem rn_inv (h : PNf l) : ∀ m, m ≤ l.length → RnI l (rn (fstU l) l m) m
  | 0, _ => ⟨rfl, fun h => absurd h (by omega), fun h => absurd h (by omega), fun h => absurd h (by omega), fun h => absurd h (by omega)⟩
  | m + 1, hm => by
    have ih := rn_inv h m (by omega)
    have hu := take_snoc (l := l) (m := m) (by omega)
    rw [rn]
    by_cases hc : fstU l m = true
    · rw [if_pos hc]
      have hl := rnP_len (gi l (m : Int)) [smq (gi l (m : Int)).F (gi l (m : Int)).In.From]
      have hlen : 1 ≤ (rnP (gi l (m : Int)) [smq (gi l (m : Int)).F (gi l (m : Int)).In.From]).length := hl.1
      refine ⟨?_, fun _ => hlen, fun _ => ⟨rfl, rfl⟩, fun _ => ?_, fun _ hlt => ?_⟩
      · rw [rnD_ne hlen, b1s_snoc, ih.e, hu, one_unit h (by omega)]
      · exact rnP_last (gi l (m : Int)) [] _ fun k => by rw [k]
      · have hne : ¬ (gi l (m : Int)).In.From = (gi l (m : Int)).In.To := fun k => by
          have hlt : (gi l (m : Int)).In.From.P < (gi l (m : Int)).In.To.P := hlt
          rw [k] at hlt; exact absurd hlt (by grind)
        have h2 := hl.2.2 hne
        show 2 ≤ (rnP (gi l (m : Int)) [smq (gi l (m : Int)).F (gi l (m : Int)).In.From]).length
        rw [h2]; simp
    · rw [if_neg hc]
      have hc' : 0 < m ∧ trn (gi l ((m - 1 : Nat) : Int)) (gi l (m : Int)) = true := by
        unfold fstU at hc
        simp only [Bool.or_eq_true, decide_eq_true_eq, Bool.not_eq_true', not_or] at hc
        exact ⟨by omega, by simpa using hc.2⟩
      obtain ⟨m0, ht⟩ := hc'
      obtain ⟨s1, s2, s3, s4, s5, s6⟩ := trn_spec h (i := m - 1) (j := m) (by omega) (by omega) ht
      have hg := h.g (i := m) (by omega)
      have p1 := ih.p m0
      have p2 := ih.lg m0 s4
      have p3 := ih.la m0
      have p4 := ih.to m0
      have p5 := ih.e
      rw [rnD_ne p1, b1s_snoc] at p5
      generalize rn (fstU l) l m = st at *
      have hne : ¬ (gi l (m : Int)).In.From = (gi l (m : Int)).In.To := fun k => by rw [k] at s5; exact absurd s5 (by grind)
      have hP : rnP (gi l (m : Int)) st.P = st.P ++ [smq (gi l (m : Int)).F (gi l (m : Int)).In.To] := if_neg hne
      have hlen : 1 ≤ (rnP (gi l (m : Int)) st.P).length := by rw [hP]; simp
      refine ⟨?_, fun _ => hlen, fun _ => ⟨rfl, rfl⟩, fun _ => ?_, fun _ _ => ?_⟩
      · rw [rnD_ne hlen, b1s_snoc, hu, ← p5, List.append_assoc]
        congr 1
        show b1 (rnI _ _) (rnP _ _) = b1 st.I st.P ++ _
        rw [hP]
        unfold b1
        rw [if_neg (by rw [List.length_append, List.length_singleton]; omega), if_neg (by omega), List.length_append, List.length_singleton, Nat.add_sub_cancel]
        have e1 : st.P.length = (st.P.length - 1) + 1 := by omega
        rw [show bs (rnI (gi l (m : Int)) st.I) (st.P ++ [smq (gi l (m : Int)).F (gi l (m : Int)).In.To]) st.P.length = bs (rnI (gi l (m : Int)) st.I) (st.P ++ [smq (gi l (m : Int)).F (gi l (m : Int)).In.To]) ((st.P.length - 1) + 1) by rw [← e1]]
        rw [bs, bs_ext (I := st.I) (I' := rnI (gi l (m : Int)) st.I) rfl (p4.2.trans s2) _ (by omega)]
        congr 2
        unfold bsU
        rw [gi_app (by omega), ← e1, gi_snoc, p3, if_neg (by omega), if_pos (by rw [List.length_append, List.length_singleton]; omega)]
        have e2 : smq (gi l ((m - 1 : Nat) : Int)).F (gi l ((m - 1 : Nat) : Int)).In.To = smq (gi l (m : Int)).F (gi l (m : Int)).In.From := by
          rw [s1]
          unfold smq
          congr 1
        rw [e2, stl_smq s5]
        show R_api_PointUnit.mk ⟨⟨(gi l (m : Int)).In.From.P, 0, false⟩, ⟨(gi l (m : Int)).In.To.P, 0, false⟩, true, (gi l (m : Int)).In.OpenTo⟩ (gi l (m : Int)).F = _
        rw [← rt_is hg.1, ← rt_is hg.2, ← s3]
      · show gi (rnP (gi l (m : Int)) st.P) _ = _
        rw [hP, List.length_append, List.length_singleton, Nat.add_sub_cancel, gi_snoc]
        rfl
      · show 2 ≤ (rnP (gi l (m : Int)) st.P).length
        rw [hP, List.length_append]; simp; omega
/-- The runs of a moving point make it up. -/
theorem rns_law (h : PNf l) : b1s (rns (fstU l) l) = l := by
  have := (rn_inv h l.length (Nat.le_refl _)).e
  rw [List.take_length] at this
  exact this
end
theorem rn_len (c : Nat → Bool) (l : List PU) : ∀ m, (rnD (rn c l m)).length ≤ m ∧ (rn c l m).dn.length ≤ m ∧ ((rn c l m).P.length ≤ m + 1) ∧ ∀ p ∈ (rn c l m).dn, p.2.length ≤ m + 1
  | 0 => ⟨Nat.le_refl _, Nat.le_refl _, Nat.zero_le _, fun p hp => by cases hp⟩
  | m + 1 => by
    obtain ⟨h1, h2, h3, h4⟩ := rn_len c l m
    have hD : ∀ p ∈ rnD (rn c l m), p.2.length ≤ m + 1 := fun p hp => by
      unfold rnD at hp
      split at hp
      · exact h4 p hp
      · rcases List.mem_append.1 hp with hp | hp
        · exact h4 p hp
        · rw [List.mem_singleton.1 hp]; exact h3
    have hDl : ∀ s : RnS, (rnD s).length ≤ s.dn.length + 1 := fun s => by unfold rnD; split <;> simp
    rw [rn]
    split
    · have hp := rnP_len (gi l (m : Int)) [smq (gi l (m : Int)).F (gi l (m : Int)).In.From]
      simp only [List.length_singleton] at hp
      refine ⟨Nat.le_trans (hDl _) (by show (rnD (rn c l m)).length + 1 ≤ _; omega), by show (rnD (rn c l m)).length ≤ _; omega, by show (rnP _ _).length ≤ _; omega, fun p hp => by have := hD p hp; omega⟩
    · have hp := rnP_len (gi l (m : Int)) (rn c l m).P
      refine ⟨?_, by show (rn c l m).dn.length ≤ _; omega, by show (rnP _ _).length ≤ _; omega, fun p hp => by have := h4 p hp; omega⟩
      refine Nat.le_trans (hDl _) ?_
      show (rn c l m).dn.length + 1 ≤ m + 1
      omega
/-- The program's runs and the reference's are the same. -/
theorem rn_congr {c d : Nat → Bool} {l : List PU} : ∀ m, (∀ j, j < m → c j = d j) → rn c l m = rn d l m
  | 0, _ => rfl
  | m + 1, h => by
    rw [rn, rn, rn_congr m (fun j hj => h j (by omega)), h m (by omega)]
theorem bA_b1s {rs : List RD} : ∀ m, m ≤ rs.length → bA rs m = b1s ((rs.take m).map fun r => (r.I, r.pts))
  | 0, _ => rfl
  | m + 1, hm => by
    rw [bA, bA_b1s m (by omega), take_snoc (by omega), List.map_append, List.map_singleton, b1s_snoc]
end Go.Vt
/- The moving point of a car without a part: plain. Conditions: those that each statement names. -/
set_option linter.unusedSimpArgs false
set_option linter.unusedVariables false
set_option maxHeartbeats 2000000
set_option maxRecDepth 100000
namespace Go.Vt
open Go.RowKit Go.Proofs
open Fv (va red)
theorem tj_few {T X Y : Int} {ss : List Stp15} : ∀ m, (tj T X Y ss m).out.length + (if (tj T X Y ss m).al = true then 1 else 0) ≤ max 1 m ∧ ((tj T X Y ss m).al = false → 0 < m)
  | 0 => by
    rw [tj]
    exact ⟨by simp, fun h => (by cases h)⟩
  | m + 1 => by
    obtain ⟨h1, h2⟩ := tj_few (T := T) (X := X) (Y := Y) (ss := ss) m
    rw [tj]
    generalize tj T X Y ss m = p at *
    refine ⟨?_, fun _ => by omega⟩
    simp only
    by_cases hk : (gi ss (m : Int)).Kind % 8 = 0
    · rw [if_pos hk, decide_eq_true hk, if_pos rfl]
      rcases ha : p.al with _ | _ <;> rw [ha] at h1 h2
      · have := h2 rfl
        simp only [Bool.false_eq_true, if_false] at h1
        omega
      · simp only [if_true] at h1
        omega
    · rw [if_neg hk, decide_eq_false hk, List.length_append, List.length_singleton]
      simp only [Bool.false_eq_true, if_false]
      rcases ha : p.al with _ | _ <;> rw [ha] at h1 h2
      · have := h2 rfl
        simp only [Bool.false_eq_true, if_false] at h1
        omega
      · simp only [if_true] at h1
        omega
theorem tjR_few {c : viatorlaw15_Car} {ss : List Stp15} (h6 : ss.length ≤ 6) : (tjR c ss).length ≤ 6 := by
  obtain ⟨h1, h2⟩ := tj_few (T := c.Time) (X := c.X) (Y := c.Y) (ss := ss) ss.length
  unfold tjR
  split
  · rename_i ha
    rw [ha] at h1
    simp only [if_true] at h1
    rw [List.length_append, List.length_singleton]
    omega
  · omega
structure TjP (p : TjS) : Prop where
  o : ∀ u ∈ p.out, okI u.In
  w : p.out.Pairwise (fun u v => (absP u).bfr (absP v))
  e : ∀ u ∈ p.out, u.In.To.P ≤ (p.t : Rat)
  l : p.al = true → ∀ u ∈ p.out, u.In.To.P < (p.t : Rat)
theorem tj_apart {T X Y : Int} {ss : List Stp15} (h : ∀ s ∈ ss, StOk s) : ∀ m, m ≤ ss.length → TjP (tj T X Y ss m)
  | 0, _ => ⟨fun u hu => (by cases hu), List.Pairwise.nil, fun u hu => (by cases hu), fun _ u hu => (by cases hu)⟩
  | m + 1, hm => by
    obtain ⟨h1, h2, h3, h4⟩ := tj_apart (T := T) (X := X) (Y := Y) h m (by omega)
    have hs := (h _ (gi_mem (i := (m : Int)) (xs := ss) (by omega))).t
    rw [tj]
    generalize tj T X Y ss m = p at *
    generalize gi ss (m : Int) = s at *
    have hc : ((p.t : Int) : Rat) < ((p.t + 1 + s.Time % 8 : Int) : Rat) := Rat.intCast_lt_intCast.2 (by omega)
    by_cases hk : s.Kind % 8 = 0
    · simp only [hk, if_true, decide_true]
      exact ⟨h1, h2, fun u hu => by have := h3 u hu; grind, fun _ u hu => by have := h3 u hu; grind⟩
    · simp only [hk, if_false, decide_false]
      refine ⟨fun u hu => ?_, ?_, fun u hu => ?_, fun k => (by cases k)⟩
      · rcases List.mem_append.1 hu with k | k
        · exact h1 u k
        · rw [List.mem_singleton.1 k]
          exact .inl hc
      · rw [List.pairwise_append]
        refine ⟨h2, List.pairwise_singleton _ _, fun u hu v hv => ?_⟩
        rw [List.mem_singleton.1 hv]
        have h5 := h3 u hu
        have h6 : 0 < p.out.length := List.length_pos_of_mem hu
        by_cases h7 : u.In.To.P < (p.t : Rat)
        · exact .inl h7
        · refine .inr ⟨show u.In.To.P = (p.t : Rat) by grind, .inr ?_⟩
          show (decide ((0 : Int) < p.out.length) && !p.al) = true
          rw [decide_eq_true (by omega), Bool.true_and]
          rcases ha : p.al with _ | _
          · rfl
          · exact absurd (h4 ha u hu) h7
      · rcases List.mem_append.1 hu with k | k
        · have := h3 u k
          simp only
          grind
        · rw [List.mem_singleton.1 k]
          exact Rat.le_refl
theorem tjR_apart {c : viatorlaw15_Car} {ss : List Stp15} (h : ∀ s ∈ ss, StOk s) : (∀ u ∈ tjR c ss, okI u.In) ∧ (tjR c ss).Pairwise (fun u v => (absP u).bfr (absP v)) := by
  obtain ⟨h1, h2, h3, h4⟩ := tj_apart (T := c.Time) (X := c.X) (Y := c.Y) h ss.length (Nat.le_refl _)
  unfold tjR
  split
  · rename_i ha
    constructor
    · intro u hu
      rcases List.mem_append.1 hu with k | k
      · exact h1 u k
      · rw [List.mem_singleton.1 k]
        exact .inr ⟨rfl, rfl, rfl⟩
    · rw [List.pairwise_append]
      refine ⟨h2, List.pairwise_singleton _ _, fun u hu v hv => ?_⟩
      rw [List.mem_singleton.1 hv]
      exact .inl (h4 ha u hu)
  · exact ⟨h1, h2⟩
theorem stl_16 {a b : SS} (ha : M a.T ≤ 1 ∧ M a.P.X ≤ 1 ∧ M a.P.Y ≤ 1) (hb : M b.T ≤ 1 ∧ M b.P.X ≤ 1 ∧ M b.P.Y ≤ 1) : LnOk 16 (stl a b) := by
  have := MB.mk ha.1
  have := MB.mk ha.2.1
  have := MB.mk ha.2.2
  have := MB.mk hb.1
  have := MB.mk hb.2.1
  have := MB.mk hb.2.2
  exact ⟨MB.lt (q := (stl a b).X0) rfl, MB.lt (q := (stl a b).X1) rfl, MB.lt (q := (stl a b).Y0) rfl, MB.lt (q := (stl a b).Y1) rfl⟩
theorem tj_16 {T X Y : Int} (hT : 0 ≤ T ∧ 0 ≤ X ∧ 0 ≤ Y) {ss : List Stp15} (h : ∀ s ∈ ss, StOk s) : ∀ m, m ≤ ss.length → m ≤ 6 → ∀ u ∈ (tj T X Y ss m).out, UK 16 (toU u)
  | 0, _, _ => fun u hu => by cases hu
  | m + 1, hm, h6 => by
    have ih := tj_16 hT h m (by omega) (by omega)
    obtain ⟨h1, h2, h3, h4⟩ := tj_bnd hT h m (by omega)
    have hs := h _ (gi_mem (i := (m : Int)) (xs := ss) (by omega))
    obtain ⟨g1, g2, g3, g4⟩ := hs
    rw [tj]
    generalize tj T X Y ss m = q at *
    generalize gi ss (m : Int) = st at *
    simp only
    split
    · exact ih
    · intro u hu
      rcases List.mem_append.1 hu with k | k
      · exact ih u k
      · rw [List.mem_singleton] at k
        subst k
        have e1 : M ((q.t : Int) : Rat) ≤ 16 := Nat.le_trans (M_small (by omega)) (by decide)
        have e2 : M ((q.t + 1 + st.Time % 8 : Int) : Rat) ≤ 16 := Nat.le_trans (M_small (by omega)) (by decide)
        refine ⟨⟨rfl, rfl, rfl, rfl, e1, e2⟩, stl_16 ?_ (smp_M (by omega) (by omega) (by omega))⟩
        unfold tjF
        split
        · exact smp_M (by omega) (by omega) (by omega)
        · exact smp_M (by omega) (by omega) (by omega)
theorem tjR_16 {c : viatorlaw15_Car} (hT : 0 ≤ c.Time ∧ 0 ≤ c.X ∧ 0 ≤ c.Y) {ss : List Stp15} (h : ∀ s ∈ ss, StOk s) (h6 : ss.length ≤ 6) : ∀ u ∈ tjR c ss, UK 16 (toU u) := by
  have hk := tj_16 hT h ss.length (Nat.le_refl _) h6
  obtain ⟨h1, h2, h3, h4⟩ := tj_bnd hT h ss.length (Nat.le_refl _)
  unfold tjR
  split
  · intro u hu
    rcases List.mem_append.1 hu with k | k
    · exact hk u k
    · rw [List.mem_singleton] at k
      subst k
      have e1 : ∀ n : Int, 0 ≤ n ∧ n < 256 → M ((n : Int) : Rat) ≤ 16 := fun n hn => Nat.le_trans (M_small hn) (by decide)
      have e0 : M 0 ≤ 16 := by decide
      exact ⟨⟨rfl, rfl, rfl, rfl, e1 _ (by omega), e1 _ (by omega)⟩, ⟨e1 _ (by omega), e0, e1 _ (by omega), e0⟩⟩
  · exact hk
structure PGood (K n : Nat) (l : List PU) : Prop where
  nf : PNf l
  k : ∀ u ∈ l, UK K (toU u)
  n : l.length ≤ n
theorem mpN_map {α β : Type} [Inhabited α] (f : α → β) (xs : List α) : mpN f xs xs.length = xs.map f := by
  rw [mpN_take f xs _ (Nat.le_refl _), List.take_length]
theorem map_ofU (r : List UL) : (r.map ofU).map absP = r.map absU := by
  rw [List.map_map]
  rfl
theorem map_toU (r : List PU) : (r.map toU).map absU = r.map absP := by
  rw [List.map_map]
  rfl
theorem good_of {K n : Nat} {us : List UL} (hk : ∀ u ∈ us, UK K u) (hK : K ≤ KN) (ho : ∀ u ∈ us, (absU u).ok) (hd : (us.map absU).Pairwise Dis) (hn : us.length ≤ n) :
    PGood (4 * K + 4) n (mpN ofU (nrmR us) (nrmR us).length) ∧ (∀ t v, Has ((mpN ofU (nrmR us) (nrmR us).length).map absP) t v ↔ Has (us.map absU) t v) ∧ nrmE us = 0 := by
  have hv : UVal us := ⟨fun u hu => (hk u hu).uin hK, ho⟩
  obtain ⟨h1, h2⟩ := nrm_nf hv hd
  have h3 := nrmR_K hk
  have h4 := nrmR_few hv
  rw [mpN_map]
  refine ⟨⟨⟨by rw [map_ofU]; exact h1, fun u hu => ?_⟩, fun u hu => ?_, by rw [List.length_map]; omega⟩, fun t v => by rw [map_ofU]; exact h2 t v, (nrmE_0 hv).2 hd⟩
  · obtain ⟨w, hw, rfl⟩ := List.mem_map.1 hu
    exact ⟨(h3 w hw).i.rf, (h3 w hw).i.rt⟩
  · obtain ⟨w, hw, rfl⟩ := List.mem_map.1 hu
    exact h3 w hw
/-- The moving point of a car. -/
def carL (c : viatorlaw15_Car) (ss : List Stp15) : List PU := mNorm (tjR c ss)
structure CarOk (c : viatorlaw15_Car) (ss : List Stp15) : Prop where
  t : 0 ≤ c.Time ∧ 0 ≤ c.X ∧ 0 ≤ c.Y
  s : ∀ s ∈ ss, StOk s
  n : ss.length ≤ 6
theorem carL_good {c : viatorlaw15_Car} {ss : List Stp15} (h : CarOk c ss) : PGood 68 6 (carL c ss) ∧ ∀ t, (∃ u ∈ carL c ss, memI u.In t) ↔ ∃ u ∈ tjR c ss, memI u.In t := by
  have h1 := tjR_apart (c := c) h.s
  have h2 := tjR_16 h.t h.s h.n
  have h3 := tjR_few (c := c) h.n
  have hk : ∀ u ∈ (tjR c ss).map toU, UK 16 u := fun u hu => by
    obtain ⟨w, hw, rfl⟩ := List.mem_map.1 hu
    exact h2 w hw
  have ho : ∀ u ∈ (tjR c ss).map toU, (absU u).ok := fun u hu => by
    obtain ⟨w, hw, rfl⟩ := List.mem_map.1 hu
    exact h1.1 w hw
  have hd : (((tjR c ss).map toU).map absU).Pairwise Dis := by
    rw [map_toU, List.pairwise_map]
    exact h1.2.imp fun h => h.Dis
  obtain ⟨g1, g2, g3⟩ := good_of (n := 6) hk (by decide) ho hd (by rw [List.length_map]; exact h3)
  unfold carL mNorm
  rw [mpN_map toU]
  refine ⟨g1, fun t => ?_⟩
  have e : ∀ (l : List PU), (∃ u ∈ l, memI u.In t) ↔ ∃ v, Has (l.map absP) t v := fun l => by
    constructor
    · rintro ⟨u, hu, hm⟩
      exact ⟨_, absP u, List.mem_map.2 ⟨u, hu, rfl⟩, hm, rfl⟩
    · rintro ⟨v, x, hx, hm, -⟩
      obtain ⟨u, hu, rfl⟩ := List.mem_map.1 hx
      exact ⟨u, hu, hm⟩
  rw [e, e, ← map_toU (tjR c ss)]
  exact exists_congr fun v => g2 t v
theorem closL_mem {a b t : Rat} : (∃ i ∈ closL a b, memI i t) ↔ a ≤ t ∧ t ≤ b := by
  unfold closL
  split
  · rename_i h
    have h1 := cmpB_ge (a := ⟨⟨a, 0, false⟩, false⟩) (b := ⟨⟨b, 0, false⟩, true⟩) (by omega)
    have h2 : b < a := by
      unfold bLe at h1
      simp at h1
      exact h1
    constructor
    · rintro ⟨i, hi, -⟩
      cases hi
    · intro h3
      grind
  · constructor
    · rintro ⟨i, hi, hm⟩
      rw [List.mem_singleton.1 hi] at hm
      unfold memI at hm
      simp only [and_true] at hm
      grind
    · intro h3
      refine ⟨_, .head _, ?_⟩
      unfold memI
      simp only [and_true]
      grind
theorem closL_len (a b : Rat) : (closL a b).length ≤ 1 := by
  unfold closL
  split <;> simp
theorem closL_ok {a b : Rat} : ∀ i ∈ closL a b, bLe (bdF i) (bdL i) := fun i hi => by
  unfold closL at hi
  split at hi
  · cases hi
  · rename_i h
    rw [List.mem_singleton.1 hi]
    exact cmpB_lt (a := ⟨⟨a, 0, false⟩, false⟩) (b := ⟨⟨b, 0, false⟩, true⟩) (by omega)
structure BdK (K : Nat) (b : Bd) : Prop where
  r : b.at_.R = 0
  n : b.at_.Neg = false
  m : M b.at_.P ≤ K
theorem BdK.ok {K : Nat} {b : Bd} (h : BdK K b) (hk : K ≤ LQ) : BdOk b := ⟨h.r, h.n, Nat.le_trans h.m hk⟩
theorem BdK.iv {K : Nat} {i : R_api_Interval} (h : BdK K (bdF i)) (h' : BdK K (bdL i)) : IvOk K i := ⟨h.r, h'.r, h.n, h'.n, h.m, h'.m⟩
theorem IvOk.bd {K : Nat} {i : R_api_Interval} (h : IvOk K i) : BdK K (bdF i) ∧ BdK K (bdL i) := ⟨⟨h.r1, h.n1, h.m1⟩, ⟨h.r2, h.n2, h.m2⟩⟩
theorem closL_bd {a b : Rat} {K : Nat} (ha : M a ≤ K) (hb : M b ≤ K) : ∀ i ∈ closL a b, BdK K (bdF i) ∧ BdK K (bdL i) := fun i hi => by
  unfold closL at hi
  split at hi
  · cases hi
  · rw [List.mem_singleton.1 hi]
    exact ⟨⟨rfl, rfl, ha⟩, ⟨rfl, rfl, hb⟩⟩
/-- The instants of a moving point. -/
def pIv (l : List PU) : List R_api_Interval := mpN ivU (mpN toU l l.length) (mpN toU l l.length).length
def pDom (l : List PU) : List R_api_Interval := swpR kpU (pIv l) []
theorem pIv_eq (l : List PU) : pIv l = l.map (·.In) := by
  unfold pIv
  rw [mpN_map ivU, mpN_map toU, List.map_map]
  rfl
theorem ex_map {l : List PU} {t : Rat} : (∃ i ∈ l.map (·.In), memI i t) ↔ ∃ u ∈ l, memI u.In t := by
  constructor
  · rintro ⟨i, hi, hm⟩
    obtain ⟨u, hu, rfl⟩ := List.mem_map.1 hi
    exact ⟨u, hu, hm⟩
  · rintro ⟨u, hu, hm⟩
    exact ⟨_, List.mem_map.2 ⟨u, hu, rfl⟩, hm⟩
theorem pDom_law {K n : Nat} {l : List PU} (h : PGood K n l) : Sep (pDom l) ∧ (∀ t, (∃ i ∈ pDom l, memI i t) ↔ ∃ u ∈ l, memI u.In t) ∧ (∀ i ∈ pDom l, BdK K (bdF i) ∧ BdK K (bdL i)) ∧ ∀ i ∈ pIv l, BdK K (bdF i) ∧ BdK K (bdL i) := by
  have h1 : ∀ i ∈ l.map (·.In), bLe (bdF i) (bdL i) := fun i hi => by
    obtain ⟨u, hu, rfl⟩ := List.mem_map.1 hi
    exact okI_le (h.nf.nf.ok _ (List.mem_map.2 ⟨u, hu, rfl⟩))
  have h2 : ∀ i ∈ l.map (·.In), BdK K (bdF i) ∧ BdK K (bdL i) := fun i hi => by
    obtain ⟨u, hu, rfl⟩ := List.mem_map.1 hi
    exact (h.k u hu).i.bd
  have h0 : ∀ i ∈ ([] : List R_api_Interval), BdK K (bdF i) ∧ BdK K (bdL i) := fun i hi => (by cases hi)
  obtain ⟨e1, e2, e3⟩ := swpR_law (kp := kpU) rfl h1 (js := []) (fun i hi => (by cases hi))
  unfold pDom
  rw [pIv_eq]
  refine ⟨⟨e2, e3⟩, fun t => ?_, swpR_bd kpU h2 h0, h2⟩
  refine (e1 t).trans ?_
  unfold kpU
  simp only [Bool.or_eq_true, decide_eq_true_eq]
  rw [ex_map]
  exact ⟨fun h => h.resolve_right (fun ⟨i, hi, _⟩ => by cases hi), .inl⟩
theorem evK_len (is js : List R_api_Interval) : (evK is js 2).length = 2 * is.length + 2 * js.length := by rw [evK2, List.length_append, evA_len, evB_len]
/-- The moving point without what lies between two instants. -/
def movM (l : List PU) (a b : Rat) : List R_api_Interval := swpR kpM (pDom l) (closL a b)
def movL (l : List PU) (a b : Rat) : List PU := mpN ofU (nrmR (mRes l (movM l a b))) (nrmR (mRes l (movM l a b))).length
theorem mtO_pt {a b : R_api_Interval} (h : mtO a b = true) : ∃ t, memI a t ∧ memI b t := by
  obtain ⟨t, ht⟩ := GU.ok.pt (u := absU ⟨mt a b, ⟨0, 0, 0, 0⟩⟩) (mtO_iff.1 h)
  exact ⟨t, mt_mem.1 ht⟩
section
variable {D M : List R_api_Interval} {a b : Rat} (hM : Sep M) (hs : ∀ t, (∃ d ∈ M, memI d t) ↔ (∃ d ∈ D, memI d t) ∧ ¬ (a ≤ t ∧ t ≤ b))
include hM hs
theorem ri_few {u : UL} (hU : ∀ t, memI u.In t → ∃ d ∈ D, memI d t) : ∀ k, k ≤ M.length → (ri u M k).length ≤ 2 ∧ (0 < (ri u M k).length → ∃ j : Nat, j < k ∧ mtO u.In (gi M (j : Int)) = true) ∧ (1 < (ri u M k).length → ∃ i j : Nat, i < j ∧ j < k ∧ mtO u.In (gi M (i : Int)) = true ∧ mtO u.In (gi M (j : Int)) = true)
  | 0, _ => by simp [ri]
  | k + 1, hk => by
    obtain ⟨h1, h2, h3⟩ := ri_few hU k (by omega)
    rw [ri]
    by_cases hm : mtO u.In (gi M (k : Int)) = true
    · rw [if_pos hm]
      have hlt : (ri u M k).length < 2 := by
        rcases Nat.lt_or_ge (ri u M k).length 2 with h | h
        · exact h
        · obtain ⟨i, j, hij, hj, a1, a2⟩ := h3 (by omega)
          obtain ⟨t1, b1⟩ := mtO_pt a1
          obtain ⟨t2, b2⟩ := mtO_pt a2
          obtain ⟨t3, b3⟩ := mtO_pt hm
          exact (no_three hM hs hU hij hj (by omega) b1 b2 b3).elim
      rw [List.length_append, List.length_singleton]
      refine ⟨by omega, fun _ => ⟨k, by omega, hm⟩, fun h => ?_⟩
      obtain ⟨j, hj, a⟩ := h2 (by omega)
      exact ⟨j, k, hj, by omega, a, hm⟩
    · rw [if_neg hm, List.append_nil]
      exact ⟨h1, fun h => let ⟨j, hj, a⟩ := h2 h; ⟨j, by omega, a⟩, fun h => let ⟨i, j, hij, hj, a⟩ := h3 h; ⟨i, j, hij, by omega, a⟩⟩
theorem ro_few {us : List UL} (hU : ∀ u ∈ us, ∀ t, memI u.In t → ∃ d ∈ D, memI d t) : ∀ m, m ≤ us.length → (ro us M m).length ≤ 2 * m
  | 0, _ => by simp [ro]
  | m + 1, hm => by
    have h1 := ro_few hU m (by omega)
    have h2 := (ri_few hM hs (hU _ (gi_mem (xs := us) (i := (m : Int)) (by omega))) M.length (Nat.le_refl _)).1
    rw [ro, List.length_append]
    omega
end
structure MovOk (l : List PU) (a b : Rat) : Prop where
  l1 : 2 * (pDom l).length + 2 * (closL a b).length ≤ 12
  b1 : ∀ i ∈ pDom l, BdOk (bdF i) ∧ BdOk (bdL i)
  b2 : ∀ i ∈ closL a b, BdOk (bdF i) ∧ BdOk (bdL i)
  l2 : 2 * (pIv l).length + 2 * 0 ≤ 12
  b3 : ∀ i ∈ pIv l, BdOk (bdF i) ∧ BdOk (bdL i)
  r : ResOk l (movM l a b)
  g : PGood 276 12 (movL l a b)
theorem mov_law {c : viatorlaw15_Car} {ss : List Stp15} (h : CarOk c ss) {a b : Rat} (ha : Go.Vt.M a ≤ 68) (hb : Go.Vt.M b ≤ 68) : MovOk (carL c ss) a b := by
  obtain ⟨hg, ht⟩ := carL_good h
  obtain ⟨d1, d2, d3⟩ := djR_law (c := c) h.s
  have hn := h.n
  generalize carL c ss = l at *
  obtain ⟨p1, p2, p3, p4⟩ := pDom_law hg
  have hDl : (pDom l).length ≤ 4 := by
    have := p1.len d2 (fun t => by rw [p2 t, ht t, d3 t])
    rw [this, List.length_map]
    omega
  have hcl := closL_len a b
  have c1 := closL_bd ha hb
  obtain ⟨m1, m2, m3⟩ := swpR_law (kp := kpM) rfl (is := pDom l) (js := closL a b) (fun i hi => (p1.v i hi).le) closL_ok
  have mS : Sep (movM l a b) := ⟨m2, m3⟩
  have mH : ∀ t, (∃ d ∈ movM l a b, memI d t) ↔ (∃ d ∈ pDom l, memI d t) ∧ ¬ (a ≤ t ∧ t ≤ b) := fun t => by
    unfold movM
    refine (m1 t).trans ?_
    unfold kpM
    simp only [Bool.and_eq_true, Bool.not_eq_true', decide_eq_true_eq, decide_eq_false_iff_not]
    rw [closL_mem]
  have mB := swpR_bd (Pb := BdK 68) kpM (fun i hi => p3 i hi) c1
  have mI : ∀ d ∈ movM l a b, IvOk 68 d := fun d hd => (mB d hd).1.iv (mB d hd).2
  have mL : (movM l a b).length ≤ 12 := by
    have h1 := sws_out kpM (srtE (evK (pDom l) (closL a b) 2) ((evK (pDom l) (closL a b) 2).length - 1)) (srtE (evK (pDom l) (closL a b) 2) ((evK (pDom l) (closL a b) 2).length - 1)).length
    have h2 := (srtE_perm (evK (pDom l) (closL a b) 2)).length_eq
    have h3 := evK_len (pDom l) (closL a b)
    unfold movM swpR
    omega
  have hlK : ∀ u ∈ l.map toU, UK 68 u := fun u hu => by
    obtain ⟨w, hw, rfl⟩ := List.mem_map.1 hu
    exact hg.k w hw
  have hrU : ∀ u ∈ l.map toU, ∀ t, memI u.In t → ∃ d ∈ pDom l, memI d t := fun u hu t hm => by
    obtain ⟨w, hw, rfl⟩ := List.mem_map.1 hu
    exact (p2 t).2 ⟨w, hw, hm⟩
  have hres : mRes l (movM l a b) = ro (l.map toU) (movM l a b) (l.map toU).length := by
    unfold mRes
    rw [mpN_map toU]
  have hrl : (mRes l (movM l a b)).length ≤ 12 := by
    have := ro_few mS mH hrU (l.map toU).length (Nat.le_refl _)
    have := hg.n
    rw [hres]
    rw [List.length_map] at *
    omega
  have hrK : ∀ u ∈ mRes l (movM l a b), UK 68 u := by
    rw [hres]
    exact ro_K hlK mI
  have hok : ResOk l (movM l a b) := by
    refine ⟨by have := hg.n; omega, by omega, by omega, fun u hu => ?_, fun d hd => (mI d hd).mono (by decide), fun u hu => (hrK u hu).uin (by decide)⟩
    rw [mpN_map toU] at hu
    exact (hlK u hu).i.mono (by decide)
  refine ⟨by omega, fun i hi => ⟨(p3 i hi).1.ok (by decide), (p3 i hi).2.ok (by decide)⟩, fun i hi => ⟨(c1 i hi).1.ok (by decide), (c1 i hi).2.ok (by decide)⟩, ?_, fun i hi => ⟨(p4 i hi).1.ok (by decide), (p4 i hi).2.ok (by decide)⟩, hok, ?_⟩
  · rw [pIv_eq, List.length_map]
    have := hg.n
    omega
  · refine (good_of (K := 68) (n := 12) hrK (by decide) ?_ ?_ hrl).1
    · rw [hres]
      exact ro_ok
    · rw [hres]
      refine ro_pw ?_ ?_ _ (Nat.le_refl _)
      · rw [map_toU]
        exact hg.nf.nf.pw.imp fun h => h.bf.Dis
      · exact mS.p.imp fun {i j} hb t ht => (memI_at.1 ht.1).2 (bAt_le hb.le (memI_at.1 ht.2).1)
end Go.Vt
/- Union and difference of periods; the instants of a moving point: walked. Conditions: those that each statement names. -/
set_option linter.unusedSimpArgs false
set_option linter.unusedVariables false
set_option maxHeartbeats 2000000
set_option maxRecDepth 100000
namespace Go.Vt
open Go.RowKit Go.Proofs
instance sp_union1 (a b : Bool) : SpecC Tryz.prog 182 [.bool a, .bool b] (.bool (kpU a b)) True := ⟨fun _ w => by
  refine fn_intro Tryz.func182 rfl Tryz.ntmps182 rfl ?_
  rcases a with _ | _
  · repeat (refine wkB ?_; try intro _)
    exact jx_ret_tmp rfl rfl (fun w hw => ret_ok hw)
  · repeat (refine wkB ?_; try intro _)
    exact jx_ret_tmp rfl rfl (fun w hw => ret_ok hw)⟩
instance sp_minus1 (a b : Bool) : SpecC Tryz.prog 123 [.bool a, .bool b] (.bool (kpM a b)) True := ⟨fun _ w => by
  refine fn_intro Tryz.func123 rfl Tryz.ntmps123 rfl ?_
  rcases a with _ | _
  · repeat (refine wkB ?_; try intro _)
    exact jx_ret_tmp rfl rfl (fun w hw => ret_ok hw)
  · repeat (refine wkB ?_; try intro _)
    exact jx_ret_tmp rfl rfl (fun w hw => ret_ok hw)⟩
/-- Two periods that a sweep takes: few intervals, or in order. -/
structure SwOk (is js : List R_api_Interval) : Prop where
  l : 2 * is.length + 2 * js.length ≤ 12 ∨ (OrdE (evA is is.length ++ evB js js.length) ∧ 2 * is.length + 2 * js.length < 50)
  a : ∀ i ∈ is, BdOk (bdF i) ∧ BdOk (bdL i)
  b : ∀ i ∈ js, BdOk (bdF i) ∧ BdOk (bdL i)
theorem SwOk.n {is js : List R_api_Interval} (h : SwOk is js) : 2 * is.length + 2 * js.length < 50 := h.l.elim (fun h => by omega) (fun h => h.2)
theorem union_spec (v1 v2 : Value) (is js : List R_api_Interval) (w : World) (hv1 : ArgS w v1 rI is) (hv2 : ArgS w v2 rI js) (h : SwOk is js) :
    Calls Tryz.prog 163 [v1, v2].toArray w (RetM (SlS rI 20 (swpR kpU is js)) (fun s => vSl s) (fun s => mS 32 s) w) := by
  have := ArgC.mk hv1
  have := ArgC.mk hv2
  refine fn_intro Tryz.func163 rfl Tryz.ntmps163 rfl ?_
  repeat (first | (refine wkB ?_; try intro _) | (refine sC rfl rfl ?_ ?_; focus (exact ⟨h.l, h.a, h.b⟩)) | (refine sN rfl rfl ?_ ?_; (focus (exact ⟨h.l, h.a, h.b⟩)); intro _; (try simp only [List.cons_append, List.nil_append, List.append_nil])))
  rename_i s
  exact jx_ret_tmp rfl rfl (fun w hw => ⟨s, rfl, hw.sub suB⟩)
instance sr_union (w0 : World) (L : List Blk) (v1 v2 : Value) (is js : List R_api_Interval) [h1 : LstC w0 L v1 R_api_Interval rI is] [h2 : LstC w0 L v2 R_api_Interval rI js] : SpecR Tryz.prog w0 L 163 [v1, v2] (SlS rI 20 (swpR kpU is js)) (fun s => vSl s) (fun s => mS 32 s) (SwOk is js) := ⟨fun hp w hw => union_spec v1 v2 is js w (h1.out w hw) (h2.out w hw) hp⟩
theorem minus_spec (v1 v2 : Value) (is js : List R_api_Interval) (w : World) (hv1 : ArgS w v1 rI is) (hv2 : ArgS w v2 rI js) (h : SwOk is js) :
    Calls Tryz.prog 81 [v1, v2].toArray w (RetM (SlS rI 20 (swpR kpM is js)) (fun s => vSl s) (fun s => mS 32 s) w) := by
  have := ArgC.mk hv1
  have := ArgC.mk hv2
  refine fn_intro Tryz.func81 rfl Tryz.ntmps81 rfl ?_
  repeat (first | (refine wkB ?_; try intro _) | (refine sC rfl rfl ?_ ?_; focus (exact ⟨h.l, h.a, h.b⟩)) | (refine sN rfl rfl ?_ ?_; (focus (exact ⟨h.l, h.a, h.b⟩)); intro _; (try simp only [List.cons_append, List.nil_append, List.append_nil])))
  rename_i s
  exact jx_ret_tmp rfl rfl (fun w hw => ⟨s, rfl, hw.sub suB⟩)
instance sr_minus (w0 : World) (L : List Blk) (v1 v2 : Value) (is js : List R_api_Interval) [h1 : LstC w0 L v1 R_api_Interval rI is] [h2 : LstC w0 L v2 R_api_Interval rI js] : SpecR Tryz.prog w0 L 81 [v1, v2] (SlS rI 20 (swpR kpM is js)) (fun s => vSl s) (fun s => mS 32 s) (SwOk is js) := ⟨fun hp w hw => minus_spec v1 v2 is js w (h1.out w hw) (h2.out w hw) hp⟩
theorem perN_spec (v1 : Value) (is : List R_api_Interval) (w : World) (hv1 : ArgS w v1 rI is) (h : SwOk is []) :
    Calls Tryz.prog 128 [v1].toArray w (RetM (SlS rI 20 (swpR kpU is [])) (fun s => vSl s) (fun s => mS 32 s) w) := by
  have := ArgC.mk hv1
  have hn : ∀ L, LstC w L (.slice none 0 0) R_api_Interval rI [] := fun L => ⟨fun _ _ => ⟨.inl ⟨rfl, rfl⟩⟩⟩
  refine fn_intro Tryz.func128 rfl Tryz.ntmps128 rfl ?_
  repeat (first | (refine wkB ?_; try intro _) | (refine sC rfl rfl ?_ ?_; focus (exact h)) | (refine sN rfl rfl ?_ ?_; (focus (exact h)); intro _; (try simp only [List.cons_append, List.nil_append, List.append_nil])))
  rename_i s
  exact jx_ret_tmp rfl rfl (fun w hw => ⟨s, rfl, hw.sub suB⟩)
instance sr_perN (w0 : World) (L : List Blk) (v1 : Value) (is : List R_api_Interval) [h1 : LstC w0 L v1 R_api_Interval rI is] : SpecR Tryz.prog w0 L 128 [v1] (SlS rI 20 (swpR kpU is [])) (fun s => vSl s) (fun s => mS 32 s) (SwOk is []) := ⟨fun hp w hw => perN_spec v1 is w (h1.out w hw) hp⟩
theorem pdom_spec (v : Value) (us : List UL) (w : World) (hv : ArgS w v rU us) (h : SwOk (mpN ivU us us.length) []) :
    Calls Tryz.prog 89 [v].toArray w (RetM (SlS rI 20 (swpR kpU (mpN ivU us us.length) [])) (fun s => vSl s) (fun s => mS 32 s) w) := by
  have := ArgC.mk hv
  have hl := h.n
  have hml := mpN_len ivU us us.length
  simp only [List.length_nil] at hl
  refine fn_intro Tryz.func89 rfl Tryz.ntmps89 rfl ?_
  repeat (first | (refine wkB ?_; try intro _) | (refine sC rfl rfl ?_ ?_; focus (first | exact (show us.length ≤ 1048576 by omega) | exact h)) | (refine sN rfl rfl ?_ ?_; (focus (first | exact (show us.length ≤ 1048576 by omega) | exact h)); intro _; (try simp only [List.cons_append, List.nil_append, List.append_nil])))
  rename_i s1 s2
  exact jx_ret_tmp rfl rfl (fun w hw => ⟨s2, rfl, hw.sub suB⟩)
instance sr_pdom (w0 : World) (L : List Blk) (v : Value) (us : List UL) [h : LstC w0 L v UL rU us] : SpecR Tryz.prog w0 L 89 [v] (SlS rI 20 (swpR kpU (mpN ivU us us.length) [])) (fun s => vSl s) (fun s => mS 32 s) (SwOk (mpN ivU us us.length) []) := ⟨fun hp w hw => pdom_spec v us w (h.out w hw) hp⟩
theorem mdom_spec (v : Value) (us : List PU) (w : World) (hv : ArgS w v rP us) (h : SwOk (pIv us) []) :
    Calls Tryz.prog 38 [v].toArray w (RetM (SlS rI 20 (pDom us)) (fun s => vSl s) (fun s => mS 32 s) w) := by
  have := ArgC.mk hv
  have hl := h.n
  have hml := mpN_len toU us us.length
  have hml2 := mpN_len ivU (mpN toU us us.length) (mpN toU us us.length).length
  unfold pIv at hl
  simp only [List.length_nil] at hl
  refine fn_intro Tryz.func38 rfl Tryz.ntmps38 rfl ?_
  repeat (first | (refine wkB ?_; try intro _) | (refine sC rfl rfl ?_ ?_; focus (first | exact (show us.length ≤ 1048576 by omega) | exact h)) | (refine sN rfl rfl ?_ ?_; (focus (first | exact (show us.length ≤ 1048576 by omega) | exact h)); intro _; (try simp only [List.cons_append, List.nil_append, List.append_nil])))
  rename_i s1 s2
  exact jx_ret_tmp rfl rfl (fun w hw => ⟨s2, rfl, hw.sub suB⟩)
instance sr_mdom (w0 : World) (L : List Blk) (v : Value) (us : List PU) [h : LstC w0 L v PU rP us] : SpecR Tryz.prog w0 L 38 [v] (SlS rI 20 (pDom us)) (fun s => vSl s) (fun s => mS 32 s) (SwOk (pIv us) []) := ⟨fun hp w hw => mdom_spec v us w (h.out w hw) hp⟩
end Go.Vt
/- Are instants, intervals, units valid? Walked where they are. Conditions: those that each statement names. -/
set_option linter.unusedSimpArgs false
set_option linter.unusedVariables false
set_option maxHeartbeats 2000000
set_option maxRecDepth 100000
namespace Go.Vt
open Go.RowKit Go.Proofs
theorem zero_sign : (0 : Rat).num.sign = 0 := by decide
instance sp_RealCheck0 (x : R_api_Real) : SpecC Tryz.prog 175 [vR x] (.int .i64 0) (x.R = 0 ∧ x.Neg = false ∧ M x.P ≤ LQ) := ⟨fun hp w => by
  obtain ⟨p, r, n⟩ := x
  obtain ⟨h1, h2, h3⟩ := hp
  simp only at h1 h2 h3
  subst h1
  subst h2
  have h0 : M 0 ≤ LQ := by decide
  refine fn_intro Tryz.func175 rfl Tryz.ntmps175 rfl ?_
  repeat (refine wkB ?_; try intro _)
  simp only [zero_sign]
  repeat (refine wkB ?_; try intro _)
  exact jx_ret_tmp rfl rfl (fun w hw => ret_ok hw)⟩
instance sp_CheckIv (i : R_api_Interval) : SpecC Tryz.prog 153 [vIv i] (.int .i64 0) (IvOk LQ i ∧ okI i) := ⟨fun hp w => by
  obtain ⟨h1, h2⟩ := hp
  have hlt := okI_bd.1 h2
  have hn : ¬ 0 ≤ cmpB (bdF i) (bdL i) := fun h => (bLt_le.1 hlt) (cmpB_ge (by omega))
  refine fn_intro Tryz.func153 rfl Tryz.ntmps153 rfl ?_
  repeat (first | (refine wkB ?_; try intro _) | (refine sC rfl rfl ?_ ?_; focus (first | exact ⟨h1.r1, h1.n1, h1.m1⟩ | exact ⟨h1.r2, h1.n2, h1.m2⟩)) | (refine sN rfl rfl ?_ ?_; (focus (first | exact ⟨h1.r1, h1.n1, h1.m1⟩ | exact ⟨h1.r2, h1.n2, h1.m2⟩)); intro _; (try simp only [List.cons_append, List.nil_append, List.append_nil])))
  (refine jD 6 6 (h := ?_); (repeat (first | refine wkH ?_ | (refine tC rfl rfl ?_ ?_; focus (first | exact trivial | exact ⟨⟨h1.r1, h1.n1, h1.m1⟩, ⟨h1.r2, h1.n2, h1.m2⟩⟩)))); refine jh_nil ?_; (repeat (refine wn_new ?_; intro _)); refine jn_nil ?_)
  simp only [decide_eq_false hn]
  repeat (refine wkB ?_; try intro _)
  exact jx_ret_tmp rfl rfl (fun w hw => ret_ok hw)⟩
abbrev ln4 (f : R_api_Line) : Nat → Rat
  | 0 => f.X0
  | 1 => f.X1
  | 2 => f.Y0
  | _ => f.Y1
abbrev e4Q (f : R_api_Line) : Array Value := e_api_Line (q_api_Line f)
instance bd_four (a b c d : Rat) : BdC Tryz.prog 331 [(0, vQ a), (1, vQ b), (2, vQ c), (3, vQ d)] (.agg (e4Q ⟨a, b, c, d⟩)) := ⟨fun w => by kernel_rfl⟩
theorem run_index4 (f : R_api_Line) (w : World) : ∀ m : Nat, m < 4 → (Instr.index 331 (.agg (e4Q f)) (.int .i64 (m : Int))).run Tryz.prog w = .ok (vQ (ln4 f m)) w
  | 0, _ => by kernel_rfl
  | 1, _ => by kernel_rfl
  | 2, _ => by kernel_rfl
  | 3, _ => by kernel_rfl
  | m + 4, h => by omega
theorem lcheck_spec (f : R_api_Line) (z : Array Value) (w : World) (h : LnOk LQ f) : Calls Tryz.prog 257 [.agg z, vLn f].toArray w (Ret (.int .i64 0) w) := by
  obtain ⟨h1, h2, h3, h4⟩ := h
  refine fn_intro Tryz.func257 rfl Tryz.ntmps257 rfl ?_
  repeat (refine wkB ?_; try intro _)
  rename_i b3 b2
  refine j_loop (S := Nat) (fun m => m ≤ 4) (fun m => [(16, .agg (e4Q f)), (17, .int .i64 (m : Nat))]) (fun _ => []) (fun m => 4 - m) 0 (by omega) sbB slB (fun m hm => ?_)
  repeat (refine wkB ?_; try intro _)
  refine j_cond rfl (fun h => ?_) (fun h => ?_)
  · have hlt : m < 4 := by have := of_decide_eq_true h; omega
    have hM : M (ln4 f m) ≤ LQ := by
      rcases (by omega : m = 0 ∨ m = 1 ∨ m = 2 ∨ m = 3) with rfl | rfl | rfl | rfl
      · exact h1
      · exact h2
      · exact h3
      · exact h4
    have : ∀ (L : List Blk) (E : Env) [IsC (evl E (.tmp 16)) (.agg (e4Q f))] [IsC (evl E (.tmp 17)) (.int .i64 (m : Int))], YlC Tryz.prog w 26 L E (.index 331 (.tmp 16) (.tmp 17)) (vQ (ln4 f m)) := fun L E _ _ => ⟨fun _ _ _ _ _ => yl_index isE isE fun w => run_index4 f w m hlt⟩
    repeat (first | (refine wkB ?_; try intro _) | (refine sC rfl rfl ?_ ?_; focus (exact hM)) | (refine sN rfl rfl ?_ ?_; (focus (exact hM)); intro _; (try simp only [List.cons_append, List.nil_append, List.append_nil])))
    exact jx_loop (m + 1) hlt sbB slB (by omega)
  · repeat (refine wkB ?_; try intro _)
    exact jx_ret_tmp rfl rfl (fun w hw => ret_ok hw)
instance sp_LCheck (f : R_api_Line) (z : Array Value) : SpecC Tryz.prog 257 [.agg z, vLn f] (.int .i64 0) (LnOk LQ f) := ⟨fun h w => lcheck_spec f z w h⟩
instance meth_Check : MethC Tryz.prog 152 (.agg #[]) "Check" 257 (.agg #[]) := ⟨fun w => by kernel_rfl⟩
instance ld_rules : LdC Tryz.prog 190 #[vLines] 0 vLines := ⟨ldv_one (by kernel_rfl) rfl⟩
instance al_boxL {E : Env} {T : TypeId} {x : Operand} {d : TypeId} {v : Value} [h : IsC (evl E x) (.iface d v)] : AlC Tryz.prog E (.box T x) #[.iface d v] T := ⟨fun hg hd h => jo_box isE hg hd h⟩
theorem eq1_spec (x y : UL) (b : Nat) (w : World) (hb : ∃ T fz, w.heap[b]? = some (.cells #[vLines] T fz)) : Calls Tryz.prog 177 [vUL x, vUL y, .pointer (some ⟨b, 0, none⟩)].toArray w (Ret (.bool (decide (x = y))) w) := by
  obtain ⟨T, hb⟩ := hb
  have := FoC.mk hb
  refine fn_intro Tryz.func177 rfl Tryz.ntmps177 rfl ?_
  repeat (refine wkB ?_; try intro _)
  by_cases h : x.In = y.In
  · simp only [decide_eq_true h]
    repeat (refine wkB ?_; try intro _)
    have e : decide (x.F = y.F) = decide (x = y) := by
      rw [decide_eq_decide]
      obtain ⟨I, F⟩ := x
      obtain ⟨I', F'⟩ := y
      simp only at h
      subst h
      simp
    rw [e]
    exact jx_ret_tmp rfl rfl (fun w hw => ret_ok hw)
  · simp only [decide_eq_false h]
    repeat (refine wkB ?_; try intro _)
    rw [decide_eq_false (show ¬ x = y from fun e => h (by rw [e]))]
    exact jx_ret_tmp rfl rfl (fun w hw => ret_ok hw)
instance sm_eq1 (w0 : World) (L : List Blk) (x y : UL) (b : Nat) (T : TypeId) [h : AtC w0 L b #[vLines] T] : SpecM Tryz.prog w0 L 177 [vUL x, vUL y, .pointer (some ⟨b, 0, none⟩)] (.bool (decide (x = y))) True := ⟨fun _ w hw => eq1_spec x y b w ⟨T, h.out w hw⟩⟩
theorem eqf_spec (v1 v2 : Value) (us : List UL) (b : Nat) (w : World) (h1 : ArgS w v1 rU us) (h2 : ArgS w v2 rU us) (hb : ∃ T fz, w.heap[b]? = some (.cells #[vLines] T fz)) (hl : us.length ≤ 1048576) :
    Calls Tryz.prog 176 [v1, v2, .func (.func 177) #[] [.pointer (some ⟨b, 0, none⟩)].toArray].toArray w (Ret (.bool true) w) := by
  obtain ⟨T, hb⟩ := hb
  have := FoC.mk hb
  refine fn_intro Tryz.func176 rfl Tryz.ntmps176 rfl ?_
  obtain ⟨p1, c1, rfl⟩ := h1.form
  obtain ⟨p2, c2, rfl⟩ := h2.form
  repeat (refine wkB ?_; try intro _)
  simp only [decide_eq_true (rfl : (us.length : Int) = (us.length : Int)), Bool.not_true]
  repeat (refine wkB ?_; try intro _)
  refine j_loop (S := Nat) (fun m => m ≤ us.length) (fun m => [(1, .slice p2 us.length c2), (2, .func (.func 177) #[] [.pointer (some ⟨b, 0, none⟩)].toArray), (15, .slice p1 us.length c1), (16, .int .i64 us.length), (17, .int .i64 (m : Nat))]) (fun _ => []) (fun m => us.length - m) 0 (Nat.zero_le _) sbB slB (fun m hm => ?_)
  repeat (refine wkB ?_; try intro _)
  refine j_cond rfl (fun h => ?_) (fun h => ?_)
  · have hlt : m < us.length := by have := of_decide_eq_true h; omega
    have hne : us ≠ [] := fun h0 => by rw [h0] at hlt; simp at hlt
    obtain ⟨b1, o1, c1', hv1, hc1, hr1⟩ := h1.blk (k := 35) hne []
    injection hv1 with e1 e2 e3
    subst e1
    subst e3
    obtain ⟨b2, o2, c2', hv2, hc2, hr2⟩ := h2.blk (k := 35) hne []
    injection hv2 with e1 e2 e3
    subst e1
    subst e3
    have hr1' : ∀ L, RowC w L b1 o1 UL rU us := fun L => ⟨fun w' hw' => hr1.out w' (hw'.sub (List.nil_sublist _))⟩
    have hr2' : ∀ L, RowC w L b2 o2 UL rU us := fun L => ⟨fun w' hw' => hr2.out w' (hw'.sub (List.nil_sublist _))⟩
    repeat (refine wkB ?_; try intro _)
    simp only [decide_eq_true (rfl : gi us (m : Int) = gi us (m : Int)), Bool.not_true]
    repeat (refine wkB ?_; try intro _)
    exact jx_loop (m + 1) hlt sbB slB (by omega)
  · repeat (refine wkB ?_; try intro _)
    exact jx_ret_tmp rfl rfl (fun w hw => ret_ok hw)
instance sm_eqf (w0 : World) (L : List Blk) (v1 v2 : Value) (us : List UL) (b : Nat) (T : TypeId) [h1 : LstC w0 L v1 UL rU us] [h2 : LstC w0 L v2 UL rU us] [h : AtC w0 L b #[vLines] T] : SpecM Tryz.prog w0 L 176 [v1, v2, .func (.func 177) #[] [.pointer (some ⟨b, 0, none⟩)].toArray] (.bool true) (us.length ≤ 1048576) := ⟨fun hp w hw => eqf_spec v1 v2 us b w (h1.out w hw) (h2.out w hw) ⟨T, h.out w hw⟩ hp⟩
theorem peq_spec (v1 v2 : Value) (us : List UL) (w : World) (h1 : ArgS w v1 rU us) (h2 : ArgS w v2 rU us) (hl : us.length ≤ 1048576) :
    Calls Tryz.prog 154 [vLines, v1, v2].toArray w (Ret (.bool true) w) := by
  have := ArgC.mk h1
  have := ArgC.mk h2
  refine fn_intro Tryz.func154 rfl Tryz.ntmps154 rfl ?_
  repeat (first | (refine wkB ?_; try intro _) | (refine sC rfl rfl ?_ ?_; focus (exact hl)) | (refine sN rfl rfl ?_ ?_; (focus (exact hl)); intro _; (try simp only [List.cons_append, List.nil_append, List.append_nil])))
  exact jx_ret_tmp rfl rfl (fun w hw => ret_ok hw)
instance sm_peq (w0 : World) (L : List Blk) (v1 v2 : Value) (us : List UL) [h1 : LstC w0 L v1 UL rU us] [h2 : LstC w0 L v2 UL rU us] : SpecM Tryz.prog w0 L 154 [vLines, v1, v2] (.bool true) (us.length ≤ 1048576) := ⟨fun hp w hw => peq_spec v1 v2 us w (h1.out w hw) (h2.out w hw) hp⟩
/-- A moving point in normal form is its own normal form. -/
theorem nrm_same {us : List UL} (h : NF (us.map absU)) (hk : ∀ u ∈ us, UIn u) : nrmR us = us ∧ nrmE us = 0 ∧ ∀ i, i + 1 < us.length → aprt (gi us (i : Int)).In (gi us ((i + 1 : Nat) : Int)).In = true := by
  have hd : (us.map absU).Pairwise Dis := h.pw.imp fun h => h.bf.Dis
  have hv : UVal us := ⟨hk, fun u hu => h.ok _ (List.mem_map.2 ⟨u, hu, rfl⟩)⟩
  obtain ⟨h1, h2⟩ := nrm_nf hv hd
  refine ⟨absL_inj (fun u hu => (nrmR_ok hk u hu).i) (fun u hu => (hk u hu).i) (NF.uniq h1 h h2), (nrmE_0 hv).2 hd, fun i hi => ?_⟩
  exact aprt_iff.2 (nf_le h (i := i) (j := i + 1) (by omega) hi)
theorem pcheck_spec (v : Value) (us : List UL) (w : World) (hv : ArgS w v rU us) (hnil : us = [] → v = .slice none 0 0) (h : NF (us.map absU)) (hk : ∀ u ∈ us, UIn u) (hl : us.length ≤ 19) :
    Calls Tryz.prog 114 [vLines, v].toArray w (Ret (.int .i64 0) w) := by
  obtain ⟨n1, n2, n3⟩ := nrm_same h hk
  have := ArgC.mk hv
  obtain ⟨p, cp, rfl⟩ := hv.form
  have : ∀ L, LstN w L (.slice p us.length cp) UL rU us := fun L => ⟨fun w' hw' => hv.to hw'.ext, hnil⟩
  refine fn_intro Tryz.func114 rfl Tryz.ntmps114 rfl ?_
  repeat (refine wkB ?_; try intro _)
  simp only [decide_eq_false (show ¬ (256 : Int) < us.length by omega)]
  repeat (refine wkB ?_; try intro _)
  refine j_loop (S := Nat) (fun m => m ≤ us.length) (fun m => [(0, vLines), (1, .slice p us.length cp), (14, .slice p us.length cp), (15, .int .i64 us.length), (16, .int .i64 (m : Nat))]) (fun _ => []) (fun m => us.length - m) 0 (Nat.zero_le _) sbB slB (fun m hm => ?_)
  repeat (refine wkB ?_; try intro _)
  refine j_cond rfl (fun hc => ?_) (fun hc => ?_)
  · have hlt : m < us.length := by have := of_decide_eq_true hc; omega
    have hne : us ≠ [] := fun h0 => by rw [h0] at hlt; simp at hlt
    obtain ⟨b1, o1, c1', hv1, hc1, hr1⟩ := hv.blk (k := 35) hne []
    injection hv1 with e1 e2 e3
    subst e1
    subst e3
    have hr1' : ∀ L, RowC w L b1 o1 UL rU us := fun L => ⟨fun w' hw' => hr1.out w' (hw'.sub (List.nil_sublist _))⟩
    have hu := hk _ (gi_mem (i := (m : Int)) (xs := us) (by omega))
    have ho := h.ok _ (List.mem_map.2 ⟨_, gi_mem (i := (m : Int)) (xs := us) (by omega), rfl⟩)
    have p1 : IvOk LQ (gi us (m : Int)).In ∧ okI (gi us (m : Int)).In := ⟨hu.i.mono (by decide), ho⟩
    have p2 : LnOk LQ (gi us (m : Int)).F := hu.f.mono (by decide)
    repeat (first | (refine wkB ?_; try intro _) | (refine sC rfl rfl ?_ ?_; focus (first | exact p1 | exact p2)) | (refine sN rfl rfl ?_ ?_; (focus (first | exact p1 | exact p2)); intro _; (try simp only [List.cons_append, List.nil_append, List.append_nil])))
    rename_i b6
    rcases Nat.eq_zero_or_pos m with h0 | h0
    · subst h0
      refine jD 14 14 (h := ?_)
      (repeat (refine wkH ?_))
      simp only [decide_eq_false (show ¬ (0 : Int) < ((0 : Nat) : Int) by decide)]
      (repeat (refine wkH ?_))
      refine jh_nil ?_
      refine jn_nil ?_
      repeat (refine wkB ?_; try intro _)
      exact jx_loop 1 hlt sbB slB (by omega)
    · have hu0 := hk _ (gi_mem (i := (m : Int) - 1) (xs := us) (by omega))
      have ha : aprt (gi us ((m : Int) - 1)).In (gi us (m : Int)).In = true := by
        have := n3 (m - 1) (by omega)
        rw [show ((m - 1 : Nat) : Int) = (m : Int) - 1 by omega, show ((m - 1 + 1 : Nat) : Int) = (m : Int) by omega] at this
        exact this
      refine jD 14 14 (h := ?_)
      (repeat (refine wkH ?_))
      simp only [decide_eq_true (show (0 : Int) < (m : Int) by omega)]
      (repeat (first | refine wkH ?_ | (refine tC rfl rfl ?_ ?_; focus (exact ⟨⟨hu0.i.r2, hu.i.r1⟩, Nat.le_trans hu0.i.m2 (by decide), Nat.le_trans hu.i.m1 (by decide)⟩))))
      simp only [ha, Bool.not_true]
      (repeat (refine wkH ?_))
      refine jh_nil ?_
      refine jn_nil ?_
      repeat (refine wkB ?_; try intro _)
      exact jx_loop (m + 1) hlt sbB slB (by omega)
  · repeat (first | (refine wkB ?_; try intro _) | (refine sC rfl rfl ?_ ?_; focus (first | exact ⟨hl, hk⟩)) | (refine sN rfl rfl ?_ ?_; (focus (first | exact ⟨hl, hk⟩)); intro _; (try simp only [List.cons_append, List.nil_append, List.append_nil])))
    rename_i s
    obtain ⟨s', e1, e2⟩ := SlS.turn 163 n1 s
    simp only [← e1, ← e2, n2, decide_eq_true (rfl : (0 : Int) = 0), Bool.not_true]
    repeat (first | (refine wkB ?_; try intro _) | (refine sC rfl rfl ?_ ?_; focus (exact (show us.length ≤ 1048576 by omega))) | (refine sN rfl rfl ?_ ?_; (focus (exact (show us.length ≤ 1048576 by omega))); intro _; (try simp only [List.cons_append, List.nil_append, List.append_nil])))
    exact jx_ret_tmp rfl rfl (fun w hw => ret_ok hw)
instance sm_pcheck (w0 : World) (L : List Blk) (v : Value) (us : List UL) [h : LstN w0 L v UL rU us] : SpecM Tryz.prog w0 L 114 [vLines, v] (.int .i64 0) (NF (us.map absU) ∧ (∀ u ∈ us, UIn u) ∧ us.length ≤ 19) := ⟨fun hp w hw => pcheck_spec v us w (h.out w hw) h.nil hp.1 hp.2.1 hp.2.2⟩
/-- A moving point in normal form, short enough. -/
structure PFine (us : List PU) : Prop where
  nf : NF (us.map absP)
  k : ∀ u ∈ us, UIn (toU u)
  l : us.length ≤ 19
theorem mcheck_spec (v : Value) (us : List PU) (w : World) (hv : ArgS w v rP us) (h : PFine us) : Calls Tryz.prog 73 [v].toArray w (Ret (.int .i64 0) w) := by
  have hl := h.l
  have hml := mpN_map toU us
  have p1 : NF ((mpN toU us us.length).map absU) ∧ (∀ u ∈ mpN toU us us.length, UIn u) ∧ (mpN toU us us.length).length ≤ 19 := by
    rw [hml, map_toU, List.length_map]
    refine ⟨h.nf, fun u hu => ?_, hl⟩
    obtain ⟨x, hx, rfl⟩ := List.mem_map.1 hu
    exact h.k x hx
  have := ArgC.mk hv
  refine fn_intro Tryz.func73 rfl Tryz.ntmps73 rfl ?_
  repeat (first | (refine wkB ?_; try intro _) | (refine sC rfl rfl ?_ ?_; focus (first | exact trivial | exact (show us.length ≤ 1048576 by omega) | exact p1)) | (refine sN rfl rfl ?_ ?_; (focus (first | exact trivial | exact (show us.length ≤ 1048576 by omega) | exact p1)); intro _; (try simp only [List.cons_append, List.nil_append, List.append_nil])))
  exact jx_ret_tmp rfl rfl (fun w hw => ret_ok hw)
instance sm_mcheck (w0 : World) (L : List Blk) (v : Value) (us : List PU) [h : LstC w0 L v PU rP us] : SpecM Tryz.prog w0 L 73 [v] (.int .i64 0) (PFine us) := ⟨fun hp w hw => mcheck_spec v us w (h.out w hw) hp⟩
set_option maxHeartbeats 2000000 in
theorem scheck_spec (v : Value) (us : List PU) (w : World) (hv : ArgS w v rP us) (h : PFine us) : Calls Tryz.prog 31 [v].toArray w (Ret (.int .i64 0) w) := by
  have hl := h.l
  have := ArgC.mk hv
  obtain ⟨p, cp, rfl⟩ := hv.form
  refine fn_intro Tryz.func31 rfl Tryz.ntmps31 rfl ?_
  repeat (first | (refine wkB ?_; try intro _) | (refine sC rfl rfl ?_ ?_; focus (exact h)) | (refine sN rfl rfl ?_ ?_; (focus (exact h)); intro _; (try simp only [List.cons_append, List.nil_append, List.append_nil])))
  simp only [decide_eq_true (rfl : (0 : Int) = 0), Bool.not_true]
  repeat (refine wkB ?_; try intro _)
  refine j_loop (S := Nat) (fun m => m ≤ us.length) (fun m => [(15, .slice p us.length cp), (16, .int .i64 us.length), (17, .int .i64 (m : Nat))]) (fun _ => []) (fun m => us.length - m) 0 (Nat.zero_le _) sbB slB (fun m hm => ?_)
  repeat (refine wkB ?_; try intro _)
  refine j_cond rfl (fun hc => ?_) (fun hc => ?_)
  · have hlt : m < us.length := by have := of_decide_eq_true hc; omega
    have hne : us ≠ [] := fun h0 => by rw [h0] at hlt; simp at hlt
    obtain ⟨b1, o1, c1', hv1, hc1, hr1⟩ := hv.blk (k := 35) hne []
    injection hv1 with e1 e2 e3
    subst e1
    subst e3
    have hr1' : ∀ L, RowC w L b1 o1 PU rP us := fun L => ⟨fun w' hw' => hr1.out w' (hw'.sub (List.nil_sublist _))⟩
    have hu := (h.k _ (gi_mem (i := (m : Int)) (xs := us) (by omega))).i
    have q1 : decide ((gi us (m : Int)).In.From.R = 0) = true := decide_eq_true hu.r1
    have q2 : decide ((gi us (m : Int)).In.To.R = 0) = true := decide_eq_true hu.r2
    repeat (refine wkB ?_; try intro _)
    simp only [q1, q2, Bool.not_true]
    repeat (refine wkB ?_; try intro _)
    exact jx_loop (m + 1) hlt sbB slB (by omega)
  · repeat (refine wkB ?_; try intro _)
    exact jx_ret_tmp rfl rfl (fun w hw => ret_ok hw)
instance sm_scheck (w0 : World) (L : List Blk) (v : Value) (us : List PU) [h : LstC w0 L v PU rP us] : SpecM Tryz.prog w0 L 31 [v] (.int .i64 0) (PFine us) := ⟨fun hp w hw => scheck_spec v us w (h.out w hw) hp⟩
end Go.Vt
/- The moving point of a car without a part, walked. Conditions: those that each statement names. -/
set_option linter.unusedSimpArgs false
set_option linter.unusedVariables false
set_option maxHeartbeats 2000000
set_option maxRecDepth 100000
namespace Go.Vt
open Go.RowKit Go.Proofs
/-- Two small numbers. -/
abbrev e2C (a b : Int) : Array Value := row (eI .u8) [a, b] []
instance (priority := high) ys_e2C {w0 : World} {n : Nat} {L : List Blk} {E : Env} {T T0 : TypeId} {x : Operand} {b : Nat} {i a1 a2 : Int} [IsC (evl E x) (.pointer (some ⟨b, 0 + i.toNat * 1, none⟩))] [h : AtC w0 L b (row (eI .u8) [a1, a2] []) T0] [hv : LdC Tryz.prog T (eI .u8 (gi [a1, a2] i)) 0 (.int .u8 (gi [a1, a2] i))] : YsC Tryz.prog w0 n L E (.load T x) (.int .u8 (gi [a1, a2] i)) (0 ≤ i ∧ i < 2) := ⟨fun hi => ys_row0.out (by show i.toNat < 2; omega)⟩
/-- A car that came in. -/
structure CarIn (w : World) (c : viatorlaw15_Car) (ss : List Stp15) : Prop where
  t : (0 ≤ c.Time ∧ c.Time ≤ 255) ∧ (0 ≤ c.X ∧ c.X ≤ 255) ∧ (0 ≤ c.Y ∧ c.Y ≤ 255)
  v : ArgS w (.slice c.Steps.a c.Steps.len c.Steps.cap) e_viatorlaw15_Step ss
  l : c.Steps.len = ss.length
  s : ∀ s ∈ ss, StOk s
theorem CarIn.ok {w : World} {c : viatorlaw15_Car} {ss : List Stp15} (h : CarIn w c ss) (h6 : ss.length ≤ 6) : CarOk c ss := ⟨⟨h.t.1.1, h.t.2.1.1, h.t.2.2.1⟩, h.s, h6⟩
class CarC (w0 : World) (c : viatorlaw15_Car) (ss : outParam (List Stp15)) : Prop where
  out : CarIn w0 c ss
instance sr_trajec (w0 : World) (L : List Blk) (c : viatorlaw15_Car) (ss : List Stp15) [h : CarC w0 c ss] : SpecR Tryz.prog w0 L 80 [.agg (e_viatorlaw15_Car c)] (SlS rP 36 (carL c ss)) (fun s => vSl s) (fun s => mS 68 s) (ss.length ≤ 6) := ⟨fun h6 w hw => trajec_spec c ss w h.out.t (h.out.v.to hw.ext) h.out.l h6 h.out.s⟩
instance sp_short (c : viatorlaw15_Car) : SpecC Tryz.prog 32 [.agg (e_viatorlaw15_Car c)] (.bool (decide ((c.Steps.len : Int) ≤ 6))) True := ⟨fun _ w => by
  refine fn_intro Tryz.func32 rfl Tryz.ntmps32 rfl ?_
  repeat (refine wkB ?_; try intro _)
  exact jx_ret_tmp rfl rfl (fun w hw => ret_ok hw)⟩
/-- The moving point. -/
def mvL (c : viatorlaw15_Car) (ss : List Stp15) (a1 a2 : Int) : List PU := if a1 % 3 = 0 then carL c ss else movL (carL c ss) (Rat.divInt a1 4) (Rat.divInt (a1 + a2) 4)
theorem quarter_M {n : Int} (h : 0 ≤ n ∧ n ≤ 510) : M (Rat.divInt n 4) ≤ 68 := M_divInt (Nat.le_trans (mg_small (k := 2) (by omega)) (by decide)) (by decide) (by decide)
theorem MovOk.s1 {l : List PU} {a b : Rat} (hm : MovOk l a b) : SwOk (pIv l) [] := ⟨.inl hm.l2, hm.b3, fun i hi => (by cases hi)⟩
theorem MovOk.s2 {l : List PU} {a b : Rat} (hm : MovOk l a b) : SwOk (pDom l) (closL a b) := ⟨.inl hm.l1, hm.b1, hm.b2⟩
theorem MovOk.s3 {l : List PU} {a b : Rat} (hm : MovOk l a b) : ResOk l (swpR kpM (pDom l) (closL a b)) := hm.r
theorem pq {a b : Rat} (m1 : M a ≤ 68) (m2 : M b ≤ 68) : M a ≤ LQ ∧ M b ≤ LQ := ⟨Nat.le_trans m1 (by decide), Nat.le_trans m2 (by decide)⟩
set_option maxHeartbeats 2000000 in
theorem moving_spec (c : viatorlaw15_Car) (ss : List Stp15) (a1 a2 : Int) (w : World) (g1 : 0 ≤ a1 ∧ a1 ≤ 255) (g2 : 0 ≤ a2 ∧ a2 ≤ 255) (hc : CarIn w c ss) (h6 : ss.length ≤ 6) :
    Calls Tryz.prog 33 [.agg (e_viatorlaw15_Car c), .agg (e2C a1 a2)].toArray w (RetM (SlS rP 36 (mvL c ss a1 a2)) (fun s => vSl s) (fun s => mS 68 s) w) := by
  have : CarC w c ss := ⟨hc⟩
  have hm := mov_law (hc.ok h6) (quarter_M (n := a1) (by omega)) (quarter_M (n := a1 + a2) (by omega))
  refine fn_intro Tryz.func33 rfl Tryz.ntmps33 rfl ?_
  have q0 : gi [a1, a2] 0 = a1 := rfl
  have q1 : gi [a1, a2] 1 = a2 := rfl
  repeat (first | (refine wkB ?_; try intro _) | (refine sC rfl rfl ?_ ?_; focus (exact h6)) | (refine sN rfl rfl ?_ ?_; (focus (exact h6)); intro _; (try simp only [List.cons_append, List.nil_append, List.append_nil])))
  simp only [q0]
  repeat (refine wkB ?_; try intro _)
  rename_i b2 b3 s
  by_cases h3 : a1 % 3 = 0
  · simp only [decide_eq_true h3]
    repeat (refine wkB ?_; try intro _)
    obtain ⟨s', e1, e2⟩ := SlS.turn 68 (show carL c ss = mvL c ss a1 a2 from (if_pos h3).symm) s
    simp only [← e1, ← e2]
    exact jx_ret_tmp rfl rfl (fun w hw => ⟨s', rfl, hw.sub suB⟩)
  · simp only [decide_eq_false h3]
    have m1 := quarter_M (n := a1) (by omega)
    have m2 := quarter_M (n := a1 + a2) (by omega)
    repeat (first | (refine wkB ?_; try intro _) | (refine sC rfl rfl ?_ ?_; focus (exact ⟨by omega, by omega⟩)) | (refine sN rfl rfl ?_ ?_; (focus (exact ⟨by omega, by omega⟩)); intro _; (try simp only [List.cons_append, List.nil_append, List.append_nil])))
    simp only [q0]
    repeat (first | (refine wkB ?_; try intro _) | (refine sC rfl rfl ?_ ?_; focus (exact ⟨by omega, by omega⟩)) | (refine sN rfl rfl ?_ ?_; (focus (exact ⟨by omega, by omega⟩)); intro _; (try simp only [List.cons_append, List.nil_append, List.append_nil])))
    simp only [q0, q1]
    repeat (first | (refine wkB ?_; try intro _) | (refine sC rfl rfl ?_ ?_; focus (exact ⟨by omega, by omega⟩)) | (refine sN rfl rfl ?_ ?_; (focus (exact ⟨by omega, by omega⟩)); intro _; (try simp only [List.cons_append, List.nil_append, List.append_nil])))
    rename_i b6 b8
    (refine j_tree (.v [0, 1, 3, 4] (.e1 2 (.e1 5 (.e1 6 (.e1 7 (.e1 8 (.fin))))))) ([⟨b8, e_api_Rat (Q (Rat.divInt (a1 + a2) 4)), 28⟩, ⟨b6, e_api_Rat (Q (Rat.divInt a1 4)), 28⟩]) (h := ?_); refine wkX ?_)
    (repeat (refine wkH ?_))
    repeat (first | (refine wkT ?_; try intro _) | (refine tC rfl rfl ?_ ?_; focus (first | with_reducible exact hm.s1 | with_reducible exact hm.s2 | with_reducible exact hm.s3 | with_reducible exact pq m1 m2)) | (refine uC rfl rfl ?_ ?_; focus (first | with_reducible exact hm.s1 | with_reducible exact hm.s2 | with_reducible exact hm.s3 | with_reducible exact pq m1 m2)) | (refine eN rfl rfl ?_ ?_; (focus (first | with_reducible exact hm.s1 | with_reducible exact hm.s2 | with_reducible exact hm.s3 | with_reducible exact pq m1 m2)); intro _; (try simp only [List.cons_append, List.nil_append, List.append_nil])))
    repeat (refine wkB ?_; try intro _)
    rename_i s5 s6 s7 s8
    have hml : mpN ofU (nrmR (mRes (carL c ss) (swpR kpM (pDom (carL c ss)) (closL (Rat.divInt a1 4) (Rat.divInt (a1 + a2) 4))))) (nrmR (mRes (carL c ss) (swpR kpM (pDom (carL c ss)) (closL (Rat.divInt a1 4) (Rat.divInt (a1 + a2) 4))))).length = mvL c ss a1 a2 := (if_neg h3).symm
    obtain ⟨s', e1, e2⟩ := SlS.turn 68 hml s8
    simp only [← e1, ← e2]
    clear hml e1 e2
    exact jx_ret_tmp rfl rfl (fun w hw => ⟨s', rfl, hw.sub suB⟩)
instance sr_moving (w0 : World) (L : List Blk) (c : viatorlaw15_Car) (ss : List Stp15) (a1 a2 : Int) [h : CarC w0 c ss] : SpecR Tryz.prog w0 L 33 [.agg (e_viatorlaw15_Car c), .agg (e2C a1 a2)] (SlS rP 36 (mvL c ss a1 a2)) (fun s => vSl s) (fun s => mS 68 s) ((0 ≤ a1 ∧ a1 ≤ 255) ∧ (0 ≤ a2 ∧ a2 ≤ 255) ∧ ss.length ≤ 6) := ⟨fun hp w hw => moving_spec c ss a1 a2 w hp.1 hp.2.1 ⟨h.out.t, h.out.v.to hw.ext, h.out.l, h.out.s⟩ hp.2.2⟩
/-- What is known of it. -/
theorem mvL_good {c : viatorlaw15_Car} {ss : List Stp15} {a1 a2 : Int} (h : CarOk c ss) (g1 : 0 ≤ a1 ∧ a1 ≤ 255) (g2 : 0 ≤ a2 ∧ a2 ≤ 255) : PGood 276 12 (mvL c ss a1 a2) := by
  unfold mvL
  split
  · obtain ⟨⟨h1, h2, h3⟩, -⟩ := carL_good h
    exact ⟨h1, fun u hu => (h2 u hu).mono (by decide), by omega⟩
  · exact (mov_law h (quarter_M (n := a1) (by omega)) (quarter_M (n := a1 + a2) (by omega))).g
end Go.Vt
/- What the rows over cars share: the reading of a car and of two small numbers. Conditions: none. -/
set_option linter.unusedSimpArgs false
set_option linter.unusedVariables false
set_option maxHeartbeats 2000000
namespace Go.Proofs.YtgcjapcminakdaaGreatDoor
open Go.ChangeShapes Go.WideShapes Go.ChangeAt Go.RowKit Go.Deep Go.Vt
set_option maxRecDepth 100000
theorem bunder58 : Tryz.prog.underlying 58 = some (.array 2 5) := by kernel_rfl
theorem runder76 : Tryz.prog.underlying 76 = some (.slice 174) := by kernel_rfl
theorem rcells174 : Tryz.prog.cellsOf 174 = 4 := by kernel_rfl
theorem rcells76 : Tryz.prog.cellsOf 76 = 1 := by kernel_rfl
theorem runder174 : ∃ f0 f1 f2 f3, Tryz.prog.underlying 174 = some (.struct #[f0, f1, f2, f3]) ∧ f0.type = 5 ∧ f1.type = 5 ∧ f2.type = 5 ∧ f3.type = 5 ∧ f0.offset = 0 ∧ f1.offset = 1 ∧ f2.offset = 2 ∧ f3.offset = 3 := ⟨_, _, _, _, Tryz.underlying174, rfl, rfl, rfl, rfl, rfl, rfl, rfl, rfl⟩
theorem runder78 : ∃ f0 f1 f2 f3, Tryz.prog.underlying 78 = some (.struct #[f0, f1, f2, f3]) ∧ f0.type = 5 ∧ f1.type = 5 ∧ f2.type = 5 ∧ f3.type = 76 ∧ f0.offset = 0 ∧ f1.offset = 1 ∧ f2.offset = 2 ∧ f3.offset = 3 := ⟨_, _, _, _, Tryz.underlying78, rfl, rfl, rfl, rfl, rfl, rfl, rfl, rfl⟩
theorem trod_pair {H : Type} {enc : TypeId × Value → H} {P : Program} {W : World} {base fuel : Nat} {sp : Nat → Bool} {held : Bool} {t e : TypeId} {a b : Value} {x : DataW H × List MemPlace} (ht : P.underlying t = some (.array 2 e)) (hc : P.cellsOf e = 1) (h : DataW.trod enc P W base sp held fuel t [a, b] = some x) :
    ∃ y z k, DataW.trod enc P W base sp held k e [a] = some y ∧ DataW.trod enc P W base sp held k e [b] = some z := by
  match fuel with
  | 0 => simp [DataW.trod] at h
  | k + 1 =>
    unfold DataW.trod at h
    rw [ht] at h
    simp [show List.range 2 = [0, 1] from rfl, hc] at h
    obtain ⟨-, h⟩ := h
    rcases ha : DataW.trod enc P W base sp held k e [a] with _ | y
    · simp [ha] at h
    · rcases hb : DataW.trod enc P W base sp held k e [b] with _ | z
      · simp [ha, hb] at h
      · exact ⟨y, z, k, ha, hb⟩
theorem open_two {H : Type} {enc : TypeId × Value → H} {W : World} {base b0 : Nat} {r : Reach} {held : Bool} {v : Value} {d : DataW H} {p : List MemPlace} (hv : Value.okWide Tryz.prog W r b0 58 v) (h : DataW.Trod enc Tryz.prog W base (fun _ => true) held 58 v d p) :
    ∃ a1 a2 : Int, v = .agg (Go.Vt.e2C a1 a2) ∧ (0 ≤ a1 ∧ a1 ≤ 255) ∧ (0 ≤ a2 ∧ a2 ≤ 255) := by
  simp only [Value.okWide, bunder58] at hv
  obtain ⟨cs, rfl, hs, _⟩ := hv
  have h3 : cs.size = 2 := by rw [hs]; kernel_rfl
  obtain ⟨fuel, hf⟩ := h
  match cs, h3 with
  | ⟨[c0, c1]⟩, _ =>
    simp only [Value.cells] at hf
    obtain ⟨y0, y1, n, g0, g1⟩ := trod_pair bunder58 (by kernel_rfl) hf
    obtain ⟨n0, p0, _, q0⟩ := DataW.trod_int Tryz.underlying5 g0
    obtain ⟨n1, p1, _, q1⟩ := DataW.trod_int Tryz.underlying5 g1
    simp only [List.cons.injEq, and_true] at p0 p1
    subst p0; subst p1
    exact ⟨n0, n1, rfl, u8_wf q0, u8_wf q1⟩
/-- The steps of a car that reads. -/
theorem open_steps {H : Type} {enc : TypeId × Value → H} {W : World} {base : Nat} {held : Bool} {fuel : Nat} {v : Value} {x : DataW H × List MemPlace} (h : DataW.trod enc Tryz.prog W base (fun _ => true) held fuel 76 [v] = some x) :
    ∃ (a0 : Option Addr) (l0 c0 : Nat) (ws : List Stp15), v = .slice a0 l0 c0 ∧ ArgS W (.slice a0 l0 c0) e_viatorlaw15_Step ws ∧ (∀ s ∈ ws, StOk s) ∧ l0 = ws.length := by
  rcases open_slice runder76 h with ⟨h0, _⟩ | ⟨a, len, cap, m, n, D, Pl, hcs, hb, hl, hm, hmm, hx, hc⟩
  · simp at h0
    subst h0
    exact ⟨none, 0, 0, [], rfl, ⟨.inl ⟨rfl, rfl⟩⟩, (fun s hs => by cases hs), rfl⟩
  · simp at hcs
    subst hcs
    obtain ⟨f0, f1, f2, f3, he, t0, t1, t2, t3, o0, o1, o2, o3⟩ := runder174
    have each : ∀ i, i < m → ∃ q : Int × Int × Int × Int, W.cell? (a.add (i * 4)) = some (.int .u8 q.1) ∧ W.cell? (a.add (i * 4 + 1)) = some (.int .u8 q.2.1) ∧ W.cell? (a.add (i * 4 + 2)) = some (.int .u8 q.2.2.1) ∧ W.cell? (a.add (i * 4 + 3)) = some (.int .u8 q.2.2.2) ∧ (0 ≤ q.1 ∧ q.1 ≤ 255) ∧ (0 ≤ q.2.1 ∧ q.2.1 ≤ 255) ∧ (0 ≤ q.2.2.1 ∧ q.2.2.1 ≤ 255) ∧ (0 ≤ q.2.2.2 ∧ q.2.2.2 ≤ 255) := by
      intro i hi
      obtain ⟨cs', h1, h2⟩ := hc i hi
      rw [rcells174] at h1
      obtain ⟨_, hlen, hcell⟩ := World.cells?_some h1
      obtain ⟨xs, k, hk, hxy, _, hxl, hf⟩ := DataW.trod_struct he h2
      match xs, hxl, cs', hlen with
      | [y0, y1, y2, y3], _, [v0, v1, v2, v3], _ =>
        have g0 := hf 0 f0 rfl
        have g1 := hf 1 f1 rfl
        have g2 := hf 2 f2 rfl
        have g3 := hf 3 f3 rfl
        simp [o0, o1, o2, o3, t0, t1, t2, t3, rcells5] at g0 g1 g2 g3
        have e0 := hcell 0 (by omega)
        have e1 := hcell 1 (by omega)
        have e2 := hcell 2 (by omega)
        have e3 := hcell 3 (by omega)
        rw [add_add] at e0 e1 e2 e3
        obtain ⟨n0, p0, _, q0⟩ := DataW.trod_int runder5 g0
        obtain ⟨n1, p1, _, q1⟩ := DataW.trod_int runder5 g1
        obtain ⟨n2, p2, _, q2⟩ := DataW.trod_int runder5 g2
        obtain ⟨n3, p3, _, q3⟩ := DataW.trod_int runder5 g3
        simp only [List.cons.injEq, and_true] at p0 p1 p2 p3
        subst p0; subst p1; subst p2; subst p3
        exact ⟨(n0, n1, n2, n3), by simpa using e0, by simpa using e1, by simpa using e2, by simpa using e3, u8_wf q0, u8_wf q1, u8_wf q2, u8_wf q3⟩
    obtain ⟨q, hq⟩ := choose_lt each
    have hlm : len ≤ m := by rw [hmm]; simpa using hl
    refine ⟨some a, len, cap, (List.range len).map fun i => ⟨(q i).1, (q i).2.1, (q i).2.2.1, (q i).2.2.2⟩, rfl, ⟨.inr ⟨a, cap, by simp, by simpa using hl, fun i f k u hi hk hu => ?_⟩⟩, fun s hs => ?_, ?_⟩
    · simp only [List.length_map, List.length_range] at hi
      obtain rfl : k = 4 := by rw [← hk default]; rfl
      have hqi := hq i (by omega)
      simp only [List.getElem_map, List.getElem_range, e_viatorlaw15_Step] at hu
      match f, hu with
      | 0, hu => simp at hu; subst hu; exact hqi.1
      | 1, hu => simp at hu; subst hu; exact hqi.2.1
      | 2, hu => simp at hu; subst hu; exact hqi.2.2.1
      | 3, hu => simp at hu; subst hu; exact hqi.2.2.2.1
      | f + 4, hu => simp at hu
    · obtain ⟨i, hi, rfl⟩ := List.mem_map.1 hs
      have hqi := (hq i (by have := List.mem_range.1 hi; omega)).2.2.2.2
      exact ⟨hqi.1, hqi.2.1, hqi.2.2.1, hqi.2.2.2⟩
    · simp
/-- A car that reads. -/
theorem open_car {H : Type} {enc : TypeId × Value → H} {W : World} {base b0 : Nat} {r : Reach} {held : Bool} {v : Value} {d : DataW H} {p : List MemPlace} (hv : Value.okWide Tryz.prog W r b0 78 v) (h : DataW.Trod enc Tryz.prog W base (fun _ => true) held 78 v d p) :
    ∃ (c : viatorlaw15_Car) (ss : List Stp15), v = .agg (e_viatorlaw15_Car c) ∧ CarIn W c ss := by
  obtain ⟨f0, f1, f2, f3, he, t0, t1, t2, t3, o0, o1, o2, o3⟩ := runder78
  simp only [Value.okWide, he] at hv
  obtain ⟨cs, rfl, hs, _⟩ := hv
  have h3 : cs.size = 4 := by rw [hs]; kernel_rfl
  obtain ⟨fuel, hf⟩ := h
  obtain ⟨xs, k, hk, hxy, _, hxl, hg⟩ := DataW.trod_struct he hf
  match cs, h3, xs, hxl with
  | ⟨[c0, c1, c2, c3]⟩, _, [y0, y1, y2, y3], _ =>
    have g0 := hg 0 f0 rfl
    have g1 := hg 1 f1 rfl
    have g2 := hg 2 f2 rfl
    have g3 := hg 3 f3 rfl
    simp [Value.cells, o0, o1, o2, o3, t0, t1, t2, t3, rcells5, rcells76] at g0 g1 g2 g3
    obtain ⟨n0, p0, _, q0⟩ := DataW.trod_int runder5 g0
    obtain ⟨n1, p1, _, q1⟩ := DataW.trod_int runder5 g1
    obtain ⟨n2, p2, _, q2⟩ := DataW.trod_int runder5 g2
    simp only [List.cons.injEq, and_true] at p0 p1 p2
    subst p0; subst p1; subst p2
    obtain ⟨a0, l0, c0, ws, rfl, w1, w2, w3⟩ := open_steps g3
    exact ⟨⟨n0, n1, n2, ⟨a0, l0, c0⟩⟩, ws, rfl, ⟨u8_wf q0, u8_wf q1, u8_wf q2⟩, w1, w3, w2⟩
end Go.Proofs.YtgcjapcminakdaaGreatDoor
/- The reference's samples and turns, walked. Conditions: those that each statement names. -/
set_option linter.unusedSimpArgs false
set_option linter.unusedVariables false
set_option maxHeartbeats 2000000
set_option maxRecDepth 100000
namespace Go.Vt
open Go.RowKit Go.Proofs
end Go.Vt
/- The end of a run, walked. Conditions: those that each statement names. -/
set_option linter.unusedSimpArgs false
set_option linter.unusedVariables false
set_option maxHeartbeats 2000000
set_option maxRecDepth 100000
namespace Go.Vt
open Go.RowKit Go.Proofs
/-- The header of a slice of the call's own. -/
def hS {α : Type} {enc : α → Array Value} {k : Nat} {xs : List α} (s : SlS enc k xs) : Sl := match s.s with
  | none => ⟨none, 0, 0⟩
  | some t => ⟨some ⟨t.1, 0, none⟩, xs.length, t.2.1⟩
theorem hS_v {α : Type} {enc : α → Array Value} {k : Nat} {xs : List α} (s : SlS enc k xs) : Value.slice (hS s).a (hS s).len (hS s).cap = vSl s := by
  obtain ⟨s, h1, h2⟩ := s
  cases s <;> rfl
abbrev cRn (I : R_api_Interval) (h : Sl) : Array Value := e_simplify_Run (q_simplify_Run ⟨I, h⟩)
section
variable {α : Type} {enc : α → Array Value} {k : Nat} {xs : List α}
instance (priority := 30000) ld_hS (I : R_api_Interval) (s : SlS enc k xs) : LdC Tryz.prog 33 (e_simplify_Run (q_simplify_Run ⟨I, hS s⟩)) 20 (vSl s) := hS_v s ▸ rl_35_33_20 ⟨I, hS s⟩
instance (priority := 30000) st_hS (I : R_api_Interval) (h : Sl) (s : SlS enc k xs) : StC Tryz.prog 33 (e_simplify_Run (q_simplify_Run ⟨I, h⟩)) 20 (vSl s) (e_simplify_Run (q_simplify_Run ⟨I, hS s⟩)) := hS_v s ▸ st_35_1 ⟨I, h⟩ (hS s).a (hS s).len (hS s).cap
end
/-- The runs that have ended, and the run that ends now. -/
def endL {P : List SS} (hds : List R_simplify_Run) (I : R_api_Interval) (s : SlS rS 12 P) : List R_simplify_Run := if P = [] then hds else hds ++ [⟨I, hS s⟩]
theorem end_spec (w0 w : World) (L2 : List Blk) (b8 b9 : Nat) (hds : List R_simplify_Run) (o : SlS rR 21 hds) (I : R_api_Interval) (P : List SS) (s : SlS rS 12 P) (hl : hds.length ≤ 1048576) (hP : P.length ≤ 1048576) (hw : Own w0 (mS 35 o ++ ⟨b9, cRn I (hS s), 35⟩ :: ⟨b8, #[vSl o], 62⟩ :: L2) w) :
    Calls Tryz.prog 76 [.pointer (some ⟨b9, 0, none⟩), .pointer (some ⟨b8, 0, none⟩)].toArray w (RetX w0 (SlS rR 21 (endL hds I s)) (fun _ => .tuple #[]) (fun o' => mS 35 o' ++ ⟨b9, cRn zR_api_Interval ⟨none, 0, 0⟩, 35⟩ :: ⟨b8, #[vSl o'], 62⟩ :: L2)) := by
  refine fn_introL Tryz.func76 rfl Tryz.ntmps76 rfl hw ?_
  repeat (refine wkB ?_; try intro _)
  by_cases h0 : P = []
  · have e : hds = endL hds I s := (if_pos h0).symm
    refine j_cond rfl (fun h => ?_) (fun h => ?_)
    · have := of_decide_eq_true h
      rw [h0] at this
      simp at this
    · refine j_skip ?_
      refine jx_then ?_
      repeat (refine wkB ?_; try intro _)
      obtain ⟨o', e1, e2⟩ := SlS.turn 35 e o
      simp only [← e1, ← e2]
      exact jx_end0 rfl (fun w hw => ⟨o', rfl, hw⟩)
  · have hp : 0 < P.length := List.length_pos_iff.2 h0
    have e : hds ++ [⟨I, hS s⟩] = endL hds I s := (if_neg h0).symm
    refine j_cond rfl (fun h => ?_) (fun h => ?_)
    · repeat (refine wkB ?_; try intro _)
      refine sU rfl rfl ?_ ?_ ?_ ?_
      · rfl
      · rfl
      · exact ⟨by decide, by omega, by omega⟩
      intro o1
      repeat (refine wkB ?_; try intro _)
      obtain ⟨o', e1, e2⟩ := SlS.turn 35 e o1
      simp only [← e1, ← e2]
      exact jx_end0 rfl (fun w hw => ⟨o', rfl, hw.sub suB⟩)
    · have := of_decide_eq_false h
      omega
instance sx_end (w0 : World) (L L1 L2 L3 : List Blk) (b8 b9 : Nat) {hds : List R_simplify_Run} (o : SlS rR 21 hds) (I : R_api_Interval) {P : List SS} (s : SlS rS 12 P) [h1 : DelC b9 L (cRn I (hS s)) 35 L1] [h2 : DelC b8 L1 #[vSl o] 62 L2] [h3 : OwnS 35 o L2 L3] : SpecX Tryz.prog w0 L 76 [.pointer (some ⟨b9, 0, none⟩), .pointer (some ⟨b8, 0, none⟩)] (SlS rR 21 (endL hds I s)) (fun _ => .tuple #[]) (fun o' => mS 35 o' ++ ⟨b9, cRn zR_api_Interval ⟨none, 0, 0⟩, 35⟩ :: ⟨b8, #[vSl o'], 62⟩ :: L3) (hds.length ≤ 1048576 ∧ P.length ≤ 1048576) := ⟨fun hp w hw =>
  end_spec w0 w L3 b8 b9 hds o I P s hp.1 hp.2 (hw.perm (h1.out.trans ((h2.out.cons _).trans ((((h3.out.cons _).cons _)).trans (((List.perm_middle (l₁ := mS 35 o)).symm.cons _).trans (List.perm_middle (l₁ := mS 35 o)).symm)))))⟩
end Go.Vt
/- Runs in memory: the blocks of their points; a part of an element is stored. Conditions: those that each statement names. -/
set_option linter.unusedSimpArgs false
set_option linter.unusedVariables false
set_option maxHeartbeats 2000000
set_option maxRecDepth 100000
namespace Go.Vt
open Go.RowKit Go.Proofs
/-- The blocks of runs that have ended. -/
def dnB (dn : List RD) : List Blk := dn.map fun r => ⟨r.b, row rS r.pts r.sp, 47⟩
/-- The runs that the program returns. -/
theorem hS_eq {α : Type} {enc : α → Array Value} {k : Nat} {xs : List α} {s : SlS enc k xs} {a : Option Addr} {l c : Nat} (h : vSl s = .slice a l c) : hS s = ⟨a, l, c⟩ := by
  rw [← hS_v] at h
  cases hq : hS s with
  | mk a' l' c' =>
    rw [hq] at h
    injection h with h1 h2 h3
    simp only at h1 h2 h3
    subst h1
    subst h2
    subst h3
    rfl
structure RunsO (ps : List (R_api_Interval × List SS)) where
  dn : List RD
  o : SlS rR 21 (dn.map RD.hd)
  e : dn.map (fun r => (r.I, r.pts)) = ps
  k : ∀ r ∈ dn, r.pts.length ≤ r.c
def RunsO.mem {ps : List (R_api_Interval × List SS)} (r : RunsO ps) : List Blk := mS 35 r.o ++ dnB r.dn
theorem Own.rebase {w w1 w2 : World} {L : List Blk} (h : Own w1 L w2) (hb : Below w.heap.size w w1) : Own w L w2 := ⟨⟨hb.trans (h.ext.bel.mono hb.size), trivial⟩, fun e he => ⟨Nat.le_trans hb.size (h.mem e he).1, (h.mem e he).2⟩, h.nd⟩
instance (priority := low) sbpSkip (e : Blk) (A L : List Blk) [h : SbpC A L] : SbpC A (e :: L) := ⟨by
  obtain ⟨L', hp⟩ := h.out
  exact ⟨e :: L', (hp.cons e).trans List.perm_middle.symm⟩⟩
instance (priority := high) sbpSelf (dn : List RD) : SbpC (dnB dn) (dnB dn) := ⟨[], by rw [List.append_nil]⟩
theorem sbp_of {A A' L : List Blk} (p : A.Perm A') [h : SbpC A' L] : SbpC A L := ⟨by
  obtain ⟨L', hp⟩ := h.out
  exact ⟨L', hp.trans (p.symm.append_right _)⟩⟩
/-- The order of the blocks does not matter where a loop goes on. -/
theorem jx_loopP {w0 : World} {n : Nat} {Q : Exit → Act → World → Prop} {E : Env} {L : List Blk} {S : Type} {I : S → Prop} {Es : S → Env} {Ls : S → List Blk} {mu : S → Nat} {s : S} (t : S) (ht : I t) (hE : Sub E (Es t)) (hL : SbpC (Ls t) L) (hmu : mu t < mu s) : JX w0 n .normal (LoopQ w0 n I Es Ls mu s Q) E L := ⟨fun a w ha hw => by
  obtain ⟨L', hp⟩ := hL.out
  exact (jx_loop (L := Ls t) t ht hE (List.Sublist.refl _) hmu).out a w ha ((hw.perm hp).sub (List.sublist_append_left _ _))⟩
section
variable {P : Program} {w0 : World} {n : Nat} {ops : Array Oper} {L L' Lw : List Blk} {E : Env} {K : Env → List Blk → Prop}
variable {rest : List Oper} {ty : TypeId} {pos : String} {aft : Array Edge} {gd : Option (Nat × Bool)} {x y : Operand} {T T0 : TypeId}
variable {α : Type} [Inhabited α] {enc : α → Array Value} {k b f : Nat} {xs : List α} {sp : List Value} {i : Int}
end
theorem dnB_snoc (ds : List RD) (r : RD) : dnB (ds ++ [r]) = dnB ds ++ [⟨r.b, row rS r.pts r.sp, 47⟩] := by
  unfold dnB
  rw [List.map_append]
  rfl
theorem dnB_perm (ds : List RD) (r : RD) : (dnB (ds ++ [r])).Perm (⟨r.b, row rS r.pts r.sp, 47⟩ :: dnB ds) := by
  rw [dnB_snoc]
  exact List.perm_append_comm
end Go.Vt
/- Codes within a range over a function, under the program logic: the same rules inside a fence, in a round or none; the call of yield. Conditions: those that each rule names. -/
set_option linter.unusedSimpArgs false
set_option linter.unusedVariables false
set_option maxHeartbeats 2000000
set_option linter.unusedSectionVars false
namespace Go.Vt
open Go.RowKit
/-- The fence around all functions; 'r': the round in which the code stands. -/
def Fr (r : Option Nat) : Fence := { Fence.wide with round := r }
section
variable {P : Program} {w0 : World} {n : Nat} {ops : Array Oper} {L : List Blk} {E : Env} {Q : Exit → Act → World → Prop} {r : Option Nat} {N : Nat}
def noDef (o : Oper) : Bool := match o.op with
  | .defer _ => false
  | _ => true
theorem noDef_ne {o : Oper} (h : noDef o = true) (c : Call) : o.op ≠ .defer c := fun e => by
  unfold noDef at h
  rw [e] at h
  cases h
theorem callsI {f : FuncId} {args : Array Value} {w : World} {R : Ending → World → Prop} (h : Calls P f args w R) : CallsIn (Fr r) N P f args w R := (callsIn_wide (n := N)).2 h
theorem callsO {f : FuncId} {args : Array Value} {w : World} {R : Ending → World → Prop} (h : CallsIn (Fr r) N P f args w R) : Calls P f args w R := (callsIn_wide (n := N)).1 h
/-- No way out lets the program outgrow its memory. -/
def NoOut (Q : Exit → Act → World → Prop) : Prop := ∀ a w, ¬ Q .outgrown a w
theorem upon_in {o : Oper} {a : Act} {K : Act → World → Prop} {res : Result Next} (h : o.upon P a K Q res) : o.uponIn (Fr r) N P a K Q res := by
  cases res with
  | ok x w' =>
    cases x <;> simp only [Oper.upon] at h <;> simp only [Oper.uponIn]
    case value => exact h
    case skip => exact h
    case defer => exact h
    case enter => exact ⟨(fun hd => by cases hd), callsI h⟩
    case row => exact ⟨(fun hd => by cases hd), fun c cs _ => let ⟨v, w', r, s⟩ := h c cs; ⟨v, w', r, stepsIn_wide.2 s⟩⟩
  | halt x w' => cases x <;> simp only [Oper.upon] at h <;> simp only [Oper.uponIn] <;> exact h
theorem wpI_of {o : Oper} {a : Act} {w : World} {K : Act → World → Prop} (hd : noDef o = true) (h : o.wp P a w K Q) : o.wpIn (Fr r) N P a w K Q := by
  refine ⟨fun f _ => trivial, ?_⟩
  rw [Oper.semAt_eq _ _ _ (noDef_ne hd)]
  exact upon_in h
theorem wpListI_of (hQ : NoOut Q) : ∀ (l : List Oper) (a : Act) (w : World), l.all noDef = true → wpList P ops Q l a w → wpListIn (Fr r) N P ops Q l a w
  | [], _, _, _, h => h
  | o :: l, a, w, hd, h => by
    simp only [List.all_cons, Bool.and_eq_true] at hd
    simp only [wpList] at h
    simp only [wpListIn]
    split at h
    · rename_i hw
      rw [if_pos hw]
      rcases h with h | ⟨_, a0, w0, h⟩
      · exact Oper.wpIn_mono (fun a w h => wpListI_of hQ l a w hd.2 h) (wpI_of hd.1 h)
      · exact (hQ _ _ h).elim
    · rename_i hw
      rw [if_neg hw]
      exact ⟨fun f _ => trivial, wpListI_of hQ l _ _ hd.2 h⟩
/-- Lists of operations, codes: from what is known on. -/
structure JOI (r : Option Nat) (N : Nat) (P : Program) (w0 : World) (n : Nat) (ops : Array Oper) (Q : Exit → Act → World → Prop) (l : List Oper) (E : Env) (L : List Blk) : Prop where
  out : ∀ a w, Rep n E a → Own w0 L w → wpListIn (Fr r) N P ops Q l a w
structure JI (r : Option Nat) (N : Nat) (P : Program) (w0 : World) (n : Nat) (c : Code) (Q : Exit → Act → World → Prop) (E : Env) (L : List Blk) : Prop where
  out : ∀ a w, Rep n E a → Own w0 L w → c.wpIn (Fr r) N P Q a w
theorem joi_of {l : List Oper} (hQ : NoOut Q) (hd : l.all noDef = true) (h : JO P w0 n ops Q l E L) : JOI r N P w0 n ops Q l E L := ⟨fun a w ha hw => wpListI_of hQ l a w hd (h.out a w ha hw)⟩
def ThenI (r : Option Nat) (N : Nat) (P : Program) (c : Code) (Q : Exit → Act → World → Prop) : Exit → Act → World → Prop := Exit.then (c.wpIn (Fr r) N P Q) Q
theorem ji_region {l : List Oper} {id : Nat} (h : JOI r N P w0 n l.toArray Q l E L) : JI r N P w0 n (.region id l.toArray false) Q E L := ⟨fun a w ha hw => wpIn_region_lit (h.out a w ha hw)⟩
theorem ji_seq {x y : Code} (h : JI r N P w0 n x (ThenI r N P y Q) E L) : JI r N P w0 n (.seq x y) Q E L := ⟨fun a w ha hw => wpIn_seq (h.out a w ha hw)⟩
theorem ji_skip (h : JX w0 n .normal Q E L) : JI r N P w0 n .skip Q E L := ⟨fun a w ha hw => wpIn_skip (h.out a w ha hw)⟩
theorem ji_ret (h : JX w0 n .ret Q E L) : JI r N P w0 n .ret Q E L := ⟨fun a w ha hw => wpIn_ret (h.out a w ha hw)⟩
theorem ji_exit {id : Nat} (h : JX w0 n (.exit id) Q E L) : JI r N P w0 n (.exit id) Q E L := ⟨fun a w ha hw => wpIn_exit (h.out a w ha hw)⟩
theorem ji_block {id : Nat} {c : Code} (h : JI r N P w0 n c (Exit.inBlock id Q) E L) : JI r N P w0 n (.block id c) Q E L := ⟨fun a w ha hw => wpIn_block (h.out a w ha hw)⟩
theorem ji_cond {c : Operand} {x y : Code} {t : Bool} (hc : Env.ev E c = some (.bool t)) (ht : t = true → JI r N P w0 n x Q E L) (hf : t = false → JI r N P w0 n y Q E L) : JI r N P w0 n (.cond c x y) Q E L := ⟨fun a w ha hw => by
  cases t with
  | true => exact wpIn_cond_true (ha.ev hc) ((ht rfl).out a w ha hw)
  | false => exact wpIn_cond_false (ha.ev hc) ((hf rfl).out a w ha hw)⟩
theorem jxi_then {y : Code} (h : JI r N P w0 n y Q E L) : JX w0 n .normal (ThenI r N P y Q) E L := ⟨h.out⟩
theorem jxi_then_ret {y : Code} (h : JX w0 n .ret Q E L) : JX w0 n .ret (ThenI r N P y Q) E L := ⟨h.out⟩
theorem jxi_then_exit {y : Code} {id : Nat} (h : JX w0 n (.exit id) Q E L) : JX w0 n (.exit id) (ThenI r N P y Q) E L := ⟨h.out⟩
/-- Where the ways meet. -/
theorem ji_cut {S : Type} (I : S → Prop) (Es : S → Env) (Ls : S → List Blk) {x y : Code} (h1 : JI r N P w0 n x (MidQ w0 n I Es Ls (fun _ _ => True) Q) E L) (h2 : ∀ s, I s → JI r N P w0 n y Q (Es s) (Ls s)) : JI r N P w0 n x (ThenI r N P y Q) E L := ⟨fun a w ha hw => by
  refine wpIn_mono (h1.out a w ha hw) fun e a' w' hq => ?_
  cases e with
  | normal => obtain ⟨⟨s, hs, hr, ho⟩, _⟩ := hq; exact (h2 s hs).out a' w' hr ho
  | _ => exact hq⟩
/-- A code outside every round, walked as everywhere, whatever comes behind it. -/
theorem ji_of {c : Code} (h : J P w0 n c Q E L) : JI none N P w0 n c Q E L := ⟨fun a w ha hw => wpIn_wide.2 (h.out a w ha hw)⟩
/-- What a round of a loop must come to, each from a world of its own. -/
def LoopI {S : Type} (n : Nat) (I : S → World → Prop) (Es : S → Env) (mu : S → Nat) (s : S) (Q : Exit → Act → World → Prop) : Exit → Act → World → Prop
  | .normal, a, w => ∃ t, I t w ∧ Rep n (Es t) a ∧ mu t < mu s
  | e, a, w => Q e a w
theorem ji_loop {S : Type} (I : S → World → Prop) (Es : S → Env) (mu : S → Nat) (s0 : S) {c : Code} (h0 : ∀ w, Own w0 L w → I s0 w) (hE : Sub E (Es s0))
    (round : ∀ s w1, I s w1 → JI r N P w1 n c (LoopI n I Es mu s Q) (Es s) []) : JI r N P w0 n (.loop c) Q E L := by
  refine ⟨fun a w ha hw => ?_⟩
  have hmin : ∀ (a : Act) (w : World), (∃ s, I s w ∧ Rep n (Es s) a) → ∃ s, (I s w ∧ Rep n (Es s) a) ∧ ∀ t, (I t w ∧ Rep n (Es t) a) → mu s ≤ mu t := by
    intro a w ⟨s, hs⟩
    obtain ⟨k, ⟨t, ht, hk⟩, hm⟩ := least (fun k => ∃ t, (I t w ∧ Rep n (Es t) a) ∧ mu t = k) (mu s) ⟨s, hs, rfl⟩
    exact ⟨t, ht, fun t' ht' => by rw [hk]; exact hm _ ⟨t', ht', rfl⟩⟩
  classical
  let pick : Act → World → Nat := fun a w => if h : ∃ s, I s w ∧ Rep n (Es s) a then mu (Classical.choose (hmin a w h)) else 0
  refine wpIn_loop (fun a w => ∃ s, I s w ∧ Rep n (Es s) a) pick ⟨s0, h0 w hw, ha.sub hE⟩ fun a' w' hI => ?_
  have hsp := Classical.choose_spec (hmin a' w' hI)
  have hr := (round _ _ hsp.1.1).out a' w' hsp.1.2 (Own.start w')
  refine wpIn_mono hr fun e a2 w2 hq => ?_
  cases e with
  | normal =>
    obtain ⟨t, ht, hr2, hlt⟩ := hq
    refine ⟨⟨t, ht, hr2⟩, ?_⟩
    have hex : ∃ s, I s w2 ∧ Rep n (Es s) a2 := ⟨t, ht, hr2⟩
    have h2 := (Classical.choose_spec (hmin a2 w2 hex)).2 t ⟨ht, hr2⟩
    simp only [pick, dif_pos hex, dif_pos hI]
    omega
  | _ => exact hq
theorem jxi_loop {S : Type} {I : S → World → Prop} {Es : S → Env} {mu : S → Nat} {s : S} (t : S) (ht : ∀ w, Own w0 L w → I t w) (hE : Sub E (Es t)) (hmu : mu t < mu s) : JX w0 n .normal (LoopI n I Es mu s Q) E L :=
  ⟨fun _ w ha hw => ⟨t, ht w hw, ha.sub hE, hmu⟩⟩
theorem jxi_loop_ret {S : Type} {I : S → World → Prop} {Es : S → Env} {mu : S → Nat} {s : S} (h : JX w0 n .ret Q E L) : JX w0 n .ret (LoopI n I Es mu s Q) E L := ⟨h.out⟩
theorem jxi_loop_exit {S : Type} {I : S → World → Prop} {Es : S → Env} {mu : S → Nat} {s : S} {id : Nat} (h : JX w0 n (.exit id) Q E L) : JX w0 n (.exit id) (LoopI n I Es mu s Q) E L := ⟨h.out⟩
theorem joi_yield {l : Nat} {args : Array Value} {o : Oper} {rest : List Oper} {R : Ending → World → Prop} (hg : guardB ops E o.guard = some true) (hd : dstOk n o.dst = true) (hdef : noDef o = true)
    (hr : ∀ a w, Rep n E a → (execOp a.eval o).run P w = (Instr.yield l args).run P w)
    (hY : ∀ w, Own w0 L w → YieldAt (Fr r) (N - 1) P l args w R)
    (h : ∀ e w', R e w' → ∃ v, e = .returned v ∧ JOI r N P w' n ops Q rest (Env.put E o.dst v) []) : JOI r N P w0 n ops Q (o :: rest) E L := by
  refine ⟨fun a w ha hw => ?_⟩
  obtain ⟨fn, tmps, assign, body, hy, hR⟩ := hY w hw
  refine wpListIn_step fun K hK => ?_
  rw [if_pos (guardB_spec ha hg)]
  refine ⟨fun f _ => trivial, ?_⟩
  rw [Oper.semAt_eq _ _ _ (noDef_ne hdef), hr a w ha, hy]
  refine ⟨(fun hd => by cases hd), hR.mono fun e w' he => ?_⟩
  obtain ⟨v, rfl, hj⟩ := h e w' he
  exact hK _ _ (hj.out _ _ (ha.put _ _ hd) (Own.start w'))
theorem run_callY {l : Nat} {g : Operand} {xs : List Operand} {vs : List Value} {ats : Array TypeId} {a : Act} {w : World} {d : Option Tmp} {ty : TypeId} {pos : String} {aft : Array Edge} {gd : Option (Nat × Bool)} (ha : Rep n E a) (hg : Env.ev E g = some (.func (.yield l) #[] #[])) (hl : Env.evs E xs = some vs) :
    (execOp a.eval ⟨d, .call ⟨.value g, xs.toArray, ats⟩, ty, pos, aft, gd⟩).run P w = (Instr.yield l vs.toArray).run P w := by
  have h1 : xs.toArray.map a.eval = vs.toArray := by rw [← ha.evs xs vs hl]; simp
  simp only [execOp, resolve, h1, ha.ev hg, Deferred.ofValue, Sem.run_bind, Sem.run_pure, Result.andThen, invoke]
  rw [show (#[] ++ vs.toArray : Array Value) = vs.toArray from Array.empty_append]
theorem joi_nil (h : JX w0 n .normal Q E L) : JOI r N P w0 n ops Q [] E L := ⟨fun a w ha hw => wpListIn_nil (h.out a w ha hw)⟩
theorem anyI_of_wpH {k g : Nat} {F : Array Bool → Act → Prop} (hdef : ops.toList.all noDef = true)
    (hF : ∀ listed a w, F listed a → Own w0 L w → wpAnyIn (Fr r) N P .any ops Q g listed a w) :
    ∀ (f : Nat) (listed : Array Bool) (a : Act) (w : World), Own w0 L w → wpH P w0 L ops k k F f listed a → wpAnyIn (Fr r) N P .any ops Q (f + g) listed a w
  | 0, listed, a, w, hw, h => by
    rw [Nat.zero_add]
    exact hF _ _ _ h hw
  | f + 1, listed, a, w, hw, h => by
    obtain ⟨h1, h2⟩ := h
    rw [show f + 1 + g = (f + g) + 1 by omega]
    refine ⟨fun h0 => (h1 h0).elim, fun i hi => ?_⟩
    obtain ⟨hik, ho⟩ := h2 i hi
    unfold hOp at ho
    unfold wpOpIn
    cases hoi : ops[i]? with
    | none => rw [hoi] at ho; exact ho.elim
    | some o =>
      rw [hoi] at ho
      simp only [if_pos hik] at ho
      obtain ⟨v, hy, hk⟩ := ho
      have hdo : noDef o = true := List.all_eq_true.1 hdef o (by
        have := Array.mem_of_getElem? hoi
        exact Array.mem_toList_iff.2 this)
      simp only
      rcases hy with ⟨hwt, hc⟩ | ⟨hwt, hv⟩
      · rw [if_pos hwt]
        refine wpI_of hdo (wp_of_calm (hc w hw) fun w' hx => ?_)
        exact anyI_of_wpH hdef hF f _ _ w' (hw.to hx) hk
      · rw [if_neg (by rw [hwt]; simp)]
        subst hv
        exact ⟨fun f _ => trivial, anyI_of_wpH hdef hF f _ _ w hw hk⟩
theorem wpAnyIn_of_seq : ∀ (l : List Oper) (k : Nat) (listed : Array Bool) (a : Act) (w : World), (∀ j, l[j]? = ops[k + j]?) →
    Region.seqB .any ops l.length k listed = true → wpListIn (Fr r) N P ops Q l a w → wpAnyIn (Fr r) N P .any ops Q l.length listed a w
  | [], _, _, _, _, _, hB, h => ⟨by simpa [Region.seqB] using hB, h⟩
  | o :: l, k, listed, a, w, hl, hB, h => by
    have h0 : ops[k]? = some o := by simpa using (hl 0).symm
    simp only [List.length_cons, Region.seqB, Bool.and_eq_true, decide_eq_true_eq] at hB
    refine ⟨fun h1 => (by rw [hB.1] at h1; cases h1), fun i hi => ?_⟩
    rw [hB.1] at hi
    have hik : i = k := by simpa using hi
    subst hik
    have hw : wpOpIn (Fr r) N P ops Q i (wpListIn (Fr r) N P ops Q l) a w := by unfold wpOpIn; simp only [h0]; exact h
    exact wpOpIn_mono (fun a' w' h' => wpAnyIn_of_seq l (i + 1) _ a' w' (fun j => by have := hl (j + 1); simpa [Nat.add_assoc, Nat.add_comm 1 j] using this) hB.2 h') hw
theorem ji_draw {id : Nat} {l : List Oper} (k : Nat) (hm : P.follows .mixedOrders = true) (hdef : l.all noDef = true) (hB : headB P n l.toArray k k = true)
    (h : JH P w0 n L l.toArray (fun E' => JOI r N P w0 n l.toArray Q (l.drop k) E' L) (l.take k) E) : JI r N P w0 n (.region id l.toArray true) Q E L := by
  refine ⟨fun a w ha hw => ?_⟩
  simp only [headB, Bool.and_eq_true, Bool.or_eq_true, decide_eq_true_eq] at hB
  obtain ⟨⟨⟨⟨hsel, hmk⟩, htl⟩, hdB⟩, hlex⟩ := hB
  have hks : k ≤ l.toArray.size := by rcases htl with h | h <;> omega
  have hjk : ∀ i, i < k → ∀ listed, HeadInv .any l.toArray k listed → listed.getD i true = false → ∀ j ∈ Region.ready .any l.toArray listed, j < k := by
    intro i hik listed inv hun j hj
    rcases htl with h | ⟨⟨hlt, hs⟩, hc⟩
    · obtain ⟨_, o, ho, _⟩ := mem_ready.1 hj
      rw [h]
      exact (Array.getElem?_eq_some_iff.1 ho).1
    · rcases Nat.lt_or_ge j k with h | h
      · exact h
      · exact absurd hj (tail_waits hs hc hlt inv _ i rfl hik hun j h)
  have hw' : Own w0 L w.drew := hw.to (Ext.drew w)
  have inv0 : HeadInv .any l.toArray k (Array.replicate l.toArray.size false) :=
    ⟨by simp, fun j oj _ hl => (by rw [getD_replicate_false] at hl; cases hl), fun t _ ht => getD_in (by simpa using ht) (getD_replicate_false _ _)⟩
  have H : wpH P w0 L l.toArray k k (fun listed' a' => Region.seqB .any l.toArray (l.toArray.size - k) k listed' = true ∧ allListed listed' k ∧ ∀ w, Own w0 L w → wpListIn (Fr r) N P l.toArray Q (l.drop k) a' w) k (Array.replicate l.toArray.size false) a := by
    refine wpH_lex hsel (Nat.le_refl _) hks hjk k 0 _ a (by omega) inv0 (fun j hj => by omega) hlex ?_
    rw [if_pos (Nat.zero_le k)]
    have hdk : (l.take k).drop k = [] := List.drop_eq_nil_of_le (by simp; omega)
    show AH P w0 L l.toArray (AN _ ((l.take k).drop k)) ((l.take k).drop 0) a
    rw [List.drop_zero, hdk]
    exact ah_of_jh (n := n) (fun E' a' ha' hK w hw => hK.out a' w ha' hw) _ _ _ ha h
  refine wpIn_region_any hm ?_
  have := anyI_of_wpH (Q := Q) (r := r) (N := N) (g := l.toArray.size - k) (by simpa using hdef) (fun listed a' w' hF hw1 => by
    obtain ⟨hseq, hall, hb⟩ := hF
    have hdl : (l.drop k).length = l.toArray.size - k := by simp
    have := wpAnyIn_of_seq (P := P) (r := r) (N := N) (ops := l.toArray) (Q := Q) (l.drop k) k listed a' w' (fun j => by simp [List.getElem?_drop]) (by rw [hdl]; exact hseq) (hb w' hw1)
    rwa [hdl] at this) k _ a w.drew hw' H
  rw [show k + (l.toArray.size - k) = l.toArray.size by omega] at this
  exact this
theorem fnI_intro {f : FuncId} {fn : Func} {c : Code} {l : List Value} {w : World} {R : Ending → World → Prop} (hf : P.funcs[f]? = some fn) (hb : fn.body = some c) (hn : fn.ntmps = n) (hl : Nat.ble l.length n = true) [hE : EnvC l E]
    (h : JI none N P w n c (bodyPost P fn R) E []) : CallsIn (Fr none) N P f l.toArray w R := by
  rw [← hE.out] at h
  have hl' : l.length ≤ n := Nat.le_of_ble_eq_true hl
  refine callsIn_of_wp hf hb trivial (h.out _ _ ⟨by simp [hn]; omega, rfl, fun k v hk => ?_⟩ (Own.start w))
  obtain ⟨_, h2⟩ := find_envOf l 0 k v hk
  have hlt : k < l.length := by
    rcases Nat.lt_or_ge k l.length with h' | h'
    · exact h'
    · simp [List.getElem?_eq_none h'] at h2
  simp only [Nat.sub_zero] at h2
  rw [Array.getElem?_append_left (by simpa using hlt)]
  simpa using h2
theorem fnM_intro {f : FuncId} {fn : Func} {c : Code} {l : List Value} {w : World} {R : Ending → World → Prop} (hf : P.funcs[f]? = some fn) (hb : fn.body = some c) (hn : fn.ntmps = n) (hl : Nat.ble l.length n = true) [hE : EnvC l E]
    (h : JI none N P w n c (bodyPostM (Fr none) N P fn R) E []) : Calls P f l.toArray w R := by
  rw [← hE.out] at h
  have hl' : l.length ≤ n := Nat.le_of_ble_eq_true hl
  refine callsO (r := none) (N := N) (callsIn_of_wp_marks hf hb trivial (h.out _ _ ⟨by simp [hn]; omega, rfl, fun k v hk => ?_⟩ (Own.start w)))
  obtain ⟨_, h2⟩ := find_envOf l 0 k v hk
  have hlt : k < l.length := by
    rcases Nat.lt_or_ge k l.length with h' | h'
    · exact h'
    · simp [List.getElem?_eq_none h'] at h2
  simp only [Nat.sub_zero] at h2
  rw [Array.getElem?_append_left (by simpa using hlt)]
  simpa using h2
end
end Go.Vt
/- The instants at which units meet: the iterator, walked. Conditions: those that each statement names. -/
set_option linter.unusedSimpArgs false
set_option linter.unusedVariables false
set_option maxHeartbeats 2000000
set_option maxRecDepth 100000
namespace Go.Vt
open Go.RowKit Go.Proofs
/-- Do two units that meet belong together? -/
def mtgB (a b : PU) : Bool := (!a.In.OpenTo || !b.In.OpenFrom) && smL a.F b.F b.In.From.P
/-- The meetings of the first units: the instant, and whether it is a turn. -/
def mtg (us : List PU) : Nat → List (R_api_Real × Bool)
  | 0 => []
  | m + 1 => if 0 < m ∧ (gi us ((m : Int) - 1)).In.To = (gi us (m : Int)).In.From then mtg us m ++ [((gi us (m : Int)).In.From, mtgB (gi us ((m : Int) - 1)) (gi us (m : Int)))] else mtg us m
theorem mtg_len (us : List PU) : ∀ m, (mtg us m).length ≤ m
  | 0 => Nat.le_refl _
  | m + 1 => by
    have := mtg_len us m
    rw [mtg]
    split
    · rw [List.length_append, List.length_singleton]; omega
    · omega
/-- The units can be compared. -/
structure MtOk (us : List PU) : Prop where
  l : us.length ≤ 1048576
  f : ∀ u ∈ us, UK BQ (toU u)
theorem MtOk.g {us : List PU} (h : MtOk us) {i : Nat} (hi : i < us.length) : UK BQ (toU (gi us (i : Int))) := h.f _ (gi_mem (by omega))
theorem grown_of {w w' : World} (h : Ext w w') : w.grownBy w' none := ⟨h.bel.os, h.bel.tape, h.bel.output, h.bel.size, fun k hk _ => h.bel.block k hk⟩
/-- What a round that goes on keeps: what the caller had, and the box of the list. -/
def KpM (wc : World) (B : Nat) (A A' : World) : Prop := Below wc.heap.size A A' ∧ ∀ o, A.heap[B]? = some o → A'.heap[B]? = some o
set_option maxHeartbeats 4000000 in
theorem meet_stops (v : Value) (us : List PU) (wc w0 : World) (B N : Nat) (hwc : Below wc.heap.size wc w0) (hB : w0.heap[B]? = some (.cells #[v] 41 (0, 0))) (hv : ArgS wc v rP us) (hok : MtOk us) :
    SeqStopsK (Fr none) N Tryz.prog 178 #[.pointer (some ⟨B, 0, none⟩)] (fun x : R_api_Real × Bool => #[vR x.1, .bool x.2]) (KpM wc B) (fun ys => ys = mtg us us.length) (fun _ => True) (us.length + 1) w0 := by
  intro l Jp Jx W hW hJ hJx hY h0
  have hmt : ∀ {i : Nat}, i < us.length → UK BQ (toU (gi us (i : Int))) := fun h => hok.g h
  have hul := hok.l
  obtain ⟨p, cp, rfl⟩ := hv.form
  have hgo := fnI_intro (N := N) (P := Tryz.prog) (l := [Value.func (.yield l) #[] #[], Value.pointer (some ⟨B, 0, none⟩)]) (w := W) (R := fun e W' => (∃ v, e = Ending.returned v) ∧ ((∃ xs, xs = mtg us us.length ∧ Jp xs W') ∨ ∃ pre, True ∧ Jx pre W')) Tryz.func178 rfl Tryz.ntmps178 rfl
  refine hgo ?_
  clear hgo
  refine ji_seq ?_
  refine ji_of ?_
  repeat (refine wkB ?_; try intro _)
  refine jxi_then ?_
  refine ji_block ?_
  refine ji_loop (S := Nat) (fun i W1 => 1 ≤ i ∧ i ≤ max 1 us.length ∧ Jp (mtg us i) W1 ∧ Below wc.heap.size wc W1 ∧ W1.heap[B]? = some (.cells #[.slice p us.length cp] 41 (0, 0))) (fun i => [(0, .func (.yield l) #[] #[]), (1, .pointer (some ⟨B, 0, none⟩)), (3, .int .i64 (i : Nat))]) (fun i => us.length + 1 - i) 1 (fun w hw => ⟨Nat.le_refl _, by omega, hJ _ W w none h0 (grown_of hw.ext) (fun r e => by cases e), hwc.trans ((hW.trans (hw.ext.bel.mono hW.size)).mono hwc.size), by rw [hw.ext.block _ (Nat.lt_of_lt_of_le (lt_of_block hB) hW.size), hW.block _ (lt_of_block hB)]; exact hB⟩) sbB (fun i W1 hI => ?_)
  obtain ⟨h1, hi, hJp, hB0, hB1⟩ := hI
  have hx : Ext wc W1 := ⟨hB0, trivial⟩
  have hv1 := hv.to hx
  have := FoC.mk ⟨(0, 0), hB1⟩
  have step : ∀ w, Ext W1 w → Jp (mtg us i) w ∧ Below wc.heap.size wc w ∧ w.heap[B]? = some (.cells #[.slice p us.length cp] 41 (0, 0)) := fun w hw => ⟨hJ _ W1 w none hJp (grown_of hw) (fun r e => by cases e), hB0.trans (hw.bel.mono hB0.size), by rw [hw.block _ (lt_of_block hB1)]; exact hB1⟩
  refine ji_seq ?_
  refine ji_seq ?_
  refine ji_of ?_
  repeat (refine wkB ?_; try intro _)
  refine jxi_then ?_
  refine ji_cond rfl (fun h => ?_) (fun h => ?_)
  · have hlt : i < us.length := by have := of_decide_eq_true h; omega
    have hne : us ≠ [] := fun h0 => by rw [h0] at hlt; simp at hlt
    obtain ⟨bw, ow, cw, hvw, hcw, hrow⟩ := hv1.blk (k := 35) hne []
    injection hvw with e1 e2 e3
    subst e1
    subst e3
    have hrow' : ∀ L, RowC W1 L bw ow PU rP us := fun L => ⟨fun w' hw' => hrow.out w' (hw'.sub (List.nil_sublist _))⟩
    refine ji_skip ?_
    refine jxi_then ?_
    refine ji_seq ?_
    refine ji_block ?_
    refine ji_seq ?_
    refine ji_of ?_
    (refine j_drawL [0, 1, 2, 3, 4, 5, 6, 7, 8] [9, 10] [11, 12] ([]) (h := ?_); refine wkI ?_)
    (repeat (first | refine wkH ?_ | (refine tC rfl rfl ?_ ?_; focus (exact ⟨by omega, by omega⟩))))
    repeat (first | (refine wkT ?_; try intro _) | (refine tC rfl rfl ?_ ?_; focus (exact ⟨by omega, by omega⟩)) | (refine uC rfl rfl ?_ ?_; focus (exact ⟨by omega, by omega⟩)) | (refine eN rfl rfl ?_ ?_; (focus (exact ⟨by omega, by omega⟩)); intro _; (try simp only [List.cons_append, List.nil_append, List.append_nil])))
    refine jxi_then ?_
    refine ji_seq ?_
    refine ji_of ?_
    repeat (refine wkB ?_; try intro _)
    refine jxi_then ?_
    refine ji_seq ?_
    refine ji_seq ?_
    refine ji_of ?_
    repeat (refine wkB ?_; try intro _)
    refine jxi_then ?_
    rename_i b4 b5 b6
    generalize hA : gi us ((i : Int) - 1) = A at *
    generalize hC : gi us (i : Int) = C at *
    have hsucc : mtg us (i + 1) = if A.In.To = C.In.From then mtg us i ++ [(C.In.From, mtgB A C)] else mtg us i := by
      rw [mtg, hA, hC]
      by_cases hq : A.In.To = C.In.From
      · rw [if_pos ⟨by omega, hq⟩, if_pos hq]
      · rw [if_neg (fun h => hq h.2), if_neg hq]
    have hAk := hmt (i := i - 1) (by omega)
    rw [show ((i - 1 : Nat) : Int) = (i : Int) - 1 by omega, hA] at hAk
    have hCk := hmt (i := i) hlt
    rw [hC] at hCk
    by_cases hq : A.In.To = C.In.From
    · rw [if_pos hq] at hsucc
      refine ji_cond rfl (fun h2 => absurd hq (by simpa using h2)) (fun _ => ?_)
      refine ji_skip ?_
      refine jxi_then ?_
      refine ji_seq ?_
      refine ji_cut (S := Bool) (fun b => b = (!A.In.OpenTo || !C.In.OpenFrom)) (fun b => [(0, .func (.yield l) #[] #[]), (1, .pointer (some ⟨B, 0, none⟩)), (3, .int .i64 (i : Nat)), (4, .pointer (some ⟨b4, 0, none⟩)), (5, .pointer (some ⟨b5, 0, none⟩)), (6, .pointer (some ⟨b6, 0, none⟩)), (7, .bool b)]) (fun _ => [⟨b6, e_api_Real (q_api_Real C.In.From), 30⟩, ⟨b5, e_api_PointUnit (q_api_PointUnit C), 68⟩, ⟨b4, e_api_PointUnit (q_api_PointUnit A), 68⟩]) ?_ (fun bl hbl => ?_)
      · refine ji_of ?_
        rcases ho : A.In.OpenTo with _ | _
        · repeat (refine wkB ?_; try intro _)
          simp only [ho]
          repeat (refine wkB ?_; try intro _)
          exact jx_mid true (by simp) sbB slB
        · repeat (refine wkB ?_; try intro _)
          simp only [ho]
          repeat (refine wkB ?_; try intro _)
          exact jx_mid (!C.In.OpenFrom) (by simp) sbB slB
      · refine ji_seq ?_
        have hm : mtgB A C = (bl && smL A.F C.F C.In.From.P) := by rw [hbl]; rfl
        rw [hm] at hsucc
        have hcr : C.In.From.R = 0 := hCk.i.r1
        rcases bl with _ | _
        · rw [Bool.false_and] at hsucc
          refine ji_draw 12 (by kernel_rfl) (by kernel_rfl) (by kernel_rfl) ?_
          (repeat (first | refine wkH ?_ | (refine tC rfl rfl ?_ ?_; focus (exact ⟨hcr, ⟨⟨hAk.f.x0, hAk.f.x1⟩, hAk.f.y0, hAk.f.y1⟩, ⟨⟨hCk.f.x0, hCk.f.x1⟩, hCk.f.y0, hCk.f.y1⟩, hCk.i.m1⟩))))
          refine jh_nil ?_
          refine joi_yield (l := l) (args := #[vR C.In.From, .bool false]) (R := fun e W' => (e = .returned (.bool true) ∧ Jp (mtg us (i + 1)) W' ∧ KpM wc B W1 W') ∨ (e = .returned (.bool false) ∧ Jx (mtg us (i + 1)) W')) rfl rfl rfl (fun a w ha => run_callY ha rfl rfl) (fun w hw => ?_) ?_
          · obtain ⟨fn, tmps, asg, bd, y1, y2⟩ := hY (mtg us i) (C.In.From, false) w (step w hw.ext).1 (by have := mtg_len us i; omega)
            refine ⟨fn, tmps, asg, bd, y1, y2.mono fun e W' h => ?_⟩
            rw [hsucc]
            rcases h with ⟨e1, e2, e3⟩ | ⟨e1, e2⟩
            · exact .inl ⟨e1, e2, (hw.ext.bel.mono hB0.size).trans e3.1, fun o ho => e3.2 o (by rw [hw.ext.block _ (lt_of_block ho)]; exact ho)⟩
            · exact .inr ⟨e1, e2⟩
          · rintro e W' (⟨rfl, hJ', hk⟩ | ⟨rfl, hx'⟩)
            · refine ⟨_, rfl, ?_⟩
              refine joi_of (fun _ _ h => by obtain ⟨⟨v, hv⟩, _⟩ := h; cases hv) rfl ?_
              show JO Tryz.prog W' 55 _ _ [_] ((53, .bool true) :: _) []
              repeat (refine wkB ?_; try intro _)
              refine jxi_then ?_
              refine ji_cond rfl (fun h => by cases h) (fun _ => ?_)
              refine ji_skip ?_
              refine jx_block ?_
              refine jxi_then ?_
              refine ji_of ?_
              repeat (refine wkB ?_; try intro _)
              exact jxi_loop (i + 1) (fun w hw => ⟨by omega, by omega, hJ _ W' w none hJ' (grown_of hw.ext) (fun r e => by cases e), (hB0.trans hk.1).trans (hw.ext.bel.mono (Nat.le_trans hB0.size hk.1.size)), by rw [hw.ext.block _ (lt_of_block (hk.2 _ hB1))]; exact hk.2 _ hB1⟩) sbB (by omega)
            · refine ⟨_, rfl, ?_⟩
              refine joi_of (fun _ _ h => by obtain ⟨⟨v, hv⟩, _⟩ := h; cases hv) rfl ?_
              show JO Tryz.prog W' 55 _ _ [_] ((53, .bool false) :: _) []
              repeat (refine wkB ?_; try intro _)
              refine jxi_then ?_
              refine ji_cond rfl (fun _ => ?_) (fun h => by cases h)
              refine ji_ret ?_
              refine jx_block_ret ?_
              refine jxi_then_ret ?_
              refine jxi_loop_ret ?_
              refine jx_block_ret ?_
              exact jx_ret0 rfl (fun w hw => ⟨⟨_, rfl⟩, .inr ⟨_, trivial, hJx _ W' w none hx' (grown_of hw.ext) (fun r e => by cases e)⟩⟩)
        · rw [Bool.true_and] at hsucc
          refine ji_draw 12 (by kernel_rfl) (by kernel_rfl) (by kernel_rfl) ?_
          (repeat (first | refine wkH ?_ | (refine tC rfl rfl ?_ ?_; focus (exact ⟨hcr, ⟨⟨hAk.f.x0, hAk.f.x1⟩, hAk.f.y0, hAk.f.y1⟩, ⟨⟨hCk.f.x0, hCk.f.x1⟩, hCk.f.y0, hCk.f.y1⟩, hCk.i.m1⟩))))
          refine jh_nil ?_
          refine joi_yield (l := l) (args := #[vR C.In.From, .bool (smL A.F C.F C.In.From.P)]) (R := fun e W' => (e = .returned (.bool true) ∧ Jp (mtg us (i + 1)) W' ∧ KpM wc B W1 W') ∨ (e = .returned (.bool false) ∧ Jx (mtg us (i + 1)) W')) rfl rfl rfl (fun a w ha => run_callY ha rfl rfl) (fun w hw => ?_) ?_
          · obtain ⟨fn, tmps, asg, bd, y1, y2⟩ := hY (mtg us i) (C.In.From, (smL A.F C.F C.In.From.P)) w (step w hw.ext).1 (by have := mtg_len us i; omega)
            refine ⟨fn, tmps, asg, bd, y1, y2.mono fun e W' h => ?_⟩
            rw [hsucc]
            rcases h with ⟨e1, e2, e3⟩ | ⟨e1, e2⟩
            · exact .inl ⟨e1, e2, (hw.ext.bel.mono hB0.size).trans e3.1, fun o ho => e3.2 o (by rw [hw.ext.block _ (lt_of_block ho)]; exact ho)⟩
            · exact .inr ⟨e1, e2⟩
          · rintro e W' (⟨rfl, hJ', hk⟩ | ⟨rfl, hx'⟩)
            · refine ⟨_, rfl, ?_⟩
              refine joi_of (fun _ _ h => by obtain ⟨⟨v, hv⟩, _⟩ := h; cases hv) rfl ?_
              show JO Tryz.prog W' 55 _ _ [_] ((53, .bool true) :: _) []
              repeat (refine wkB ?_; try intro _)
              refine jxi_then ?_
              refine ji_cond rfl (fun h => by cases h) (fun _ => ?_)
              refine ji_skip ?_
              refine jx_block ?_
              refine jxi_then ?_
              refine ji_of ?_
              repeat (refine wkB ?_; try intro _)
              exact jxi_loop (i + 1) (fun w hw => ⟨by omega, by omega, hJ _ W' w none hJ' (grown_of hw.ext) (fun r e => by cases e), (hB0.trans hk.1).trans (hw.ext.bel.mono (Nat.le_trans hB0.size hk.1.size)), by rw [hw.ext.block _ (lt_of_block (hk.2 _ hB1))]; exact hk.2 _ hB1⟩) sbB (by omega)
            · refine ⟨_, rfl, ?_⟩
              refine joi_of (fun _ _ h => by obtain ⟨⟨v, hv⟩, _⟩ := h; cases hv) rfl ?_
              show JO Tryz.prog W' 55 _ _ [_] ((53, .bool false) :: _) []
              repeat (refine wkB ?_; try intro _)
              refine jxi_then ?_
              refine ji_cond rfl (fun _ => ?_) (fun h => by cases h)
              refine ji_ret ?_
              refine jx_block_ret ?_
              refine jxi_then_ret ?_
              refine jxi_loop_ret ?_
              refine jx_block_ret ?_
              exact jx_ret0 rfl (fun w hw => ⟨⟨_, rfl⟩, .inr ⟨_, trivial, hJx _ W' w none hx' (grown_of hw.ext) (fun r e => by cases e)⟩⟩)
    · rw [if_neg hq] at hsucc
      refine ji_cond rfl (fun _ => ?_) (fun h2 => absurd (by simpa using h2) hq)
      refine ji_exit ?_
      refine jxi_then_exit ?_
      refine jx_block_here ?_
      refine jxi_then ?_
      refine ji_of ?_
      repeat (refine wkB ?_; try intro _)
      exact jxi_loop (i + 1) (fun w hw => ⟨by omega, by omega, by rw [hsucc]; exact (step w hw.ext).1, (step w hw.ext).2.1, (step w hw.ext).2.2⟩) sbB (by omega)
  · refine ji_exit ?_
    refine jxi_then_exit ?_
    refine jxi_loop_exit ?_
    refine jx_block_here ?_
    have hge : i = max 1 us.length := by have := of_decide_eq_false h; omega
    have hfin : mtg us i = mtg us us.length := by
      rcases Nat.eq_zero_or_pos us.length with h0 | h0
      · rw [hge, h0]
        rfl
      · rw [hge, Nat.max_eq_right h0]
    exact jx_end0 rfl (fun w hw => ⟨⟨_, rfl⟩, .inl ⟨_, rfl, by rw [← hfin]; exact (step w hw.ext).1⟩⟩)
end Go.Vt
/- The instants at which units meet at a turn, walked. Conditions: those that each statement names. -/
set_option linter.unusedSimpArgs false
set_option linter.unusedVariables false
set_option maxHeartbeats 2000000
set_option maxRecDepth 100000
namespace Go.Vt
open Go.RowKit Go.Proofs
section
variable {P : Program} {w0 : World} {n : Nat} {ops : Array Oper} {L : List Blk} {E : Env} {Q : Exit → Act → World → Prop} {rest : List Oper} {r : Option Nat} {N : Nat}
variable {ty : TypeId} {pos : String} {aft : Array Edge} {gd : Option (Nat × Bool)} {t : Tmp} {x y : Operand}
instance al_boxS {T : TypeId} {x : Operand} {p : Option Addr} {m c : Nat} [h : IsC (evl E x) (.slice p m c)] : AlC P E (.box T x) #[.slice p m c] T := ⟨fun hg hd h => jo_box isE hg hd h⟩
instance al_boxB {T : TypeId} {x : Operand} {b : Bool} [h : IsC (evl E x) (.bool b)] : AlC P E (.box T x) #[.bool b] T := ⟨fun hg hd h => jo_box isE hg hd h⟩
/-- The same behind a loop over an iterator, where the frame has a deferred call. -/
theorem listI_q {o : Oper} {v : Value} {a : Act} {ds : List Deferred} {w : World} (hy : Yl P w0 n L E o v) (ha : Rep n E a) (hw : Own w0 L w) (hg : guardB ops E o.guard = some true) (hn : noDef o = true)
    (h : ∀ w', Ext w w' → wpListIn (Fr r) N P ops Q rest { a.put o.dst v with defers := ds } w') : wpListIn (Fr r) N P ops Q (o :: rest) { a with defers := ds } w := by
  refine wpListIn_step fun K hK => ?_
  rw [if_pos (guardB_spec (a := a) ha hg)]
  refine wpI_of hn (wp_of_calm (a := { a with defers := ds }) (hy.out a w ha hw) fun w' hx => hK _ _ ?_)
  have e : ({ a with defers := ds } : Act).put o.dst v = { a.put o.dst v with defers := ds } := by
    cases o.dst <;> rfl
  rw [e]
  exact h w' hx
theorem upon_mid {Q' : Exit → Act → World → Prop} {o : Oper} {a : Act} {K : Act → World → Prop} {res : Result Next} (hQQ : ∀ e a w, e ≠ .normal → Q' e a w → Q e a w) (h : o.upon P a K Q' res) : o.uponIn (Fr r) N P a K Q res := by
  cases res with
  | ok x w' =>
    cases x <;> simp only [Oper.upon] at h <;> simp only [Oper.uponIn]
    case value => exact h
    case skip => exact h
    case defer => exact h
    case enter =>
      refine ⟨(fun hd => by cases hd), callsI (h.mono fun e w'' he => ?_)⟩
      cases e with
      | returned v => exact he
      | panicked ch => exact hQQ _ _ _ (fun h => by cases h) he
      | outgrown => obtain ⟨a0, w0, h0⟩ := he; exact ⟨a0, w0, hQQ _ _ _ (fun h => by cases h) h0⟩
    case row => exact ⟨(fun hd => by cases hd), fun c cs _ => let ⟨v, w', r, s⟩ := h c cs; ⟨v, w', r, stepsIn_wide.2 s⟩⟩
  | halt x w' =>
    cases x <;> simp only [Oper.upon] at h <;> simp only [Oper.uponIn]
    all_goals first | exact h | exact hQQ _ _ _ (fun h => by cases h) h
/-- What the first operations come to, walked as everywhere. -/
def MidL (r : Option Nat) (N : Nat) (P : Program) (ops : Array Oper) (Q : Exit → Act → World → Prop) (l2 : List Oper) : Exit → Act → World → Prop := fun e a w => e = .normal ∧ wpListIn (Fr r) N P ops Q l2 a w
theorem listI_split {l2 : List Oper} : ∀ (l1 : List Oper) (a : Act) (w : World), l1.all noDef = true → wpList P ops (MidL r N P ops Q l2) l1 a w → wpListIn (Fr r) N P ops Q (l1 ++ l2) a w
  | [], _, _, _, h => h.2
  | o :: l, a, w, hd, h => by
    simp only [List.all_cons, Bool.and_eq_true] at hd
    simp only [wpList] at h
    simp only [List.cons_append, wpListIn]
    split at h
    · rename_i hw
      rw [if_pos hw]
      rcases h with h | ⟨_, a0, w0, h, _⟩
      · refine ⟨fun f _ => trivial, ?_⟩
        rw [Oper.semAt_eq _ _ _ (noDef_ne hd.1)]
        have h2 : o.wpIn (Fr r) N P a w (wpListIn (Fr r) N P ops Q (l ++ l2)) Q := Oper.wpIn_mono (fun a w h => listI_split l a w hd.2 h) ⟨fun f _ => trivial, by
          rw [Oper.semAt_eq _ _ _ (noDef_ne hd.1)]
          exact upon_mid (fun e a w he hq => absurd hq.1 he) h⟩
        have h3 := h2.2
        rw [Oper.semAt_eq _ _ _ (noDef_ne hd.1)] at h3
        exact h3
      · cases h
    · rename_i hw
      rw [if_neg hw]
      exact ⟨fun f _ => trivial, listI_split l _ _ hd.2 h⟩
theorem jx_midL {l2 : List Oper} (h : ∀ a w, Rep n E a → Own w0 L w → wpListIn (Fr r) N P ops Q l2 a w) : JX w0 n .normal (MidL r N P ops Q l2) E L := ⟨fun a w ha hw => ⟨rfl, h a w ha hw⟩⟩
/-- An append onto a slice that owns its row: what else changes is said. -/
theorem listI_app {S T : TypeId} {a : Act} {w : World} {v : Value} {b2 m c2 k size bytes base : Nat} {xs news : List Value} {z : Value} {zc : Array Value} [hT : UndC P S (.slice T)] [hz : ZeroC P T z zc] [hk : SizeC P T size] [hB : BytesC P T bytes] (ha : Rep n E a) (hx : Env.ev E x = some v) (hy : Env.ev E y = some (.slice (some ⟨b2, 0, none⟩) m c2))
    (h6 : zc.size = size) (h7 : 0 < size) (hown : w.ownsRow base T size v k xs) (hn : news.length = m * size) (hc : ∀ j u, news[j]? = some u → w.cell? ((⟨b2, 0, none⟩ : Addr).add j) = some u) (h1 : ∀ u ∈ news, u.oneCell' = true) (hm : k + m ≤ maxLen) (hb : (k + m) * bytes ≤ 140737488355328) (hbs : base ≤ w.heap.size)
    (h : ∀ v' w', w'.ownsRow base T size v' (k + m) (xs ++ news) → w.grownBy w' v.ownBlock → wpListIn (Fr r) N P ops Q rest (a.put (some t) v') w') : wpListIn (Fr r) N P ops Q (⟨some t, .call ⟨.builtin .append, #[x, y], #[S, S]⟩, ty, pos, aft, none⟩ :: rest) a w := by
  obtain ⟨i, hi, h4⟩ := info_some hk.out
  obtain ⟨i', hi', h5⟩ := info_some hB.out
  obtain rfl : i' = i := Option.some.inj (hi'.symm.trans hi)
  have hz' : i'.zero = some z := by simpa [hi] using hz.out
  obtain ⟨v', w', hr, h8, h9, _⟩ := run_append_own (P := P) w base S ty T i' z size bytes hT.out hi hz' h4 h5 (by rw [hz.cells]; exact h6) h7 v k xs hown ⟨b2, 0, none⟩ m c2 news hn hc h1 hm hb hbs
  refine wpListIn_step fun K hK => ?_
  rw [if_pos (show Region.wanted _ _ = true from rfl)]
  refine ⟨fun f _ => trivial, ?_⟩
  rw [Oper.semAt_eq _ _ _ (fun c e => by cases e), run_appop ha hx hy hr]
  exact hK _ _ (h v' w' h8 h9)
theorem listI_store {T T0 : TypeId} {a : Act} {w : World} {b : Nat} {u u0 : Value} (ha : Rep n E a) (hx : Env.ev E x = some (.pointer (some ⟨b, 0, none⟩))) (hy : Env.ev E y = some u) (hb : w.heap[b]? = some (.cells #[u0] T0 (0, 0))) (hk : (P.info? T).map (·.size) = some 1) (hu : u.cells = #[u]) (h1 : u.oneCell' = true)
    (h : wpListIn (Fr r) N P ops Q rest (a.put none undef) (w.setCell ⟨b, 0, none⟩ u)) : wpListIn (Fr r) N P ops Q (⟨none, .store T x y, ty, pos, aft, none⟩ :: rest) a w := by
  refine wpListIn_step fun K hK => ?_
  rw [if_pos (show Region.wanted _ _ = true from rfl)]
  refine ⟨fun f _ => trivial, ?_⟩
  have hc : w.cell? ⟨b, 0, none⟩ = some u0 := by rw [cell_block hb]; rfl
  have hf : w.frozen? ⟨b, 0, none⟩ = false := frozen_of_row _ _ _ _ _ hb
  have hr : (execOp a.eval ⟨none, .store T x y, ty, pos, aft, none⟩).run P w = .ok .skip (w.setCell ⟨b, 0, none⟩ u) := by
    simp [execOp, ha.ev hx, ha.ev hy, Instr.storeAt, Instr.sureAddr, storeVar, run_sizeOf hk, hu, storeCells, Sem.run_bind, addr_add, run_store P w _ u _ h1, hc, hf, Result.andThen]
  rw [Oper.semAt_eq _ _ _ (fun c e => by cases e), hr]
  exact hK _ _ h
end
theorem meetings_spec (p : Option Addr) (n c : Nat) (w : World) :
    Calls Tryz.prog 155 [.slice p n c].toArray w (RetM Nat (fun b => .func (.func 178) #[] [.pointer (some ⟨b, 0, none⟩)].toArray) (fun b => [⟨b, #[.slice p n c], 41⟩]) w) := by
  refine fn_intro Tryz.func155 rfl Tryz.ntmps155 rfl ?_
  repeat (refine wkB ?_; try intro _)
  rename_i b
  exact jx_ret_tmp rfl rfl (fun w hw => ⟨b, rfl, hw⟩)
instance sr_meetings (w0 : World) (L : List Blk) (p : Option Addr) (n c : Nat) : SpecR Tryz.prog w0 L 155 [.slice p n c] Nat (fun b => .func (.func 178) #[] [.pointer (some ⟨b, 0, none⟩)].toArray) (fun b => [⟨b, #[.slice p n c], 41⟩]) True := ⟨fun _ w _ => meetings_spec p n c w⟩
/-- The instants of the meetings that are turns, or that are not, each once. -/
def insF (tu : Bool) (pre : List (R_api_Real × Bool)) : List R_api_Real := pre.foldl (fun out x => if x.2 = tu ∧ ¬ out.getLast? = some x.1 then out ++ [x.1] else out) []
theorem insF_snoc (tu : Bool) (pre : List (R_api_Real × Bool)) (x : R_api_Real × Bool) : insF tu (pre ++ [x]) = if x.2 = tu ∧ ¬ (insF tu pre).getLast? = some x.1 then insF tu pre ++ [x.1] else insF tu pre := by
  unfold insF
  rw [List.foldl_append]
  rfl
theorem insF_len (tu : Bool) (l : List (R_api_Real × Bool)) : (insF tu l).length ≤ l.length := by
  have : ∀ (l : List (R_api_Real × Bool)) (a : List R_api_Real), (l.foldl (fun out x => if x.2 = tu ∧ ¬ out.getLast? = some x.1 then out ++ [x.1] else out) a).length ≤ a.length + l.length := by
    intro l
    induction l with
    | nil => intro a; simp
    | cons x l ih =>
      intro a
      rw [List.foldl_cons]
      refine Nat.le_trans (ih _) ?_
      split <;> simp <;> omega
  have h := this l []
  rw [List.length_nil, Nat.zero_add] at h
  exact h
theorem insF_tns (us : List PU) : ∀ m, insF true (mtg us m) = tns us m
  | 0 => rfl
  | m + 1 => by
    have ih := insF_tns us m
    rw [mtg, tns]
    have e1 : ((m : Int) - 1) = ((m - 1 : Nat) : Int) ∨ m = 0 := by omega
    rcases e1 with e1 | e1
    · rw [e1]
      have et : trn (gi us ((m - 1 : Nat) : Int)) (gi us (m : Int)) = (decide ((gi us ((m - 1 : Nat) : Int)).In.To = (gi us (m : Int)).In.From) && mtgB (gi us ((m - 1 : Nat) : Int)) (gi us (m : Int))) := rfl
      rw [et]
      by_cases h0 : 0 < m ∧ (gi us ((m - 1 : Nat) : Int)).In.To = (gi us (m : Int)).In.From
      · rw [if_pos h0, insF_snoc, ih, decide_eq_true h0.2, Bool.true_and]
        simp only [h0.1, true_and]
      · rw [if_neg h0, ih, if_neg]
        rintro ⟨h1, h2, -⟩
        simp only [Bool.and_eq_true, decide_eq_true_eq] at h2
        exact h0 ⟨h1, h2.1⟩
    · subst e1
      simp [ih]
/-- A slice that owns its row, as a slice of the call's own. -/
theorem sls_of {α : Type} {enc : α → Array Value} {k base : Nat} {T : TypeId} {W : World} {v : Value} {xs : List α} (hnil : xs = [] → v = .slice none 0 0) (h : W.ownsRow base T k v xs.length (rowL enc xs)) :
    ∃ s : SlS enc k xs, v = vSl s ∧ ((mS T s).map (·.b)).Nodup ∧ ∀ e ∈ mS T s, base ≤ e.b ∧ W.heap[e.b]? = some (.cells e.cs e.T (0, 0)) := by
  obtain ⟨hl, h⟩ := h
  rcases h with ⟨rfl, h0⟩ | ⟨g, cap, cur, rfl, hb, hg, hn, hm, hs, ht⟩
  · have : xs = [] := List.length_eq_zero_iff.1 h0
    subst this
    exact ⟨SlS.no, rfl, List.nodup_nil, fun e he => (by cases he)⟩
  · by_cases h0 : xs = []
    · subst h0
      cases hnil rfl
    · refine ⟨SlS.at_ g cap (cur.toList.drop (xs.length * k)) ⟨hn, by rw [List.length_drop, Array.length_toList, hs, Nat.sub_mul]⟩ h0, rfl, by simp [mS, mO, SlS.at_], fun e he => ?_⟩
      have e1 : e = ⟨g, row enc xs (cur.toList.drop (xs.length * k)), T⟩ := by
        simpa [mS, mO, SlS.at_] using he
      subst e1
      refine ⟨hb, ?_⟩
      rw [hg]
      have : cur = row enc xs (cur.toList.drop (xs.length * k)) := by
        unfold row
        apply Array.ext'
        rw [List.toList_toArray, ← ht, List.take_append_drop]
      rw [← this]
abbrev rRe := r_api_Real
/-- The instants so far, the boxes that the loop reads. -/
def InsI (w : World) (b3 b5 bm : Nat) (tu : Bool) (v : Value) (pre : List (R_api_Real × Bool)) (W : World) : Prop :=
  ((∃ v', Boxed W b5 128 v' ∧ W.ownsRow w.heap.size 30 9 v' (insF tu pre).length (rowL rRe (insF tu pre)) ∧ (insF tu pre = [] → v' = .slice none 0 0)) ∧ Below w.heap.size w W) ∧ (Boxed W b3 4 (.bool tu) ∧ Boxed W bm 41 v)
theorem insI_own {w : World} {b3 b5 bm : Nat} {tu : Bool} {v : Value} {B : Nat} (hB : w.heap.size ≤ B) : OwnFrom B (InsI w b3 b5 bm tu v) :=
  OwnFrom.and (OwnFrom.and (Own.from (holdsRow_own w.heap.size b5 128 30 9 (fun pre => (insF tu pre).length) (fun pre => rowL rRe (insF tu pre)) (fun pre v' => insF tu pre = [] → v' = .slice none 0 0)) _) (ownFrom_below (Nat.le_refl _) hB)) (OwnFrom.and (Own.from (boxed_own b3 4 (fun _ => .bool tu)) _) (Own.from (boxed_own bm 41 (fun _ => v)) _))
def InsA (b3 b5 : Nat) (x : R_api_Real × Bool) (a' : Act) (W : World) : Prop :=
  ∃ bx, W.heap[bx]? = some (.cells (e_api_Real (q_api_Real x.1)) 30 (0, 0)) ∧ Rep 35 [(3, .pointer (some ⟨b3, 0, none⟩)), (5, .pointer (some ⟨b5, 0, none⟩)), (6, .pointer (some ⟨bx, 0, none⟩)), (7, .bool x.2)] a'
theorem boxed_to {W W' : World} {B : Nat} {t : TypeId} {v : Value} (h : Boxed W B t v) (hx : Ext W W') : Boxed W' B t v := (hx.block B (lt_of_block h)).trans h
/-- One instant more. -/
theorem ins_step {w W w3 w4 : World} {b3 b5 bm B : Nat} {tu : Bool} {v v' v2 : Value} {pre : List (R_api_Real × Bool)} {x : R_api_Real × Bool} (hw : w.heap.size ≤ W.heap.size) (hi : InsI w b3 b5 bm tu v pre W) (h5 : Boxed W b5 128 v') (hrow : W.ownsRow w.heap.size 30 9 v' (insF tu pre).length (rowL rRe (insF tu pre)))
    (hx : Ext W w3) (hown : w4.ownsRow w.heap.size 30 9 v2 ((insF tu pre).length + 1) (rowL rRe (insF tu pre) ++ rowL rRe [x.1])) (hg : w3.grownBy w4 v'.ownBlock) (hn : insF tu (pre ++ [x]) = insF tu pre ++ [x.1]) (hb5 : w.heap.size ≤ b5) (h35 : b3 ≠ b5) (hm5 : bm ≠ b5) :
    Boxed w4 b5 128 v' ∧ KeepsFrom B W (w4.setCell ⟨b5, 0, none⟩ v2) ∧ KpM w bm W (w4.setCell ⟨b5, 0, none⟩ v2) ∧ InsI w b3 b5 bm tu v (pre ++ [x]) (w4.setCell ⟨b5, 0, none⟩ v2) := by
  obtain ⟨⟨-, hBe⟩, h3, hm⟩ := hi
  have hrow3 : w3.ownsRow w.heap.size 30 9 v' (insF tu pre).length (rowL rRe (insF tu pre)) := hrow.kept (grown_of hx) (by cases v' with
    | slice p n c => cases p with
      | none => exact .inl rfl
      | some p => exact .inr (fun h => by cases h)
    | _ => exact .inl rfl)
  have q5 := Boxed.kept (boxed_to h5 hx) hg (Boxed.not_row (boxed_to h5 hx) (by decide) hrow3)
  have q3 := Boxed.kept (boxed_to h3 hx) hg (Boxed.not_row (boxed_to h3 hx) (by decide) hrow3)
  have qm := Boxed.kept (boxed_to hm hx) hg (Boxed.not_row (boxed_to hm hx) (by decide) hrow3)
  have own : ∀ j, v'.ownBlock = some j → w.heap.size ≤ j ∧ ∃ cs T, w3.heap[j]? = some (.cells cs T (0, 0)) := fun j hj => by
    rcases hrow3.2 with ⟨rfl, _⟩ | ⟨g, cap, cur, rfl, hb, hgb, _⟩
    · cases hj
    · obtain rfl : g = j := by simpa [Value.ownBlock] using hj
      exact ⟨hb, _, _, hgb⟩
  have qmb := Boxed.other qm hm5 v2
  refine ⟨q5, ⟨Nat.le_trans hx.size (Nat.le_trans hg.size (grownBy_setCell' w4 b5 v2).size), fun k o _ hk ho => ?_⟩, ⟨?_, fun o ho => ?_⟩, ⟨⟨⟨v2, Boxed.set v2 q5, ?_, fun h => ?_⟩, ?_⟩, Boxed.other q3 h35 v2, qmb⟩⟩
  · have e3 : w3.heap[k]? = some o := (hx.block k (lt_of_block hk)).trans hk
    have e4 : w4.heap[k]? = some o := (hg.block k (lt_of_block e3) (fun e => by obtain ⟨-, cs, T, hc⟩ := own k e.symm; rw [e3] at hc; cases hc; cases ho)).trans e3
    refine ((grownBy_setCell' w4 b5 v2).block k (lt_of_block e4) (fun e => ?_)).trans e4
    obtain rfl : k = b5 := by simpa using e
    rw [show w4.heap[k]? = _ from q5] at e4
    cases e4
    cases ho
  · exact ((hx.bel.mono hw).grown hg (Nat.le_trans hw hx.size) (fun j e => (own j e).1)).setCell (p := ⟨b5, 0, none⟩) hb5 v2
  · rw [show W.heap[bm]? = _ from hm] at ho
    cases ho
    exact qmb
  · have e := hown.kept (grownBy_setCell' w4 b5 v2) (.inr (Boxed.not_row q5 (by decide) hown).symm)
    rw [hn, List.length_append, List.length_singleton, rowL_append]
    exact e
  · rw [hn] at h
    simp at h
  · exact hBe.trans (((hx.bel.mono hw).grown hg (Nat.le_trans hw hx.size) (fun j e => (own j e).1)).setCell (p := ⟨b5, 0, none⟩) hb5 v2)
set_option maxHeartbeats 4000000 in
theorem instants_spec (v : Value) (us : List PU) (tu : Bool) (w : World) (hv : ArgS w v rP us) (hok : MtOk us) :
    Calls Tryz.prog 115 [v, .bool tu].toArray w (RetM (SlS rRe 9 (insF tu (mtg us us.length))) (fun s => vSl s) (fun s => mS 30 s) w) := by
  have hul := hok.l
  obtain ⟨p, cp, rfl⟩ := hv.form
  have hgo := fnM_intro (N := 5) (P := Tryz.prog) (l := [Value.slice p us.length cp, Value.bool tu]) (w := w) (R := RetM (SlS rRe 9 (insF tu (mtg us us.length))) (fun s => vSl s) (fun s => mS 30 s) w) Tryz.func115 rfl Tryz.ntmps115 rfl
  refine hgo ?_
  clear hgo
  refine ji_seq ?_
  refine ji_of ?_
  repeat (refine wkB ?_; try intro _)
  refine jxi_then ?_
  refine ji_seq ?_
  refine ji_of ?_
  repeat (refine wkB ?_; try intro _)
  refine jxi_then ?_
  refine ji_seq ?_
  refine ji_seq ?_
  refine ji_of ?_
  repeat (refine wkB ?_; try intro _)
  refine jxi_then ?_
  refine ji_block ?_
  rename_i b3 b5 bm
  refine ⟨fun a w1 ha hw1 => ?_⟩
  have hbm := hw1.mem _ (.head _)
  have hb5 := hw1.mem _ (.tail _ (.head _))
  have hb3 := hw1.mem _ (.tail _ (.tail _ (.head _)))
  have hnd := hw1.nd
  simp only [List.map_cons, List.map_nil, List.nodup_cons, List.mem_cons, List.not_mem_nil, or_false, not_or] at hnd
  have hwd := hw1.ext.size
  have hbl : bm < w1.heap.size := lt_of_block hbm.2
  refine wpIn_rangeFunc_ownH (F := Fr none) (n := 5) (P := Tryz.prog) (w0 := w1) (N := us.length + 1) (α := R_api_Real × Bool) (encs := fun x => #[vR x.1, .bool x.2]) (S := fun ys => ys = mtg us us.length) (Sp := fun _ => True) (Kp := KpM w bm) rfl (by omega) (gf := 178) (lb := #[.pointer (some ⟨bm, 0, none⟩)]) (ha.ev (x := .tmp 9) rfl) trivial (fun args w => run_callFunc (by kernel_rfl) args w)
    (meet_stops (.slice p us.length cp) us w w1 bm 4 hw1.ext.bel hbm.2 hv hok) (fun h k => ⟨h.1.trans k.1, fun o ho => k.2 o (h.2 o ho)⟩) (fun W l o o' hl h hc hk => ⟨belowK_b (w := w1) hwd W l o o' hl h hc hk, fun o2 h2 => (World.putObj_heap_other (by omega)).trans h2⟩) (Below.refl _ _) (fun _ => rfl)
    (InsI w b3 b5 bm tu (.slice p us.length cp)) (fun _ _ _ => False) (insI_own hwd) (fun _ _ _ _ _ hs _ _ => hs) ⟨⟨⟨_, hb5.2, World.ownsRow_nil _ _ _ _, fun _ => rfl⟩, hw1.ext.bel⟩, hb3.2, hbm.2⟩
    (InsA b3 b5) (fun x a' s X Y row ⟨bx, hc, hr⟩ hg hrow => ⟨bx, (hg.block bx (lt_of_block hc) (fun e => by obtain ⟨-, o, ho, hn⟩ := hrow bx e.symm; rw [hc] at ho; cases ho; cases hn)).trans hc, hr⟩) ?assign ?body ?done ?stop
  case stop =>
    rintro D c pre W _ _ h _
    exact h.elim
  case assign =>
    intro l pre x W K hi hK
    have hact : ∀ a0 : Act, a0.defers = [] → ({ tmps := ((#[10, 11] : Array Tmp).zip #[vR x.1, .bool x.2]).foldl (fun t (p, v) => t.setIfInBounds p v) a0.tmps, defers := [] } : Act) = (a0.put (some 10) (vR x.1)).put (some 11) (.bool x.2) := fun a0 h => by
      cases a0
      simp only at h
      subst h
      simp [Act.put]
    rw [hact a ha.defers]
    have hrep := (ha.put (some 10) (vR x.1) rfl).put (some 11) (.bool x.2) rfl
    refine JI.out (r := some l) (N := 3) (P := Tryz.prog) (w0 := W) (n := 35) (E := [(11, .bool x.2), (10, vR x.1), (3, .pointer (some ⟨b3, 0, none⟩)), (5, .pointer (some ⟨b5, 0, none⟩))]) (L := []) ?_ _ W (hrep.sub sbB) (Own.start W)
    refine ji_seq ?_
    refine ji_region ?_
    refine joi_of (fun _ _ h => h) rfl ?_
    repeat (refine wkB ?_; try intro _)
    refine jxi_then ?_
    refine ji_region ?_
    refine joi_of (fun _ _ h => h) rfl ?_
    repeat (refine wkB ?_; try intro _)
    rename_i b6
    refine ⟨fun a' W' ha' hw' => hK a' W' ⟨hw'.ext.size, fun k o _ hk _ => (hw'.ext.block k (lt_of_block hk)).trans hk⟩ ⟨hw'.ext.bel.mono hi.1.2.size, fun o ho => (hw'.ext.block _ (lt_of_block ho)).trans ho⟩ (insI_own (Nat.le_refl _) _ W W' none hi (grown_of hw'.ext) (fun r e => by cases e)) ⟨b6, (hw'.mem _ (.head _)).2, ha'.sub sbB⟩⟩
  case body =>
    rintro l pre ⟨t, q⟩ a' W hlw hr hi ⟨bx, hbx, hra⟩ hlt
    have hi0 := hi
    obtain ⟨⟨⟨v', hv', hrow, hnil⟩, hBe⟩, hb3', hbm'⟩ := hi
    have f3 := FoC.mk ⟨(0, 0), hb3'⟩
    have f5 := FoC.mk ⟨(0, 0), hv'⟩
    have fx := FoC.mk ⟨(0, 0), hbx⟩
    have keep : ∀ w2, Ext W w2 → KeepsFrom w1.heap.size W w2 ∧ KpM w bm W w2 ∧ InsI w b3 b5 bm tu (.slice p us.length cp) pre w2 := fun w2 hx => ⟨⟨hx.size, fun k o _ hk _ => (hx.block k (lt_of_block hk)).trans hk⟩, ⟨hx.bel.mono hBe.size, fun o ho => (hx.block _ (lt_of_block ho)).trans ho⟩, insI_own (Nat.le_refl _) _ W w2 none hi0 (grown_of hx) (fun r e => by cases e)⟩
    have stay : ∀ w2, Ext W w2 → insF tu (pre ++ [(t, q)]) = insF tu pre → KeepsFrom w1.heap.size W w2 ∧ KpM w bm W w2 ∧ InsI w b3 b5 bm tu (.slice p us.length cp) (pre ++ [(t, q)]) w2 := fun w2 hx he => by
      obtain ⟨k1, k2, k3⟩ := keep w2 hx
      refine ⟨k1, k2, ?_⟩
      unfold InsI at k3 ⊢
      rw [he]
      exact k3
    have hsn := insF_snoc tu pre (t, q)
    refine JI.out (r := some l) (N := 3) (P := Tryz.prog) (w0 := W) (n := 35) (E := [(3, .pointer (some ⟨b3, 0, none⟩)), (5, .pointer (some ⟨b5, 0, none⟩)), (6, .pointer (some ⟨bx, 0, none⟩)), (7, .bool q)]) (L := []) ?_ _ W hra (Own.start W)
    refine ji_block ?_
    refine ji_seq ?_
    obtain ⟨s, hs1, hs2, hs3⟩ := sls_of hnil hrow
    by_cases hq : q = tu
    · subst hq
      have hbq : (q == q) = true := by cases q <;> rfl
      rcases s.cases 30 with ⟨x0, x1, x2⟩ | ⟨bs, cs, sp, hc1, x1, x2, xne⟩
      · rw [x1] at hs1
        subst hs1
        rw [if_pos ⟨rfl, by rw [x0]; simp⟩] at hsn
        have hll : (insF q pre).length ≤ 1048577 := by rw [x0]; simp
        refine ji_draw 18 (by kernel_rfl) (by kernel_rfl) (by kernel_rfl) ?_
        (repeat (refine wkH ?_))
        simp only [hbq]
        (repeat (refine wkH ?_))
        simp only [decide_eq_true (show (0 : Int) = 0 from rfl)]
        (repeat (refine wkH ?_))
        refine jh_nil ?_
        refine joi_nil ?_
        refine jxi_then ?_
        refine ji_cond rfl (fun _ => ?_) (fun h => by cases h)
        refine ji_region ?_
        refine ⟨fun a2 w2 ha2 hw2 => ?_⟩
        refine listI_split [_, _, _] a2 w2 rfl (JO.out (w0 := W) (n := 35) (L := []) ?_ a2 w2 ha2 hw2)
        repeat (refine wkB ?_; try intro _)
        refine jx_midL (fun a3 w3 ha3 hw3 => ?_)
        have hbn := (hw3.mem _ (.head _)).2
        refine listI_app (size := 9) (k := (insF q pre).length) (m := 1) (base := w.heap.size) (xs := rowL rRe (insF q pre)) (news := rowL rRe [t]) ha3 rfl rfl rfl (by decide) (hrow.kept (grown_of hw3.ext) (by first | exact .inl rfl | exact .inr (fun h => by cases h))) (rowL_len (k := 9) [t]) (fun j u hu => by rw [addr_add, cell_block hbn, Nat.zero_add]; simpa [row] using hu) (row_one [t]) (by simp only [maxLen]; omega) ?_ (Nat.le_trans hBe.size hw3.ext.size) (fun v2 w4 hown hgrow => ?_)
        · omega
        · obtain ⟨g', cap', hv2⟩ := ownsRow_succ hown
          subst hv2
          obtain ⟨q5, k1, k2, k3⟩ := ins_step (x := (t, q)) (B := w1.heap.size) hBe.size hi0 hv' hrow hw3.ext hown hgrow hsn hb5.1 (fun e => hnd.2.1 e.symm) hnd.1.1
          refine listI_store (b := b5) (ha3.put (some 33) _ rfl) rfl rfl q5 (by kernel_rfl) rfl rfl ?_
          exact wpListIn_nil ⟨k1, k2, k3⟩
      · rw [x1] at hs1
        subst hs1
        have hmem := hs3 ⟨bs, row rRe (insF q pre) sp, 30⟩ (by rw [x2]; exact .head _)
        have fr := FoC.mk ⟨(0, 0), hmem.2⟩
        have hlp : 0 < (insF q pre).length := List.length_pos_iff.2 xne
        have hll : (insF q pre).length ≤ 1048577 := by
          have := insF_len q pre
          omega
        refine ji_draw 18 (by kernel_rfl) (by kernel_rfl) (by kernel_rfl) ?_
        (repeat (refine wkH ?_))
        simp only [hbq]
        (repeat (refine wkH ?_))
        simp only [decide_eq_false (show ¬ ((insF q pre).length : Int) = 0 by omega)]
        (repeat (refine wkH ?_))
        have hgl : (insF q pre).getLast? = some (gi (insF q pre) (((insF q pre).length : Int) - 1)) := by
          rw [List.getLast?_eq_getElem?, show ((insF q pre).length : Int) - 1 = (((insF q pre).length - 1 : Nat) : Int) by omega, gi_nat (by omega)]
          exact List.getElem?_eq_getElem (by omega)
        rw [hgl] at hsn
        by_cases hl : gi (insF q pre) (((insF q pre).length : Int) - 1) = t
        · rw [if_neg (fun h => h.2 (by rw [hl]))] at hsn
          simp only [decide_eq_true hl, Bool.not_true]
          refine jh_nil ?_
          refine joi_nil ?_
          refine jxi_then ?_
          refine ji_cond rfl (fun h => by cases h) (fun _ => ?_)
          refine ji_skip ?_
          refine jx_block ?_
          exact ⟨fun a2 w2 ha2 hw2 => stay w2 hw2.ext hsn⟩
        · rw [if_pos ⟨rfl, fun h => hl (Option.some.inj h)⟩] at hsn
          simp only [decide_eq_false hl, Bool.not_false]
          refine jh_nil ?_
          refine joi_nil ?_
          refine jxi_then ?_
          refine ji_cond rfl (fun _ => ?_) (fun h => by cases h)
          refine ji_region ?_
          refine ⟨fun a2 w2 ha2 hw2 => ?_⟩
          refine listI_split [_, _, _] a2 w2 rfl (JO.out (w0 := W) (n := 35) (L := []) ?_ a2 w2 ha2 hw2)
          repeat (refine wkB ?_; try intro _)
          refine jx_midL (fun a3 w3 ha3 hw3 => ?_)
          have hbn := (hw3.mem _ (.head _)).2
          refine listI_app (size := 9) (k := (insF q pre).length) (m := 1) (base := w.heap.size) (xs := rowL rRe (insF q pre)) (news := rowL rRe [t]) ha3 rfl rfl rfl (by decide) (hrow.kept (grown_of hw3.ext) (by first | exact .inl rfl | exact .inr (fun h => by cases h))) (rowL_len (k := 9) [t]) (fun j u hu => by rw [addr_add, cell_block hbn, Nat.zero_add]; simpa [row] using hu) (row_one [t]) (by simp only [maxLen]; omega) ?_ (Nat.le_trans hBe.size hw3.ext.size) (fun v2 w4 hown hgrow => ?_)
          · omega
          · obtain ⟨g', cap', hv2⟩ := ownsRow_succ hown
            subst hv2
            obtain ⟨q5, k1, k2, k3⟩ := ins_step (x := (t, q)) (B := w1.heap.size) hBe.size hi0 hv' hrow hw3.ext hown hgrow hsn hb5.1 (fun e => hnd.2.1 e.symm) hnd.1.1
            refine listI_store (b := b5) (ha3.put (some 33) _ rfl) rfl rfl q5 (by kernel_rfl) rfl rfl ?_
            exact wpListIn_nil ⟨k1, k2, k3⟩
    · rw [if_neg (fun h => hq h.1)] at hsn
      have hbq : (q == tu) = false := by cases q <;> cases tu <;> first | rfl | exact absurd rfl hq
      refine ji_draw 18 (by kernel_rfl) (by kernel_rfl) (by kernel_rfl) ?_
      (repeat (refine wkH ?_))
      simp only [hbq]
      (repeat (refine wkH ?_))
      refine jh_nil ?_
      refine joi_nil ?_
      refine jxi_then ?_
      refine ji_cond rfl (fun h => by cases h) (fun _ => ?_)
      refine ji_skip ?_
      refine jx_block ?_
      exact ⟨fun a2 w2 ha2 hw2 => stay w2 hw2.ext hsn⟩
  case done =>
    rintro D ys W hD rfl hi hK
    obtain ⟨⟨⟨v', hv', hrow, hnil⟩, hBe⟩, hb3', hbm'⟩ := hi
    obtain ⟨s, hs1, hs2, hs3⟩ := sls_of hnil hrow
    obtain ⟨o, m, c, hvs⟩ : ∃ o m c, v' = .slice o m c := by
      rcases hrow.2 with ⟨h, _⟩ | ⟨g, cap, _, h, _⟩
      · exact ⟨_, _, _, h⟩
      · exact ⟨_, _, _, h⟩
    have f5 := FoC.mk ⟨(0, 0), hv'⟩
    rw [hvs] at f5 hs1
    have hra : Rep 35 [(5, .pointer (some ⟨b5, 0, none⟩))] a := ha.sub sbB
    have hl : YlC Tryz.prog W 35 [] [(5, .pointer (some ⟨b5, 0, none⟩))] (.load 128 (.tmp 5)) (.slice o m c) := inferInstance
    show Code.wpIn (Fr none) 5 _ _ _ _ W
    refine wpIn_seq (wpIn_region_lit ?_)
    refine listI_q (a := a) (L := []) (w0 := W) (hl.out _ _ _ _ _) hra (Own.start W) rfl rfl (fun W2 hx2 => ?_)
    refine listI_q (a := a.put (some 34) (.slice o m c)) (L := []) (w0 := W2) (E := Env.put [(5, .pointer (some ⟨b5, 0, none⟩))] (some 34) (.slice o m c)) (yl_assign rfl) (hra.put (some 34) _ rfl) (Own.start W2) rfl rfl (fun W3 hx3 => ?_)
    refine wpListIn_nil ?_
    have hx := hx2.tr hx3
    have hK3 : W3.heap[D]? = some (.deferred (some [])) := (hx.block D (lt_of_block hK)).trans hK
    have hr4 : ((a.put (some 34) (.slice o m c)).put (some 4) (.slice o m c)).tmps[4]? = some (.slice o m c) := ((hra.put (some 34) _ rfl).put (some 4) (.slice o m c) rfl).val 4 _ rfl
    refine wpIn_ret ?_
    refine ⟨by simp, .inl ⟨_, _, rfl, run_takeDeferred hK3, ?_⟩⟩
    rw [ha.defers]
    refine ⟨.slice o m c, ?_, s, by rw [hs1], ⟨⟨?_, trivial⟩, fun e he => ?_, hs2⟩⟩
    · rw [results_tmp rfl]
      show Result.ok (Array.getD _ 4 undef) _ = _
      rw [Array.getD_eq_getD_getElem?, hr4]
      rfl
    · exact (hBe.trans (hx.bel.mono hBe.size)).trans (belowK_b (w := w1) hwd W3 D _ _ hD hK3 rfl rfl)
    · obtain ⟨h1, h2⟩ := hs3 e he
      have h3 := (hx.block _ (lt_of_block h2)).trans h2
      refine ⟨h1, (World.putObj_heap_other (fun hd => ?_)).trans h3⟩
      rw [hd, hK3] at h3
      cases h3
instance sr_instants (w0 : World) (L : List Blk) (v : Value) (us : List PU) (tu : Bool) [h : LstC w0 L v PU rP us] : SpecR Tryz.prog w0 L 115 [v, .bool tu] (SlS rRe 9 (insF tu (mtg us us.length))) (fun s => vSl s) (fun s => mS 30 s) (MtOk us) := ⟨fun hp w hw => instants_spec v us tu w (h.out w hw) hp⟩
theorem turns_spec (v : Value) (us : List PU) (w : World) (hv : ArgS w v rP us) (hok : MtOk us) :
    Calls Tryz.prog 75 [v].toArray w (RetM (SlS rRe 9 (tns us us.length)) (fun s => vSl s) (fun s => mS 30 s) w) := by
  have := ArgC.mk hv
  rw [← insF_tns]
  refine fn_intro Tryz.func75 rfl Tryz.ntmps75 rfl ?_
  repeat (first | (refine wkB ?_; try intro _) | (refine sC rfl rfl ?_ ?_; focus (exact hok)) | (refine sN rfl rfl ?_ ?_; (focus (exact hok)); intro _; (try simp only [List.cons_append, List.nil_append, List.append_nil])))
  rename_i s
  exact jx_ret_tmp rfl rfl (fun w hw => ⟨s, rfl, hw.sub suB⟩)
instance sr_turns (w0 : World) (L : List Blk) (v : Value) (us : List PU) [h : LstC w0 L v PU rP us] : SpecR Tryz.prog w0 L 75 [v] (SlS rRe 9 (tns us us.length)) (fun s => vSl s) (fun s => mS 30 s) (MtOk us) := ⟨fun hp w hw => turns_spec v us w (h.out w hw) hp⟩
end Go.Vt
/- A map from instants: what it holds, how it is read and written. Conditions: those that each statement names. -/
set_option linter.unusedSimpArgs false
set_option linter.unusedVariables false
set_option maxHeartbeats 2000000
set_option maxRecDepth 100000
namespace Go.Vt
open Go.RowKit Go.Proofs
/-- The entries are 'true' at these instants. -/
def EnR (l : List MapEntry) (ys : List R_api_Real) : Prop := l.map (fun e => (e.key, e.val)) = ys.map (fun y => (vR y, Value.bool true))
/-- The map holds 'true' at these instants, and nothing else. -/
def MapR (w : World) (b : Nat) (S : List R_api_Real) : Prop := ∃ es clock ys, w.heap[b]? = some (.map es clock) ∧ EnR es.toList ys ∧ ∀ x, x ∈ ys ↔ x ∈ S
theorem MapR.lt {w : World} {b : Nat} {S : List R_api_Real} (h : MapR w b S) : b < w.heap.size := by
  obtain ⟨es, c, ys, h, _⟩ := h
  exact lt_of_block h
theorem MapR.to {w w' : World} {b : Nat} {S : List R_api_Real} (h : MapR w b S) (hx : Ext w w') : MapR w' b S := by
  have hl := h.lt
  obtain ⟨es, c, ys, h1, h2, h3⟩ := h
  exact ⟨es, c, ys, (hx.block b hl).trans h1, h2, h3⟩
theorem MapR.new (w : World) : MapR (w.alloc (.map #[] 0)) w.heap.size [] := ⟨#[], 0, [], World.alloc_heap_new w _, rfl, fun x => Iff.rfl⟩
theorem run_checkKey (e : Bool) (x : R_api_Real) (w : World) : (Instr.checkKey e 10000 30 (vR x)).run Tryz.prog w = .ok () w := by
  kernel_rfl
theorem run_eqR (x y : R_api_Real) (w : World) : (Op.equal 30 (vR x) (vR y)).run Tryz.prog w = .ok (decide (x = y)) w := by
  have h := (inferInstance : BinC Tryz.prog .eql 30 (.agg (e_api_Real (q_api_Real x))) (.agg (e_api_Real (q_api_Real y))) (.bool (decide (x = y)))).run w
  simp only [binOp, Sem.run_bind] at h
  cases hq : (Op.equal 30 (vR x) (vR y)).run Tryz.prog w with
  | ok r w' =>
    rw [hq] at h
    simp only [Result.andThen, Sem.run_pure, Result.ok.injEq, Value.bool.injEq] at h
    rw [h.1, h.2]
  | halt e w' =>
    rw [hq] at h
    cases h
theorem run_und {T : TypeId} {d : TypeDesc} (h : Tryz.prog.underlying T = some d) (w : World) : (underlying T).run Tryz.prog w = .ok d w := by
  simp [underlying, Sem.run, h]
theorem und_R : ∃ fs, Tryz.prog.underlying 30 = some (.struct fs) := ⟨_, Tryz.underlying30⟩
theorem und_M : Tryz.prog.underlying 127 = some (.map 30 4) := by kernel_rfl
/-- The key is found where it is first, or nowhere. -/
theorem run_ask (x : R_api_Real) (w : World) : ∀ (l : List MapEntry) (ys : List R_api_Real) (i : Nat), EnR l ys →
    (∃ j, j < l.length ∧ ys[j]? = some x ∧ (Instr.findAsking 30 (vR x) l i).run Tryz.prog w = .ok (some (i + j, .bool true)) w) ∨ (x ∉ ys ∧ (Instr.findAsking 30 (vR x) l i).run Tryz.prog w = .ok none w)
  | [], [], i, _ => .inr ⟨by simp, by simp [Instr.findAsking]⟩
  | [], _ :: _, _, h => by simp [EnR] at h
  | _ :: _, [], _, h => by simp [EnR] at h
  | e :: l, y :: ys, i, h => by
    simp only [EnR, List.map_cons, List.cons.injEq, Prod.mk.injEq] at h
    obtain ⟨⟨h1, h2⟩, h3⟩ := h
    by_cases hy : x = y
    · refine .inl ⟨0, by simp, by simp [hy], ?_⟩
      simp only [Instr.findAsking, h1, h2, Sem.run_bind, run_eqR, Result.andThen, decide_eq_true hy, if_true, Sem.run_pure, Nat.add_zero]
    · have e1 : (Instr.findAsking 30 (vR x) (e :: l) i).run Tryz.prog w = (Instr.findAsking 30 (vR x) l (i + 1)).run Tryz.prog w := by
        simp only [Instr.findAsking, h1, Sem.run_bind, run_eqR, Result.andThen, decide_eq_false hy, Bool.false_eq_true, if_false]
      rw [e1]
      rcases run_ask x w l ys (i + 1) h3 with ⟨j, j1, j2, j3⟩ | ⟨j1, j2⟩
      · exact .inl ⟨j + 1, by simp; omega, by simpa using j2, by rw [j3, show i + 1 + j = i + (j + 1) by omega]⟩
      · exact .inr ⟨by simp [hy, j1], j2⟩
theorem run_findKey (x : R_api_Real) (w : World) (l : List MapEntry) : (Instr.findKey 30 (vR x) l).run Tryz.prog w = (Instr.findAsking 30 (vR x) l 0).run Tryz.prog w := by
  obtain ⟨fs, hf⟩ := und_R
  unfold Instr.findKey
  simp only [Sem.run_bind, run_und hf, Result.andThen]
  cases l with
  | nil => simp [Instr.findNow, Instr.findAsking]
  | cons e l => rfl
theorem run_lookR {w : World} {b : Nat} {S : List R_api_Real} (h : MapR w b S) (x : R_api_Real) : (Instr.lookup 127 (.map (some b)) (vR x) false).run Tryz.prog w = .ok (.bool (decide (x ∈ S))) w := by
  obtain ⟨es, c, ys, h1, h2, h3⟩ := h
  have hg : (getObj b).run Tryz.prog w = .ok (.map es c) w := by simp [getObj, Sem.run, h1]
  unfold Instr.lookup
  simp only [Sem.run_bind, run_und und_M, Result.andThen, hg, Sem.run_pure, run_checkKey, run_findKey]
  rcases run_ask x w es.toList ys 0 h2 with ⟨j, j1, j2, j3⟩ | ⟨j1, j2⟩
  · rw [j3]
    have hm : x ∈ S := (h3 x).1 (List.mem_of_getElem? j2)
    simp [hm]
  · rw [j2]
    have hm : ¬ x ∈ S := fun hm => j1 ((h3 x).2 hm)
    have hz : (zeroValue 4).run Tryz.prog w = .ok (.bool false) w := by kernel_rfl
    simp [hm, hz, Sem.run_bind, Result.andThen]
theorem zip_same (n : Nat) : ∀ l : List Value, (∀ v ∈ l, Instr.sameBits n v v = true) → (l.zip l).all (fun p => Instr.sameBits n p.1 p.2) = true
  | [], _ => rfl
  | v :: l, h => by
    rw [List.zip_cons_cons, List.all_cons, h v (.head _), zip_same n l fun u hu => h u (.tail _ hu)]
    rfl
theorem same_R (x : R_api_Real) : Instr.sameBits 10000 (vR x) (vR x) = true := by
  have h : ∀ v ∈ (e_api_Real (q_api_Real x)).toList, Instr.sameBits 9999 v v = true := fun v hv => by
    have hv' : v ∈ [Value.bool (I x.P.num).Neg, .string (I x.P.num).Mag, .bool (I (dn x.P)).Neg, .string (I (dn x.P)).Mag, .bool (I x.R.num).Neg, .string (I x.R.num).Mag, .bool (I (dn x.R)).Neg, .string (I (dn x.R)).Mag, .bool x.Neg] := hv
    simp only [List.mem_cons, List.not_mem_nil, or_false] at hv'
    rcases hv' with rfl | rfl | rfl | rfl | rfl | rfl | rfl | rfl | rfl <;> simp [Instr.sameBits, beq_decB]
  show ((e_api_Real (q_api_Real x)).size == (e_api_Real (q_api_Real x)).size && ((e_api_Real (q_api_Real x)).toList.zip (e_api_Real (q_api_Real x)).toList).all (fun p => Instr.sameBits 9999 p.1 p.2)) = true
  rw [zip_same 9999 _ h]
  rfl
theorem run_updR {w : World} {b : Nat} {S : List R_api_Real} (h : MapR w b S) (x : R_api_Real) : ∃ w', (Instr.mapUpdate 127 (.map (some b)) (vR x) (.bool true)).run Tryz.prog w = .ok () w' ∧ MapR w' b (S ++ [x]) ∧ w.grownBy w' (some b) := by
  have hlt := h.lt
  obtain ⟨es, c, ys, h1, h2, h3⟩ := h
  have hg : (getObj b).run Tryz.prog w = .ok (.map es c) w := by simp [getObj, Sem.run, h1]
  have hs : ∀ es' c', (setObj b (.map es' c')).run Tryz.prog w = .ok () { w with heap := w.heap.setIfInBounds b (.map es' c') } := fun es' c' => by simp [setObj, Sem.run, h1]
  have hgr : ∀ o, w.grownBy { w with heap := w.heap.setIfInBounds b o } (some b) := fun o => ⟨rfl, rfl, rfl, by simp, fun k _ hk => Array.getElem?_setIfInBounds_ne (fun e => hk (by rw [e]))⟩
  have hnw : ∀ o, ({ w with heap := w.heap.setIfInBounds b o } : World).heap[b]? = some o := fun o => by simp [hlt]
  unfold Instr.mapUpdate
  simp only [Sem.run_bind, run_und und_M, Result.andThen, hg, run_checkKey, run_findKey]
  rcases run_ask x w es.toList ys 0 h2 with ⟨j, j1, j2, j3⟩ | ⟨j1, j2⟩
  · rw [j3]
    have hj : j < es.size := by simpa using j1
    have hkey : es[j].key = vR x := by
      have := congrArg (fun l => l[j]?) h2
      simp only [List.getElem?_map, j2] at this
      simp [hj] at this
      exact this.1
    have hk : (Instr.keyThatStays (vR x) (vR x)).run Tryz.prog w = .ok (vR x) w := by
      unfold Instr.keyThatStays
      rw [if_pos (same_R x)]
      rfl
    simp only [Nat.zero_add]
    refine ⟨{ w with heap := w.heap.setIfInBounds b (.map (es.modify j fun e => { e with key := vR x, val := .bool true }) c) }, ?_, ⟨_, _, ys, hnw _, ?_, fun y => ?_⟩, hgr _⟩
    · simp [hj, hkey, hk, hs, Sem.run_bind, Result.andThen]
    · have e1 : (es.modify j fun e => { e with key := vR x, val := .bool true }).toList.map (fun e => (e.key, e.val)) = es.toList.map (fun e => (e.key, e.val)) := by
        apply List.ext_getElem
        · simp
        · intro i i1 i2
          have hi : i < es.size := by simpa using i2
          have hv : es[j].val = .bool true := by
            have := congrArg (fun l => l[j]?) h2
            simp only [List.getElem?_map, j2] at this
            simp [hj] at this
            exact this.2
          simp only [List.getElem_map, Array.getElem_toList, Array.getElem_modify]
          split
          · rename_i e
            subst e
            rw [hkey, hv]
          · rfl
      exact e1.trans h2
    · rw [h3 y, List.mem_append, List.mem_singleton]
      have hm : x ∈ S := (h3 x).1 (List.mem_of_getElem? j2)
      exact ⟨.inl, fun h => h.elim id (fun e => e ▸ hm)⟩
  · rw [j2]
    refine ⟨_, hs _ _, ⟨_, _, ys ++ [x], hnw _, ?_, fun y => ?_⟩, hgr _⟩
    · simp only [EnR, Array.toList_push, List.map_append, List.map_cons, List.map_nil]
      rw [show es.toList.map (fun e => (e.key, e.val)) = _ from h2]
    · rw [List.mem_append, List.mem_append, h3 y]
end Go.Vt
/- The runs of a moving point, walked. Conditions: those that each statement names. -/
set_option linter.unusedSimpArgs false
set_option linter.unusedVariables false
set_option maxHeartbeats 2000000
set_option maxRecDepth 100000
namespace Go.Vt
open Go.RowKit Go.Proofs
section
variable {P : Program} {w0 : World} {n : Nat} {ops : Array Oper} {L : List Blk} {E : Env} {Q : Exit → Act → World → Prop} {rest : List Oper} {N : Nat}
variable {ty : TypeId} {pos : String} {aft : Array Edge} {gd : Option (Nat × Bool)} {t : Tmp} {x y z : Operand}
/-- A map is made: what comes behind it begins in a world of its own. -/
theorem joi_make {T : TypeId} {r : Option Nat} (hg : guardB ops E gd = some true) (hd : Nat.blt t n = true) (h : ∀ w, Own w0 L w → JOI r N P (w.alloc (.map #[] 0)) n ops Q rest ((t, .map (some w.heap.size)) :: E) []) : JOI r N P w0 n ops Q (⟨some t, .makeMap T none, ty, pos, aft, gd⟩ :: rest) E L := by
  refine ⟨fun a w ha hw => ?_⟩
  refine wpListIn_step fun K hK => ?_
  rw [if_pos (guardB_spec ha hg)]
  refine ⟨fun f _ => trivial, ?_⟩
  rw [Oper.semAt_eq _ _ _ (fun c e => by cases e)]
  exact hK _ _ ((h w hw).out _ _ (ha.put (some t) _ hd) (Own.start _))
end
/-- The map is written. -/
theorem joi_upd {w0 : World} {n : Nat} {ops : Array Oper} {L : List Blk} {E : Env} {Q : Exit → Act → World → Prop} {rest : List Oper} {N : Nat} {ty : TypeId} {pos : String} {aft : Array Edge} {gd : Option (Nat × Bool)} {x y z : Operand} {r : Option Nat} {b : Nat} {S : List R_api_Real} {k : R_api_Real} (hg : guardB ops E gd = some true) (hx : Env.ev E x = some (.map (some b))) (hy : Env.ev E y = some (vR k)) (hz : Env.ev E z = some (.bool true)) (hm : MapR w0 b S)
    (h : ∀ w w', Own w0 L w → MapR w' b (S ++ [k]) → w.grownBy w' (some b) → JOI r N Tryz.prog w' n ops Q rest E []) : JOI r N Tryz.prog w0 n ops Q (⟨none, .mapUpdate 127 x y z, ty, pos, aft, gd⟩ :: rest) E L := by
  refine ⟨fun a w ha hw => ?_⟩
  obtain ⟨w', h1, h2, h3⟩ := run_updR (hm.to hw.ext) k
  refine wpListIn_step fun K hK => ?_
  rw [if_pos (guardB_spec ha hg)]
  refine ⟨fun f _ => trivial, ?_⟩
  rw [Oper.semAt_eq _ _ _ (fun c e => by cases e)]
  have hr : (execOp a.eval ⟨none, .mapUpdate 127 x y z, ty, pos, aft, gd⟩).run Tryz.prog w = .ok .skip w' := by
    simp only [execOp, ha.ev hx, ha.ev hy, ha.ev hz, Sem.run_bind, h1, Result.andThen, Sem.run_pure]
  rw [hr]
  exact hK _ _ ((h w w' hw h2 h3).out _ _ ha (Own.start _))
class MapC (w0 : World) (b : Nat) (S : outParam (List R_api_Real)) : Prop where
  out : MapR w0 b S
instance yl_lookR {w0 : World} {n : Nat} {L : List Blk} {E : Env} {x y : Operand} {b : Nat} {S : List R_api_Real} {k : R_api_Real} [hm : MapC w0 b S] [hx : IsC (evl E x) (.map (some b))] [hy : IsC (evl E y) (vR k)] : YlC Tryz.prog w0 n L E (.lookup 127 x y false) (.bool (decide (k ∈ S))) := ⟨fun d ty pos aft gd =>
  ⟨fun a w ha hw => by
    have h1 := run_lookR (hm.out.to hw.ext) k
    exact calm_run (s := Instr.lookup 127 (.map (some b)) (vR k) false) (by simp only [execOp, ha.ev (isE (x := x)), ha.ev (isE (x := y))]) h1 (Ext.refl _)⟩⟩
/-- Where the condition of the program holds. -/
def cP (us : List PU) (i : Nat) : Bool := decide (i = 0) || (!decide ((gi us ((i - 1 : Nat) : Int)).In.To = (gi us (i : Int)).In.From) || !decide ((gi us (i : Int)).In.From ∈ tns us us.length))
/-- The run that has ended goes to the others. -/
theorem ended {D : List (R_api_Interval × List SS)} {I : R_api_Interval} {P : List SS} {dn : List RD} (h : dn.map (fun r => (r.I, r.pts)) = D) (hk : ∀ r ∈ dn, r.pts.length ≤ r.c) (s : SlS rS 12 P) : ∃ dn' : List RD, dn'.map (fun r => (r.I, r.pts)) = rnD ⟨D, I, P⟩ ∧ endL (dn.map RD.hd) I s = dn'.map RD.hd ∧ (mS 47 s ++ dnB dn).Perm (dnB dn') ∧ ∀ r ∈ dn', r.pts.length ≤ r.c := by
  rcases s.cases 47 with ⟨x0, x1, x2⟩ | ⟨b, c, sp, hc, x1, x2, xne⟩
  · refine ⟨dn, by rw [h]; exact (if_pos x0).symm, if_pos x0, ?_, hk⟩
    rw [x2]
    exact .refl _
  · refine ⟨dn ++ [⟨I, b, c, P, sp⟩], ?_, ?_, ?_, fun r hr => ?_⟩
    · rw [List.map_append, h]
      exact (if_neg xne).symm
    · rw [List.map_append]
      unfold endL
      rw [if_neg xne, hS_eq x1]
      rfl
    · rw [x2]
      unfold dnB
      rw [List.map_append]
      exact List.perm_append_comm
    · rcases List.mem_append.1 hr with k | k
      · exact hk r k
      · rw [List.mem_singleton] at k
        subst k
        exact hc.1
set_option maxHeartbeats 4000000 in
theorem runs_spec (v : Value) (us : List PU) (w : World) (hv : ArgS w v rP us) (h : PFine us) :
    Calls Tryz.prog 28 [v].toArray w (RetM (RunsO (rns (cP us) us)) (fun s => .tuple #[vSl s.o, .int .i64 0]) (fun s => s.mem) w) := by
  have hul := h.l
  have hok : MtOk us := ⟨by omega, fun u hu => ⟨(h.k u hu).i.mono (by decide), (h.k u hu).f.mono (by decide)⟩⟩
  have hav := ArgC.mk hv
  obtain ⟨p, cp, rfl⟩ := hv.form
  have hgo := fnI_intro (N := 5) (P := Tryz.prog) (l := [Value.slice p us.length cp]) (w := w) (R := RetM (RunsO (rns (cP us) us)) (fun s => .tuple #[vSl s.o, .int .i64 0]) (fun s => s.mem) w) Tryz.func28 rfl Tryz.ntmps28 rfl
  refine callsO (hgo ?_)
  clear hgo
  refine ji_seq ?_
  refine ji_of ?_
  repeat (refine wkB ?_; try intro _)
  refine jxi_then ?_
  refine ji_seq ?_
  refine ji_seq ?_
  refine ji_of ?_
  repeat (first | (refine wkB ?_; try intro _) | (refine sC rfl rfl ?_ ?_; focus (exact h)) | (refine sN rfl rfl ?_ ?_; (focus (exact h)); intro _; (try simp only [List.cons_append, List.nil_append, List.append_nil])))
  refine jxi_then ?_
  refine ji_seq ?_
  refine ji_of ?_
  repeat (refine wkB ?_; try intro _)
  refine jxi_then ?_
  refine ji_cond rfl (fun h => by cases h) (fun _ => ?_)
  refine ji_skip ?_
  refine jxi_then ?_
  refine ji_seq ?_
  refine ji_region ?_
  refine joi_make rfl rfl (fun w1 hw1 => ?_)
  have hM0 := MapR.new w1
  have hB0 : Below w.heap.size w (w1.alloc (.map #[] 0)) := hw1.ext.bel.trans ((Ext.alloc w1 (.map #[] 0)).bel.mono hw1.ext.size)
  have hbw : w.heap.size ≤ w1.heap.size := hw1.ext.size
  generalize w1.alloc (.map #[] 0) = W0 at *
  generalize w1.heap.size = b at *
  have hav0 := ArgC.mk (hv.to ⟨hB0, trivial⟩)
  refine joi_of (fun _ _ h => by obtain ⟨s, h, _⟩ := h; cases h) rfl ?_
  repeat (refine wkB ?_; try intro _)
  refine jxi_then ?_
  refine ji_seq ?_
  refine ji_seq ?_
  refine ji_of ?_
  repeat (first | (refine wkB ?_; try intro _) | (refine sC rfl rfl ?_ ?_; focus (exact hok)) | (refine sN rfl rfl ?_ ?_; (focus (exact hok)); intro _; (try simp only [List.cons_append, List.nil_append, List.append_nil])))
  rename_i s
  refine jxi_then ?_
  refine ji_block ?_
  have htl := tns_len us us.length
  have hcP : ∀ i, cP us i = (decide (i = 0) || (!decide ((gi us ((i - 1 : Nat) : Int)).In.To = (gi us (i : Int)).In.From) || !decide ((gi us (i : Int)).In.From ∈ tns us us.length))) := fun i => rfl
  generalize tns us us.length = T at *
  refine ji_loop (S := Nat) (fun k W1 => k ≤ T.length ∧ MapR W1 b (T.take k) ∧ Below w.heap.size w W1 ∧ ∀ e ∈ mS 30 s, W1.heap[e.b]? = some (.cells e.cs e.T (0, 0))) (fun k => [(0, .slice p us.length cp), (5, .map (some b)), (20, vSl s), (21, .int .i64 T.length), (22, .int .i64 (k : Nat))]) (fun k => T.length - k) 0 (fun w2 hw2 => ?_) sbB (fun k W1 hI => ?_)
  · refine ⟨Nat.zero_le _, hM0.to hw2.ext, hB0.trans (hw2.ext.bel.mono hB0.size), fun e he => (hw2.mem e ?_).2⟩
    first | exact he | exact List.mem_append_left _ he
  obtain ⟨hk, hM, hB1, hS⟩ := hI
  have hx : Ext w W1 := ⟨hB1, trivial⟩
  refine ji_seq ?_
  refine ji_of ?_
  repeat (refine wkB ?_; try intro _)
  refine jxi_then ?_
  refine ji_seq ?_
  refine ji_cond rfl (fun hc => ?_) (fun hc => ?_)
  · have hlt : k < T.length := by have := of_decide_eq_true hc; omega
    refine ji_skip ?_
    refine jxi_then ?_
    rcases s.cases 30 with ⟨x0, x1, x2⟩ | ⟨bt, ct, sp, hc1, x1, x2, xne⟩
    · rw [x0] at hlt
      simp at hlt
    have hbt : W1.heap[bt]? = some (.cells (row rRe T sp) 30 (0, 0)) := hS _ (by rw [x2]; exact .head _)
    have fT := FoC.mk ⟨(0, 0), hbt⟩
    simp only [x1]
    refine ji_seq ?_
    refine ji_block ?_
    refine ji_seq ?_
    refine ji_of ?_
    repeat (refine wkB ?_; try intro _)
    refine jxi_then ?_
    refine ji_region ?_
    refine ⟨fun a2 w2 ha2 hw2 => listI_split [_, _] a2 w2 rfl (JO.out ?_ a2 w2 ha2 hw2)⟩
    repeat (refine wkB ?_; try intro _)
    refine jx_midL (fun a3 w3 ha3 hw3 => (joi_upd rfl rfl rfl rfl hM (fun w4 w5 hw4 hM5 hg => ?_)).out a3 w3 ha3 hw3)
    refine joi_nil ?_
    refine jx_block ?_
    refine jxi_then ?_
    refine ji_of ?_
    repeat (refine wkB ?_; try intro _)
    have hbb : w.heap.size ≤ b := hbw
    refine jxi_loop (k + 1) (fun w6 hw6 => ⟨hlt, ?_, ?_, fun e he => ?_⟩) sbB (by omega)
    · rw [take_snoc hlt]
      exact hM5.to hw6.ext
    · exact ((hB1.trans (hw4.ext.bel.mono hB1.size)).grown hg (Nat.le_trans hB1.size hw4.ext.size) (fun j e => by cases e; exact hbb)).trans (hw6.ext.bel.mono (Nat.le_trans hB1.size (Nat.le_trans hw4.ext.size hg.size)))
    · have e0 := hS e he
      have e1 := (hw4.ext.block _ (lt_of_block e0)).trans e0
      have e2 : w5.heap[e.b]? = some (.cells e.cs e.T (0, 0)) := (hg.block _ (lt_of_block e1) (fun hbe => by
        obtain ⟨es, c, ys, hmb, _⟩ := hM
        have hmb' := (hw4.ext.block _ (lt_of_block hmb)).trans hmb
        rw [show e.b = b by simpa using hbe, hmb'] at e1
        cases e1)).trans e1
      exact (hw6.ext.block _ (lt_of_block e2)).trans e2
  · have hge : k = T.length := by have := of_decide_eq_false hc; omega
    rw [hge, List.take_length] at hM
    refine ji_exit ?_
    refine jxi_then_exit ?_
    refine jxi_loop_exit ?_
    refine jx_block_here ?_
    refine jxi_then ?_
    have hmap : MapC W1 b T := ⟨hM⟩
    have hav1 := ArgC.mk (hv.to hx)
    have hv1 := hv.to hx
    refine ji_of ?_
    repeat (refine wkB ?_; try intro _)
    rename_i b8 b9
    clear hM0 hB0 hav0 hS hc
    refine j_loop (S := (m : Nat) × (dn : List RD) × SlS rR 21 (dn.map RD.hd) × SlS rS 12 (rn (cP us) us m).P) (fun q => q.1 ≤ us.length ∧ q.2.1.map (fun r => (r.I, r.pts)) = (rn (cP us) us q.1).dn ∧ ∀ r ∈ q.2.1, r.pts.length ≤ r.c) (fun q => [(0, .slice p us.length cp), (5, .map (some b)), (8, .pointer (some ⟨b8, 0, none⟩)), (9, .pointer (some ⟨b9, 0, none⟩)), (10, .func (.func 76) #[] [.pointer (some ⟨b9, 0, none⟩), .pointer (some ⟨b8, 0, none⟩)].toArray), (30, .slice p us.length cp), (31, .int .i64 us.length), (32, .int .i64 (q.1 : Nat))])
      (fun q => mS 35 q.2.2.1 ++ (⟨b9, cRn (rn (cP us) us q.1).I (hS q.2.2.2), 35⟩ :: ⟨b8, #[vSl q.2.2.1], 62⟩ :: (mS 47 q.2.2.2 ++ dnB q.2.1))) (fun q => us.length - q.1) ⟨0, [], SlS.no, SlS.no⟩ ⟨Nat.zero_le _, rfl, fun r hr => by cases hr⟩ sbB suB (fun q hq => ?_)
    obtain ⟨m, dn, o, s2⟩ := q
    obtain ⟨hm, hdn, hkk⟩ := hq
    simp only at hm hdn hkk o s2 ⊢
    have hrl := rn_len (cP us) us m
    have hdl : dn.length ≤ m := by
      have := congrArg List.length hdn
      rw [List.length_map] at this
      omega
    repeat (refine wkB ?_; try intro _)
    refine j_cond rfl (fun hc => ?_) (fun hc => ?_)
    · have hlt : m < us.length := by have := of_decide_eq_true hc; omega
      have hne : us ≠ [] := fun h0 => by rw [h0] at hlt; simp at hlt
      obtain ⟨bw, ow, cw, hvw, hcw, hrow⟩ := hv1.blk (k := 35) hne []
      injection hvw with e1 e2 e3
      subst e1
      subst e3
      have hrow' : ∀ L, RowC W1 L bw ow PU rP us := fun L => ⟨fun w' hw' => hrow.out w' (hw'.sub (List.nil_sublist _))⟩
      have hA := h.k _ (gi_mem (i := (m : Int)) (xs := us) (by omega))
      have hrn : rn (cP us) us (m + 1) = if cP us m = true then ⟨rnD (rn (cP us) us m), rnI (gi us (m : Int)) (gi us (m : Int)).In, rnP (gi us (m : Int)) [smq (gi us (m : Int)).F (gi us (m : Int)).In.From]⟩ else ⟨(rn (cP us) us m).dn, rnI (gi us (m : Int)) (rn (cP us) us m).I, rnP (gi us (m : Int)) (rn (cP us) us m).P⟩ := rfl
      have hcm := hcP m
      repeat (refine wkB ?_; try intro _)
      rename_i b12
      generalize gi us (m : Int) = A at *
      have p1 : A.In.From.R = 0 ∧ M A.In.From.P ≤ 34359738368 ∧ M A.F.X0 ≤ 34359738368 ∧ M A.F.X1 ≤ 34359738368 ∧ M A.F.Y0 ≤ 34359738368 ∧ M A.F.Y1 ≤ 34359738368 := ⟨hA.i.r1, Nat.le_trans hA.i.m1 (by decide), Nat.le_trans hA.f.x0 (by decide), Nat.le_trans hA.f.x1 (by decide), Nat.le_trans hA.f.y0 (by decide), Nat.le_trans hA.f.y1 (by decide)⟩
      have p2 : A.In.To.R = 0 ∧ M A.In.To.P ≤ 34359738368 ∧ M A.F.X0 ≤ 34359738368 ∧ M A.F.X1 ≤ 34359738368 ∧ M A.F.Y0 ≤ 34359738368 ∧ M A.F.Y1 ≤ 34359738368 := ⟨hA.i.r2, Nat.le_trans hA.i.m2 (by decide), Nat.le_trans hA.f.x0 (by decide), Nat.le_trans hA.f.x1 (by decide), Nat.le_trans hA.f.y0 (by decide), Nat.le_trans hA.f.y1 (by decide)⟩
      refine j_cut (S := Bool) (fun f => f = cP us m) (fun f => [(0, .slice (some ⟨bw, ow, none⟩) us.length cp), (5, .map (some b)), (8, .pointer (some ⟨b8, 0, none⟩)), (9, .pointer (some ⟨b9, 0, none⟩)), (10, .func (.func 76) #[] [.pointer (some ⟨b9, 0, none⟩), .pointer (some ⟨b8, 0, none⟩)].toArray), (12, .pointer (some ⟨b12, 0, none⟩)), (30, .slice (some ⟨bw, ow, none⟩) us.length cp), (31, .int .i64 us.length), (32, .int .i64 (m : Nat)), (59, .bool f)]) (fun _ => ⟨b12, e_api_PointUnit (q_api_PointUnit A), 68⟩ :: (mS 35 o ++ (⟨b9, cRn (rn (cP us) us m).I (hS s2), 35⟩ :: ⟨b8, #[vSl o], 62⟩ :: (mS 47 s2 ++ dnB dn)))) ?_ (fun f hf => ?_)
      · rcases Nat.eq_zero_or_pos m with h0 | h0
        · subst h0
          refine jD 23 23 (h := ?_)
          (repeat (refine wkH ?_))
          simp only [decide_eq_true (show ((0 : Nat) : Int) = 0 from rfl)]
          (repeat (refine wkH ?_))
          refine jh_nil ?_
          refine jn_nil ?_
          repeat (refine wkB ?_; try intro _)
          exact jx_mid true (by rw [hcm]; rfl) sbB suB
        · have e0 : decide (m = 0) = false := decide_eq_false (by omega)
          rw [show ((m - 1 : Nat) : Int) = (m : Int) - 1 by omega, e0, Bool.false_or] at hcm
          refine jD 23 23 (h := ?_)
          (repeat (refine wkH ?_))
          simp only [decide_eq_false (show ¬ (m : Int) = 0 by omega)]
          (repeat (first | refine wkH ?_ | (refine tC rfl rfl ?_ ?_; focus (exact ⟨by omega, by omega⟩))))
          by_cases h1 : (gi us ((m : Int) - 1)).In.To = A.In.From
          · rw [decide_eq_true h1, Bool.not_true, Bool.false_or] at hcm
            simp only [decide_eq_true h1, Bool.not_true]
            (repeat (refine wkH ?_))
            refine jh_nil ?_
            refine jn_nil ?_
            repeat (refine wkB ?_; try intro _)
            exact jx_mid (!decide (A.In.From ∈ T)) hcm.symm sbB suB
          · rw [decide_eq_false h1, Bool.not_false, Bool.true_or] at hcm
            simp only [decide_eq_false h1, Bool.not_false]
            (repeat (refine wkH ?_))
            refine jh_nil ?_
            refine jn_nil ?_
            repeat (refine wkB ?_; try intro _)
            exact jx_mid true hcm.symm sbB suB
      refine j_cut (S := (dn' : List RD) × (_ : R_api_Interval) × (P' : List SS) × SlS rR 21 (dn'.map RD.hd) × SlS rS 12 P') (fun q => q.1.map (fun r => (r.I, r.pts)) = (if f = true then rnD (rn (cP us) us m) else (rn (cP us) us m).dn) ∧ q.2.1 = (if f = true then A.In else (rn (cP us) us m).I) ∧ q.2.2.1 = (if f = true then [smq A.F A.In.From] else (rn (cP us) us m).P) ∧ ∀ r ∈ q.1, r.pts.length ≤ r.c) (fun _ => [(0, .slice (some ⟨bw, ow, none⟩) us.length cp), (5, .map (some b)), (8, .pointer (some ⟨b8, 0, none⟩)), (9, .pointer (some ⟨b9, 0, none⟩)), (10, .func (.func 76) #[] [.pointer (some ⟨b9, 0, none⟩), .pointer (some ⟨b8, 0, none⟩)].toArray), (12, .pointer (some ⟨b12, 0, none⟩)), (30, .slice (some ⟨bw, ow, none⟩) us.length cp), (31, .int .i64 us.length), (32, .int .i64 (m : Nat))])
        (fun q => ⟨b12, e_api_PointUnit (q_api_PointUnit A), 68⟩ :: (mS 35 q.2.2.2.1 ++ (⟨b9, cRn q.2.1 (hS q.2.2.2.2), 35⟩ :: ⟨b8, #[vSl q.2.2.2.1], 62⟩ :: (mS 47 q.2.2.2.2 ++ dnB q.1)))) ?_ (fun q hq => ?_)
      · rcases f with _ | _
        · refine j_cond rfl (fun h => by cases h) (fun _ => ?_)
          refine j_skip ?_
          exact jx_mid ⟨dn, _, _, o, s2⟩ ⟨hdn, rfl, rfl, hkk⟩ sbB suB
        · refine j_cond rfl (fun _ => ?_) (fun h => by cases h)
          obtain ⟨dn', hdn', hmap', hblk, hkk'⟩ := ended hdn hkk s2
          refine j_permL (⟨b12, e_api_PointUnit (q_api_PointUnit A), 68⟩ :: (mS 35 o ++ (⟨b9, cRn (rn (cP us) us m).I (hS s2), 35⟩ :: ⟨b8, #[vSl o], 62⟩ :: dnB dn'))) ((((hblk.cons _).cons _).append_left _).cons _) ?_
          repeat (refine wkB ?_; try intro _)
          refine sY rfl rfl ?_ ?_
          · exact ⟨by rw [List.length_map]; omega, by omega⟩
          intro o1
          obtain ⟨o', e1, e2⟩ := SlS.turn 35 hmap' o1
          simp only [← e1, ← e2]
          repeat (refine wkB ?_; try intro _)
          (refine j_tree (.v [0, 1, 2, 3, 4, 5, 6, 7] (.e1 8 (.v [9] (.e1 10 (.fin))))) ([⟨b12, e_api_PointUnit (q_api_PointUnit A), 68⟩]) (h := ?_); refine wkX ?_)
          (repeat (first | refine wkH ?_ | (refine tC rfl rfl ?_ ?_; focus (exact p1))))
          repeat (first | (refine wkT ?_; try intro _) | (refine tC rfl rfl ?_ ?_; focus (exact p1)) | (refine uC rfl rfl ?_ ?_; focus (exact p1)) | (refine eN rfl rfl ?_ ?_; (focus (exact p1)); intro _; (try simp only [List.cons_append, List.nil_append, List.append_nil])))
          rename_i bN
          obtain ⟨s', hv', hm'⟩ := SlS.put (enc := rS) (k := 12) (b := bN) (sp := []) (c := 1) (ys := [smq A.F A.In.From]) 47 rfl ⟨Nat.le_refl _, rfl⟩ Nat.zero_lt_one
          have hh := hS_eq hv'
          refine jx_midP ⟨dn', A.In, [smq A.F A.In.From], o', s'⟩ ⟨hdn'.trans (if_pos trivial).symm, (if_pos trivial).symm, (if_pos trivial).symm, hkk'⟩ sbB ?_
          simp only [hh, hm', List.cons_append, List.nil_append]
          simp only [smq]
          infer_instance
      · obtain ⟨dn2, I2, P2, o2, s3⟩ := q
        obtain ⟨q1, q2, q3, q4⟩ := hq
        simp only at q1 q2 q3 q4 o2 s3 ⊢
        have hr2 : rn (cP us) us (m + 1) = ⟨dn2.map (fun r => (r.I, r.pts)), rnI A I2, rnP A P2⟩ := by
          rw [hrn, q1, q2, q3, ← hf]
          cases f <;> rfl
        have hP2 : P2.length ≤ 64 := by
          rw [q3]
          split
          · simp
          · omega
        repeat (refine wkB ?_; try intro _)
        (refine j_tree (.v [0, 1, 2, 3, 4, 5, 6, 7] (.e1 8 (.v [9, 10] (.e1 11 (.fin))))) ([⟨b12, e_api_PointUnit (q_api_PointUnit A), 68⟩]) (h := ?_); refine wkX ?_)
        repeat' (first | (with_reducible refine And.intro ?_ ?_) | (with_reducible exact True.intro) | (refine wkT ?_; try intro _) | fail)
        refine jx_then ?_
        refine j_forget (E' := [(0, .slice (some ⟨bw, ow, none⟩) us.length cp), (5, .map (some b)), (8, .pointer (some ⟨b8, 0, none⟩)), (9, .pointer (some ⟨b9, 0, none⟩)), (10, .func (.func 76) #[] [.pointer (some ⟨b9, 0, none⟩), .pointer (some ⟨b8, 0, none⟩)].toArray), (12, .pointer (some ⟨b12, 0, none⟩)), (30, .slice (some ⟨bw, ow, none⟩) us.length cp), (31, .int .i64 us.length), (32, .int .i64 (m : Nat))]) (L' := ⟨b12, e_api_PointUnit (q_api_PointUnit A), 68⟩ :: (mS 35 o2 ++ (⟨b9, cRn (rnI A I2) (hS s3), 35⟩ :: ⟨b8, #[vSl o2], 62⟩ :: (mS 47 s3 ++ dnB dn2)))) sbB (List.Sublist.refl _) ?_
        have hI1 : (rn (cP us) us (m + 1)).I = rnI A I2 := by rw [hr2]
        have hD1 : dn2.map (fun r => (r.I, r.pts)) = (rn (cP us) us (m + 1)).dn := by rw [hr2]
        repeat (refine wkB ?_; try intro _)
        by_cases heq : A.In.From = A.In.To
        · simp only [decide_eq_true heq, Bool.not_true]
          repeat (refine wkB ?_; try intro _)
          have hP1 : P2 = (rn (cP us) us (m + 1)).P := by rw [hr2]; exact (if_pos heq).symm
          obtain ⟨s4, e1, e2⟩ := SlS.turn 47 hP1 s3
          have e3 : hS s4 = hS s3 := hS_eq (e1.trans (hS_v s3).symm)
          exact jx_loop ⟨m + 1, dn2, o2, s4⟩ ⟨hlt, hD1, q4⟩ sbB (by
            show List.Sublist (mS 35 o2 ++ (⟨b9, cRn (rn (cP us) us (m + 1)).I (hS s4), 35⟩ :: ⟨b8, #[vSl o2], 62⟩ :: (mS 47 s4 ++ dnB dn2))) _
            rw [hI1, e3, e2]
            exact List.Sublist.cons _ (List.Sublist.refl _)) (by show us.length - (m + 1) < us.length - m; omega)
        · simp only [decide_eq_false heq, Bool.not_false]
          repeat (refine wkB ?_; try intro _)
          (refine j_tree (.v [0, 2, 3, 4, 5, 6, 7] (.e2 1 (.e1 8 (.e1 9 (.v [10] (.e1 11 (.fin))))) 8 (.e1 1 (.e1 9 (.v [10] (.e1 11 (.fin))))))) ([⟨b12, e_api_PointUnit (q_api_PointUnit A), 68⟩]) (h := ?_); refine wkX ?_)
          (repeat (first | refine wkH ?_ | (refine tC rfl rfl ?_ ?_; focus (exact p2))))
          repeat (first | (refine wkT ?_; try intro _) | (refine tC rfl rfl ?_ ?_; focus (exact p2)) | (refine uC rfl rfl ?_ ?_; focus (exact p2)) | (refine eN rfl rfl ?_ ?_; (focus (exact p2)); intro _; (try simp only [List.cons_append, List.nil_append, List.append_nil])))
          have hP1 : P2 ++ [(⟨A.In.To.P, pos A.F A.In.To.P⟩ : SS)] = (rn (cP us) us (m + 1)).P := by rw [hr2]; exact (if_neg heq).symm
          refine And.intro ?_ ?_
          all_goals
            repeat (refine wkT ?_; try intro _)
            refine eU rfl rfl ?_ ?_ ?_ ?_
            · rfl
            · rfl
            · exact ⟨by decide, by omega, by omega⟩
            intro s4
            repeat (refine wkT ?_; try intro _)
            obtain ⟨s5, e1, e2⟩ := SlS.turn 47 hP1 s4
            have e3 : hS s5 = hS s4 := hS_eq (e1.trans (hS_v s4).symm)
            repeat (refine wkB ?_; try intro _)
            refine jx_loopP ⟨m + 1, dn2, o2, s5⟩ ⟨hlt, hD1, q4⟩ sbB ?_ (by show us.length - (m + 1) < us.length - m; omega)
            simp only [hI1, e3, e2]
            infer_instance
    · have hge : m = us.length := by have := of_decide_eq_false hc; omega
      obtain ⟨dn', hdn', hmap', hblk, hkk'⟩ := ended (I := (rn (cP us) us m).I) hdn hkk s2
      have hps : dn'.map (fun r => (r.I, r.pts)) = rns (cP us) us := by rw [hdn', hge]; rfl
      refine j_permL (mS 35 o ++ (⟨b9, cRn (rn (cP us) us m).I (hS s2), 35⟩ :: ⟨b8, #[vSl o], 62⟩ :: dnB dn')) ((((hblk.cons _).cons _).append_left _)) ?_
      repeat (refine wkB ?_; try intro _)
      refine sY rfl rfl ?_ ?_
      · exact ⟨by rw [List.length_map]; omega, by omega⟩
      intro o1
      obtain ⟨o', e1, e2⟩ := SlS.turn 35 hmap' o1
      simp only [← e1, ← e2]
      repeat (refine wkB ?_; try intro _)
      exact jx_ret_two rfl (resv_tmp rfl) (resv_tmp rfl) (fun w' hw' => ⟨⟨dn', o', hps, hkk'⟩, rfl, (hw'.sub suB).rebase hB1⟩)
end Go.Vt
/- The reference's runs, walked. Conditions: those that each statement names. -/
set_option linter.unusedSimpArgs false
set_option linter.unusedVariables false
set_option maxHeartbeats 2000000
set_option maxRecDepth 100000
namespace Go.Vt
open Go.RowKit Go.Proofs
end Go.Vt
/- SimplifyRuns, walked. Conditions: those that each statement names. -/
set_option linter.unusedSimpArgs false
set_option linter.unusedVariables false
set_option maxHeartbeats 2000000
set_option maxRecDepth 100000
namespace Go.Vt
open Go.RowKit Go.Proofs
open Fv (va red)
structure RunA (w : World) (v : Value) (ps : List (R_api_Interval × List SS)) : Prop where
  ex : ∃ rs : List RD, rs.map (fun r => (r.I, r.pts)) = ps ∧ ArgS w v rR (rs.map RD.hd) ∧ ∀ r ∈ rs, ∃ T fz, w.heap[r.b]? = some (.cells (row rS r.pts r.sp) T fz)
class RunC (w0 : World) (L : List Blk) (v : Value) (ps : outParam (List (R_api_Interval × List SS))) : Prop where
  out : ∀ w, Own w0 L w → RunA w v ps
section
variable {ps : List (R_api_Interval × List SS)} {s : RunsO ps}
end
structure BOk (ps : List (R_api_Interval × List SS)) : Prop where
  l : ps.length ≤ 64
  p : ∀ p ∈ ps, p.2.length ≤ 1024 ∧ Bnd p.2
  n : (b1s ps).length ≤ 19
  u : ∀ u ∈ (b1s ps).map toU, UIn u
theorem buildR_spec (v : Value) (ps : List (R_api_Interval × List SS)) (w : World) (h : RunA w v ps) (hp : BOk ps) :
    Calls Tryz.prog 24 [v].toArray w (RetM (SlS rP 36 (mNorm (b1s ps))) (fun s => .tuple #[vSl s, .int .i64 (nrmE ((b1s ps).map toU))]) (fun s => mS 68 s) w) := by
  obtain ⟨rs, e1, a1, m1⟩ := h.ex
  have hb : bA rs rs.length = b1s ps := by rw [bA_b1s rs.length (Nat.le_refl _), List.take_length, e1]
  have hr : rs.length = ps.length := by rw [← e1, List.length_map]
  have key := build_spec v rs w a1 (by have := hp.l; omega) (fun r hr => by
    have hm : (r.I, r.pts) ∈ ps := by rw [← e1]; exact List.mem_map.2 ⟨r, hr, rfl⟩
    exact ⟨(hp.p _ hm).1, (hp.p _ hm).2, m1 r hr⟩) (by rw [hb]; exact hp.n) (by rw [hb, mpN_map]; exact hp.u)
  rw [hb, mpN_map toU] at key
  exact key
instance sr_buildR (w0 : World) (L : List Blk) (v : Value) (ps : List (R_api_Interval × List SS)) [h : RunC w0 L v ps] : SpecR Tryz.prog w0 L 24 [v] (SlS rP 36 (mNorm (b1s ps))) (fun s => .tuple #[vSl s, .int .i64 (nrmE ((b1s ps).map toU))]) (fun s => mS 68 s) (BOk ps) := ⟨fun hp w hw => buildR_spec v ps w (h.out w hw) hp⟩
theorem rns_same {us : List PU} (h : PNf us) : rns (cP us) us = rns (fstU us) us := by
  unfold rns
  rw [rn_congr (c := cP us) (d := fstU us) us.length (fun j hj => first_iff h hj)]
theorem PFine.pn {us : List PU} (h : PFine us) : PNf us := ⟨h.nf, fun u hu => ⟨⟨(h.k u hu).i.r1, (h.k u hu).i.n1⟩, ⟨(h.k u hu).i.r2, (h.k u hu).i.n2⟩⟩⟩
instance sr_runs (w0 : World) (L : List Blk) (v : Value) (us : List PU) [h : LstC w0 L v PU rP us] : SpecR Tryz.prog w0 L 28 [v] (RunsO (rns (fstU us) us)) (fun s => .tuple #[vSl s.o, .int .i64 0]) (fun s => s.mem) (PFine us) := ⟨fun hp w hw => by
  have key := runs_spec v us w (h.out w hw) hp
  rw [rns_same hp.pn] at key
  exact key⟩
/-- Each breakpoint of a run is the place of a unit at one of its ends. -/
def OfU (l : List PU) (s : SS) : Prop := ∃ u ∈ l, s = smq u.F u.In.From ∨ s = smq u.F u.In.To
theorem rn_of {c : Nat → Bool} {l : List PU} : ∀ m, m ≤ l.length → ((∀ p ∈ (rn c l m).dn, ∀ s ∈ p.2, OfU l s) ∧ ∀ s ∈ (rn c l m).P, OfU l s)
  | 0, _ => ⟨(fun p hp => by cases hp), (fun s hs => by cases hs)⟩
  | m + 1, hm => by
    obtain ⟨h1, h2⟩ := rn_of (c := c) (l := l) m (by omega)
    have hu : gi l (m : Int) ∈ l := gi_mem (by omega)
    have hP : ∀ P : List SS, (∀ s ∈ P, OfU l s) → ∀ s ∈ rnP (gi l (m : Int)) P, OfU l s := fun P hP s hs => by
      unfold rnP at hs
      split at hs
      · exact hP s hs
      · rcases List.mem_append.1 hs with k | k
        · exact hP s k
        · exact ⟨_, hu, .inr (List.mem_singleton.1 k)⟩
    have hD : ∀ p ∈ rnD (rn c l m), ∀ s ∈ p.2, OfU l s := fun p hp => by
      unfold rnD at hp
      split at hp
      · exact h1 p hp
      · rcases List.mem_append.1 hp with k | k
        · exact h1 p k
        · rw [List.mem_singleton.1 k]
          exact h2
    rw [rn]
    split
    · exact ⟨hD, hP _ fun s hs => ⟨_, hu, .inl (List.mem_singleton.1 hs)⟩⟩
    · exact ⟨h1, hP _ h2⟩
theorem rns_of {c : Nat → Bool} {l : List PU} : ∀ p ∈ rns c l, ∀ s ∈ p.2, OfU l s := fun p hp => by
  obtain ⟨h1, h2⟩ := rn_of (c := c) (l := l) l.length (Nat.le_refl _)
  unfold rns rnD at hp
  split at hp
  · exact h1 p hp
  · rcases List.mem_append.1 hp with k | k
    · exact h1 p k
    · rw [List.mem_singleton.1 k]
      exact h2
theorem rns_len (c : Nat → Bool) (l : List PU) : (rns c l).length ≤ l.length ∧ ∀ p ∈ rns c l, p.2.length ≤ l.length + 1 := by
  obtain ⟨h1, h2, h3, h4⟩ := rn_len c l l.length
  refine ⟨h1, fun p hp => ?_⟩
  unfold rns rnD at hp
  split at hp
  · exact h4 p hp
  · rcases List.mem_append.1 hp with k | k
    · exact h4 p k
    · rw [List.mem_singleton.1 k]
      exact h3
theorem good_fine {n : Nat} {us : List PU} (h : PGood 276 n us) (hn : n ≤ 19) : PFine us := ⟨h.nf.nf, fun u hu => (h.k u hu).uin (by decide), Nat.le_trans h.n hn⟩
theorem smq_K {u : PU} (h : UK 276 (toU u)) {t : R_api_Real} (ht : M t.P ≤ 276) : M (smq u.F t).T ≤ PB ∧ M (smq u.F t).P.X ≤ PB ∧ M (smq u.F t).P.Y ≤ PB := by
  have h1 := lred_K h.f ht
  exact ⟨Nat.le_trans ht (by decide), Nat.le_trans h1.x0 (by decide), Nat.le_trans h1.y0 (by decide)⟩
theorem rns_ok {us : List PU} (h : PGood 276 12 us) : BOk (rns (fstU us) us) := by
  have hl := rns_len (fstU us) us
  have hn := h.n
  have hf := good_fine h (by decide)
  refine ⟨by omega, fun p hp => ⟨by have := hl.2 p hp; omega, bnd_of fun s hs => ?_⟩, by rw [rns_law h.nf]; omega, fun u hu => ?_⟩
  · obtain ⟨u, hu, k | k⟩ := rns_of p hp s hs
    · rw [k]; exact smq_K (h.k u hu) (h.k u hu).i.m1
    · rw [k]; exact smq_K (h.k u hu) (h.k u hu).i.m2
  · rw [rns_law h.nf] at hu
    obtain ⟨x, hx, rfl⟩ := List.mem_map.1 hu
    exact hf.k x hx
instance ld_e2C (a b : Int) : LdC Tryz.prog 58 (e2C a b) 0 (.agg (e2C a b)) := ⟨ldv_agg 2 (by kernel_rfl) (by kernel_rfl) (by kernel_rfl)⟩
end Go.Vt
/- Which lists of indices can be kept; a run with some of its breakpoints: walked. Conditions: those that each statement names. -/
set_option linter.unusedSimpArgs false
set_option linter.unusedVariables false
set_option maxHeartbeats 2000000
set_option maxRecDepth 100000
namespace Go.Vt
open Go.RowKit Go.Proofs
def ir (ks : List Int) : Nat → Bool
  | 0 => true
  | m + 1 => ir ks m && decide (gi ks (m : Int) < gi ks ((m + 1 : Nat) : Int))
def rgt (n : Nat) (ks : List Int) : Bool := decide (ks ≠ []) && decide (gi ks 0 = 0) && decide (gi ks ((ks.length : Int) - 1) = (n : Int) - 1) && ir ks (ks.length - 1)
theorem right_spec (I : R_api_Interval) (b n c : Nat) (ks : List Int) (v : Value) (hn : 1 ≤ n ∧ n ≤ 1099511627776) (hks : ks.length ≤ 9223372036854775807) (w : World) (hv : ArgS w v (eI .i64) ks) :
    Calls Tryz.prog 116 [vRun I b n c, v].toArray w (Ret (.bool (rgt n ks)) w) := by
  obtain ⟨p, cp, rfl⟩ := hv.form
  refine fn_intro Tryz.func116 rfl Tryz.ntmps116 rfl ?_
  repeat (refine wkB ?_; try intro _)
  rename_i b2
  (refine j_phases [([0, 1, 2, 3, 4, 5, 6, 7, 8, 9, 10, 11, 12, 13, 14, 15, 16, 17, 18, 19, 20, 21], [])] ([⟨b2, cRun I b n c, 35⟩]) (h := ?_); refine wkP ?_)
  (repeat (refine wkH ?_))
  by_cases hne : ks = []
  · subst hne
    simp only [List.length_nil, decide_eq_true (show ((0 : Nat) : Int) = 0 from rfl)]
    (repeat (refine wkH ?_))
    repeat (refine wkT ?_; try intro _)
    repeat (refine wkB ?_; try intro _)
    exact jx_ret_tmp rfl rfl (fun w hw => ret_ok hw)
  have hlp : 0 < ks.length := List.length_pos_iff.2 hne
  simp only [decide_eq_false (show ¬ ((ks.length : Nat) : Int) = 0 by omega)]
  obtain ⟨bw, ow, cw, hvw, hcw, hrow⟩ := hv.blk (k := 0) hne []
  injection hvw with e1 e2 e3
  subst e1
  subst e3
  have hrow' : ∀ L, RowC w L bw ow Int (eI .i64) ks := fun L => ⟨fun w' hw' => hrow.out w' (hw'.sub (List.nil_sublist _))⟩
  (repeat (first | refine wkH ?_ | (refine tC rfl rfl ?_ ?_; focus (exact ⟨by omega, by omega⟩))))
  by_cases h0 : gi ks 0 = 0
  · simp only [decide_eq_true h0, Bool.not_true]
    (repeat (first | refine wkH ?_ | (refine tC rfl rfl ?_ ?_; focus (exact ⟨by omega, by omega⟩))))
    repeat (refine wkT ?_; try intro _)
    by_cases h1 : gi ks ((ks.length : Int) - 1) = (n : Int) - 1
    · simp only [decide_eq_true h1, Bool.not_true]
      repeat (refine wkB ?_; try intro _)
      refine j_loop (S := Nat) (fun m => m + 1 ≤ ks.length ∧ ir ks m = true) (fun m => [(1, .slice (some ⟨bw, ow, none⟩) ks.length cp), (5, .int .i64 ((m + 1 : Nat) : Int))]) (fun _ => []) (fun m => ks.length - m) 0 ⟨by omega, rfl⟩ sbB slB (fun m hm => ?_)
      obtain ⟨hm1, hm2⟩ := hm
      repeat (refine wkB ?_; try intro _)
      refine j_cond rfl (fun h => ?_) (fun h => ?_)
      · have hlt : m + 1 < ks.length := by have := of_decide_eq_true h; omega
        have e4 : ((m + 1 : Nat) : Int) - 1 = (m : Int) := by omega
        repeat (first | (refine wkB ?_; try intro _) | (refine sC rfl rfl ?_ ?_; focus (exact ⟨by omega, by omega⟩)) | (refine sN rfl rfl ?_ ?_; (focus (exact ⟨by omega, by omega⟩)); intro _; (try simp only [List.cons_append, List.nil_append, List.append_nil])))
        (refine j_phases [([0, 1, 2, 3, 4, 5, 6, 7, 8, 9], [])] ([]) (h := ?_); refine wkP ?_)
        (repeat (first | refine wkH ?_ | (refine tC rfl rfl ?_ ?_; focus (exact ⟨by omega, by omega⟩))))
        simp only [e4]
        (repeat (first | refine wkH ?_ | (refine tC rfl rfl ?_ ?_; focus (exact ⟨by omega, by omega⟩))))
        repeat (refine wkT ?_; try intro _)
        by_cases hle : gi ks ((m + 1 : Nat) : Int) ≤ gi ks (m : Int)
        · have hir : ∀ d, ir ks (m + 1 + d) = false := fun d => by
            induction d with
            | zero => rw [Nat.add_zero, ir, decide_eq_false (by omega), Bool.and_false]
            | succ d ih => rw [← Nat.add_assoc, ir, ih, Bool.false_and]
          have hr : rgt n ks = false := by
            unfold rgt
            rw [show ks.length - 1 = m + 1 + (ks.length - 1 - (m + 1)) by omega, hir, Bool.and_false]
          rw [hr]
          simp only [decide_eq_true hle]
          repeat (refine wkB ?_; try intro _)
          exact jx_ret_tmp rfl rfl (fun w hw => ret_ok hw)
        · simp only [decide_eq_false hle]
          repeat (refine wkB ?_; try intro _)
          exact jx_loop (m + 1) ⟨by omega, by rw [ir, hm2, decide_eq_true (by omega)]; rfl⟩ sbB slB (by omega)
      · have hge : ks.length - 1 = m := by have := of_decide_eq_false h; omega
        have hr : rgt n ks = true := by
          unfold rgt
          rw [decide_eq_true h0, decide_eq_true h1, hge, hm2, decide_eq_true hne]
          rfl
        rw [hr]
        repeat (refine wkB ?_; try intro _)
        exact jx_ret_tmp rfl rfl (fun w hw => ret_ok hw)
    · have hr : rgt n ks = false := by
        unfold rgt
        rw [decide_eq_false h1, Bool.and_false, Bool.false_and]
      rw [hr]
      simp only [decide_eq_false h1, Bool.not_false]
      repeat (refine wkB ?_; try intro _)
      exact jx_ret_tmp rfl rfl (fun w hw => ret_ok hw)
  · have hr : rgt n ks = false := by
      unfold rgt
      rw [decide_eq_false h0, Bool.and_false, Bool.false_and, Bool.false_and]
    rw [hr]
    simp only [decide_eq_false h0, Bool.not_false]
    (repeat (first | refine wkH ?_ | (refine tC rfl rfl ?_ ?_; focus (exact ⟨by omega, by omega⟩))))
    repeat (refine wkT ?_; try intro _)
    repeat (refine wkB ?_; try intro _)
    exact jx_ret_tmp rfl rfl (fun w hw => ret_ok hw)
theorem ArgS.own {w0 w : World} {L : List Blk} {b c : Nat} {ks : List Int} {sp : List Value} {T : TypeId} (h : AtC w0 L b (row (eI .i64) ks sp) T) (hw : Own w0 L w) (hc : ks.length ≤ c) : ArgS w (vL b ks c) (eI .i64) ks := by
  obtain ⟨fz, hb⟩ := h.out w hw
  refine ⟨.inr ⟨⟨b, 0, none⟩, c, rfl, hc, fun i f k u hi hk hu => ?_⟩⟩
  rw [addr_add, cell_block hb]
  obtain rfl : k = 1 := by rw [← hk ks[i]]; rfl
  have hf : f < 1 := by
    rcases Nat.lt_or_ge f 1 with h1 | h1
    · exact h1
    · rw [Array.getElem?_eq_none (by rw [hk]; exact h1)] at hu
      cases hu
  rw [Nat.zero_add, row_get ks sp i f hi hf]
  exact hu
instance sm_right (w0 : World) (L : List Blk) (I : R_api_Interval) (b n c : Nat) (ks : List Int) (v : Value) [h : ArgC w0 v Int (eI .i64) ks] : SpecM Tryz.prog w0 L 116 [vRun I b n c, v] (.bool (rgt n ks)) ((1 ≤ n ∧ n ≤ 1099511627776) ∧ ks.length ≤ 9223372036854775807) := ⟨fun hp w hw => right_spec I b n c ks v hp.1 hp.2 w (h.out.to hw.ext)⟩
theorem ir_lt {ks : List Int} : ∀ d, ir ks d = true → ∀ m, m < d → gi ks (m : Int) < gi ks ((m + 1 : Nat) : Int)
  | 0, _, m, hm => by omega
  | d + 1, h, m, hm => by
    rw [ir, Bool.and_eq_true, decide_eq_true_eq] at h
    rcases (by omega : m < d ∨ m = d) with h1 | rfl
    · exact ir_lt d h.1 m h1
    · exact h.2
theorem ir_mono {ks : List Int} {d : Nat} (h : ir ks d = true) : ∀ e m, m + e ≤ d → gi ks (m : Int) ≤ gi ks ((m + e : Nat) : Int)
  | 0, m, _ => Int.le_refl _
  | e + 1, m, hm => by
    have h1 := ir_mono h e m (by omega)
    have h2 := ir_lt d h (m + e) (by omega)
    rw [← Nat.add_assoc]
    omega
theorem rgt_spec {n : Nat} {ks : List Int} (h : rgt n ks = true) : ks ≠ [] ∧ gi ks 0 = 0 ∧ gi ks ((ks.length : Int) - 1) = (n : Int) - 1 ∧ ∀ m, m + 1 < ks.length → 0 ≤ gi ks (m : Int) ∧ gi ks (m : Int) < gi ks ((m + 1 : Nat) : Int) ∧ gi ks ((m + 1 : Nat) : Int) < n := by
  unfold rgt at h
  simp only [Bool.and_eq_true, decide_eq_true_eq] at h
  obtain ⟨⟨⟨h1, h2⟩, h3⟩, h4⟩ := h
  refine ⟨h1, h2, h3, fun m hm => ?_⟩
  have g1 := ir_mono h4 m 0 (by omega)
  have g2 := ir_lt _ h4 m (by omega)
  have g3 := ir_mono h4 (ks.length - 1 - (m + 1)) (m + 1) (by omega)
  rw [show (m + 1 + (ks.length - 1 - (m + 1)) : Nat) = ks.length - 1 by omega, show ((ks.length - 1 : Nat) : Int) = (ks.length : Int) - 1 by omega, h3] at g3
  rw [Nat.zero_add] at g1
  have h2' : gi ks ((0 : Nat) : Int) = 0 := h2
  omega
def kp (pts : List R_movingpoint_Sample) (ks : List Int) : Nat → List R_movingpoint_Sample
  | 0 => []
  | m + 1 => kp pts ks m ++ [gi pts (gi ks (m : Int))]
theorem kp_len (pts : List R_movingpoint_Sample) (ks : List Int) : ∀ m, (kp pts ks m).length = m
  | 0 => rfl
  | m + 1 => by rw [kp, List.length_append, kp_len pts ks m]; rfl
theorem keep_spec (I : R_api_Interval) (b n c : Nat) (pts : List R_movingpoint_Sample) (sp : List Value) (T : TypeId) (ks : List Int) (v : Value) (hr : RunOk pts n c) (hn : 1 ≤ n) (hks : ks.length ≤ 1048576) (hrg : rgt n ks = true) (w : World) (hw : ∃ fz, w.heap[b]? = some (.cells (row rS pts sp) T fz)) (hv : ArgS w v (eI .i64) ks) :
    Calls Tryz.prog 79 [vRun I b n c, v].toArray w (RetM { s : Nat × Nat × List Value // ks.length ≤ s.2.1 } (fun s => .tuple #[vRun I s.1.1 ks.length s.1.2.1, .int .i64 0]) (fun s => [⟨s.1.1, row rS (kp pts ks ks.length) s.1.2.2, 47⟩]) w) := by
  have := FoC.mk hw
  have := ArgC.mk hv
  have hr2 := hr.2.2.1
  obtain ⟨hne, h0, hl1, hinc⟩ := rgt_spec hrg
  have hlp : 0 < ks.length := List.length_pos_iff.2 hne
  obtain ⟨bw, ow, cw, hvw, hcw, hrow⟩ := hv.blk (k := 0) hne []
  subst hvw
  have hrow' : ∀ L, RowC w L bw ow Int (eI .i64) ks := fun L => ⟨fun w' hw' => hrow.out w' (hw'.sub (List.nil_sublist _))⟩
  refine fn_intro Tryz.func79 rfl Tryz.ntmps79 rfl ?_
  repeat (first | (refine wkB ?_; try intro _) | (refine sC rfl rfl ?_ ?_; focus (exact ⟨⟨hn, hr2⟩, by omega⟩)) | (refine sN rfl rfl ?_ ?_; (focus (exact ⟨⟨hn, hr2⟩, by omega⟩)); intro _; (try simp only [List.cons_append, List.nil_append, List.append_nil])))
  simp only [hrg, Bool.not_true]
  repeat (refine wkB ?_; try intro _)
  rename_i b2 b4 b6
  refine j_loop (S := Nat × Option (Nat × Nat × List Value)) (fun s => s.1 ≤ ks.length ∧ (s.2 = none ↔ s.1 = 0) ∧ ∀ t, s.2 = some t → s.1 ≤ t.2.1 ∧ t.2.2.length = (t.2.1 - s.1) * 12) (fun s => [(17, .slice (some ⟨bw, ow, none⟩) ks.length cw), (18, .int .i64 (ks.length : Nat)), (19, .int .i64 (s.1 : Nat)), (2, .pointer (some ⟨b2, 0, none⟩)), (4, .pointer (some ⟨b4, 0, none⟩)), (6, .pointer (some ⟨b6, 0, none⟩))])
    (fun s => mSl 47 (kp pts ks s.1) s.2 ++ [⟨b6, e_simplify_Run (q_simplify_Run ⟨I, hSl (kp pts ks s.1).length s.2⟩), 35⟩, ⟨b4, e_simplify_Run (q_simplify_Run zR_simplify_Run), 35⟩, ⟨b2, cRun I b n c, 35⟩]) (fun s => ks.length - s.1) (0, none)
    ⟨Nat.zero_le _, by simp, by simp⟩ sbB slB (fun s hs => ?_)
  obtain ⟨m, og⟩ := s
  obtain ⟨hm1, hog, hogs⟩ := hs
  simp only at hm1 hog hogs ⊢
  repeat (refine wkB ?_; try intro _)
  refine j_cond rfl (fun h => ?_) (fun h => ?_)
  · have hlt : m < ks.length := by have := of_decide_eq_true h; omega
    have hk : 0 ≤ gi ks (m : Int) ∧ gi ks (m : Int) < n := by
      cases m with
      | zero => exact ⟨by rw [show gi ks ((0 : Nat) : Int) = 0 from h0]; exact Int.le_refl _, by rw [show gi ks ((0 : Nat) : Int) = 0 from h0]; omega⟩
      | succ m => have := hinc m hlt; omega
    have hkl : (gi ks (m : Int)).toNat < pts.length := by rw [hr.1]; omega
    have elen : (kp pts ks m).length + 1 = (kp pts ks (m + 1)).length := by rw [kp_len, kp_len]
    have hpl := kp_len pts ks m
    rcases og with _ | ⟨bo, co, so⟩
    · have hm0 := hog.1 rfl
      subst hm0
      simp only [mSl, hSl, List.nil_append]
      repeat (first | (refine wkB ?_; try intro _) | (refine sC rfl rfl ?_ ?_; focus (exact ⟨by omega, by omega⟩)) | (refine sN rfl rfl ?_ ?_; (focus (exact ⟨by omega, by omega⟩)); intro _; (try simp only [List.cons_append, List.nil_append, List.append_nil])))
      (refine j_late2 [0, 1, 2, 3, 4, 5, 6] [7, 8] [9, 10] ([⟨b6, e_simplify_Run (q_simplify_Run ⟨I, ⟨none, 0, 0⟩⟩), 35⟩, ⟨b2, cRun I b n c, 35⟩]) (h := ?_); refine wkI ?_)
      (repeat (first | refine wkH ?_ | (refine tC rfl rfl ?_ ?_; focus (exact ⟨by omega, by omega⟩))))
      refine jh_nil ?_
      refine eB rfl rfl ?_
      intro bN
      refine eP0 rfl rfl ?_ rfl ?_ ?_
      · rfl
      · exact ⟨by omega, by omega, by omega⟩
      intro b' c' sp' h1 h2
      refine eX rfl rfl ?_
      refine eF rfl ?_
      refine je_nil ?_
      repeat (first | (refine wkB ?_; try intro _) | (refine sC rfl rfl ?_ ?_; focus (exact ⟨by omega, by omega⟩)) | (refine sN rfl rfl ?_ ?_; (focus (exact ⟨by omega, by omega⟩)); intro _; (try simp only [List.cons_append, List.nil_append, List.append_nil])))
      exact jx_loop (1, some (b', c', sp')) ⟨by omega, by simp, fun t ht => by injection ht with ht; subst ht; exact ⟨h1, h2⟩⟩ sbB (by simp only [mSl, hSl, List.cons_append, List.nil_append]; exact slB) (by simp only; omega)
    · have hsp := hogs _ rfl
      simp only [mSl, hSl, List.cons_append, List.nil_append] at hsp ⊢
      repeat (first | (refine wkB ?_; try intro _) | (refine sC rfl rfl ?_ ?_; focus (exact ⟨by omega, by omega⟩)) | (refine sN rfl rfl ?_ ?_; (focus (exact ⟨by omega, by omega⟩)); intro _; (try simp only [List.cons_append, List.nil_append, List.append_nil])))
      (refine j_late2 [0, 1, 2, 3, 4, 5, 6] [7, 8] [9, 10] ([⟨b6, e_simplify_Run (q_simplify_Run ⟨I, ⟨some ⟨bo, 0, none⟩, (kp pts ks m).length, co⟩⟩), 35⟩, ⟨b2, cRun I b n c, 35⟩]) (h := ?_); refine wkI ?_)
      (repeat (first | refine wkH ?_ | (refine tC rfl rfl ?_ ?_; focus (exact ⟨by omega, by omega⟩))))
      refine jh_nil ?_
      refine eB rfl rfl ?_
      intro bN
      refine eP rfl rfl ?_ ?_ ?_ ?_ ?_
      · rfl
      · rw [hpl]; exact hsp
      · rfl
      · exact ⟨by omega, by omega⟩
      intro b' c' sp' h1 h2
      rw [elen]
      refine eX rfl rfl ?_
      refine eF rfl ?_
      refine je_nil ?_
      repeat (first | (refine wkB ?_; try intro _) | (refine sC rfl rfl ?_ ?_; focus (exact ⟨by omega, by omega⟩)) | (refine sN rfl rfl ?_ ?_; (focus (exact ⟨by omega, by omega⟩)); intro _; (try simp only [List.cons_append, List.nil_append, List.append_nil])))
      exact jx_loop (m + 1, some (b', c', sp')) ⟨by omega, by simp, fun t ht => by injection ht with ht; subst ht; rw [hpl] at h1 h2; exact ⟨h1, h2⟩⟩ sbB (by simp only [mSl, hSl, List.cons_append, List.nil_append]; exact slB) (by simp only; omega)
  · have hge : m = ks.length := by have := of_decide_eq_false h; omega
    subst hge
    rcases og with _ | ⟨bo, co, so⟩
    · have := hog.1 rfl
      omega
    · have hsp := hogs _ rfl
      simp only [mSl, hSl, List.cons_append, List.nil_append] at hsp ⊢
      repeat (refine wkB ?_; try intro _)
      exact jx_ret_two rfl (wr_cell rfl) (resv_tmp rfl) (fun w hw => ⟨⟨(bo, co, so), hsp.1⟩, by rw [kp_len], hw.sub slB⟩)
abbrev SK3 (ks : List Int) := { s : Nat × Nat × List Value // ks.length ≤ s.2.1 }
/-- A list has room. -/
class CapC (ks : List Int) (c : Nat) : Prop where out : ks.length ≤ c
instance lstKs (w0 : World) (L : List Blk) (b c : Nat) (ks : List Int) (sp : List Value) (T : TypeId) [h : AtC w0 L b (row (eI .i64) ks sp) T] [hc : CapC ks c] : LstC w0 L (vL b ks c) Int (eI .i64) ks := ⟨fun w hw => ArgS.own h hw hc.out⟩
instance sr_Keep (w0 : World) (L : List Blk) (I : R_api_Interval) (b n c : Nat) (pts : List R_movingpoint_Sample) (sp : List Value) (T : TypeId) (ks : List Int) (v : Value) [h : AtC w0 L b (row rS pts sp) T] [hv : LstC w0 L v Int (eI .i64) ks] : SpecR Tryz.prog w0 L 79 [vRun I b n c, v] (SK3 ks) (fun s => .tuple #[vRun I s.1.1 ks.length s.1.2.1, .int .i64 0]) (fun s => [⟨s.1.1, row rS (kp pts ks ks.length) s.1.2.2, 47⟩]) (RunOk pts n c ∧ 1 ≤ n ∧ ks.length ≤ 1048576 ∧ rgt n ks = true) := ⟨fun hp w hw =>
  keep_spec I b n c pts sp T ks v hp.1 hp.2.1 hp.2.2.1 hp.2.2.2 w (h.out w hw) (hv.out w hw)⟩
end Go.Vt
