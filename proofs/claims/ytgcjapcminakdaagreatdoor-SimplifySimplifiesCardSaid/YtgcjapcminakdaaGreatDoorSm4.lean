/- SimplifySimplifies holds for every input that the card takes. Conditions: none. (part 4 of 6.) Conditions: those that each statement names. -/
import Derived.Test.YtgcjapcminakdaaGreatDoorSm3
/- The normal form of units of lines, walked. Conditions: those that each statement names. -/
set_option linter.unusedSimpArgs false
set_option linter.unusedVariables false
set_option maxHeartbeats 2000000
set_option maxRecDepth 100000
namespace Go.Vt
open Go.RowKit Go.Proofs
abbrev KN : Nat := 1073741824
/-- The coefficients are short. -/
structure LnOk (K : Nat) (f : R_api_Line) : Prop where
  x0 : M f.X0 ≤ K
  x1 : M f.X1 ≤ K
  y0 : M f.Y0 ≤ K
  y1 : M f.Y1 ≤ K
structure UOk (u : UL) : Prop where
  i : IvOk KN u.In
  f : LnOk BQ u.F
structure UIn (u : UL) : Prop where
  i : IvOk KN u.In
  f : LnOk KN u.F
/-- Does the last unit end here, and is it longer than one instant? -/
def bef (xs : List UL) (t : R_api_Real) : Bool := decide (0 < xs.length) && (decide ((lstU xs).In.To = t) && !decide ((lstU xs).In.From = (lstU xs).In.To))
def smL (f g : R_api_Line) (t : Rat) : Bool := qsame (lnX f) (lnX g) t && qsame (lnY f) (lnY g) t
/-- The last unit is turned. -/
def turn (xs : List UL) (u : UL) : List UL := xs.set (xs.length - 1) u
def isI (u : UL) : Bool := decide (u.In.From = u.In.To)
/-- May the last unit be longer? -/
def cA (xs : List UL) (x : UL) : Bool := bef xs x.In.From && (!(lstU xs).In.OpenTo && decide ((lstU xs).F = x.F))
/-- Does the instant before belong to this unit? -/
def cB (l : List UL) (i : Nat) (xs : List UL) (x : UL) : Bool := decide (0 < i) && (isI (gi l ((i : Int) - 1)) && (decide ((gi l ((i : Int) - 1)).In.From = x.In.From) && !hld xs x.In.From))
def cC (xs : List UL) (x : UL) : Bool := bef xs x.In.From && smL (lstU xs).F x.F x.In.From.P
def cD (l : List UL) (i : Nat) (x : UL) : Bool := decide (i + 1 < l.length) && (decide ((gi l ((i : Int) + 1)).In.From = x.In.From) && smL (gi l ((i : Int) + 1)).F x.F x.In.From.P)
/-- The last unit, longer. -/
def ext (u x : UL) : UL := ⟨⟨u.In.From, x.In.To, u.In.OpenFrom, true⟩, u.F⟩
def clo (u : UL) : UL := ⟨⟨u.In.From, u.In.To, u.In.OpenFrom, false⟩, u.F⟩
def opF (x : UL) : UL := ⟨⟨x.In.From, x.In.To, false, x.In.OpenTo⟩, x.F⟩
def redU (x : UL) : UL := ⟨x.In, lred x.F x.In.From.P⟩
/-- One part more. -/
def nstp (l : List UL) (i : Nat) (xs : List UL) (x : UL) : List UL :=
  if isI x = false then
    if cA xs x = true then turn xs (ext (lstU xs) x) else xs ++ [if cB l i xs x = true then opF x else x]
  else if cC xs x = true then turn xs (clo (lstU xs))
  else if cD l i x = true then xs else xs ++ [redU x]
def nrm (l : List UL) : Nat → List UL
  | 0 => []
  | i + 1 => nstp l i (nrm l i) (gi l (i : Int))
/-- Are the first units apart? -/
def aprN (l : List UL) : Nat → Bool
  | 0 => true
  | m + 1 => aprN l m && !(decide (0 < m) && !aprt (gi l ((m : Int) - 1)).In (gi l (m : Int)).In)
def allU (us : List UL) : List UL := atm (sor us) (sor us).length
def nrmR (us : List UL) : List UL := if aprN (sor us) (sor us).length = true then nrm (allU us) (allU us).length else []
def nrmE (us : List UL) : Int := if aprN (sor us) (sor us).length = true then 0 else 11
theorem IvOk.at {K : Nat} {I : R_api_Interval} (h : IvOk K I) (o c : Bool) : IvOk K ⟨I.From, I.To, o, c⟩ := ⟨h.r1, h.r2, h.n1, h.n2, h.m1, h.m2⟩
theorem lred_ok {f : R_api_Line} {t : Rat} (h : LnOk KN f) (ht : M t ≤ KN) : LnOk BQ (lred f t) := by
  have := MB.mk h.x0
  have := MB.mk h.x1
  have := MB.mk h.y0
  have := MB.mk h.y1
  have := MB.mk ht
  unfold lred
  exact ⟨MB.lt rfl, MB.lt rfl, MB.lt rfl, MB.lt rfl⟩
theorem LnOk.mono {K K' : Nat} {f : R_api_Line} (h : LnOk K f) (hk : K ≤ K') : LnOk K' f := ⟨Nat.le_trans h.x0 hk, Nat.le_trans h.x1 hk, Nat.le_trans h.y0 hk, Nat.le_trans h.y1 hk⟩
theorem UIn.ok {u : UL} (h : UIn u) : UOk u := ⟨h.i, h.f.mono (by decide)⟩
theorem gi_mem {α : Type} [Inhabited α] {xs : List α} {i : Int} (h : i.toNat < xs.length) : gi xs i ∈ xs := by
  rw [gi_eq h]
  exact List.getElem_mem _
theorem turn_ok {xs : List UL} {u : UL} (h : ∀ v ∈ xs, UOk v) (hu : UOk u) : ∀ v ∈ turn xs u, UOk v := fun v hv => by
  rcases List.mem_or_eq_of_mem_set hv with h1 | h1
  · exact h v h1
  · rw [h1]; exact hu
theorem bef_len {xs : List UL} {t : R_api_Real} (h : bef xs t = true) : 0 < xs.length := by
  unfold bef at h
  simp only [Bool.and_eq_true, decide_eq_true_eq] at h
  exact h.1
theorem lst_ok {xs : List UL} (h : ∀ v ∈ xs, UOk v) (h0 : 0 < xs.length) : UOk (lstU xs) := h _ (gi_mem (by omega))
theorem nstp_ok {l : List UL} {i : Nat} {xs : List UL} {x : UL} (h : ∀ v ∈ xs, UOk v) (hx : UIn x) : ∀ v ∈ nstp l i xs x, UOk v := by
  unfold nstp
  split
  · split
    · rename_i hc
      have h0 : 0 < xs.length := by
        unfold cA at hc
        simp only [Bool.and_eq_true] at hc
        exact bef_len hc.1
      have hl := lst_ok h h0
      exact turn_ok h ⟨⟨hl.i.r1, hx.i.r2, hl.i.n1, hx.i.n2, hl.i.m1, hx.i.m2⟩, hl.f⟩
    · intro v hv
      rcases List.mem_append.1 hv with h1 | h1
      · exact h v h1
      · rw [List.mem_singleton] at h1
        subst h1
        split
        · exact ⟨hx.i.at _ _, hx.ok.f⟩
        · exact hx.ok
  · split
    · rename_i hc
      have h0 : 0 < xs.length := by
        unfold cC at hc
        simp only [Bool.and_eq_true] at hc
        exact bef_len hc.1
      have hl := lst_ok h h0
      exact turn_ok h ⟨hl.i.at _ _, hl.f⟩
    · split
      · exact h
      · intro v hv
        rcases List.mem_append.1 hv with h1 | h1
        · exact h v h1
        · rw [List.mem_singleton] at h1
          subst h1
          exact ⟨hx.i, lred_ok hx.f hx.i.m1⟩
theorem nrm_ok {l : List UL} (h : ∀ u ∈ l, UIn u) : ∀ m, m ≤ l.length → ∀ v ∈ nrm l m, UOk v
  | 0, _ => fun v hv => by cases hv
  | m + 1, hm => nstp_ok (nrm_ok h m (by omega)) (h _ (gi_mem (by omega)))
theorem nstp_len (l : List UL) (i : Nat) (xs : List UL) (x : UL) : (nstp l i xs x).length ≤ xs.length + 1 := by
  unfold nstp turn
  split
  · split <;> simp
  · split
    · simp
    · split <;> simp
theorem nrm_len (l : List UL) : ∀ m, (nrm l m).length ≤ m
  | 0 => Nat.le_refl _
  | m + 1 => by
    have := nrm_len l m
    have := nstp_len l m (nrm l m) (gi l (m : Int))
    rw [nrm]
    omega
theorem sor_len (us : List UL) : (sor us).length = us.length := srt_len us _
theorem sor_mem {us : List UL} {u : UL} (h : u ∈ sor us) : u ∈ us := by
  rcases Nat.eq_zero_or_pos us.length with h0 | h0
  · have h1 := sor_len us
    rw [h0] at h1
    rw [List.length_eq_zero_iff.1 h1] at h
    cases h
  · exact srt_mem us _ (by omega) u h
theorem atU_ok {u v : UL} (h : UIn u) (hv : v ∈ atU u) : UIn v := by
  unfold atU at hv
  have e1 : IvOk KN ⟨u.In.From, u.In.From, false, false⟩ := ⟨h.i.r1, h.i.r1, h.i.n1, h.i.n1, h.i.m1, h.i.m1⟩
  have e2 : IvOk KN ⟨u.In.To, u.In.To, false, false⟩ := ⟨h.i.r2, h.i.r2, h.i.n2, h.i.n2, h.i.m2, h.i.m2⟩
  rcases List.mem_append.1 hv with h1 | h1
  · split at h1
    · cases h1
    · rw [List.mem_singleton] at h1
      subst h1
      exact ⟨e1, h.f⟩
  · split at h1
    · cases h1
    · rcases List.mem_cons.1 h1 with h2 | h2
      · subst h2
        exact ⟨h.i.at _ _, h.f⟩
      · split at h2
        · cases h2
        · rw [List.mem_singleton] at h2
          subst h2
          exact ⟨e2, h.f⟩
theorem atm_ok {us : List UL} (h : ∀ u ∈ us, UIn u) : ∀ m, m ≤ us.length → ∀ v ∈ atm us m, UIn v
  | 0, _, v, hv => by cases hv
  | m + 1, hm, v, hv => by
    rw [atm] at hv
    rcases List.mem_append.1 hv with h1 | h1
    · exact atm_ok h m (by omega) v h1
    · exact atU_ok (h _ (gi_mem (by omega))) h1
theorem aprN_mono {l : List UL} {m : Nat} (h : aprN l m = false) : ∀ n, m ≤ n → aprN l n = false := fun n hn => by
  induction n with
  | zero => rw [show m = 0 by omega] at h; exact h
  | succ n ih =>
    rcases (by omega : m = n + 1 ∨ m ≤ n) with h1 | h1
    · rw [← h1]; exact h
    · rw [aprN, ih h1]; rfl
theorem SlS.turn {α : Type} {enc : α → Array Value} {k : Nat} {xs ys : List α} (T : TypeId) (h : xs = ys) (s : SlS enc k xs) : ∃ s' : SlS enc k ys, vSl s' = vSl s ∧ mS T s' = mS T s := by
  subst h
  exact ⟨s, rfl, rfl⟩
theorem SlS.put {α : Type} {enc : α → Array Value} {k n b c : Nat} {ys : List α} {sp : List Value} (T : TypeId) (hn : ys.length = n) (h : n ≤ c ∧ sp.length = (c - n) * k) (h0 : 0 < n) : ∃ s' : SlS enc k ys, vSl s' = .slice (some ⟨b, 0, none⟩) n c ∧ mS T s' = [⟨b, row enc ys sp, T⟩] := by
  subst hn
  exact ⟨SlS.at_ b c sp h (fun h1 => by rw [h1] at h0; simp at h0), rfl, rfl⟩
theorem turn_len (xs : List UL) (u : UL) : (turn xs u).length = xs.length := by simp [turn]
set_option maxHeartbeats 2000000 in
theorem pnormal_spec (v : Value) (us : List UL) (w : World) (hv : ArgS w v rU us) (hn : us = [] → v = .slice none 0 0) (hl : us.length ≤ 19) (hok : ∀ u ∈ us, UIn u) :
    Calls Tryz.prog 96 [vLines, v].toArray w (RetM (SlS rU 36 (nrmR us)) (fun s => .tuple #[vSl s, .int .i64 (nrmE us)]) (fun s => mS 163 s) w) := by
  have hN : ∀ L, LstN w L v UL rU us := fun L => ⟨fun w' hw' => hv.to hw'.ext, hn⟩
  have hsl := sor_len us
  have hso : ∀ u ∈ sor us, UIn u := fun u hu => hok u (sor_mem hu)
  refine fn_intro Tryz.func96 rfl Tryz.ntmps96 rfl ?_
  repeat (first | (refine wkB ?_; try intro _) | (refine sC rfl rfl ?_ ?_; focus (exact ⟨hl, fun u hu => (hok u hu).i.mono (by decide)⟩)) | (refine sN rfl rfl ?_ ?_; (focus (exact ⟨hl, fun u hu => (hok u hu).i.mono (by decide)⟩)); intro _; (try simp only [List.cons_append, List.nil_append, List.append_nil])))
  rename_i s1
  refine j_loop (S := Nat) (fun m => m ≤ (sor us).length ∧ aprN (sor us) m = true) (fun m => [(0, vLines), (1, vSl s1), (17, .int .i64 (sor us).length), (18, .int .i64 (m : Nat))]) (fun _ => mS 163 s1) (fun m => (sor us).length - m) 0
    ⟨Nat.zero_le _, rfl⟩ sbB suB (fun m hm => ?_)
  obtain ⟨hm, ham⟩ := hm
  repeat (refine wkB ?_; try intro _)
  refine j_cond rfl (fun h => ?_) (fun h => ?_)
  · have hlt : m < (sor us).length := by have := of_decide_eq_true h; omega
    rcases s1.cases 163 with ⟨h0, -, -⟩ | ⟨b1, c1, sp1, h1, hv1, hm1, hne⟩
    · rw [h0] at hlt; simp at hlt
    rw [hv1, hm1]
    have hap : aprN (sor us) (m + 1) = !(decide (0 < m) && !aprt (gi (sor us) ((m : Int) - 1)).In (gi (sor us) (m : Int)).In) := by rw [aprN, ham, Bool.true_and]
    have o1 := hso _ (gi_mem (i := (m : Int)) (by omega))
    repeat (refine wkB ?_; try intro _)
    rcases m with _ | m
    · (refine jD 17 17 (h := ?_); (repeat (refine wkH ?_)); refine jh_nil ?_; (repeat (refine wn_new ?_; intro _)); refine jn_nil ?_)
      repeat (first | (refine wkB ?_; try intro _) | (refine sC rfl rfl ?_ ?_; focus (exact ⟨by omega, by omega⟩)) | (refine sN rfl rfl ?_ ?_; (focus (exact ⟨by omega, by omega⟩)); intro _; (try simp only [List.cons_append, List.nil_append, List.append_nil])))
      exact jx_loop 1 ⟨hlt, by rw [hap]; rfl⟩ sbB suB (by omega)
    · have e1 : ((m + 1 : Nat) : Int) - 1 = (m : Int) := by omega
      have o2 := hso _ (gi_mem (i := (m : Int)) (by omega))
      rw [e1, decide_eq_true (show 0 < m + 1 by omega), Bool.true_and, Bool.not_not] at hap
      refine jD 17 17 (h := ?_)
      (repeat (refine wkH ?_))
      simp only [decide_eq_true (show (0 : Int) < ((m + 1 : Nat) : Int) by omega), e1]
      (repeat (refine wkH ?_))
      simp only [e1]
      (repeat (first | refine wkH ?_ | (refine tC rfl rfl ?_ ?_; focus (exact ⟨⟨o2.i.r2, o1.i.r1⟩, Nat.le_trans o2.i.m2 (by decide), Nat.le_trans o1.i.m1 (by decide)⟩))))
      refine jh_nil ?_
      refine jn_nil ?_
      repeat (refine wkB ?_; try intro _)
      rcases ha : aprt (gi (sor us) (m : Int)).In (gi (sor us) ((m + 1 : Nat) : Int)).In with _ | _
      · rw [ha] at hap
        repeat (refine wkB ?_; try intro _)
        have hf := aprN_mono hap (sor us).length hlt
        obtain ⟨s0, hs1, hs2⟩ := SlS.turn (enc := rU) (k := 36) 163 (show ([] : List UL) = nrmR us by unfold nrmR; rw [hf, if_neg (by decide)]) SlS.no
        have he : nrmE us = 11 := by unfold nrmE; rw [hf, if_neg (by decide)]
        exact jx_ret_two rfl (resv_tmp rfl) (resv_tmp rfl) (fun w hw => ⟨s0, by dsimp only; rw [hs1, he]; rfl, by dsimp only; rw [hs2]; exact hw.sub (List.nil_sublist _)⟩)
      · rw [ha] at hap
        repeat (first | (refine wkB ?_; try intro _) | (refine sC rfl rfl ?_ ?_; focus (exact ⟨by omega, by omega⟩)) | (refine sN rfl rfl ?_ ?_; (focus (exact ⟨by omega, by omega⟩)); intro _; (try simp only [List.cons_append, List.nil_append, List.append_nil])))
        exact jx_loop (m + 2) ⟨hlt, hap⟩ sbB suB (by omega)
  · have hge : m = (sor us).length := by have := of_decide_eq_false h; omega
    subst hge
    repeat (first | (refine wkB ?_; try intro _) | (refine sC rfl rfl ?_ ?_; focus (omega)) | (refine sN rfl rfl ?_ ?_; (focus (omega)); intro _; (try simp only [List.cons_append, List.nil_append, List.append_nil])))
    rename_i s8
    have hao : ∀ u ∈ atm (sor us) (sor us).length, UIn u := atm_ok hso _ (Nat.le_refl _)
    have hall := atm_len (sor us) (sor us).length
    have hR : nrmR us = nrm (atm (sor us) (sor us).length) (atm (sor us) (sor us).length).length := by unfold nrmR allU; rw [ham, if_pos rfl]
    have hE : nrmE us = 0 := by unfold nrmE; rw [ham, if_pos rfl]
    generalize atm (sor us) (sor us).length = al at *
    refine j_loop (S := (xs : List UL) × Nat × SlS rU 36 xs) (fun s => s.2.1 ≤ al.length ∧ s.1 = nrm al s.2.1) (fun s => [(0, vLines), (7, vSl s.2.2), (8, vSl s8), (41, vSl s8), (42, .int .i64 al.length), (43, .int .i64 (s.2.1 : Nat))]) (fun s => mS 163 s.2.2 ++ mS 163 s8) (fun s => al.length - s.2.1) ⟨[], 0, SlS.no⟩
      ⟨Nat.zero_le _, rfl⟩ sbB suB (fun s hs => ?_)
    obtain ⟨xs, i, s⟩ := s
    obtain ⟨hi, hxs⟩ := hs
    simp only at hi hxs ⊢
    repeat (refine wkB ?_; try intro _)
    refine j_cond rfl (fun h => ?_) (fun h => ?_)
    · have hlt : i < al.length := by have := of_decide_eq_true h; omega
      rcases s8.cases 163 with ⟨h0, -, -⟩ | ⟨b8, c8, sp8, h1, hv8, hm8, hne⟩
      · rw [h0] at hlt; simp at hlt
      rw [hv8, hm8]
      have hx0 := hao _ (gi_mem (i := (i : Int)) (by omega))
      have hnx : nrm al (i + 1) = nstp al i xs (gi al (i : Int)) := by rw [nrm, hxs]
      have hxo := nrm_ok hao i (by omega)
      have hxl := nrm_len al i
      rw [← hxs] at hxo hxl
      repeat (refine wkB ?_; try intro _)
      rename_i b10 b11
      obtain ⟨x, hx⟩ : ∃ x, x = gi al (i : Int) := ⟨_, rfl⟩
      simp only [← hx] at hx0 hnx ⊢
      refine j_permL (mS 163 s ++ [⟨b11, e_api_Real (q_api_Real x.In.From), 30⟩, ⟨b10, rU x, 163⟩, ⟨b8, row rU al sp8, 163⟩]) ((List.perm_middle.trans (List.perm_middle.cons _)).symm) ?_
      refine j_cut (S := Bool) (fun v => v = bef xs x.In.From) (fun v => [(75, .bool v), (0, vLines), (7, vSl s), (8, .slice (some ⟨b8, 0, none⟩) al.length c8), (9, .int .i64 (i : Nat)), (10, .pointer (some ⟨b10, 0, none⟩)), (11, .pointer (some ⟨b11, 0, none⟩)), (12, .pointer none), (13, .int .i64 xs.length), (41, .slice (some ⟨b8, 0, none⟩) al.length c8), (42, .int .i64 al.length), (43, .int .i64 (i : Nat))]) (fun _ => mS 163 s ++ [⟨b11, e_api_Real (q_api_Real x.In.From), 30⟩, ⟨b10, rU x, 163⟩, ⟨b8, row rU al sp8, 163⟩]) ?_ (fun v hv3 => ?_)
      · rcases s.cases 163 with ⟨h0, -, -⟩ | ⟨bo, co, so, ho, hvo, hmo, hneo⟩
        · refine jD 23 23 (h := ?_)
          (repeat (refine wkH ?_))
          simp only [decide_eq_false (show ¬ (0 : Int) < (xs.length : Int) by rw [h0]; simp)]
          (repeat (refine wkH ?_))
          refine jh_nil ?_
          refine jn_nil ?_
          repeat (refine wkB ?_; try intro _)
          exact jx_mid false (by rw [h0]; rfl) sbB suB
        · have hpo : 0 < xs.length := by rcases xs with _ | ⟨a, xs⟩; exact absurd rfl hneo; simp
          rw [hvo, hmo]
          simp only [List.cons_append, List.nil_append]
          refine jD 23 23 (h := ?_)
          (repeat (refine wkH ?_))
          simp only [decide_eq_true (show (0 : Int) < (xs.length : Int) by omega)]
          (repeat (refine wkH ?_))
          rcases hto : decide ((lstU xs).In.To = x.In.From) with _ | _
          · (repeat (refine wkH ?_))
            refine jh_nil ?_
            refine jn_nil ?_
            repeat (refine wkB ?_; try intro _)
            exact jx_mid false (by unfold bef; rw [hto, Bool.false_and, Bool.and_false]) sbB suB
          · (repeat (refine wkH ?_))
            refine jh_nil ?_
            refine jn_nil ?_
            repeat (refine wkB ?_; try intro _)
            exact jx_mid (!decide ((lstU xs).In.From = (lstU xs).In.To)) (by unfold bef; rw [hto, decide_eq_true hpo, Bool.true_and, Bool.true_and]) sbB suB
      refine j_cut (S := Option Addr) (fun p => (bef xs x.In.From = false ∧ p = none) ∨ (bef xs x.In.From = true ∧ ∃ bo co so, (xs.length ≤ co ∧ so.length = (co - xs.length) * 36) ∧ vSl s = .slice (some ⟨bo, 0, none⟩) xs.length co ∧ mS 163 s = [⟨bo, row rU xs so, 163⟩] ∧ p = some ⟨bo, 0 + ((xs.length : Int) - 1).toNat * 36, none⟩)) (fun p => [(0, vLines), (7, vSl s), (8, .slice (some ⟨b8, 0, none⟩) al.length c8), (9, .int .i64 (i : Nat)), (10, .pointer (some ⟨b10, 0, none⟩)), (11, .pointer (some ⟨b11, 0, none⟩)), (12, .pointer p), (13, .int .i64 xs.length), (41, .slice (some ⟨b8, 0, none⟩) al.length c8), (42, .int .i64 al.length), (43, .int .i64 (i : Nat))]) (fun _ => mS 163 s ++ [⟨b11, e_api_Real (q_api_Real x.In.From), 30⟩, ⟨b10, rU x, 163⟩, ⟨b8, row rU al sp8, 163⟩]) ?_ (fun p hp => ?_)
      · subst hv3
        rcases hb : bef xs x.In.From with _ | _
        · repeat (refine wkB ?_; try intro _)
          exact jx_mid none (.inl ⟨rfl, rfl⟩) sbB suB
        · have hpo := bef_len hb
          rcases s.cases 163 with ⟨h0, -, -⟩ | ⟨bo, co, so, ho, hvo, hmo, hneo⟩
          · rw [h0] at hpo; simp at hpo
          rw [hvo, hmo]
          simp only [List.cons_append, List.nil_append]
          repeat (refine wkB ?_; try intro _)
          exact jx_mid (some ⟨bo, 0 + ((xs.length : Int) - 1).toNat * 36, none⟩) (.inr ⟨trivial, bo, co, so, ho, rfl, rfl, rfl⟩) sbB suB
      repeat (refine wkB ?_; try intro _)
      rcases hI : isI x with _ | _
      · have hI' : decide (x.In.From = x.In.To) = false := hI
        simp only [hI']
        repeat (refine wkB ?_; try intro _)
        refine j_cut (S := Bool) (fun v => v = cA xs x) (fun v => [(117, .bool v), (0, vLines), (7, vSl s), (8, .slice (some ⟨b8, 0, none⟩) al.length c8), (9, .int .i64 (i : Nat)), (10, .pointer (some ⟨b10, 0, none⟩)), (11, .pointer (some ⟨b11, 0, none⟩)), (12, .pointer p), (13, .int .i64 xs.length), (41, .slice (some ⟨b8, 0, none⟩) al.length c8), (42, .int .i64 al.length), (43, .int .i64 (i : Nat))]) (fun _ => mS 163 s ++ [⟨b11, e_api_Real (q_api_Real x.In.From), 30⟩, ⟨b10, rU x, 163⟩, ⟨b8, row rU al sp8, 163⟩]) ?_ (fun v hv4 => ?_)
        · rcases hp with ⟨hb, rfl⟩ | ⟨hb, bo, co, so, ho, hvo, hmo, rfl⟩
          · (refine jD 23 23 (h := ?_); (repeat (refine wkH ?_)); refine jh_nil ?_; (repeat (refine wn_new ?_; intro _)); refine jn_nil ?_)
            repeat (refine wkB ?_; try intro _)
            exact jx_mid false (by unfold cA; rw [hb, Bool.false_and]) sbB suB
          · have hpo := bef_len hb
            rw [hvo, hmo]
            simp only [List.cons_append, List.nil_append]
            refine jD 23 23 (h := ?_)
            (repeat (refine wkH ?_))
            rcases hot : (lstU xs).In.OpenTo with _ | _
            · (repeat (refine wkH ?_))
              refine jh_nil ?_
              refine jn_nil ?_
              repeat (refine wkB ?_; try intro _)
              exact jx_mid (decide ((lstU xs).F = x.F)) (by unfold cA; rw [hb, hot, Bool.true_and, Bool.not_false, Bool.true_and]) sbB suB
            · (repeat (refine wkH ?_))
              refine jh_nil ?_
              refine jn_nil ?_
              repeat (refine wkB ?_; try intro _)
              exact jx_mid false (by unfold cA; rw [hb, hot, Bool.true_and, Bool.not_true, Bool.false_and]) sbB suB
        subst hv4
        refine j_cut (S := Unit) (fun _ => cA xs x = false) (fun _ => [(0, vLines), (7, vSl s), (8, .slice (some ⟨b8, 0, none⟩) al.length c8), (9, .int .i64 (i : Nat)), (10, .pointer (some ⟨b10, 0, none⟩)), (11, .pointer (some ⟨b11, 0, none⟩)), (13, .int .i64 xs.length), (41, .slice (some ⟨b8, 0, none⟩) al.length c8), (42, .int .i64 al.length), (43, .int .i64 (i : Nat))]) (fun _ => mS 163 s ++ [⟨b11, e_api_Real (q_api_Real x.In.From), 30⟩, ⟨b10, rU x, 163⟩, ⟨b8, row rU al sp8, 163⟩]) ?_ (fun _ hcA => ?_)
        · rcases hcA : cA xs x with _ | _
          · repeat (refine wkB ?_; try intro _)
            exact jx_mid () rfl sbB suB
          · have hb : bef xs x.In.From = true := by
              unfold cA at hcA
              simp only [Bool.and_eq_true] at hcA
              exact hcA.1
            have hpo := bef_len hb
            rcases hp with ⟨hb', -⟩ | ⟨-, bo, co, so, ho, hvo, hmo, rfl⟩
            · rw [hb] at hb'; cases hb'
            rw [hvo, hmo]
            simp only [List.cons_append, List.nil_append]
            have ek : ((xs.length : Int) - 1).toNat = xs.length - 1 := by omega
            repeat (refine wkB ?_; try intro _)
            refine sRF (i := (xs.length : Int) - 1) (f := 9) (⟨⟨(lstU xs).In.From, x.In.To, (lstU xs).In.OpenFrom, (lstU xs).In.OpenTo⟩, (lstU xs).F⟩ : UL) rfl rfl ?_ ?_
            · omega
            obtain ⟨zs, hzs⟩ : ∃ zs, zs = xs.set ((xs.length : Int) - 1).toNat (⟨⟨(lstU xs).In.From, x.In.To, (lstU xs).In.OpenFrom, (lstU xs).In.OpenTo⟩, (lstU xs).F⟩ : UL) := ⟨_, rfl⟩
            simp only [← hzs]
            have hzl : zs.length = xs.length := by rw [hzs]; simp
            have hg : gi zs ((xs.length : Int) - 1) = ⟨⟨(lstU xs).In.From, x.In.To, (lstU xs).In.OpenFrom, (lstU xs).In.OpenTo⟩, (lstU xs).F⟩ := by
              rw [gi_eq (by omega)]
              simp only [hzs, List.getElem_set_self]
            repeat (refine wkB ?_; try intro _)
            refine sRF (i := (xs.length : Int) - 1) (f := 19) (⟨⟨(gi zs ((xs.length : Int) - 1)).In.From, (gi zs ((xs.length : Int) - 1)).In.To, (gi zs ((xs.length : Int) - 1)).In.OpenFrom, true⟩, (gi zs ((xs.length : Int) - 1)).F⟩ : UL) rfl rfl ?_ ?_
            · omega
            have hfin : zs.set ((xs.length : Int) - 1).toNat (⟨⟨(gi zs ((xs.length : Int) - 1)).In.From, (gi zs ((xs.length : Int) - 1)).In.To, (gi zs ((xs.length : Int) - 1)).In.OpenFrom, true⟩, (gi zs ((xs.length : Int) - 1)).F⟩ : UL) = turn xs (ext (lstU xs) x) := by
              rw [hg, hzs, List.set_set, ek]
              rfl
            rw [hfin]
            obtain ⟨s', hv', hm'⟩ := SlS.put (enc := rU) (k := 36) (b := bo) 163 (turn_len xs (ext (lstU xs) x)) ho hpo
            rw [← hv']
            repeat (first | (refine wkB ?_; try intro _) | (refine sC rfl rfl ?_ ?_; focus (exact ⟨by omega, by omega⟩)) | (refine sN rfl rfl ?_ ?_; (focus (exact ⟨by omega, by omega⟩)); intro _; (try simp only [List.cons_append, List.nil_append, List.append_nil])))
            exact jx_loop ⟨turn xs (ext (lstU xs) x), i + 1, s'⟩ ⟨hlt, by rw [hnx, nstp, if_pos hI, if_pos hcA]⟩ sbB (by dsimp only; rw [hm']; exact suB) (by show al.length - (i + 1) < al.length - i; omega)
        refine j_seq ?_
        refine j_cut (S := UL) (fun y => y = if cB al i xs x = true then opF x else x) (fun _ => [(0, vLines), (7, vSl s), (8, .slice (some ⟨b8, 0, none⟩) al.length c8), (9, .int .i64 (i : Nat)), (10, .pointer (some ⟨b10, 0, none⟩)), (11, .pointer (some ⟨b11, 0, none⟩)), (13, .int .i64 xs.length), (41, .slice (some ⟨b8, 0, none⟩) al.length c8), (42, .int .i64 al.length), (43, .int .i64 (i : Nat))]) (fun y => mS 163 s ++ [⟨b11, e_api_Real (q_api_Real x.In.From), 30⟩, ⟨b10, rU y, 163⟩, ⟨b8, row rU al sp8, 163⟩]) ?_ (fun y hy => ?_)
        · refine j_seq ?_
          refine j_cut (S := Bool) (fun v => v = cB al i xs x) (fun v => [(156, .bool v), (0, vLines), (7, vSl s), (8, .slice (some ⟨b8, 0, none⟩) al.length c8), (9, .int .i64 (i : Nat)), (10, .pointer (some ⟨b10, 0, none⟩)), (11, .pointer (some ⟨b11, 0, none⟩)), (13, .int .i64 xs.length), (41, .slice (some ⟨b8, 0, none⟩) al.length c8), (42, .int .i64 al.length), (43, .int .i64 (i : Nat))]) (fun _ => mS 163 s ++ [⟨b11, e_api_Real (q_api_Real x.In.From), 30⟩, ⟨b10, rU x, 163⟩, ⟨b8, row rU al sp8, 163⟩]) ?_ (fun v hv5 => ?_)
          · by_cases hi0 : 0 < i
            · have ep : ((i : Int) - 1).toNat < al.length := by omega
              refine jD 28 28 (h := ?_)
              (repeat (refine wkH ?_))
              simp only [decide_eq_true (show (0 : Int) < (i : Int) by omega)]
              (repeat (refine wkH ?_))
              rcases hi1 : isI (gi al ((i : Int) - 1)) with _ | _
              · have hi1' : decide ((gi al ((i : Int) - 1)).In.From = (gi al ((i : Int) - 1)).In.To) = false := hi1
                simp only [hi1']
                (repeat (refine wkH ?_))
                refine jh_nil ?_
                refine jn_nil ?_
                repeat (refine wkB ?_; try intro _)
                exact jx_mid false (by unfold cB; rw [hi1, Bool.false_and, Bool.and_false]) sbB suB
              · have hi1' : decide ((gi al ((i : Int) - 1)).In.From = (gi al ((i : Int) - 1)).In.To) = true := hi1
                simp only [hi1']
                (repeat (refine wkH ?_))
                rcases hft : decide ((gi al ((i : Int) - 1)).In.From = x.In.From) with _ | _
                · (repeat (refine wkH ?_))
                  refine jh_nil ?_
                  refine jn_nil ?_
                  repeat (refine wkB ?_; try intro _)
                  exact jx_mid false (by unfold cB; rw [hft, Bool.false_and, Bool.and_false, Bool.and_false]) sbB suB
                · (repeat (first | refine wkH ?_ | (refine tC rfl rfl ?_ ?_; focus (omega))))
                  refine jh_nil ?_
                  refine jn_nil ?_
                  repeat (refine wkB ?_; try intro _)
                  exact jx_mid (!hld xs x.In.From) (by unfold cB; rw [hi1, hft, decide_eq_true hi0, Bool.true_and, Bool.true_and, Bool.true_and]) sbB suB
            · refine jD 28 28 (h := ?_)
              (repeat (refine wkH ?_))
              simp only [decide_eq_false (show ¬ (0 : Int) < (i : Int) by omega)]
              (repeat (refine wkH ?_))
              refine jh_nil ?_
              refine jn_nil ?_
              repeat (refine wkB ?_; try intro _)
              exact jx_mid false (by unfold cB; rw [decide_eq_false hi0, Bool.false_and]) sbB suB
          · subst hv5
            rcases hcB : cB al i xs x with _ | _
            · repeat (refine wkB ?_; try intro _)
              exact jx_mid x (by rw [if_neg (by decide)]) sbB suB
            · repeat (refine wkB ?_; try intro _)
              exact jx_mid (opF x) (by rw [if_pos rfl]) sbB suB
        repeat (refine wkB ?_; try intro _)
        refine sU rfl rfl ?_ ?_ ?_ ?_
        · rfl
        · rfl
        · exact ⟨by decide, by omega, by omega⟩
        intro s'
        repeat (first | (refine wkB ?_; try intro _) | (refine sC rfl rfl ?_ ?_; focus (exact ⟨by omega, by omega⟩)) | (refine sN rfl rfl ?_ ?_; (focus (exact ⟨by omega, by omega⟩)); intro _; (try simp only [List.cons_append, List.nil_append, List.append_nil])))
        exact jx_loop ⟨xs ++ [y], i + 1, s'⟩ ⟨hlt, by show xs ++ [y] = nrm al (i + 1); rw [hnx, nstp, if_pos hI, hcA, if_neg (by decide), hy]⟩ sbB suB (by show al.length - (i + 1) < al.length - i; omega)
      · have hI' : decide (x.In.From = x.In.To) = true := hI
        simp only [hI']
        repeat (refine wkB ?_; try intro _)
        have htM : M x.In.From.P ≤ 8589934592 := Nat.le_trans hx0.i.m1 (by decide)
        have hxf : (M x.F.X0 ≤ 8589934592 ∧ M x.F.X1 ≤ 8589934592) ∧ M x.F.Y0 ≤ 8589934592 ∧ M x.F.Y1 ≤ 8589934592 := ⟨⟨Nat.le_trans hx0.f.x0 (by decide), Nat.le_trans hx0.f.x1 (by decide)⟩, Nat.le_trans hx0.f.y0 (by decide), Nat.le_trans hx0.f.y1 (by decide)⟩
        refine j_cut (S := Bool) (fun v => v = cC xs x) (fun v => [(163, .bool v), (0, vLines), (7, vSl s), (8, .slice (some ⟨b8, 0, none⟩) al.length c8), (9, .int .i64 (i : Nat)), (10, .pointer (some ⟨b10, 0, none⟩)), (11, .pointer (some ⟨b11, 0, none⟩)), (12, .pointer p), (13, .int .i64 xs.length), (41, .slice (some ⟨b8, 0, none⟩) al.length c8), (42, .int .i64 al.length), (43, .int .i64 (i : Nat))]) (fun _ => mS 163 s ++ [⟨b11, e_api_Real (q_api_Real x.In.From), 30⟩, ⟨b10, rU x, 163⟩, ⟨b8, row rU al sp8, 163⟩]) ?_ (fun v hv4 => ?_)
        · rcases hp with ⟨hb, rfl⟩ | ⟨hb, bo, co, so, ho, hvo, hmo, rfl⟩
          · (refine j_late [0, 1, 2, 3, 4, 5, 6, 7, 8, 9, 10, 11, 12, 13, 14, 15] [16] (_) (h := ?_); refine wkI ?_)
            (repeat (refine wkH ?_))
            repeat (refine wkT ?_; try intro _)
            repeat (refine wkB ?_; try intro _)
            exact jx_mid false (by unfold cC; rw [hb, Bool.false_and]) sbB suB
          · have hpo := bef_len hb
            have hlo := (lst_ok hxo hpo).f
            rw [hvo, hmo]
            simp only [List.cons_append, List.nil_append]
            (refine j_late [0, 1, 2, 3, 4, 5, 6, 7, 8, 9, 10, 11, 12, 13, 14, 15] [16] (_) (h := ?_); refine wkI ?_)
            (repeat (first | refine wkH ?_ | (refine tC rfl rfl ?_ ?_; focus (exact ⟨hx0.i.r1, ⟨⟨hlo.x0, hlo.x1⟩, hlo.y0, hlo.y1⟩, hxf, htM⟩))))
            repeat (refine wkT ?_; try intro _)
            repeat (refine wkB ?_; try intro _)
            exact jx_mid (smL (lstU xs).F x.F x.In.From.P) (by unfold cC; rw [hb, Bool.true_and]) sbB suB
        subst hv4
        rcases hcC : cC xs x with _ | _
        · refine j_else (by rfl) ?_
          (first | refine sX rfl rfl ?_ | (refine sS rfl rfl ?_ ?_; focus omega) | (refine sC rfl rfl ?_ ?_; focus (first | exact trivial | assumption | constructor <;> assumption | exact mb2 rfl rfl | exact mb4 rfl rfl rfl rfl)) | refine cX ?_ | refine cY ?_ | (refine sA rfl rfl ?_; intro _) | refine sT rfl ?_ | refine sF rfl ?_ | (refine sR rfl ?_ ?_; focus omega) | (refine sB rfl rfl ?_; intro _) | (refine sN rfl rfl ?_ ?_; (focus (first | exact trivial | assumption | constructor <;> assumption | exact mb2 rfl rfl | exact mb4 rfl rfl rfl rfl)); intro _; (try simp only [List.cons_append, List.nil_append, List.append_nil])) | refine sW rfl rfl ?_ | refine sK rfl rfl ?_ | refine j_if rfl ?_ | refine j_else rfl ?_ | refine pkT rfl rfl rfl rfl ?_ | refine pkF rfl rfl rfl rfl ?_)
          refine j_cut (S := Bool) (fun v => v = cD al i x) (fun v => [(184, .bool v), (0, vLines), (7, vSl s), (8, .slice (some ⟨b8, 0, none⟩) al.length c8), (9, .int .i64 (i : Nat)), (10, .pointer (some ⟨b10, 0, none⟩)), (11, .pointer (some ⟨b11, 0, none⟩)), (13, .int .i64 xs.length), (41, .slice (some ⟨b8, 0, none⟩) al.length c8), (42, .int .i64 al.length), (43, .int .i64 (i : Nat))]) (fun _ => mS 163 s ++ [⟨b11, e_api_Real (q_api_Real x.In.From), 30⟩, ⟨b10, rU x, 163⟩, ⟨b8, row rU al sp8, 163⟩]) ?_ (fun v hv5 => ?_)
          · by_cases hi1 : i + 1 < al.length
            · have hya := hao _ (gi_mem (i := (i : Int) + 1) (by omega))
              have hyf : (M (gi al ((i : Int) + 1)).F.X0 ≤ 8589934592 ∧ M (gi al ((i : Int) + 1)).F.X1 ≤ 8589934592) ∧ M (gi al ((i : Int) + 1)).F.Y0 ≤ 8589934592 ∧ M (gi al ((i : Int) + 1)).F.Y1 ≤ 8589934592 := ⟨⟨Nat.le_trans hya.f.x0 (by decide), Nat.le_trans hya.f.x1 (by decide)⟩, Nat.le_trans hya.f.y0 (by decide), Nat.le_trans hya.f.y1 (by decide)⟩
              (refine j_late [0, 1, 2, 3, 4, 5, 6, 7, 8, 9, 10, 11, 12, 13, 14, 15, 16, 17, 18, 19, 20, 21, 22, 23, 24, 25, 26, 27, 28, 29, 30, 31] [32] (_) (h := ?_); refine wkI ?_)
              (repeat (refine wkH ?_))
              simp only [decide_eq_true (show (i : Int) + 1 < (al.length : Int) by omega)]
              (repeat (refine wkH ?_))
              rcases hft : decide ((gi al ((i : Int) + 1)).In.From = x.In.From) with _ | _
              · (repeat (refine wkH ?_))
                repeat (refine wkT ?_; try intro _)
                repeat (refine wkB ?_; try intro _)
                exact jx_mid false (by unfold cD; rw [hft, Bool.false_and, Bool.and_false]) sbB suB
              · (repeat (first | refine wkH ?_ | (refine tC rfl rfl ?_ ?_; focus (exact ⟨hx0.i.r1, hyf, hxf, htM⟩))))
                repeat (refine wkT ?_; try intro _)
                repeat (refine wkB ?_; try intro _)
                exact jx_mid (smL (gi al ((i : Int) + 1)).F x.F x.In.From.P) (by unfold cD; rw [hft, decide_eq_true hi1, Bool.true_and, Bool.true_and]) sbB suB
            · (refine j_late [0, 1, 2, 3, 4, 5, 6, 7, 8, 9, 10, 11, 12, 13, 14, 15, 16, 17, 18, 19, 20, 21, 22, 23, 24, 25, 26, 27, 28, 29, 30, 31] [32] (_) (h := ?_); refine wkI ?_)
              (repeat (refine wkH ?_))
              simp only [decide_eq_false (show ¬ (i : Int) + 1 < (al.length : Int) by omega)]
              (repeat (refine wkH ?_))
              repeat (refine wkT ?_; try intro _)
              repeat (refine wkB ?_; try intro _)
              exact jx_mid false (by unfold cD; rw [decide_eq_false hi1, Bool.false_and]) sbB suB
          subst hv5
          rcases hcD : cD al i x with _ | _
          · repeat (first | (refine wkB ?_; try intro _) | (refine sC rfl rfl ?_ ?_; focus (exact ⟨hx0.i.r1, hxf, htM⟩)) | (refine sN rfl rfl ?_ ?_; (focus (exact ⟨hx0.i.r1, hxf, htM⟩)); intro _; (try simp only [List.cons_append, List.nil_append, List.append_nil])))
            refine sU rfl rfl ?_ ?_ ?_ ?_
            · rfl
            · rfl
            · exact ⟨by decide, by omega, by omega⟩
            intro s'
            repeat (first | (refine wkB ?_; try intro _) | (refine sC rfl rfl ?_ ?_; focus (exact ⟨by omega, by omega⟩)) | (refine sN rfl rfl ?_ ?_; (focus (exact ⟨by omega, by omega⟩)); intro _; (try simp only [List.cons_append, List.nil_append, List.append_nil])))
            exact jx_loop ⟨_, i + 1, s'⟩ ⟨hlt, by show xs ++ [redU x] = nrm al (i + 1); rw [hnx, nstp, hI, if_neg (by decide), hcC, if_neg (by decide), hcD, if_neg (by decide)]⟩ sbB suB (by show al.length - (i + 1) < al.length - i; omega)
          · repeat (first | (refine wkB ?_; try intro _) | (refine sC rfl rfl ?_ ?_; focus (exact ⟨by omega, by omega⟩)) | (refine sN rfl rfl ?_ ?_; (focus (exact ⟨by omega, by omega⟩)); intro _; (try simp only [List.cons_append, List.nil_append, List.append_nil])))
            exact jx_loop ⟨xs, i + 1, s⟩ ⟨hlt, by show xs = nrm al (i + 1); rw [hnx, nstp, hI, if_neg (by decide), hcC, if_neg (by decide), hcD, if_pos rfl]⟩ sbB suB (by show al.length - (i + 1) < al.length - i; omega)
        · have hb : bef xs x.In.From = true := by
            unfold cC at hcC
            simp only [Bool.and_eq_true] at hcC
            exact hcC.1
          have hpo := bef_len hb
          rcases hp with ⟨hb', -⟩ | ⟨-, bo, co, so, ho, hvo, hmo, rfl⟩
          · rw [hb] at hb'; cases hb'
          rw [hvo, hmo]
          simp only [List.cons_append, List.nil_append]
          have ek : ((xs.length : Int) - 1).toNat = xs.length - 1 := by omega
          repeat (refine wkB ?_; try intro _)
          refine sRF (i := (xs.length : Int) - 1) (f := 19) (clo (lstU xs)) rfl rfl ?_ ?_
          · omega
          rw [ek]
          obtain ⟨s', hv', hm'⟩ := SlS.put (enc := rU) (k := 36) (b := bo) 163 (turn_len xs (clo (lstU xs))) ho hpo
          rw [← hv']
          repeat (first | (refine wkB ?_; try intro _) | (refine sC rfl rfl ?_ ?_; focus (exact ⟨by omega, by omega⟩)) | (refine sN rfl rfl ?_ ?_; (focus (exact ⟨by omega, by omega⟩)); intro _; (try simp only [List.cons_append, List.nil_append, List.append_nil])))
          exact jx_loop ⟨turn xs (clo (lstU xs)), i + 1, s'⟩ ⟨hlt, by show turn xs (clo (lstU xs)) = nrm al (i + 1); rw [hnx, nstp, hI, if_neg (by decide), if_pos hcC]⟩ sbB (by dsimp only; rw [hm']; exact suB) (by show al.length - (i + 1) < al.length - i; omega)
    · have hge : i = al.length := by have := of_decide_eq_false h; omega
      subst hge
      subst hxs
      repeat (refine wkB ?_; try intro _)
      obtain ⟨s0, hs1, hs2⟩ := SlS.turn 163 hR.symm s
      exact jx_ret_two rfl (resv_tmp rfl) (resv_tmp rfl) (fun w hw => ⟨s0, by dsimp only; rw [hs1, hE], by dsimp only; rw [hs2]; exact hw.sub suB⟩)
end Go.Vt
/- The normal form of a moving point; its position at an instant: walked. Conditions: those that each statement names. -/
set_option linter.unusedSimpArgs false
set_option linter.unusedVariables false
set_option maxHeartbeats 2000000
set_option maxRecDepth 100000
namespace Go.Vt
open Go.RowKit Go.Proofs
instance sr_pnormal (w0 : World) (L : List Blk) (v : Value) (us : List UL) [h : LstN w0 L v UL rU us] : SpecR Tryz.prog w0 L 96 [vLines, v] (SlS rU 36 (nrmR us)) (fun s => .tuple #[vSl s, .int .i64 (nrmE us)]) (fun s => mS 163 s) (us.length ≤ 19 ∧ ∀ u ∈ us, UIn u) := ⟨fun hp w hw => pnormal_spec v us w (h.out w hw) h.nil hp.1 hp.2⟩
theorem nrmR_len (us : List UL) : (nrmR us).length ≤ 3 * us.length := by
  unfold nrmR
  split
  · have h1 := nrm_len (allU us) (allU us).length
    have h2 := atm_len (sor us) (sor us).length
    have h3 := sor_len us
    unfold allU at h1 ⊢
    omega
  · simp
instance bd_Lines : BdC Tryz.prog 152 [] (.agg #[]) := ⟨fun w => by kernel_rfl⟩
/-- The units of a moving point, as they are normal. -/
def mNorm (us : List PU) : List PU := mpN ofU (nrmR (mpN toU us us.length)) (nrmR (mpN toU us us.length)).length
theorem mnormal_spec (v : Value) (us : List PU) (w : World) (hv : ArgS w v rP us) (hl : us.length ≤ 19) (hok : ∀ u ∈ mpN toU us us.length, UIn u) :
    Calls Tryz.prog 51 [v].toArray w (RetM (SlS rP 36 (mNorm us)) (fun s => .tuple #[vSl s, .int .i64 (nrmE (mpN toU us us.length))]) (fun s => mS 68 s) w) := by
  have := ArgC.mk hv
  have hml := mpN_len toU us us.length
  have hnl := nrmR_len (mpN toU us us.length)
  refine fn_intro Tryz.func51 rfl Tryz.ntmps51 rfl ?_
  repeat (first | (refine wkB ?_; try intro _) | (refine sC rfl rfl ?_ ?_; focus (first | exact trivial | omega | exact ⟨by omega, hok⟩)) | (refine sN rfl rfl ?_ ?_; (focus (first | exact trivial | omega | exact ⟨by omega, hok⟩)); intro _; (try simp only [List.cons_append, List.nil_append, List.append_nil])))
  rename_i s1 s2 s3
  exact jx_ret_two rfl (resv_tmp rfl) (resv_tmp rfl) (fun w hw => ⟨s3, rfl, hw.sub suB⟩)
instance sr_mnormal (w0 : World) (L : List Blk) (v : Value) (us : List PU) [h : LstC w0 L v PU rP us] : SpecR Tryz.prog w0 L 51 [v] (SlS rP 36 (mNorm us)) (fun s => .tuple #[vSl s, .int .i64 (nrmE (mpN toU us us.length))]) (fun s => mS 68 s) (us.length ≤ 19 ∧ ∀ u ∈ mpN toU us us.length, UIn u) := ⟨fun hp w hw => mnormal_spec v us w (h.out w hw) hp.1 hp.2⟩
end Go.Vt
/- The unit that contains an instant, found. Conditions: those that each statement names. -/
set_option linter.unusedSimpArgs false
set_option linter.unusedVariables false
set_option maxHeartbeats 2000000
set_option maxRecDepth 100000
namespace Go.Vt
open Go.RowKit Go.Proofs
end Go.Vt
/- Functions in pieces over a dense order of instants: what a list of units says, and that its normal form is determined by it. Conditions: those that each statement names. -/
set_option linter.unusedSectionVars false
set_option linter.unusedVariables false
set_option linter.unusedSimpArgs false
namespace Go.Vt
/-- An interval with a function on it. -/
structure GU (T F : Type) where
  a : T
  b : T
  oa : Bool
  ob : Bool
  f : F
/-- Functions of time: their values, and the least of those that have one value at an instant. -/
class Fv (F T : Type) (V : outParam Type) [LT T] where
  va : F → T → V
  red : F → T → F
  va_red : ∀ f t, va (red f t) t = va f t
  red_eq : ∀ f g t, va f t = va g t → red f t = red g t
  agree : ∀ (f g : F) (a b : T), a < b → (∀ t, a < t → t < b → va f t = va g t) → f = g
class Dns (T : Type) [LT T] : Prop where
  out : ∀ a b : T, a < b → ∃ c, a < c ∧ c < b
open Fv (va red)
section
variable {T F V : Type} [LE T] [LT T] [Std.LawfulOrderLT T] [Std.IsLinearOrder T] [Dns T] [Fv F T V]
def GU.mem (u : GU T F) (t : T) : Prop := (u.a < t ∨ (u.a = t ∧ u.oa = false)) ∧ (t < u.b ∨ (t = u.b ∧ u.ob = false))
def GU.ok (u : GU T F) : Prop := u.a < u.b ∨ (u.a = u.b ∧ u.oa = false ∧ u.ob = false)
def GU.bfr (u w : GU T F) : Prop := u.b < w.a ∨ (u.b = w.a ∧ (u.ob = true ∨ w.oa = true))
theorem dens2 {a b c : T} (h : a < b) (k : a < c) : ∃ t, a < t ∧ t < b ∧ t < c := by
  obtain ⟨x, h1, h2⟩ := Dns.out a b h
  obtain ⟨y, h3, h4⟩ := Dns.out a c k
  rcases Std.le_total (a := x) (b := y) with h5 | h5
  · exact ⟨x, h1, h2, by grind⟩
  · exact ⟨y, h3, by grind, h4⟩
theorem agree2 {f g : F} {a b c : T} (h : a < b) (k : a < c) (hv : ∀ t, a < t → t < b → t < c → va f t = va g t) : f = g := by
  rcases Std.le_total (a := b) (b := c) with h5 | h5
  · exact Fv.agree f g a b h fun t h1 h2 => hv t h1 h2 (by grind)
  · exact Fv.agree f g a c k fun t h1 h2 => hv t h1 (by grind) h2
theorem GU.ok.pt {u : GU T F} (h : u.ok) : ∃ t, u.mem t := by
  rcases h with h | ⟨h1, h2, h3⟩
  · obtain ⟨c, h1, h2⟩ := Dns.out _ _ h
    exact ⟨c, .inl h1, .inl h2⟩
  · exact ⟨u.a, .inr ⟨rfl, h2⟩, .inr ⟨h1, h3⟩⟩
theorem GU.bfr.dis {u w : GU T F} (h : u.bfr w) {t : T} (h1 : u.mem t) (h2 : w.mem t) : False := by
  unfold GU.mem GU.bfr at *
  grind
theorem GU.bfr.tr {u v w : GU T F} (hv : v.ok) (h : u.bfr v) (k : v.bfr w) : u.bfr w := by
  unfold GU.ok GU.bfr at *
  grind
/-- What a list of units says. -/
def Has (l : List (GU T F)) (t : T) (v : V) : Prop := ∃ u ∈ l, u.mem t ∧ va u.f t = v
theorem has_nil {t : T} {v : V} : ¬ Has ([] : List (GU T F)) t v := fun ⟨u, hu, _⟩ => by cases hu
theorem has_cons {u : GU T F} {l : List (GU T F)} {t : T} {v : V} : Has (u :: l) t v ↔ (u.mem t ∧ va u.f t = v) ∨ Has l t v := by
  unfold Has
  simp
theorem has_app {l m : List (GU T F)} {t : T} {v : V} : Has (l ++ m) t v ↔ Has l t v ∨ Has m t v := by
  unfold Has
  constructor
  · rintro ⟨u, hu, h⟩
    rcases List.mem_append.1 hu with h1 | h1
    · exact .inl ⟨u, h1, h⟩
    · exact .inr ⟨u, h1, h⟩
  · rintro (⟨u, hu, h⟩ | ⟨u, hu, h⟩)
    · exact ⟨u, List.mem_append_left _ hu, h⟩
    · exact ⟨u, List.mem_append_right _ hu, h⟩
theorem has_one {u : GU T F} {t : T} {v : V} : Has [u] t v ↔ (u.mem t ∧ va u.f t = v) := by
  rw [has_cons]
  exact ⟨fun h => h.resolve_right has_nil, .inl⟩
/-- A unit and a later one, as they are in a normal form. -/
structure Adj (u w : GU T F) : Prop where
  bf : u.bfr w
  n1 : u.b = w.a → u.ob = false → u.a < u.b → u.f ≠ w.f
  n2 : u.b = w.a → w.oa = false → va u.f w.a ≠ va w.f w.a
  n3 : u.b = w.a → u.a = u.b → va u.f w.a ≠ va w.f w.a
structure NF (l : List (GU T F)) : Prop where
  ok : ∀ u ∈ l, u.ok
  rd : ∀ u ∈ l, u.a = u.b → u.f = red u.f u.a
  pw : l.Pairwise Adj
theorem NF.nil : NF ([] : List (GU T F)) := ⟨(fun _ h => by cases h), (fun _ h => by cases h), List.Pairwise.nil⟩
theorem NF.tail {u : GU T F} {l : List (GU T F)} (h : NF (u :: l)) : NF l :=
  ⟨fun w hw => h.ok w (.tail _ hw), fun w hw => h.rd w (.tail _ hw), (List.pairwise_cons.1 h.pw).2⟩
theorem pw_tri {α : Type} {R : α → α → Prop} : ∀ {l : List α}, l.Pairwise R → ∀ u ∈ l, ∀ w ∈ l, u = w ∨ R u w ∨ R w u
  | [], _, _, h, _, _ => by cases h
  | x :: l, hp, u, hu, w, hw => by
    obtain ⟨h1, h2⟩ := List.pairwise_cons.1 hp
    rcases List.mem_cons.1 hu with rfl | hu
    · rcases List.mem_cons.1 hw with rfl | hw
      · exact .inl rfl
      · exact .inr (.inl (h1 w hw))
    · rcases List.mem_cons.1 hw with h3 | hw
      · exact .inr (.inr (by rw [h3]; exact h1 u hu))
      · exact pw_tri h2 u hu w hw
/-- What is said of an instant is said by the one unit that contains it. -/
theorem NF.fn {l : List (GU T F)} (h : NF l) {u : GU T F} (hu : u ∈ l) {t : T} {v : V} (hm : u.mem t) (hv : Has l t v) : va u.f t = v := by
  obtain ⟨w, hw, h1, h2⟩ := hv
  rcases pw_tri h.pw u hu w hw with rfl | h3 | h3
  · exact h2
  · exact (h3.bf.dis hm h1).elim
  · exact (h3.bf.dis h1 hm).elim
section
variable {u u' : GU T F} {l l' : List (GU T F)}
theorem hd_le (h : NF (u :: l)) {w : GU T F} (hw : w ∈ u :: l) : u.a ≤ w.a := by
  rcases List.mem_cons.1 hw with rfl | hw
  · exact Std.le_refl _
  · have h1 := (List.pairwise_cons.1 h.pw).1 w hw
    have h2 := h.ok u (.head _)
    have h3 := h1.bf
    unfold GU.ok GU.bfr at *
    grind
theorem tl_ge (h : NF (u :: l)) {w : GU T F} (hw : w ∈ l) : u.b ≤ w.a := by
  have h3 := ((List.pairwise_cons.1 h.pw).1 w hw).bf
  unfold GU.bfr at *
  grind
theorem hd_a (h : NF (u :: l)) (h' : NF (u' :: l')) (H : ∀ t v, Has (u :: l) t v → Has (u' :: l') t v) : ¬ u.a < u'.a := fun hlt => by
  have hok := h.ok u (.head _)
  obtain ⟨t, ht, htl⟩ : ∃ t, u.mem t ∧ t < u'.a := by
    rcases hok with h1 | ⟨h1, h2, h3⟩
    · obtain ⟨t, h2, h3, h4⟩ := dens2 h1 hlt
      exact ⟨t, ⟨.inl h2, .inl h3⟩, h4⟩
    · exact ⟨u.a, ⟨.inr ⟨rfl, h2⟩, .inr ⟨h1, h3⟩⟩, hlt⟩
  obtain ⟨w, hw, h1, h2⟩ := H t _ ⟨u, .head _, ht, rfl⟩
  have h3 := hd_le h' hw
  unfold GU.mem at h1
  grind
theorem hd_oa (h : NF (u :: l)) (h' : NF (u' :: l')) (H : ∀ t v, Has (u :: l) t v → Has (u' :: l') t v) (ha : u.a = u'.a) (ho : u.oa = false) : u'.oa = false := by
  have hok := h.ok u (.head _)
  have hok' := h'.ok u' (.head _)
  have hm : u.mem u.a := by unfold GU.mem GU.ok at *; grind
  obtain ⟨w, hw, h1, h2⟩ := H u.a _ ⟨u, .head _, hm, rfl⟩
  rcases List.mem_cons.1 hw with rfl | hw
  · unfold GU.mem at h1; grind
  · have h3 := tl_ge h' hw
    unfold GU.mem GU.ok at *
    grind
/-- If what a unit's other covers behind it is said, the next unit begins where it ends, with the other's function. -/
theorem nxt (h : NF (u :: l)) (h' : NF (u' :: l')) (H : ∀ t v, Has (u :: l) t v ↔ Has (u' :: l') t v) (hle : u'.a ≤ u.b) (hlt : u.b < u'.b) (hob : u.ob = false) : ∃ w ∈ l, w.a = u.b ∧ w.f = u'.f := by
  have cov : ∀ t, u.b < t → t < u'.b → ∃ w ∈ l, w.mem t ∧ va w.f t = va u'.f t := fun t h1 h2 => by
    obtain ⟨w, hw, h3, h4⟩ := (H t (va u'.f t)).2 ⟨u', .head _, ⟨.inl (by grind), .inl h2⟩, rfl⟩
    rcases List.mem_cons.1 hw with rfl | hw
    · unfold GU.mem at h3; grind
    · exact ⟨w, hw, h3, h4⟩
  cases l with
  | nil =>
    obtain ⟨t, h1, h2⟩ := Dns.out _ _ hlt
    obtain ⟨w, hw, _⟩ := cov t h1 h2
    cases hw
  | cons w l =>
    have hge := tl_ge h (.head _)
    have hb := ((List.pairwise_cons.1 h.pw).1 w (.head _)).bf
    have hok := h.ok w (.tail _ (.head _))
    have hwa : w.a = u.b := by
      rcases Std.le_total (a := w.a) (b := u.b) with h1 | h1
      · grind
      · rcases Classical.em (w.a = u.b) with h2 | h2
        · exact h2
        · obtain ⟨t, h3, h4, h5⟩ := dens2 hlt (show u.b < w.a by grind)
          obtain ⟨x, hx, h6, -⟩ := cov t h3 h4
          have h7 := hd_le h.tail hx
          unfold GU.mem at h6
          grind
    refine ⟨w, .head _, hwa, ?_⟩
    have hlong : w.a < w.b := by unfold GU.ok GU.bfr at *; grind
    refine agree2 (a := u.b) (b := w.b) (c := u'.b) (by grind) hlt fun t h1 h2 h3 => ?_
    have hmw : w.mem t := ⟨.inl (by grind), .inl h2⟩
    have hmu : u'.mem t := ⟨.inl (by grind), .inl h3⟩
    have := (H t _).1 ⟨w, .tail _ (.head _), hmw, rfl⟩
    exact (h'.fn (.head _) hmu this).symm
theorem hd_long (h : NF (u :: l)) (h' : NF (u' :: l')) (H : ∀ t v, Has (u :: l) t v ↔ Has (u' :: l') t v) (ha : u.a = u'.a) (ho : u.oa = u'.oa) (hi : u.a = u.b) : ¬ u'.a < u'.b := fun hlt => by
  have hok := h.ok u (.head _)
  obtain ⟨o1, o2⟩ : u.oa = false ∧ u.ob = false := by unfold GU.ok at hok; grind
  obtain ⟨w, hw, h1, h2⟩ := nxt h h' H (by grind) (by grind) o2
  have hadj := (List.pairwise_cons.1 h.pw).1 w hw
  refine hadj.n3 h1.symm hi ?_
  have hmu : u.mem w.a := ⟨.inr ⟨by grind, o1⟩, .inr ⟨h1, o2⟩⟩
  have hmu' : u'.mem w.a := ⟨.inr ⟨by grind, by grind⟩, .inl (by grind)⟩
  have := h.fn (.head _) hmu ((H w.a _).2 ⟨u', .head _, hmu', rfl⟩)
  rw [this, h2]
theorem hd_b (h : NF (u :: l)) (h' : NF (u' :: l')) (H : ∀ t v, Has (u :: l) t v ↔ Has (u' :: l') t v) (ha : u.a = u'.a) (hl : u.a < u.b) (hf : u.f = u'.f) : ¬ u.b < u'.b := fun hlt => by
  rcases ho : u.ob with _ | _
  · obtain ⟨w, hw, h1, h2⟩ := nxt h h' H (by grind) hlt ho
    exact ((List.pairwise_cons.1 h.pw).1 w hw).n1 h1.symm ho hl (by rw [hf, h2])
  · have hmu' : u'.mem u.b := ⟨.inl (by grind), .inl hlt⟩
    obtain ⟨w, hw, h1, h2⟩ := (H u.b (va u'.f u.b)).2 ⟨u', .head _, hmu', rfl⟩
    rcases List.mem_cons.1 hw with rfl | hw
    · unfold GU.mem at h1; grind
    · have h3 := tl_ge h hw
      have h4 : w.a = u.b ∧ w.oa = false := by unfold GU.mem at h1; grind
      refine ((List.pairwise_cons.1 h.pw).1 w hw).n2 h4.1.symm h4.2 ?_
      rw [h4.1, h2, hf]
theorem hd_ob (h : NF (u :: l)) (h' : NF (u' :: l')) (H : ∀ t v, Has (u :: l) t v ↔ Has (u' :: l') t v) (hb : u.b = u'.b) (hl : u.a < u.b) (hl' : u'.a < u'.b) (hf : u.f = u'.f) (ho : u.ob = false) : u'.ob = false := by
  rcases ho' : u'.ob with _ | _
  · rfl
  · have hmu : u.mem u.b := ⟨.inl hl, .inr ⟨rfl, ho⟩⟩
    obtain ⟨w, hw, h1, h2⟩ := (H u.b (va u.f u.b)).1 ⟨u, .head _, hmu, rfl⟩
    rcases List.mem_cons.1 hw with rfl | hw
    · unfold GU.mem at h1; grind
    · have h3 := tl_ge h' hw
      have h4 : w.a = u'.b ∧ w.oa = false := by unfold GU.mem at h1; grind
      refine absurd ?_ (((List.pairwise_cons.1 h'.pw).1 w hw).n2 h4.1.symm h4.2)
      rw [h4.1, ← hb, h2, hf]
theorem hd_eq (h : NF (u :: l)) (h' : NF (u' :: l')) (H : ∀ t v, Has (u :: l) t v ↔ Has (u' :: l') t v) : u = u' := by
  have H' : ∀ t v, Has (u' :: l') t v ↔ Has (u :: l) t v := fun t v => (H t v).symm
  have ha : u.a = u'.a := by
    have h1 := hd_a h h' fun t v => (H t v).1
    have h2 := hd_a h' h fun t v => (H' t v).1
    grind
  have ho : u.oa = u'.oa := by
    have h1 := hd_oa h h' (fun t v => (H t v).1) ha
    have h2 := hd_oa h' h (fun t v => (H' t v).1) ha.symm
    cases hq : u.oa <;> cases hq' : u'.oa <;> simp_all
  have hok := h.ok u (.head _)
  have hok' := h'.ok u' (.head _)
  rcases hok with hl | ⟨hi, i1, i2⟩
  · have hl' : u'.a < u'.b := by
      rcases hok' with h1 | ⟨h1, -, -⟩
      · exact h1
      · exact absurd hl (hd_long h' h H' ha.symm ho.symm h1)
    have hf : u.f = u'.f := by
      refine agree2 (a := u.a) (b := u.b) (c := u'.b) hl (by grind) fun t h1 h2 h3 => ?_
      have hm : u.mem t := ⟨.inl h1, .inl h2⟩
      have hm' : u'.mem t := ⟨.inl (by grind), .inl h3⟩
      exact h.fn (.head _) hm ((H t _).2 ⟨u', .head _, hm', rfl⟩)
    have hb : u.b = u'.b := by
      have h1 := hd_b h h' H ha hl hf
      have h2 := hd_b h' h H' ha.symm hl' hf.symm
      grind
    have hob : u.ob = u'.ob := by
      have h1 := hd_ob h h' H hb hl hl' hf
      have h2 := hd_ob h' h H' hb.symm hl' hl hf.symm
      cases hq : u.ob <;> cases hq' : u'.ob <;> simp_all
    cases u
    cases u'
    simp_all
  · have hi' : u'.a = u'.b ∧ u'.oa = false ∧ u'.ob = false := by
      rcases hok' with h1 | h1
      · exact absurd h1 (hd_long h h' H ha ho hi)
      · exact h1
    have hm : u.mem u.a := ⟨.inr ⟨rfl, i1⟩, .inr ⟨hi, i2⟩⟩
    have hm' : u'.mem u.a := ⟨.inr ⟨ha.symm, hi'.2.1⟩, .inr ⟨by grind, hi'.2.2⟩⟩
    have hv := h.fn (.head _) hm ((H u.a _).2 ⟨u', .head _, hm', rfl⟩)
    have hf : u.f = u'.f := by
      rw [h.rd u (.head _) hi, h'.rd u' (.head _) hi'.1, ← ha]
      exact Fv.red_eq _ _ _ hv
    have hb : u.b = u'.b := by grind
    cases u
    cases u'
    simp_all
end
theorem NF.pts {u : GU T F} {l : List (GU T F)} (h : NF (u :: l)) : ∃ t v, Has (u :: l) t v := by
  obtain ⟨t, ht⟩ := (h.ok u (.head _)).pt
  exact ⟨t, _, u, .head _, ht, rfl⟩
/-- The normal form is determined by what it says. -/
theorem NF.uniq : ∀ {l l' : List (GU T F)}, NF l → NF l' → (∀ t v, Has l t v ↔ Has l' t v) → l = l'
  | [], [], _, _, _ => rfl
  | [], u :: l, _, h', H => by
    obtain ⟨t, v, h⟩ := h'.pts
    exact absurd ((H t v).2 h) has_nil
  | u :: l, [], h, _, H => by
    obtain ⟨t, v, h⟩ := h.pts
    exact absurd ((H t v).1 h) has_nil
  | u :: l, u' :: l', h, h', H => by
    have e := hd_eq h h' H
    subst e
    have no : ∀ {l : List (GU T F)} (h : NF (u :: l)) {t : T} {v : V}, u.mem t → ¬ Has l t v := fun h t v hm ⟨w, hw, h1, _⟩ => ((List.pairwise_cons.1 h.pw).1 w hw).bf.dis hm h1
    rw [NF.uniq h.tail h'.tail fun t v => ?_]
    constructor
    · intro h1
      rcases has_cons.1 ((H t v).1 (has_cons.2 (.inr h1))) with h2 | h2
      · exact absurd h1 (no h h2.1)
      · exact h2
    · intro h1
      rcases has_cons.1 ((H t v).2 (has_cons.2 (.inr h1))) with h2 | h2
      · exact absurd h1 (no h' h2.1)
      · exact h2
def Held (xs : List (GU T F)) (t : T) : Prop := ∃ ys u, xs = ys ++ [u] ∧ u.b = t ∧ u.ob = false
def NoExt (xs : List (GU T F)) (x : GU T F) : Prop := ∀ ys u, xs = ys ++ [u] → u.b = x.a → u.a ≠ u.b → u.ob = false → u.f ≠ x.f
def NoClo (xs : List (GU T F)) (x : GU T F) : Prop := ∀ ys u, xs = ys ++ [u] → u.b = x.a → u.a ≠ u.b → va u.f x.a ≠ va x.f x.a
def PvI (pv : Option (GU T F)) (x : GU T F) : Prop := ∃ q, pv = some q ∧ q.a = q.b ∧ q.a = x.a
def NxI (nx : Option (GU T F)) (x : GU T F) : Prop := ∃ n, nx = some n ∧ n.a = x.a ∧ va n.f x.a = va x.f x.a
inductive Stp (pv nx : Option (GU T F)) : List (GU T F) → GU T F → List (GU T F) → Prop where
  | ext {ys u x} : x.a ≠ x.b → u.b = x.a → u.a ≠ u.b → u.ob = false → u.f = x.f → Stp pv nx (ys ++ [u]) x (ys ++ [⟨u.a, x.b, u.oa, true, u.f⟩])
  | appO {xs x} : x.a ≠ x.b → NoExt xs x → PvI pv x → ¬ Held xs x.a → Stp pv nx xs x (xs ++ [⟨x.a, x.b, false, x.ob, x.f⟩])
  | appN {xs x} : x.a ≠ x.b → NoExt xs x → ¬ (PvI pv x ∧ ¬ Held xs x.a) → Stp pv nx xs x (xs ++ [x])
  | clo {ys u x} : x.a = x.b → u.b = x.a → u.a ≠ u.b → va u.f x.a = va x.f x.a → Stp pv nx (ys ++ [u]) x (ys ++ [⟨u.a, u.b, u.oa, false, u.f⟩])
  | lft {xs x} : x.a = x.b → NoClo xs x → NxI nx x → Stp pv nx xs x xs
  | rdc {xs x} : x.a = x.b → NoClo xs x → ¬ NxI nx x → Stp pv nx xs x (xs ++ [⟨x.a, x.b, x.oa, x.ob, red x.f x.a⟩])
inductive Mk : Option (GU T F) → List (GU T F) → List (GU T F) → List (GU T F) → Prop where
  | nil {pv xs} : Mk pv xs [] xs
  | cons {pv xs x xs' rest out} : Stp pv rest.head? xs x xs' → Mk (some x) xs' rest out → Mk pv xs (x :: rest) out
/-- A single instant, or an interval without its ends. -/
def GU.atom (x : GU T F) : Prop := (x.a = x.b ∧ x.oa = false ∧ x.ob = false) ∨ (x.a < x.b ∧ x.oa = true ∧ x.ob = true)
theorem GU.atom.ok {x : GU T F} (h : x.atom) : x.ok := by
  unfold GU.atom GU.ok at *
  grind
/-- What is known between two parts. 'S': what all parts say. -/
structure Inv (pv : Option (GU T F)) (xs rem : List (GU T F)) (S : T → V → Prop) : Prop where
  nf : NF xs
  at_ : ∀ x ∈ rem, x.atom
  ch : rem.Pairwise GU.bfr
  sep : ∀ u ∈ xs, ∀ x ∈ rem, u.bfr x
  st : (∃ q x rest, pv = some q ∧ q.a = q.b ∧ q.oa = false ∧ q.ob = false ∧ rem = x :: rest ∧ x.a = q.a ∧ x.oa = true ∧ va x.f q.a = va q.f q.a ∧ (∀ u ∈ xs, u.bfr q) ∧ NoClo xs q ∧ ∀ t v, S t v ↔ Has xs t v ∨ (t = q.a ∧ va q.f t = v) ∨ Has rem t v)
    ∨ ((∀ q, pv = some q → q.a = q.b → Held xs q.a) ∧ (∀ ys u x rest, xs = ys ++ [u] → u.a = u.b → rem = x :: rest → x.a = u.b → va u.f x.a ≠ va x.f x.a) ∧ ∀ t v, S t v ↔ Has xs t v ∨ Has rem t v)
theorem NF.snoc {ys : List (GU T F)} {u x : GU T F} (h : NF (ys ++ [u])) (hx : x.ok) (hr : x.a = x.b → x.f = red x.f x.a) (ha : Adj u x) : NF (ys ++ [u] ++ [x]) := by
  refine ⟨fun w hw => ?_, fun w hw => ?_, ?_⟩
  · rcases List.mem_append.1 hw with h1 | h1
    · exact h.ok w h1
    · rw [List.mem_singleton] at h1; subst h1; exact hx
  · rcases List.mem_append.1 hw with h1 | h1
    · exact h.rd w h1
    · rw [List.mem_singleton] at h1; subst h1; exact hr
  · refine List.pairwise_append.2 ⟨h.pw, List.pairwise_singleton _ _, fun y hy w hw => ?_⟩
    rw [List.mem_singleton] at hw
    subst hw
    rcases List.mem_append.1 hy with h1 | h1
    · have hyu := (List.pairwise_append.1 h.pw).2.2 y h1 u (List.mem_singleton.2 rfl)
      have hu := h.ok u (by simp)
      have hyo := h.ok y (by simp [h1])
      have b1 := hyu.bf
      have b2 := ha.bf
      unfold GU.ok GU.bfr at *
      refine ⟨?_, fun h2 h3 => ?_, fun h2 h3 => ?_, fun h2 h3 => ?_⟩
      · unfold GU.bfr; grind
      · exfalso; grind
      · exfalso; grind
      · exfalso; grind
    · rw [List.mem_singleton] at h1; subst h1; exact ha
theorem NF.one {x : GU T F} (hx : x.ok) (hr : x.a = x.b → x.f = red x.f x.a) : NF [x] :=
  ⟨fun w hw => by rw [List.mem_singleton] at hw; subst hw; exact hx, fun w hw => by rw [List.mem_singleton] at hw; subst hw; exact hr, List.pairwise_singleton _ _⟩
theorem NF.last {ys : List (GU T F)} {u u' : GU T F} (h : NF (ys ++ [u])) (ha : u'.a = u.a) (ho : u'.oa = u.oa) (hf : u'.f = u.f) (hl : u'.a < u'.b) : NF (ys ++ [u']) := by
  have hp := List.pairwise_append.1 h.pw
  refine ⟨fun w hw => ?_, fun w hw => ?_, ?_⟩
  · rcases List.mem_append.1 hw with h1 | h1
    · exact h.ok w (List.mem_append_left _ h1)
    · rw [List.mem_singleton] at h1; subst h1; exact .inl hl
  · rcases List.mem_append.1 hw with h1 | h1
    · exact h.rd w (List.mem_append_left _ h1)
    · rw [List.mem_singleton] at h1; subst h1; intro h2; grind
  · refine List.pairwise_append.2 ⟨hp.1, List.pairwise_singleton _ _, fun y hy w hw => ?_⟩
    rw [List.mem_singleton] at hw
    subst hw
    have h1 := hp.2.2 y hy u (List.mem_singleton.2 rfl)
    have h2 := h1.bf
    refine ⟨?_, ?_, ?_, ?_⟩
    · unfold GU.bfr at *; rw [ha, ho]; exact h2
    · rw [ha, hf]; exact h1.n1
    · rw [ha, ho, hf]; exact h1.n2
    · rw [ha, hf]; exact h1.n3
theorem snoc_inj {α : Type} {ys zs : List α} {u w : α} (h : ys ++ [u] = zs ++ [w]) : ys = zs ∧ u = w := by
  have := List.append_inj' h rfl
  exact ⟨this.1, by simpa using this.2⟩
theorem nil_or_snoc {α : Type} (xs : List α) : xs = [] ∨ ∃ ys u, xs = ys ++ [u] := by
  rcases List.eq_nil_or_concat xs with h | ⟨ys, u, h⟩
  · exact .inl h
  · exact .inr ⟨ys, u, by simpa using h⟩
/-- A part is taken. -/
theorem NF.app {xs : List (GU T F)} {x : GU T F} (h : NF xs) (hx : x.ok) (hr : x.a = x.b → x.f = red x.f x.a) (ha : ∀ ys u, xs = ys ++ [u] → Adj u x) : NF (xs ++ [x]) := by
  rcases nil_or_snoc xs with rfl | ⟨ys, u, rfl⟩
  · exact NF.one hx hr
  · exact h.snoc hx hr (ha ys u rfl)
theorem has_last {ys : List (GU T F)} {u : GU T F} {t : T} {v : V} : Has (ys ++ [u]) t v ↔ Has ys t v ∨ (u.mem t ∧ va u.f t = v) := by rw [has_app, has_one]
theorem Inv.step {pv : Option (GU T F)} {xs xs' rest : List (GU T F)} {x : GU T F} {S : T → V → Prop} (h : Inv pv xs (x :: rest) S) (hs : Stp pv rest.head? xs x xs') : Inv (some x) xs' rest S := by
  have hx := h.at_ x (.head _)
  have hat : ∀ y ∈ rest, y.atom := fun y hy => h.at_ y (.tail _ hy)
  obtain ⟨hxr, hch⟩ := List.pairwise_cons.1 h.ch
  have sx : ∀ u ∈ xs, u.bfr x := fun u hu => h.sep u hu x (.head _)
  have sr : ∀ u ∈ xs, ∀ y ∈ rest, u.bfr y := fun u hu y hy => h.sep u hu y (.tail _ hy)
  have hst := h.st
  have hnf := h.nf
  have inst : x.a = x.b → x.oa = false ∧ x.ob = false := fun e => by unfold GU.atom at hx; grind
  have long : x.a ≠ x.b → x.a < x.b ∧ x.oa = true ∧ x.ob = true := fun e => by unfold GU.atom at hx; grind
  -- a part that is a single instant is not awaited
  have noP : x.a = x.b → (∀ ys u y r, xs = ys ++ [u] → u.a = u.b → x :: rest = y :: r → y.a = u.b → va u.f y.a ≠ va y.f y.a) ∧ ∀ t v, S t v ↔ Has xs t v ∨ Has (x :: rest) t v := fun e => by
    rcases hst with ⟨q, y, r, -, -, -, -, h1, -, h2, -⟩ | ⟨-, h2, h3⟩
    · injection h1 with h1 _
      subst h1
      have := (inst e).1
      rw [h2] at this
      cases this
    · exact ⟨h2, h3⟩
  cases hs with
  | @ext ys u _ hl hb hu ho hf =>
    obtain ⟨hl1, hl2, hl3⟩ := long hl
    have hub := sx u (by simp)
    have huo := hnf.ok u (by simp)
    have hua : u.a < u.b := by unfold GU.ok at huo; grind
    have hS : ∀ t v, S t v ↔ Has (ys ++ [u]) t v ∨ Has (x :: rest) t v := by
      rcases hst with ⟨q, y, r, -, -, q1, -, h1, h2, -, -, h3, -⟩ | ⟨-, -, h3⟩
      · injection h1 with h1 _
        subst h1
        have h4 := h3 u (by simp)
        unfold GU.bfr at h4
        grind
      · exact h3
    refine ⟨hnf.last (u := u) rfl rfl rfl (by show u.a < x.b; grind), hat, hch, fun w hw y hy => ?_, .inr ⟨fun q hq e => ?_, fun zs w y r hz e _ _ => ?_, fun t v => ?_⟩⟩
    · rcases List.mem_append.1 hw with h1 | h1
      · exact sr w (List.mem_append_left _ h1) y hy
      · rw [List.mem_singleton] at h1
        subst h1
        have := hxr y hy
        unfold GU.bfr at *
        grind
    · injection hq with hq
      subst hq
      exact absurd e hl
    · obtain ⟨-, rfl⟩ := snoc_inj hz
      simp only at e
      grind
    · rw [hS, has_last, has_last, has_cons]
      have hm : (⟨u.a, x.b, u.oa, true, u.f⟩ : GU T F).mem t ↔ u.mem t ∨ x.mem t := by
        unfold GU.mem
        simp only [Bool.true_eq_false, and_false, or_false]
        grind
      rw [hm]
      simp only [hf]
      grind
  | @appO _ _ hl hne hp hh =>
    obtain ⟨hl1, hl2, hl3⟩ := long hl
    rcases hst with ⟨q, y, r, hpv, q0, q1, q2, h1, h2, -, h4, h5, h6, hS⟩ | ⟨hq, -, -⟩
    · injection h1 with h1 h1'
      subst h1
      subst h1'
      refine ⟨hnf.app (.inl hl1) (fun e => absurd e hl) (fun ys u hxs => ?_), hat, hch, fun w hw y hy => ?_, .inr ⟨fun q hq e => ?_, fun zs w y r hz e _ _ => ?_, fun t v => ?_⟩⟩
      · subst hxs
        have hub := h5 u (by simp)
        have huo := hnf.ok u (by simp)
        have h7 := h6 ys u rfl
        unfold GU.bfr GU.ok at *
        refine ⟨?_, fun e1 e2 => ?_, fun e1 e2 => ?_, fun e1 e2 => ?_⟩
        · unfold GU.bfr; grind
        · exfalso; simp only at *; grind
        · simp only at *; rw [h2, h4]; refine h7 ?_ ?_ <;> grind
        · exfalso; simp only at *; grind
      · rcases List.mem_append.1 hw with h1 | h1
        · exact sr w h1 y hy
        · rw [List.mem_singleton] at h1
          subst h1
          have := hxr y hy
          unfold GU.bfr at *
          exact this
      · injection hq with hq
        subst hq
        exact absurd e hl
      · obtain ⟨-, rfl⟩ := snoc_inj hz
        exact absurd e hl
      · rw [hS, has_last, has_cons]
        have hm : (⟨x.a, x.b, false, x.ob, x.f⟩ : GU T F).mem t ↔ t = q.a ∨ x.mem t := by
          unfold GU.mem
          simp only [and_true]
          grind
        rw [hm]
        have hv : t = q.a → va q.f t = va x.f t := fun e => by rw [e, h4]
        simp only
        grind
    · obtain ⟨q, e1, e2, e3⟩ := hp
      exact absurd (e3 ▸ hq q e1 e2) hh
  | @appN _ _ hl hne hp =>
    obtain ⟨hl1, hl2, hl3⟩ := long hl
    rcases hst with ⟨q, y, r, hpv, q0, q1, q2, h1, h2, -, h4, h5, h6, hS⟩ | ⟨-, hI, hS⟩
    · injection h1 with h1 h1'
      subst h1
      refine absurd ⟨⟨q, hpv, q0, h2.symm⟩, ?_⟩ hp
      rintro ⟨ys, u, rfl, e1, e2⟩
      have := h5 u (by simp)
      unfold GU.bfr at this
      grind
    · refine ⟨hnf.app (.inl hl1) (fun e => absurd e hl) (fun ys u hxs => ?_), hat, hch, fun w hw y hy => ?_, .inr ⟨fun q hq e => ?_, fun zs w y r hz e _ _ => ?_, fun t v => ?_⟩⟩
      · subst hxs
        have hub := sx u (by simp)
        refine ⟨hub, fun e1 e2 e3 => hne ys u rfl e1 (by grind) e2, fun e1 e2 => by grind, fun e1 e2 => hI ys u x rest rfl e2 rfl e1.symm⟩
      · rcases List.mem_append.1 hw with h1 | h1
        · exact sr w h1 y hy
        · rw [List.mem_singleton] at h1
          subst h1
          exact hxr y hy
      · injection hq with hq
        subst hq
        exact absurd e hl
      · obtain ⟨-, rfl⟩ := snoc_inj hz
        exact absurd e hl
      · rw [hS, has_last, has_cons]
        grind
  | @clo ys u _ hi hb hu hv =>
    obtain ⟨i1, i2⟩ := inst hi
    obtain ⟨-, hS⟩ := noP hi
    have hub := sx u (by simp)
    have huo := hnf.ok u (by simp)
    have hua : u.a < u.b := by unfold GU.ok at huo; grind
    refine ⟨hnf.last (u := u) rfl rfl rfl hua, hat, hch, fun w hw y hy => ?_, .inr ⟨fun q hq e => ?_, fun zs w y r hz e _ _ => ?_, fun t v => ?_⟩⟩
    · rcases List.mem_append.1 hw with h1 | h1
      · exact sr w (List.mem_append_left _ h1) y hy
      · rw [List.mem_singleton] at h1
        subst h1
        have := hxr y hy
        unfold GU.bfr at *
        grind
    · injection hq with hq
      subst hq
      exact ⟨ys, _, rfl, hb, rfl⟩
    · obtain ⟨-, rfl⟩ := snoc_inj hz
      exact absurd e hu
    · rw [hS, has_last, has_last, has_cons]
      have hm : (⟨u.a, u.b, u.oa, false, u.f⟩ : GU T F).mem t ↔ u.mem t ∨ t = x.a := by
        unfold GU.mem GU.bfr at *
        simp only [and_true]
        grind
      have hmx : x.mem t ↔ t = x.a := by
        unfold GU.mem
        grind
      have hvt : t = x.a → va u.f t = va x.f t := fun e => by rw [e, hv]
      rw [hm, hmx]
      simp only
      grind
  | @lft _ _ hi hc hn =>
    obtain ⟨i1, i2⟩ := inst hi
    obtain ⟨-, hS⟩ := noP hi
    obtain ⟨n, e1, e2, e3⟩ := hn
    cases rest with
    | nil => cases e1
    | cons m r =>
      simp only [List.head?_cons, Option.some.injEq] at e1
      subst e1
      have hxm := hxr m (.head _)
      refine ⟨hnf, hat, hch, sr, .inl ⟨x, m, r, rfl, hi, i1, i2, rfl, e2, ?_, e3, sx, hc, fun t v => ?_⟩⟩
      · unfold GU.bfr at hxm; grind
      · rw [hS, has_cons (u := x)]
        have hmx : x.mem t ↔ t = x.a := by
          unfold GU.mem
          grind
        rw [hmx]
  | @rdc _ _ hi hc hn =>
    obtain ⟨i1, i2⟩ := inst hi
    obtain ⟨-, hS⟩ := noP hi
    refine ⟨hnf.app (.inr ⟨hi, i1, i2⟩) (fun _ => (Fv.red_eq _ _ _ (Fv.va_red _ _)).symm) (fun ys u hxs => ?_), hat, hch, fun w hw y hy => ?_, .inr ⟨fun q hq e => ?_, fun zs w y r hz e hr hy => ?_, fun t v => ?_⟩⟩
    · subst hxs
      have hub := sx u (by simp)
      have huo := hnf.ok u (by simp)
      have h7 := hc ys u rfl
      refine ⟨hub, fun e1 e2 => ?_, fun e1 e2 => ?_, fun e1 e2 => ?_⟩
      · unfold GU.bfr at hub; simp only at *; grind
      · simp only [Fv.va_red] at *
        refine h7 e1 ?_
        unfold GU.bfr GU.ok at *
        grind
      · unfold GU.bfr GU.ok at *; simp only at *; grind
    · rcases List.mem_append.1 hw with h1 | h1
      · exact sr w h1 y hy
      · rw [List.mem_singleton] at h1
        subst h1
        have := hxr y hy
        unfold GU.bfr at *
        exact this
    · injection hq with hq
      subst hq
      exact ⟨xs, _, rfl, hi.symm, i2⟩
    · obtain ⟨-, rfl⟩ := snoc_inj hz
      subst hr
      simp only at e hy ⊢
      rw [hy, ← hi, Fv.va_red]
      intro e4
      exact hn ⟨y, rfl, by rw [hy, hi], e4.symm⟩
    · rw [hS, has_last, has_cons]
      have hmx : x.mem t ↔ t = x.a := by
        unfold GU.mem
        grind
      have hmy : (⟨x.a, x.b, x.oa, x.ob, red x.f x.a⟩ : GU T F).mem t ↔ t = x.a := by
        unfold GU.mem
        simp only
        grind
      have hvt : t = x.a → va (red x.f x.a) t = va x.f t := fun e => by rw [e, Fv.va_red]
      rw [hmx, hmy]
      simp only
      grind
/-- What is made is a normal form, and says what the parts say. -/
theorem Mk.nf {pv : Option (GU T F)} {xs rem out : List (GU T F)} {S : T → V → Prop} (h : Mk pv xs rem out) : Inv pv xs rem S → NF out ∧ ∀ t v, Has out t v ↔ S t v := by
  induction h with
  | nil =>
    intro hi
    refine ⟨hi.nf, fun t v => ?_⟩
    rcases hi.st with ⟨q, x, r, -, -, -, -, h1, -⟩ | ⟨-, -, h3⟩
    · cases h1
    · rw [h3]
      exact ⟨.inl, fun h => h.resolve_right has_nil⟩
  | cons hs _ ih => exact fun hi => ih (hi.step hs)
theorem Inv.start {al : List (GU T F)} (ha : ∀ x ∈ al, x.atom) (hc : al.Pairwise GU.bfr) : Inv none [] al (Has al) :=
  ⟨NF.nil, ha, hc, (fun u hu => by cases hu), .inr ⟨(fun q h => by cases h), (fun ys u x r h => by simp at h), fun t v => ⟨.inr, fun h => h.resolve_left has_nil⟩⟩⟩
variable [DecidableEq T]
def GU.parts (u : GU T F) : List (GU T F) := (if u.oa = true then [] else [⟨u.a, u.a, false, false, u.f⟩]) ++ (if u.a = u.b then [] else ⟨u.a, u.b, true, true, u.f⟩ :: if u.ob = true then [] else [⟨u.b, u.b, false, false, u.f⟩])
theorem parts_mem {u x : GU T F} (h : x ∈ u.parts) : (x = ⟨u.a, u.a, false, false, u.f⟩ ∧ u.oa = false) ∨ (x = ⟨u.a, u.b, true, true, u.f⟩ ∧ u.a ≠ u.b) ∨ (x = ⟨u.b, u.b, false, false, u.f⟩ ∧ u.a ≠ u.b ∧ u.ob = false) := by
  unfold GU.parts at h
  rcases List.mem_append.1 h with h1 | h1
  · split at h1
    · cases h1
    · rename_i ho
      rw [List.mem_singleton] at h1
      exact .inl ⟨h1, by simpa using ho⟩
  · split at h1
    · cases h1
    · rename_i hi
      rcases List.mem_cons.1 h1 with h2 | h2
      · exact .inr (.inl ⟨h2, hi⟩)
      · split at h2
        · cases h2
        · rename_i ho
          rw [List.mem_singleton] at h2
          exact .inr (.inr ⟨h2, hi, by simpa using ho⟩)
theorem parts_atom {u x : GU T F} (hu : u.ok) (h : x ∈ u.parts) : x.atom := by
  unfold GU.atom GU.ok at *
  rcases parts_mem h with ⟨rfl, h1⟩ | ⟨rfl, h1⟩ | ⟨rfl, h1, h2⟩
  · exact .inl ⟨rfl, rfl, rfl⟩
  · exact .inr ⟨by simp only; grind, rfl, rfl⟩
  · exact .inl ⟨rfl, rfl, rfl⟩
theorem parts_bfr {u w x y : GU T F} (hu : u.ok) (hw : w.ok) (h : u.bfr w) (hx : x ∈ u.parts) (hy : y ∈ w.parts) : x.bfr y := by
  unfold GU.bfr GU.ok at *
  rcases parts_mem hx with ⟨rfl, h1⟩ | ⟨rfl, h1⟩ | ⟨rfl, h1, h2⟩ <;> rcases parts_mem hy with ⟨rfl, h3⟩ | ⟨rfl, h3⟩ | ⟨rfl, h3, h4⟩ <;> simp only <;> grind
theorem parts_pw {u : GU T F} (hu : u.ok) : u.parts.Pairwise GU.bfr := by
  unfold GU.parts
  refine List.pairwise_append.2 ⟨?_, ?_, fun x hx y hy => ?_⟩
  · split <;> simp
  · split
    · simp
    · refine List.pairwise_cons.2 ⟨fun y hy => ?_, ?_⟩
      · split at hy
        · cases hy
        · rw [List.mem_singleton] at hy
          subst hy
          exact .inr ⟨rfl, .inl rfl⟩
      · split <;> simp
  · split at hx
    · cases hx
    · rename_i ho
      rw [List.mem_singleton] at hx
      subst hx
      split at hy
      · cases hy
      · rename_i hi
        unfold GU.ok at hu
        rcases List.mem_cons.1 hy with h2 | h2
        · subst h2
          exact .inr ⟨rfl, .inr rfl⟩
        · split at h2
          · cases h2
          · rw [List.mem_singleton] at h2
            subst h2
            exact .inl (by simp only; grind)
theorem parts_has {u : GU T F} (hu : u.ok) {t : T} {v : V} : Has u.parts t v ↔ u.mem t ∧ va u.f t = v := by
  constructor
  · rintro ⟨x, hx, h1, h2⟩
    unfold GU.mem GU.ok at *
    rcases parts_mem hx with ⟨rfl, h3⟩ | ⟨rfl, h3⟩ | ⟨rfl, h3, h4⟩ <;> simp only at h1 h2 <;> refine ⟨?_, h2⟩ <;> grind
  · rintro ⟨h1, h2⟩
    unfold GU.parts
    rw [has_app]
    by_cases ha : u.a = t
    · have hoa : u.oa = false := by unfold GU.mem at h1; grind
      refine .inl ?_
      rw [hoa, if_neg (by decide), has_one]
      exact ⟨⟨.inr ⟨ha, rfl⟩, .inr ⟨ha.symm, rfl⟩⟩, h2⟩
    · refine .inr ?_
      have hne : u.a ≠ u.b := by unfold GU.mem GU.ok at *; grind
      rw [if_neg hne, has_cons]
      by_cases hb : t = u.b
      · have hob : u.ob = false := by unfold GU.mem at h1; grind
        refine .inr ?_
        rw [hob, if_neg (by decide), has_one]
        exact ⟨⟨.inr ⟨hb.symm, rfl⟩, .inr ⟨hb, rfl⟩⟩, h2⟩
      · refine .inl ⟨?_, h2⟩
        unfold GU.mem at *
        simp only
        grind
def partsL (us : List (GU T F)) : List (GU T F) := us.flatMap GU.parts
theorem partsL_cons (u : GU T F) (us : List (GU T F)) : partsL (u :: us) = u.parts ++ partsL us := by simp [partsL]
theorem partsL_at {us : List (GU T F)} (h : ∀ u ∈ us, u.ok) : ∀ x ∈ partsL us, x.atom := fun x hx => by
  obtain ⟨u, hu, h1⟩ := List.mem_flatMap.1 hx
  exact parts_atom (h u hu) h1
theorem partsL_pw : ∀ {us : List (GU T F)}, (∀ u ∈ us, u.ok) → us.Pairwise GU.bfr → (partsL us).Pairwise GU.bfr
  | [], _, _ => by simp [partsL]
  | u :: us, h, hp => by
    obtain ⟨h1, h2⟩ := List.pairwise_cons.1 hp
    rw [partsL_cons]
    refine List.pairwise_append.2 ⟨parts_pw (h u (.head _)), partsL_pw (fun w hw => h w (.tail _ hw)) h2, fun x hx y hy => ?_⟩
    obtain ⟨w, hw, hy⟩ := List.mem_flatMap.1 hy
    exact parts_bfr (h u (.head _)) (h w (.tail _ hw)) (h1 w hw) hx hy
theorem partsL_has : ∀ {us : List (GU T F)}, (∀ u ∈ us, u.ok) → ∀ {t : T} {v : V}, Has (partsL us) t v ↔ Has us t v
  | [], _, t, v => by simp [partsL]
  | u :: us, h, t, v => by rw [partsL_cons, has_app, parts_has (h u (.head _)), has_cons, partsL_has fun w hw => h w (.tail _ hw)]
/-- Units that lie one behind another. -/
theorem pw_of_next : ∀ {l : List (GU T F)}, (∀ u ∈ l, u.ok) → (∀ i (h : i + 1 < l.length), (l[i]).bfr l[i + 1]) → l.Pairwise GU.bfr
  | [], _, _ => .nil
  | [u], _, _ => List.pairwise_singleton _ _
  | u :: w :: l, hok, h => by
    have h1 : u.bfr w := h 0 (by simp)
    have h2 : (w :: l).Pairwise GU.bfr := pw_of_next (fun x hx => hok x (.tail _ hx)) fun i hi => h (i + 1) (by simpa using hi)
    refine List.pairwise_cons.2 ⟨fun y hy => ?_, h2⟩
    rcases List.mem_cons.1 hy with rfl | hy
    · exact h1
    · exact h1.tr (hok w (.tail _ (.head _))) ((List.pairwise_cons.1 h2).1 y hy)
def Dis (u w : GU T F) : Prop := ∀ t, ¬ (u.mem t ∧ w.mem t)
theorem Dis.symm {u w : GU T F} (h : Dis u w) : Dis w u := fun t ⟨h1, h2⟩ => h t ⟨h2, h1⟩
theorem GU.bfr.Dis {u w : GU T F} (h : u.bfr w) : Go.Vt.Dis u w := fun _ ⟨h1, h2⟩ => h.dis h1 h2
theorem bfr_of_dis {u w : GU T F} (hu : u.ok) (hw : w.ok) (hle : u.a < w.a ∨ (u.a = w.a ∧ (u.oa = true → w.oa = true))) (h : Dis u w) : u.bfr w := by
  rcases Classical.em (u.bfr w) with h0 | h0
  · exact h0
  · exfalso
    rcases Classical.em (w.a < u.b) with h1 | h1
    · rcases hw with h2 | ⟨h2, h3, h4⟩
      · obtain ⟨t, h3, h4, h5⟩ := dens2 h1 h2
        refine h t ⟨⟨.inl (by grind), .inl h4⟩, ⟨.inl h3, .inl h5⟩⟩
      · refine h w.a ⟨⟨?_, .inl h1⟩, ⟨.inr ⟨rfl, h3⟩, .inr ⟨h2, h4⟩⟩⟩
        rcases hle with h5 | ⟨h5, h6⟩
        · exact .inl h5
        · refine .inr ⟨h5, ?_⟩
          rcases ho : u.oa with _ | _
          · rfl
          · rw [h6 ho] at h3; cases h3
    · unfold GU.bfr at h0
      have h2 : u.b = w.a := by unfold GU.ok at *; grind
      have h3 : u.ob = false ∧ w.oa = false := by grind
      refine h w.a ⟨⟨?_, .inr ⟨h2.symm, h3.1⟩⟩, ⟨.inr ⟨rfl, h3.2⟩, ?_⟩⟩
      · unfold GU.ok at hu; grind
      · unfold GU.ok at hw; grind
theorem dis_perm {l m : List (GU T F)} (h : l.Perm m) : l.Pairwise Dis ↔ m.Pairwise Dis := h.pairwise_iff fun h => h.symm
theorem has_perm {l m : List (GU T F)} (h : l.Perm m) {t : T} {v : V} : Has l t v ↔ Has m t v := by
  unfold Has
  exact ⟨fun ⟨u, hu, k⟩ => ⟨u, h.mem_iff.1 hu, k⟩, fun ⟨u, hu, k⟩ => ⟨u, h.mem_iff.2 hu, k⟩⟩
end
end Go.Vt
/- The normal form of units of lines: what it says, and that it is determined by that. Conditions: those that each statement names. -/
set_option linter.unusedSimpArgs false
set_option linter.unusedVariables false
set_option maxHeartbeats 2000000
set_option maxRecDepth 100000
namespace Go.Vt
open Go.RowKit Go.Proofs
open Fv (va red)
section
variable {α : Type} [Inhabited α]
/-- Two neighbours change places. -/
def swpG (xs : List α) (j : Nat) : List α := (xs.set (j + 1) (gi xs (j : Int))).set j (gi xs ((j + 1 : Nat) : Int))
def dwnG (c : α → α → Int) (xs : List α) : Nat → List α
  | 0 => xs
  | j + 1 => if c (gi xs ((j + 1 : Nat) : Int)) (gi xs (j : Int)) < 0 then dwnG c (swpG xs j) j else xs
def srtG (c : α → α → Int) (xs : List α) : Nat → List α
  | 0 => xs
  | i + 1 => dwnG c (srtG c xs i) (i + 1)
theorem swpG_len (xs : List α) (j : Nat) : (swpG xs j).length = xs.length := by simp [swpG]
theorem swpG_gi {xs : List α} {j p : Nat} (h : j + 1 < xs.length) (hp : p < xs.length) : gi (swpG xs j) (p : Int) = if p = j then gi xs ((j + 1 : Nat) : Int) else if p = j + 1 then gi xs (j : Int) else gi xs (p : Int) := by
  rw [gi_nat (by rw [swpG_len]; exact hp)]
  unfold swpG
  rw [List.getElem_set, List.getElem_set]
  by_cases h1 : p = j
  · subst h1; simp
  · rw [if_neg (fun h => h1 h.symm), if_neg h1]
    by_cases h2 : p = j + 1
    · subst h2; simp
    · rw [if_neg (fun h => h2 h.symm), if_neg h2, gi_nat hp]
theorem swpG_perm {xs : List α} {j : Nat} (h : j + 1 < xs.length) : (swpG xs j).Perm xs := by
  have e : xs = xs.take j ++ xs[j] :: xs[j + 1] :: xs.drop (j + 2) := by
    rw [← List.drop_eq_getElem_cons h, ← List.drop_eq_getElem_cons (by omega), List.take_append_drop]
  have e2 : swpG xs j = xs.take j ++ xs[j + 1] :: xs[j] :: xs.drop (j + 2) := by
    apply List.ext_getElem
    · rw [swpG_len]
      simp only [List.length_append, List.length_take, List.length_cons, List.length_drop]
      omega
    · intro p h1 h2
      have hp : p < xs.length := by rw [swpG_len] at h1; exact h1
      have h3 := swpG_gi h hp
      rw [gi_nat h1, gi_nat h, gi_nat (show j < xs.length by omega), gi_nat hp] at h3
      rw [h3, List.getElem_append]
      simp only [List.length_take, Nat.min_eq_left (show j ≤ xs.length by omega)]
      by_cases h4 : p < j
      · rw [dif_pos h4, if_neg (by omega), if_neg (by omega)]
        simp
      · rw [dif_neg h4]
        by_cases h5 : p = j
        · subst h5; simp
        · rw [if_neg h5]
          by_cases h6 : p = j + 1
          · subst h6; simp
          · rw [if_neg h6]
            obtain ⟨q, rfl⟩ : ∃ q, p = j + 2 + q := ⟨p - (j + 2), by omega⟩
            simp only [show j + 2 + q - j = q + 1 + 1 by omega, List.getElem_cons_succ, List.getElem_drop]
  have h7 : (xs.take j ++ xs[j + 1] :: xs[j] :: xs.drop (j + 2)).Perm (xs.take j ++ xs[j] :: xs[j + 1] :: xs.drop (j + 2)) := (List.Perm.swap _ _ _).append_left _
  rw [e2]
  exact h7.trans (by rw [← e])
theorem dwnG_perm (c : α → α → Int) : ∀ (j : Nat) (xs : List α), j < xs.length → (dwnG c xs j).Perm xs
  | 0, _, _ => .refl _
  | j + 1, xs, h => by
    rw [dwnG]
    split
    · exact (dwnG_perm c j _ (by rw [swpG_len]; omega)).trans (swpG_perm h)
    · exact .refl _
theorem srtG_perm (c : α → α → Int) (xs : List α) : ∀ i, i < xs.length → (srtG c xs i).Perm xs
  | 0, _ => .refl _
  | i + 1, h => by
    have h1 := srtG_perm c xs i (by omega)
    rw [srtG]
    exact (dwnG_perm c _ _ (by rw [h1.length_eq]; exact h)).trans h1
section
variable {c : α → α → Int} {le : α → α → Prop} (h1 : ∀ x y, c x y < 0 → le x y) (h2 : ∀ x y, ¬ c x y < 0 → le y x) (h3 : ∀ x y z, le x y → le y z → le x z)
include h1 h2 h3
theorem dwnG_ord : ∀ (j n : Nat) (xs : List α), j < n → n ≤ xs.length → (∀ p q : Nat, p < q → q < n → q ≠ j → le (gi xs (p : Int)) (gi xs (q : Int))) → ∀ p q : Nat, p < q → q < n → le (gi (dwnG c xs j) (p : Int)) (gi (dwnG c xs j) (q : Int))
  | 0, n, xs, _, _, H, p, q, hpq, hq => H p q hpq hq (by omega)
  | j + 1, n, xs, hj, hn, H, p, q, hpq, hq => by
    rw [dwnG]
    split
    · rename_i hc
      refine dwnG_ord j n (swpG xs j) (by omega) (by rw [swpG_len]; exact hn) (fun p q hpq hq hqj => ?_) p q hpq hq
      rw [swpG_gi (by omega) (by omega), swpG_gi (by omega) (by omega), if_neg hqj]
      by_cases e1 : q = j + 1
      · rw [if_pos e1]
        by_cases e2 : p = j
        · rw [if_pos e2]; exact h1 _ _ hc
        · rw [if_neg e2, if_neg (by omega)]; exact H p j (by omega) (by omega) (by omega)
      · rw [if_neg e1]
        by_cases e2 : p = j
        · rw [if_pos e2]; exact H (j + 1) q (by omega) hq e1
        · rw [if_neg e2]
          by_cases e3 : p = j + 1
          · rw [if_pos e3]; exact H j q (by omega) hq e1
          · rw [if_neg e3]; exact H p q hpq hq e1
    · rename_i hc
      have h4 := h2 _ _ hc
      by_cases e1 : q = j + 1
      · subst e1
        by_cases e2 : p = j
        · subst e2; exact h4
        · exact h3 _ _ _ (H p j (by omega) (by omega) (by omega)) h4
      · exact H p q hpq hq e1
theorem srtG_ord (xs : List α) : ∀ i, i < xs.length → ∀ p q : Nat, p < q → q < i + 1 → le (gi (srtG c xs i) (p : Int)) (gi (srtG c xs i) (q : Int))
  | 0, _, p, q, _, _ => by omega
  | i + 1, h, p, q, hpq, hq => by
    have hl := (srtG_perm c xs i (by omega)).length_eq
    rw [srtG]
    exact dwnG_ord h1 h2 h3 (i + 1) (i + 2) _ (by omega) (by omega) (fun p q hpq hq hne => srtG_ord xs i (by omega) p q hpq (by omega)) p q hpq hq
end
end
theorem mul_eq0 {a b : Rat} (h : a * b = 0) (ha : a ≠ 0) : b = 0 := by
  rcases Rat.mul_eq_zero.1 h with h1 | h1
  · exact absurd h1 ha
  · exact h1
theorem lin_eq {x0 x1 y0 y1 c d : Rat} (hcd : c < d) (h1 : x0 + c * (x1 + c * 0) = y0 + c * (y1 + c * 0)) (h2 : x0 + d * (x1 + d * 0) = y0 + d * (y1 + d * 0)) : x0 = y0 ∧ x1 = y1 := by
  have h3 : (d - c) * (x1 - y1) = 0 := by grind
  have h4 := mul_eq0 h3 (by grind)
  have h5 : x1 = y1 := by grind
  exact ⟨by grind, h5⟩
instance : Dns Rat := ⟨fun a b h => ⟨(a + b) / 2, by grind, by grind⟩⟩
instance : Fv R_api_Line Rat R_api_Point where
  va := pos
  red := lred
  va_red f t := by
    unfold lred pos
    simp only
    congr 1 <;> grind
  red_eq f g t h := by
    unfold pos at h
    injection h with h1 h2
    unfold lred
    rw [h1, h2]
  agree f g a b h hv := by
    obtain ⟨c, h1, h2⟩ := Dns.out a b h
    obtain ⟨d, h3, h4⟩ := Dns.out c b h2
    have e1 := hv c h1 h2
    have e2 := hv d (by grind) h4
    unfold pos at e1 e2
    injection e1 with p1 p2
    injection e2 with p3 p4
    have q1 := lin_eq h3 p1 p3
    have q2 := lin_eq h3 p2 p4
    cases f
    cases g
    simp_all
theorem va_pos (f : R_api_Line) (t : Rat) : va f t = pos f t := rfl
theorem smL_iff {f g : R_api_Line} {t : Rat} : smL f g t = true ↔ va f t = va g t := by
  unfold smL
  rw [Bool.and_eq_true, qsame_iff, qsame_iff, va_pos, va_pos]
  unfold lnX lnY pos
  simp only [R_api_Point.mk.injEq]
  constructor
  · rintro ⟨h1, h2⟩; constructor <;> grind
  · rintro ⟨h1, h2⟩; constructor <;> grind
/-- A unit, plain. -/
def absU (u : UL) : GU Rat R_api_Line := ⟨u.In.From.P, u.In.To.P, u.In.OpenFrom, u.In.OpenTo, u.F⟩
structure RtOk (x : R_api_Real) : Prop where
  r : x.R = 0
  n : x.Neg = false
theorem rt_eq {x y : R_api_Real} (hx : RtOk x) (hy : RtOk y) : x = y ↔ x.P = y.P := by
  obtain ⟨p, r, n⟩ := x
  obtain ⟨p', r', n'⟩ := y
  obtain ⟨h1, h2⟩ := hx
  obtain ⟨h3, h4⟩ := hy
  simp only at h1 h2 h3 h4
  subst h1
  subst h2
  subst h3
  subst h4
  simp
theorem IvOk.rf {K : Nat} {I : R_api_Interval} (h : IvOk K I) : RtOk I.From := ⟨h.r1, h.n1⟩
theorem IvOk.rt {K : Nat} {I : R_api_Interval} (h : IvOk K I) : RtOk I.To := ⟨h.r2, h.n2⟩
theorem absU_inj {K K' : Nat} {u w : UL} (hu : IvOk K u.In) (hw : IvOk K' w.In) (h : absU u = absU w) : u = w := by
  obtain ⟨⟨f, t, o, c⟩, F⟩ := u
  obtain ⟨⟨f', t', o', c'⟩, F'⟩ := w
  unfold absU at h
  injection h with h1 h2 h3 h4 h5
  simp only at h1 h2 h3 h4 h5
  have e1 := (rt_eq hu.rf hw.rf).2 h1
  have e2 := (rt_eq hu.rt hw.rt).2 h2
  simp only at e1 e2
  subst e1
  subst e2
  subst h3
  subst h4
  subst h5
  rfl
theorem absL_inj {K K' : Nat} : ∀ {l m : List UL}, (∀ u ∈ l, IvOk K u.In) → (∀ u ∈ m, IvOk K' u.In) → l.map absU = m.map absU → l = m
  | [], [], _, _, _ => rfl
  | [], _ :: _, _, _, h => by simp at h
  | _ :: _, [], _, _, h => by simp at h
  | u :: l, w :: m, hl, hm, h => by
    simp only [List.map_cons, List.cons.injEq] at h
    rw [absU_inj (hl u (.head _)) (hm w (.head _)) h.1, absL_inj (fun x hx => hl x (.tail _ hx)) (fun x hx => hm x (.tail _ hx)) h.2]
theorem aprt_iff {u w : UL} : aprt u.In w.In = true ↔ (absU u).bfr (absU w) := by
  unfold aprt GU.bfr absU
  simp
theorem swp_G (xs : List UL) (j : Nat) : swp xs j = swpG xs j := rfl
theorem dwn_G : ∀ (j : Nat) (xs : List UL), dwn xs j = dwnG cmpU xs j
  | 0, _ => rfl
  | j + 1, xs => by rw [dwn, dwnG, dwn_G j, swp_G]
theorem srt_G (xs : List UL) : ∀ i, srt xs i = srtG cmpU xs i
  | 0 => rfl
  | i + 1 => by rw [srt, srtG, dwn_G, srt_G xs i]
theorem sor_perm (us : List UL) : (sor us).Perm us := by
  rcases us with _ | ⟨u, us⟩
  · exact .refl _
  · unfold sor
    rw [srt_G]
    exact srtG_perm _ _ _ (by simp)
def leU (u w : UL) : Prop := u.In.From.P < w.In.From.P ∨ (u.In.From.P = w.In.From.P ∧ opn u.In ≤ opn w.In)
theorem cmpInt_lt {a b : Int} : Lib.compareInt a b < 0 ↔ a < b := by
  unfold Lib.compareInt
  split
  · omega
  · split <;> omega
theorem cmpInt_0 {a b : Int} : Lib.compareInt a b = 0 ↔ a = b := by
  unfold Lib.compareInt
  split
  · omega
  · split <;> omega
theorem cmpU_lt {u w : UL} (h : cmpU u w < 0) : leU u w := by
  unfold cmpU orL at h
  split at h
  · rename_i h1
    have h1 := cq_eq.1 h1
    refine .inr ⟨h1, ?_⟩
    unfold orL at h
    split at h
    · rename_i h2
      have := cmpInt_0.1 h2
      omega
    · have := cmpInt_lt.1 h
      omega
  · exact .inl (cq_lt.1 h)
theorem cmpU_ge {u w : UL} (h : ¬ cmpU u w < 0) : leU w u := by
  unfold cmpU orL at h
  split at h
  · rename_i h1
    have h1 := cq_eq.1 h1
    refine .inr ⟨h1.symm, ?_⟩
    unfold orL at h
    split at h
    · rename_i h2
      have := cmpInt_0.1 h2
      omega
    · have : ¬ opn u.In < opn w.In := fun k => h (cmpInt_lt.2 k)
      omega
  · rename_i h1
    refine .inl ?_
    have h2 : ¬ u.In.From.P < w.In.From.P := fun k => h (cq_lt.2 k)
    have h3 : ¬ u.In.From.P = w.In.From.P := fun k => h1 (cq_eq.2 k)
    grind
theorem leU_tr {u v w : UL} (h : leU u v) (k : leU v w) : leU u w := by
  unfold leU at *
  rcases h with h | ⟨h1, h2⟩ <;> rcases k with k | ⟨k1, k2⟩
  · exact .inl (by grind)
  · exact .inl (by grind)
  · exact .inl (by grind)
  · exact .inr ⟨by grind, by omega⟩
theorem sor_ord (us : List UL) (p q : Nat) (hpq : p < q) (hq : q < us.length) : leU (gi (sor us) (p : Int)) (gi (sor us) (q : Int)) := by
  unfold sor
  rw [srt_G]
  exact srtG_ord (c := cmpU) (le := leU) (fun _ _ => cmpU_lt) (fun _ _ => cmpU_ge) (fun _ _ _ => leU_tr) us (us.length - 1) (by omega) p q hpq (by omega)
theorem parts_abs {u : UL} {K : Nat} (h : IvOk K u.In) : (atU u).map absU = (absU u).parts := by
  have e : (u.In.From = u.In.To) ↔ (absU u).a = (absU u).b := rt_eq h.rf h.rt
  unfold atU GU.parts
  rw [List.map_append]
  congr 1
  · show List.map absU (if u.In.OpenFrom = true then [] else _) = if u.In.OpenFrom = true then [] else _
    split <;> rfl
  · by_cases hi : u.In.From = u.In.To
    · rw [if_pos hi, if_pos (e.1 hi)]
      rfl
    · rw [if_neg hi, if_neg (fun k => hi (e.2 k))]
      show List.map absU (_ :: if u.In.OpenTo = true then [] else _) = _ :: if u.In.OpenTo = true then [] else _
      split <;> rfl
theorem atm_abs {us : List UL} {K : Nat} (h : ∀ u ∈ us, IvOk K u.In) : ∀ m, m ≤ us.length → (atm us m).map absU = partsL ((us.take m).map absU)
  | 0, _ => rfl
  | m + 1, hm => by
    have hg := gi_nat (xs := us) (i := m) (by omega)
    rw [atm, List.map_append, atm_abs h m (by omega), parts_abs (h _ (gi_mem (by omega))), List.take_succ_eq_append_getElem (by omega), List.map_append, partsL, partsL, List.flatMap_append, hg]
    simp
theorem lstU_snoc (ys : List UL) (u : UL) : lstU (ys ++ [u]) = u := by
  unfold lstU
  rw [gi_eq (by simp only [List.length_append, List.length_singleton]; omega)]
  simp only [List.length_append, List.length_singleton]
  rw [List.getElem_append_right (by omega)]
  simp
theorem turn_snoc (ys : List UL) (u w : UL) : turn (ys ++ [u]) w = ys ++ [w] := by
  unfold turn
  simp
theorem isI_iff {u : UL} {K : Nat} (h : IvOk K u.In) : isI u = true ↔ (absU u).a = (absU u).b := by
  unfold isI
  rw [decide_eq_true_iff]
  exact rt_eq h.rf h.rt
theorem map_snoc_inv {ys' : List UL} {u' : UL} {ys : List (GU Rat R_api_Line)} {u : GU Rat R_api_Line} (h : (ys' ++ [u']).map absU = ys ++ [u]) : u = absU u' := by
  rw [List.map_append] at h
  exact (snoc_inj h).2.symm
theorem bef_snoc (zs : List UL) (w : UL) (t : R_api_Real) : bef (zs ++ [w]) t = (decide (w.In.To = t) && !decide (w.In.From = w.In.To)) := by
  unfold bef
  rw [lstU_snoc, decide_eq_true (by simp : 0 < (zs ++ [w]).length), Bool.true_and]
theorem hld_snoc (zs : List UL) (w : UL) (t : R_api_Real) : hld (zs ++ [w]) t = (decide (w.In.To = t) && !w.In.OpenTo) := by
  unfold hld
  rw [lstU_snoc, decide_eq_true (by simp : 0 < (zs ++ [w]).length), Bool.true_and]
def pvO (al : List UL) (i : Nat) : Option (GU Rat R_api_Line) := if i = 0 then none else some (absU (gi al ((i : Int) - 1)))
def nxO (al : List UL) (i : Nat) : Option (GU Rat R_api_Line) := if i + 1 < al.length then some (absU (gi al ((i : Int) + 1))) else none
theorem held_iff {xs : List UL} (hxs : ∀ v ∈ xs, UOk v) {t : R_api_Real} (ht : RtOk t) : hld xs t = true ↔ Held (xs.map absU) t.P := by
  rcases nil_or_snoc xs with rfl | ⟨zs, w, rfl⟩
  · unfold hld Held
    simp
  · rw [hld_snoc]
    have hw := hxs w (by simp)
    simp only [Bool.and_eq_true, decide_eq_true_eq, Bool.not_eq_true']
    rw [rt_eq hw.i.rt ht]
    constructor
    · rintro ⟨h1, h2⟩
      exact ⟨zs.map absU, absU w, by simp, h1, h2⟩
    · rintro ⟨ys, u, h1, h2, h3⟩
      have := map_snoc_inv h1
      subst this
      exact ⟨h2, h3⟩
theorem stp_nrm {al xs : List UL} {i : Nat} {x : UL} (hi : i < al.length) (hal : ∀ u ∈ al, UIn u) (hx : UIn x) (hxs : ∀ v ∈ xs, UOk v) : Stp (pvO al i) (nxO al i) (xs.map absU) (absU x) ((nstp al i xs x).map absU) := by
  have hprev : ∀ q, pvO al i = some q → 0 < i ∧ q = absU (gi al ((i : Int) - 1)) ∧ UIn (gi al ((i : Int) - 1)) := fun q hq => by
    unfold pvO at hq
    split at hq
    · cases hq
    · injection hq with hq
      exact ⟨by omega, hq.symm, hal _ (gi_mem (by omega))⟩
  have hI := isI_iff hx.i
  unfold nstp
  by_cases hi0 : isI x = true
  · have hie := hI.1 hi0
    rw [if_neg (by rw [hi0]; decide)]
    have noClo : cC xs x = false → NoClo (xs.map absU) (absU x) := fun hC ys u h e1 e2 e3 => by
      rcases nil_or_snoc xs with rfl | ⟨zs, w, rfl⟩
      · simp at h
      · have := map_snoc_inv h
        subst this
        have hw := hxs w (by simp)
        have h2 : cC (zs ++ [w]) x = true := by
          unfold cC
          rw [bef_snoc, lstU_snoc, (smL_iff.2 e3 : smL w.F x.F x.In.From.P = true), decide_eq_true ((rt_eq hw.i.rt hx.i.rf).2 e1), decide_eq_false (fun k => e2 ((rt_eq hw.i.rf hw.i.rt).1 k))]
          rfl
        rw [hC] at h2
        cases h2
    by_cases hC : cC xs x = true
    · rw [if_pos hC]
      rcases nil_or_snoc xs with rfl | ⟨zs, w, rfl⟩
      · cases hC
      · have hw := hxs w (by simp)
        unfold cC at hC
        rw [bef_snoc, lstU_snoc] at hC
        simp only [Bool.and_eq_true, decide_eq_true_eq, Bool.not_eq_true', decide_eq_false_iff_not] at hC
        rw [turn_snoc, lstU_snoc, List.map_append, List.map_append]
        exact .clo hie ((rt_eq hw.i.rt hx.i.rf).1 hC.1.1) (fun k => hC.1.2 ((rt_eq hw.i.rf hw.i.rt).2 k)) (smL_iff.1 hC.2)
    · rw [if_neg hC]
      have hno := noClo (by simpa using hC)
      have hnx : cD al i x = true ↔ NxI (nxO al i) (absU x) := by
        unfold cD NxI nxO
        by_cases h1 : i + 1 < al.length
        · rw [decide_eq_true h1, if_pos h1, Bool.true_and]
          have hn := hal _ (gi_mem (i := (i : Int) + 1) (xs := al) (by omega))
          simp only [Bool.and_eq_true, decide_eq_true_eq, Option.some.injEq]
          rw [rt_eq hn.i.rf hx.i.rf, smL_iff]
          constructor
          · rintro ⟨h2, h3⟩
            exact ⟨_, rfl, h2, h3⟩
          · rintro ⟨n, rfl, h2, h3⟩
            exact ⟨h2, h3⟩
        · rw [decide_eq_false h1, if_neg h1]
          simp
      by_cases hD : cD al i x = true
      · rw [if_pos hD]
        exact .lft hie hno (hnx.1 hD)
      · rw [if_neg hD, List.map_append]
        exact .rdc hie hno (fun k => hD (hnx.2 k))
  · have hie : (absU x).a ≠ (absU x).b := fun k => hi0 (hI.2 k)
    rw [if_pos (by simpa using hi0)]
    by_cases hA : cA xs x = true
    · rw [if_pos hA]
      rcases nil_or_snoc xs with rfl | ⟨zs, w, rfl⟩
      · cases hA
      · have hw := hxs w (by simp)
        unfold cA at hA
        rw [bef_snoc, lstU_snoc] at hA
        simp only [Bool.and_eq_true, decide_eq_true_eq, Bool.not_eq_true', decide_eq_false_iff_not] at hA
        rw [turn_snoc, lstU_snoc, List.map_append, List.map_append]
        exact .ext hie ((rt_eq hw.i.rt hx.i.rf).1 hA.1.1) (fun k => hA.1.2 ((rt_eq hw.i.rf hw.i.rt).2 k)) hA.2.1 hA.2.2
    · rw [if_neg hA]
      have hno : NoExt (xs.map absU) (absU x) := fun ys u h e1 e2 e3 e4 => by
        rcases nil_or_snoc xs with rfl | ⟨zs, w, rfl⟩
        · simp at h
        · have := map_snoc_inv h
          subst this
          have hw := hxs w (by simp)
          refine hA ?_
          unfold cA
          rw [bef_snoc, lstU_snoc, decide_eq_true ((rt_eq hw.i.rt hx.i.rf).2 e1), decide_eq_false (fun k => e2 ((rt_eq hw.i.rf hw.i.rt).1 k)), show w.In.OpenTo = false from e3, decide_eq_true (show w.F = x.F from e4)]
          rfl
      have hpv : cB al i xs x = true ↔ PvI (pvO al i) (absU x) ∧ ¬ Held (xs.map absU) (absU x).a := by
        have hh := held_iff hxs hx.i.rf
        unfold cB
        by_cases h1 : 0 < i
        · rw [decide_eq_true h1, Bool.true_and]
          have hn := hal _ (gi_mem (i := (i : Int) - 1) (xs := al) (by omega))
          simp only [Bool.and_eq_true, decide_eq_true_eq, Bool.not_eq_true']
          rw [isI_iff hn.i, rt_eq hn.i.rf hx.i.rf]
          unfold PvI pvO
          rw [if_neg (by omega)]
          constructor
          · rintro ⟨h2, h3, h4⟩
            refine ⟨⟨_, rfl, h2, h3⟩, fun k => ?_⟩
            rw [hh.2 k] at h4
            cases h4
          · rintro ⟨⟨q, h2, h3, h4⟩, h5⟩
            injection h2 with h2
            subst h2
            refine ⟨h3, h4, ?_⟩
            rcases h6 : hld xs x.In.From with _ | _
            · rfl
            · exact absurd (hh.1 h6) h5
        · rw [decide_eq_false h1, Bool.false_and]
          unfold PvI pvO
          rw [if_pos (by omega)]
          simp
      by_cases hB : cB al i xs x = true
      · rw [if_pos hB, List.map_append]
        have := hpv.1 hB
        exact .appO hie hno this.1 this.2
      · rw [if_neg hB, List.map_append]
        exact .appN hie hno (fun k => hB (hpv.2 k))
theorem mk_nrm {al : List UL} (hal : ∀ u ∈ al, UIn u) : ∀ d i, i + d = al.length → Mk (pvO al i) ((nrm al i).map absU) ((al.drop i).map absU) ((nrm al al.length).map absU)
  | 0, i, h => by
    rw [Nat.add_zero] at h
    subst h
    rw [List.drop_length]
    exact .nil
  | d + 1, i, h => by
    have hi : i < al.length := by omega
    have ih := mk_nrm hal d (i + 1) (by omega)
    have hg := gi_nat hi
    have hx := hal _ (gi_mem (i := (i : Int)) (xs := al) (by omega))
    rw [List.drop_eq_getElem_cons hi, List.map_cons, ← hg]
    have e1 : pvO al (i + 1) = some (absU (gi al (i : Int))) := by
      unfold pvO
      rw [if_neg (by omega), show ((i + 1 : Nat) : Int) - 1 = (i : Int) by omega]
    have e2 : ((al.drop (i + 1)).map absU).head? = nxO al i := by
      unfold nxO
      by_cases h1 : i + 1 < al.length
      · rw [if_pos h1, List.drop_eq_getElem_cons h1, List.map_cons, List.head?_cons, ← gi_nat h1]
        rfl
      · rw [if_neg h1, List.drop_eq_nil_of_le (by omega)]
        rfl
    refine .cons ?_ (e1 ▸ ih)
    rw [e2, nrm]
    exact stp_nrm hi hal hx (nrm_ok hal i (by omega))
theorem next_of_aprN {l : List UL} : ∀ m, m ≤ l.length → aprN l m = true → ∀ i (h : i + 1 < m), aprt (gi l (i : Int)).In (gi l ((i + 1 : Nat) : Int)).In = true
  | 0, _, _, i, h => by omega
  | m + 1, hm, ha, i, h => by
    rw [aprN, Bool.and_eq_true] at ha
    rcases (by omega : i + 1 < m ∨ i + 1 = m) with h1 | h1
    · exact next_of_aprN m (by omega) ha.1 i h1
    · subst h1
      have h2 := ha.2
      rw [decide_eq_true (by omega : 0 < i + 1), show ((i + 1 : Nat) : Int) - 1 = (i : Int) by omega, Bool.true_and, Bool.not_not] at h2
      exact h2
theorem aprN_of_next {l : List UL} (H : ∀ i, i + 1 < l.length → aprt (gi l (i : Int)).In (gi l ((i + 1 : Nat) : Int)).In = true) : ∀ m, m ≤ l.length → aprN l m = true
  | 0, _ => rfl
  | m + 1, hm => by
    rw [aprN, aprN_of_next H m (by omega), Bool.true_and]
    rcases m with _ | m
    · rfl
    · rw [decide_eq_true (by omega : 0 < m + 1), show ((m + 1 : Nat) : Int) - 1 = (m : Int) by omega, H m (by omega)]
      rfl
/-- Units whose intervals are not empty. -/
structure UVal (us : List UL) : Prop where
  i : ∀ u ∈ us, UIn u
  v : ∀ u ∈ us, (absU u).ok
theorem UVal.sor {us : List UL} (h : UVal us) : UVal (sor us) := ⟨fun u hu => h.i u (sor_mem hu), fun u hu => h.v u (sor_mem hu)⟩
theorem sor_pw {us : List UL} (h : UVal us) (ha : aprN (sor us) (sor us).length = true) : ((sor us).map absU).Pairwise GU.bfr := by
  have hs := h.sor
  refine pw_of_next (fun u hu => ?_) (fun i hi => ?_)
  · obtain ⟨w, hw, rfl⟩ := List.mem_map.1 hu
    exact hs.v w hw
  · rw [List.length_map] at hi
    have := next_of_aprN _ (Nat.le_refl _) ha i hi
    rw [aprt_iff, gi_nat (by omega), gi_nat hi] at this
    simpa using this
theorem dis_of_apr {us : List UL} (h : UVal us) (ha : aprN (sor us) (sor us).length = true) : (us.map absU).Pairwise Dis :=
  (dis_perm ((sor_perm us).map absU)).1 ((sor_pw h ha).imp fun h => h.Dis)
theorem apr_of_dis {us : List UL} (h : UVal us) (hd : (us.map absU).Pairwise Dis) : aprN (sor us) (sor us).length = true := by
  have hs := h.sor
  have hp := (dis_perm ((sor_perm us).map absU)).2 hd
  refine aprN_of_next (fun i hi => ?_) _ (Nat.le_refl _)
  have hl := sor_len us
  have ho := sor_ord us i (i + 1) (by omega) (by omega)
  have hdi := List.pairwise_iff_getElem.1 hp i (i + 1) (by rw [List.length_map]; omega) (by rw [List.length_map]; omega) (by omega)
  rw [List.getElem_map, List.getElem_map, ← gi_nat (by omega), ← gi_nat hi] at hdi
  rw [aprt_iff]
  refine bfr_of_dis (hs.v _ (gi_mem (by omega))) (hs.v _ (gi_mem (by omega))) ?_ hdi
  rcases ho with h1 | ⟨h1, h2⟩
  · exact .inl h1
  · refine .inr ⟨h1, fun k => ?_⟩
    have k' : (gi (Go.Vt.sor us) (i : Int)).In.OpenFrom = true := k
    show (gi (Go.Vt.sor us) ((i + 1 : Nat) : Int)).In.OpenFrom = true
    unfold opn at h2
    rw [if_pos k'] at h2
    split at h2
    · assumption
    · omega
theorem nrmE_0 {us : List UL} (h : UVal us) : nrmE us = 0 ↔ (us.map absU).Pairwise Dis := by
  unfold nrmE
  constructor
  · intro k
    split at k
    · exact dis_of_apr h (by assumption)
    · cases k
  · intro k
    rw [if_pos (apr_of_dis h k)]
theorem nrmE_01 (us : List UL) : nrmE us = 0 ∨ (nrmE us = 11 ∧ nrmR us = []) := by
  unfold nrmE nrmR
  split
  · exact .inl rfl
  · exact .inr ⟨rfl, rfl⟩
/-- The normal form, and what it says. -/
theorem nrm_nf {us : List UL} (h : UVal us) (hd : (us.map absU).Pairwise Dis) : NF ((nrmR us).map absU) ∧ ∀ t v, Has ((nrmR us).map absU) t v ↔ Has (us.map absU) t v := by
  have hs := h.sor
  have ha := apr_of_dis h hd
  have hp := sor_pw h ha
  have hok : ∀ u ∈ (Go.Vt.sor us).map absU, u.ok := fun u hu => by
    obtain ⟨w, hw, rfl⟩ := List.mem_map.1 hu
    exact hs.v w hw
  have hall := atm_ok hs.i (Go.Vt.sor us).length (Nat.le_refl _)
  have hmk := mk_nrm hall _ 0 (Nat.zero_add _)
  have hparts : (atm (Go.Vt.sor us) (Go.Vt.sor us).length).map absU = partsL ((Go.Vt.sor us).map absU) := by
    have := atm_abs (fun u hu => (hs.i u hu).i) (Go.Vt.sor us).length (Nat.le_refl _)
    rw [List.take_length] at this
    exact this
  rw [List.drop_zero, hparts] at hmk
  have hinv := Inv.start (partsL_at hok) (partsL_pw hok hp)
  have e : nrmR us = nrm (atm (Go.Vt.sor us) (Go.Vt.sor us).length) (atm (Go.Vt.sor us) (Go.Vt.sor us).length).length := by
    unfold nrmR allU
    rw [if_pos ha]
  rw [e]
  obtain ⟨h1, h2⟩ := hmk.nf hinv
  refine ⟨h1, fun t v => ?_⟩
  rw [h2, partsL_has hok]
  exact has_perm ((sor_perm us).map absU)
theorem nrmR_ok {us : List UL} (h : ∀ u ∈ us, UIn u) : ∀ v ∈ nrmR us, UOk v := by
  unfold nrmR
  split
  · exact nrm_ok (atm_ok (fun u hu => h u (sor_mem hu)) _ (Nat.le_refl _)) _ (Nat.le_refl _)
  · intro v hv
    cases hv
end Go.Vt
/- A region that draws its order: values anywhere, allocations in any order, then effects in a forced order. Conditions: the closed check 'drlB'. -/
set_option linter.unusedSimpArgs false
set_option linter.unusedVariables false
set_option maxHeartbeats 2000000
set_option linter.unusedSectionVars false
namespace Go.Vt
open Go.RowKit
section
variable {P : Program} {w0 : World} {n : Nat} {ops : Array Oper} {L L' Lw : List Blk} {E : Env}
variable {Q : Exit → Act → World → Prop} {v : Value}
/-- Whatever order is drawn; 'As' may come at any time. -/
def wpK (P : Program) (w0 : World) (ops : Array Oper) (As : List Nat) (Lw : List Blk) (F : List Blk → Act → Prop) : Nat → Array Bool → List Nat → List Blk → Act → Prop
  | 0, listed, es, L, a => es = [] ∧ Region.ready .any ops listed = [] ∧ F L a
  | f + 1, listed, es, L, a => Region.ready .any ops listed ≠ [] ∧ ∀ i ∈ Region.ready .any ops listed, ∃ o, ops[i]? = some o ∧
      ((∃ v, YieldsC P w0 L ops o v a ∧ wpK P w0 ops As Lw F f (listed.setIfInBounds i true) es L (a.put o.dst v)) ∨
       ∃ es', (es = i :: es' ∨ (As.contains i = true ∧ es' = es)) ∧ Eff P w0 Lw ops L o a fun L' u => wpK P w0 ops As Lw F f (listed.setIfInBounds i true) es' L' (a.put o.dst u))
theorem wpK_first {As : List Nat} {i : Nat} {oi : Oper} {F : List Blk → Act → Prop} (hi : ops[i]? = some oi) (hsel : ∀ (j : Nat) (o : Oper) cs b, ops[j]? = some o → o.op ≠ .select cs b) :
    ∀ (f : Nat) (listed : Array Bool) (es : List Nat) (L : List Blk) (a : Act),
      (∀ j oj, ops[j]? = some oj → j ≠ i → listed.getD j true = false → (∀ e ∈ oj.after, Region.binds .any e = true → e.on ≠ i) → oi.apart ops oj = true) →
      i ∈ Region.ready .any ops listed → YieldsC P w0 Lw ops oi v a → Weak w0 Lw L →
      wpK P w0 ops As Lw F f (listed.setIfInBounds i true) es L (a.put oi.dst v) → wpK P w0 ops As Lw F (f + 1) listed es L a := by
  intro f
  induction f with
  | zero =>
    intro listed es L a _ hr hy hw H
    refine ⟨fun h => (by rw [h] at hr; cases hr), fun j hj => ?_⟩
    by_cases hji : j = i
    · subst hji
      exact ⟨oi, hi, .inl ⟨v, hy.weak hw, H⟩⟩
    · have := ready_mono hj hji
      rw [H.2.1] at this
      cases this
  | succ f ih =>
    intro listed es L a hfree hr hy hw H
    have hun := (mem_ready.1 hr).1
    refine ⟨fun h => (by rw [h] at hr; cases hr), fun j hj => ?_⟩
    by_cases hji : j = i
    · subst hji
      exact ⟨oi, hi, .inl ⟨v, hy.weak hw, H⟩⟩
    · obtain ⟨hjun, oj, hoj, hall⟩ := mem_ready.1 hj
      have hnot : ∀ e ∈ oj.after, Region.binds .any e = true → e.on ≠ i := fun e he hb heq => by
        have h1 := hall e he hb
        rw [heq, getD_both hun] at h1
        cases h1
      obtain ⟨h1, h2, h3⟩ := Oper.apart_spec (hfree j oj hoj hji hjun hnot)
      have hfree' : ∀ q oq, ops[q]? = some oq → q ≠ i → (listed.setIfInBounds j true).getD q true = false →
          (∀ e ∈ oq.after, Region.binds .any e = true → e.on ≠ i) → oi.apart ops oq = true := fun q oq hq hqi hun' hno => by
        refine hfree q oq hq hqi ?_ hno
        by_cases hjq : j = q
        · subst hjq; exact hjun
        · rw [getD_set_ne true hjq] at hun'; exact hun'
      have keep : ∀ u, YieldsC P w0 Lw ops oi v (a.put oj.dst u) := fun u => hy.same (execOp_put oi (fun cs b => hsel i oi cs b hi) a oj.dst u h3) (wanted_put oi a oj.dst u h3)
      have hex : execOp (a.put oi.dst v).eval oj = execOp a.eval oj := execOp_put oj (fun cs b => hsel j oj cs b hoj) a oi.dst v h1
      have hwa : Region.wanted oj (yielded ops (a.put oi.dst v).tmps) = Region.wanted oj (yielded ops a.tmps) := wanted_put oj a oi.dst v h1
      have step : ∀ es' L' u, Weak w0 Lw L' → wpK P w0 ops As Lw F f ((listed.setIfInBounds i true).setIfInBounds j true) es' L' ((a.put oi.dst v).put oj.dst u) → wpK P w0 ops As Lw F (f + 1) (listed.setIfInBounds j true) es' L' (a.put oj.dst u) := fun es' L' u hw' hh => by
        refine ih _ _ _ _ hfree' (ready_mono hr (Ne.symm hji)) (keep u) hw' ?_
        rw [Array.setIfInBounds_comm _ _ hji, ← Act.put_comm a v u h2]
        exact hh
      obtain ⟨o, ho, hH⟩ := H.2 j (ready_mono hj hji)
      have : o = oj := Option.some.inj (ho.symm.trans hoj)
      subst this
      refine ⟨o, ho, ?_⟩
      rcases hH with ⟨u, hu, hK⟩ | ⟨es', he, hE⟩
      · exact .inl ⟨u, hu.same hex.symm hwa.symm, step _ _ _ hw hK⟩
      · refine .inr ⟨es', he, hwa ▸ hE.1, fun w hw1 => ?_⟩
        have hH := hE.2 w hw1
        rw [hex] at hH
        exact hH.mono fun u w' ⟨L', h5, h6, h7⟩ => ⟨L', h5, h6, step _ _ _ h6 h7⟩
theorem wpAny_of_wpK {As : List Nat} {F : List Blk → Act → Prop} (hF : ∀ L a w, F L a → Own w0 L w → Q .normal a w) :
    ∀ (f : Nat) (listed : Array Bool) (es : List Nat) (L : List Blk) (a : Act) (w : World), Own w0 L w → wpK P w0 ops As Lw F f listed es L a → wpAny P .any ops Q f listed a w
  | 0, listed, es, L, a, w, hw, h => ⟨h.2.1, hF _ _ _ h.2.2 hw⟩
  | f + 1, listed, es, L, a, w, hw, h => by
    refine ⟨fun h0 => absurd h0 h.1, fun i hi => ?_⟩
    obtain ⟨o, ho, hH⟩ := h.2 i hi
    unfold wpOp
    simp only [ho]
    rcases hH with ⟨v, hy, hK⟩ | ⟨es', _, hwt, hE⟩
    · rcases hy with ⟨hwt, hy⟩ | ⟨hwt, rfl⟩
      · rw [if_pos hwt]
        exact .inl (wp_of_calm (hy w hw) fun w' hx => wpAny_of_wpK hF f _ _ _ _ _ (hw.to hx) hK)
      · rw [if_neg (by rw [hwt]; simp)]
        exact wpAny_of_wpK hF f _ _ _ _ _ hw hK
    · rw [if_pos hwt]
      exact .inl (wp_of_hap ((hE w hw).mono fun u w' ⟨L', hw', _, hK⟩ => wpAny_of_wpK hF f _ _ _ _ _ hw' hK))
theorem wpK_of_ec {As : List Nat} {F : List Blk → Act → Prop} : ∀ (es : List Nat) (listed : Array Bool) (L : List Blk) (a : Act), seqE ops es listed = true → EC P w0 ops [] Lw F es L a → wpK P w0 ops As Lw F es.length listed es L a
  | [], listed, L, a, hB, h => ⟨rfl, by simpa [seqE] using hB, h⟩
  | i :: es, listed, L, a, hB, h => by
    simp only [seqE, Bool.and_eq_true, decide_eq_true_eq] at hB
    refine ⟨by rw [hB.1]; simp, fun j hj => ?_⟩
    rw [hB.1] at hj
    have : j = i := by simpa using hj
    subst this
    obtain ⟨o, ho, hE⟩ := h
    exact ⟨o, ho, .inr ⟨es, .inl rfl, Eff.mono hE fun L' u _ hK => wpK_of_ec es _ _ _ hB.2 hK⟩⟩
def AK (P : Program) (ops : Array Oper) (F : List Blk → Act → Prop) : List Nat → List Blk → Act → Prop
  | [], L, a => F L a
  | i :: is, L, a => ∃ o T z, ops[i]? = some o ∧ isNew o = some T ∧ (P.info? T).bind (·.zero) = some z ∧ ∀ b, AK P ops F is (⟨b, z.cells, T⟩ :: L) (a.put o.dst (.pointer (some ⟨b, 0, none⟩)))
theorem AK.perm {F : List Blk → Act → Prop} (hF : ∀ L M a, L.Perm M → F L a → F M a) : ∀ (is : List Nat) (L M : List Blk) (a : Act), L.Perm M → AK P ops F is L a → AK P ops F is M a
  | [], L, M, a, p, h => hF L M a p h
  | i :: is, L, M, a, p, ⟨o, T, z, h1, h2, h3, h⟩ => ⟨o, T, z, h1, h2, h3, fun b => AK.perm hF is _ _ _ (p.cons _) (h b)⟩
/-- All their destinations differ. -/
def dsB (ops : Array Oper) : List Nat → Bool
  | [] => true
  | i :: is => is.all (fun j => match (ops[i]?).bind (·.dst), (ops[j]?).bind (·.dst) with | some d, some e => d != e | _, _ => true) && dsB ops is
theorem AK.pick {F : List Blk → Act → Prop} (hF : ∀ L M a, L.Perm M → F L a → F M a) : ∀ (is : List Nat) (L : List Blk) (a : Act) (i : Nat), i ∈ is → dsB ops is = true → AK P ops F is L a →
    ∃ o T z, ops[i]? = some o ∧ isNew o = some T ∧ (P.info? T).bind (·.zero) = some z ∧ ∀ b, AK P ops F (is.erase i) (⟨b, z.cells, T⟩ :: L) (a.put o.dst (.pointer (some ⟨b, 0, none⟩)))
  | [], _, _, _, h, _, _ => by cases h
  | j :: is, L, a, i, hi, hd, ⟨oj, Tj, zj, h1, h2, h3, h⟩ => by
    by_cases hij : j = i
    · subst hij
      rw [List.erase_cons_head]
      exact ⟨oj, Tj, zj, h1, h2, h3, h⟩
    · have hi' : i ∈ is := by
        rcases List.mem_cons.1 hi with h4 | h4
        · exact absurd h4.symm hij
        · exact h4
      simp only [dsB, Bool.and_eq_true, List.all_eq_true] at hd
      obtain ⟨o, T, z, k1, k2, k3, -⟩ := AK.pick hF is _ _ i hi' hd.2 (h 0)
      refine ⟨o, T, z, k1, k2, k3, fun b => ?_⟩
      rw [List.erase_cons_tail (by simpa using hij)]
      refine ⟨oj, Tj, zj, h1, h2, h3, fun bj => ?_⟩
      obtain ⟨o', T', z', m1, m2, m3, m⟩ := AK.pick hF is _ _ i hi' hd.2 (h bj)
      obtain rfl : o' = o := Option.some.inj (m1.symm.trans k1)
      obtain rfl : T' = T := Option.some.inj (m2.symm.trans k2)
      obtain rfl : z' = z := Option.some.inj (m3.symm.trans k3)
      have hne : ∀ d e, oj.dst = some d → o'.dst = some e → d ≠ e := fun d e hd1 he1 => by
        have := hd.1 i hi'
        simp [h1, k1, hd1, he1] at this
        exact this
      have hput : (a.put oj.dst (.pointer (some ⟨bj, 0, none⟩))).put o'.dst (.pointer (some ⟨b, 0, none⟩)) = (a.put o'.dst (.pointer (some ⟨b, 0, none⟩))).put oj.dst (.pointer (some ⟨bj, 0, none⟩)) := by
        obtain ⟨-, -, d, hd1⟩ := isNew_spec h2
        obtain ⟨-, -, e, he1⟩ := isNew_spec k2
        have hde := hne d e hd1 he1
        rw [hd1, he1]
        simp only [Act.put]
        rw [Array.setIfInBounds_comm _ _ hde]
      have hm := m b
      rw [hput] at hm
      exact AK.perm hF _ _ _ _ (.swap _ _ _) hm
/-- The check: the allocations alone are ready, in whatever order they are taken; behind them the effects are forced. -/
def alB (ops : Array Oper) (es : List Nat) : Nat → List Nat → Array Bool → Bool
  | _, [], listed => seqE ops es listed
  | 0, _ :: _, _ => false
  | f + 1, i :: is, listed => decide (Region.ready .any ops listed = i :: is) && (i :: is).all fun j => alB ops es f ((i :: is).erase j) (listed.setIfInBounds j true)
theorem wpK_of_ak {As : List Nat} {F : List Blk → Act → Prop} {es : List Nat} (hF : ∀ L M a, L.Perm M → F L a → F M a) (hw : ∀ e : Blk, Weak w0 Lw L → Weak w0 Lw (e :: L)) : ∀ (f : Nat) (is : List Nat) (listed : Array Bool) (L : List Blk) (a : Act), alB ops es f is listed = true → dsB ops is = true → (∀ i ∈ is, As.contains i = true) → is.Nodup → Weak w0 Lw L →
    AK P ops (fun L a => EC P w0 ops [] Lw F es L a) is L a → wpK P w0 ops As Lw F (is.length + es.length) listed es L a := by
  have hEC : ∀ (es : List Nat) (L M : List Blk) (a : Act), L.Perm M → EC P w0 ops [] Lw F es L a → EC P w0 ops [] Lw F es M a := fun es L M a p h => by
    cases es with
    | nil => exact hF L M a p h
    | cons i es =>
      obtain ⟨o, ho, h1, h2⟩ := h
      exact ⟨o, ho, h1, fun w hw => h2 w (hw.perm p.symm)⟩
  intro f
  induction f with
  | zero =>
    intro is listed L a hB hd hA hnd hw h
    cases is with
    | nil =>
      rw [List.length_nil, Nat.zero_add]
      exact wpK_of_ec es listed L a hB h
    | cons i is => cases hB
  | succ f ih =>
    intro is listed L a hB hd hA hnd hw h
    cases is with
    | nil =>
      rw [List.length_nil, Nat.zero_add]
      exact wpK_of_ec es listed L a hB h
    | cons i is =>
      simp only [alB, Bool.and_eq_true, decide_eq_true_eq, List.all_eq_true] at hB
      rw [show (i :: is).length + es.length = (is.length + es.length) + 1 by simp only [List.length_cons]; omega]
      refine ⟨by rw [hB.1]; simp, fun j hj => ?_⟩
      rw [hB.1] at hj
      obtain ⟨o, T, z, h1, h2, h3, hk⟩ := AK.pick (hEC es) _ _ _ j hj hd h
      obtain ⟨hop, hgd, d, hdd⟩ := isNew_spec h2
      refine ⟨o, h1, .inr ⟨es, .inr ⟨hA j hj, rfl⟩, by simp [Region.wanted, hgd], fun w hw1 => ?_⟩⟩
      have hrun : (execOp a.eval o).run P w = .ok (.value (.pointer (some ⟨w.heap.size, 0, none⟩))) (w.alloc (.cells z.cells T)) := by
        cases hinf : P.info? T with
        | none => simp [hinf] at h3
        | some ti =>
          have hz' : ti.zero = some z := by simpa [hinf] using h3
          obtain ⟨dst, op, ty, pos, aft, gd⟩ := o
          simp only at hop
          subst hop
          simp [execOp, Instr.alloc, zeroValue, typeInfo, hinf, hz', newVar, newRow]
      rw [hrun]
      have hwk : Weak w0 Lw (⟨w.heap.size, z.cells, T⟩ :: L) := fun w1 h1 => hw w1 (h1.sub (List.sublist_cons_self _ _))
      refine ⟨_, hw1.alloc z.cells T, hwk, ?_⟩
      have hlen : ((i :: is).erase j).length = is.length := by rw [List.length_erase_of_mem hj]; rfl
      have hds : dsB ops ((i :: is).erase j) = true := by
        have key : ∀ l : List Nat, dsB ops l = true → ∀ j, dsB ops (l.erase j) = true := fun l => by
          induction l with
          | nil => intro _ j; rfl
          | cons x l ihl =>
            intro h j
            simp only [dsB, Bool.and_eq_true] at h
            rw [List.erase_cons]
            split
            · exact h.2
            · simp only [dsB, Bool.and_eq_true]
              exact ⟨List.all_eq_true.2 fun y hy => List.all_eq_true.1 h.1 y (List.mem_of_mem_erase hy), ihl h.2 j⟩
        exact key _ hd j
      have := ih ((i :: is).erase j) (listed.setIfInBounds j true) _ _ (hB.2 j hj) hds (fun q hq => hA q (List.mem_of_mem_erase hq)) (hnd.erase j) hwk (hk w.heap.size)
      rw [hlen] at this
      exact this
def drlB (ops : Array Oper) (N : Nat) (P : Program) (hs As es : List Nat) : Bool :=
  Region.noSelect ops && decide (hs.length + (As.length + es.length) = ops.size) && dsB ops As && decide As.Nodup && es.all (fun i => decide (i < ops.size)) &&
    As.all (fun i => match ops[i]? with | some o => dstOk N o.dst | none => false) && lexF ops (alB ops es As.length As) hs (Array.replicate ops.size false)
theorem wpK_of_ahF {l : List Oper} {As : List Nat} {F : List Blk → Act → Prop} {es : List Nat} {G : Act → Prop} {N : Nat} {k : Array Bool → Bool} (hk : ∀ listed a, k listed = true → G a → wpK P w0 l.toArray As Lw F N listed es L a) (hsel : Region.noSelect l.toArray = true) (hw : Weak w0 Lw L) : ∀ (hs : List Nat) (listed : Array Bool) (a : Act), lexF l.toArray k hs listed = true →
    AH P w0 Lw l.toArray G (picks l hs) a → wpK P w0 l.toArray As Lw F (hs.length + N) listed es L a
  | [], listed, a, hB, h => by
    rw [List.length_nil, Nat.zero_add]
    exact hk listed a hB h
  | i :: hs, listed, a, hB, h => by
    simp only [lexF, Bool.and_eq_true] at hB
    obtain ⟨⟨hr, hf⟩, hB'⟩ := hB
    have hr' : i ∈ Region.ready .any l.toArray listed := by simpa using hr
    obtain ⟨_, o, ho, _⟩ := mem_ready.1 hr'
    have ho' : l[i]? = some o := by simpa using ho
    simp only [picks, ho', AH] at h
    obtain ⟨v, hy, h⟩ := h
    rw [show (i :: hs).length + N = (hs.length + N) + 1 by simp only [List.length_cons]; omega]
    exact wpK_first ho (Region.noSelect_spec hsel) _ _ _ _ _ (Region.free_spec ho hf) hr' hy hw (wpK_of_ahF hk hsel hw hs _ _ hB' h)
theorem ak_of_jn {l : List Oper} {K : Env → List Blk → Prop} {F : List Blk → Act → Prop} (hK : ∀ E L a, Rep n E a → K E L → F L a) : ∀ (is : List Nat) (E : Env) (L : List Blk) (a : Act), is.all (fun i => match l.toArray[i]? with | some o => dstOk n o.dst | none => false) = true → Rep n E a → JN P n K (picks l is) E L → AK P l.toArray F is L a
  | [], E, L, a, _, ha, h => hK E L a ha h
  | i :: is, E, L, a, hi, ha, h => by
    simp only [List.all_cons, Bool.and_eq_true] at hi
    cases ho : l[i]? with
    | none => simp [ho] at hi
    | some o =>
      simp only [picks, ho] at h
      obtain ⟨T, z, h1, h2, h3⟩ := h
      have hd : dstOk n o.dst = true := by simpa [ho] using hi.1
      exact ⟨o, T, z, by simpa using ho, h1, h2, fun b => ak_of_jn hK is _ _ _ hi.2 (ha.put _ _ hd) (h3 b)⟩
theorem j_drawL {id : Nat} {l : List Oper} (hs As es : List Nat) (Lw : List Blk) (hm : P.follows .mixedOrders = true := by exact mixed) (hB : drlB l.toArray n P hs As es = true := by kernel_rfl) (hL : Lw.Sublist L := by first | exact List.Sublist.refl _ | exact List.nil_sublist _ | exact sbl | (repeat (first | exact List.Sublist.refl _ | exact List.nil_sublist _ | refine List.Sublist.cons_cons _ ?_ | refine List.Sublist.cons _ ?_ | refine List.Sublist.trans ?_ (List.sublist_append_right _ _))))
    (h : JH P w0 n Lw l.toArray (fun E' => JN P n (fun E1 L1 => JE P w0 n l.toArray Lw (fun E2 L2 => JX w0 n .normal Q E2 L2) (picks l es) E1 L1) (picks l As) E' L) (picks l hs) E) : J P w0 n (.region id l.toArray true) Q E L := by
  refine ⟨fun a w ha hw => ?_⟩
  simp only [drlB, Bool.and_eq_true, decide_eq_true_eq] at hB
  obtain ⟨⟨⟨⟨⟨⟨hsel, hlen⟩, hds⟩, hnd⟩, hes⟩, hAs⟩, hlex⟩ := hB
  refine wp_region_any hm ?_
  have hF : ∀ L M (a : Act), L.Perm M → (∀ w, Own w0 L w → Q .normal a w) → (∀ w, Own w0 M w → Q .normal a w) := fun L M a p h w hw => h w (hw.perm p.symm)
  have H : wpK P w0 l.toArray As Lw (fun L a => ∀ w, Own w0 L w → Q .normal a w) (hs.length + (As.length + es.length)) (Array.replicate l.toArray.size false) es L a :=
    wpK_of_ahF (k := alB l.toArray es As.length As) (G := fun a => AK P l.toArray (fun L a => EC P w0 l.toArray [] Lw (fun L a => ∀ w, Own w0 L w → Q .normal a w) es L a) As L a)
      (fun listed a hb hG => wpK_of_ak hF (L := L) (fun e h w1 h1 => h w1 (h1.sub (List.sublist_cons_self _ _))) As.length As listed L a hb hds (fun i hi => by simpa using hi) hnd (weak_sub hL) hG) hsel (weak_sub hL) hs _ a hlex
      (ah_of_jh (n := n) (fun E' a' ha' hK => ak_of_jn (n := n) (fun E1 L1 a1 ha1 h1 => ec_of_je (n := n) (Lj := Lw) (fun E2 L2 a2 ha2 hx w hw => hx.out a2 w ha2 hw) es E1 L1 a1 (by simpa using hes) (fun _ _ => rfl) ha1 h1) As E' L a' hAs ha' hK) _ _ _ ha h)
  have := wpAny_of_wpK (P := P) (Q := Q) (fun L a w hF hw => hF w hw) _ _ _ _ _ w.drew (hw.to (Ext.drew w)) H
  rw [hlen] at this
  exact this
inductive Tr where
  | fin
  | v (hs : List Nat) (t : Tr)
  | e1 (i : Nat) (t : Tr)
  | e2 (i : Nat) (t : Tr) (j : Nat) (u : Tr)
def trB (ops : Array Oper) : Tr → Array Bool → Bool
  | .fin, listed => (Region.ready .any ops listed).isEmpty
  | .v hs t, listed => lexF ops (trB ops t) hs listed
  | .e1 i t, listed => decide (Region.ready .any ops listed = [i]) && trB ops t (listed.setIfInBounds i true)
  | .e2 i t j u, listed => decide (Region.ready .any ops listed = [i, j]) && (trB ops t (listed.setIfInBounds i true) && trB ops u (listed.setIfInBounds j true))
def trN : Tr → Nat
  | .fin => 0
  | .v hs t => hs.length + trN t
  | .e1 _ t => trN t + 1
  | .e2 _ t _ _ => trN t + 1
/-- All ways have the same length, all places are places of the region. -/
def trC (k : Nat) : Tr → Bool
  | .fin => true
  | .v _ t => trC k t
  | .e1 i t => decide (i < k) && trC k t
  | .e2 i t j u => decide (i < k) && (decide (j < k) && (decide (trN t = trN u) && (trC k t && trC k u)))
def trA (ops : Array Oper) (t : Tr) : Bool := Region.noSelect ops && (decide (trN t = ops.size) && (trC ops.size t && trB ops t (Array.replicate ops.size false)))
def AT (P : Program) (w0 : World) (l : List Oper) (Lw : List Blk) (F : List Blk → Act → Prop) : Tr → List Blk → Act → Prop
  | .fin, L, a => F L a
  | .v hs t, L, a => AH P w0 Lw l.toArray (fun a1 => AT P w0 l Lw F t L a1) (picks l hs) a
  | .e1 i t, L, a => EC P w0 l.toArray [] Lw (fun L1 a1 => AT P w0 l Lw F t L1 a1) [i] L a
  | .e2 i t j u, L, a => EC P w0 l.toArray [] Lw (fun L1 a1 => AT P w0 l Lw F t L1 a1) [i] L a ∧ EC P w0 l.toArray [] Lw (fun L1 a1 => AT P w0 l Lw F u L1 a1) [j] L a
def JT (P : Program) (w0 : World) (n : Nat) (l : List Oper) (Lw : List Blk) (K : Env → List Blk → Prop) : Tr → Env → List Blk → Prop
  | .fin, E, L => K E L
  | .v hs t, E, L => JH P w0 n Lw l.toArray (fun E1 => JT P w0 n l Lw K t E1 L) (picks l hs) E
  | .e1 i t, E, L => JE P w0 n l.toArray Lw (fun E1 L1 => JT P w0 n l Lw K t E1 L1) (picks l [i]) E L
  | .e2 i t j u, E, L => JE P w0 n l.toArray Lw (fun E1 L1 => JT P w0 n l Lw K t E1 L1) (picks l [i]) E L ∧ JE P w0 n l.toArray Lw (fun E1 L1 => JT P w0 n l Lw K u E1 L1) (picks l [j]) E L
theorem at_of_jt {l : List Oper} {K : Env → List Blk → Prop} {F : List Blk → Act → Prop} (hK : ∀ E L a, Rep n E a → K E L → F L a) : ∀ (t : Tr) (E : Env) (L : List Blk) (a : Act), trC l.length t = true → Rep n E a → JT P w0 n l Lw K t E L → AT P w0 l Lw F t L a
  | .fin, E, L, a, _, ha, h => hK E L a ha h
  | .v hs t, E, L, a, hc, ha, h => ah_of_jh (n := n) (fun E1 a1 ha1 h1 => at_of_jt hK t E1 L a1 hc ha1 h1) _ _ _ ha h
  | .e1 i t, E, L, a, hc, ha, h => by
    simp only [trC, Bool.and_eq_true, decide_eq_true_eq] at hc
    exact ec_of_je (n := n) (Lj := Lw) (fun E1 L1 a1 ha1 h1 => at_of_jt hK t E1 L1 a1 hc.2 ha1 h1) [i] E L a (by simpa using hc.1) (fun _ _ => rfl) ha h
  | .e2 i t j u, E, L, a, hc, ha, h => by
    simp only [trC, Bool.and_eq_true, decide_eq_true_eq] at hc
    exact ⟨ec_of_je (n := n) (Lj := Lw) (fun E1 L1 a1 ha1 h1 => at_of_jt hK t E1 L1 a1 hc.2.2.2.1 ha1 h1) [i] E L a (by simpa using hc.1) (fun _ _ => rfl) ha h.1,
      ec_of_je (n := n) (Lj := Lw) (fun E1 L1 a1 ha1 h1 => at_of_jt hK u E1 L1 a1 hc.2.2.2.2 ha1 h1) [j] E L a (by simpa using hc.2.1) (fun _ _ => rfl) ha h.2⟩
theorem wpK_of_at {l : List Oper} {F : List Blk → Act → Prop} (hsel : Region.noSelect l.toArray = true) : ∀ (t : Tr) (listed : Array Bool) (L : List Blk) (a : Act), trC l.length t = true → trB l.toArray t listed = true → Weak w0 Lw L → AT P w0 l Lw F t L a → wpK P w0 l.toArray (List.range l.length) Lw F (trN t) listed [] L a
  | .fin, listed, L, a, _, hB, _, h => ⟨rfl, by simpa [trB] using hB, h⟩
  | .v hs t, listed, L, a, hc, hB, hw, h => wpK_of_ahF (k := trB l.toArray t) (G := fun a1 => AT P w0 l Lw F t L a1) (fun listed a1 hb hG => wpK_of_at hsel t listed L a1 hc hb hw hG) hsel hw hs listed a hB h
  | .e1 i t, listed, L, a, hc, hB, hw, h => by
    simp only [trC, Bool.and_eq_true, decide_eq_true_eq] at hc
    simp only [trB, Bool.and_eq_true, decide_eq_true_eq] at hB
    refine ⟨by rw [hB.1]; simp, fun q hq => ?_⟩
    rw [hB.1, List.mem_singleton] at hq
    subst hq
    obtain ⟨o, ho, hE⟩ := h
    exact ⟨o, ho, .inr ⟨[], .inr ⟨by simpa using hc.1, rfl⟩, Eff.mono hE fun L' u hw' hK => wpK_of_at hsel t _ _ _ hc.2 hB.2 hw' hK⟩⟩
  | .e2 i t j u, listed, L, a, hc, hB, hw, h => by
    simp only [trC, Bool.and_eq_true, decide_eq_true_eq] at hc
    simp only [trB, Bool.and_eq_true, decide_eq_true_eq] at hB
    refine ⟨by rw [hB.1]; simp, fun q hq => ?_⟩
    rw [hB.1] at hq
    rcases List.mem_cons.1 hq with h1 | h1
    · subst h1
      obtain ⟨o, ho, hE⟩ := h.1
      exact ⟨o, ho, .inr ⟨[], .inr ⟨by simpa using hc.1, rfl⟩, Eff.mono hE fun L' u hw' hK => wpK_of_at hsel t _ _ _ hc.2.2.2.1 hB.2.1 hw' hK⟩⟩
    · rw [List.mem_singleton] at h1
      subst h1
      obtain ⟨o, ho, hE⟩ := h.2
      refine ⟨o, ho, .inr ⟨[], .inr ⟨by simpa using hc.2.1, rfl⟩, Eff.mono hE fun L' u' hw' hK => ?_⟩⟩
      show wpK P w0 l.toArray (List.range l.length) Lw F (trN t) _ [] L' _
      rw [hc.2.2.1]
      exact wpK_of_at hsel u _ _ _ hc.2.2.2.2 hB.2.2 hw' hK
theorem j_tree {id : Nat} {l : List Oper} (t : Tr) (Lw : List Blk) (hm : P.follows .mixedOrders = true := by exact mixed) (hB : trA l.toArray t = true := by kernel_rfl) (hL : Lw.Sublist L := by first | exact List.Sublist.refl _ | exact List.nil_sublist _ | exact sbl | (repeat (first | exact List.Sublist.refl _ | exact List.nil_sublist _ | refine List.Sublist.cons_cons _ ?_ | refine List.Sublist.cons _ ?_ | refine List.Sublist.trans ?_ (List.sublist_append_right _ _))))
    (h : JT P w0 n l Lw (fun E2 L2 => JX w0 n .normal Q E2 L2) t E L) : J P w0 n (.region id l.toArray true) Q E L := by
  refine ⟨fun a w ha hw => ?_⟩
  simp only [trA, Bool.and_eq_true, decide_eq_true_eq] at hB
  obtain ⟨hsel, hlen, hc, hlex⟩ := hB
  refine wp_region_any hm ?_
  have hc' : trC l.length t = true := by simpa using hc
  have H := wpK_of_at (P := P) (F := fun L a => ∀ w, Own w0 L w → Q .normal a w) hsel t _ L a hc' hlex (weak_sub hL) (at_of_jt (n := n) (fun E2 L2 a2 ha2 hx w hw => hx.out a2 w ha2 hw) t E L a hc' ha h)
  have := wpAny_of_wpK (P := P) (Q := Q) (fun L a w hF hw => hF w hw) _ _ _ _ _ w.drew (hw.to (Ext.drew w)) H
  rw [hlen] at this
  exact this
end
theorem wkX {P Q : Prop} (k : Q) (h : Wr Q → P := by intro hq; simp only [JT, picks, List.getElem?_cons_succ, List.getElem?_cons_zero]; exact hq.out) : P := h ⟨k⟩
end Go.Vt
/- The position of a moving point at a rational instant, where there is one. Conditions: those that each statement names. -/
set_option linter.unusedSimpArgs false
set_option linter.unusedVariables false
set_option maxHeartbeats 2000000
set_option maxRecDepth 100000
namespace Go.Vt
open Go.RowKit Go.Proofs
/-- What is found at an instant. -/
structure AtR (us : List UL) (t : Rat) (r : Option R_api_Line) : Prop where
  out : (∃ k : Nat, k < us.length ∧ (absU (gi us (k : Int))).mem t ∧ (∀ j : Nat, j < k → ¬ (absU (gi us (j : Int))).mem t) ∧ (∀ j : Nat, j ≤ k → (gi us (j : Int)).In.From.P ≤ t) ∧ r = some (gi us (k : Int)).F) ∨ ((∀ j : Nat, j < us.length → ¬ (absU (gi us (j : Int))).mem t) ∧ r = none)
end Go.Vt
/- Are integers and fractions in their canonical form? Walked, for any bytes. Conditions: the lengths that each statement names. -/
set_option linter.unusedSimpArgs false
set_option linter.unusedVariables false
set_option maxHeartbeats 2000000
set_option maxRecDepth 100000
namespace Go.Vt
open Go.RowKit Go.Proofs
/-- No zero with a sign, no zero byte ahead. -/
def icb (x : api_Int) : Bool := if x.Mag = ByteArray.empty then !x.Neg else !decide (x.Mag[0]? = some 0)
theorem list_top {l : List UInt8} (h : l[0]? ≠ some 0) : Top l.reverse := by
  intro b hb
  rw [List.getLast?_reverse] at hb
  intro h0
  subst h0
  refine h ?_
  cases l with
  | nil => cases hb
  | cons x r => simpa using hb
theorem bget (s : ByteArray) (i : Nat) : s[i]? = s.data.toList[i]? := by
  by_cases h : i < s.size
  · have h' : i < s.data.toList.length := h
    rw [getElem?_pos s i h, getElem?_pos s.data.toList i h']
    rfl
  · have h' : ¬ i < s.data.toList.length := h
    rw [getElem?_neg s i h, getElem?_neg s.data.toList i h']
theorem icb_iff {x : api_Int} : icb x = true ↔ ∃ a : Int, x = I a := by
  obtain ⟨n, s⟩ := x
  unfold icb
  simp only
  constructor
  · intro h
    have hc : Can s := by
      split at h
      · rename_i h0
        subst h0
        exact can_mag 0
      · rename_i h0
        simp only [Bool.not_eq_true', decide_eq_false_iff_not] at h
        exact list_top (by rw [← bget]; exact h)
    have hm := mag_vmag hc
    refine ⟨if n = true then -(vmag s : Int) else (vmag s : Int), ?_⟩
    unfold I
    cases n
    · simp only [Bool.false_eq_true, if_false, Int.natAbs_natCast, hm]
      rw [decide_eq_false (by omega)]
    · simp only [if_true, Int.natAbs_neg, Int.natAbs_natCast, hm]
      congr 1
      have hne : vmag s ≠ 0 := fun h0 => by
        rw [h0] at hm
        split at h
        · cases h
        · rename_i h1
          exact h1 (hm.symm.trans mag_zero)
      simp
      omega
  · rintro ⟨a, h⟩
    unfold I at h
    injection h with h1 h2
    subst h1
    subst h2
    split
    · rename_i h0
      have := mag_eq_empty.1 h0
      simp
      omega
    · rename_i h0
      simp only [Bool.not_eq_true', decide_eq_false_iff_not]
      intro h1
      have hc := can_mag a.natAbs
      rw [bget] at h1
      cases hl : (mag a.natAbs).data.toList with
      | nil => rw [hl] at h1; cases h1
      | cons y r =>
        rw [hl] at h1
        simp only [List.getElem?_cons_zero, Option.some.injEq] at h1
        unfold Can Top at hc
        rw [hl] at hc
        exact hc y (by simp) h1
theorem icb_I (a : Int) : icb (I a) = true := icb_iff.2 ⟨a, rfl⟩
instance sp_ICheckR (x : api_Int) : SpecC Tryz.prog 92 [.agg (e_api_Int x)] (.int .i64 (if icb x = true then 0 else 5)) True := ⟨fun _ w => by
  refine fn_intro Tryz.func92 rfl Tryz.ntmps92 rfl ?_
  repeat (refine wkB ?_; try intro _)
  by_cases h : x.Mag = ByteArray.empty
  · have e : icb x = !x.Neg := by unfold icb; rw [if_pos h]
    have hd := decide_eq_true (show x.Mag = ⟨#[]⟩ from h)
    rw [e]
    simp only [hd]
    repeat (refine wkB ?_; try intro _)
    rcases hN : x.Neg with _ | _
    · repeat (refine wkB ?_; try intro _)
      simp only [hd, Bool.not_true]
      repeat (refine wkB ?_; try intro _)
      exact jx_ret_tmp rfl rfl (fun w hw => ret_ok hw)
    · repeat (refine wkB ?_; try intro _)
      exact jx_ret_tmp rfl rfl (fun w hw => ret_ok hw)
  · have e : icb x = !decide (x.Mag[0]? = some 0) := by unfold icb; rw [if_neg h]
    have hd := decide_eq_false (show ¬ x.Mag = ⟨#[]⟩ from h)
    rw [e]
    simp only [hd]
    repeat (refine wkB ?_; try intro _)
    simp only [hd, Bool.not_false]
    repeat (refine wkB ?_; try intro _)
    obtain ⟨u, hu⟩ : ∃ u, x.Mag[0]? = some u := by
      rw [bget]
      cases hl : x.Mag.data.toList with
      | nil =>
        refine absurd ?_ h
        have h2 : x.Mag.data = #[] := by rw [← Array.toArray_toList (xs := x.Mag.data), hl]
        cases hx : x.Mag with
        | mk d =>
          rw [hx] at h2
          simp only at h2
          subst h2
          rfl
      | cons y r => exact ⟨y, rfl⟩
    refine jq (wl_index_str rfl rfl (by omega) (show x.Mag[(0 : Int).toNat]? = some u from hu)) rfl rfl ?_
    repeat (refine wkB ?_; try intro _)
    have hd : decide (((u.toNat : Nat) : Int) = 0) = decide (x.Mag[0]? = some 0) := by
      rw [hu, decide_eq_decide]
      simp only [Option.some.injEq]
      constructor
      · intro h0
        exact UInt8.toNat_inj.1 (by simpa using h0)
      · intro h0
        subst h0
        rfl
    rw [hd]
    rcases hq : decide (x.Mag[0]? = some 0) with _ | _
    · repeat (refine wkB ?_; try intro _)
      exact jx_ret_tmp rfl rfl (fun w hw => ret_ok hw)
    · repeat (refine wkB ?_; try intro _)
      exact jx_ret_tmp rfl rfl (fun w hw => ret_ok hw)⟩
/-- Is a fraction in its canonical form? -/
def rcb (x : api_Rat) : Bool := icb x.Num && (icb x.Den && (decide (x.Den = I 0) || (!decide (Lib.compareInt (ival x.Den) 1 ≤ 0) && decide ((Int.gcd (ival x.Num) (ival x.Den) : Int) = 1))))
where ival (x : api_Int) : Int := if x.Neg = true then -(vmag x.Mag : Int) else vmag x.Mag
theorem ival_I (a : Int) : rcb.ival (I a) = a := by
  unfold rcb.ival I
  simp only [vmag_mag, decide_eq_true_eq]
  split <;> omega
theorem rcb_iff {x : api_Rat} : rcb x = true ↔ ∃ q : Rat, x = Q q := by
  obtain ⟨n, d⟩ := x
  unfold rcb
  simp only [Bool.and_eq_true, Bool.or_eq_true, Bool.not_eq_true', decide_eq_true_eq, decide_eq_false_iff_not]
  constructor
  · rintro ⟨h1, h2, h3⟩
    obtain ⟨a, rfl⟩ := icb_iff.1 h1
    obtain ⟨b, rfl⟩ := icb_iff.1 h2
    rw [ival_I, ival_I, I_inj] at h3
    rcases h3 with rfl | ⟨h3, h4⟩
    · exact ⟨(a : Rat), (Q_int a)⟩
    · have hb : 1 < b := by
        unfold Lib.compareInt at h3
        split at h3
        · omega
        · split at h3 <;> omega
      have hc : Nat.Coprime a.natAbs b.natAbs := by
        have : Int.gcd a b = 1 := by omega
        exact this
      refine ⟨⟨a, b.natAbs, by omega, hc⟩, ?_⟩
      unfold Q dn
      simp only
      rw [if_neg (by omega)]
      congr 2
      omega
  · rintro ⟨q, h⟩
    unfold Q at h
    injection h with h1 h2
    subst h1
    subst h2
    refine ⟨icb_I _, icb_I _, ?_⟩
    rw [ival_I, ival_I, I_inj]
    have hp := q.den_pos
    by_cases hd : q.den = 1
    · exact .inl (dn_zero.2 hd)
    · have e : dn q = q.den := by unfold dn; rw [if_neg hd]
      refine .inr ⟨?_, ?_⟩
      · rw [e]
        unfold Lib.compareInt
        rw [if_neg (by omega), if_pos (by omega)]
        omega
      · rw [e]
        have hc := q.reduced
        have h0 : Int.gcd q.num (q.den : Int) = 1 := hc
        omega
theorem rcb_Q (q : Rat) : rcb (Q q) = true := rcb_iff.2 ⟨q, rfl⟩
theorem rcb_mk {n d : api_Int} : rcb ⟨n, d⟩ = (icb n && (icb d && (decide (d = I 0) || (!decide (Lib.compareInt (rcb.ival d) 1 ≤ 0) && decide ((Int.gcd (rcb.ival n) (rcb.ival d) : Int) = 1))))) := rfl
instance sp_RCheckR (x : api_Rat) : SpecC Tryz.prog 49 [.agg (e_api_Rat x)] (.int .i64 (if rcb x = true then 0 else 5)) (x.Num.Mag.size ≤ LIM ∧ x.Den.Mag.size ≤ LIM) := ⟨fun hp w => by
  obtain ⟨p1, p2⟩ := hp
  refine fn_intro Tryz.func49 rfl Tryz.ntmps49 rfl ?_
  repeat (refine wkB ?_; try intro _)
  rcases hn : icb x.Num with _ | _
  · rw [show rcb x = false by unfold rcb; rw [hn]; rfl]
    repeat (refine wkB ?_; try intro _)
    exact jx_ret_tmp rfl rfl (fun w hw => ret_ok hw)
  repeat (refine wkB ?_; try intro _)
  rcases hd : icb x.Den with _ | _
  · rw [show rcb x = false by unfold rcb; rw [hn, hd]; rfl]
    repeat (refine wkB ?_; try intro _)
    exact jx_ret_tmp rfl rfl (fun w hw => ret_ok hw)
  obtain ⟨a, ha⟩ := icb_iff.1 hn
  obtain ⟨b, hb⟩ := icb_iff.1 hd
  obtain ⟨n, d⟩ := x
  simp only at ha hb p1 p2 hn hd ⊢
  subst ha
  subst hb
  rw [rcb_mk, hn, hd, ival_I, ival_I, Bool.true_and, Bool.true_and]
  have hz : decide (I b = I 0) = decide (b = 0) := by rw [decide_eq_decide]; exact I_inj
  rw [hz]
  repeat (refine wkB ?_; try intro _)
  by_cases hb : b = 0
  · simp only [decide_eq_true hb]
    repeat (refine wkB ?_; try intro _)
    exact jx_ret_tmp rfl rfl (fun w hw => ret_ok hw)
  · simp only [decide_eq_false hb]
    repeat (refine wkB ?_; try intro _)
    refine jD 14 14 (h := ?_)
    (repeat (refine wkH ?_))
    rcases hc : decide (Lib.compareInt b 1 ≤ 0) with _ | _
    · (repeat (first | refine wkH ?_ | (refine tC rfl rfl ?_ ?_; focus (first | exact trivial | exact ⟨p1, p2⟩))))
      refine jh_nil ?_
      refine jn_nil ?_
      repeat (refine wkB ?_; try intro _)
      rcases hg : decide (((Int.gcd a b : Nat) : Int) = 1) with _ | _
      · repeat (refine wkB ?_; try intro _)
        exact jx_ret_tmp rfl rfl (fun w hw => ret_ok hw)
      · repeat (refine wkB ?_; try intro _)
        exact jx_ret_tmp rfl rfl (fun w hw => ret_ok hw)
    · (repeat (refine wkH ?_))
      refine jh_nil ?_
      refine jn_nil ?_
      repeat (refine wkB ?_; try intro _)
      exact jx_ret_tmp rfl rfl (fun w hw => ret_ok hw)⟩
instance (priority := high) sp_RCheck (q : Rat) : SpecC Tryz.prog 49 [vQ q] (.int .i64 0) (M q ≤ LQ) := ⟨fun hp w => by
  have h := (sp_RCheckR (Q q)).out ⟨?_, ?_⟩ w
  · rw [rcb_Q] at h
    exact h
  · have := Nat.le_trans (M_num q) hp
    exact Nat.le_trans this (by decide)
  · show (mag (dn q).natAbs).size ≤ LIM
    have h1 := Nat.le_trans (M_den q) hp
    unfold dn
    split
    · decide
    · exact Nat.le_trans h1 (by decide)⟩
end Go.Vt
/- The moving point through samples, walked. Conditions: those that each statement names. -/
set_option linter.unusedSimpArgs false
set_option linter.unusedVariables false
set_option maxHeartbeats 2000000
set_option maxRecDepth 100000
namespace Go.Vt
open Go.RowKit Go.Proofs
abbrev SS := R_movingpoint_Sample
class SumC (f g : Nat) (h : outParam Nat) : Prop where out : f + g = h
instance : SumC 4 4 8 := ⟨rfl⟩
instance : SumC 4 0 4 := ⟨rfl⟩
instance ys_rowFF {P : Program} {w0 : World} {n : Nat} {L : List Blk} {E : Env} {v : Value} {x : Operand} {T T0 : TypeId} {α : Type} [Inhabited α] {enc : α → Array Value} {k b f g s : Nat} {xs : List α} {sp : List Value} {i : Int} [IsC (evl E x) (.pointer (some ⟨b, 0 + i.toNat * k + f + g, none⟩))] [hs : SumC f g s] [h : AtC w0 L b (row enc xs sp) T0] [EncC enc k] [hv : LdC P T (enc (gi xs i)) s v] : YsC P w0 n L E (.load T x) v (i.toNat < xs.length) := ⟨fun hi _ _ _ _ _ => yl_loadA isE h.out (by
  have h1 := ldv_row (P := P) (T := T) (v := v) (enc := enc) (k := k) (sp := sp) (f := s) hi (by rw [← gi_eq hi]; exact hv.out)
  rw [Nat.add_assoc, hs.out, Nat.zero_add]
  exact h1)⟩
/-- The unit between two neighbours. -/
def sgU (pts : List SS) (i : Nat) : PU := ⟨⟨⟨(gi pts (i : Int)).T, 0, false⟩, ⟨(gi pts ((i + 1 : Nat) : Int)).T, 0, false⟩, decide ((1 : Int) < ((i + 1 : Nat) : Int)), false⟩, stl (gi pts (i : Int)) (gi pts ((i + 1 : Nat) : Int))⟩
def sgs (pts : List SS) : Nat → List PU
  | 0 => []
  | m + 1 => sgs pts m ++ [sgU pts m]
theorem sgs_len (pts : List SS) : ∀ m, (sgs pts m).length = m
  | 0 => rfl
  | m + 1 => by rw [sgs, List.length_append, sgs_len pts m]; rfl
theorem sgs_mem (pts : List SS) {u : PU} : ∀ m, u ∈ sgs pts m → ∃ i, i < m ∧ u = sgU pts i
  | 0, h => by cases h
  | m + 1, h => by
    rw [sgs] at h
    rcases List.mem_append.1 h with h1 | h1
    · obtain ⟨i, h3, h4⟩ := sgs_mem pts m h1
      exact ⟨i, by omega, h4⟩
    · rw [List.mem_singleton] at h1
      exact ⟨m, by omega, h1⟩
def one1 (p : SS) : PU := ⟨⟨⟨p.T, 0, false⟩, ⟨p.T, 0, false⟩, false, false⟩, ⟨p.P.X, 0, p.P.Y, 0⟩⟩
def frS (pts : List SS) : List PU := if pts.length = 1 then [one1 (gi pts 0)] else mNorm (sgs pts (pts.length - 1))
def frE (pts : List SS) : Int := if pts.length = 1 then 0 else nrmE (mpN toU (sgs pts (pts.length - 1)) (sgs pts (pts.length - 1)).length)
theorem mpN_mem {α β : Type} [Inhabited α] {f : α → β} {xs : List α} {y : β} : ∀ m, m ≤ xs.length → y ∈ mpN f xs m → ∃ x ∈ xs, y = f x
  | 0, _, h => by cases h
  | m + 1, hm, h => by
    rw [mpN] at h
    rcases List.mem_append.1 h with h1 | h1
    · exact mpN_mem m (by omega) h1
    · rw [List.mem_singleton] at h1
      exact ⟨_, gi_mem (by omega), h1⟩
theorem sgU_in {pts : List SS} (hB : Bnd pts) (i : Nat) : UIn (toU (sgU pts i)) := by
  obtain ⟨h1, h2, h3⟩ := hB (i : Int)
  obtain ⟨h4, h5, h6⟩ := hB ((i + 1 : Nat) : Int)
  have := MB.mk h1
  have := MB.mk h2
  have := MB.mk h3
  have := MB.mk h4
  have := MB.mk h5
  have := MB.mk h6
  exact ⟨⟨rfl, rfl, rfl, rfl, Nat.le_trans h1 (by decide), Nat.le_trans h4 (by decide)⟩, ⟨MB.lt (q := (stl (gi pts (i : Int)) (gi pts ((i + 1 : Nat) : Int))).X0) rfl, MB.lt (q := (stl (gi pts (i : Int)) (gi pts ((i + 1 : Nat) : Int))).X1) rfl, MB.lt (q := (stl (gi pts (i : Int)) (gi pts ((i + 1 : Nat) : Int))).Y0) rfl, MB.lt (q := (stl (gi pts (i : Int)) (gi pts ((i + 1 : Nat) : Int))).Y1) rfl⟩⟩
theorem sgs_in {pts : List SS} (hB : Bnd pts) (m : Nat) : ∀ u ∈ mpN toU (sgs pts m) (sgs pts m).length, UIn u := fun u hu => by
  obtain ⟨x, hx, rfl⟩ := mpN_mem _ (Nat.le_refl _) hu
  obtain ⟨i, -, rfl⟩ := sgs_mem pts m hx
  exact sgU_in hB i
set_option maxHeartbeats 1000000 in
theorem fromS_spec (b n c : Nat) (pts : List SS) (sp : List Value) (T : TypeId) (hn : pts.length = n) (h1 : 1 ≤ n) (h19 : n ≤ 19) (hB : Bnd pts) (hinc : ∀ i : Nat, i + 1 < n → (gi pts (i : Int)).T < (gi pts ((i + 1 : Nat) : Int)).T) (w : World) (hw : ∃ fz, w.heap[b]? = some (.cells (row rS pts sp) T fz)) :
    Calls Tryz.prog 13 [.slice (some ⟨b, 0, none⟩) n c].toArray w (RetM (SlS rP 36 (frS pts)) (fun s => .tuple #[vSl s, .int .i64 (frE pts)]) (fun s => mS 68 s) w) := by
  have := FoC.mk hw
  have hBd : ∀ i : Int, M (gi pts i).T ≤ LQ ∧ M (gi pts i).P.X ≤ LQ ∧ M (gi pts i).P.Y ≤ LQ := fun i => by
    obtain ⟨h1, h2, h3⟩ := hB i
    exact ⟨Nat.le_trans h1 (by decide), Nat.le_trans h2 (by decide), Nat.le_trans h3 (by decide)⟩
  refine fn_intro Tryz.func13 rfl Tryz.ntmps13 rfl ?_
  repeat (refine wkB ?_; try intro _)
  simp only [decide_eq_false (show ¬ (256 : Int) < (n : Int) by omega)]
  repeat (refine wkB ?_; try intro _)
  refine j_loop (S := Nat) (fun m => m ≤ n) (fun m => [(0, .slice (some ⟨b, 0, none⟩) n c), (3, .int .i64 0), (20, .slice (some ⟨b, 0, none⟩) n c), (21, .int .i64 n), (22, .int .i64 (m : Nat))]) (fun _ => []) (fun m => n - m) 0 (Nat.zero_le _) sbB slB (fun m hm => ?_)
  repeat (refine wkB ?_; try intro _)
  refine j_cond rfl (fun h => ?_) (fun h => ?_)
  · have hlt : m < n := by have := of_decide_eq_true h; omega
    repeat (first | (refine wkB ?_; try intro _) | (refine sC rfl rfl ?_ ?_; focus (first | exact (hBd _).1 | exact (hBd _).2.1 | exact (hBd _).2.2 | exact ⟨by omega, by omega⟩)) | (refine sN rfl rfl ?_ ?_; (focus (first | exact (hBd _).1 | exact (hBd _).2.1 | exact (hBd _).2.2 | exact ⟨by omega, by omega⟩)); intro _; (try simp only [List.cons_append, List.nil_append, List.append_nil])))
    exact jx_loop (m + 1) hlt sbB slB (by omega)
  · have hge : m = n := by have := of_decide_eq_false h; omega
    subst hge
    repeat (refine wkB ?_; try intro _)
    refine j_loop (S := Nat) (fun k => k ≤ m) (fun k => [(0, .slice (some ⟨b, 0, none⟩) m c), (3, .int .i64 0), (45, .slice (some ⟨b, 0, none⟩) m c), (46, .int .i64 m), (47, .int .i64 (k : Nat))]) (fun _ => []) (fun k => m - k) 0 (Nat.zero_le _) sbB slB (fun k hk => ?_)
    repeat (refine wkB ?_; try intro _)
    refine j_cond rfl (fun h => ?_) (fun h => ?_)
    · have hlt : k < m := by have := of_decide_eq_true h; omega
      repeat (refine wkB ?_; try intro _)
      rcases k with _ | k
      · (refine jD 17 17 (h := ?_); (repeat (refine wkH ?_)); refine jh_nil ?_; (repeat (refine wn_new ?_; intro _)); refine jn_nil ?_)
        repeat (first | (refine wkB ?_; try intro _) | (refine sC rfl rfl ?_ ?_; focus (exact ⟨by omega, by omega⟩)) | (refine sN rfl rfl ?_ ?_; (focus (exact ⟨by omega, by omega⟩)); intro _; (try simp only [List.cons_append, List.nil_append, List.append_nil])))
        exact jx_loop 1 hlt sbB slB (by omega)
      · have e1 : ((k + 1 : Nat) : Int) - 1 = (k : Int) := by omega
        refine jD 17 17 (h := ?_)
        (repeat (refine wkH ?_))
        simp only [decide_eq_true (show (0 : Int) < ((k + 1 : Nat) : Int) by omega), e1]
        (repeat (refine wkH ?_))
        simp only [e1]
        (repeat (first | refine wkH ?_ | (refine tC rfl rfl ?_ ?_; focus (exact ⟨(hBd _).1, (hBd _).1⟩))))
        refine jh_nil ?_
        refine jn_nil ?_
        have hcl : ¬ cq (gi pts ((k + 1 : Nat) : Int)).T (gi pts (k : Int)).T ≤ 0 := by
          rw [cq_le]
          have := hinc k hlt
          grind
        simp only [decide_eq_false hcl]
        repeat (first | (refine wkB ?_; try intro _) | (refine sC rfl rfl ?_ ?_; focus (exact ⟨by omega, by omega⟩)) | (refine sN rfl rfl ?_ ?_; (focus (exact ⟨by omega, by omega⟩)); intro _; (try simp only [List.cons_append, List.nil_append, List.append_nil])))
        exact jx_loop (k + 2) hlt sbB slB (by omega)
    · have hge : k = m := by have := of_decide_eq_false h; omega
      subst hge
      repeat (refine wkB ?_; try intro _)
      by_cases ho : k = 1
      · simp only [decide_eq_true (show (k : Int) = 1 by omega)]
        repeat (refine wkB ?_; try intro _)
        rename_i b7
        subst ho
        (refine j_late [0, 1, 2, 3, 4, 5, 6, 7, 8, 9, 10, 11, 12, 13, 14] [15, 16, 17] (_) (h := ?_); refine wkI ?_)
        (repeat (refine wkH ?_))
        refine jh_nil ?_
        repeat (refine wkT ?_; try intro _)
        repeat (refine wkB ?_; try intro _)
        rename_i b8
        have e1 : frS pts = [one1 (gi pts 0)] := by unfold frS; rw [if_pos hn]
        have e2 : frE pts = 0 := by unfold frE; rw [if_pos hn]
        obtain ⟨s', hv', hm'⟩ := SlS.put (enc := rP) (k := 36) (b := b8) (sp := []) (c := 1) (ys := frS pts) 68 (by rw [e1]; rfl) ⟨Nat.le_refl _, rfl⟩ Nat.one_pos
        refine jx_ret_two (v1 := vSl s') (v2 := .int .i64 (frE pts)) rfl (resv_tmp (by rw [hv']; rfl)) (resv_tmp (by rw [e2]; rfl)) (fun w hw => ⟨s', rfl, ?_⟩)
        dsimp only
        rw [hm', e1]
        exact hw.sub suB
      · simp only [decide_eq_false (show ¬ (k : Int) = 1 by omega)]
        repeat (refine wkB ?_; try intro _)
        refine j_loop (S := (m : Nat) × SlS rP 36 (sgs pts m)) (fun s => s.1 ≤ k - 1) (fun s => [(0, .slice (some ⟨b, 0, none⟩) k c), (8, vSl s.2), (9, .int .i64 ((s.1 + 1 : Nat)))]) (fun s => mS 68 s.2) (fun s => k - 1 - s.1) ⟨0, SlS.no⟩ (Nat.zero_le _) sbB slB (fun s hm => ?_)
        obtain ⟨m, s⟩ := s
        simp only at hm ⊢
        have hsl := sgs_len pts m
        repeat (refine wkB ?_; try intro _)
        refine j_cond rfl (fun h => ?_) (fun h => ?_)
        · have hlt : m + 1 < k := by have := of_decide_eq_true h; omega
          have e1 : ((m + 1 : Nat) : Int) - 1 = (m : Int) := by omega
          have hp : ∀ i : Int, M (gi pts i).T ≤ 34359738368 ∧ M (gi pts i).P.X ≤ 34359738368 ∧ M (gi pts i).P.Y ≤ 34359738368 := fun i => ⟨Nat.le_trans (hB i).1 (by decide), Nat.le_trans (hB i).2.1 (by decide), Nat.le_trans (hB i).2.2 (by decide)⟩
          repeat (refine wkB ?_; try intro _)
          (refine j_drawL [0, 1, 2, 3, 4, 5, 6, 7, 8] [9, 10] [11, 12] ([]) (h := ?_); refine wkI ?_)
          (repeat (refine wkH ?_))
          simp only [e1]
          repeat (refine wkT ?_; try intro _)
          repeat (first | (refine wkB ?_; try intro _) | (refine sC rfl rfl ?_ ?_; focus (first | exact ⟨(hp _).1, (hp _).2.1, (hp _).1, (hp _).2.1⟩ | exact ⟨(hp _).1, (hp _).2.2, (hp _).1, (hp _).2.2⟩)) | (refine sN rfl rfl ?_ ?_; (focus (first | exact ⟨(hp _).1, (hp _).2.1, (hp _).1, (hp _).2.1⟩ | exact ⟨(hp _).1, (hp _).2.2, (hp _).1, (hp _).2.2⟩)); intro _; (try simp only [List.cons_append, List.nil_append, List.append_nil])))
          refine jD 9 10 (h := ?_)
          (repeat (refine wkH ?_))
          refine jh_nil ?_
          (repeat (refine wn_new ?_; intro _))
          refine jn_nil ?_
          repeat (refine wkB ?_; try intro _)
          refine sU rfl rfl ?_ ?_ ?_ ?_
          · rfl
          · rfl
          · exact ⟨by decide, by omega, by omega⟩
          intro s'
          repeat (first | (refine wkB ?_; try intro _) | (refine sC rfl rfl ?_ ?_; focus (exact ⟨by omega, by omega⟩)) | (refine sN rfl rfl ?_ ?_; (focus (exact ⟨by omega, by omega⟩)); intro _; (try simp only [List.cons_append, List.nil_append, List.append_nil])))
          exact jx_loop ⟨m + 1, s'⟩ (by show m + 1 ≤ k - 1; omega) sbB suB (by show k - 1 - (m + 1) < k - 1 - m; omega)
        · have hge : m = k - 1 := by have := of_decide_eq_false h; omega
          subst hge
          repeat (first | (refine wkB ?_; try intro _) | (refine sC rfl rfl ?_ ?_; focus (first | exact trivial | exact ⟨by omega, sgs_in hB _⟩)) | (refine sN rfl rfl ?_ ?_; (focus (first | exact trivial | exact ⟨by omega, sgs_in hB _⟩)); intro _; (try simp only [List.cons_append, List.nil_append, List.append_nil])))
          rename_i s2
          have e1 : frS pts = mNorm (sgs pts (k - 1)) := by unfold frS; rw [if_neg (by omega), hn]
          have e2 : frE pts = nrmE (mpN toU (sgs pts (k - 1)) (sgs pts (k - 1)).length) := by unfold frE; rw [if_neg (by omega), hn]
          obtain ⟨s', hv', hm'⟩ := SlS.turn 68 e1.symm s2
          exact jx_ret_two (v1 := vSl s') (v2 := .int .i64 (frE pts)) rfl (resv_tmp (by rw [hv']; rfl)) (resv_tmp (by rw [e2]; rfl)) (fun w hw => ⟨s', rfl, by dsimp only; rw [hm']; exact hw.sub suB⟩)
end Go.Vt
/- The position of a moving point at a rational instant, walked. Conditions: those that each statement names. -/
set_option linter.unusedSimpArgs false
set_option linter.unusedVariables false
set_option maxHeartbeats 2000000
set_option maxRecDepth 100000
namespace Go.Vt
open Go.RowKit Go.Proofs
theorem AtR.mem {us : List UL} {t : Rat} {f : R_api_Line} (h : AtR us t (some f)) : ∃ u ∈ us, f = u.F := by
  rcases h.out with ⟨k, h1, -, -, -, h5⟩ | ⟨-, h2⟩
  · injection h5 with h5
    exact ⟨_, gi_mem (by omega), h5⟩
  · cases h2
end Go.Vt
/- A cut behind the operations that are being walked. Conditions: none. -/
set_option linter.unusedSimpArgs false
set_option linter.unusedVariables false
set_option maxHeartbeats 2000000
namespace Go.Vt
open Go.RowKit
section
variable {P : Program} {w0 : World} {n : Nat} {ops : Array Oper} {L : List Blk} {E : Env} {Q Q' : Exit → Act → World → Prop}
theorem inBlock_mono {id : Nat} (hq : ∀ e a w, Q e a w → Q' e a w) : ∀ e a w, Exit.inBlock id Q e a w → Exit.inBlock id Q' e a w := fun e a w h => by
  cases e with
  | exit j =>
    simp only [Exit.inBlock] at h ⊢
    split
    · rename_i hj
      rw [if_pos hj] at h
      exact hq _ _ _ h
    · rename_i hj
      rw [if_neg hj] at h
      exact hq _ _ _ h
  | _ => exact hq _ _ _ h
theorem mid_then {S : Type} {I : S → Prop} {Es : S → Env} {Ls : S → List Blk} {y : Code} (h2 : ∀ s, I s → J P w0 n y Q (Es s) (Ls s)) : ∀ e a w, MidQ w0 n I Es Ls (fun _ _ => True) Q e a w → Then P y Q e a w := fun e a w hq => by
  cases e with
  | normal => obtain ⟨⟨s, hs, hr, ho⟩, _⟩ := hq; exact (h2 s hs).out a w hr ho
  | _ => exact hq
/-- A cut in a block. -/
theorem jb_cut {S : Type} {id : Nat} (I : S → Prop) (Es : S → Env) (Ls : S → List Blk) {x y : Code} (h1 : J P w0 n x (Exit.inBlock id (MidQ w0 n I Es Ls (fun _ _ => True) Q)) E L) (h2 : ∀ s, I s → J P w0 n y Q (Es s) (Ls s)) : J P w0 n x (Exit.inBlock id (Then P y Q)) E L := ⟨fun a w ha hw => wp_mono (h1.out a w ha hw) (inBlock_mono (mid_then h2))⟩
end
end Go.Vt
/- The instants that two intervals have in common; the part of a value during a period: walked. Conditions: those that each statement names. -/
set_option linter.unusedSimpArgs false
set_option linter.unusedVariables false
set_option maxHeartbeats 2000000
set_option maxRecDepth 100000
namespace Go.Vt
open Go.RowKit Go.Proofs
open Fv (va red)
def mtF (a b : R_api_Interval) : R_api_Real × Bool := if a.From.P < b.From.P then (b.From, b.OpenFrom) else if a.From.P = b.From.P then (a.From, a.OpenFrom || b.OpenFrom) else (a.From, a.OpenFrom)
def mtT (a b : R_api_Interval) : R_api_Real × Bool := if b.To.P < a.To.P then (b.To, b.OpenTo) else if a.To.P = b.To.P then (a.To, a.OpenTo || b.OpenTo) else (a.To, a.OpenTo)
/-- What two intervals have in common, and is there any? -/
def mt (a b : R_api_Interval) : R_api_Interval := ⟨(mtF a b).1, (mtT a b).1, (mtF a b).2, (mtT a b).2⟩
def mtO (a b : R_api_Interval) : Bool := decide ((mt a b).From.P < (mt a b).To.P) || (decide ((mt a b).From.P = (mt a b).To.P) && (!(mt a b).OpenFrom && !(mt a b).OpenTo))
theorem mtF_ok {K : Nat} {a b : R_api_Interval} (ha : IvOk K a) (hb : IvOk K b) : RtOk (mtF a b).1 ∧ M (mtF a b).1.P ≤ K := by
  unfold mtF
  split
  · exact ⟨hb.rf, hb.m1⟩
  · split <;> exact ⟨ha.rf, ha.m1⟩
theorem mtT_ok {K : Nat} {a b : R_api_Interval} (ha : IvOk K a) (hb : IvOk K b) : RtOk (mtT a b).1 ∧ M (mtT a b).1.P ≤ K := by
  unfold mtT
  split
  · exact ⟨hb.rt, hb.m2⟩
  · split <;> exact ⟨ha.rt, ha.m2⟩
theorem mt_ok {K : Nat} {a b : R_api_Interval} (ha : IvOk K a) (hb : IvOk K b) : IvOk K (mt a b) := by
  obtain ⟨⟨h1, h2⟩, h3⟩ := mtF_ok ha hb
  obtain ⟨⟨h4, h5⟩, h6⟩ := mtT_ok ha hb
  exact ⟨h1, h4, h2, h5, h3, h6⟩
set_option maxHeartbeats 1000000 in
instance sp_meet (a b : R_api_Interval) : SpecC Tryz.prog 151 [vIv a, vIv b] (.tuple #[vIv (mt a b), .bool (mtO a b)]) (IvOk BQ a ∧ IvOk BQ b) := ⟨fun hp w => by
  obtain ⟨ha, hb⟩ := hp
  have hm := mt_ok ha hb
  refine fn_intro Tryz.func151 rfl Tryz.ntmps151 rfl ?_
  repeat (first | (refine wkB ?_; try intro _) | (refine sC rfl rfl ?_ ?_; focus (exact ⟨⟨ha.r1, hb.r1⟩, Nat.le_trans ha.m1 (by decide), Nat.le_trans hb.m1 (by decide)⟩)) | (refine sN rfl rfl ?_ ?_; (focus (exact ⟨⟨ha.r1, hb.r1⟩, Nat.le_trans ha.m1 (by decide), Nat.le_trans hb.m1 (by decide)⟩)); intro _; (try simp only [List.cons_append, List.nil_append, List.append_nil])))
  rename_i b2 b3 b4 b6
  refine jb_cut (S := Unit) (fun _ => True) (fun _ => [(2, .pointer (some ⟨b2, 0, none⟩)), (3, .pointer (some ⟨b3, 0, none⟩)), (4, .pointer (some ⟨b4, 0, none⟩)), (6, .pointer (some ⟨b6, 0, none⟩))]) (fun _ => [⟨b6, e_api_Interval (q_api_Interval ⟨(mtF a b).1, a.To, (mtF a b).2, a.OpenTo⟩), 32⟩, ⟨b4, e_api_Interval (q_api_Interval zR_api_Interval), 32⟩, ⟨b3, e_api_Interval (q_api_Interval b), 32⟩, ⟨b2, e_api_Interval (q_api_Interval a), 32⟩]) ?_ (fun _ _ => ?_)
  · by_cases h1 : a.From.P < b.From.P
    · rw [show mtF a b = (b.From, b.OpenFrom) by unfold mtF; rw [if_pos h1]]
      simp only [decide_eq_true (cq_lt.2 h1)]
      repeat (refine wkB ?_; try intro _)
      (refine j_tree (.v [0, 1, 2, 3, 4] (.e1 5 (.v [6] (.e1 7 (.fin))))) ([⟨b3, e_api_Interval (q_api_Interval b), 32⟩]) (h := ?_); refine wkX ?_)
      repeat (refine wkT ?_; try intro _)
      repeat (refine wkB ?_; try intro _)
      exact jx_mid () trivial sbB slB
    · simp only [decide_eq_false (fun h => h1 (cq_lt.1 h))]
      repeat (refine wkB ?_; try intro _)
      by_cases h2 : a.From.P = b.From.P
      · rw [show mtF a b = (a.From, a.OpenFrom || b.OpenFrom) by unfold mtF; rw [if_neg h1, if_pos h2]]
        simp only [decide_eq_true (cq_eq.2 h2)]
        repeat (refine wkB ?_; try intro _)
        rcases h3 : a.OpenFrom with _ | _
        · repeat (refine wkB ?_; try intro _)
          exact jx_mid () trivial sbB slB
        · repeat (refine wkB ?_; try intro _)
          exact jx_mid () trivial sbB slB
      · rw [show mtF a b = (a.From, a.OpenFrom) by unfold mtF; rw [if_neg h1, if_neg h2]]
        simp only [decide_eq_false (fun h => h2 (cq_eq.1 h))]
        repeat (refine wkB ?_; try intro _)
        exact jx_mid () trivial sbB slB
  repeat (first | (refine wkB ?_; try intro _) | (refine sC rfl rfl ?_ ?_; focus (exact ⟨⟨ha.r2, hb.r2⟩, Nat.le_trans ha.m2 (by decide), Nat.le_trans hb.m2 (by decide)⟩)) | (refine sN rfl rfl ?_ ?_; (focus (exact ⟨⟨ha.r2, hb.r2⟩, Nat.le_trans ha.m2 (by decide), Nat.le_trans hb.m2 (by decide)⟩)); intro _; (try simp only [List.cons_append, List.nil_append, List.append_nil])))
  refine jb_cut (S := Unit) (fun _ => True) (fun _ => [(4, .pointer (some ⟨b4, 0, none⟩)), (6, .pointer (some ⟨b6, 0, none⟩))]) (fun _ => [⟨b6, e_api_Interval (q_api_Interval (mt a b)), 32⟩, ⟨b4, e_api_Interval (q_api_Interval zR_api_Interval), 32⟩]) ?_ (fun _ _ => ?_)
  · by_cases h1 : b.To.P < a.To.P
    · rw [show mt a b = ⟨(mtF a b).1, b.To, (mtF a b).2, b.OpenTo⟩ by unfold mt mtT; rw [if_pos h1]]
      simp only [decide_eq_true (cq_gt.2 h1)]
      repeat (refine wkB ?_; try intro _)
      (refine j_tree (.v [0, 1, 2, 3, 4] (.e1 5 (.v [6] (.e1 7 (.fin))))) ([⟨b3, e_api_Interval (q_api_Interval b), 32⟩]) (h := ?_); refine wkX ?_)
      repeat (refine wkT ?_; try intro _)
      repeat (refine wkB ?_; try intro _)
      exact jx_mid () trivial sbB slB
    · simp only [decide_eq_false (fun h => h1 (cq_gt.1 h))]
      repeat (refine wkB ?_; try intro _)
      by_cases h2 : a.To.P = b.To.P
      · rw [show mt a b = ⟨(mtF a b).1, a.To, (mtF a b).2, a.OpenTo || b.OpenTo⟩ by unfold mt mtT; rw [if_neg h1, if_pos h2]]
        simp only [decide_eq_true (cq_eq.2 h2)]
        repeat (refine wkB ?_; try intro _)
        rcases h3 : a.OpenTo with _ | _
        · repeat (refine wkB ?_; try intro _)
          exact jx_mid () trivial sbB slB
        · repeat (refine wkB ?_; try intro _)
          exact jx_mid () trivial sbB slB
      · rw [show mt a b = ⟨(mtF a b).1, a.To, (mtF a b).2, a.OpenTo⟩ by unfold mt mtT; rw [if_neg h1, if_neg h2]]
        simp only [decide_eq_false (fun h => h2 (cq_eq.1 h))]
        repeat (refine wkB ?_; try intro _)
        exact jx_mid () trivial sbB slB
  repeat (first | (refine wkB ?_; try intro _) | (refine sC rfl rfl ?_ ?_; focus (exact ⟨⟨hm.r1, hm.r2⟩, Nat.le_trans hm.m1 (by decide), Nat.le_trans hm.m2 (by decide)⟩)) | (refine sN rfl rfl ?_ ?_; (focus (exact ⟨⟨hm.r1, hm.r2⟩, Nat.le_trans hm.m1 (by decide), Nat.le_trans hm.m2 (by decide)⟩)); intro _; (try simp only [List.cons_append, List.nil_append, List.append_nil])))
  unfold mtO
  generalize mt a b = m at *
  have hl : decide (cq m.From.P m.To.P < 0) = decide (m.From.P < m.To.P) := by rw [decide_eq_decide]; exact cq_lt
  have he : decide (cq m.From.P m.To.P = 0) = decide (m.From.P = m.To.P) := by rw [decide_eq_decide]; exact cq_eq
  (refine j_tree (.v [0, 1, 2, 3, 4, 5, 6, 7, 8, 9, 10, 11, 12, 13, 14, 15, 16] (.e1 17 (.e1 18 (.fin)))) ([⟨b6, e_api_Interval (q_api_Interval m), 32⟩]) (h := ?_); refine wkX ?_)
  repeat (refine wkT ?_; try intro _)
  rw [hl]
  rcases h1 : decide (m.From.P < m.To.P) with _ | _
  · repeat (refine wkT ?_; try intro _)
    rw [he]
    rcases h2 : decide (m.From.P = m.To.P) with _ | _
    · repeat (refine wkT ?_; try intro _)
      repeat (refine wkB ?_; try intro _)
      exact jx_ret_two rfl (wr_cell rfl) (resv_tmp rfl) (fun w hw => ret_ok hw)
    · repeat (refine wkT ?_; try intro _)
      rcases h3 : m.OpenFrom with _ | _
      · repeat (refine wkT ?_; try intro _)
        repeat (refine wkB ?_; try intro _)
        exact jx_ret_two rfl (wr_cell rfl) (resv_tmp rfl) (fun w hw => ret_ok hw)
      · repeat (refine wkT ?_; try intro _)
        repeat (refine wkB ?_; try intro _)
        exact jx_ret_two rfl (wr_cell rfl) (resv_tmp rfl) (fun w hw => ret_ok hw)
  · repeat (refine wkT ?_; try intro _)
    repeat (refine wkB ?_; try intro _)
    exact jx_ret_two rfl (wr_cell rfl) (resv_tmp rfl) (fun w hw => ret_ok hw)⟩
end Go.Vt
/- The part of a value during a period, walked. Conditions: those that each statement names. -/
set_option linter.unusedSimpArgs false
set_option linter.unusedVariables false
set_option maxHeartbeats 2000000
set_option maxRecDepth 100000
namespace Go.Vt
open Go.RowKit Go.Proofs
open Fv (va red)
abbrev rI := r_api_Interval
/-- What a unit has in common with the first intervals of a list; the same for all units. -/
def ri (u : UL) (ds : List R_api_Interval) : Nat → List UL
  | 0 => []
  | k + 1 => ri u ds k ++ (if mtO u.In (gi ds (k : Int)) = true then [⟨mt u.In (gi ds (k : Int)), u.F⟩] else [])
def ro (us : List UL) (ds : List R_api_Interval) : Nat → List UL
  | 0 => []
  | m + 1 => ro us ds m ++ ri (gi us (m : Int)) ds ds.length
theorem ri_len (u : UL) (ds : List R_api_Interval) : ∀ k, (ri u ds k).length ≤ k
  | 0 => Nat.le_refl _
  | k + 1 => by
    have := ri_len u ds k
    rw [ri, List.length_append]
    split <;> simp <;> omega
theorem ro_len (us : List UL) (ds : List R_api_Interval) : ∀ m, (ro us ds m).length ≤ m * ds.length
  | 0 => by simp [ro]
  | m + 1 => by
    have := ro_len us ds m
    have := ri_len (gi us (m : Int)) ds ds.length
    rw [ro, List.length_append, Nat.add_mul, Nat.one_mul]
    omega
theorem pnorm_spec (v : Value) (us : List UL) (w : World) (hv : ArgS w v rU us) (hn : us = [] → v = .slice none 0 0) (hl : us.length ≤ 19) (hok : ∀ u ∈ us, UIn u) :
    Calls Tryz.prog 152 [vLines, v].toArray w (RetM (SlS rU 36 (nrmR us)) (fun s => vSl s) (fun s => mS 163 s) w) := by
  have hN : ∀ L, LstN w L v UL rU us := fun L => ⟨fun w' hw' => hv.to hw'.ext, hn⟩
  refine fn_intro Tryz.func152 rfl Tryz.ntmps152 rfl ?_
  repeat (first | (refine wkB ?_; try intro _) | (refine sC rfl rfl ?_ ?_; focus (exact ⟨hl, hok⟩)) | (refine sN rfl rfl ?_ ?_; (focus (exact ⟨hl, hok⟩)); intro _; (try simp only [List.cons_append, List.nil_append, List.append_nil])))
  rename_i s
  exact jx_ret_tmp rfl rfl (fun w hw => ⟨s, rfl, hw.sub suB⟩)
instance sr_pnorm (w0 : World) (L : List Blk) (v : Value) (us : List UL) [h : LstN w0 L v UL rU us] : SpecR Tryz.prog w0 L 152 [vLines, v] (SlS rU 36 (nrmR us)) (fun s => vSl s) (fun s => mS 163 s) (us.length ≤ 19 ∧ ∀ u ∈ us, UIn u) := ⟨fun hp w hw => pnorm_spec v us w (h.out w hw) h.nil hp.1 hp.2⟩
theorem restrict_spec (v v2 : Value) (us : List UL) (ds : List R_api_Interval) (w : World) (hv : ArgS w v rU us) (hd : ArgS w v2 rI ds) (hl : us.length ≤ 1024) (hl2 : ds.length ≤ 1024) (h19 : (ro us ds us.length).length ≤ 19) (hok : ∀ u ∈ us, IvOk BQ u.In) (hok2 : ∀ d ∈ ds, IvOk BQ d) (hin : ∀ u ∈ ro us ds us.length, UIn u) :
    Calls Tryz.prog 113 [vLines, v, v2].toArray w (RetM (SlS rU 36 (nrmR (ro us ds us.length))) (fun s => vSl s) (fun s => mS 163 s) w) := by
  refine fn_intro Tryz.func113 rfl Tryz.ntmps113 rfl ?_
  obtain ⟨p, cp, rfl⟩ := hv.form
  obtain ⟨p2, cp2, rfl⟩ := hd.form
  repeat (refine wkB ?_; try intro _)
  refine j_loop (S := (m : Nat) × SlS rU 36 (ro us ds m)) (fun s => s.1 ≤ us.length) (fun s => [(0, vLines), (2, .slice p2 ds.length cp2), (7, vSl s.2), (14, .slice p us.length cp), (15, .int .i64 us.length), (16, .int .i64 (s.1 : Nat))]) (fun s => mS 163 s.2) (fun s => us.length - s.1) ⟨0, SlS.no⟩ (Nat.zero_le _) sbB slB (fun s hm => ?_)
  obtain ⟨m, s⟩ := s
  simp only at hm ⊢
  repeat (refine wkB ?_; try intro _)
  refine j_cond rfl (fun h => ?_) (fun h => ?_)
  · have hlt : m < us.length := by have := of_decide_eq_true h; omega
    have hne : us ≠ [] := fun h0 => by rw [h0] at hlt; simp at hlt
    obtain ⟨bw, ow, cw, hvw, hcw, hrow⟩ := hv.blk (k := 35) hne []
    injection hvw with e1 e2 e3
    subst e1
    subst e3
    have hrow' : ∀ L, RowC w L bw ow UL rU us := fun L => ⟨fun w' hw' => hrow.out w' (hw'.sub (List.nil_sublist _))⟩
    have hro := ro_len us ds m
    have hmul : m * ds.length ≤ 1024 * 1024 := Nat.mul_le_mul (by omega) hl2
    repeat (refine wkB ?_; try intro _)
    rename_i b9
    refine j_permL (mS 163 s ++ [⟨b9, rU (gi us (m : Int)), 163⟩]) (List.perm_append_singleton _ _).symm ?_
    refine j_loop (S := (xs : List UL) × Nat × SlS rU 36 xs) (fun s => s.2.1 ≤ ds.length ∧ s.1 = ro us ds m ++ ri (gi us (m : Int)) ds s.2.1) (fun s => [(0, vLines), (2, .slice p2 ds.length cp2), (7, vSl s.2.2), (9, .pointer (some ⟨b9, 0, none⟩)), (14, .slice (some ⟨bw, ow, none⟩) us.length cp), (15, .int .i64 us.length), (16, .int .i64 (m : Nat)), (20, .slice p2 ds.length cp2), (21, .int .i64 ds.length), (22, .int .i64 (s.2.1 : Nat))]) (fun s => mS 163 s.2.2 ++ [⟨b9, rU (gi us (m : Int)), 163⟩]) (fun s => ds.length - s.2.1) ⟨ro us ds m, 0, s⟩ ⟨Nat.zero_le _, (List.append_nil _).symm⟩ sbB suB (fun s hk => ?_)
    obtain ⟨xs, k, s⟩ := s
    obtain ⟨hk, hxs⟩ := hk
    simp only at hk hxs ⊢
    have hxl : xs.length ≤ 1049600 := by
      have := ri_len (gi us (m : Int)) ds k
      rw [hxs, List.length_append]
      omega
    repeat (refine wkB ?_; try intro _)
    refine j_cond rfl (fun h => ?_) (fun h => ?_)
    · have hlt2 : k < ds.length := by have := of_decide_eq_true h; omega
      have hne2 : ds ≠ [] := fun h0 => by rw [h0] at hlt2; simp at hlt2
      obtain ⟨bd, od, cd, hvd, hcd, hrowd⟩ := hd.blk (k := 19) hne2 []
      injection hvd with e1 e2 e3
      subst e1
      subst e3
      have hrowd' : ∀ L, RowC w L bd od R_api_Interval rI ds := fun L => ⟨fun w' hw' => hrowd.out w' (hw'.sub (List.nil_sublist _))⟩
      have ho := hok _ (gi_mem (i := (m : Int)) (xs := us) (by omega))
      have ho2 := hok2 _ (gi_mem (i := (k : Int)) (xs := ds) (by omega))
      repeat (first | (refine wkB ?_; try intro _) | (refine sC rfl rfl ?_ ?_; focus (exact ⟨ho, ho2⟩)) | (refine sN rfl rfl ?_ ?_; (focus (exact ⟨ho, ho2⟩)); intro _; (try simp only [List.cons_append, List.nil_append, List.append_nil])))
      rcases hmo : mtO (gi us (m : Int)).In (gi ds (k : Int)) with _ | _
      · have e : xs = ro us ds m ++ ri (gi us (m : Int)) ds (k + 1) := by rw [ri, hmo, if_neg (by decide), List.append_nil]; exact hxs
        repeat (first | (refine wkB ?_; try intro _) | (refine sC rfl rfl ?_ ?_; focus (exact ⟨by omega, by omega⟩)) | (refine sN rfl rfl ?_ ?_; (focus (exact ⟨by omega, by omega⟩)); intro _; (try simp only [List.cons_append, List.nil_append, List.append_nil])))
        exact jx_loop ⟨xs, k + 1, s⟩ ⟨hlt2, e⟩ sbB suB (by show ds.length - (k + 1) < ds.length - k; omega)
      · have e : xs ++ [⟨mt (gi us (m : Int)).In (gi ds (k : Int)), (gi us (m : Int)).F⟩] = ro us ds m ++ ri (gi us (m : Int)) ds (k + 1) := by rw [ri, hmo, if_pos rfl, ← List.append_assoc, ← hxs]
        repeat (refine wkB ?_; try intro _)
        refine sU rfl rfl ?_ ?_ ?_ ?_
        · rfl
        · rfl
        · exact ⟨by decide, by omega, by omega⟩
        intro s'
        repeat (first | (refine wkB ?_; try intro _) | (refine sC rfl rfl ?_ ?_; focus (exact ⟨by omega, by omega⟩)) | (refine sN rfl rfl ?_ ?_; (focus (exact ⟨by omega, by omega⟩)); intro _; (try simp only [List.cons_append, List.nil_append, List.append_nil])))
        exact jx_loop ⟨_, k + 1, s'⟩ ⟨hlt2, e⟩ sbB suB (by show ds.length - (k + 1) < ds.length - k; omega)
    · have hge : k = ds.length := by have := of_decide_eq_false h; omega
      subst hge
      repeat (first | (refine wkB ?_; try intro _) | (refine sC rfl rfl ?_ ?_; focus (exact ⟨by omega, by omega⟩)) | (refine sN rfl rfl ?_ ?_; (focus (exact ⟨by omega, by omega⟩)); intro _; (try simp only [List.cons_append, List.nil_append, List.append_nil])))
      subst hxs
      exact jx_loop ⟨m + 1, s⟩ hlt sbB suB (by show us.length - (m + 1) < us.length - m; omega)
  · have hge : m = us.length := by have := of_decide_eq_false h; omega
    subst hge
    repeat (first | (refine wkB ?_; try intro _) | (refine sC rfl rfl ?_ ?_; focus (exact ⟨h19, hin⟩)) | (refine sN rfl rfl ?_ ?_; (focus (exact ⟨h19, hin⟩)); intro _; (try simp only [List.cons_append, List.nil_append, List.append_nil])))
    rename_i s2
    exact jx_ret_tmp rfl rfl (fun w hw => ⟨s2, rfl, hw.sub suB⟩)
end Go.Vt
/- What the moving point through samples says: plain. Conditions: those that each statement names. -/
set_option linter.unusedSimpArgs false
set_option linter.unusedVariables false
set_option maxHeartbeats 2000000
set_option maxRecDepth 100000
namespace Go.Vt
open Go.RowKit Go.Proofs
theorem nf_le {R : List UL} (h : NF (R.map absU)) {i j : Nat} (hij : i < j) (hj : j < R.length) : (absU (gi R (i : Int))).bfr (absU (gi R (j : Int))) := by
  have h1 := List.pairwise_iff_getElem.1 h.pw i j (by rw [List.length_map]; omega) (by rw [List.length_map]; omega) hij
  rw [List.getElem_map, List.getElem_map, ← gi_nat (by omega), ← gi_nat hj] at h1
  exact h1.bf
theorem stl_pos {a b : SS} (h : a.T < b.T) (t : Rat) : pos (stl a b) t = ⟨a.P.X + (b.P.X - a.P.X) * ((t - a.T) / (b.T - a.T)), a.P.Y + (b.P.Y - a.P.Y) * ((t - a.T) / (b.T - a.T))⟩ := by
  have hne : ¬ b.T - a.T = 0 := by grind
  rw [btw_pos a b t h]
  unfold btw
  rw [if_neg hne]
theorem stl_a {a b : SS} (h : a.T < b.T) : pos (stl a b) a.T = a.P := by
  rw [stl_pos h]
  have : (a.T - a.T) / (b.T - a.T) = 0 := by rw [show a.T - a.T = 0 by grind, Rat.div_def, Rat.zero_mul]
  rw [this]
  cases a with
  | mk T P => cases P; simp only [R_api_Point.mk.injEq]; constructor <;> grind
theorem stl_b {a b : SS} (h : a.T < b.T) : pos (stl a b) b.T = b.P := by
  rw [stl_pos h]
  have : (b.T - a.T) / (b.T - a.T) = 1 := by rw [Rat.div_def]; exact Rat.mul_inv_cancel _ (by grind)
  rw [this]
  cases b with
  | mk T P => cases P; simp only [R_api_Point.mk.injEq]; constructor <;> grind
/-- The samples' times increase. -/
def Inc (pts : List SS) : Prop := ∀ i : Nat, i + 1 < pts.length → (gi pts (i : Int)).T < (gi pts ((i + 1 : Nat) : Int)).T
theorem Inc.lt {pts : List SS} (h : Inc pts) : ∀ {j i : Nat}, i < j → j < pts.length → (gi pts (i : Int)).T < (gi pts (j : Int)).T
  | 0, i, hij, _ => by omega
  | j + 1, i, hij, hj => by
    have h1 := h j hj
    rcases (by omega : i < j ∨ i = j) with h2 | h2
    · have := h.lt h2 (by omega)
      grind
    · subst h2; exact h1
theorem Inc.le {pts : List SS} (h : Inc pts) {i j : Nat} (hij : i ≤ j) (hj : j < pts.length) : (gi pts (i : Int)).T ≤ (gi pts (j : Int)).T := by
  rcases (by omega : i < j ∨ i = j) with h1 | h1
  · exact Rat.le_of_lt (h.lt h1 hj)
  · subst h1; exact Rat.le_refl
theorem sgs_gi (pts : List SS) : ∀ m (i : Nat), i < m → gi (sgs pts m) (i : Int) = sgU pts i
  | 0, i, h => by omega
  | m + 1, i, h => by
    have hl := sgs_len pts m
    rw [gi_nat (by rw [sgs_len]; exact h)]
    simp only [sgs]
    rcases (by omega : i < m ∨ i = m) with h1 | h1
    · rw [List.getElem_append_left (by omega), ← gi_nat (by omega)]
      exact sgs_gi pts m i h1
    · subst h1
      rw [List.getElem_append_right (by omega)]
      simp [hl]
/-- The straight ways as plain units. -/
def sgW (pts : List SS) (m : Nat) : List UL := mpN toU (sgs pts m) (sgs pts m).length
theorem sgW_map (pts : List SS) (m : Nat) : sgW pts m = (sgs pts m).map toU := mpN_all _ _
theorem sgW_len (pts : List SS) (m : Nat) : (sgW pts m).length = m := by rw [sgW_map, List.length_map, sgs_len]
theorem sgW_get {pts : List SS} {m i : Nat} (h : i < m) : gi (sgW pts m) (i : Int) = toU (sgU pts i) := by
  rw [gi_nat (by rw [sgW_len]; exact h)]
  simp only [sgW_map, List.getElem_map]
  rw [← gi_nat (by rw [sgs_len]; exact h), sgs_gi pts m i h]
theorem sgW_mem {pts : List SS} {m : Nat} {u : UL} (h : u ∈ sgW pts m) : ∃ i, i < m ∧ u = toU (sgU pts i) := by
  rw [sgW_map] at h
  obtain ⟨x, hx, rfl⟩ := List.mem_map.1 h
  obtain ⟨i, h1, rfl⟩ := sgs_mem pts m hx
  exact ⟨i, h1, rfl⟩
theorem sgW_val {pts : List SS} (hB : Bnd pts) (hi : Inc pts) {m : Nat} (hm : m + 1 ≤ pts.length) : UVal (sgW pts m) := by
  refine ⟨sgs_in hB m, fun u hu => ?_⟩
  obtain ⟨i, h1, rfl⟩ := sgW_mem hu
  exact .inl (hi i (by omega))
theorem sgW_pw {pts : List SS} (hB : Bnd pts) (hi : Inc pts) {m : Nat} (hm : m + 1 ≤ pts.length) : ((sgW pts m).map absU).Pairwise GU.bfr := by
  have hv := sgW_val hB hi hm
  refine pw_of_next (fun u hu => ?_) (fun i h => ?_)
  · obtain ⟨x, hx, rfl⟩ := List.mem_map.1 hu
    exact hv.v x hx
  · rw [List.length_map, sgW_len] at h
    rw [List.getElem_map, List.getElem_map, ← gi_nat (by rw [sgW_len]; omega), ← gi_nat (by rw [sgW_len]; exact h), sgW_get (by omega), sgW_get h]
    refine .inr ⟨rfl, .inr ?_⟩
    show decide ((1 : Int) < ((i + 1 + 1 : Nat) : Int)) = true
    exact decide_eq_true (by omega)
theorem sgW_has {pts : List SS} (hi : Inc pts) {m i : Nat} (hm : m + 1 ≤ pts.length) (h : i < m) {t : Rat} (h1 : (gi pts (i : Int)).T ≤ t) (h2 : t ≤ (gi pts ((i + 1 : Nat) : Int)).T) : Has ((sgW pts m).map absU) t (pos (stl (gi pts (i : Int)) (gi pts ((i + 1 : Nat) : Int))) t) := by
  have hmem : ∀ j, j < m → absU (toU (sgU pts j)) ∈ (sgW pts m).map absU := fun j hj => by
    rw [← sgW_get hj]
    exact List.mem_map.2 ⟨_, gi_mem (by rw [sgW_len]; omega), rfl⟩
  by_cases hlt : (gi pts (i : Int)).T < t ∨ i = 0
  · refine ⟨_, hmem i h, ⟨?_, ?_⟩, rfl⟩
    · rcases hlt with h3 | h3
      · exact .inl h3
      · subst h3
        rcases Classical.em ((gi pts ((0 : Nat) : Int)).T < t) with h4 | h4
        · exact .inl h4
        · refine .inr ⟨?_, rfl⟩
          show (gi pts ((0 : Nat) : Int)).T = t
          grind
    · rcases Classical.em (t < (gi pts ((i + 1 : Nat) : Int)).T) with h4 | h4
      · exact .inl h4
      · refine .inr ⟨?_, rfl⟩
        show t = (gi pts ((i + 1 : Nat) : Int)).T
        grind
  · have ht : t = (gi pts (i : Int)).T := by grind
    have hi0 : i ≠ 0 := fun h0 => hlt (.inr h0)
    obtain ⟨k, rfl⟩ : ∃ k, i = k + 1 := ⟨i - 1, by omega⟩
    have h3 := hi k (by omega)
    have h4 := hi (k + 1) (by omega)
    refine ⟨_, hmem k (by omega), ⟨.inl ?_, .inr ⟨ht, rfl⟩⟩, ?_⟩
    · show (gi pts (k : Int)).T < t
      rw [ht]; exact h3
    · show pos (stl (gi pts (k : Int)) (gi pts ((k + 1 : Nat) : Int))) t = _
      rw [ht, stl_b h3, stl_a h4]
theorem toU_ofU (us : List UL) : mpN toU (mpN ofU us us.length) (mpN ofU us us.length).length = us := by
  rw [mpN_all, mpN_all, List.map_map]
  have : ∀ u ∈ us, (toU ∘ ofU) u = id u := fun u _ => rfl
  rw [List.map_congr_left this, List.map_id]
theorem mNorm_U (us : List PU) : mpN toU (mNorm us) (mNorm us).length = nrmR (mpN toU us us.length) := toU_ofU _
/-- The moving point through samples: no error, and what it says. -/
theorem frS_law {pts : List SS} (hB : Bnd pts) (hi : Inc pts) (h2 : 2 ≤ pts.length) : frE pts = 0 ∧ NF ((mpN toU (frS pts) (frS pts).length).map absU) ∧ (∀ u ∈ mpN toU (frS pts) (frS pts).length, UOk u) ∧ ∀ t v, Has ((mpN toU (frS pts) (frS pts).length).map absU) t v ↔ Has ((sgW pts (pts.length - 1)).map absU) t v := by
  have hv := sgW_val hB hi (m := pts.length - 1) (by omega)
  have hp := sgW_pw hB hi (m := pts.length - 1) (by omega)
  have hd : ((sgW pts (pts.length - 1)).map absU).Pairwise Dis := hp.imp fun h => h.Dis
  have e1 : frS pts = mNorm (sgs pts (pts.length - 1)) := by unfold frS; rw [if_neg (by omega)]
  have e2 : frE pts = nrmE (sgW pts (pts.length - 1)) := by unfold frE; rw [if_neg (by omega)]; rfl
  have e3 : mpN toU (frS pts) (frS pts).length = nrmR (sgW pts (pts.length - 1)) := by rw [e1, mNorm_U]; rfl
  obtain ⟨n1, n2⟩ := nrm_nf hv hd
  rw [e3]
  exact ⟨by rw [e2]; exact (nrmE_0 hv).2 hd, n1, nrmR_ok hv.i, n2⟩
theorem d2_self (p : R_api_Point) : d2 p p = 0 := by unfold d2; grind
theorem dv_nonneg (pts : List SS) (i j : Nat) : ∀ n, 0 ≤ dv pts i j n
  | 0 => Rat.le_refl
  | n + 1 => by
    rw [dv, Rat.max_def]
    have := dv_nonneg pts i j n
    split <;> grind
theorem dv_ge {pts : List SS} {i j : Nat} : ∀ n m : Nat, m < n → d2 (gi pts ((i : Int) + 1 + m)).P (pos (stl (gi pts (i : Int)) (gi pts (j : Int))) (gi pts ((i : Int) + 1 + m)).T) ≤ dv pts i j n
  | 0, m, h => by omega
  | n + 1, m, h => by
    rw [dv]
    rcases (by omega : m < n ∨ m = n) with h1 | h1
    · have := dv_ge (pts := pts) (i := i) (j := j) n m h1
      rw [Rat.max_def]
      split <;> grind
    · subst h1
      rw [Rat.max_def]
      split <;> grind
theorem sq0 (d : Rat) : 0 ≤ d * d := by
  rcases Std.le_total (a := (0 : Rat)) (b := d) with h | h
  · exact Rat.mul_nonneg h h
  · have : 0 ≤ (-d) * (-d) := Rat.mul_nonneg (by grind) (by grind)
    grind
theorem conv1 {l x0 x1 y0 y1 d : Rat} (h0 : 0 ≤ l) (h1 : l ≤ 1) (ha : x0 * x0 + y0 * y0 ≤ d) (hb : x1 * x1 + y1 * y1 ≤ d) :
    ((1 - l) * x0 + l * x1) * ((1 - l) * x0 + l * x1) + ((1 - l) * y0 + l * y1) * ((1 - l) * y0 + l * y1) ≤ d := by
  have e1 : 0 ≤ l * (1 - l) * ((x0 - x1) * (x0 - x1) + (y0 - y1) * (y0 - y1)) := Rat.mul_nonneg (Rat.mul_nonneg h0 (by grind)) (by have := sq0 (x0 - x1); have := sq0 (y0 - y1); grind)
  have e2 : 0 ≤ (1 - l) * (d - (x0 * x0 + y0 * y0)) := Rat.mul_nonneg (by grind) (by grind)
  have e3 : 0 ≤ l * (d - (x1 * x1 + y1 * y1)) := Rat.mul_nonneg h0 (by grind)
  grind
/-- On each straight way of a run, it is not farther from a longer one than at the breakpoints. -/
theorem dev_law {pts : List SS} (hi : Inc pts) {f g i : Nat} (hfg : f < g) (hg : g < pts.length) (h1 : f ≤ i) (h2 : i < g) {t : Rat} (ht1 : (gi pts (i : Int)).T ≤ t) (ht2 : t ≤ (gi pts ((i + 1 : Nat) : Int)).T) :
    d2 (pos (stl (gi pts (i : Int)) (gi pts ((i + 1 : Nat) : Int))) t) (pos (stl (gi pts (f : Int)) (gi pts (g : Int))) t) ≤ dv pts f g (g - f - 1) := by
  have hfl := hi.lt hfg hg
  have hil := hi i (by omega)
  have ends : ∀ j : Nat, f ≤ j → j ≤ g → d2 (gi pts (j : Int)).P (pos (stl (gi pts (f : Int)) (gi pts (g : Int))) (gi pts (j : Int)).T) ≤ dv pts f g (g - f - 1) := fun j h3 h4 => by
    rcases (by omega : j = f ∨ j = g ∨ (f < j ∧ j < g)) with h5 | h5 | ⟨h5, h6⟩
    · subst h5
      rw [stl_a hfl, d2_self]
      exact dv_nonneg _ _ _ _
    · subst h5
      rw [stl_b hfl, d2_self]
      exact dv_nonneg _ _ _ _
    · have h7 := dv_ge (pts := pts) (i := f) (j := g) (g - f - 1) (j - f - 1) (by omega)
      rw [show (f : Int) + 1 + ((j - f - 1 : Nat) : Int) = (j : Int) by omega] at h7
      exact h7
  have ha := ends i h1 (by omega)
  have hb := ends (i + 1) (by omega) (by omega)
  have hD : ¬ (gi pts ((i + 1 : Nat) : Int)).T - (gi pts (i : Int)).T = 0 := by grind
  obtain ⟨l, hl⟩ : ∃ l, l = (t - (gi pts (i : Int)).T) / ((gi pts ((i + 1 : Nat) : Int)).T - (gi pts (i : Int)).T) := ⟨_, rfl⟩
  have hlt : t = (gi pts (i : Int)).T + l * ((gi pts ((i + 1 : Nat) : Int)).T - (gi pts (i : Int)).T) := by rw [hl]; grind
  have hpos : 0 < (gi pts ((i + 1 : Nat) : Int)).T - (gi pts (i : Int)).T := by grind
  have hl0 : 0 ≤ l := by
    rcases Classical.em (0 ≤ l) with h3 | h3
    · exact h3
    · exfalso
      have : 0 < (-l) * ((gi pts ((i + 1 : Nat) : Int)).T - (gi pts (i : Int)).T) := Rat.mul_pos (by grind) hpos
      grind
  have hl1 : l ≤ 1 := by
    rcases Classical.em (l ≤ 1) with h3 | h3
    · exact h3
    · exfalso
      have : 0 < (l - 1) * ((gi pts ((i + 1 : Nat) : Int)).T - (gi pts (i : Int)).T) := Rat.mul_pos (by grind) hpos
      grind
  rw [stl_pos hil, ← hl]
  generalize gi pts (i : Int) = a at *
  generalize gi pts ((i + 1 : Nat) : Int) = b at *
  generalize stl (gi pts (f : Int)) (gi pts (g : Int)) = L at *
  have hc := conv1 hl0 hl1 ha hb
  unfold d2 pos at *
  simp only at hc ⊢
  subst hlt
  have ex : a.P.X + (b.P.X - a.P.X) * l - (L.X0 + (a.T + l * (b.T - a.T)) * (L.X1 + (a.T + l * (b.T - a.T)) * 0)) = (1 - l) * (a.P.X - (L.X0 + a.T * (L.X1 + a.T * 0))) + l * (b.P.X - (L.X0 + b.T * (L.X1 + b.T * 0))) := by grind
  have ey : a.P.Y + (b.P.Y - a.P.Y) * l - (L.Y0 + (a.T + l * (b.T - a.T)) * (L.Y1 + (a.T + l * (b.T - a.T)) * 0)) = (1 - l) * (a.P.Y - (L.Y0 + a.T * (L.Y1 + a.T * 0))) + l * (b.P.Y - (L.Y0 + b.T * (L.Y1 + b.T * 0))) := by grind
  rw [ex, ey]
  exact hc
/-- The straight way at an instant between two breakpoints. -/
theorem way_at {pts : List SS} (hi : Inc pts) {f g : Nat} (hfg : f < g) (hg : g < pts.length) {t : Rat} (h1 : (gi pts (f : Int)).T ≤ t) (h2 : t ≤ (gi pts (g : Int)).T) : ∃ i, f ≤ i ∧ i < g ∧ (gi pts (i : Int)).T ≤ t ∧ t ≤ (gi pts ((i + 1 : Nat) : Int)).T := by
  have key : ∀ d, f + d + 1 ≤ g → t ≤ (gi pts ((f + d + 1 : Nat) : Int)).T → ∃ i, f ≤ i ∧ i < g ∧ (gi pts (i : Int)).T ≤ t ∧ t ≤ (gi pts ((i + 1 : Nat) : Int)).T := fun d => by
    induction d with
    | zero => exact fun h3 h4 => ⟨f, Nat.le_refl _, hfg, h1, h4⟩
    | succ d ih =>
      intro h3 h4
      by_cases h5 : t ≤ (gi pts ((f + d + 1 : Nat) : Int)).T
      · exact ih (by omega) h5
      · exact ⟨f + d + 1, by omega, by omega, by grind, h4⟩
  exact key (g - f - 1) (by omega) (by rw [show f + (g - f - 1) + 1 = g by omega]; exact h2)
end Go.Vt
/- What the part of a value during a period says: plain. Conditions: those that each statement names. -/
set_option linter.unusedSimpArgs false
set_option linter.unusedVariables false
set_option maxHeartbeats 2000000
set_option maxRecDepth 100000
namespace Go.Vt
open Go.RowKit Go.Proofs
open Fv (va red)
def memI (I : R_api_Interval) (t : Rat) : Prop := (I.From.P < t ∨ (I.From.P = t ∧ I.OpenFrom = false)) ∧ (t < I.To.P ∨ (t = I.To.P ∧ I.OpenTo = false))
def okI (I : R_api_Interval) : Prop := I.From.P < I.To.P ∨ (I.From.P = I.To.P ∧ I.OpenFrom = false ∧ I.OpenTo = false)
theorem memI_ok {I : R_api_Interval} {t : Rat} (h : memI I t) : okI I := by
  unfold memI okI at *
  grind
theorem mt_mem {a b : R_api_Interval} {t : Rat} : memI (mt a b) t ↔ memI a t ∧ memI b t := by
  unfold memI mt mtF mtT
  split <;> split <;> (try split) <;> (try split) <;> simp only [Bool.or_eq_false_iff] <;> grind
theorem mtO_iff {a b : R_api_Interval} : mtO a b = true ↔ okI (mt a b) := by
  unfold mtO okI
  simp
theorem has_map {us : List UL} {t : Rat} {v : R_api_Point} : Has (us.map absU) t v ↔ ∃ u ∈ us, memI u.In t ∧ pos u.F t = v := by
  unfold Has
  constructor
  · rintro ⟨x, hx, h1, h2⟩
    obtain ⟨u, hu, rfl⟩ := List.mem_map.1 hx
    exact ⟨u, hu, h1, h2⟩
  · rintro ⟨u, hu, h1, h2⟩
    exact ⟨_, List.mem_map.2 ⟨u, hu, rfl⟩, h1, h2⟩
theorem ri_mem {u x : UL} {ds : List R_api_Interval} : ∀ {k : Nat}, k ≤ ds.length → (x ∈ ri u ds k ↔ ∃ j : Nat, j < k ∧ mtO u.In (gi ds (j : Int)) = true ∧ x = ⟨mt u.In (gi ds (j : Int)), u.F⟩)
  | 0, _ => by simp [ri]
  | k + 1, hk => by
    rw [ri, List.mem_append, ri_mem (by omega)]
    constructor
    · rintro (⟨j, h1, h2⟩ | h1)
      · exact ⟨j, by omega, h2⟩
      · split at h1
        · rename_i hm
          rw [List.mem_singleton] at h1
          exact ⟨k, by omega, hm, h1⟩
        · cases h1
    · rintro ⟨j, h1, h2, h3⟩
      rcases (by omega : j < k ∨ j = k) with h4 | h4
      · exact .inl ⟨j, h4, h2, h3⟩
      · subst h4
        rw [if_pos h2]
        exact .inr (by simp [h3])
theorem ro_mem {us : List UL} {x : UL} {ds : List R_api_Interval} : ∀ {m : Nat}, m ≤ us.length → (x ∈ ro us ds m ↔ ∃ i : Nat, i < m ∧ x ∈ ri (gi us (i : Int)) ds ds.length)
  | 0, _ => by simp [ro]
  | m + 1, hm => by
    rw [ro, List.mem_append, ro_mem (by omega)]
    constructor
    · rintro (⟨i, h1, h2⟩ | h1)
      · exact ⟨i, by omega, h2⟩
      · exact ⟨m, by omega, h1⟩
    · rintro ⟨i, h1, h2⟩
      rcases (by omega : i < m ∨ i = m) with h4 | h4
      · exact .inl ⟨i, h4, h2⟩
      · subst h4; exact .inr h2
/-- The parts: each is of a unit and an interval. -/
theorem ro_iff {us : List UL} {x : UL} {ds : List R_api_Interval} : x ∈ ro us ds us.length ↔ ∃ u ∈ us, ∃ d ∈ ds, mtO u.In d = true ∧ x = ⟨mt u.In d, u.F⟩ := by
  rw [ro_mem (Nat.le_refl _)]
  constructor
  · rintro ⟨i, h1, h2⟩
    obtain ⟨j, h3, h4, h5⟩ := (ri_mem (Nat.le_refl _)).1 h2
    exact ⟨_, gi_mem (by omega), _, gi_mem (by omega), h4, h5⟩
  · rintro ⟨u, hu, d, hd, h1, h2⟩
    obtain ⟨i, hi, rfl⟩ := List.getElem_of_mem hu
    obtain ⟨j, hj, rfl⟩ := List.getElem_of_mem hd
    exact ⟨i, hi, (ri_mem (Nat.le_refl _)).2 ⟨j, hj, by rw [gi_nat hi, gi_nat hj]; exact h1, by rw [gi_nat hi, gi_nat hj]; exact h2⟩⟩
theorem ro_has {us : List UL} {ds : List R_api_Interval} {t : Rat} {v : R_api_Point} : Has ((ro us ds us.length).map absU) t v ↔ Has (us.map absU) t v ∧ ∃ d ∈ ds, memI d t := by
  rw [has_map, has_map]
  constructor
  · rintro ⟨x, hx, h1, h2⟩
    obtain ⟨u, hu, d, hd, h3, rfl⟩ := ro_iff.1 hx
    have h4 := mt_mem.1 h1
    exact ⟨⟨u, hu, h4.1, h2⟩, d, hd, h4.2⟩
  · rintro ⟨⟨u, hu, h1, h2⟩, d, hd, h3⟩
    have h4 := mt_mem.2 ⟨h1, h3⟩
    exact ⟨_, ro_iff.2 ⟨u, hu, d, hd, mtO_iff.2 (memI_ok h4), rfl⟩, h4, h2⟩
theorem ro_ok {us : List UL} {ds : List R_api_Interval} : ∀ u ∈ ro us ds us.length, (absU u).ok := fun x hx => by
  obtain ⟨u, hu, d, hd, h3, rfl⟩ := ro_iff.1 hx
  exact mtO_iff.1 h3
def DisI (a b : R_api_Interval) : Prop := ∀ t, ¬ (memI a t ∧ memI b t)
theorem ri_pw {u : UL} {ds : List R_api_Interval} (hd : ds.Pairwise DisI) : ∀ k, k ≤ ds.length → ((ri u ds k).map absU).Pairwise Dis
  | 0, _ => by simp [ri]
  | k + 1, hk => by
    rw [ri, List.map_append]
    refine List.pairwise_append.2 ⟨ri_pw hd k (by omega), ?_, fun x hx y hy => ?_⟩
    · split <;> simp
    · split at hy
      · simp only [List.map_cons, List.map_nil, List.mem_singleton] at hy
        subst hy
        obtain ⟨x', hx', rfl⟩ := List.mem_map.1 hx
        obtain ⟨j, h1, h2, rfl⟩ := (ri_mem (by omega)).1 hx'
        rintro t ⟨h3, h4⟩
        have h5 := List.pairwise_iff_getElem.1 hd j k (by omega) (by omega) h1
        exact h5 t ⟨by rw [← gi_nat (by omega)]; exact (mt_mem.1 h3).2, by rw [← gi_nat (by omega)]; exact (mt_mem.1 h4).2⟩
      · cases hy
theorem ro_pw {us : List UL} {ds : List R_api_Interval} (hu : (us.map absU).Pairwise Dis) (hd : ds.Pairwise DisI) : ∀ m, m ≤ us.length → ((ro us ds m).map absU).Pairwise Dis
  | 0, _ => by simp [ro]
  | m + 1, hm => by
    rw [ro, List.map_append]
    refine List.pairwise_append.2 ⟨ro_pw hu hd m (by omega), ri_pw hd _ (Nat.le_refl _), fun x hx y hy => ?_⟩
    obtain ⟨x', hx', rfl⟩ := List.mem_map.1 hx
    obtain ⟨y', hy', rfl⟩ := List.mem_map.1 hy
    obtain ⟨i, h1, h2⟩ := (ro_mem (by omega)).1 hx'
    obtain ⟨j, h3, h4, rfl⟩ := (ri_mem (Nat.le_refl _)).1 h2
    obtain ⟨j', h5, h6, rfl⟩ := (ri_mem (Nat.le_refl _)).1 hy'
    rintro t ⟨h7, h8⟩
    have h9 := List.pairwise_iff_getElem.1 hu i m (by rw [List.length_map]; omega) (by rw [List.length_map]; omega) h1
    rw [List.getElem_map, List.getElem_map, ← gi_nat (by omega), ← gi_nat (by omega)] at h9
    exact h9 t ⟨(mt_mem.1 h7).1, (mt_mem.1 h8).1⟩
structure UK (K : Nat) (u : UL) : Prop where
  i : IvOk K u.In
  f : LnOk K u.F
theorem UK.mono {K K' : Nat} {u : UL} (h : UK K u) (hk : K ≤ K') : UK K' u := ⟨h.i.mono hk, h.f.mono hk⟩
theorem UK.uin {K : Nat} {u : UL} (h : UK K u) (hk : K ≤ KN) : UIn u := ⟨h.i.mono hk, h.f.mono hk⟩
theorem lred_K {K : Nat} {f : R_api_Line} {t : Rat} (h : LnOk K f) (ht : M t ≤ K) : LnOk (4 * K + 4) (lred f t) := by
  have one : ∀ a b : Rat, M a ≤ K → M b ≤ K → M (a + t * (b + t * 0)) ≤ 4 * K + 4 := fun a b ha hb => by
    have h1 := M_add a (t * (b + t * 0))
    have h2 := M_mul t (b + t * 0)
    have h3 := M_add b (t * 0)
    have h4 := M_mul t 0
    have h5 : M 0 = 1 := by decide
    omega
  have h0 : M 0 ≤ 4 * K + 4 := by
    have h5 : M 0 = 1 := by decide
    omega
  exact ⟨one _ _ h.x0 h.x1, h0, one _ _ h.y0 h.y1, h0⟩
theorem nstp_K {K : Nat} {l : List UL} {i : Nat} {xs : List UL} {x : UL} (h : ∀ v ∈ xs, UK (4 * K + 4) v) (hx : UK K x) : ∀ v ∈ nstp l i xs x, UK (4 * K + 4) v := by
  have hx' := hx.mono (show K ≤ 4 * K + 4 by omega)
  have trn : ∀ {u : UL}, UK (4 * K + 4) u → ∀ v ∈ turn xs u, UK (4 * K + 4) v := fun hu v hv => by
    rcases List.mem_or_eq_of_mem_set hv with h1 | h1
    · exact h v h1
    · rw [h1]; exact hu
  unfold nstp
  split
  · split
    · rename_i hc
      have h0 : 0 < xs.length := by
        unfold cA at hc
        simp only [Bool.and_eq_true] at hc
        exact bef_len hc.1
      have hl := h _ (gi_mem (i := (xs.length : Int) - 1) (xs := xs) (by omega))
      exact trn ⟨⟨hl.i.r1, hx'.i.r2, hl.i.n1, hx'.i.n2, hl.i.m1, hx'.i.m2⟩, hl.f⟩
    · intro v hv
      rcases List.mem_append.1 hv with h1 | h1
      · exact h v h1
      · rw [List.mem_singleton] at h1
        subst h1
        split
        · exact ⟨hx'.i.at _ _, hx'.f⟩
        · exact hx'
  · split
    · rename_i hc
      have h0 : 0 < xs.length := by
        unfold cC at hc
        simp only [Bool.and_eq_true] at hc
        exact bef_len hc.1
      have hl := h _ (gi_mem (i := (xs.length : Int) - 1) (xs := xs) (by omega))
      exact trn ⟨hl.i.at _ _, hl.f⟩
    · split
      · exact h
      · intro v hv
        rcases List.mem_append.1 hv with h1 | h1
        · exact h v h1
        · rw [List.mem_singleton] at h1
          subst h1
          exact ⟨hx'.i, lred_K hx.f hx.i.m1⟩
theorem nrm_K {K : Nat} {l : List UL} (h : ∀ u ∈ l, UK K u) : ∀ m, m ≤ l.length → ∀ v ∈ nrm l m, UK (4 * K + 4) v
  | 0, _ => fun v hv => by cases hv
  | m + 1, hm => nstp_K (nrm_K h m (by omega)) (h _ (gi_mem (by omega)))
theorem atU_K {K : Nat} {u v : UL} (h : UK K u) (hv : v ∈ atU u) : UK K v := by
  unfold atU at hv
  rcases List.mem_append.1 hv with h1 | h1
  · split at h1
    · cases h1
    · rw [List.mem_singleton] at h1
      subst h1
      exact ⟨⟨h.i.r1, h.i.r1, h.i.n1, h.i.n1, h.i.m1, h.i.m1⟩, h.f⟩
  · split at h1
    · cases h1
    · rcases List.mem_cons.1 h1 with h2 | h2
      · subst h2
        exact ⟨h.i.at _ _, h.f⟩
      · split at h2
        · cases h2
        · rw [List.mem_singleton] at h2
          subst h2
          exact ⟨⟨h.i.r2, h.i.r2, h.i.n2, h.i.n2, h.i.m2, h.i.m2⟩, h.f⟩
theorem atm_K {K : Nat} {us : List UL} (h : ∀ u ∈ us, UK K u) : ∀ m, m ≤ us.length → ∀ v ∈ atm us m, UK K v
  | 0, _, v, hv => by cases hv
  | m + 1, hm, v, hv => by
    rw [atm] at hv
    rcases List.mem_append.1 hv with h1 | h1
    · exact atm_K h m (by omega) v h1
    · exact atU_K (h _ (gi_mem (by omega))) h1
theorem nrmR_K {K : Nat} {us : List UL} (h : ∀ u ∈ us, UK K u) : ∀ v ∈ nrmR us, UK (4 * K + 4) v := by
  unfold nrmR
  split
  · exact nrm_K (atm_K (fun u hu => h u (sor_mem hu)) _ (Nat.le_refl _)) _ (Nat.le_refl _)
  · intro v hv
    cases hv
theorem ro_K {K : Nat} {us : List UL} {ds : List R_api_Interval} (h : ∀ u ∈ us, UK K u) (hd : ∀ d ∈ ds, IvOk K d) : ∀ u ∈ ro us ds us.length, UK K u := fun x hx => by
  obtain ⟨u, hu, d, hd', h3, rfl⟩ := ro_iff.1 hx
  exact ⟨mt_ok (h u hu).i (hd d hd'), (h u hu).f⟩
end Go.Vt
/- The part of a moving point during a period; equal moving points: walked. Conditions: those that each statement names. -/
set_option linter.unusedSimpArgs false
set_option linter.unusedVariables false
set_option maxHeartbeats 2000000
set_option maxRecDepth 100000
namespace Go.Vt
open Go.RowKit Go.Proofs
instance sr_restrict (w0 : World) (L : List Blk) (v v2 : Value) (us : List UL) (ds : List R_api_Interval) [h : LstC w0 L v UL rU us] [h2 : LstC w0 L v2 R_api_Interval rI ds] : SpecR Tryz.prog w0 L 113 [vLines, v, v2] (SlS rU 36 (nrmR (ro us ds us.length))) (fun s => vSl s) (fun s => mS 163 s) ((us.length ≤ 1024 ∧ ds.length ≤ 1024 ∧ (ro us ds us.length).length ≤ 19) ∧ (∀ u ∈ us, IvOk BQ u.In) ∧ (∀ d ∈ ds, IvOk BQ d) ∧ ∀ u ∈ ro us ds us.length, UIn u) := ⟨fun hp w hw =>
  restrict_spec v v2 us ds w (h.out w hw) (h2.out w hw) hp.1.1 hp.1.2.1 hp.1.2.2 hp.2.1 hp.2.2.1 hp.2.2.2⟩
/-- The units of a moving point, restricted. -/
def mRes (us : List PU) (ds : List R_api_Interval) : List UL := ro (mpN toU us us.length) ds (mpN toU us us.length).length
structure ResOk (us : List PU) (ds : List R_api_Interval) : Prop where
  l1 : us.length ≤ 1024
  l2 : ds.length ≤ 1024
  l3 : (mRes us ds).length ≤ 19
  o1 : ∀ u ∈ mpN toU us us.length, IvOk BQ u.In
  o2 : ∀ d ∈ ds, IvOk BQ d
  o3 : ∀ u ∈ mRes us ds, UIn u
theorem mrestrict_spec (v v2 : Value) (us : List PU) (ds : List R_api_Interval) (w : World) (hv : ArgS w v rP us) (hd : ArgS w v2 rI ds) (hok : ResOk us ds) :
    Calls Tryz.prog 71 [v, v2].toArray w (RetM (SlS rP 36 (mpN ofU (nrmR (mRes us ds)) (nrmR (mRes us ds)).length)) (fun s => vSl s) (fun s => mS 68 s) w) := by
  have := ArgC.mk hv
  have := ArgC.mk hd
  have hml := mpN_len toU us us.length
  have hnl := nrmR_len (mRes us ds)
  have h3 := hok.l3
  have h1 := hok.l1
  refine fn_intro Tryz.func71 rfl Tryz.ntmps71 rfl ?_
  repeat (first | (refine wkB ?_; try intro _) | (refine sC rfl rfl ?_ ?_; focus (first | omega | exact (show (nrmR (mRes us ds)).length ≤ 1048576 by omega) | exact ⟨⟨by omega, hok.l2, hok.l3⟩, hok.o1, hok.o2, hok.o3⟩)) | (refine sN rfl rfl ?_ ?_; (focus (first | omega | exact (show (nrmR (mRes us ds)).length ≤ 1048576 by omega) | exact ⟨⟨by omega, hok.l2, hok.l3⟩, hok.o1, hok.o2, hok.o3⟩)); intro _; (try simp only [List.cons_append, List.nil_append, List.append_nil])))
  rename_i s1 s2 s3
  exact jx_ret_tmp rfl rfl (fun w hw => ⟨s3, rfl, hw.sub suB⟩)
instance sr_mrestrict (w0 : World) (L : List Blk) (v v2 : Value) (us : List PU) (ds : List R_api_Interval) [h : LstC w0 L v PU rP us] [h2 : LstC w0 L v2 R_api_Interval rI ds] : SpecR Tryz.prog w0 L 71 [v, v2] (SlS rP 36 (mpN ofU (nrmR (mRes us ds)) (nrmR (mRes us ds)).length)) (fun s => vSl s) (fun s => mS 68 s) (ResOk us ds) := ⟨fun hp w hw => mrestrict_spec v v2 us ds w (h.out w hw) (h2.out w hw) hp⟩
/-- A slice of the call's own with one element, or two. -/
instance lst1 {α : Type} {enc : α → Array Value} {k : Nat} {x : α} {sp : List Value} [he : EncC enc k] (w0 : World) (L : List Blk) (b c : Nat) (T : TypeId) [h : AtC w0 L b (row enc [x] sp) T] : LstC w0 L (.slice (some ⟨b, 0, none⟩) 1 (c + 1)) α enc [x] := ⟨fun w hw => by
  obtain ⟨fz, hb⟩ := h.out w hw
  exact argS_row (c := c + 1) hb (Nat.le_add_left 1 c)⟩
def eqN (us vs : List PU) : Nat → Bool
  | 0 => true
  | m + 1 => eqN us vs m && decide (gi us (m : Int) = gi vs (m : Int))
theorem eqN_iff {us vs : List PU} : ∀ m, m ≤ us.length → m ≤ vs.length → (eqN us vs m = true ↔ us.take m = vs.take m)
  | 0, _, _ => by simp [eqN]
  | m + 1, h1, h2 => by
    rw [eqN, Bool.and_eq_true, eqN_iff m (by omega) (by omega), decide_eq_true_iff, List.take_succ_eq_append_getElem h1, List.take_succ_eq_append_getElem h2, gi_nat h1, gi_nat h2]
    constructor
    · rintro ⟨h3, h4⟩
      rw [h3, h4]
    · intro h3
      have := List.append_inj' h3 rfl
      exact ⟨this.1, by simpa using this.2⟩
theorem seq_spec (v1 v2 : Value) (us vs : List PU) (w : World) (h1 : ArgS w v1 rP us) (h2 : ArgS w v2 rP vs) (hl : us.length ≤ 1048576) (hl2 : vs.length ≤ 1048576) :
    Calls Tryz.prog 72 [v1, v2].toArray w (Ret (.bool (decide (us = vs))) w) := by
  refine fn_intro Tryz.func72 rfl Tryz.ntmps72 rfl ?_
  obtain ⟨p1, c1, rfl⟩ := h1.form
  obtain ⟨p2, c2, rfl⟩ := h2.form
  repeat (refine wkB ?_; try intro _)
  by_cases hll : us.length = vs.length
  · simp only [decide_eq_true (show (us.length : Int) = (vs.length : Int) by omega), Bool.not_true]
    repeat (refine wkB ?_; try intro _)
    refine j_loop (S := Nat) (fun m => m ≤ us.length ∧ eqN us vs m = true) (fun m => [(0, .slice p1 us.length c1), (1, .slice p2 vs.length c2), (11, .slice p1 us.length c1), (12, .int .i64 us.length), (13, .int .i64 (m : Nat))]) (fun _ => []) (fun m => us.length - m) 0 ⟨Nat.zero_le _, rfl⟩ sbB slB (fun m hm => ?_)
    obtain ⟨hm, he⟩ := hm
    repeat (refine wkB ?_; try intro _)
    refine j_cond rfl (fun h => ?_) (fun h => ?_)
    · have hlt : m < us.length := by have := of_decide_eq_true h; omega
      have hne : us ≠ [] := fun h0 => by rw [h0] at hlt; simp at hlt
      have hne2 : vs ≠ [] := fun h0 => by rw [h0] at hll; simp at hll; rw [hll] at hlt; simp at hlt
      obtain ⟨b1, o1, c1', hv1, hc1, hr1⟩ := h1.blk (k := 35) hne []
      injection hv1 with e1 e2 e3
      subst e1
      subst e3
      obtain ⟨b2, o2, c2', hv2, hc2, hr2⟩ := h2.blk (k := 35) hne2 []
      injection hv2 with e1 e2 e3
      subst e1
      subst e3
      have hr1' : ∀ L, RowC w L b1 o1 PU rP us := fun L => ⟨fun w' hw' => hr1.out w' (hw'.sub (List.nil_sublist _))⟩
      have hr2' : ∀ L, RowC w L b2 o2 PU rP vs := fun L => ⟨fun w' hw' => hr2.out w' (hw'.sub (List.nil_sublist _))⟩
      repeat (refine wkB ?_; try intro _)
      refine jD 9 9 (h := ?_)
      (repeat (refine wkH ?_))
      rcases hd : decide (gi us (m : Int) = gi vs (m : Int)) with _ | _
      · refine jh_nil ?_
        refine jn_nil ?_
        have hno : decide (us = vs) = false := decide_eq_false fun h0 => by
          subst h0
          exact of_decide_eq_false hd rfl
        repeat (refine wkB ?_; try intro _)
        rw [hno]
        exact jx_ret_tmp rfl rfl (fun w hw => ret_ok hw)
      · refine jh_nil ?_
        refine jn_nil ?_
        repeat (first | (refine wkB ?_; try intro _) | (refine sC rfl rfl ?_ ?_; focus (exact ⟨by omega, by omega⟩)) | (refine sN rfl rfl ?_ ?_; (focus (exact ⟨by omega, by omega⟩)); intro _; (try simp only [List.cons_append, List.nil_append, List.append_nil])))
        exact jx_loop (m + 1) ⟨hlt, by rw [eqN, he, hd]; rfl⟩ sbB slB (by omega)
    · have hge : m = us.length := by have := of_decide_eq_false h; omega
      subst hge
      have hyes : decide (us = vs) = true := by
        have := (eqN_iff us.length (Nat.le_refl _) (by omega)).1 he
        rw [List.take_length, hll, List.take_length] at this
        exact decide_eq_true this
      repeat (refine wkB ?_; try intro _)
      rw [hyes]
      exact jx_ret_tmp rfl rfl (fun w hw => ret_ok hw)
  · have hno : decide (us = vs) = false := decide_eq_false fun h0 => hll (by rw [h0])
    simp only [decide_eq_false (show ¬ (us.length : Int) = (vs.length : Int) by omega), Bool.not_false]
    repeat (refine wkB ?_; try intro _)
    rw [hno]
    exact jx_ret_tmp rfl rfl (fun w hw => ret_ok hw)
theorem msame_spec (v1 v2 : Value) (us vs : List PU) (w : World) (h1 : ArgS w v1 rP us) (h2 : ArgS w v2 rP vs) (hl : us.length ≤ 1048576) (hl2 : vs.length ≤ 1048576) :
    Calls Tryz.prog 26 [v1, v2].toArray w (Ret (.bool (decide (us = vs))) w) := by
  have : ∀ L, SpecM Tryz.prog w L 72 [v1, v2] (.bool (decide (us = vs))) True := fun L => ⟨fun _ w' hw' => seq_spec v1 v2 us vs w' (h1.to hw'.ext) (h2.to hw'.ext) hl hl2⟩
  refine fn_intro Tryz.func26 rfl Tryz.ntmps26 rfl ?_
  repeat (refine wkB ?_; try intro _)
  exact jx_ret_tmp rfl rfl (fun w hw => ret_ok hw)
instance sm_msame (w0 : World) (L : List Blk) (v1 v2 : Value) (us vs : List PU) [h1 : LstC w0 L v1 PU rP us] [h2 : LstC w0 L v2 PU rP vs] : SpecM Tryz.prog w0 L 26 [v1, v2] (.bool (decide (us = vs))) (us.length ≤ 1048576 ∧ vs.length ≤ 1048576) := ⟨fun hp w hw => msame_spec v1 v2 us vs w (h1.out w hw) (h2.out w hw) hp.1 hp.2⟩
end Go.Vt
/- The moving point that runs make up, walked. Conditions: those that each statement names. -/
set_option linter.unusedSimpArgs false
set_option linter.unusedVariables false
set_option maxHeartbeats 2000000
set_option maxRecDepth 100000
namespace Go.Vt
open Go.RowKit Go.Proofs
/-- A run, and where its breakpoints lie. -/
structure RD where
  I : R_api_Interval
  b : Nat
  c : Nat
  pts : List SS
  sp : List Value
instance : Inhabited RD := ⟨⟨zR_api_Interval, 0, 0, [], []⟩⟩
abbrev rR := r_simplify_Run
def RD.hd (r : RD) : R_simplify_Run := ⟨r.I, ⟨some ⟨r.b, 0, none⟩, r.pts.length, r.c⟩⟩
theorem gi_map {α β : Type} [Inhabited α] [Inhabited β] {f : α → β} {xs : List α} {i : Nat} (h : i < xs.length) : gi (xs.map f) (i : Int) = f (gi xs (i : Int)) := by
  rw [gi_nat (by rw [List.length_map]; exact h), gi_nat h, List.getElem_map]
/-- The unit behind a breakpoint of a run. -/
def bsU (I : R_api_Interval) (pts : List SS) (i : Nat) : PU := ⟨⟨⟨(gi pts (i : Int)).T, 0, false⟩, ⟨(gi pts ((i + 1 : Nat) : Int)).T, 0, false⟩, if i = 0 then I.OpenFrom else true, if i + 2 = pts.length then I.OpenTo else false⟩, stl (gi pts (i : Int)) (gi pts ((i + 1 : Nat) : Int))⟩
def bs (I : R_api_Interval) (pts : List SS) : Nat → List PU
  | 0 => []
  | m + 1 => bs I pts m ++ [bsU I pts m]
def b1 (I : R_api_Interval) (pts : List SS) : List PU := if pts.length = 1 then [⟨I, ⟨(gi pts 0).P.X, 0, (gi pts 0).P.Y, 0⟩⟩] else bs I pts (pts.length - 1)
def bA (rs : List RD) : Nat → List PU
  | 0 => []
  | m + 1 => bA rs m ++ b1 (gi rs (m : Int)).I (gi rs (m : Int)).pts
theorem bs_len (I : R_api_Interval) (pts : List SS) : ∀ m, (bs I pts m).length = m
  | 0 => rfl
  | m + 1 => by rw [bs, List.length_append, bs_len I pts m]; rfl
theorem b1_len (I : R_api_Interval) (pts : List SS) : (b1 I pts).length ≤ pts.length := by
  unfold b1
  split
  · simp; omega
  · rw [bs_len]; omega
/-- The runs are short, their breakpoints lie in memory. -/
structure RdOk (w : World) (r : RD) : Prop where
  len : r.pts.length ≤ 1024
  bnd : Bnd r.pts
  mem : ∃ T fz, w.heap[r.b]? = some (.cells (row rS r.pts r.sp) T fz)
theorem bA_len {w : World} {rs : List RD} (h : ∀ r ∈ rs, RdOk w r) : ∀ m, m ≤ rs.length → (bA rs m).length ≤ m * 1024
  | 0, _ => by simp [bA]
  | m + 1, hm => by
    have h1 := bA_len h m (by omega)
    have h2 := (h _ (gi_mem (i := (m : Int)) (xs := rs) (by omega))).len
    have h3 := b1_len (gi rs (m : Int)).I (gi rs (m : Int)).pts
    rw [bA, List.length_append]
    omega
set_option maxHeartbeats 2000000 in
theorem build_spec (v : Value) (rs : List RD) (w : World) (hv : ArgS w v rR (rs.map RD.hd)) (hl : rs.length ≤ 64) (hr : ∀ r ∈ rs, RdOk w r) (h19 : (bA rs rs.length).length ≤ 19) (hin : ∀ u ∈ mpN toU (bA rs rs.length) (bA rs rs.length).length, UIn u) :
    Calls Tryz.prog 24 [v].toArray w (RetM (SlS rP 36 (mNorm (bA rs rs.length))) (fun s => .tuple #[vSl s, .int .i64 (nrmE (mpN toU (bA rs rs.length) (bA rs rs.length).length))]) (fun s => mS 68 s) w) := by
  refine fn_intro Tryz.func24 rfl Tryz.ntmps24 rfl ?_
  obtain ⟨p, cp, rfl⟩ := hv.form
  have hml : (rs.map RD.hd).length = rs.length := List.length_map _
  rw [hml]
  repeat (refine wkB ?_; try intro _)
  refine j_loop (S := (m : Nat) × SlS rP 36 (bA rs m)) (fun s => s.1 ≤ rs.length) (fun s => [(4, vSl s.2), (11, .slice p rs.length cp), (12, .int .i64 rs.length), (13, .int .i64 (s.1 : Nat))]) (fun s => mS 68 s.2) (fun s => rs.length - s.1) ⟨0, SlS.no⟩ (Nat.zero_le _) sbB slB (fun s hm => ?_)
  obtain ⟨m, s⟩ := s
  simp only at hm ⊢
  repeat (refine wkB ?_; try intro _)
  refine j_cond rfl (fun h => ?_) (fun h => ?_)
  · have hlt : m < rs.length := by have := of_decide_eq_true h; omega
    have hne : rs.map RD.hd ≠ [] := fun h0 => by rw [h0] at hml; simp at hml; omega
    obtain ⟨bw, ow, cw, hvw, hcw, hrow⟩ := hv.blk (k := 20) hne []
    injection hvw with e1 e2 e3
    subst e1
    subst e3
    have hrow' : ∀ L, RowC w L bw ow R_simplify_Run rR (rs.map RD.hd) := fun L => ⟨fun w' hw' => hrow.out w' (hw'.sub (List.nil_sublist _))⟩
    have hbl := bA_len hr m (by omega)
    have hrm := hr _ (gi_mem (i := (m : Int)) (xs := rs) (by omega))
    have hgm := gi_map (f := RD.hd) hlt
    have hbA : bA rs (m + 1) = bA rs m ++ b1 (gi rs (m : Int)).I (gi rs (m : Int)).pts := rfl
    repeat (refine wkB ?_; try intro _)
    simp only [hgm]
    generalize gi rs (m : Int) = r at *
    obtain ⟨I, b, c, pts, sp⟩ := r
    obtain ⟨rl, rb, T, rmem⟩ := hrm
    simp only at rl rb rmem hbA
    have := FoC.mk rmem
    dsimp only [RD.hd]
    rename_i b6
    have hb1 : b1 I pts = (if pts.length = 1 then [⟨I, ⟨(gi pts 0).P.X, 0, (gi pts 0).P.Y, 0⟩⟩] else []) ++ bs I pts (pts.length - 1) := by
      unfold b1
      split
      · rename_i h1
        rw [h1]
        rfl
      · rfl
    refine j_permL (mS 68 s ++ [⟨b6, cRun I b pts.length c, 35⟩]) (List.perm_append_singleton _ _).symm ?_
    have hgA : (pts.length : Int) = 1 ↔ pts.length = 1 := by omega
    refine j_cut (S := (xs : List PU) × SlS rP 36 xs) (fun s' => s'.1 = bA rs m ++ (if pts.length = 1 then [⟨I, ⟨(gi pts 0).P.X, 0, (gi pts 0).P.Y, 0⟩⟩] else [])) (fun s' => [(4, vSl s'.2), (6, .pointer (some ⟨b6, 0, none⟩)), (11, .slice (some ⟨bw, ow, none⟩) rs.length cp), (12, .int .i64 rs.length), (13, .int .i64 (m : Nat))]) (fun s' => mS 68 s'.2 ++ [⟨b6, cRun I b pts.length c, 35⟩]) ?_ (fun s' hs' => ?_)
    · refine j_cond rfl (fun h1 => ?_) (fun h1 => ?_)
      · have h1' : pts.length = 1 := by have := of_decide_eq_true h1; omega
        repeat (refine wkB ?_; try intro _)
        refine sU rfl rfl ?_ ?_ ?_ ?_
        · rfl
        · rfl
        · exact ⟨by decide, by omega, by omega⟩
        intro s'
        repeat (refine wkB ?_; try intro _)
        exact jx_mid ⟨_, s'⟩ (by rw [if_pos h1']) sbB suB
      · have h1' : ¬ pts.length = 1 := by have := of_decide_eq_false h1; omega
        refine j_skip ?_
        exact jx_mid ⟨bA rs m, s⟩ (by rw [if_neg h1', List.append_nil]) sbB suB
    · obtain ⟨xs, s1⟩ := s'
      simp only at hs' ⊢
      have hxl : xs.length ≤ (bA rs m).length + 1 := by
        rw [hs', List.length_append]
        split <;> simp
      repeat (refine wkB ?_; try intro _)
      refine j_loop (S := (ys : List PU) × Nat × SlS rP 36 ys) (fun t => t.1 = xs ++ bs I pts t.2.1 ∧ t.2.1 ≤ pts.length - 1) (fun t => [(4, vSl t.2.2), (6, .pointer (some ⟨b6, 0, none⟩)), (8, .int .i64 ((pts.length : Int) - 1)), (9, .int .i64 ((t.2.1 : Int) + 1)), (11, .slice (some ⟨bw, ow, none⟩) rs.length cp), (12, .int .i64 rs.length), (13, .int .i64 (m : Nat))]) (fun t => mS 68 t.2.2 ++ [⟨b6, cRun I b pts.length c, 35⟩]) (fun t => pts.length - 1 - t.2.1) ⟨xs, 0, s1⟩ ⟨by rw [bs, List.append_nil], Nat.zero_le _⟩ sbB suB (fun t ht => ?_)
      obtain ⟨ys, i, s2⟩ := t
      simp only at ht ⊢
      obtain ⟨hys, hi⟩ := ht
      have hyl : ys.length ≤ (bA rs m).length + 1 + i := by
        rw [hys, List.length_append, bs_len]
        omega
      repeat (refine wkB ?_; try intro _)
      refine j_cond rfl (fun h2 => ?_) (fun h2 => ?_)
      · have hi2 : i + 1 < pts.length := by have := of_decide_eq_true h2; omega
        repeat (refine wkB ?_; try intro _)
        (refine jD 16 17 (h := ?_); (repeat (refine wkH ?_)); refine jh_nil ?_; (repeat (refine wn_new ?_; intro _)); refine jn_nil ?_)
        repeat (refine wkB ?_; try intro _)
        rename_i b10
        have e1 : (i : Int) + 1 - 1 = i := by omega
        have e2 : (i : Int) + 1 = ((i + 1 : Nat) : Int) := by omega
        simp only [e1]
        refine j_cut (S := Bool) (fun o => o = if i = 0 then I.OpenFrom else true) (fun _ => [(4, vSl s2), (6, .pointer (some ⟨b6, 0, none⟩)), (8, .int .i64 ((pts.length : Int) - 1)), (9, .int .i64 ((i : Int) + 1)), (10, .pointer (some ⟨b10, 0, none⟩)), (11, .slice (some ⟨bw, ow, none⟩) rs.length cp), (12, .int .i64 rs.length), (13, .int .i64 (m : Nat))]) (fun o => ⟨b10, e_api_Interval (q_api_Interval ⟨⟨(gi pts (i : Int)).T, 0, false⟩, ⟨(gi pts ((i : Int) + 1)).T, 0, false⟩, o, false⟩), 32⟩ :: (mS 68 s2 ++ [⟨b6, cRun I b pts.length c, 35⟩])) ?_ (fun o ho => ?_)
        · refine j_cond rfl (fun h3 => ?_) (fun h3 => ?_)
          · have h3' : i = 0 := by have := of_decide_eq_true h3; omega
            repeat (refine wkB ?_; try intro _)
            exact jx_mid I.OpenFrom (by rw [if_pos h3']) sbB suB
          · have h3' : ¬ i = 0 := by have := of_decide_eq_false h3; omega
            refine j_skip ?_
            exact jx_mid true (by rw [if_neg h3']) sbB suB
        · repeat (refine wkB ?_; try intro _)
          refine j_cut (S := Bool) (fun o' => o' = if i + 2 = pts.length then I.OpenTo else false) (fun _ => [(4, vSl s2), (6, .pointer (some ⟨b6, 0, none⟩)), (8, .int .i64 ((pts.length : Int) - 1)), (9, .int .i64 ((i : Int) + 1)), (10, .pointer (some ⟨b10, 0, none⟩)), (11, .slice (some ⟨bw, ow, none⟩) rs.length cp), (12, .int .i64 rs.length), (13, .int .i64 (m : Nat))]) (fun o' => ⟨b10, e_api_Interval (q_api_Interval ⟨⟨(gi pts (i : Int)).T, 0, false⟩, ⟨(gi pts ((i : Int) + 1)).T, 0, false⟩, o, o'⟩), 32⟩ :: (mS 68 s2 ++ [⟨b6, cRun I b pts.length c, 35⟩])) ?_ (fun o' ho' => ?_)
          · refine j_cond rfl (fun h4 => ?_) (fun h4 => ?_)
            · have h4' : i + 2 = pts.length := by have := of_decide_eq_true h4; omega
              repeat (refine wkB ?_; try intro _)
              exact jx_mid I.OpenTo (by rw [if_pos h4']) sbB suB
            · have h4' : ¬ i + 2 = pts.length := by have := of_decide_eq_false h4; omega
              refine j_skip ?_
              exact jx_mid false (by rw [if_neg h4']) sbB suB
          · have hp : ∀ i : Int, M (gi pts i).T ≤ 34359738368 ∧ M (gi pts i).P.X ≤ 34359738368 ∧ M (gi pts i).P.Y ≤ 34359738368 := fun i => ⟨Nat.le_trans (rb i).1 (by decide), Nat.le_trans (rb i).2.1 (by decide), Nat.le_trans (rb i).2.2 (by decide)⟩
            have hu : bsU I pts i = ⟨⟨⟨(gi pts (i : Int)).T, 0, false⟩, ⟨(gi pts ((i : Int) + 1)).T, 0, false⟩, o, o'⟩, stl (gi pts (i : Int)) (gi pts ((i : Int) + 1))⟩ := by
              rw [ho, ho', e2]
              rfl
            (refine j_tree (.v [0, 1, 2, 3, 4, 5, 6, 7, 8, 9, 10, 11, 12, 13, 14] (.e1 15 (.e1 16 (.e1 17 (.fin))))) ([⟨b10, e_api_Interval (q_api_Interval ⟨⟨(gi pts (i : Int)).T, 0, false⟩, ⟨(gi pts ((i : Int) + 1)).T, 0, false⟩, o, o'⟩), 32⟩, ⟨b6, cRun I b pts.length c, 35⟩]) (h := ?_); refine wkX ?_)
            (repeat (refine wkH ?_))
            simp only [e1]
            repeat (first | (refine wkT ?_; try intro _) | (refine tC rfl rfl ?_ ?_; focus (exact ⟨hp _, hp _⟩)) | (refine uC rfl rfl ?_ ?_; focus (exact ⟨hp _, hp _⟩)) | (refine eN rfl rfl ?_ ?_; (focus (exact ⟨hp _, hp _⟩)); intro _; (try simp only [List.cons_append, List.nil_append, List.append_nil])))
            repeat (refine wkB ?_; try intro _)
            rw [← hu]
            refine eU rfl rfl ?_ ?_ ?_ ?_
            · rfl
            · rfl
            · exact ⟨by decide, by omega, by omega⟩
            intro s'
            repeat (refine wkT ?_; try intro _)
            repeat (refine wkB ?_; try intro _)
            exact jx_loop ⟨_, i + 1, s'⟩ ⟨by show ys ++ [bsU I pts i] = xs ++ (bs I pts i ++ [bsU I pts i]); rw [hys, List.append_assoc], by show i + 1 ≤ pts.length - 1; omega⟩ sbB suB (by show pts.length - 1 - (i + 1) < pts.length - 1 - i; omega)
      · have hge : i = pts.length - 1 := by have := of_decide_eq_false h2; omega
        subst hge
        have hbm : ys = bA rs (m + 1) := by rw [hbA, hb1, ← List.append_assoc, ← hs', hys]
        subst hbm
        repeat (refine wkB ?_; try intro _)
        exact jx_loop ⟨m + 1, s2⟩ (by show m + 1 ≤ rs.length; omega) sbB suB (by show rs.length - (m + 1) < rs.length - m; omega)
  · have hge : m = rs.length := by have := of_decide_eq_false h; omega
    subst hge
    repeat (first | (refine wkB ?_; try intro _) | (refine sC rfl rfl ?_ ?_; focus (exact ⟨h19, hin⟩)) | (refine sN rfl rfl ?_ ?_; (focus (exact ⟨h19, hin⟩)); intro _; (try simp only [List.cons_append, List.nil_append, List.append_nil])))
    exact jx_ret_two rfl (resv_tmp rfl) (resv_tmp rfl) (fun w hw => ⟨_, rfl, hw.sub suB⟩)
end Go.Vt
/- Plain mathematics: the program's table finds what the reference's search finds. Conditions: none. -/
set_option linter.unusedSimpArgs false
set_option linter.unusedVariables false
set_option maxHeartbeats 2000000
namespace Go.Vt
/-- 'k' is the least one of least cost among those that are enough, from 'a' on, below 'b'. -/
def Bst (ok : Nat → Bool) (c : Nat → Int) (a b k : Nat) : Prop := a ≤ k ∧ k < b ∧ ok k = true ∧ ∀ k', a ≤ k' → k' < b → ok k' = true → c k ≤ c k' ∧ (c k = c k' → k ≤ k')
theorem Bst.uniq {ok : Nat → Bool} {c : Nat → Int} {a b k j : Nat} (h : Bst ok c a b k) (g : Bst ok c a b j) : k = j := by
  obtain ⟨h1, h2, h3, h4⟩ := h
  obtain ⟨g1, g2, g3, g4⟩ := g
  have e1 := h4 j g1 g2 g3
  have e2 := g4 k h1 h2 h3
  have e3 : c k = c j := by omega
  have := e1.2 e3
  have := e2.2 e3.symm
  omega
variable {ok : Nat → Nat → Bool} {l i : Nat} {s : List Int × List Int}
theorem inn_best (h : WF l s) (hi : i < l) (h0 : gi s.1 (i : Int) = 0) : ∀ q, q ≤ l - i →
    (gi (inn ok l i q s).1 (i : Int) = 0 ∧ ∀ k, l - q < k → k ≤ l → ok i k = false) ∨
    ∃ k : Nat, gi (inn ok l i q s).1 (i : Int) = k ∧ gi (inn ok l i q s).2 (i : Int) = gi s.2 (k : Int) + 1 ∧ Bst (ok i) (fun k => gi s.2 (k : Int)) (l - q + 1) (l + 1) k
  | 0, _ => .inl ⟨h0, fun k h1 h2 => by omega⟩
  | q + 1, hq => by
    have hw := h.inn (ok := ok) hi q (by omega)
    obtain ⟨kq, hkq⟩ : ∃ kq, kq = l - q := ⟨_, rfl⟩
    have hik : i ≠ kq := by omega
    have hoth := inn_other (ok := ok) h hi hik q (by omega)
    have e1 : inn ok l i (q + 1) s = stp ok i kq (inn ok l i q s) := by rw [inn, ← hkq]
    have ih := inn_best h hi h0 q (by omega)
    rw [e1]
    generalize inn ok l i q s = t at *
    have hset : (gi t.1 (i : Int) = 0 ∨ gi t.2 (kq : Int) + 1 ≤ gi t.2 (i : Int)) ∧ ok i kq = true → gi (stp ok i kq t).1 (i : Int) = kq ∧ gi (stp ok i kq t).2 (i : Int) = gi s.2 (kq : Int) + 1 := fun hc => by
      unfold stp
      rw [if_pos hc]
      simp only [gi_set (show i < t.1.length by rw [hw.l1]; omega), gi_set (show i < t.2.length by rw [hw.l2]; omega), if_true]
      exact ⟨trivial, by rw [hoth.2]⟩
    have hkeep : ¬ ((gi t.1 (i : Int) = 0 ∨ gi t.2 (kq : Int) + 1 ≤ gi t.2 (i : Int)) ∧ ok i kq = true) → stp ok i kq t = t := fun hc => by
      unfold stp
      rw [if_neg hc]
    rcases ih with ⟨g1, g2⟩ | ⟨k, g1, g2, g3, g4, g5, g6⟩
    · cases hok : ok i kq with
      | false =>
        rw [hkeep (by rw [hok]; simp)]
        refine .inl ⟨g1, fun k h1 h2 => ?_⟩
        rcases (by omega : k = kq ∨ l - q < k) with rfl | h3
        · exact hok
        · exact g2 k h3 h2
      | true =>
        obtain ⟨e2, e3⟩ := hset ⟨.inl g1, hok⟩
        refine .inr ⟨kq, e2, e3, by omega, by omega, hok, fun k' h1 h2 h3 => ?_⟩
        rcases (by omega : k' = kq ∨ l - q < k') with rfl | h4
        · exact ⟨Int.le_refl _, fun _ => Nat.le_refl _⟩
        · rw [g2 k' h4 (by omega)] at h3
          cases h3
    · by_cases hc : gi t.2 (kq : Int) + 1 ≤ gi t.2 (i : Int) ∧ ok i kq = true
      · obtain ⟨e2, e3⟩ := hset ⟨.inr hc.1, hc.2⟩
        have h5 : gi s.2 (kq : Int) ≤ gi s.2 (k : Int) := by
          have := hc.1
          rw [hoth.2, g2] at this
          omega
        refine .inr ⟨kq, e2, e3, by omega, by omega, hc.2, fun k' h1 h2 h3 => ?_⟩
        rcases (by omega : k' = kq ∨ l - q + 1 ≤ k') with rfl | h4
        · exact ⟨Int.le_refl _, fun _ => Nat.le_refl _⟩
        · have h6 := (g6 k' h4 h2 h3).1
          exact ⟨by simp only at h6 ⊢; omega, fun _ => by omega⟩
      · rw [hkeep (fun h => hc ⟨h.1.resolve_left (by omega), h.2⟩)]
        refine .inr ⟨k, g1, g2, by omega, g4, g5, fun k' h1 h2 h3 => ?_⟩
        rcases (by omega : k' = kq ∨ l - q + 1 ≤ k') with rfl | h4
        · have h7 : ¬ gi t.2 (k' : Int) + 1 ≤ gi t.2 (i : Int) := fun h => hc ⟨h, h3⟩
          rw [hoth.2, g2] at h7
          exact ⟨by simp only; omega, fun h => by simp only at h; omega⟩
        · exact g6 k' h4 h2 h3
/-- What is done stays. -/
theorem ou_stay {m : Nat} {j : Nat} (hj : l - m ≤ j) (hm : m ≤ l) : ∀ d, m + d ≤ l → gi (ou ok l (m + d)).1 (j : Int) = gi (ou ok l m).1 (j : Int) ∧ gi (ou ok l (m + d)).2 (j : Int) = gi (ou ok l m).2 (j : Int)
  | 0, _ => ⟨rfl, rfl⟩
  | d + 1, hd => by
    have ih := ou_stay hj hm d (by omega)
    have hw := WF.ou (ok := ok) (l := l) (m + d) (by omega)
    have := inn_other (ok := ok) hw (show l - 1 - (m + d) < l by omega) (show l - 1 - (m + d) ≠ j by omega) (m + d + 1) (by omega)
    rw [show m + (d + 1) = (m + d) + 1 by omega, ou]
    exact ⟨this.1.trans ih.1, this.2.trans ih.2⟩
theorem ou_zero {j : Nat} : ∀ m, m ≤ l → j < l - m → gi (ou ok l m).1 (j : Int) = 0
  | 0, _, _ => by simp only [ou, gi_rep]
  | m + 1, hm, hj => by
    have hw := WF.ou (ok := ok) (l := l) m (by omega)
    rw [ou, (inn_other (ok := ok) hw (show l - 1 - m < l by omega) (show l - 1 - m ≠ j by omega) (m + 1) (by omega)).1]
    exact ou_zero m (by omega) (by omega)
/-- The table: the least next one of least cost. -/
theorem ou_best (hok : ∀ i, i < l → ok i (i + 1) = true) (hi : i < l) : ∃ k : Nat, gi (ou ok l l).1 (i : Int) = k ∧ gi (ou ok l l).2 (i : Int) = gi (ou ok l l).2 (k : Int) + 1 ∧ Bst (ok i) (fun k => gi (ou ok l l).2 (k : Int)) (i + 1) (l + 1) k := by
  obtain ⟨m, hm⟩ : ∃ m, l = i + 1 + m := ⟨l - i - 1, by omega⟩
  have hi' : i = l - 1 - m := by omega
  have hw := WF.ou (ok := ok) (l := l) m (by omega)
  have s1 := ou_stay (ok := ok) (l := l) (m := m + 1) (j := i) (by omega) (by omega) (l - (m + 1)) (by omega)
  rw [show m + 1 + (l - (m + 1)) = l by omega] at s1
  have s2 : ∀ k : Nat, i < k → gi (ou ok l l).2 (k : Int) = gi (ou ok l m).2 (k : Int) := fun k hk => by
    have := (ou_stay (ok := ok) (l := l) (m := m) (j := k) (by omega) (by omega) (l - m) (by omega)).2
    rwa [show m + (l - m) = l by omega] at this
  have hb := inn_best (ok := ok) hw hi (ou_zero m (by omega) (by omega)) (m + 1) (by omega)
  have e : ou ok l (m + 1) = inn ok l i (m + 1) (ou ok l m) := by rw [ou, ← hi']
  rw [← e] at hb
  rcases hb with ⟨_, h2⟩ | ⟨k, h1, h2, h3, h4, h5, h6⟩
  · have := h2 (i + 1) (by omega) (by omega)
    rw [hok i hi] at this
    cases this
  · have hik : i < k := by omega
    refine ⟨k, s1.1.trans h1, ?_, by omega, h4, h5, fun k' g1 g2 g3 => ?_⟩
    · rw [s1.2, h2, s2 k hik]
    · have := h6 k' (by omega) g2 g3
      simp only [s2 k hik, s2 k' (by omega)]
      exact this
theorem chn_len (hok : ∀ i, i < l → ok i (i + 1) = true) : ∀ (f i : Nat), i ≤ l → l - i ≤ f → ((chn (ou ok l l).1 l f (i : Int)).length : Int) = gi (ou ok l l).2 (i : Int)
  | 0, i, h1, h2 => by
    have : i = l := by omega
    subst this
    have hw := (WF.ou (ok := ok) (l := i) i (Nat.le_refl _)).b2 i (Nat.le_refl _)
    simp only [chn, List.length_nil]
    omega
  | f + 1, i, h1, h2 => by
    rw [chn]
    by_cases hi : i < l
    · obtain ⟨k, g1, g2, g3, g4, _⟩ := ou_best hok hi
      rw [if_pos (by omega), g1, g2, List.length_cons]
      have := chn_len hok f k (by omega) (by omega)
      omega
    · have : i = l := by omega
      subst this
      have hw := (WF.ou (ok := ok) (l := i) i (Nat.le_refl _)).b2 i (Nat.le_refl _)
      rw [if_neg (by omega)]
      simp only [List.length_nil]
      omega
theorem lx_app (xs ys : List Int) : ∀ bg : List Int, lx (bg ++ xs) (bg ++ ys) = lx xs ys
  | [] => rfl
  | b :: bg => by simp only [List.cons_append, lx, if_true]; exact lx_app xs ys bg
theorem btr_app (bg xs ys : List Int) : btr (bg ++ xs) (bg ++ ys) = btr xs ys := by
  unfold btr
  rw [lx_app]
  simp only [List.length_append, Nat.add_left_cancel_iff, Nat.add_lt_add_iff_left]
/-- What the search has found. -/
theorem bf_best {bg : List Int} {T : Nat → List Int} {c : Nat → Int} {o : Nat → Bool} {i : Nat} {g : Nat → List Int} : ∀ q, (∀ k, i < k → k ≤ i + q → g k = bg ++ ((k : Int) :: T k) ∧ ((T k).length : Int) = c k) →
    (bf g o i q = [] ∧ ∀ k, i < k → k ≤ i + q → o k = false) ∨ ∃ k, bf g o i q = g k ∧ Bst o c (i + 1) (i + 1 + q) k
  | 0, _ => .inl ⟨rfl, fun k h1 h2 => by omega⟩
  | q + 1, hg => by
    have ih := bf_best (c := c) (o := o) (bg := bg) (T := T) (i := i) (g := g) q (fun k h1 h2 => hg k h1 (by omega))
    obtain ⟨kq, hkq⟩ : ∃ kq, kq = i + 1 + q := ⟨_, rfl⟩
    have hgq := hg kq (by omega) (by omega)
    rw [bf, ← hkq]
    rcases ih with ⟨g1, g2⟩ | ⟨k, g1, g3, g4, g5, g6⟩
    · cases hok : o kq with
      | false =>
        rw [if_neg (by simp)]
        refine .inl ⟨g1, fun k h1 h2 => ?_⟩
        rcases (by omega : k = kq ∨ k ≤ i + q) with rfl | h3
        · exact hok
        · exact g2 k h1 h3
      | true =>
        rw [if_pos ⟨rfl, .inl g1⟩]
        refine .inr ⟨kq, rfl, by omega, by omega, hok, fun k' h1 h2 h3 => ?_⟩
        rcases (by omega : k' = kq ∨ k' ≤ i + q) with rfl | h4
        · exact ⟨Int.le_refl _, fun _ => Nat.le_refl _⟩
        · rw [g2 k' (by omega) h4] at h3
          cases h3
    · have hgk := hg k (by omega) (by omega)
      have hb : btr (g kq) (bf g o i q) = decide (c kq < c k) := by
        rw [g1, hgq.1, hgk.1, btr_app]
        unfold btr
        simp only [List.length_cons, Nat.add_right_cancel_iff, Nat.add_lt_add_iff_right]
        split
        · rename_i hl
          rw [lx, if_neg (by omega)]
          rw [decide_eq_decide]
          omega
        · rw [decide_eq_decide]
          omega
      have hne : bf g o i q ≠ [] := by rw [g1, hgk.1]; simp
      by_cases hc : o kq = true ∧ c kq < c k
      · rw [if_pos ⟨hc.1, .inr (by rw [hb]; exact decide_eq_true hc.2)⟩]
        refine .inr ⟨kq, rfl, by omega, by omega, hc.1, fun k' h1 h2 h3 => ?_⟩
        rcases (by omega : k' = kq ∨ k' < i + 1 + q) with rfl | h4
        · exact ⟨Int.le_refl _, fun _ => Nat.le_refl _⟩
        · have h6 := (g6 k' h1 h4 h3).1
          exact ⟨by omega, fun _ => by omega⟩
      · rw [if_neg (fun h => hc ⟨h.1, of_decide_eq_true (by rw [← hb]; exact h.2.resolve_left hne)⟩)]
        refine .inr ⟨k, g1, g3, by omega, g5, fun k' h1 h2 h3 => ?_⟩
        rcases (by omega : k' = kq ∨ k' < i + 1 + q) with rfl | h4
        · have h7 : ¬ c k' < c k := fun h => hc ⟨h3, h⟩
          exact ⟨by omega, fun _ => by omega⟩
        · exact g6 k' h1 h4 h3
theorem bst_chn (hok : ∀ i, i < l → ok i (i + 1) = true) : ∀ (f : Nat) (bg : List Int), lst bg ≤ l → l - lst bg ≤ f → bst ok l f bg = bg ++ chn (ou ok l l).1 l f (lst bg : Int)
  | 0, bg, h1, h2 => by rw [bst, chn, List.append_nil]
  | f + 1, bg, h1, h2 => by
    rw [bst, chn]
    by_cases hl : lst bg = l
    · rw [if_pos hl, if_neg (by omega), List.append_nil]
    · have hi : lst bg < l := by omega
      obtain ⟨k, g1, g2, g3⟩ := ou_best hok hi
      rw [if_neg hl, if_pos (by omega), g1]
      have hb := bf_best (bg := bg) (T := fun k => chn (ou ok l l).1 l f (k : Int)) (c := fun k => gi (ou ok l l).2 (k : Int)) (o := ok (lst bg)) (i := lst bg) (g := fun k : Nat => bst ok l f (bg ++ [(k : Int)])) (l - lst bg) (fun k h3 h4 => by
        refine ⟨?_, chn_len hok f k (by omega) (by omega)⟩
        rw [bst_chn hok f (bg ++ [(k : Int)]) (by rw [lst_snoc]; omega) (by rw [lst_snoc]; omega), lst_snoc, List.append_assoc]
        rfl)
      rcases hb with ⟨_, h5⟩ | ⟨j, h5, h6⟩
      · have := h5 (lst bg + 1) (by omega) (by omega)
        rw [hok _ hi] at this
        cases this
      · rw [show lst bg + 1 + (l - lst bg) = l + 1 by omega] at h6
        have := h6.uniq g3
        subst this
        rw [h5]
        have hjl : j < l + 1 := h6.2.1
        have hij : lst bg + 1 ≤ j := h6.1
        rw [bst_chn hok f (bg ++ [(j : Int)]) (by rw [lst_snoc]; omega) (by rw [lst_snoc]; omega), lst_snoc, List.append_assoc]
        rfl
/-- The program's list is the reference's. -/
theorem kept_best (hok : ∀ i, i < l → ok i (i + 1) = true) : keptL ok l = bst ok l l [0] := by
  have h : lst [0] = 0 := rfl
  rw [bst_chn hok l [0] (by rw [h]; omega) (by rw [h]; omega), h]
  rfl
end Go.Vt
/- The examples of the chapter, and the reference's best list. Conditions: those that each statement names. -/
set_option linter.unusedSimpArgs false
set_option linter.unusedVariables false
set_option maxHeartbeats 2000000
set_option maxRecDepth 100000
namespace Go.Vt
open Go.RowKit Go.Proofs
theorem sq_nonneg (d : Rat) : 0 ≤ d * d := by
  rcases Rat.le_total (a := 0) (b := d) with h | h
  · exact Rat.mul_nonneg h h
  · have h2 : 0 ≤ -d := by grind
    have := Rat.mul_nonneg h2 h2
    grind
instance sr_best (w0 : World) (L : List Blk) (I : R_api_Interval) (b n c : Nat) (mo : Rat) (pts : List R_movingpoint_Sample) (sp : List Value) (T : TypeId) (bb cb : Nat) (spb : List Value) (Tb : TypeId) [h : AtC w0 L b (row rS pts sp) T] [h2 : AtC w0 L bb (row (eI .i64) [0] spb) Tb] : SpecR Tryz.prog w0 L 127 [vRun I b n c, .slice (some ⟨bb, 0, none⟩) 1 cb, vQ mo] (SBst [0] (bst (okr pts mo) (n - 1) (n - 1) [0])) (fun s => vBst bb [0] cb (bst (okr pts mo) (n - 1) (n - 1) [0]) s.1) (fun s => mBst 3 (bst (okr pts mo) (n - 1) (n - 1) [0]) s.1) (RunOk pts n c ∧ (1 ≤ n ∧ n ≤ 1048576) ∧ M mo ≤ LQ ∧ 0 ≤ mo ∧ 1 ≤ cb) := ⟨fun hp w hw => by
  obtain ⟨g1, ⟨g2, g3⟩, g4, g5, g6⟩ := hp
  obtain ⟨l, rfl⟩ : ∃ l, n = l + 1 := ⟨n - 1, by omega⟩
  have h0 : lst [0] = 0 := rfl
  exact best_spec I b l c mo pts sp T g1 (by omega) g4 g5 l [0] bb cb spb Tb (by omega) (Nat.le_refl _) g6 ⟨by omega, by rw [h0]; exact Nat.le_refl _, Int.le_refl _⟩ w (h.out w hw) (h2.out w hw)⟩
instance sr_rkept (w0 : World) (L : List Blk) (I : R_api_Interval) (b n c : Nat) (d : Rat) (pts : List R_movingpoint_Sample) (sp : List Value) (T : TypeId) [h : AtC w0 L b (row rS pts sp) T] : SpecR Tryz.prog w0 L 87 [vRun I b n c, vQ d] (Nat × Nat × List Value) (fun s => vL s.1 (bst (okr pts (d * d)) (n - 1) (n - 1) [0]) s.2.1) (fun s => [⟨s.1, row (eI .i64) (bst (okr pts (d * d)) (n - 1) (n - 1) [0]) s.2.2, 3⟩]) (RunOk pts n c ∧ (1 ≤ n ∧ n ≤ 1048576) ∧ M d ≤ 1073741824) := ⟨fun hp w hw => by
  obtain ⟨g1, g2, g4⟩ := hp
  have := FoC.mk (h.out w hw)
  have g5 : M (d * d) ≤ LQ := Nat.le_trans (M_mul d d) (by have : LQ = 274877906944 := rfl; omega)
  have g6 : 0 ≤ d * d := sq_nonneg d
  refine fn_intro Tryz.func87 rfl Tryz.ntmps87 rfl ?_
  repeat (first | (refine wkB ?_; try intro _) | (refine sC rfl rfl ?_ ?_; focus (first | exact ⟨g1, g2, g5, g6, Nat.le_refl _⟩ | exact ⟨Nat.le_trans g4 (by decide), Nat.le_trans g4 (by decide)⟩)) | (refine sN rfl rfl ?_ ?_; (focus (first | exact ⟨g1, g2, g5, g6, Nat.le_refl _⟩ | exact ⟨Nat.le_trans g4 (by decide), Nat.le_trans g4 (by decide)⟩)); intro _; (try simp only [List.cons_append, List.nil_append, List.append_nil])))
  rename_i b2 b3
  (refine j_late [0, 2, 3, 4] [1, 5, 6] ([⟨b3, e_api_Rat (Q d), 28⟩, ⟨b2, cRun I b n c, 35⟩]) (h := ?_); refine wkI ?_)
  (repeat (first | refine wkH ?_ | (refine tC rfl rfl ?_ ?_; focus (exact ⟨Nat.le_trans g4 (by decide), Nat.le_trans g4 (by decide)⟩))))
  refine jh_nil ?_
  refine eB rfl rfl ?_
  intro bz
  refine eN rfl rfl ⟨g1, g2, g5, g6, Nat.le_refl _⟩ ?_
  intro sx
  obtain ⟨x, hx⟩ := sx
  refine eS rfl rfl ?_
  refine je_nil ?_
  rcases x with _ | ⟨bx, cx, spx⟩
  · have hgk := hx rfl
    simp only [vBst, mBst, List.nil_append]
    repeat (refine wkB ?_; try intro _)
    rw [hgk]
    exact jx_ret_tmp rfl rfl (fun w hw => ⟨(bz, 1, []), rfl, hw.sub slB⟩)
  · simp only [vBst, mBst, List.nil_append, List.cons_append]
    repeat (refine wkB ?_; try intro _)
    exact jx_ret_tmp rfl rfl (fun w hw => ⟨(bx, cx, spx), rfl, hw.sub slB⟩)⟩
def zzP : List R_movingpoint_Sample := [⟨((0 : Int) : Rat), ⟨((0 : Int) : Rat), ((0 : Int) : Rat)⟩⟩, ⟨((1 : Int) : Rat), ⟨((1 : Int) : Rat), ((1 : Int) : Rat)⟩⟩, ⟨((2 : Int) : Rat), ⟨((2 : Int) : Rat), ((0 : Int) : Rat)⟩⟩, ⟨((3 : Int) : Rat), ⟨((3 : Int) : Rat), ((1 : Int) : Rat)⟩⟩, ⟨((4 : Int) : Rat), ⟨((4 : Int) : Rat), ((0 : Int) : Rat)⟩⟩]
abbrev liP : List R_movingpoint_Sample := [⟨((0 : Int) : Rat), ⟨((0 : Int) : Rat), ((0 : Int) : Rat)⟩⟩, ⟨((1 : Int) : Rat), ⟨((1 : Int) : Rat), ((0 : Int) : Rat)⟩⟩, ⟨((2 : Int) : Rat), ⟨((4 : Int) : Rat), ((0 : Int) : Rat)⟩⟩]
theorem kn_a : keptL (okd zzP ((((1 : Int) : Rat)) * ((1 : Int) : Rat))) (5 - 1) = [0, 4] := by decide +kernel
theorem kn_b : keptL (okd zzP (Rat.divInt 1 2 * Rat.divInt 1 2)) (5 - 1) = [0, 1, 2, 3, 4] := by decide +kernel
theorem kn_d : dv liP 0 2 1 = ((1 : Int) : Rat) := by decide +kernel
instance sr_zigzag (w0 : World) (L : List Blk) : SpecR Tryz.prog w0 L 40 [] Nat (fun b => vRun ⟨⟨0, 0, false⟩, ⟨((4 : Int) : Rat), 0, false⟩, false, false⟩ b 5 5) (fun b => [⟨b, row rS zzP [], 47⟩]) True := ⟨fun _ w hw => by
  refine fn_intro Tryz.func40 rfl Tryz.ntmps40 rfl ?_
  repeat (first | (refine wkB ?_; try intro _) | (refine sC rfl rfl ?_ ?_; focus (first | exact ⟨by omega, by omega⟩ | exact ⟨⟨by omega, by omega⟩, ⟨by omega, by omega⟩, ⟨by omega, by omega⟩⟩)) | (refine sN rfl rfl ?_ ?_; (focus (first | exact ⟨by omega, by omega⟩ | exact ⟨⟨by omega, by omega⟩, ⟨by omega, by omega⟩, ⟨by omega, by omega⟩⟩)); intro _; (try simp only [List.cons_append, List.nil_append, List.append_nil])))
  rename_i b0 bN
  exact wx_cell rfl rfl (fun w hw => ⟨bN, rfl, hw.sub slB⟩)⟩
instance sm_dev2 (w0 : World) (L : List Blk) (I : R_api_Interval) (b n c : Nat) (i j : Int) (pts : List R_movingpoint_Sample) (sp : List Value) (T : TypeId) [h : AtC w0 L b (row r_movingpoint_Sample pts sp) T] : SpecM Tryz.prog w0 L 11 [vRun I b n c, .int .i64 i, .int .i64 j] (.tuple #[vQ (dv pts i.toNat j.toNat (j.toNat - i.toNat - 1)), .int .i64 0]) ((pts.length = n ∧ n ≤ c ∧ n ≤ 1099511627776 ∧ Bnd pts) ∧ 0 ≤ i ∧ i < j ∧ j < n) := ⟨fun hp w hw => by
  obtain ⟨g1, g2, g3, g4⟩ := hp
  have := FoC.mk (h.out w hw)
  refine fn_intro Tryz.func11 rfl Tryz.ntmps11 rfl ?_
  have e1 : ¬ j = 0 := by omega
  have e2 : ¬ i < 0 := by omega
  have e3 : ¬ j ≤ i := by omega
  have e4 : ¬ (n : Int) ≤ j := by omega
  repeat (refine wkB ?_; try intro _)
  by_cases hi : i = 0
  · simp only [decide_eq_true hi]
    repeat (refine wkB ?_; try intro _)
    simp only [decide_eq_false e1]
    repeat (refine wkB ?_; try intro _)
    simp only [decide_eq_false e2]
    repeat (refine wkB ?_; try intro _)
    simp only [decide_eq_false e3]
    repeat (refine wkB ?_; try intro _)
    simp only [decide_eq_false e4]
    repeat (first | (refine wkB ?_; try intro _) | (refine sC rfl rfl ?_ ?_; focus (exact ⟨g1, g2, g3, g4⟩)) | (refine sN rfl rfl ?_ ?_; (focus (exact ⟨g1, g2, g3, g4⟩)); intro _; (try simp only [List.cons_append, List.nil_append, List.append_nil])))
    exact jx_ret_two rfl (wr_cell rfl) (resv_tmp rfl) (fun w hw => ret_ok hw)
  · simp only [decide_eq_false hi]
    repeat (refine wkB ?_; try intro _)
    simp only [decide_eq_false e2]
    repeat (refine wkB ?_; try intro _)
    simp only [decide_eq_false e3]
    repeat (refine wkB ?_; try intro _)
    simp only [decide_eq_false e4]
    repeat (first | (refine wkB ?_; try intro _) | (refine sC rfl rfl ?_ ?_; focus (exact ⟨g1, g2, g3, g4⟩)) | (refine sN rfl rfl ?_ ?_; (focus (exact ⟨g1, g2, g3, g4⟩)); intro _; (try simp only [List.cons_append, List.nil_append, List.append_nil])))
    exact jx_ret_two rfl (wr_cell rfl) (resv_tmp rfl) (fun w hw => ret_ok hw)⟩
instance (priority := low) sm_same' (w0 : World) (L : List Blk) (a b ca cb n m : Nat) (xs ys : List Int) (spx spy : List Value) (Tx Ty : TypeId) [h1 : AtC w0 L a (row (eI .i64) xs spx) Tx] [h2 : AtC w0 L b (row (eI .i64) ys spy) Ty] : SpecM Tryz.prog w0 L 43 [.slice (some ⟨a, 0, none⟩) n ca, .slice (some ⟨b, 0, none⟩) m cb] (.bool (decide (xs = ys))) ((n = xs.length ∧ m = ys.length) ∧ n ≤ 1099511627776) := ⟨fun hp w hw => by
  obtain ⟨⟨rfl, rfl⟩, hp⟩ := hp
  exact same_spec a b ca cb xs ys spx spy Tx Ty hp w (h1.out w hw) (h2.out w hw)⟩
theorem bnd_of {pts : List R_movingpoint_Sample} (h : ∀ x ∈ pts, M x.T ≤ PB ∧ M x.P.X ≤ PB ∧ M x.P.Y ≤ PB) : Bnd pts := fun i => by
  by_cases hi : i.toNat < pts.length
  · rw [gi_eq hi]
    exact h _ (List.getElem_mem hi)
  · have : gi pts i = default := by unfold gi; simp only [List.getD_eq_getElem?_getD, List.getElem?_eq_none (by omega : pts.length ≤ i.toNat)]; rfl
    rw [this]
    exact ⟨by decide +kernel, by decide +kernel, by decide +kernel⟩
theorem bnd_zz : Bnd zzP := bnd_of (by decide +kernel)
theorem bnd_li : Bnd liP := bnd_of (by decide +kernel)
set_option maxHeartbeats 2000000 in
/-- The chapter's examples hold. -/
instance sm_known : SpecC Tryz.prog 9 [] (.bool true) True := ⟨fun _ w => by
  refine fn_intro Tryz.func9 rfl Tryz.ntmps9 rfl ?_
  have r1 : RunOk zzP 5 5 := ⟨rfl, Nat.le_refl _, by decide, bnd_zz⟩
  have r2 : RunOk liP 3 3 := ⟨rfl, Nat.le_refl _, by decide, bnd_li⟩
  repeat (first | (refine wkB ?_; try intro _) | (refine sC rfl rfl ?_ ?_; focus (first | exact trivial | exact ⟨by omega, by omega⟩ | exact ⟨⟨by omega, by omega⟩, ⟨by omega, by omega⟩⟩ | exact ⟨⟨by omega, by omega⟩, ⟨by omega, by omega⟩, ⟨by omega, by omega⟩⟩ | exact ⟨r1, by decide, by decide +kernel, by decide +kernel⟩ | exact ⟨r2, by decide, by decide, by decide⟩)) | (refine sN rfl rfl ?_ ?_; (focus (first | exact trivial | exact ⟨by omega, by omega⟩ | exact ⟨⟨by omega, by omega⟩, ⟨by omega, by omega⟩⟩ | exact ⟨⟨by omega, by omega⟩, ⟨by omega, by omega⟩, ⟨by omega, by omega⟩⟩ | exact ⟨r1, by decide, by decide +kernel, by decide +kernel⟩ | exact ⟨r2, by decide, by decide, by decide⟩)); intro _; (try simp only [List.cons_append, List.nil_append, List.append_nil])))
  rename_i bh bz sa
  obtain ⟨⟨ba, ca, spa⟩, ha⟩ := sa
  simp only [kn_a] at ha ⊢
  (refine j_late3 [1] [0, 2] [3, 4, 5, 6, 7] ([⟨ba, row (eI .i64) [0, 4] spa, 3⟩, ⟨bh, e_api_Rat (Q (Rat.divInt 1 2)), 28⟩]) (h := ?_); refine wkI ?_)
  (repeat (first | refine wkH ?_ | (refine tC rfl rfl ?_ ?_; focus (first | exact trivial | exact ⟨by omega, by omega⟩ | exact ⟨⟨by omega, by omega⟩, ⟨by omega, by omega⟩⟩ | exact ⟨⟨by omega, by omega⟩, ⟨by omega, by omega⟩, ⟨by omega, by omega⟩⟩ | exact ⟨r1, by decide, by decide +kernel, by decide +kernel⟩ | exact ⟨r2, by decide, by decide, by decide⟩))))
  refine jh_nil ?_
  refine eN rfl rfl trivial ?_
  intro bz2
  simp only [List.cons_append, List.nil_append]
  refine eN rfl rfl ⟨r1, by decide, by decide +kernel, by decide +kernel⟩ ?_
  intro sb
  simp only [List.cons_append, List.nil_append]
  refine je_nil ?_
  (repeat (first | refine wkH ?_ | (refine tC rfl rfl ?_ ?_; focus (first | exact trivial | exact ⟨by omega, by omega⟩ | exact ⟨⟨by omega, by omega⟩, ⟨by omega, by omega⟩⟩ | exact ⟨⟨by omega, by omega⟩, ⟨by omega, by omega⟩, ⟨by omega, by omega⟩⟩ | exact ⟨r1, by decide, by decide +kernel, by decide +kernel⟩ | exact ⟨r2, by decide, by decide, by decide⟩))))
  refine jh_nil ?_
  obtain ⟨⟨bb, cb, spb⟩, hb⟩ := sb
  simp only [kn_b] at hb ⊢
  repeat (first | (refine wkB ?_; try intro _) | (refine sC rfl rfl ?_ ?_; focus (first | exact trivial | exact ⟨by omega, by omega⟩ | exact ⟨⟨by omega, by omega⟩, ⟨by omega, by omega⟩⟩ | exact ⟨⟨by omega, by omega⟩, ⟨by omega, by omega⟩, ⟨by omega, by omega⟩⟩ | exact ⟨r1, by decide, by decide +kernel, by decide +kernel⟩ | exact ⟨r2, by decide, by decide, by decide⟩)) | (refine sN rfl rfl ?_ ?_; (focus (first | exact trivial | exact ⟨by omega, by omega⟩ | exact ⟨⟨by omega, by omega⟩, ⟨by omega, by omega⟩⟩ | exact ⟨⟨by omega, by omega⟩, ⟨by omega, by omega⟩, ⟨by omega, by omega⟩⟩ | exact ⟨r1, by decide, by decide +kernel, by decide +kernel⟩ | exact ⟨r2, by decide, by decide, by decide⟩)); intro _; (try simp only [List.cons_append, List.nil_append, List.append_nil])))
  rename_i bp bq br
  rw [show dv _ (Int.toNat 0) (Int.toNat 2) (Int.toNat 2 - Int.toNat 0 - 1) = ((1 : Int) : Rat) from kn_d]
  (refine j_phases [([0, 1, 2, 3], [4, 5, 6, 7, 8, 9, 10, 11]), ([12], [13, 14, 15, 16, 17, 18, 19, 20]), ([21], [22, 23, 24, 25])] ([⟨br, e_api_Rat (Q ((1 : Int) : Rat)), 28⟩, ⟨bb, row (eI .i64) [0, 1, 2, 3, 4] spb, 3⟩, ⟨ba, row (eI .i64) [0, 4] spa, 3⟩]) (h := ?_); refine wkP ?_)
  (repeat (first | refine wkH ?_ | (refine tC rfl rfl ?_ ?_; focus (first | exact trivial | exact ⟨by omega, by omega⟩ | exact ⟨⟨by omega, by omega⟩, ⟨by omega, by omega⟩⟩ | exact ⟨⟨by omega, by omega⟩, ⟨by omega, by omega⟩, ⟨by omega, by omega⟩⟩ | exact ⟨r1, by decide, by decide +kernel, by decide +kernel⟩ | exact ⟨r2, by decide, by decide, by decide⟩))))
  simp only [decide_eq_true (show (0 : Int) = 0 from rfl)]
  (repeat (first | refine wkH ?_ | (refine tC rfl rfl ?_ ?_; focus (first | exact trivial | exact ⟨by omega, by omega⟩))))
  repeat (first | (refine wkT ?_; try intro _) | (refine tC rfl rfl ?_ ?_; focus (first | exact trivial | exact ⟨by omega, by omega⟩ | exact ⟨⟨rfl, rfl⟩, by decide⟩)) | (refine uC rfl rfl ?_ ?_; focus (first | exact trivial | exact ⟨by omega, by omega⟩ | exact ⟨⟨rfl, rfl⟩, by decide⟩)) | (refine eN rfl rfl ?_ ?_; (focus (first | exact trivial | exact ⟨by omega, by omega⟩ | exact ⟨⟨rfl, rfl⟩, by decide⟩)); intro _; (try simp only [List.cons_append, List.nil_append, List.append_nil])))
  repeat (refine wkB ?_; try intro _)
  exact jx_ret_tmp rfl rfl (fun w hw => by rw [decide_eq_true (show ((1 : Int) : Rat) = ((1 : Int) : Rat) from rfl)]; exact ret_ok hw)⟩
end Go.Vt
/- Facts about the decoded run. Conditions: those that each statement names. -/
set_option linter.unusedSimpArgs false
set_option linter.unusedVariables false
set_option maxHeartbeats 2000000
set_option maxRecDepth 100000
namespace Go.Vt
open Go.RowKit Go.Proofs
theorem M_small {n : Int} (h : 0 ≤ n ∧ n < 256) : M (n : Rat) ≤ 1 := by
  rw [M_int]
  have := mg_small (n := n) (k := 1) (by omega)
  omega
theorem bst_congr {ok ok' : Nat → Nat → Bool} {l : Nat} (h : ∀ i k, i < k → k ≤ l → ok i k = ok' i k) : ∀ (f : Nat) (bg : List Int), lst bg ≤ l → bst ok l f bg = bst ok' l f bg
  | 0, _, _ => by rw [bst, bst]
  | f + 1, bg, hl => by
    rw [bst, bst]
    split
    · rfl
    · have hb : ∀ q, lst bg + q ≤ l → bf (fun k => bst ok l f (bg ++ [(k : Int)])) (ok (lst bg)) (lst bg) q = bf (fun k => bst ok' l f (bg ++ [(k : Int)])) (ok' (lst bg)) (lst bg) q := fun q => by
        induction q with
        | zero => intro _; rfl
        | succ q ih =>
          intro hq
          rw [bf, bf, ih (by omega), h _ _ (by omega) (by omega), bst_congr h f _ (by rw [lst_snoc]; omega)]
      exact hb _ (by omega)
theorem dst_M (n : Int) : M (dst n) ≤ 1 := M_divInt (mg_small (by omega)) (by decide) (Nat.le_refl _)
theorem dst_nonneg (n : Int) : 0 ≤ dst n := by
  unfold dst
  rw [Rat.divInt_eq_div]
  have h1 : (0 : Rat) ≤ ((n % 128 : Int) : Rat) := by exact_mod_cast (by omega : 0 ≤ n % 128)
  have : ((4 : Int) : Rat) = 4 := rfl
  rw [this]
  grind
theorem okr_okd {pts : List R_movingpoint_Sample} {mo : Rat} {i k : Nat} (h : (gi pts (i : Int)).T < (gi pts (k : Int)).T) : okr pts mo i k = okd pts mo i k := by
  unfold okr okd
  rw [rv_dv h]
end Go.Vt
/- SimplifyDeviates, walked. Conditions: those that each statement names. -/
set_option linter.unusedSimpArgs false
set_option linter.unusedVariables false
set_option maxHeartbeats 2000000
set_option maxRecDepth 100000
namespace Go.Vt
open Go.RowKit Go.Proofs
instance sr_fromS (w0 : World) (L : List Blk) (b n c : Nat) (pts : List SS) (sp : List Value) (T : TypeId) [h : AtC w0 L b (row rS pts sp) T] : SpecR Tryz.prog w0 L 13 [.slice (some ⟨b, 0, none⟩) n c] (SlS rP 36 (frS pts)) (fun s => .tuple #[vSl s, .int .i64 (frE pts)]) (fun s => mS 68 s) ((pts.length = n ∧ 1 ≤ n ∧ n ≤ 19) ∧ Bnd pts ∧ Inc pts) := ⟨fun hp w hw =>
  fromS_spec b n c pts sp T hp.1.1 hp.1.2.1 hp.1.2.2 hp.2.1 (fun i hi => hp.2.2 i (by omega)) w (h.out w hw)⟩
end Go.Vt
/- A slice appended onto a slice, either of which may be none. Conditions: those that each statement names. -/
set_option linter.unusedSimpArgs false
set_option linter.unusedVariables false
set_option maxHeartbeats 2000000
set_option maxRecDepth 100000
namespace Go.Vt
open Go.RowKit Go.Proofs
theorem SlS.like {α : Type} {enc : α → Array Value} {k : Nat} {xs ys : List α} (s : SlS enc k xs) (h : ys = xs) : ∃ s' : SlS enc k ys, vSl s' = vSl s ∧ ∀ T, mS T s' = mS T s := by
  subst h
  exact ⟨s, rfl, fun _ => rfl⟩
theorem app_nothing {P : Program} {S T ty : TypeId} {i : TypeInfo} {p : Option Addr} {n c : Nat} {w : World} (ht : P.underlying S = some (.slice T)) (hi : P.info? T = some i) (h : (p = none ∧ n = 0 ∧ c = 0) ∨ (∃ b, p = some ⟨b, 0, none⟩ ∧ n ≤ c)) :
    (Builtin.append_ #[S, S] ty #[.slice p n c, .slice none 0 0]).run P w = .ok (.slice p n c) w := by
  rcases h with ⟨rfl, rfl, rfl⟩ | ⟨b, rfl, hnc⟩
  · simp [Builtin.append_, run_underlying ht, sizeOf, typeInfo, hi, Builtin.lenOf, Builtin.firstCells]
  · simp [Builtin.append_, run_underlying ht, sizeOf, typeInfo, hi, Builtin.lenOf, Builtin.firstCells, hnc, storeCells]
section
variable {P : Program} {w0 : World} {n : Nat} {ops : Array Oper} {L L1 L2 : List Blk} {E : Env}
variable {Q : Exit → Act → World → Prop} {rest : List Oper}
variable {ty : TypeId} {pos : String} {aft : Array Edge} {gd : Option (Nat × Bool)} {t : Tmp} {x y : Operand}
variable {α : Type} {enc : α → Array Value} {S T T2 : TypeId} {k B : Nat} {xs ys : List α} {z : Value} {zc : Array Value} {s : SlS enc k xs} {u : SlS enc k ys}
variable [hx : IsC (evl E x) (vSl s)] [hy : IsC (evl E y) (vSl u)] [hd : OwnS T s L L1] [h2 : OwnS T2 u L L2] [hT : UndC P S (.slice T)] [hz : ZeroC P T z zc] [he : EncC enc k] [hk : SizeC P T k] [hB : BytesC P T B]
include hx hy hd h2 hT hz he hk hB
theorem app_runV (hzk : zc.size = k) (hb : (xs.length + ys.length) * B ≤ 140737488355328 ∧ xs.length + ys.length ≤ 9223372036854775807) (a : Act) (w : World) (ha : Rep n E a) (hw : Own w0 L w) :
    ∃ s' : SlS enc k (xs ++ ys), ∃ w', (execOp a.eval ⟨some t, .call ⟨.builtin .append, #[x, y], #[S, S]⟩, ty, pos, aft, gd⟩).run P w = .ok (.value (vSl s')) w' ∧ Own w0 (mS T s' ++ L1) w' := by
  have hp := hw.perm hd.out
  have hlen : (xs ++ ys).length = xs.length + ys.length := List.length_append
  rcases u.cases T2 with ⟨rfl, hv2, -⟩ | ⟨b2, c2, sp2, h12, hv2, hm2, hys⟩
  · obtain ⟨s', e1, e2⟩ := s.like (List.append_nil xs)
    obtain ⟨i, hi, -⟩ := info_some hk.out
    refine ⟨s', w, ?_, by rw [e2]; exact hp⟩
    rw [e1]
    have hx' : Env.ev E x = some (vSl s) := by rw [← evl_ev, hx.out]
    have hy' : Env.ev E y = some (.slice none 0 0) := by rw [← evl_ev, hy.out, hv2]
    refine run_appop (d := some t) (pos := pos) (aft := aft) (gd := gd) ha hx' hy' ?_
    rcases s.cases T with ⟨-, hv, -⟩ | ⟨b, c, sp, h1, hv, -, -⟩
    · rw [hv]
      exact app_nothing hT.out hi (.inl ⟨rfl, rfl, rfl⟩)
    · rw [hv]
      exact app_nothing hT.out hi (.inr ⟨b, rfl, h1.1⟩)
  · have hp2 := hw.perm h2.out
    rw [hm2] at hp2
    obtain ⟨fz, hf⟩ : ∃ fz, w.heap[b2]? = some (.cells (row enc ys sp2) T2 fz) := ⟨(0, 0), (hp2.mem _ (.head _)).2⟩
    have hm : 0 < ys.length := List.length_pos_iff.2 hys
    have hne : xs ++ ys ≠ [] := fun h0 => by rw [h0, List.length_nil] at hlen; omega
    have hy' : Env.ev E y = some (.slice (some ⟨b2, 0, none⟩) ys.length c2) := by rw [← evl_ev, hy.out, hv2]
    have hcs : ∀ j v, (rowL enc ys)[j]? = some v → (row enc ys sp2)[0 + j]? = some v := fun j v hv => by
      have hj : j < (rowL enc ys).length := by
        rcases Nat.lt_or_ge j (rowL enc ys).length with h | h
        · exact h
        · rw [List.getElem?_eq_none h] at hv; cases hv
      rw [Nat.zero_add, row, List.getElem?_toArray, List.getElem?_append_left hj]
      exact hv
    rcases s.cases T with ⟨rfl, hv, hm0⟩ | ⟨b, c, sp, h1, hv, hm1, -⟩
    · have hx' : Env.ev E x = some (.slice none 0 0) := by rw [← evl_ev, hx.out, hv]
      rw [hm0, List.nil_append] at hp
      obtain ⟨s, w', hr, ho⟩ := run_app_nil (L := L1) (ty := ty) (b2 := b2) (off2 := 0) (m := ys.length) (c2 := c2) (news := rowL enc ys) hT.out hz.out hz.cells hk.out hB.out hzk hp ⟨T2, fz, hf⟩ (by rw [rowL_len (k := k)]) hcs hm (by simpa using hb.1) (by simpa using hb.2)
      refine ⟨SlS.at_ s.1.1 s.1.2.1 s.1.2.2 (by rw [List.nil_append]; exact s.2) hne, w', ?_, ho⟩
      have h3 := run_appop (d := some t) (pos := pos) (aft := aft) (gd := gd) ha hx' hy' hr
      rw [h3]
      rfl
    · have hx' : Env.ev E x = some (.slice (some ⟨b, 0, none⟩) xs.length c) := by rw [← evl_ev, hx.out, hv]
      rw [hm1] at hp
      obtain ⟨s, w', hr, ho⟩ := run_app (L1 := L1) (ty := ty) (b := b) (len := xs.length) (c := c) (b2 := b2) (off2 := 0) (m := ys.length) (c2 := c2) (xs := rowL enc xs) (sp := sp) (news := rowL enc ys) hT.out hz.out hz.cells hk.out hB.out hzk hp (.refl _) (rowL_len xs) h1.2 h1.1 ⟨T2, fz, hf⟩ (by rw [rowL_len (k := k)]) hcs (row_one ys) hb.1 hb.2
      refine ⟨SlS.at_ s.1.1 s.1.2.1 s.1.2.2 (by rw [hlen]; exact s.2) hne, w', ?_, ?_⟩
      · have h3 := run_appop (d := some t) (pos := pos) (aft := aft) (gd := gd) ha hx' hy' hr
        rw [h3]
        show _ = Result.ok (Next.value (Value.slice _ (xs ++ ys).length _)) w'
        rw [hlen]
      · show Own w0 (⟨s.1.1, row enc (xs ++ ys) s.1.2.2, T⟩ :: L1) w'
        rw [row, rowL_append]
        exact ho
theorem sV (hg : guardB ops E gd = some true) (hd' : Nat.blt t n = true) (hzk : zc.size = k) (hb : (xs.length + ys.length) * B ≤ 140737488355328 ∧ xs.length + ys.length ≤ 9223372036854775807)
    (h : ∀ s' : SlS enc k (xs ++ ys), JO P w0 n ops Q rest ((t, vSl s') :: E) (mS T s' ++ L1)) : JO P w0 n ops Q (⟨some t, .call ⟨.builtin .append, #[x, y], #[S, S]⟩, ty, pos, aft, gd⟩ :: rest) E L :=
  jo_w (L' := SlS enc k (xs ++ ys)) (o := ⟨some t, .call ⟨.builtin .append, #[x, y], #[S, S]⟩, ty, pos, aft, gd⟩) hg hd' (fun s => vSl s) (fun s => mS T s ++ L1)
    (fun a w ha hw => by
      obtain ⟨s, w', hr, ho⟩ := app_runV (hx := hx) (hy := hy) (hd := hd) (h2 := h2) (hT := hT) (hz := hz) (he := he) (hk := hk) (hB := hB) hzk hb a w ha hw
      exact ⟨s, w', .inl hr, ho⟩) h
end
end Go.Vt
/- The same moving point by the other road, walked. Conditions: those that each statement names. -/
set_option linter.unusedSimpArgs false
set_option linter.unusedVariables false
set_option maxHeartbeats 2000000
set_option maxRecDepth 100000
namespace Go.Vt
open Go.RowKit Go.Proofs
/-- The units through a run's samples, during its period. -/
def bu (r : RD) : List PU := mpN ofU (nrmR (mRes (frS r.pts) [r.I])) (nrmR (mRes (frS r.pts) [r.I])).length
def buA (rs : List RD) : Nat → List PU
  | 0 => []
  | m + 1 => buA rs m ++ bu (gi rs (m : Int))
structure BuOk (w : World) (r : RD) : Prop where
  l1 : 1 ≤ r.pts.length
  l2 : r.pts.length ≤ 19
  bnd : Bnd r.pts
  inc : Inc r.pts
  res : ResOk (frS r.pts) [r.I]
  cap : (bu r).length ≤ 1024
  mem : ∃ T fz, w.heap[r.b]? = some (.cells (row rS r.pts r.sp) T fz)
theorem buA_len {w : World} {rs : List RD} (h : ∀ r ∈ rs, BuOk w r) : ∀ m, m ≤ rs.length → (buA rs m).length ≤ m * 1024
  | 0, _ => by simp [buA]
  | m + 1, hm => by
    have h1 := buA_len h m (by omega)
    have h2 := (h _ (gi_mem (i := (m : Int)) (xs := rs) (by omega))).cap
    rw [buA, List.length_append]
    omega
set_option maxHeartbeats 2000000 in
theorem built_spec (v : Value) (rs : List RD) (w : World) (hv : ArgS w v rR (rs.map RD.hd)) (hl : rs.length ≤ 64) (hr : ∀ r ∈ rs, BuOk w r) (h19 : (buA rs rs.length).length ≤ 19) (hin : ∀ u ∈ mpN toU (buA rs rs.length) (buA rs rs.length).length, UIn u) :
    Calls Tryz.prog 25 [v].toArray w (RetM (SlS rP 36 (mNorm (buA rs rs.length))) (fun s => .tuple #[vSl s, .int .i64 (nrmE (mpN toU (buA rs rs.length) (buA rs rs.length).length))]) (fun s => mS 68 s) w) := by
  refine fn_intro Tryz.func25 rfl Tryz.ntmps25 rfl ?_
  obtain ⟨p, cp, rfl⟩ := hv.form
  have hml : (rs.map RD.hd).length = rs.length := List.length_map _
  rw [hml]
  repeat (refine wkB ?_; try intro _)
  refine j_loop (S := (ys : List PU) × Nat × SlS rP 36 ys) (fun s => s.1 = buA rs s.2.1 ∧ s.2.1 ≤ rs.length) (fun s => [(0, .slice p rs.length cp), (4, vSl s.2.2), (5, .int .i64 (s.2.1 : Nat))]) (fun s => mS 68 s.2.2) (fun s => rs.length - s.2.1) ⟨[], 0, SlS.no⟩ ⟨rfl, Nat.zero_le _⟩ sbB slB (fun s hm => ?_)
  obtain ⟨ys, m, s⟩ := s
  simp only at hm ⊢
  obtain ⟨hys, hm⟩ := hm
  repeat (refine wkB ?_; try intro _)
  refine j_cond rfl (fun h => ?_) (fun h => ?_)
  · have hlt : m < rs.length := by have := of_decide_eq_true h; omega
    have hne : rs.map RD.hd ≠ [] := fun h0 => by rw [h0] at hml; simp at hml; omega
    obtain ⟨bw, ow, cw, hvw, hcw, hrow⟩ := hv.blk (k := 20) hne []
    injection hvw with e1 e2 e3
    subst e1
    subst e3
    have hrow' : ∀ L, RowC w L bw ow R_simplify_Run rR (rs.map RD.hd) := fun L => ⟨fun w' hw' => hrow.out w' (hw'.sub (List.nil_sublist _))⟩
    have hbl : ys.length ≤ m * 1024 := hys ▸ buA_len hr m (by omega)
    have hrm := hr _ (gi_mem (i := (m : Int)) (xs := rs) (by omega))
    have hgm := gi_map (f := RD.hd) hlt
    have hbA : buA rs (m + 1) = buA rs m ++ bu (gi rs (m : Int)) := rfl
    repeat (refine wkB ?_; try intro _)
    simp only [hgm]
    generalize gi rs (m : Int) = r at *
    obtain ⟨T, rmem⟩ := hrm.mem
    obtain ⟨I, b, c, pts, sp⟩ := r
    simp only at rmem
    have := FoC.mk rmem
    dsimp only [RD.hd]
    repeat (first | (refine wkB ?_; try intro _) | (refine sC rfl rfl ?_ ?_; focus (exact ⟨⟨rfl, hrm.l1, hrm.l2⟩, hrm.bnd, hrm.inc⟩)) | (refine sN rfl rfl ?_ ?_; (focus (exact ⟨⟨rfl, hrm.l1, hrm.l2⟩, hrm.bnd, hrm.inc⟩)); intro _; (try simp only [List.cons_append, List.nil_append, List.append_nil])))
    simp only [hgm]
    dsimp only [RD.hd]
    repeat (first | (refine wkB ?_; try intro _) | (refine sC rfl rfl ?_ ?_; focus (exact hrm.res)) | (refine sN rfl rfl ?_ ?_; (focus (exact hrm.res)); intro _; (try simp only [List.cons_append, List.nil_append, List.append_nil])))
    have hc : (mpN ofU (nrmR (mRes (frS pts) [I])) (nrmR (mRes (frS pts) [I])).length).length ≤ 1024 := hrm.cap
    refine sV rfl rfl ?_ ?_ ?_
    · rfl
    · exact ⟨by omega, by omega⟩
    intro s'
    repeat (refine wkB ?_; try intro _)
    exact jx_loop ⟨_, m + 1, s'⟩ ⟨by rw [hbA, ← hys]; rfl, by show m + 1 ≤ rs.length; omega⟩ sbB suB (by show rs.length - (m + 1) < rs.length - m; omega)
  · have hge : m = rs.length := by have := of_decide_eq_false h; omega
    subst hge
    subst hys
    repeat (first | (refine wkB ?_; try intro _) | (refine sC rfl rfl ?_ ?_; focus (exact ⟨h19, hin⟩)) | (refine sN rfl rfl ?_ ?_; (focus (exact ⟨h19, hin⟩)); intro _; (try simp only [List.cons_append, List.nil_append, List.append_nil])))
    exact jx_ret_two rfl (resv_tmp rfl) (resv_tmp rfl) (fun w hw => ⟨_, rfl, hw.sub suB⟩)
end Go.Vt
/- A normal form has at most as many units as what it was made of. Conditions: those that each statement names. -/
set_option linter.unusedSimpArgs false
set_option linter.unusedVariables false
set_option maxHeartbeats 2000000
set_option linter.unusedSectionVars false
namespace Go.Vt
open Fv (va red)
section
variable {T F V : Type} [LE T] [LT T] [Std.LawfulOrderLT T] [Std.IsLinearOrder T] [Dns T] [Fv F T V] [DecidableEq T]
def Upw (xs : List (GU T F)) : Prop := ∀ u ∈ xs, u.a ≤ u.b
theorem Upw.snoc {xs : List (GU T F)} {u : GU T F} (h : Upw xs) (hu : u.a ≤ u.b) : Upw (xs ++ [u]) := fun w hw => by
  rcases List.mem_append.1 hw with h1 | h1
  · exact h w h1
  · rw [List.mem_singleton] at h1
    exact h1 ▸ hu
theorem Upw.init {xs : List (GU T F)} {u : GU T F} (h : Upw (xs ++ [u])) : Upw xs ∧ u.a ≤ u.b := ⟨fun w hw => h w (List.mem_append_left _ hw), h u (List.mem_append_right _ (.head _))⟩
theorem stp_upw {pv nx : Option (GU T F)} {xs xs' : List (GU T F)} {x : GU T F} (h : Stp pv nx xs x xs') (hx : x.a ≤ x.b) (hu : Upw xs) : Upw xs' ∧ xs'.length ≤ xs.length + 1 := by
  cases h with
  | ext h1 h2 h3 h4 h5 =>
    obtain ⟨h6, h7⟩ := hu.init
    exact ⟨h6.snoc (by simp only; grind), by simp⟩
  | appO h1 h2 h3 h4 => exact ⟨hu.snoc hx, by simp⟩
  | appN h1 h2 h3 => exact ⟨hu.snoc hx, by simp⟩
  | clo h1 h2 h3 h4 =>
    obtain ⟨h6, h7⟩ := hu.init
    exact ⟨h6.snoc h7, by simp⟩
  | lft h1 h2 h3 => exact ⟨hu, by simp⟩
  | rdc h1 h2 h3 => exact ⟨hu.snoc hx, by simp⟩
/-- An instant that the next part can take. -/
theorem stp_fst {pv : Option (GU T F)} {xs xs' : List (GU T F)} {x n : GU T F} (h : Stp pv (some n) xs x xs') (hi : x.a = x.b) (hn : n.a = x.a) (hf : n.f = x.f) (hu : Upw xs) : Upw xs' ∧ xs'.length ≤ xs.length := by
  cases h with
  | ext h1 => exact absurd hi h1
  | appO h1 => exact absurd hi h1
  | appN h1 => exact absurd hi h1
  | clo h1 h2 h3 h4 =>
    obtain ⟨h6, h7⟩ := hu.init
    exact ⟨h6.snoc h7, by simp⟩
  | lft h1 h2 h3 => exact ⟨hu, by simp⟩
  | rdc h1 h2 h3 => exact absurd ⟨n, rfl, hn, by rw [hf]⟩ h3
/-- A part that is long. -/
theorem stp_mid {pv nx : Option (GU T F)} {xs xs' : List (GU T F)} {x : GU T F} (h : Stp pv nx xs x xs') (hx : x.a < x.b) (hu : Upw xs) : Upw xs' ∧ xs'.length ≤ xs.length + 1 ∧ ∃ ys w, xs' = ys ++ [w] ∧ w.b = x.b ∧ w.f = x.f ∧ w.a ≠ w.b := by
  refine ⟨(stp_upw h (by grind) hu).1, (stp_upw h (by grind) hu).2, ?_⟩
  cases h with
  | ext h1 h2 h3 h4 h5 =>
    obtain ⟨h6, h7⟩ := hu.init
    exact ⟨_, _, rfl, rfl, h5, by simp only; grind⟩
  | appO h1 h2 h3 h4 => exact ⟨_, _, rfl, rfl, rfl, h1⟩
  | appN h1 h2 h3 => exact ⟨_, _, rfl, rfl, rfl, h1⟩
  | clo h1 => grind
  | lft h1 => grind
  | rdc h1 => grind
/-- An instant that the part before takes. -/
theorem stp_lst {pv nx : Option (GU T F)} {ys xs' : List (GU T F)} {x w : GU T F} (h : Stp pv nx (ys ++ [w]) x xs') (hi : x.a = x.b) (hb : w.b = x.a) (hf : w.f = x.f) (hl : w.a ≠ w.b) (hu : Upw (ys ++ [w])) : Upw xs' ∧ xs'.length ≤ (ys ++ [w]).length := by
  refine ⟨(stp_upw h (by grind) hu).1, ?_⟩
  generalize hz : ys ++ [w] = zs at *
  cases h with
  | ext h1 => exact absurd hi h1
  | appO h1 => exact absurd hi h1
  | appN h1 => exact absurd hi h1
  | clo h1 h2 h3 h4 => simp
  | lft h1 h2 h3 => exact Nat.le_refl _
  | rdc h1 h2 h3 => exact absurd (by rw [hf]) (h2 ys w hz.symm hb hl)
theorem mk_len : ∀ (us : List (GU T F)), (∀ u ∈ us, u.ok) → ∀ (pv : Option (GU T F)) (xs out : List (GU T F)), Upw xs → Mk pv xs (partsL us) out → out.length ≤ xs.length + us.length
  | [], _, pv, xs, out, _, h => by
    simp only [partsL, List.flatMap_nil] at h
    cases h with
    | nil => exact Nat.le_refl _
  | u :: us, hok, pv, xs, out, hu, h => by
    have hk := hok u (.head _)
    have hks : ∀ u ∈ us, u.ok := fun w hw => hok w (.tail _ hw)
    rw [partsL_cons] at h
    have go : ∀ (pv : Option (GU T F)) (zs : List (GU T F)), Upw zs → zs.length ≤ xs.length + 1 → Mk pv zs (partsL us) out → out.length ≤ xs.length + (u :: us).length := fun pv zs hz hl hm => by
      have := mk_len us hks pv zs out hz hm
      rw [List.length_cons]
      omega
    unfold GU.parts at h
    by_cases he : u.a = u.b
    · have ho : u.oa = false := by unfold GU.ok at hk; grind
      simp only [ho, he, if_true, Bool.false_eq_true, if_false, List.append_nil, List.cons_append, List.nil_append] at h
      cases h with
      | cons hs hm =>
        have h1 := stp_upw hs (by simp only; grind) hu
        exact go _ _ h1.1 h1.2 hm
    · have hlt : u.a < u.b := by unfold GU.ok at hk; grind
      have mid : ∀ (pv : Option (GU T F)) (zs : List (GU T F)), Upw zs → zs.length ≤ xs.length → Mk pv zs ((⟨u.a, u.b, true, true, u.f⟩ :: if u.ob = true then [] else [⟨u.b, u.b, false, false, u.f⟩]) ++ partsL us) out → out.length ≤ xs.length + (u :: us).length := fun pv zs hz hl hm => by
        rcases hb : u.ob with _ | _
        · simp only [hb, Bool.false_eq_true, if_false, List.cons_append, List.nil_append] at hm
          cases hm with
          | cons hs hm =>
            obtain ⟨h1, h2, ys, w, hw, h3, h4, h5⟩ := stp_mid hs hlt hz
            subst hw
            cases hm with
            | cons hs hm =>
              have h6 := stp_lst hs rfl h3 h4 h5 h1
              exact go _ _ h6.1 (by omega) hm
        · simp only [hb, if_true, List.cons_append, List.nil_append] at hm
          cases hm with
          | cons hs hm =>
            obtain ⟨h1, h2, _⟩ := stp_mid hs hlt hz
            exact go _ _ h1 (by omega) hm
      rcases ho : u.oa with _ | _
      · simp only [ho, he, Bool.false_eq_true, if_false, List.cons_append, List.nil_append] at h
        cases h with
        | cons hs hm =>
          simp only [List.head?_cons] at hs
          have h1 := stp_fst hs rfl rfl rfl hu
          exact mid _ _ h1.1 h1.2 (by simpa using hm)
      · simp only [ho, he, if_true, if_false, List.nil_append] at h
        exact mid _ _ hu (Nat.le_refl _) h
end
theorem nrmR_few {us : List UL} (h : UVal us) : (nrmR us).length ≤ us.length := by
  have hs := h.sor
  have hok : ∀ u ∈ (Go.Vt.sor us).map absU, u.ok := fun u hu => by
    obtain ⟨w, hw, rfl⟩ := List.mem_map.1 hu
    exact hs.v w hw
  have hall := atm_ok hs.i (Go.Vt.sor us).length (Nat.le_refl _)
  have hmk := mk_nrm hall _ 0 (Nat.zero_add _)
  have hparts : (atm (Go.Vt.sor us) (Go.Vt.sor us).length).map absU = partsL ((Go.Vt.sor us).map absU) := by
    have := atm_abs (fun u hu => (hs.i u hu).i) (Go.Vt.sor us).length (Nat.le_refl _)
    rw [List.take_length] at this
    exact this
  rw [List.drop_zero, hparts] at hmk
  have hl := mk_len _ hok _ _ _ (fun u hu => by cases hu) hmk
  have hp := (sor_perm us).length_eq
  simp only [nrm, List.map_nil, List.length_nil, Nat.zero_add, List.length_map] at hl
  unfold nrmR
  split
  · unfold allU
    omega
  · exact Nat.zero_le _
end Go.Vt
