/- P31.8 (moving a run) walked. Conditions: those that each statement names. -/
import Derived.Test.YtgcjapcminakdaaDoorKeeps
set_option linter.unusedSimpArgs false
set_option linter.unusedVariables false
set_option maxRecDepth 100000
namespace Go.Vt
open Go.RowKit Go.Proofs

instance sp_Shift (x : R_api_Real) (q : Rat) : SpecC Tryd.prog 14 [vR x, vQ q] (vR ⟨x.P + q, x.R, x.Neg⟩) (M x.P ≤ LQ ∧ M q ≤ LQ) := ⟨fun hp w => by
  refine fn_intro Tryd.func14 rfl Tryd.ntmps14 rfl ?_
  repeat (first | refine sX rfl rfl ?_ | (refine sS rfl rfl ?_ ?_; focus omega) | (refine sC rfl rfl ?_ ?_; focus (exact hp)) | refine cX ?_ | refine cY ?_ | (refine sA rfl rfl ?_; intro _) | refine sT rfl ?_ | refine sF rfl ?_ | (refine sR rfl ?_ ?_; focus omega) | (refine sB rfl rfl ?_; intro _) | (refine sN rfl rfl ?_ ?_; (focus (exact hp)); intro _; simp only [List.cons_append, List.nil_append]) | refine sW rfl rfl ?_ | refine sK rfl rfl ?_ | refine j_if rfl ?_ | refine j_else rfl ?_ | refine Go.Vt.jq (wl_pickT rfl rfl) rfl rfl ?_ | refine Go.Vt.jq (wl_pickF rfl rfl) rfl rfl ?_)
  exact wx_cell rfl rfl (fun w hw => ret_ok hw)⟩
/-- Three small numbers. -/
abbrev e3 (a b c : Int) : Array Value := row (eI .i8) [a, b, c] []
instance cs_e3 (a b c : Int) : CsC (e3 a b c) 3 := ⟨by kernel_rfl, by kernel_rfl⟩
instance (priority := high) ys_e3 {w0 : World} {n : Nat} {L : List Blk} {E : Env} {T T0 : TypeId} {x : Operand} {b : Nat} {i a1 a2 a3 : Int} [IsC (evl E x) (.pointer (some ⟨b, 0 + i.toNat * 1, none⟩))] [h : AtC w0 L b (row (eI .i8) [a1, a2, a3] []) T0] [hv : LdC Tryd.prog T (eI .i8 (gi [a1, a2, a3] i)) 0 (.int .i8 (gi [a1, a2, a3] i))] : YsC Tryd.prog w0 n L E (.load T x) (.int .i8 (gi [a1, a2, a3] i)) (0 ≤ i ∧ i < 3) := ⟨fun hi => ys_row0.out (by show i.toNat < 3; omega)⟩
def movI (I : R_api_Interval) (q : Int) : R_api_Interval := ⟨⟨I.From.P + (q : Rat), I.From.R, I.From.Neg⟩, ⟨I.To.P + (q : Rat), I.To.R, I.To.Neg⟩, I.OpenFrom, I.OpenTo⟩
def mvS (q x y : Int) (p : R_movingpoint_Sample) : R_movingpoint_Sample := ⟨p.T + (q : Rat), ⟨p.P.X + (x : Rat), p.P.Y + (y : Rat)⟩⟩
/-- The first 'm' samples, moved. -/
def mv (q x y : Int) (ps : List R_movingpoint_Sample) : Nat → List R_movingpoint_Sample
  | 0 => []
  | m + 1 => mv q x y ps m ++ [mvS q x y (gi ps (m : Int))]
theorem mv_len (q x y : Int) (ps : List R_movingpoint_Sample) : ∀ m, (mv q x y ps m).length = m
  | 0 => rfl
  | m + 1 => by rw [mv, List.length_append, mv_len q x y ps m]; rfl
theorem j_less {P : Program} {w0 : World} {n : Nat} {c : Code} {Q : Exit → Act → World → Prop} {E E' : Env} {L : List Blk} (hs : Sub E E') (h : J P w0 n c Q E' L) : J P w0 n c Q E L := ⟨fun a w ha hw => h.out a w (ha.sub hs) hw⟩
theorem M_i8 {n : Int} (h : -128 ≤ n ∧ n ≤ 127) : M (n : Rat) ≤ 1 := by
  rw [M_int]
  have := mg_small (n := n) (k := 1) (by omega)
  omega
/-! ### The plain law: moving changes no deviation -/
theorem gi_mv (q x y : Int) (ps : List R_movingpoint_Sample) : ∀ n (i : Nat), i < n → gi (mv q x y ps n) (i : Int) = mvS q x y (gi ps (i : Int))
  | 0, i, h => by omega
  | n + 1, i, h => by
    have hl := mv_len q x y ps n
    rw [mv]
    rcases (by omega : i < n ∨ i = n) with h1 | h1
    · rw [← gi_mv q x y ps n i h1]
      unfold gi
      simp only [Int.toNat_natCast, List.getD_eq_getElem?_getD]
      rw [List.getElem?_append_left (by omega)]
    · subst h1
      conv => lhs; unfold gi
      simp only [Int.toNat_natCast, List.getD_eq_getElem?_getD]
      rw [List.getElem?_append_right (by omega), hl, Nat.sub_self]
      rfl
theorem btw_mv (q x y : Int) (a b : R_movingpoint_Sample) (t : Rat) : btw (mvS q x y a) (mvS q x y b) (t + (q : Rat)) = ⟨(btw a b t).X + (x : Rat), (btw a b t).Y + (y : Rat)⟩ := by
  unfold btw mvS
  simp only
  rw [show b.T + (q : Rat) - (a.T + (q : Rat)) = b.T - a.T by grind, show t + (q : Rat) - (a.T + (q : Rat)) = t - a.T by grind]
  split
  · rfl
  · simp only [R_api_Point.mk.injEq]
    rw [show b.P.X + (x : Rat) - (a.P.X + (x : Rat)) = b.P.X - a.P.X by grind, show b.P.Y + (y : Rat) - (a.P.Y + (y : Rat)) = b.P.Y - a.P.Y by grind]
    exact ⟨by grind, by grind⟩
theorem d2_mv (x y : Rat) (p r : R_api_Point) : d2 ⟨p.X + x, p.Y + y⟩ ⟨r.X + x, r.Y + y⟩ = d2 p r := by
  unfold d2
  simp only
  rw [show p.X + x - (r.X + x) = p.X - r.X by grind, show p.Y + y - (r.Y + y) = p.Y - r.Y by grind]
theorem rv_mv (q x y : Int) (ps : List R_movingpoint_Sample) (n i j : Nat) (hj : j < n) : ∀ m, i + m < j → rv (mv q x y ps n) i j m = rv ps i j m
  | 0, _ => rfl
  | m + 1, h => by
    rw [rv, rv, rv_mv q x y ps n i j hj m (by omega), show ((i : Int) + 1 + (m : Nat)) = ((i + 1 + m : Nat) : Int) by omega, gi_mv _ _ _ _ _ _ (by omega : i + 1 + m < n), gi_mv _ _ _ _ _ _ (by omega : i < n), gi_mv _ _ _ _ _ _ hj]
    congr 1
    show d2 (mvS q x y _).P (btw _ _ (_ + (q : Rat))) = _
    rw [btw_mv]
    exact d2_mv _ _ _ _
theorem kept_mv (ws : List WStep) (q x y : Int) (d : Rat) : keptL (okd (mv q x y (ptsW ws) (ptsW ws).length) (d * d)) ((ptsW ws).length - 1) = keptL (okd (ptsW ws) (d * d)) ((ptsW ws).length - 1) := by
  have hl := ptsW_len ws
  rw [kept_best (fun i _ => okd_next i), kept_best (fun i _ => okd_next i)]
  refine bst_congr (fun i k h1 h2 => ?_) _ _ (Nat.zero_le _)
  have ht := ptsW_inc ws i k h1 (by omega)
  rw [← okr_okd ht, ← okr_okd (by
    rw [gi_mv _ _ _ _ _ _ (by omega : i < (ptsW ws).length), gi_mv _ _ _ _ _ _ (by omega : k < (ptsW ws).length)]
    show _ + (q : Rat) < _ + (q : Rat)
    grind)]
  unfold okr
  rw [rv_mv _ _ _ _ _ _ _ (by omega) _ (by omega)]
theorem ptsW_b (ws : List WStep) : ∀ p ∈ ptsW ws, M p.T ≤ 100 ∧ M p.P.X ≤ 1 ∧ M p.P.Y ≤ 1 := by
  have hA : ∀ m, m ≤ 7 → ∀ x ∈ (pA ws m).1, M x.T ≤ 100 ∧ M x.P.X ≤ 1 ∧ M x.P.Y ≤ 1 := by
    intro m
    induction m with
    | zero => intro _ x hx; cases hx
    | succ m ih =>
      intro hm x hx
      rw [pA] at hx
      rcases List.mem_append.1 hx with h | h
      · exact ih (by omega) x h
      · rw [List.mem_singleton] at h
        subst h
        have h1 := pA_time ws (m + 1)
        rw [pA] at h1
        simp only at h1 ⊢
        exact ⟨Nat.le_trans h1 (by omega), M_small (by omega), M_small (by omega)⟩
  unfold ptsW
  split
  · decide +kernel
  · exact hA _ (by omega)
theorem mv_mem (q x y : Int) (ps : List R_movingpoint_Sample) : ∀ m, m ≤ ps.length → ∀ p ∈ mv q x y ps m, ∃ r ∈ ps, p = mvS q x y r
  | 0, _, p, h => by cases h
  | m + 1, hm, p, h => by
    rw [mv] at h
    rcases List.mem_append.1 h with h1 | h1
    · exact mv_mem q x y ps m (by omega) p h1
    · rw [List.mem_singleton] at h1
      refine ⟨_, ?_, h1⟩
      rw [gi_eq (by omega : ((m : Int)).toNat < ps.length)]
      exact List.getElem_mem _
theorem mv_bnd (ws : List WStep) (q x y : Int) (h1 : -128 ≤ q ∧ q ≤ 127) (h2 : -128 ≤ x ∧ x ≤ 127) (h3 : -128 ≤ y ∧ y ≤ 127) (m : Nat) (hm : m ≤ (ptsW ws).length) : Bnd (mv q x y (ptsW ws) m) := bnd_of (fun p hp => by
  obtain ⟨r, hr, rfl⟩ := mv_mem q x y _ m hm p hp
  obtain ⟨g1, g2, g3⟩ := ptsW_b ws r hr
  have : MB r.T 100 := ⟨g1⟩
  have : MB r.P.X 1 := ⟨g2⟩
  have : MB r.P.Y 1 := ⟨g3⟩
  have : MB (q : Rat) 1 := ⟨M_i8 h1⟩
  have : MB (x : Rat) 1 := ⟨M_i8 h2⟩
  have : MB (y : Rat) 1 := ⟨M_i8 h3⟩
  show M (r.T + (q : Rat)) ≤ PB ∧ M (r.P.X + (x : Rat)) ≤ PB ∧ M (r.P.Y + (y : Rat)) ≤ PB
  exact ⟨MB.lt rfl, MB.lt rfl, MB.lt rfl⟩)
theorem moves_spec (v : Value) (ws : List WStep) (d a1 a2 a3 : Int) (hd : 0 ≤ d ∧ d ≤ 255) (h1 : -128 ≤ a1 ∧ a1 ≤ 127) (h2 : -128 ≤ a2 ∧ a2 ≤ 127) (h3 : -128 ≤ a3 ∧ a3 ≤ 127) (hws : WOk ws) (w : World) (hv : ArgS w v e_st_Time_X_Y ws) (hlen : ws.length ≤ 9223372036854775807) :
    Calls Tryd.prog 4 [v, .int .u8 d, .agg (e3 a1 a2 a3)].toArray w (Ret (.bool true) w) := by
  have := ArgC.mk hv
  have hr : ∀ c, (ptsW ws).length ≤ c → RunOk (ptsW ws) (ptsW ws).length c := fun c hc => ⟨rfl, hc, by have := ptsW_len ws; omega, ptsW_bnd ws⟩
  have hl := ptsW_len ws
  have hM : M (dst d) ≤ 1073741824 := Nat.le_trans (dst_M d) (by decide)
  have h1' : -128 ≤ gi [a1, a2, a3] 0 ∧ gi [a1, a2, a3] 0 ≤ 127 := h1
  have h2' : -128 ≤ gi [a1, a2, a3] 1 ∧ gi [a1, a2, a3] 1 ≤ 127 := h2
  have h3' : -128 ≤ gi [a1, a2, a3] 2 ∧ gi [a1, a2, a3] 2 ≤ 127 := h3
  refine fn_intro Tryd.func4 rfl Tryd.ntmps4 rfl ?_
  repeat (first | refine sX rfl rfl ?_ | (refine sS rfl rfl ?_ ?_; focus omega) | (refine sC rfl rfl ?_ ?_; focus (first | exact trivial | exact ⟨by omega, by omega⟩ | exact ⟨⟨by omega, by omega⟩, hws, hlen⟩)) | refine cX ?_ | refine cY ?_ | (refine sA rfl rfl ?_; intro _) | refine sT rfl ?_ | refine sF rfl ?_ | (refine sR rfl ?_ ?_; focus omega) | (refine sB rfl rfl ?_; intro _) | (refine sN rfl rfl ?_ ?_; (focus (first | exact trivial | exact ⟨by omega, by omega⟩ | exact ⟨⟨by omega, by omega⟩, hws, hlen⟩)); intro _; simp only [List.cons_append, List.nil_append]) | refine sW rfl rfl ?_ | refine sK rfl rfl ?_ | refine j_if rfl ?_ | refine j_else rfl ?_ | refine Go.Vt.jq (wl_pickT rfl rfl) rfl rfl ?_ | refine Go.Vt.jq (wl_pickF rfl rfl) rfl rfl ?_)
  rename_i b5 sr b7 b8 b9
  obtain ⟨⟨bp, cp, spp⟩, hcp⟩ := sr
  simp only at hcp ⊢
  obtain ⟨q, hq⟩ : ∃ q, q = gi [a1, a2, a3] 0 := ⟨_, rfl⟩
  simp only [← hq] at h1' ⊢
  have hB := ptsW_bnd ws
  have hqM : M (q : Rat) ≤ 1 := M_i8 h1'
  have hs1 : M (runI (ptsW ws) 0).From.P ≤ LQ ∧ M (q : Rat) ≤ LQ := ⟨Nat.le_trans (hB 0).1 (by decide), Nat.le_trans hqM (by decide)⟩
  have hs2 : M (runI (ptsW ws) 0).To.P ≤ LQ ∧ M (q : Rat) ≤ LQ := ⟨Nat.le_trans (hB ((ptsW ws).length - 1)).1 (by decide), Nat.le_trans hqM (by decide)⟩
  (refine j_phases [([0, 1, 2, 3, 4, 5, 6, 7, 8, 9], [10, 11, 12, 13, 14, 15])] ([⟨b9, e_api_Rat (Q (q : Rat)), 28⟩, ⟨b7, cRun (runI (ptsW ws) 0) bp (ptsW ws).length cp, 35⟩, ⟨bp, row rS (ptsW ws) spp, 52⟩, ⟨b5, e3 a1 a2 a3, 47⟩]) mixed (by kernel_rfl) (by repeat (first | exact List.Sublist.refl _ | exact List.nil_sublist _ | refine List.Sublist.cons_cons _ ?_ | refine List.Sublist.cons _ ?_ | refine List.Sublist.trans ?_ (List.sublist_append_right _ _))) ?_; simp only [JP, picks, List.getElem?_cons_succ, List.getElem?_cons_zero])
  repeat (first | refine tX rfl rfl ?_ | (refine tS rfl rfl ?_ ?_; focus omega) | (refine tC rfl rfl ?_ ?_; focus (first | exact hs1 | exact hs2)) | refine tW rfl rfl ?_ | refine tK rfl rfl ?_ | refine Go.Vt.hq (wl_pickT rfl rfl) rfl rfl ?_ | refine Go.Vt.hq (wl_pickF rfl rfl) rfl rfl ?_)
  repeat (first | refine eS rfl rfl ?_ | refine uP rfl rfl rfl rfl ?_ | refine uQ rfl rfl rfl rfl ?_ | refine eX rfl rfl ?_ | (refine uS rfl rfl ?_ ?_; focus omega) | (refine uC rfl rfl ?_ ?_; focus (first | exact trivial | assumption | exact ⟨by assumption, by assumption⟩ | exact mb2 rfl rfl | exact mb4 rfl rfl rfl rfl)) | refine uW rfl rfl ?_ | refine eF rfl ?_ | refine eT rfl ?_ | (refine eA rfl rfl ?_; intro _) | (refine eB rfl rfl ?_; intro _) | (refine eN rfl rfl ?_ ?_; (focus (first | exact trivial | assumption | exact ⟨by assumption, by assumption⟩ | exact mb2 rfl rfl | exact mb4 rfl rfl rfl rfl)); intro _; simp only [List.cons_append, List.nil_append]) | refine je_nil ?_ | refine tX rfl rfl ?_ | (refine tS rfl rfl ?_ ?_; focus omega) | (refine tC rfl rfl ?_ ?_; focus (first | exact trivial | assumption | exact ⟨by assumption, by assumption⟩ | exact mb2 rfl rfl | exact mb4 rfl rfl rfl rfl)) | refine tW rfl rfl ?_ | refine tK rfl rfl ?_ | refine Go.Vt.hq (wl_pickT rfl rfl) rfl rfl ?_ | refine Go.Vt.hq (wl_pickF rfl rfl) rfl rfl ?_ | refine jh_nil ?_)
  repeat (first | refine sX rfl rfl ?_ | (refine sS rfl rfl ?_ ?_; focus omega) | (refine sC rfl rfl ?_ ?_; focus (first | exact trivial | assumption | exact ⟨by assumption, by assumption⟩ | exact mb2 rfl rfl | exact mb4 rfl rfl rfl rfl)) | refine cX ?_ | refine cY ?_ | (refine sA rfl rfl ?_; intro _) | refine sT rfl ?_ | refine sF rfl ?_ | (refine sR rfl ?_ ?_; focus omega) | (refine sB rfl rfl ?_; intro _) | (refine sN rfl rfl ?_ ?_; (focus (first | exact trivial | assumption | exact ⟨by assumption, by assumption⟩ | exact mb2 rfl rfl | exact mb4 rfl rfl rfl rfl)); intro _; simp only [List.cons_append, List.nil_append]) | refine sW rfl rfl ?_ | refine sK rfl rfl ?_ | refine j_if rfl ?_ | refine j_else rfl ?_ | refine Go.Vt.jq (wl_pickT rfl rfl) rfl rfl ?_ | refine Go.Vt.jq (wl_pickF rfl rfl) rfl rfl ?_)
  refine j_less (E' := [(1, .int .u8 d), (5, .pointer (some ⟨b5, 0, none⟩)), (7, .pointer (some ⟨b7, 0, none⟩)), (8, .pointer (some ⟨b8, 0, none⟩)), (9, .pointer (some ⟨b9, 0, none⟩)), (10, .int .i64 0)]) (by repeat (first | exact sub_nil | refine sub_cons rfl ?_ | refine sub_cons' rfl (by congr 1; omega) ?_)) ?_
  obtain ⟨x, hx⟩ : ∃ x, x = gi [a1, a2, a3] 1 := ⟨_, rfl⟩
  obtain ⟨y, hy⟩ : ∃ y, y = gi [a1, a2, a3] 2 := ⟨_, rfl⟩
  obtain ⟨ps, hps⟩ : ∃ ps, ps = ptsW ws := ⟨_, rfl⟩
  obtain ⟨I, hI⟩ : ∃ I, I = runI (ptsW ws) 0 := ⟨_, rfl⟩
  have hxi := h2'
  have hyi := h3'
  have hxM : M ((gi [a1, a2, a3] 1 : Int) : Rat) ≤ LQ := Nat.le_trans (M_i8 h2') (by decide)
  have hyM : M ((gi [a1, a2, a3] 2 : Int) : Rat) ≤ LQ := Nat.le_trans (M_i8 h3') (by decide)
  rw [← hx] at h2'
  rw [← hy] at h3'
  simp only [← hI]
  simp only [← hps] at hB hcp hr hl ⊢
  refine j_loop (S := Nat × Option (Nat × Nat × List Value)) (fun s => s.1 ≤ ps.length ∧ (s.2 = none ↔ s.1 = 0) ∧ ∀ t, s.2 = some t → s.1 ≤ t.2.1 ∧ t.2.2.length = (t.2.1 - s.1) * 12)
    (fun s => [(1, .int .u8 d), (5, .pointer (some ⟨b5, 0, none⟩)), (7, .pointer (some ⟨b7, 0, none⟩)), (8, .pointer (some ⟨b8, 0, none⟩)), (9, .pointer (some ⟨b9, 0, none⟩)), (10, .int .i64 (s.1 : Nat))])
    (fun s => mSl 52 (mv q x y ps s.1) s.2 ++ [⟨b9, e_api_Rat (Q (q : Rat)), 28⟩, ⟨b8, e_simplify_Run (q_simplify_Run ⟨movI I q, hSl (mv q x y ps s.1).length s.2⟩), 35⟩, ⟨b7, cRun I bp ps.length cp, 35⟩, ⟨bp, row rS ps spp, 52⟩, ⟨b5, e3 a1 a2 a3, 47⟩]) (fun s => ps.length - s.1) (0, none)
    ⟨Nat.zero_le _, by simp, by simp⟩ (by repeat (first | exact sub_nil | refine sub_cons rfl ?_ | refine sub_cons' rfl (by congr 1; omega) ?_)) (by repeat (first | exact List.Sublist.refl _ | exact List.nil_sublist _ | refine List.Sublist.cons_cons _ ?_ | refine List.Sublist.cons _ ?_)) (fun s hs => ?_)
  obtain ⟨m, og⟩ := s
  obtain ⟨hm1, hog, hogs⟩ := hs
  simp only at hm1 hog hogs ⊢
  rcases og with _ | ⟨bo, co, so⟩
  · have hm0 := hog.1 rfl
    subst hm0
    have hlt : 0 < ps.length := by omega
    simp only [mSl, hSl, List.nil_append]
    repeat (first | refine sX rfl rfl ?_ | (refine sS rfl rfl ?_ ?_; focus omega) | (refine sC rfl rfl ?_ ?_; focus (first | exact trivial | assumption | exact ⟨by assumption, by assumption⟩ | exact mb2 rfl rfl | exact mb4 rfl rfl rfl rfl)) | refine cX ?_ | refine cY ?_ | (refine sA rfl rfl ?_; intro _) | refine sT rfl ?_ | refine sF rfl ?_ | (refine sR rfl ?_ ?_; focus omega) | (refine sB rfl rfl ?_; intro _) | (refine sN rfl rfl ?_ ?_; (focus (first | exact trivial | assumption | exact ⟨by assumption, by assumption⟩ | exact mb2 rfl rfl | exact mb4 rfl rfl rfl rfl)); intro _; simp only [List.cons_append, List.nil_append]) | refine sW rfl rfl ?_ | refine sK rfl rfl ?_ | refine j_if rfl ?_ | refine j_else rfl ?_ | refine Go.Vt.jq (wl_pickT rfl rfl) rfl rfl ?_ | refine Go.Vt.jq (wl_pickF rfl rfl) rfl rfl ?_)
    simp only [decide_eq_true (show ((0 : Nat) : Int) < (ps.length : Int) by omega)]
    repeat (first | refine sX rfl rfl ?_ | (refine sS rfl rfl ?_ ?_; focus omega) | (refine sC rfl rfl ?_ ?_; focus (exact ⟨by omega, by omega⟩)) | refine cX ?_ | refine cY ?_ | (refine sA rfl rfl ?_; intro _) | refine sT rfl ?_ | refine sF rfl ?_ | (refine sR rfl ?_ ?_; focus omega) | (refine sB rfl rfl ?_; intro _) | (refine sN rfl rfl ?_ ?_; (focus (exact ⟨by omega, by omega⟩)); intro _; simp only [List.cons_append, List.nil_append]) | refine sW rfl rfl ?_ | refine sK rfl rfl ?_ | refine j_if rfl ?_ | refine j_else rfl ?_ | refine Go.Vt.jq (wl_pickT rfl rfl) rfl rfl ?_ | refine Go.Vt.jq (wl_pickF rfl rfl) rfl rfl ?_)
    rename_i b11
    have hpm := hB ((0 : Nat) : Int)
    have hpp : (M (gi ps ((0 : Nat) : Int)).P.X ≤ LQ ∧ M (gi ps ((0 : Nat) : Int)).P.Y ≤ LQ) ∧ M (gi ps ((0 : Nat) : Int)).T ≤ LQ := ⟨⟨Nat.le_trans hpm.2.1 (by decide), Nat.le_trans hpm.2.2 (by decide)⟩, Nat.le_trans hpm.1 (by decide)⟩
    (refine j_late2 [0, 1, 2, 3, 4, 5, 6, 7, 8, 9, 10, 11, 12, 13, 14, 15, 16] [17, 18] [19, 20] ([⟨b11, rS (gi ps ((0 : Nat) : Int)), 52⟩, ⟨b9, e_api_Rat (Q (q : Rat)), 28⟩, ⟨b8, e_simplify_Run (q_simplify_Run ⟨movI I q, ⟨none, 0, 0⟩⟩), 35⟩, ⟨b7, cRun I bp ps.length cp, 35⟩, ⟨bp, row rS ps spp, 52⟩, ⟨b5, e3 a1 a2 a3, 47⟩]) mixed (by kernel_rfl) (by kernel_rfl) (by decide) (by decide) (by repeat (first | exact List.Sublist.refl _ | exact List.nil_sublist _ | refine List.Sublist.cons_cons _ ?_ | refine List.Sublist.cons _ ?_ | refine List.Sublist.trans ?_ (List.sublist_append_right _ _))) ?_; simp only [picks, List.getElem?_cons_succ, List.getElem?_cons_zero])
    repeat (first | refine tX rfl rfl ?_ | (refine tS rfl rfl ?_ ?_; focus omega) | (refine tC rfl rfl ?_ ?_; focus (first | exact ⟨hpp.2, Nat.le_trans hqM (by decide)⟩ | exact ⟨by omega, by omega⟩ | exact ⟨hpp.1.1, hpp.1.2, hxM, hyM⟩ | exact ⟨hpp.1.1, hxM, hpp.1.2, hyM⟩)) | refine tW rfl rfl ?_ | refine tK rfl rfl ?_ | refine Go.Vt.hq (wl_pickT rfl rfl) rfl rfl ?_ | refine Go.Vt.hq (wl_pickF rfl rfl) rfl rfl ?_)
    simp only [← hx, ← hy]
    refine jh_nil ?_
    refine eB rfl rfl ?_
    intro bN
    refine eP0 rfl rfl ?_ rfl ?_ ?_
    · rfl
    · exact ⟨by omega, by omega, by omega⟩
    intro b' c' sp' g1 g2
    refine eX rfl rfl ?_
    refine eF rfl ?_
    refine je_nil ?_
    repeat (first | refine sX rfl rfl ?_ | (refine sS rfl rfl ?_ ?_; focus omega) | (refine sC rfl rfl ?_ ?_; focus (exact ⟨by omega, by omega⟩)) | refine cX ?_ | refine cY ?_ | (refine sA rfl rfl ?_; intro _) | refine sT rfl ?_ | refine sF rfl ?_ | (refine sR rfl ?_ ?_; focus omega) | (refine sB rfl rfl ?_; intro _) | (refine sN rfl rfl ?_ ?_; (focus (exact ⟨by omega, by omega⟩)); intro _; simp only [List.cons_append, List.nil_append]) | refine sW rfl rfl ?_ | refine sK rfl rfl ?_ | refine j_if rfl ?_ | refine j_else rfl ?_ | refine Go.Vt.jq (wl_pickT rfl rfl) rfl rfl ?_ | refine Go.Vt.jq (wl_pickF rfl rfl) rfl rfl ?_)
    exact jx_loop (1, some (b', c', sp')) ⟨by omega, by simp, fun t ht => by injection ht with ht; subst ht; exact ⟨g1, g2⟩⟩ (by repeat (first | exact sub_nil | refine sub_cons rfl ?_ | refine sub_cons' rfl (by congr 1; omega) ?_)) (by simp only [mSl, hSl, List.cons_append, List.nil_append]; exact (by repeat (first | exact List.Sublist.refl _ | exact List.nil_sublist _ | refine List.Sublist.cons_cons _ ?_ | refine List.Sublist.cons _ ?_))) (by show ps.length - 1 < ps.length - 0; omega)
  · have hsp := hogs _ rfl
    simp only [mSl, hSl, List.cons_append, List.nil_append] at hsp ⊢
    repeat (first | refine sX rfl rfl ?_ | (refine sS rfl rfl ?_ ?_; focus omega) | (refine sC rfl rfl ?_ ?_; focus (first | exact trivial | assumption | exact ⟨by assumption, by assumption⟩ | exact mb2 rfl rfl | exact mb4 rfl rfl rfl rfl)) | refine cX ?_ | refine cY ?_ | (refine sA rfl rfl ?_; intro _) | refine sT rfl ?_ | refine sF rfl ?_ | (refine sR rfl ?_ ?_; focus omega) | (refine sB rfl rfl ?_; intro _) | (refine sN rfl rfl ?_ ?_; (focus (first | exact trivial | assumption | exact ⟨by assumption, by assumption⟩ | exact mb2 rfl rfl | exact mb4 rfl rfl rfl rfl)); intro _; simp only [List.cons_append, List.nil_append]) | refine sW rfl rfl ?_ | refine sK rfl rfl ?_ | refine j_if rfl ?_ | refine j_else rfl ?_ | refine Go.Vt.jq (wl_pickT rfl rfl) rfl rfl ?_ | refine Go.Vt.jq (wl_pickF rfl rfl) rfl rfl ?_)
    refine j_cond rfl (fun h => ?_) (fun h => ?_)
    · have hlt : m < ps.length := by have := of_decide_eq_true h; omega
      repeat (first | refine sX rfl rfl ?_ | (refine sS rfl rfl ?_ ?_; focus omega) | (refine sC rfl rfl ?_ ?_; focus (exact ⟨by omega, by omega⟩)) | refine cX ?_ | refine cY ?_ | (refine sA rfl rfl ?_; intro _) | refine sT rfl ?_ | refine sF rfl ?_ | (refine sR rfl ?_ ?_; focus omega) | (refine sB rfl rfl ?_; intro _) | (refine sN rfl rfl ?_ ?_; (focus (exact ⟨by omega, by omega⟩)); intro _; simp only [List.cons_append, List.nil_append]) | refine sW rfl rfl ?_ | refine sK rfl rfl ?_ | refine j_if rfl ?_ | refine j_else rfl ?_ | refine Go.Vt.jq (wl_pickT rfl rfl) rfl rfl ?_ | refine Go.Vt.jq (wl_pickF rfl rfl) rfl rfl ?_)
      rename_i b11
      have hpm := hB ((m : Nat) : Int)
      have hmlen := mv_len q x y ps m
      have elen : (mv q x y ps m).length + 1 = (mv q x y ps (m + 1)).length := by rw [mv_len, mv_len]
      have hpp : (M (gi ps ((m : Nat) : Int)).P.X ≤ LQ ∧ M (gi ps ((m : Nat) : Int)).P.Y ≤ LQ) ∧ M (gi ps ((m : Nat) : Int)).T ≤ LQ := ⟨⟨Nat.le_trans hpm.2.1 (by decide), Nat.le_trans hpm.2.2 (by decide)⟩, Nat.le_trans hpm.1 (by decide)⟩
      (refine j_late2 [0, 1, 2, 3, 4, 5, 6, 7, 8, 9, 10, 11, 12, 13, 14, 15, 16] [17, 18] [19, 20] ([⟨b11, rS (gi ps ((m : Nat) : Int)), 52⟩, ⟨b9, e_api_Rat (Q (q : Rat)), 28⟩, ⟨b8, e_simplify_Run (q_simplify_Run ⟨movI I q, ⟨some ⟨bo, 0, none⟩, (mv q x y ps m).length, co⟩⟩), 35⟩, ⟨b7, cRun I bp ps.length cp, 35⟩, ⟨bp, row rS ps spp, 52⟩, ⟨b5, e3 a1 a2 a3, 47⟩]) mixed (by kernel_rfl) (by kernel_rfl) (by decide) (by decide) (by repeat (first | exact List.Sublist.refl _ | exact List.nil_sublist _ | refine List.Sublist.cons_cons _ ?_ | refine List.Sublist.cons _ ?_ | refine List.Sublist.trans ?_ (List.sublist_append_right _ _))) ?_; simp only [picks, List.getElem?_cons_succ, List.getElem?_cons_zero])
      repeat (first | refine tX rfl rfl ?_ | (refine tS rfl rfl ?_ ?_; focus omega) | (refine tC rfl rfl ?_ ?_; focus (first | exact ⟨hpp.2, Nat.le_trans hqM (by decide)⟩ | exact ⟨by omega, by omega⟩ | exact ⟨hpp.1.1, hpp.1.2, hxM, hyM⟩ | exact ⟨hpp.1.1, hxM, hpp.1.2, hyM⟩)) | refine tW rfl rfl ?_ | refine tK rfl rfl ?_ | refine Go.Vt.hq (wl_pickT rfl rfl) rfl rfl ?_ | refine Go.Vt.hq (wl_pickF rfl rfl) rfl rfl ?_)
      simp only [← hx, ← hy]
      refine jh_nil ?_
      refine eB rfl rfl ?_
      intro bN
      refine eP rfl rfl ?_ ?_ ?_ ?_ ?_
      · rfl
      · rw [mv_len]; exact hsp
      · rfl
      · exact ⟨by omega, by omega⟩
      intro b' c' sp' g1 g2
      rw [elen]
      refine eX rfl rfl ?_
      refine eF rfl ?_
      refine je_nil ?_
      repeat (first | refine sX rfl rfl ?_ | (refine sS rfl rfl ?_ ?_; focus omega) | (refine sC rfl rfl ?_ ?_; focus (exact ⟨by omega, by omega⟩)) | refine cX ?_ | refine cY ?_ | (refine sA rfl rfl ?_; intro _) | refine sT rfl ?_ | refine sF rfl ?_ | (refine sR rfl ?_ ?_; focus omega) | (refine sB rfl rfl ?_; intro _) | (refine sN rfl rfl ?_ ?_; (focus (exact ⟨by omega, by omega⟩)); intro _; simp only [List.cons_append, List.nil_append]) | refine sW rfl rfl ?_ | refine sK rfl rfl ?_ | refine j_if rfl ?_ | refine j_else rfl ?_ | refine Go.Vt.jq (wl_pickT rfl rfl) rfl rfl ?_ | refine Go.Vt.jq (wl_pickF rfl rfl) rfl rfl ?_)
      exact jx_loop (m + 1, some (b', c', sp')) ⟨by omega, by simp, fun t ht => by injection ht with ht; subst ht; rw [mv_len] at g1 g2; exact ⟨g1, g2⟩⟩ (by repeat (first | exact sub_nil | refine sub_cons rfl ?_ | refine sub_cons' rfl (by congr 1; omega) ?_)) (by simp only [mSl, hSl, List.cons_append, List.nil_append]; exact (by repeat (first | exact List.Sublist.refl _ | exact List.nil_sublist _ | refine List.Sublist.cons_cons _ ?_ | refine List.Sublist.cons _ ?_))) (by show ps.length - (m + 1) < ps.length - m; omega)
    · have hge : m = ps.length := by have := of_decide_eq_false h; omega
      subst hge
      have hmlen := mv_len q x y ps ps.length
      have hB2 := mv_bnd ws q x y h1' h2' h3' ps.length (by rw [hps]; exact Nat.le_refl _)
      rw [← hps] at hB2
      have hr2 : RunOk (mv q x y ps ps.length) (mv q x y ps ps.length).length co := ⟨rfl, by rw [hmlen]; exact hsp.1, by omega, hB2⟩
      repeat (first | refine sX rfl rfl ?_ | (refine sS rfl rfl ?_ ?_; focus omega) | (refine sC rfl rfl ?_ ?_; focus (first | exact trivial | assumption | exact ⟨by assumption, by assumption⟩ | exact mb2 rfl rfl | exact mb4 rfl rfl rfl rfl)) | refine cX ?_ | refine cY ?_ | (refine sA rfl rfl ?_; intro _) | refine sT rfl ?_ | refine sF rfl ?_ | (refine sR rfl ?_ ?_; focus omega) | (refine sB rfl rfl ?_; intro _) | (refine sN rfl rfl ?_ ?_; (focus (first | exact trivial | assumption | exact ⟨by assumption, by assumption⟩ | exact mb2 rfl rfl | exact mb4 rfl rfl rfl rfl)); intro _; simp only [List.cons_append, List.nil_append]) | refine sW rfl rfl ?_ | refine sK rfl rfl ?_ | refine j_if rfl ?_ | refine j_else rfl ?_ | refine Go.Vt.jq (wl_pickT rfl rfl) rfl rfl ?_ | refine Go.Vt.jq (wl_pickF rfl rfl) rfl rfl ?_)
      (refine j_late3 [0, 1, 2] [3] [4, 5, 6, 7, 8] ([⟨b7, cRun I bp ps.length cp, 35⟩, ⟨bp, row rS ps spp, 52⟩]) mixed (by kernel_rfl) (by decide) (by repeat (first | exact List.Sublist.refl _ | exact List.nil_sublist _ | refine List.Sublist.cons_cons _ ?_ | refine List.Sublist.cons _ ?_ | refine List.Sublist.trans ?_ (List.sublist_append_right _ _))) ?_; simp only [picks, List.getElem?_cons_succ, List.getElem?_cons_zero])
      repeat (first | refine tX rfl rfl ?_ | (refine tS rfl rfl ?_ ?_; focus omega) | (refine tC rfl rfl ?_ ?_; focus (exact ⟨by omega, by omega⟩)) | refine tW rfl rfl ?_ | refine tK rfl rfl ?_ | refine Go.Vt.hq (wl_pickT rfl rfl) rfl rfl ?_ | refine Go.Vt.hq (wl_pickF rfl rfl) rfl rfl ?_)
      repeat (first | refine eS rfl rfl ?_ | refine uP rfl rfl rfl rfl ?_ | refine uQ rfl rfl rfl rfl ?_ | refine eX rfl rfl ?_ | (refine uS rfl rfl ?_ ?_; focus omega) | (refine uC rfl rfl ?_ ?_; focus (exact ⟨hr _ hcp, ⟨hl.1, by omega⟩, hM, dst_nonneg d⟩)) | refine uW rfl rfl ?_ | refine eF rfl ?_ | refine eT rfl ?_ | (refine eA rfl rfl ?_; intro _) | (refine eB rfl rfl ?_; intro _) | (refine eN rfl rfl ?_ ?_; (focus (exact ⟨hr _ hcp, ⟨hl.1, by omega⟩, hM, dst_nonneg d⟩)); intro _; simp only [List.cons_append, List.nil_append]) | refine je_nil ?_ | refine tX rfl rfl ?_ | (refine tS rfl rfl ?_ ?_; focus omega) | (refine tC rfl rfl ?_ ?_; focus (exact ⟨hr _ hcp, ⟨hl.1, by omega⟩, hM, dst_nonneg d⟩)) | refine tW rfl rfl ?_ | refine tK rfl rfl ?_ | refine Go.Vt.hq (wl_pickT rfl rfl) rfl rfl ?_ | refine Go.Vt.hq (wl_pickF rfl rfl) rfl rfl ?_ | refine jh_nil ?_)
      rename_i sk
      obtain ⟨⟨bk, ck, spk⟩, hck⟩ := sk
      simp only at hck ⊢
      repeat (first | refine sX rfl rfl ?_ | (refine sS rfl rfl ?_ ?_; focus omega) | (refine sC rfl rfl ?_ ?_; focus (first | exact trivial | assumption | exact ⟨by assumption, by assumption⟩ | exact mb2 rfl rfl | exact mb4 rfl rfl rfl rfl)) | refine cX ?_ | refine cY ?_ | (refine sA rfl rfl ?_; intro _) | refine sT rfl ?_ | refine sF rfl ?_ | (refine sR rfl ?_ ?_; focus omega) | (refine sB rfl rfl ?_; intro _) | (refine sN rfl rfl ?_ ?_; (focus (first | exact trivial | assumption | exact ⟨by assumption, by assumption⟩ | exact mb2 rfl rfl | exact mb4 rfl rfl rfl rfl)); intro _; simp only [List.cons_append, List.nil_append]) | refine sW rfl rfl ?_ | refine sK rfl rfl ?_ | refine j_if rfl ?_ | refine j_else rfl ?_ | refine Go.Vt.jq (wl_pickT rfl rfl) rfl rfl ?_ | refine Go.Vt.jq (wl_pickF rfl rfl) rfl rfl ?_)
      (refine j_late3 [0, 1, 2] [3] [4, 5, 6, 7, 8] ([⟨bo, row rS (mv q x y ps ps.length) so, 52⟩, ⟨b8, cRun (movI I q) bo (mv q x y ps ps.length).length co, 35⟩]) mixed (by kernel_rfl) (by decide) (by repeat (first | exact List.Sublist.refl _ | exact List.nil_sublist _ | refine List.Sublist.cons_cons _ ?_ | refine List.Sublist.cons _ ?_ | refine List.Sublist.trans ?_ (List.sublist_append_right _ _))) ?_; simp only [picks, List.getElem?_cons_succ, List.getElem?_cons_zero])
      repeat (first | refine tX rfl rfl ?_ | (refine tS rfl rfl ?_ ?_; focus omega) | (refine tC rfl rfl ?_ ?_; focus (exact ⟨by omega, by omega⟩)) | refine tW rfl rfl ?_ | refine tK rfl rfl ?_ | refine Go.Vt.hq (wl_pickT rfl rfl) rfl rfl ?_ | refine Go.Vt.hq (wl_pickF rfl rfl) rfl rfl ?_)
      repeat (first | refine eS rfl rfl ?_ | refine uP rfl rfl rfl rfl ?_ | refine uQ rfl rfl rfl rfl ?_ | refine eX rfl rfl ?_ | (refine uS rfl rfl ?_ ?_; focus omega) | (refine uC rfl rfl ?_ ?_; focus (exact ⟨hr2, ⟨by omega, by omega⟩, hM, dst_nonneg d⟩)) | refine uW rfl rfl ?_ | refine eF rfl ?_ | refine eT rfl ?_ | (refine eA rfl rfl ?_; intro _) | (refine eB rfl rfl ?_; intro _) | (refine eN rfl rfl ?_ ?_; (focus (exact ⟨hr2, ⟨by omega, by omega⟩, hM, dst_nonneg d⟩)); intro _; simp only [List.cons_append, List.nil_append]) | refine je_nil ?_ | refine tX rfl rfl ?_ | (refine tS rfl rfl ?_ ?_; focus omega) | (refine tC rfl rfl ?_ ?_; focus (exact ⟨hr2, ⟨by omega, by omega⟩, hM, dst_nonneg d⟩)) | refine tW rfl rfl ?_ | refine tK rfl rfl ?_ | refine Go.Vt.hq (wl_pickT rfl rfl) rfl rfl ?_ | refine Go.Vt.hq (wl_pickF rfl rfl) rfl rfl ?_ | refine jh_nil ?_)
      rename_i sj
      obtain ⟨⟨bj, cj, spj⟩, hcj⟩ := sj
      simp only at hcj ⊢
      have hkk : keptL (okd (mv q x y ps ps.length) (dst d * dst d)) ((mv q x y ps ps.length).length - 1) = keptL (okd ps (dst d * dst d)) (ps.length - 1) := by rw [hmlen, hps]; exact kept_mv ws q x y (dst d)
      rw [hkk] at hcj ⊢
      have hkl : (keptL (okd ps (dst d * dst d)) (ps.length - 1)).length ≤ 1099511627776 := by
        rw [hps, kept_ref, ← hps]
        exact Nat.le_trans (bst_len _ _ (by decide) (Nat.zero_le _)) (by omega)
      repeat (first | refine sX rfl rfl ?_ | (refine sS rfl rfl ?_ ?_; focus omega) | (refine sC rfl rfl ?_ ?_; focus (exact hkl)) | refine cX ?_ | refine cY ?_ | (refine sA rfl rfl ?_; intro _) | refine sT rfl ?_ | refine sF rfl ?_ | (refine sR rfl ?_ ?_; focus omega) | (refine sB rfl rfl ?_; intro _) | (refine sN rfl rfl ?_ ?_; (focus (exact hkl)); intro _; simp only [List.cons_append, List.nil_append]) | refine sW rfl rfl ?_ | refine sK rfl rfl ?_ | refine j_if rfl ?_ | refine j_else rfl ?_ | refine Go.Vt.jq (wl_pickT rfl rfl) rfl rfl ?_ | refine Go.Vt.jq (wl_pickF rfl rfl) rfl rfl ?_)
      simp only [decide_eq_true (rfl : keptL (okd ps (dst d * dst d)) (ps.length - 1) = keptL (okd ps (dst d * dst d)) (ps.length - 1))]
      repeat (first | refine sX rfl rfl ?_ | (refine sS rfl rfl ?_ ?_; focus omega) | (refine sC rfl rfl ?_ ?_; focus (first | exact trivial | assumption | exact ⟨by assumption, by assumption⟩ | exact mb2 rfl rfl | exact mb4 rfl rfl rfl rfl)) | refine cX ?_ | refine cY ?_ | (refine sA rfl rfl ?_; intro _) | refine sT rfl ?_ | refine sF rfl ?_ | (refine sR rfl ?_ ?_; focus omega) | (refine sB rfl rfl ?_; intro _) | (refine sN rfl rfl ?_ ?_; (focus (first | exact trivial | assumption | exact ⟨by assumption, by assumption⟩ | exact mb2 rfl rfl | exact mb4 rfl rfl rfl rfl)); intro _; simp only [List.cons_append, List.nil_append]) | refine sW rfl rfl ?_ | refine sK rfl rfl ?_ | refine j_if rfl ?_ | refine j_else rfl ?_ | refine Go.Vt.jq (wl_pickT rfl rfl) rfl rfl ?_ | refine Go.Vt.jq (wl_pickF rfl rfl) rfl rfl ?_)
      exact jx_ret_tmp rfl rfl (fun w hw => ret_ok hw)
end Go.Vt
