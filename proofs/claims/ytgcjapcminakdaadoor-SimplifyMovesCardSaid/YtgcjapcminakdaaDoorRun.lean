/- The runs of the statements: their decoding. Conditions: those that each statement names. -/
import Derived.Test.YtgcjapcminakdaaDoorBest
import Derived.Test.YtgcjapcminakdaaDoorLogicM
set_option linter.unusedSimpArgs false
set_option linter.unusedVariables false
set_option maxRecDepth 100000
namespace Go.Vt
open Go.RowKit Go.Proofs

instance sp_at (t x y : Int) : SpecC Tryd.prog 31 [.int .i64 t, .int .i64 x, .int .i64 y] (vS ⟨(t : Rat), ⟨(x : Rat), (y : Rat)⟩⟩) ((-9223372036854775808 ≤ t ∧ t ≤ 9223372036854775807) ∧ (-9223372036854775808 ≤ x ∧ x ≤ 9223372036854775807) ∧ (-9223372036854775808 ≤ y ∧ y ≤ 9223372036854775807)) := ⟨fun hp w => by
  obtain ⟨h1, h2, h3⟩ := hp
  refine fn_intro Tryd.func31 rfl Tryd.ntmps31 rfl ?_
  repeat (first | refine sX rfl rfl ?_ | (refine sS rfl rfl ?_ ?_; focus omega) | (refine sC rfl rfl ?_ ?_; focus (first | exact trivial | assumption | exact ⟨by assumption, by assumption⟩ | exact mb2 rfl rfl | exact mb4 rfl rfl rfl rfl)) | refine cX ?_ | refine cY ?_ | (refine sA rfl rfl ?_; intro _) | refine sT rfl ?_ | refine sF rfl ?_ | (refine sR rfl ?_ ?_; focus omega) | (refine sB rfl rfl ?_; intro _) | (refine sN rfl rfl ?_ ?_; (focus (first | exact trivial | assumption | exact ⟨by assumption, by assumption⟩ | exact mb2 rfl rfl | exact mb4 rfl rfl rfl rfl)); intro _; simp only [List.cons_append, List.nil_append]) | refine sW rfl rfl ?_ | refine sK rfl rfl ?_ | refine j_if rfl ?_ | refine j_else rfl ?_ | refine Go.Vt.jq (wl_pickT rfl rfl) rfl rfl ?_ | refine Go.Vt.jq (wl_pickF rfl rfl) rfl rfl ?_)
  exact wx_cell rfl rfl (fun w hw => ret_ok hw)⟩
def dst (n : Int) : Rat := Rat.divInt (n % 128) 4
instance sp_distance (n : Int) : SpecC Tryd.prog 10 [.int .u8 n] (vQ (dst n)) (0 ≤ n ∧ n ≤ 255) := ⟨fun hp w => by
  refine fn_intro Tryd.func10 rfl Tryd.ntmps10 rfl ?_
  repeat (first | refine sX rfl rfl ?_ | (refine sS rfl rfl ?_ ?_; focus omega) | (refine sC rfl rfl ?_ ?_; focus (exact ⟨⟨by omega, by omega⟩, ⟨by omega, by omega⟩⟩)) | refine cX ?_ | refine cY ?_ | (refine sA rfl rfl ?_; intro _) | refine sT rfl ?_ | refine sF rfl ?_ | (refine sR rfl ?_ ?_; focus omega) | (refine sB rfl rfl ?_; intro _) | (refine sN rfl rfl ?_ ?_; (focus (exact ⟨⟨by omega, by omega⟩, ⟨by omega, by omega⟩⟩)); intro _; simp only [List.cons_append, List.nil_append]) | refine sW rfl rfl ?_ | refine sK rfl rfl ?_ | refine j_if rfl ?_ | refine j_else rfl ?_ | refine Go.Vt.jq (wl_pickT rfl rfl) rfl rfl ?_ | refine Go.Vt.jq (wl_pickF rfl rfl) rfl rfl ?_)
  exact wx_cell rfl rfl (fun w hw => ret_ok hw)⟩

/-! ### A run -/
abbrev WStep := st_Time_X_Y
/-- The first 'm' breakpoints, and the time behind them. -/
def pA (ws : List WStep) : Nat → List R_movingpoint_Sample × Rat
  | 0 => ([], 0)
  | m + 1 => ((pA ws m).1 ++ [⟨(pA ws m).2 + Rat.divInt (1 + (gi ws (m : Int)).Time % 8) 2, ⟨(((gi ws (m : Int)).X % 32 : Int) : Rat), (((gi ws (m : Int)).Y % 32 : Int) : Rat)⟩⟩], (pA ws m).2 + Rat.divInt (1 + (gi ws (m : Int)).Time % 8) 2)
def ptsW (ws : List WStep) : List R_movingpoint_Sample := if ws.length = 0 then [⟨((3 : Int) : Rat), ⟨((5 : Int) : Rat), ((7 : Int) : Rat)⟩⟩] else (pA ws (min ws.length 7)).1
/-- The numbers of a way are bytes. -/
def WOk (ws : List WStep) : Prop := ∀ i : Int, (0 ≤ (gi ws i).Time ∧ (gi ws i).Time ≤ 255) ∧ (0 ≤ (gi ws i).X ∧ (gi ws i).X ≤ 255) ∧ (0 ≤ (gi ws i).Y ∧ (gi ws i).Y ≤ 255)
theorem pA_len (ws : List WStep) : ∀ m, (pA ws m).1.length = m
  | 0 => rfl
  | m + 1 => by rw [pA, List.length_append, pA_len ws m]; rfl
theorem M_half (n : Int) (h : 0 ≤ n ∧ n ≤ 255) : M (Rat.divInt n 2) ≤ 1 := M_divInt (mg_small (by omega)) (by decide) (Nat.le_refl _)
theorem pA_time (ws : List WStep) : ∀ m, M (pA ws m).2 ≤ 2 * m + 1
  | 0 => mb_zero.out
  | m + 1 => by
    have h1 := pA_time ws m
    have h2 := M_half (1 + (gi ws (m : Int)).Time % 8) (by omega)
    have h3 := M_add (pA ws m).2 (Rat.divInt (1 + (gi ws (m : Int)).Time % 8) 2)
    simp only [pA]
    omega
def runI (ps : List R_movingpoint_Sample) (op : Int) : R_api_Interval := ⟨⟨(gi ps 0).T, 0, false⟩, ⟨(gi ps ((ps.length : Int) - 1)).T, 0, false⟩, decide (1 < ps.length) && decide (op % 2 = 1), decide (1 < ps.length) && decide (2 ≤ op % 4)⟩
theorem Upd.app {b : Nat} {cs cs' : Array Value} {T : TypeId} {L L' : List Blk} (h : Upd b cs T cs' L L') : ∀ A : List Blk, Upd b cs T cs' (A ++ L) (A ++ L')
  | [] => h
  | _ :: A => (h.app A).there
instance (priority := low) updSkip (b : Nat) (cs' : Array Value) (A L L' : List Blk) (cs : Array Value) (T : TypeId) [h : UpdC b cs' L cs T L'] : UpdC b cs' (A ++ L) cs T (A ++ L') := ⟨h.out.app A⟩
/-- The header of a slice that grows, and its block. -/
def hSl (n : Nat) : Option (Nat × Nat × List Value) → Sl
  | none => ⟨none, 0, 0⟩
  | some s => ⟨some ⟨s.1, 0, none⟩, n, s.2.1⟩
def mSl (T : TypeId) (ps : List R_movingpoint_Sample) : Option (Nat × Nat × List Value) → List Blk
  | none => []
  | some s => [⟨s.1, row rS ps s.2.2, T⟩]
theorem ArgS.form {α : Type} {w0 : World} {v : Value} {enc : α → Array Value} {xs : List α} (h : ArgS w0 v enc xs) : ∃ p c, v = .slice p xs.length c := by
  rcases h.out with ⟨h1, h2⟩ | ⟨a, c, h1, _⟩
  · subst h2
    exact ⟨none, 0, h1⟩
  · exact ⟨some a, c, h1⟩
theorem run_spec (v : Value) (ws : List WStep) (op : Int) (hop : 0 ≤ op ∧ op ≤ 255) (hws : WOk ws) (w : World) (hv : ArgS w v e_st_Time_X_Y ws) (hlen : ws.length ≤ 9223372036854775807) :
    Calls Tryd.prog 8 [v, .int .u8 op].toArray w (RetM { s : Nat × Nat × List Value // (ptsW ws).length ≤ s.2.1 } (fun s => vRun (runI (ptsW ws) op) s.1.1 (ptsW ws).length s.1.2.1) (fun s => [⟨s.1.1, row rS (ptsW ws) s.1.2.2, 52⟩]) w) := by
  refine fn_intro Tryd.func8 rfl Tryd.ntmps8 rfl ?_
  repeat (first | refine sX rfl rfl ?_ | (refine sS rfl rfl ?_ ?_; focus omega) | (refine sC rfl rfl ?_ ?_; focus (exact ⟨by omega, by omega⟩)) | refine cX ?_ | refine cY ?_ | (refine sA rfl rfl ?_; intro _) | refine sT rfl ?_ | refine sF rfl ?_ | (refine sR rfl ?_ ?_; focus omega) | (refine sB rfl rfl ?_; intro _) | (refine sN rfl rfl ?_ ?_; (focus (exact ⟨by omega, by omega⟩)); intro _; simp only [List.cons_append, List.nil_append]) | refine sW rfl rfl ?_ | refine sK rfl rfl ?_ | refine j_if rfl ?_ | refine j_else rfl ?_ | refine Go.Vt.jq (wl_pickT rfl rfl) rfl rfl ?_ | refine Go.Vt.jq (wl_pickF rfl rfl) rfl rfl ?_)
  rename_i b4 b5 b6
  obtain ⟨p, cp, rfl⟩ := hv.form
  refine j_loop (S := Nat × Option (Nat × Nat × List Value)) (fun s => s.1 ≤ ws.length ∧ s.1 ≤ 7 ∧ (s.2 = none ↔ s.1 = 0) ∧ ∀ t, s.2 = some t → s.1 ≤ t.2.1 ∧ t.2.2.length = (t.2.1 - s.1) * 12) (fun s => [(0, .slice p ws.length cp), (1, .int .u8 op), (4, .pointer (some ⟨b4, 0, none⟩)), (5, .pointer (some ⟨b5, 0, none⟩)), (6, .pointer (some ⟨b6, 0, none⟩)), (7, .int .i64 (s.1 : Nat))])
    (fun s => mSl 52 (pA ws s.1).1 s.2 ++ [⟨b6, e_api_Rat (Q (pA ws s.1).2), 28⟩, ⟨b5, e_simplify_Run (q_simplify_Run ⟨zR_api_Interval, hSl (pA ws s.1).1.length s.2⟩), 35⟩, ⟨b4, e_simplify_Run (q_simplify_Run zR_simplify_Run), 35⟩]) (fun s => 7 - s.1) (0, none)
    ⟨Nat.zero_le _, Nat.zero_le _, by simp, by simp⟩ (by repeat (first | exact sub_nil | refine sub_cons rfl ?_ | refine sub_cons' rfl (by congr 1; omega) ?_)) (by repeat (first | exact List.Sublist.refl _ | exact List.nil_sublist _ | refine List.Sublist.cons_cons _ ?_ | refine List.Sublist.cons _ ?_)) (fun s hs => ?_)
  obtain ⟨m, og⟩ := s
  obtain ⟨hm1, hm7, hog, hogs⟩ := hs
  simp only at hm1 hm7 hog hogs ⊢
  refine cX ?_
  refine j_mid (S := Bool) (fun v => v = decide (m < ws.length ∧ m < 7)) (fun v => [(19, .bool v), (0, .slice p ws.length cp), (1, .int .u8 op), (4, .pointer (some ⟨b4, 0, none⟩)), (5, .pointer (some ⟨b5, 0, none⟩)), (6, .pointer (some ⟨b6, 0, none⟩)), (7, .int .i64 (m : Nat))])
    (fun _ => mSl 52 (pA ws m).1 og ++ [⟨b6, e_api_Rat (Q (pA ws m).2), 28⟩, ⟨b5, e_simplify_Run (q_simplify_Run ⟨zR_api_Interval, hSl (pA ws m).1.length og⟩), 35⟩, ⟨b4, e_simplify_Run (q_simplify_Run zR_simplify_Run), 35⟩]) ?_ (fun v hv2 => ?_)
  · repeat (first | refine sX rfl rfl ?_ | (refine sS rfl rfl ?_ ?_; focus omega) | (refine sC rfl rfl ?_ ?_; focus (first | exact trivial | assumption | exact ⟨by assumption, by assumption⟩ | exact mb2 rfl rfl | exact mb4 rfl rfl rfl rfl)) | refine cX ?_ | refine cY ?_ | (refine sA rfl rfl ?_; intro _) | refine sT rfl ?_ | refine sF rfl ?_ | (refine sR rfl ?_ ?_; focus omega) | (refine sB rfl rfl ?_; intro _) | (refine sN rfl rfl ?_ ?_; (focus (first | exact trivial | assumption | exact ⟨by assumption, by assumption⟩ | exact mb2 rfl rfl | exact mb4 rfl rfl rfl rfl)); intro _; simp only [List.cons_append, List.nil_append]) | refine sW rfl rfl ?_ | refine sK rfl rfl ?_ | refine j_if rfl ?_ | refine j_else rfl ?_ | refine Go.Vt.jq (wl_pickT rfl rfl) rfl rfl ?_ | refine Go.Vt.jq (wl_pickF rfl rfl) rfl rfl ?_)
    by_cases h1 : (m : Int) < (ws.length : Int)
    · simp only [decide_eq_true h1]
      repeat (first | refine sX rfl rfl ?_ | (refine sS rfl rfl ?_ ?_; focus omega) | (refine sC rfl rfl ?_ ?_; focus (first | exact trivial | assumption | exact ⟨by assumption, by assumption⟩ | exact mb2 rfl rfl | exact mb4 rfl rfl rfl rfl)) | refine cX ?_ | refine cY ?_ | (refine sA rfl rfl ?_; intro _) | refine sT rfl ?_ | refine sF rfl ?_ | (refine sR rfl ?_ ?_; focus omega) | (refine sB rfl rfl ?_; intro _) | (refine sN rfl rfl ?_ ?_; (focus (first | exact trivial | assumption | exact ⟨by assumption, by assumption⟩ | exact mb2 rfl rfl | exact mb4 rfl rfl rfl rfl)); intro _; simp only [List.cons_append, List.nil_append]) | refine sW rfl rfl ?_ | refine sK rfl rfl ?_ | refine j_if rfl ?_ | refine j_else rfl ?_ | refine Go.Vt.jq (wl_pickT rfl rfl) rfl rfl ?_ | refine Go.Vt.jq (wl_pickF rfl rfl) rfl rfl ?_)
      exact jx_mid (decide ((m : Int) < 7)) (by rw [decide_eq_decide]; omega) (by repeat (first | exact sub_nil | refine sub_cons rfl ?_ | refine sub_cons' rfl (by congr 1; omega) ?_)) (by repeat (first | exact List.Sublist.refl _ | exact List.nil_sublist _ | refine List.Sublist.cons_cons _ ?_ | refine List.Sublist.cons _ ?_))
    · simp only [decide_eq_false h1]
      repeat (first | refine sX rfl rfl ?_ | (refine sS rfl rfl ?_ ?_; focus omega) | (refine sC rfl rfl ?_ ?_; focus (first | exact trivial | assumption | exact ⟨by assumption, by assumption⟩ | exact mb2 rfl rfl | exact mb4 rfl rfl rfl rfl)) | refine cX ?_ | refine cY ?_ | (refine sA rfl rfl ?_; intro _) | refine sT rfl ?_ | refine sF rfl ?_ | (refine sR rfl ?_ ?_; focus omega) | (refine sB rfl rfl ?_; intro _) | (refine sN rfl rfl ?_ ?_; (focus (first | exact trivial | assumption | exact ⟨by assumption, by assumption⟩ | exact mb2 rfl rfl | exact mb4 rfl rfl rfl rfl)); intro _; simp only [List.cons_append, List.nil_append]) | refine sW rfl rfl ?_ | refine sK rfl rfl ?_ | refine j_if rfl ?_ | refine j_else rfl ?_ | refine Go.Vt.jq (wl_pickT rfl rfl) rfl rfl ?_ | refine Go.Vt.jq (wl_pickF rfl rfl) rfl rfl ?_)
      exact jx_mid false (by rw [eq_comm, decide_eq_false_iff_not]; omega) (by repeat (first | exact sub_nil | refine sub_cons rfl ?_ | refine sub_cons' rfl (by congr 1; omega) ?_)) (by repeat (first | exact List.Sublist.refl _ | exact List.nil_sublist _ | refine List.Sublist.cons_cons _ ?_ | refine List.Sublist.cons _ ?_))
  by_cases hend : m < ws.length ∧ m < 7
  · rw [decide_eq_true hend] at hv2
    subst hv2
    obtain ⟨hend1, hend2⟩ := hend
    have hne : ws ≠ [] := fun h0 => by rw [h0] at hend1; simp at hend1
    obtain ⟨bw, ow, cw, hvw, hcw, hrow⟩ := hv.blk (k := 2) hne []
    injection hvw with e1 e2 e3
    subst e1
    subst e3
    have hrow' : ∀ L, RowC w L bw ow WStep e_st_Time_X_Y ws := fun L => ⟨fun w' hw' => hrow.out w' (hw'.sub (List.nil_sublist _))⟩
    have hb := hws (m : Int)
    obtain ⟨x, hx⟩ : ∃ x, x = gi ws (m : Int) := ⟨_, rfl⟩
    have hpl := pA_len ws m
    have ht := Nat.le_trans (pA_time ws m) (show 2 * m + 1 ≤ 100 by omega)
    have hh := M_half (1 + (gi ws (m : Int)).Time % 8) (by omega)
    have htt : M (pA ws m).2 ≤ LQ ∧ M (Rat.divInt (1 + (gi ws (m : Int)).Time % 8) 2) ≤ LQ := ⟨Nat.le_trans ht (by decide), Nat.le_trans hh (by decide)⟩
    have epA : pA ws (m + 1) = ((pA ws m).1 ++ [⟨(pA ws m).2 + Rat.divInt (1 + (gi ws (m : Int)).Time % 8) 2, ⟨(((gi ws (m : Int)).X % 32 : Int) : Rat), (((gi ws (m : Int)).Y % 32 : Int) : Rat)⟩⟩], (pA ws m).2 + Rat.divInt (1 + (gi ws (m : Int)).Time % 8) 2) := rfl
    have elen : (pA ws m).1.length + 1 = (pA ws (m + 1)).1.length := by rw [pA_len, pA_len]
    rcases og with _ | ⟨bo, co, so⟩
    · have hm0 := hog.1 rfl
      simp only [mSl, hSl, List.nil_append]
      repeat (first | refine sX rfl rfl ?_ | (refine sS rfl rfl ?_ ?_; focus omega) | (refine sC rfl rfl ?_ ?_; focus (first | exact htt | exact ⟨⟨by omega, by omega⟩, ⟨by omega, by omega⟩⟩)) | refine cX ?_ | refine cY ?_ | (refine sA rfl rfl ?_; intro _) | refine sT rfl ?_ | refine sF rfl ?_ | (refine sR rfl ?_ ?_; focus omega) | (refine sB rfl rfl ?_; intro _) | (refine sN rfl rfl ?_ ?_; (focus (first | exact htt | exact ⟨⟨by omega, by omega⟩, ⟨by omega, by omega⟩⟩)); intro _; simp only [List.cons_append, List.nil_append]) | refine sW rfl rfl ?_ | refine sK rfl rfl ?_ | refine j_if rfl ?_ | refine j_else rfl ?_ | refine Go.Vt.jq (wl_pickT rfl rfl) rfl rfl ?_ | refine Go.Vt.jq (wl_pickF rfl rfl) rfl rfl ?_)
      (refine j_late2 [0, 1, 2, 3, 4, 5, 6, 7, 8, 9, 10, 11, 12, 13, 14, 15, 16, 17, 18] [19, 20] [21, 22] ([⟨b6, e_api_Rat (Q ((pA ws m).2 + Rat.divInt (1 + (gi ws (m : Int)).Time % 8) 2)), 28⟩, ⟨b5, e_simplify_Run (q_simplify_Run ⟨zR_api_Interval, ⟨none, 0, 0⟩⟩), 35⟩]) mixed (by kernel_rfl) (by kernel_rfl) (by decide) (by decide) (by repeat (first | exact List.Sublist.refl _ | exact List.nil_sublist _ | refine List.Sublist.cons_cons _ ?_ | refine List.Sublist.cons _ ?_ | refine List.Sublist.trans ?_ (List.sublist_append_right _ _))) ?_; simp only [picks, List.getElem?_cons_succ, List.getElem?_cons_zero])
      repeat (first | refine tX rfl rfl ?_ | (refine tS rfl rfl ?_ ?_; focus omega) | (refine tC rfl rfl ?_ ?_; focus (exact ⟨⟨by omega, by omega⟩, ⟨by omega, by omega⟩⟩)) | refine tW rfl rfl ?_ | refine tK rfl rfl ?_ | refine Go.Vt.hq (wl_pickT rfl rfl) rfl rfl ?_ | refine Go.Vt.hq (wl_pickF rfl rfl) rfl rfl ?_)
      refine jh_nil ?_
      refine eB rfl rfl ?_
      intro bN
      refine eP0 rfl rfl ?_ rfl ?_ ?_
      · rfl
      · exact ⟨by omega, by omega, by omega⟩
      intro b' c' sp' h1 h2
      refine eX rfl rfl ?_
      refine eF rfl ?_
      refine je_nil ?_
      subst hm0
      repeat (first | refine sX rfl rfl ?_ | (refine sS rfl rfl ?_ ?_; focus omega) | (refine sC rfl rfl ?_ ?_; focus (exact ⟨by omega, by omega⟩)) | refine cX ?_ | refine cY ?_ | (refine sA rfl rfl ?_; intro _) | refine sT rfl ?_ | refine sF rfl ?_ | (refine sR rfl ?_ ?_; focus omega) | (refine sB rfl rfl ?_; intro _) | (refine sN rfl rfl ?_ ?_; (focus (exact ⟨by omega, by omega⟩)); intro _; simp only [List.cons_append, List.nil_append]) | refine sW rfl rfl ?_ | refine sK rfl rfl ?_ | refine j_if rfl ?_ | refine j_else rfl ?_ | refine Go.Vt.jq (wl_pickT rfl rfl) rfl rfl ?_ | refine Go.Vt.jq (wl_pickF rfl rfl) rfl rfl ?_)
      exact jx_loop (1, some (b', c', sp')) ⟨by omega, by omega, by simp, fun t ht => by injection ht with ht; subst ht; exact ⟨h1, h2⟩⟩ (by repeat (first | exact sub_nil | refine sub_cons rfl ?_ | refine sub_cons' rfl (by congr 1; omega) ?_)) (by simp only [mSl, hSl, List.cons_append, List.nil_append]; exact (by repeat (first | exact List.Sublist.refl _ | exact List.nil_sublist _ | refine List.Sublist.cons_cons _ ?_ | refine List.Sublist.cons _ ?_))) (by show 7 - 1 < 7 - 0; decide)
    · have hsp := hogs _ rfl
      simp only [mSl, hSl, List.cons_append, List.nil_append] at hsp ⊢
      repeat (first | refine sX rfl rfl ?_ | (refine sS rfl rfl ?_ ?_; focus omega) | (refine sC rfl rfl ?_ ?_; focus (first | exact htt | exact ⟨⟨by omega, by omega⟩, ⟨by omega, by omega⟩⟩)) | refine cX ?_ | refine cY ?_ | (refine sA rfl rfl ?_; intro _) | refine sT rfl ?_ | refine sF rfl ?_ | (refine sR rfl ?_ ?_; focus omega) | (refine sB rfl rfl ?_; intro _) | (refine sN rfl rfl ?_ ?_; (focus (first | exact htt | exact ⟨⟨by omega, by omega⟩, ⟨by omega, by omega⟩⟩)); intro _; simp only [List.cons_append, List.nil_append]) | refine sW rfl rfl ?_ | refine sK rfl rfl ?_ | refine j_if rfl ?_ | refine j_else rfl ?_ | refine Go.Vt.jq (wl_pickT rfl rfl) rfl rfl ?_ | refine Go.Vt.jq (wl_pickF rfl rfl) rfl rfl ?_)
      (refine j_late2 [0, 1, 2, 3, 4, 5, 6, 7, 8, 9, 10, 11, 12, 13, 14, 15, 16, 17, 18] [19, 20] [21, 22] ([⟨b6, e_api_Rat (Q ((pA ws m).2 + Rat.divInt (1 + (gi ws (m : Int)).Time % 8) 2)), 28⟩, ⟨b5, e_simplify_Run (q_simplify_Run ⟨zR_api_Interval, ⟨some ⟨bo, 0, none⟩, (pA ws m).1.length, co⟩⟩), 35⟩]) mixed (by kernel_rfl) (by kernel_rfl) (by decide) (by decide) (by repeat (first | exact List.Sublist.refl _ | exact List.nil_sublist _ | refine List.Sublist.cons_cons _ ?_ | refine List.Sublist.cons _ ?_ | refine List.Sublist.trans ?_ (List.sublist_append_right _ _))) ?_; simp only [picks, List.getElem?_cons_succ, List.getElem?_cons_zero])
      repeat (first | refine tX rfl rfl ?_ | (refine tS rfl rfl ?_ ?_; focus omega) | (refine tC rfl rfl ?_ ?_; focus (exact ⟨⟨by omega, by omega⟩, ⟨by omega, by omega⟩⟩)) | refine tW rfl rfl ?_ | refine tK rfl rfl ?_ | refine Go.Vt.hq (wl_pickT rfl rfl) rfl rfl ?_ | refine Go.Vt.hq (wl_pickF rfl rfl) rfl rfl ?_)
      refine jh_nil ?_
      refine eB rfl rfl ?_
      intro bN
      refine eP rfl rfl ?_ ?_ ?_ ?_ ?_
      · rfl
      · rw [hpl]; exact hsp
      · rfl
      · exact ⟨by omega, by omega⟩
      intro b' c' sp' h1 h2
      rw [elen]
      refine eX rfl rfl ?_
      refine eF rfl ?_
      refine je_nil ?_
      repeat (first | refine sX rfl rfl ?_ | (refine sS rfl rfl ?_ ?_; focus omega) | (refine sC rfl rfl ?_ ?_; focus (exact ⟨by omega, by omega⟩)) | refine cX ?_ | refine cY ?_ | (refine sA rfl rfl ?_; intro _) | refine sT rfl ?_ | refine sF rfl ?_ | (refine sR rfl ?_ ?_; focus omega) | (refine sB rfl rfl ?_; intro _) | (refine sN rfl rfl ?_ ?_; (focus (exact ⟨by omega, by omega⟩)); intro _; simp only [List.cons_append, List.nil_append]) | refine sW rfl rfl ?_ | refine sK rfl rfl ?_ | refine j_if rfl ?_ | refine j_else rfl ?_ | refine Go.Vt.jq (wl_pickT rfl rfl) rfl rfl ?_ | refine Go.Vt.jq (wl_pickF rfl rfl) rfl rfl ?_)
      exact jx_loop (m + 1, some (b', c', sp')) ⟨by omega, by omega, by simp, fun t ht => by injection ht with ht; subst ht; rw [hpl] at h1 h2; exact ⟨h1, h2⟩⟩ (by repeat (first | exact sub_nil | refine sub_cons rfl ?_ | refine sub_cons' rfl (by congr 1; omega) ?_)) (by simp only [mSl, hSl, List.cons_append, List.nil_append]; exact (by repeat (first | exact List.Sublist.refl _ | exact List.nil_sublist _ | refine List.Sublist.cons_cons _ ?_ | refine List.Sublist.cons _ ?_))) (by show 7 - (m + 1) < 7 - m; omega)
  · rw [decide_eq_false hend] at hv2
    subst hv2
    have hmin : min ws.length 7 = m := by omega
    (first | refine sX rfl rfl ?_ | (refine sS rfl rfl ?_ ?_; focus omega) | (refine sC rfl rfl ?_ ?_; focus (first | exact trivial | assumption | exact ⟨by assumption, by assumption⟩ | exact mb2 rfl rfl | exact mb4 rfl rfl rfl rfl)) | refine cX ?_ | refine cY ?_ | (refine sA rfl rfl ?_; intro _) | refine sT rfl ?_ | refine sF rfl ?_ | (refine sR rfl ?_ ?_; focus omega) | (refine sB rfl rfl ?_; intro _) | (refine sN rfl rfl ?_ ?_; (focus (first | exact trivial | assumption | exact ⟨by assumption, by assumption⟩ | exact mb2 rfl rfl | exact mb4 rfl rfl rfl rfl)); intro _; simp only [List.cons_append, List.nil_append]) | refine sW rfl rfl ?_ | refine sK rfl rfl ?_ | refine j_if rfl ?_ | refine j_else rfl ?_ | refine Go.Vt.jq (wl_pickT rfl rfl) rfl rfl ?_ | refine Go.Vt.jq (wl_pickF rfl rfl) rfl rfl ?_)
    (first | refine sX rfl rfl ?_ | (refine sS rfl rfl ?_ ?_; focus omega) | (refine sC rfl rfl ?_ ?_; focus (first | exact trivial | assumption | exact ⟨by assumption, by assumption⟩ | exact mb2 rfl rfl | exact mb4 rfl rfl rfl rfl)) | refine cX ?_ | refine cY ?_ | (refine sA rfl rfl ?_; intro _) | refine sT rfl ?_ | refine sF rfl ?_ | (refine sR rfl ?_ ?_; focus omega) | (refine sB rfl rfl ?_; intro _) | (refine sN rfl rfl ?_ ?_; (focus (first | exact trivial | assumption | exact ⟨by assumption, by assumption⟩ | exact mb2 rfl rfl | exact mb4 rfl rfl rfl rfl)); intro _; simp only [List.cons_append, List.nil_append]) | refine sW rfl rfl ?_ | refine sK rfl rfl ?_ | refine j_if rfl ?_ | refine j_else rfl ?_ | refine Go.Vt.jq (wl_pickT rfl rfl) rfl rfl ?_ | refine Go.Vt.jq (wl_pickF rfl rfl) rfl rfl ?_)
    (first | refine sX rfl rfl ?_ | (refine sS rfl rfl ?_ ?_; focus omega) | (refine sC rfl rfl ?_ ?_; focus (first | exact trivial | assumption | exact ⟨by assumption, by assumption⟩ | exact mb2 rfl rfl | exact mb4 rfl rfl rfl rfl)) | refine cX ?_ | refine cY ?_ | (refine sA rfl rfl ?_; intro _) | refine sT rfl ?_ | refine sF rfl ?_ | (refine sR rfl ?_ ?_; focus omega) | (refine sB rfl rfl ?_; intro _) | (refine sN rfl rfl ?_ ?_; (focus (first | exact trivial | assumption | exact ⟨by assumption, by assumption⟩ | exact mb2 rfl rfl | exact mb4 rfl rfl rfl rfl)); intro _; simp only [List.cons_append, List.nil_append]) | refine sW rfl rfl ?_ | refine sK rfl rfl ?_ | refine j_if rfl ?_ | refine j_else rfl ?_ | refine Go.Vt.jq (wl_pickT rfl rfl) rfl rfl ?_ | refine Go.Vt.jq (wl_pickF rfl rfl) rfl rfl ?_)
    (first | refine sX rfl rfl ?_ | (refine sS rfl rfl ?_ ?_; focus omega) | (refine sC rfl rfl ?_ ?_; focus (first | exact trivial | assumption | exact ⟨by assumption, by assumption⟩ | exact mb2 rfl rfl | exact mb4 rfl rfl rfl rfl)) | refine cX ?_ | refine cY ?_ | (refine sA rfl rfl ?_; intro _) | refine sT rfl ?_ | refine sF rfl ?_ | (refine sR rfl ?_ ?_; focus omega) | (refine sB rfl rfl ?_; intro _) | (refine sN rfl rfl ?_ ?_; (focus (first | exact trivial | assumption | exact ⟨by assumption, by assumption⟩ | exact mb2 rfl rfl | exact mb4 rfl rfl rfl rfl)); intro _; simp only [List.cons_append, List.nil_append]) | refine sW rfl rfl ?_ | refine sK rfl rfl ?_ | refine j_if rfl ?_ | refine j_else rfl ?_ | refine Go.Vt.jq (wl_pickT rfl rfl) rfl rfl ?_ | refine Go.Vt.jq (wl_pickF rfl rfl) rfl rfl ?_)
    (first | refine sX rfl rfl ?_ | (refine sS rfl rfl ?_ ?_; focus omega) | (refine sC rfl rfl ?_ ?_; focus (first | exact trivial | assumption | exact ⟨by assumption, by assumption⟩ | exact mb2 rfl rfl | exact mb4 rfl rfl rfl rfl)) | refine cX ?_ | refine cY ?_ | (refine sA rfl rfl ?_; intro _) | refine sT rfl ?_ | refine sF rfl ?_ | (refine sR rfl ?_ ?_; focus omega) | (refine sB rfl rfl ?_; intro _) | (refine sN rfl rfl ?_ ?_; (focus (first | exact trivial | assumption | exact ⟨by assumption, by assumption⟩ | exact mb2 rfl rfl | exact mb4 rfl rfl rfl rfl)); intro _; simp only [List.cons_append, List.nil_append]) | refine sW rfl rfl ?_ | refine sK rfl rfl ?_ | refine j_if rfl ?_ | refine j_else rfl ?_ | refine Go.Vt.jq (wl_pickT rfl rfl) rfl rfl ?_ | refine Go.Vt.jq (wl_pickF rfl rfl) rfl rfl ?_)
    (first | refine sX rfl rfl ?_ | (refine sS rfl rfl ?_ ?_; focus omega) | (refine sC rfl rfl ?_ ?_; focus (first | exact trivial | assumption | exact ⟨by assumption, by assumption⟩ | exact mb2 rfl rfl | exact mb4 rfl rfl rfl rfl)) | refine cX ?_ | refine cY ?_ | (refine sA rfl rfl ?_; intro _) | refine sT rfl ?_ | refine sF rfl ?_ | (refine sR rfl ?_ ?_; focus omega) | (refine sB rfl rfl ?_; intro _) | (refine sN rfl rfl ?_ ?_; (focus (first | exact trivial | assumption | exact ⟨by assumption, by assumption⟩ | exact mb2 rfl rfl | exact mb4 rfl rfl rfl rfl)); intro _; simp only [List.cons_append, List.nil_append]) | refine sW rfl rfl ?_ | refine sK rfl rfl ?_ | refine j_if rfl ?_ | refine j_else rfl ?_ | refine Go.Vt.jq (wl_pickT rfl rfl) rfl rfl ?_ | refine Go.Vt.jq (wl_pickF rfl rfl) rfl rfl ?_)
    refine j_mid (S := Nat × Nat × List Value) (fun s => (ptsW ws).length ≤ s.2.1) (fun s => [(1, .int .u8 op), (4, .pointer (some ⟨b4, 0, none⟩)), (5, .pointer (some ⟨b5, 0, none⟩))])
      (fun s => [⟨s.1, row rS (ptsW ws) s.2.2, 52⟩, ⟨b5, e_simplify_Run (q_simplify_Run ⟨zR_api_Interval, ⟨some ⟨s.1, 0, none⟩, (ptsW ws).length, s.2.1⟩⟩), 35⟩, ⟨b4, e_simplify_Run (q_simplify_Run zR_simplify_Run), 35⟩]) ?_ (fun s hs => ?_)
    · rcases og with _ | ⟨bo, co, so⟩
      · have hm0 := hog.1 rfl
        subst hm0
        have hp : ptsW ws = [⟨((3 : Int) : Rat), ⟨((5 : Int) : Rat), ((7 : Int) : Rat)⟩⟩] := if_pos (by omega)
        rw [hp]
        simp only [mSl, hSl, List.nil_append]
        repeat (first | refine sX rfl rfl ?_ | (refine sS rfl rfl ?_ ?_; focus omega) | (refine sC rfl rfl ?_ ?_; focus (first | exact trivial | assumption | exact ⟨by assumption, by assumption⟩ | exact mb2 rfl rfl | exact mb4 rfl rfl rfl rfl)) | refine cX ?_ | refine cY ?_ | (refine sA rfl rfl ?_; intro _) | refine sT rfl ?_ | refine sF rfl ?_ | (refine sR rfl ?_ ?_; focus omega) | (refine sB rfl rfl ?_; intro _) | (refine sN rfl rfl ?_ ?_; (focus (first | exact trivial | assumption | exact ⟨by assumption, by assumption⟩ | exact mb2 rfl rfl | exact mb4 rfl rfl rfl rfl)); intro _; simp only [List.cons_append, List.nil_append]) | refine sW rfl rfl ?_ | refine sK rfl rfl ?_ | refine j_if rfl ?_ | refine j_else rfl ?_ | refine Go.Vt.jq (wl_pickT rfl rfl) rfl rfl ?_ | refine Go.Vt.jq (wl_pickF rfl rfl) rfl rfl ?_)
        simp only [decide_eq_true (show ((0 : Nat) : Int) = 0 from rfl)]
        repeat (first | refine sX rfl rfl ?_ | (refine sS rfl rfl ?_ ?_; focus omega) | (refine sC rfl rfl ?_ ?_; focus (first | exact trivial | assumption | exact ⟨by assumption, by assumption⟩ | exact mb2 rfl rfl | exact mb4 rfl rfl rfl rfl)) | refine cX ?_ | refine cY ?_ | (refine sA rfl rfl ?_; intro _) | refine sT rfl ?_ | refine sF rfl ?_ | (refine sR rfl ?_ ?_; focus omega) | (refine sB rfl rfl ?_; intro _) | (refine sN rfl rfl ?_ ?_; (focus (first | exact trivial | assumption | exact ⟨by assumption, by assumption⟩ | exact mb2 rfl rfl | exact mb4 rfl rfl rfl rfl)); intro _; simp only [List.cons_append, List.nil_append]) | refine sW rfl rfl ?_ | refine sK rfl rfl ?_ | refine j_if rfl ?_ | refine j_else rfl ?_ | refine Go.Vt.jq (wl_pickT rfl rfl) rfl rfl ?_ | refine Go.Vt.jq (wl_pickF rfl rfl) rfl rfl ?_)
        repeat (first | refine sX rfl rfl ?_ | (refine sS rfl rfl ?_ ?_; focus omega) | (refine sC rfl rfl ?_ ?_; focus (exact ⟨⟨by omega, by omega⟩, ⟨by omega, by omega⟩, ⟨by omega, by omega⟩⟩)) | refine cX ?_ | refine cY ?_ | (refine sA rfl rfl ?_; intro _) | refine sT rfl ?_ | refine sF rfl ?_ | (refine sR rfl ?_ ?_; focus omega) | (refine sB rfl rfl ?_; intro _) | (refine sN rfl rfl ?_ ?_; (focus (exact ⟨⟨by omega, by omega⟩, ⟨by omega, by omega⟩, ⟨by omega, by omega⟩⟩)); intro _; simp only [List.cons_append, List.nil_append]) | refine sW rfl rfl ?_ | refine sK rfl rfl ?_ | refine j_if rfl ?_ | refine j_else rfl ?_ | refine Go.Vt.jq (wl_pickT rfl rfl) rfl rfl ?_ | refine Go.Vt.jq (wl_pickF rfl rfl) rfl rfl ?_)
        rename_i bN
        exact jx_mid (bN, 1, []) (Nat.le_refl 1) (by repeat (first | exact sub_nil | refine sub_cons rfl ?_ | refine sub_cons' rfl (by congr 1; omega) ?_)) (by repeat (first | exact List.Sublist.refl _ | exact List.nil_sublist _ | refine List.Sublist.cons_cons _ ?_ | refine List.Sublist.cons _ ?_))
      · have hm0 : m ≠ 0 := fun h => by cases hog.2 h
        have hsp := hogs _ rfl
        have hp : ptsW ws = (pA ws m).1 := by rw [ptsW, if_neg (by omega), hmin]
        have hpl := pA_len ws m
        rw [hp]
        simp only [mSl, hSl, List.cons_append, List.nil_append]
        repeat (first | refine sX rfl rfl ?_ | (refine sS rfl rfl ?_ ?_; focus omega) | (refine sC rfl rfl ?_ ?_; focus (first | exact trivial | assumption | exact ⟨by assumption, by assumption⟩ | exact mb2 rfl rfl | exact mb4 rfl rfl rfl rfl)) | refine cX ?_ | refine cY ?_ | (refine sA rfl rfl ?_; intro _) | refine sT rfl ?_ | refine sF rfl ?_ | (refine sR rfl ?_ ?_; focus omega) | (refine sB rfl rfl ?_; intro _) | (refine sN rfl rfl ?_ ?_; (focus (first | exact trivial | assumption | exact ⟨by assumption, by assumption⟩ | exact mb2 rfl rfl | exact mb4 rfl rfl rfl rfl)); intro _; simp only [List.cons_append, List.nil_append]) | refine sW rfl rfl ?_ | refine sK rfl rfl ?_ | refine j_if rfl ?_ | refine j_else rfl ?_ | refine Go.Vt.jq (wl_pickT rfl rfl) rfl rfl ?_ | refine Go.Vt.jq (wl_pickF rfl rfl) rfl rfl ?_)
        simp only [decide_eq_false (show ¬ ((pA ws m).1.length : Int) = 0 by omega)]
        repeat (first | refine sX rfl rfl ?_ | (refine sS rfl rfl ?_ ?_; focus omega) | (refine sC rfl rfl ?_ ?_; focus (first | exact trivial | assumption | exact ⟨by assumption, by assumption⟩ | exact mb2 rfl rfl | exact mb4 rfl rfl rfl rfl)) | refine cX ?_ | refine cY ?_ | (refine sA rfl rfl ?_; intro _) | refine sT rfl ?_ | refine sF rfl ?_ | (refine sR rfl ?_ ?_; focus omega) | (refine sB rfl rfl ?_; intro _) | (refine sN rfl rfl ?_ ?_; (focus (first | exact trivial | assumption | exact ⟨by assumption, by assumption⟩ | exact mb2 rfl rfl | exact mb4 rfl rfl rfl rfl)); intro _; simp only [List.cons_append, List.nil_append]) | refine sW rfl rfl ?_ | refine sK rfl rfl ?_ | refine j_if rfl ?_ | refine j_else rfl ?_ | refine Go.Vt.jq (wl_pickT rfl rfl) rfl rfl ?_ | refine Go.Vt.jq (wl_pickF rfl rfl) rfl rfl ?_)
        exact jx_mid (bo, co, so) (by rw [hpl]; exact hsp.1) (by repeat (first | exact sub_nil | refine sub_cons rfl ?_ | refine sub_cons' rfl (by congr 1; omega) ?_)) (by repeat (first | exact List.Sublist.refl _ | exact List.nil_sublist _ | refine List.Sublist.cons_cons _ ?_ | refine List.Sublist.cons _ ?_))
    · obtain ⟨bo, co, so⟩ := s
      simp only at hs ⊢
      have hne : 0 < (ptsW ws).length := by
        unfold ptsW
        split
        · exact Nat.one_pos
        · rw [pA_len]; omega
      have hle : (ptsW ws).length ≤ 7 := by
        unfold ptsW
        split
        · show 1 ≤ 7; decide
        · rw [pA_len]; omega
      repeat (first | refine sX rfl rfl ?_ | (refine sS rfl rfl ?_ ?_; focus omega) | (refine sC rfl rfl ?_ ?_; focus (first | exact trivial | assumption | exact ⟨by assumption, by assumption⟩ | exact mb2 rfl rfl | exact mb4 rfl rfl rfl rfl)) | refine cX ?_ | refine cY ?_ | (refine sA rfl rfl ?_; intro _) | refine sT rfl ?_ | refine sF rfl ?_ | (refine sR rfl ?_ ?_; focus omega) | (refine sB rfl rfl ?_; intro _) | (refine sN rfl rfl ?_ ?_; (focus (first | exact trivial | assumption | exact ⟨by assumption, by assumption⟩ | exact mb2 rfl rfl | exact mb4 rfl rfl rfl rfl)); intro _; simp only [List.cons_append, List.nil_append]) | refine sW rfl rfl ?_ | refine sK rfl rfl ?_ | refine j_if rfl ?_ | refine j_else rfl ?_ | refine Go.Vt.jq (wl_pickT rfl rfl) rfl rfl ?_ | refine Go.Vt.jq (wl_pickF rfl rfl) rfl rfl ?_)
      (refine j_late2 [0, 1, 2, 3, 4, 5, 6, 7, 8, 9, 10, 11, 12, 13, 14] [15] [16] ([⟨bo, row rS (ptsW ws) so, 52⟩, ⟨b5, e_simplify_Run (q_simplify_Run ⟨zR_api_Interval, ⟨some ⟨bo, 0, none⟩, (ptsW ws).length, co⟩⟩), 35⟩, ⟨b4, e_simplify_Run (q_simplify_Run zR_simplify_Run), 35⟩]) mixed (by kernel_rfl) (by kernel_rfl) (by decide) (by decide) (by repeat (first | exact List.Sublist.refl _ | exact List.nil_sublist _ | refine List.Sublist.cons_cons _ ?_ | refine List.Sublist.cons _ ?_ | refine List.Sublist.trans ?_ (List.sublist_append_right _ _))) ?_; simp only [picks, List.getElem?_cons_succ, List.getElem?_cons_zero])
      repeat (first | refine tX rfl rfl ?_ | (refine tS rfl rfl ?_ ?_; focus omega) | (refine tC rfl rfl ?_ ?_; focus (first | exact trivial | exact ⟨by omega, by omega⟩ | exact ⟨⟨by omega, by omega⟩, ⟨by omega, by omega⟩⟩)) | refine tW rfl rfl ?_ | refine tK rfl rfl ?_ | refine Go.Vt.hq (wl_pickT rfl rfl) rfl rfl ?_ | refine Go.Vt.hq (wl_pickF rfl rfl) rfl rfl ?_)
      refine jh_nil ?_
      refine eX rfl rfl ?_
      refine eF rfl ?_
      refine je_nil ?_
      repeat (first | refine sX rfl rfl ?_ | (refine sS rfl rfl ?_ ?_; focus omega) | (refine sC rfl rfl ?_ ?_; focus (first | exact trivial | assumption | exact ⟨by assumption, by assumption⟩ | exact mb2 rfl rfl | exact mb4 rfl rfl rfl rfl)) | refine cX ?_ | refine cY ?_ | (refine sA rfl rfl ?_; intro _) | refine sT rfl ?_ | refine sF rfl ?_ | (refine sR rfl ?_ ?_; focus omega) | (refine sB rfl rfl ?_; intro _) | (refine sN rfl rfl ?_ ?_; (focus (first | exact trivial | assumption | exact ⟨by assumption, by assumption⟩ | exact mb2 rfl rfl | exact mb4 rfl rfl rfl rfl)); intro _; simp only [List.cons_append, List.nil_append]) | refine sW rfl rfl ?_ | refine sK rfl rfl ?_ | refine j_if rfl ?_ | refine j_else rfl ?_ | refine Go.Vt.jq (wl_pickT rfl rfl) rfl rfl ?_ | refine Go.Vt.jq (wl_pickF rfl rfl) rfl rfl ?_)
      by_cases h1n : 1 < ((ptsW ws).length : Int)
      · simp only [decide_eq_true h1n]
        repeat (first | refine sX rfl rfl ?_ | (refine sS rfl rfl ?_ ?_; focus omega) | (refine sC rfl rfl ?_ ?_; focus (exact ⟨by omega, by omega⟩)) | refine cX ?_ | refine cY ?_ | (refine sA rfl rfl ?_; intro _) | refine sT rfl ?_ | refine sF rfl ?_ | (refine sR rfl ?_ ?_; focus omega) | (refine sB rfl rfl ?_; intro _) | (refine sN rfl rfl ?_ ?_; (focus (exact ⟨by omega, by omega⟩)); intro _; simp only [List.cons_append, List.nil_append]) | refine sW rfl rfl ?_ | refine sK rfl rfl ?_ | refine j_if rfl ?_ | refine j_else rfl ?_ | refine Go.Vt.jq (wl_pickT rfl rfl) rfl rfl ?_ | refine Go.Vt.jq (wl_pickF rfl rfl) rfl rfl ?_)
        simp only [decide_eq_true h1n]
        repeat (first | refine sX rfl rfl ?_ | (refine sS rfl rfl ?_ ?_; focus omega) | (refine sC rfl rfl ?_ ?_; focus (exact ⟨by omega, by omega⟩)) | refine cX ?_ | refine cY ?_ | (refine sA rfl rfl ?_; intro _) | refine sT rfl ?_ | refine sF rfl ?_ | (refine sR rfl ?_ ?_; focus omega) | (refine sB rfl rfl ?_; intro _) | (refine sN rfl rfl ?_ ?_; (focus (exact ⟨by omega, by omega⟩)); intro _; simp only [List.cons_append, List.nil_append]) | refine sW rfl rfl ?_ | refine sK rfl rfl ?_ | refine j_if rfl ?_ | refine j_else rfl ?_ | refine Go.Vt.jq (wl_pickT rfl rfl) rfl rfl ?_ | refine Go.Vt.jq (wl_pickF rfl rfl) rfl rfl ?_)
        refine wx_cell rfl rfl (fun w hw => ⟨⟨(bo, co, so), hs⟩, ?_, hw.sub (by repeat (first | exact List.Sublist.refl _ | exact List.nil_sublist _ | refine List.Sublist.cons_cons _ ?_ | refine List.Sublist.cons _ ?_))⟩)
        unfold runI
        simp only [decide_eq_true (show 1 < (ptsW ws).length by omega), Bool.true_and]
      · simp only [decide_eq_false h1n]
        repeat (first | refine sX rfl rfl ?_ | (refine sS rfl rfl ?_ ?_; focus omega) | (refine sC rfl rfl ?_ ?_; focus (exact ⟨by omega, by omega⟩)) | refine cX ?_ | refine cY ?_ | (refine sA rfl rfl ?_; intro _) | refine sT rfl ?_ | refine sF rfl ?_ | (refine sR rfl ?_ ?_; focus omega) | (refine sB rfl rfl ?_; intro _) | (refine sN rfl rfl ?_ ?_; (focus (exact ⟨by omega, by omega⟩)); intro _; simp only [List.cons_append, List.nil_append]) | refine sW rfl rfl ?_ | refine sK rfl rfl ?_ | refine j_if rfl ?_ | refine j_else rfl ?_ | refine Go.Vt.jq (wl_pickT rfl rfl) rfl rfl ?_ | refine Go.Vt.jq (wl_pickF rfl rfl) rfl rfl ?_)
        simp only [decide_eq_false h1n]
        repeat (first | refine sX rfl rfl ?_ | (refine sS rfl rfl ?_ ?_; focus omega) | (refine sC rfl rfl ?_ ?_; focus (exact ⟨by omega, by omega⟩)) | refine cX ?_ | refine cY ?_ | (refine sA rfl rfl ?_; intro _) | refine sT rfl ?_ | refine sF rfl ?_ | (refine sR rfl ?_ ?_; focus omega) | (refine sB rfl rfl ?_; intro _) | (refine sN rfl rfl ?_ ?_; (focus (exact ⟨by omega, by omega⟩)); intro _; simp only [List.cons_append, List.nil_append]) | refine sW rfl rfl ?_ | refine sK rfl rfl ?_ | refine j_if rfl ?_ | refine j_else rfl ?_ | refine Go.Vt.jq (wl_pickT rfl rfl) rfl rfl ?_ | refine Go.Vt.jq (wl_pickF rfl rfl) rfl rfl ?_)
        refine wx_cell rfl rfl (fun w hw => ⟨⟨(bo, co, so), hs⟩, ?_, hw.sub (by repeat (first | exact List.Sublist.refl _ | exact List.nil_sublist _ | refine List.Sublist.cons_cons _ ?_ | refine List.Sublist.cons _ ?_))⟩)
        unfold runI
        simp only [decide_eq_false (show ¬ 1 < (ptsW ws).length by omega), Bool.false_and]
theorem ArgS.to {α : Type} {w0 w : World} {v : Value} {enc : α → Array Value} {xs : List α} (h : ArgS w0 v enc xs) (hx : Ext w0 w) : ArgS w v enc xs := by
  rcases h.out with h1 | ⟨a, c, h1, h2, h3⟩
  · exact ⟨.inl h1⟩
  · refine ⟨.inr ⟨a, c, h1, h2, fun i f k u hi hk hu => ?_⟩⟩
    have h4 := h3 i f k u hi hk hu
    obtain ⟨hae, cs, T, fz, hb, hc⟩ := cell_some h4
    rw [hae]
    have hb' : w.heap[(a.add (i * k + f)).block]? = some (.cells cs T fz) := by rw [hx.block _ (lt_of_block hb)]; exact hb
    rw [cell_block hb']
    exact hc
abbrev SP3 (ps : List R_movingpoint_Sample) := { s : Nat × Nat × List Value // ps.length ≤ s.2.1 }
instance sr_Run (w0 : World) (L : List Blk) (v : Value) (ws : List WStep) (op : Int) [h : ArgC w0 v WStep e_st_Time_X_Y ws] : SpecR Tryd.prog w0 L 8 [v, .int .u8 op] (SP3 (ptsW ws)) (fun s => vRun (runI (ptsW ws) op) s.1.1 (ptsW ws).length s.1.2.1) (fun s => [⟨s.1.1, row rS (ptsW ws) s.1.2.2, 52⟩]) ((0 ≤ op ∧ op ≤ 255) ∧ WOk ws ∧ ws.length ≤ 9223372036854775807) := ⟨fun hp w hw =>
  run_spec v ws op hp.1 hp.2.1 w (h.out.to hw.ext) hp.2.2⟩
end Go.Vt
