/- SimplifyBuilds (viator law 31): true for every input. Conditions: those that each statement names. (part 6 of 6.) Conditions: those that each statement names. -/
import Derived.Test.YtgcjapcminakdaaGreatDoorBu5
/- The instants that two intervals have in common; the part of a value during a period: walked. Conditions: those that each statement names. -/
set_option linter.unusedSimpArgs false
set_option linter.unusedVariables false
set_option maxRecDepth 100000
namespace Go.Vt
open Go.RowKit Go.Proofs
open Fv (va red)
def mtF (a b : R_api_Interval) : R_api_Real × Bool := if a.From.P < b.From.P then (b.From, b.OpenFrom) else if a.From.P = b.From.P then (a.From, a.OpenFrom || b.OpenFrom) else (a.From, a.OpenFrom)
def mtT (a b : R_api_Interval) : R_api_Real × Bool := if b.To.P < a.To.P then (b.To, b.OpenTo) else if a.To.P = b.To.P then (a.To, a.OpenTo || b.OpenTo) else (a.To, a.OpenTo)
/-- What two intervals have in common, and is there any? -/
def mt (a b : R_api_Interval) : R_api_Interval := ⟨(mtF a b).1, (mtT a b).1, (mtF a b).2, (mtT a b).2⟩
def mtO (a b : R_api_Interval) : Bool := decide ((mt a b).From.P < (mt a b).To.P) || (decide ((mt a b).From.P = (mt a b).To.P) && (!(mt a b).OpenFrom && !(mt a b).OpenTo))
theorem mtF_ok {K : Nat} {a b : R_api_Interval} (ha : IvOk K a) (hb : IvOk K b) : RtOk (mtF a b).1 ∧ M (mtF a b).1.P ≤ K := by
  unfold mtF
  split
  · exact ⟨hb.rf, hb.m1⟩
  · split <;> exact ⟨ha.rf, ha.m1⟩
theorem mtT_ok {K : Nat} {a b : R_api_Interval} (ha : IvOk K a) (hb : IvOk K b) : RtOk (mtT a b).1 ∧ M (mtT a b).1.P ≤ K := by
  unfold mtT
  split
  · exact ⟨hb.rt, hb.m2⟩
  · split <;> exact ⟨ha.rt, ha.m2⟩
theorem mt_ok {K : Nat} {a b : R_api_Interval} (ha : IvOk K a) (hb : IvOk K b) : IvOk K (mt a b) := by
  obtain ⟨⟨h1, h2⟩, h3⟩ := mtF_ok ha hb
  obtain ⟨⟨h4, h5⟩, h6⟩ := mtT_ok ha hb
  exact ⟨h1, h4, h2, h5, h3, h6⟩
set_option maxHeartbeats 1000000 in
instance sp_meet (a b : R_api_Interval) : SpecC Tryz.prog 151 [vIv a, vIv b] (.tuple #[vIv (mt a b), .bool (mtO a b)]) (IvOk BQ a ∧ IvOk BQ b) := ⟨fun hp w => by
  obtain ⟨ha, hb⟩ := hp
  have hm := mt_ok ha hb
  refine fn_intro Tryz.func151 rfl Tryz.ntmps151 rfl ?_
  repeat (first | refine sX rfl rfl ?_ | (refine sS rfl rfl ?_ ?_; focus omega) | (refine sC rfl rfl ?_ ?_; focus (exact ⟨⟨ha.r1, hb.r1⟩, Nat.le_trans ha.m1 (by decide), Nat.le_trans hb.m1 (by decide)⟩)) | refine cX ?_ | refine cY ?_ | (refine sA rfl rfl ?_; intro _) | refine sT rfl ?_ | refine sF rfl ?_ | (refine sR rfl ?_ ?_; focus omega) | (refine sB rfl rfl ?_; intro _) | (refine sN rfl rfl ?_ ?_; (focus (exact ⟨⟨ha.r1, hb.r1⟩, Nat.le_trans ha.m1 (by decide), Nat.le_trans hb.m1 (by decide)⟩)); intro _; (try simp only [List.cons_append, List.nil_append, List.append_nil])) | refine sW rfl rfl ?_ | refine sK rfl rfl ?_ | refine j_if rfl ?_ | refine j_else rfl ?_ | refine pkT rfl rfl rfl rfl ?_ | refine pkF rfl rfl rfl rfl ?_)
  rename_i b2 b3 b4 b6
  refine jb_cut (S := Unit) (fun _ => True) (fun _ => [(2, .pointer (some ⟨b2, 0, none⟩)), (3, .pointer (some ⟨b3, 0, none⟩)), (4, .pointer (some ⟨b4, 0, none⟩)), (6, .pointer (some ⟨b6, 0, none⟩))]) (fun _ => [⟨b6, e_api_Interval (q_api_Interval ⟨(mtF a b).1, a.To, (mtF a b).2, a.OpenTo⟩), 32⟩, ⟨b4, e_api_Interval (q_api_Interval zR_api_Interval), 32⟩, ⟨b3, e_api_Interval (q_api_Interval b), 32⟩, ⟨b2, e_api_Interval (q_api_Interval a), 32⟩]) ?_ (fun _ _ => ?_)
  · by_cases h1 : a.From.P < b.From.P
    · rw [show mtF a b = (b.From, b.OpenFrom) by unfold mtF; rw [if_pos h1]]
      simp only [decide_eq_true (cq_lt.2 h1)]
      repeat (first | refine sX rfl rfl ?_ | (refine sS rfl rfl ?_ ?_; focus omega) | (refine sC rfl rfl ?_ ?_; focus (first | exact trivial | assumption | constructor <;> assumption | exact mb2 rfl rfl | exact mb4 rfl rfl rfl rfl)) | refine cX ?_ | refine cY ?_ | (refine sA rfl rfl ?_; intro _) | refine sT rfl ?_ | refine sF rfl ?_ | (refine sR rfl ?_ ?_; focus omega) | (refine sB rfl rfl ?_; intro _) | (refine sN rfl rfl ?_ ?_; (focus (first | exact trivial | assumption | constructor <;> assumption | exact mb2 rfl rfl | exact mb4 rfl rfl rfl rfl)); intro _; (try simp only [List.cons_append, List.nil_append, List.append_nil])) | refine sW rfl rfl ?_ | refine sK rfl rfl ?_ | refine j_if rfl ?_ | refine j_else rfl ?_ | refine pkT rfl rfl rfl rfl ?_ | refine pkF rfl rfl rfl rfl ?_)
      (refine j_tree (.v [0, 1, 2, 3, 4] (.e1 5 (.v [6] (.e1 7 (.fin))))) ([⟨b3, e_api_Interval (q_api_Interval b), 32⟩]) mixed (by kernel_rfl) (by repeat (first | exact List.Sublist.refl _ | exact List.nil_sublist _ | refine List.Sublist.cons_cons _ ?_ | refine List.Sublist.cons _ ?_ | refine List.Sublist.trans ?_ (List.sublist_append_right _ _))) ?_; simp only [JT, picks, List.getElem?_cons_succ, List.getElem?_cons_zero])
      repeat (first | refine eS rfl rfl ?_ | refine uP rfl rfl rfl rfl ?_ | refine uQ rfl rfl rfl rfl ?_ | refine eX rfl rfl ?_ | (refine uS rfl rfl ?_ ?_; focus omega) | (refine uC rfl rfl ?_ ?_; focus (first | exact trivial | assumption | constructor <;> assumption | exact mb2 rfl rfl | exact mb4 rfl rfl rfl rfl)) | refine uW rfl rfl ?_ | refine eF rfl ?_ | refine eT rfl ?_ | (refine eA rfl rfl ?_; intro _) | (refine eB rfl rfl ?_; intro _) | (refine eN rfl rfl ?_ ?_; (focus (first | exact trivial | assumption | constructor <;> assumption | exact mb2 rfl rfl | exact mb4 rfl rfl rfl rfl)); intro _; (try simp only [List.cons_append, List.nil_append, List.append_nil])) | refine je_nil ?_ | refine tX rfl rfl ?_ | (refine tS rfl rfl ?_ ?_; focus omega) | (refine tC rfl rfl ?_ ?_; focus (first | exact trivial | assumption | constructor <;> assumption | exact mb2 rfl rfl | exact mb4 rfl rfl rfl rfl)) | refine tW rfl rfl ?_ | refine tK rfl rfl ?_ | refine Go.Vt.hq (wl_pickT rfl rfl) rfl rfl ?_ | refine Go.Vt.hq (wl_pickF rfl rfl) rfl rfl ?_ | refine jh_nil ?_ | (refine wn_new ?_; intro _) | refine jn_nil ?_)
      repeat (first | refine sX rfl rfl ?_ | (refine sS rfl rfl ?_ ?_; focus omega) | (refine sC rfl rfl ?_ ?_; focus (first | exact trivial | assumption | constructor <;> assumption | exact mb2 rfl rfl | exact mb4 rfl rfl rfl rfl)) | refine cX ?_ | refine cY ?_ | (refine sA rfl rfl ?_; intro _) | refine sT rfl ?_ | refine sF rfl ?_ | (refine sR rfl ?_ ?_; focus omega) | (refine sB rfl rfl ?_; intro _) | (refine sN rfl rfl ?_ ?_; (focus (first | exact trivial | assumption | constructor <;> assumption | exact mb2 rfl rfl | exact mb4 rfl rfl rfl rfl)); intro _; (try simp only [List.cons_append, List.nil_append, List.append_nil])) | refine sW rfl rfl ?_ | refine sK rfl rfl ?_ | refine j_if rfl ?_ | refine j_else rfl ?_ | refine pkT rfl rfl rfl rfl ?_ | refine pkF rfl rfl rfl rfl ?_)
      exact jx_mid () trivial (by repeat (first | exact sub_nil | refine sub_cons rfl ?_ | refine sub_cons' rfl (by congr 1; omega) ?_)) (by repeat (first | exact List.Sublist.refl _ | exact List.nil_sublist _ | refine List.Sublist.cons_cons _ ?_ | refine List.Sublist.cons _ ?_))
    · simp only [decide_eq_false (fun h => h1 (cq_lt.1 h))]
      repeat (first | refine sX rfl rfl ?_ | (refine sS rfl rfl ?_ ?_; focus omega) | (refine sC rfl rfl ?_ ?_; focus (first | exact trivial | assumption | constructor <;> assumption | exact mb2 rfl rfl | exact mb4 rfl rfl rfl rfl)) | refine cX ?_ | refine cY ?_ | (refine sA rfl rfl ?_; intro _) | refine sT rfl ?_ | refine sF rfl ?_ | (refine sR rfl ?_ ?_; focus omega) | (refine sB rfl rfl ?_; intro _) | (refine sN rfl rfl ?_ ?_; (focus (first | exact trivial | assumption | constructor <;> assumption | exact mb2 rfl rfl | exact mb4 rfl rfl rfl rfl)); intro _; (try simp only [List.cons_append, List.nil_append, List.append_nil])) | refine sW rfl rfl ?_ | refine sK rfl rfl ?_ | refine j_if rfl ?_ | refine j_else rfl ?_ | refine pkT rfl rfl rfl rfl ?_ | refine pkF rfl rfl rfl rfl ?_)
      by_cases h2 : a.From.P = b.From.P
      · rw [show mtF a b = (a.From, a.OpenFrom || b.OpenFrom) by unfold mtF; rw [if_neg h1, if_pos h2]]
        simp only [decide_eq_true (cq_eq.2 h2)]
        repeat (first | refine sX rfl rfl ?_ | (refine sS rfl rfl ?_ ?_; focus omega) | (refine sC rfl rfl ?_ ?_; focus (first | exact trivial | assumption | constructor <;> assumption | exact mb2 rfl rfl | exact mb4 rfl rfl rfl rfl)) | refine cX ?_ | refine cY ?_ | (refine sA rfl rfl ?_; intro _) | refine sT rfl ?_ | refine sF rfl ?_ | (refine sR rfl ?_ ?_; focus omega) | (refine sB rfl rfl ?_; intro _) | (refine sN rfl rfl ?_ ?_; (focus (first | exact trivial | assumption | constructor <;> assumption | exact mb2 rfl rfl | exact mb4 rfl rfl rfl rfl)); intro _; (try simp only [List.cons_append, List.nil_append, List.append_nil])) | refine sW rfl rfl ?_ | refine sK rfl rfl ?_ | refine j_if rfl ?_ | refine j_else rfl ?_ | refine pkT rfl rfl rfl rfl ?_ | refine pkF rfl rfl rfl rfl ?_)
        rcases h3 : a.OpenFrom with _ | _
        · repeat (first | refine sX rfl rfl ?_ | (refine sS rfl rfl ?_ ?_; focus omega) | (refine sC rfl rfl ?_ ?_; focus (first | exact trivial | assumption | constructor <;> assumption | exact mb2 rfl rfl | exact mb4 rfl rfl rfl rfl)) | refine cX ?_ | refine cY ?_ | (refine sA rfl rfl ?_; intro _) | refine sT rfl ?_ | refine sF rfl ?_ | (refine sR rfl ?_ ?_; focus omega) | (refine sB rfl rfl ?_; intro _) | (refine sN rfl rfl ?_ ?_; (focus (first | exact trivial | assumption | constructor <;> assumption | exact mb2 rfl rfl | exact mb4 rfl rfl rfl rfl)); intro _; (try simp only [List.cons_append, List.nil_append, List.append_nil])) | refine sW rfl rfl ?_ | refine sK rfl rfl ?_ | refine j_if rfl ?_ | refine j_else rfl ?_ | refine pkT rfl rfl rfl rfl ?_ | refine pkF rfl rfl rfl rfl ?_)
          exact jx_mid () trivial (by repeat (first | exact sub_nil | refine sub_cons rfl ?_ | refine sub_cons' rfl (by congr 1; omega) ?_)) (by repeat (first | exact List.Sublist.refl _ | exact List.nil_sublist _ | refine List.Sublist.cons_cons _ ?_ | refine List.Sublist.cons _ ?_))
        · repeat (first | refine sX rfl rfl ?_ | (refine sS rfl rfl ?_ ?_; focus omega) | (refine sC rfl rfl ?_ ?_; focus (first | exact trivial | assumption | constructor <;> assumption | exact mb2 rfl rfl | exact mb4 rfl rfl rfl rfl)) | refine cX ?_ | refine cY ?_ | (refine sA rfl rfl ?_; intro _) | refine sT rfl ?_ | refine sF rfl ?_ | (refine sR rfl ?_ ?_; focus omega) | (refine sB rfl rfl ?_; intro _) | (refine sN rfl rfl ?_ ?_; (focus (first | exact trivial | assumption | constructor <;> assumption | exact mb2 rfl rfl | exact mb4 rfl rfl rfl rfl)); intro _; (try simp only [List.cons_append, List.nil_append, List.append_nil])) | refine sW rfl rfl ?_ | refine sK rfl rfl ?_ | refine j_if rfl ?_ | refine j_else rfl ?_ | refine pkT rfl rfl rfl rfl ?_ | refine pkF rfl rfl rfl rfl ?_)
          exact jx_mid () trivial (by repeat (first | exact sub_nil | refine sub_cons rfl ?_ | refine sub_cons' rfl (by congr 1; omega) ?_)) (by repeat (first | exact List.Sublist.refl _ | exact List.nil_sublist _ | refine List.Sublist.cons_cons _ ?_ | refine List.Sublist.cons _ ?_))
      · rw [show mtF a b = (a.From, a.OpenFrom) by unfold mtF; rw [if_neg h1, if_neg h2]]
        simp only [decide_eq_false (fun h => h2 (cq_eq.1 h))]
        repeat (first | refine sX rfl rfl ?_ | (refine sS rfl rfl ?_ ?_; focus omega) | (refine sC rfl rfl ?_ ?_; focus (first | exact trivial | assumption | constructor <;> assumption | exact mb2 rfl rfl | exact mb4 rfl rfl rfl rfl)) | refine cX ?_ | refine cY ?_ | (refine sA rfl rfl ?_; intro _) | refine sT rfl ?_ | refine sF rfl ?_ | (refine sR rfl ?_ ?_; focus omega) | (refine sB rfl rfl ?_; intro _) | (refine sN rfl rfl ?_ ?_; (focus (first | exact trivial | assumption | constructor <;> assumption | exact mb2 rfl rfl | exact mb4 rfl rfl rfl rfl)); intro _; (try simp only [List.cons_append, List.nil_append, List.append_nil])) | refine sW rfl rfl ?_ | refine sK rfl rfl ?_ | refine j_if rfl ?_ | refine j_else rfl ?_ | refine pkT rfl rfl rfl rfl ?_ | refine pkF rfl rfl rfl rfl ?_)
        exact jx_mid () trivial (by repeat (first | exact sub_nil | refine sub_cons rfl ?_ | refine sub_cons' rfl (by congr 1; omega) ?_)) (by repeat (first | exact List.Sublist.refl _ | exact List.nil_sublist _ | refine List.Sublist.cons_cons _ ?_ | refine List.Sublist.cons _ ?_))
  repeat (first | refine sX rfl rfl ?_ | (refine sS rfl rfl ?_ ?_; focus omega) | (refine sC rfl rfl ?_ ?_; focus (exact ⟨⟨ha.r2, hb.r2⟩, Nat.le_trans ha.m2 (by decide), Nat.le_trans hb.m2 (by decide)⟩)) | refine cX ?_ | refine cY ?_ | (refine sA rfl rfl ?_; intro _) | refine sT rfl ?_ | refine sF rfl ?_ | (refine sR rfl ?_ ?_; focus omega) | (refine sB rfl rfl ?_; intro _) | (refine sN rfl rfl ?_ ?_; (focus (exact ⟨⟨ha.r2, hb.r2⟩, Nat.le_trans ha.m2 (by decide), Nat.le_trans hb.m2 (by decide)⟩)); intro _; (try simp only [List.cons_append, List.nil_append, List.append_nil])) | refine sW rfl rfl ?_ | refine sK rfl rfl ?_ | refine j_if rfl ?_ | refine j_else rfl ?_ | refine pkT rfl rfl rfl rfl ?_ | refine pkF rfl rfl rfl rfl ?_)
  refine jb_cut (S := Unit) (fun _ => True) (fun _ => [(4, .pointer (some ⟨b4, 0, none⟩)), (6, .pointer (some ⟨b6, 0, none⟩))]) (fun _ => [⟨b6, e_api_Interval (q_api_Interval (mt a b)), 32⟩, ⟨b4, e_api_Interval (q_api_Interval zR_api_Interval), 32⟩]) ?_ (fun _ _ => ?_)
  · by_cases h1 : b.To.P < a.To.P
    · rw [show mt a b = ⟨(mtF a b).1, b.To, (mtF a b).2, b.OpenTo⟩ by unfold mt mtT; rw [if_pos h1]]
      simp only [decide_eq_true (cq_gt.2 h1)]
      repeat (first | refine sX rfl rfl ?_ | (refine sS rfl rfl ?_ ?_; focus omega) | (refine sC rfl rfl ?_ ?_; focus (first | exact trivial | assumption | constructor <;> assumption | exact mb2 rfl rfl | exact mb4 rfl rfl rfl rfl)) | refine cX ?_ | refine cY ?_ | (refine sA rfl rfl ?_; intro _) | refine sT rfl ?_ | refine sF rfl ?_ | (refine sR rfl ?_ ?_; focus omega) | (refine sB rfl rfl ?_; intro _) | (refine sN rfl rfl ?_ ?_; (focus (first | exact trivial | assumption | constructor <;> assumption | exact mb2 rfl rfl | exact mb4 rfl rfl rfl rfl)); intro _; (try simp only [List.cons_append, List.nil_append, List.append_nil])) | refine sW rfl rfl ?_ | refine sK rfl rfl ?_ | refine j_if rfl ?_ | refine j_else rfl ?_ | refine pkT rfl rfl rfl rfl ?_ | refine pkF rfl rfl rfl rfl ?_)
      (refine j_tree (.v [0, 1, 2, 3, 4] (.e1 5 (.v [6] (.e1 7 (.fin))))) ([⟨b3, e_api_Interval (q_api_Interval b), 32⟩]) mixed (by kernel_rfl) (by repeat (first | exact List.Sublist.refl _ | exact List.nil_sublist _ | refine List.Sublist.cons_cons _ ?_ | refine List.Sublist.cons _ ?_ | refine List.Sublist.trans ?_ (List.sublist_append_right _ _))) ?_; simp only [JT, picks, List.getElem?_cons_succ, List.getElem?_cons_zero])
      repeat (first | refine eS rfl rfl ?_ | refine uP rfl rfl rfl rfl ?_ | refine uQ rfl rfl rfl rfl ?_ | refine eX rfl rfl ?_ | (refine uS rfl rfl ?_ ?_; focus omega) | (refine uC rfl rfl ?_ ?_; focus (first | exact trivial | assumption | constructor <;> assumption | exact mb2 rfl rfl | exact mb4 rfl rfl rfl rfl)) | refine uW rfl rfl ?_ | refine eF rfl ?_ | refine eT rfl ?_ | (refine eA rfl rfl ?_; intro _) | (refine eB rfl rfl ?_; intro _) | (refine eN rfl rfl ?_ ?_; (focus (first | exact trivial | assumption | constructor <;> assumption | exact mb2 rfl rfl | exact mb4 rfl rfl rfl rfl)); intro _; (try simp only [List.cons_append, List.nil_append, List.append_nil])) | refine je_nil ?_ | refine tX rfl rfl ?_ | (refine tS rfl rfl ?_ ?_; focus omega) | (refine tC rfl rfl ?_ ?_; focus (first | exact trivial | assumption | constructor <;> assumption | exact mb2 rfl rfl | exact mb4 rfl rfl rfl rfl)) | refine tW rfl rfl ?_ | refine tK rfl rfl ?_ | refine Go.Vt.hq (wl_pickT rfl rfl) rfl rfl ?_ | refine Go.Vt.hq (wl_pickF rfl rfl) rfl rfl ?_ | refine jh_nil ?_ | (refine wn_new ?_; intro _) | refine jn_nil ?_)
      repeat (first | refine sX rfl rfl ?_ | (refine sS rfl rfl ?_ ?_; focus omega) | (refine sC rfl rfl ?_ ?_; focus (first | exact trivial | assumption | constructor <;> assumption | exact mb2 rfl rfl | exact mb4 rfl rfl rfl rfl)) | refine cX ?_ | refine cY ?_ | (refine sA rfl rfl ?_; intro _) | refine sT rfl ?_ | refine sF rfl ?_ | (refine sR rfl ?_ ?_; focus omega) | (refine sB rfl rfl ?_; intro _) | (refine sN rfl rfl ?_ ?_; (focus (first | exact trivial | assumption | constructor <;> assumption | exact mb2 rfl rfl | exact mb4 rfl rfl rfl rfl)); intro _; (try simp only [List.cons_append, List.nil_append, List.append_nil])) | refine sW rfl rfl ?_ | refine sK rfl rfl ?_ | refine j_if rfl ?_ | refine j_else rfl ?_ | refine pkT rfl rfl rfl rfl ?_ | refine pkF rfl rfl rfl rfl ?_)
      exact jx_mid () trivial (by repeat (first | exact sub_nil | refine sub_cons rfl ?_ | refine sub_cons' rfl (by congr 1; omega) ?_)) (by repeat (first | exact List.Sublist.refl _ | exact List.nil_sublist _ | refine List.Sublist.cons_cons _ ?_ | refine List.Sublist.cons _ ?_))
    · simp only [decide_eq_false (fun h => h1 (cq_gt.1 h))]
      repeat (first | refine sX rfl rfl ?_ | (refine sS rfl rfl ?_ ?_; focus omega) | (refine sC rfl rfl ?_ ?_; focus (first | exact trivial | assumption | constructor <;> assumption | exact mb2 rfl rfl | exact mb4 rfl rfl rfl rfl)) | refine cX ?_ | refine cY ?_ | (refine sA rfl rfl ?_; intro _) | refine sT rfl ?_ | refine sF rfl ?_ | (refine sR rfl ?_ ?_; focus omega) | (refine sB rfl rfl ?_; intro _) | (refine sN rfl rfl ?_ ?_; (focus (first | exact trivial | assumption | constructor <;> assumption | exact mb2 rfl rfl | exact mb4 rfl rfl rfl rfl)); intro _; (try simp only [List.cons_append, List.nil_append, List.append_nil])) | refine sW rfl rfl ?_ | refine sK rfl rfl ?_ | refine j_if rfl ?_ | refine j_else rfl ?_ | refine pkT rfl rfl rfl rfl ?_ | refine pkF rfl rfl rfl rfl ?_)
      by_cases h2 : a.To.P = b.To.P
      · rw [show mt a b = ⟨(mtF a b).1, a.To, (mtF a b).2, a.OpenTo || b.OpenTo⟩ by unfold mt mtT; rw [if_neg h1, if_pos h2]]
        simp only [decide_eq_true (cq_eq.2 h2)]
        repeat (first | refine sX rfl rfl ?_ | (refine sS rfl rfl ?_ ?_; focus omega) | (refine sC rfl rfl ?_ ?_; focus (first | exact trivial | assumption | constructor <;> assumption | exact mb2 rfl rfl | exact mb4 rfl rfl rfl rfl)) | refine cX ?_ | refine cY ?_ | (refine sA rfl rfl ?_; intro _) | refine sT rfl ?_ | refine sF rfl ?_ | (refine sR rfl ?_ ?_; focus omega) | (refine sB rfl rfl ?_; intro _) | (refine sN rfl rfl ?_ ?_; (focus (first | exact trivial | assumption | constructor <;> assumption | exact mb2 rfl rfl | exact mb4 rfl rfl rfl rfl)); intro _; (try simp only [List.cons_append, List.nil_append, List.append_nil])) | refine sW rfl rfl ?_ | refine sK rfl rfl ?_ | refine j_if rfl ?_ | refine j_else rfl ?_ | refine pkT rfl rfl rfl rfl ?_ | refine pkF rfl rfl rfl rfl ?_)
        rcases h3 : a.OpenTo with _ | _
        · repeat (first | refine sX rfl rfl ?_ | (refine sS rfl rfl ?_ ?_; focus omega) | (refine sC rfl rfl ?_ ?_; focus (first | exact trivial | assumption | constructor <;> assumption | exact mb2 rfl rfl | exact mb4 rfl rfl rfl rfl)) | refine cX ?_ | refine cY ?_ | (refine sA rfl rfl ?_; intro _) | refine sT rfl ?_ | refine sF rfl ?_ | (refine sR rfl ?_ ?_; focus omega) | (refine sB rfl rfl ?_; intro _) | (refine sN rfl rfl ?_ ?_; (focus (first | exact trivial | assumption | constructor <;> assumption | exact mb2 rfl rfl | exact mb4 rfl rfl rfl rfl)); intro _; (try simp only [List.cons_append, List.nil_append, List.append_nil])) | refine sW rfl rfl ?_ | refine sK rfl rfl ?_ | refine j_if rfl ?_ | refine j_else rfl ?_ | refine pkT rfl rfl rfl rfl ?_ | refine pkF rfl rfl rfl rfl ?_)
          exact jx_mid () trivial (by repeat (first | exact sub_nil | refine sub_cons rfl ?_ | refine sub_cons' rfl (by congr 1; omega) ?_)) (by repeat (first | exact List.Sublist.refl _ | exact List.nil_sublist _ | refine List.Sublist.cons_cons _ ?_ | refine List.Sublist.cons _ ?_))
        · repeat (first | refine sX rfl rfl ?_ | (refine sS rfl rfl ?_ ?_; focus omega) | (refine sC rfl rfl ?_ ?_; focus (first | exact trivial | assumption | constructor <;> assumption | exact mb2 rfl rfl | exact mb4 rfl rfl rfl rfl)) | refine cX ?_ | refine cY ?_ | (refine sA rfl rfl ?_; intro _) | refine sT rfl ?_ | refine sF rfl ?_ | (refine sR rfl ?_ ?_; focus omega) | (refine sB rfl rfl ?_; intro _) | (refine sN rfl rfl ?_ ?_; (focus (first | exact trivial | assumption | constructor <;> assumption | exact mb2 rfl rfl | exact mb4 rfl rfl rfl rfl)); intro _; (try simp only [List.cons_append, List.nil_append, List.append_nil])) | refine sW rfl rfl ?_ | refine sK rfl rfl ?_ | refine j_if rfl ?_ | refine j_else rfl ?_ | refine pkT rfl rfl rfl rfl ?_ | refine pkF rfl rfl rfl rfl ?_)
          exact jx_mid () trivial (by repeat (first | exact sub_nil | refine sub_cons rfl ?_ | refine sub_cons' rfl (by congr 1; omega) ?_)) (by repeat (first | exact List.Sublist.refl _ | exact List.nil_sublist _ | refine List.Sublist.cons_cons _ ?_ | refine List.Sublist.cons _ ?_))
      · rw [show mt a b = ⟨(mtF a b).1, a.To, (mtF a b).2, a.OpenTo⟩ by unfold mt mtT; rw [if_neg h1, if_neg h2]]
        simp only [decide_eq_false (fun h => h2 (cq_eq.1 h))]
        repeat (first | refine sX rfl rfl ?_ | (refine sS rfl rfl ?_ ?_; focus omega) | (refine sC rfl rfl ?_ ?_; focus (first | exact trivial | assumption | constructor <;> assumption | exact mb2 rfl rfl | exact mb4 rfl rfl rfl rfl)) | refine cX ?_ | refine cY ?_ | (refine sA rfl rfl ?_; intro _) | refine sT rfl ?_ | refine sF rfl ?_ | (refine sR rfl ?_ ?_; focus omega) | (refine sB rfl rfl ?_; intro _) | (refine sN rfl rfl ?_ ?_; (focus (first | exact trivial | assumption | constructor <;> assumption | exact mb2 rfl rfl | exact mb4 rfl rfl rfl rfl)); intro _; (try simp only [List.cons_append, List.nil_append, List.append_nil])) | refine sW rfl rfl ?_ | refine sK rfl rfl ?_ | refine j_if rfl ?_ | refine j_else rfl ?_ | refine pkT rfl rfl rfl rfl ?_ | refine pkF rfl rfl rfl rfl ?_)
        exact jx_mid () trivial (by repeat (first | exact sub_nil | refine sub_cons rfl ?_ | refine sub_cons' rfl (by congr 1; omega) ?_)) (by repeat (first | exact List.Sublist.refl _ | exact List.nil_sublist _ | refine List.Sublist.cons_cons _ ?_ | refine List.Sublist.cons _ ?_))
  repeat (first | refine sX rfl rfl ?_ | (refine sS rfl rfl ?_ ?_; focus omega) | (refine sC rfl rfl ?_ ?_; focus (exact ⟨⟨hm.r1, hm.r2⟩, Nat.le_trans hm.m1 (by decide), Nat.le_trans hm.m2 (by decide)⟩)) | refine cX ?_ | refine cY ?_ | (refine sA rfl rfl ?_; intro _) | refine sT rfl ?_ | refine sF rfl ?_ | (refine sR rfl ?_ ?_; focus omega) | (refine sB rfl rfl ?_; intro _) | (refine sN rfl rfl ?_ ?_; (focus (exact ⟨⟨hm.r1, hm.r2⟩, Nat.le_trans hm.m1 (by decide), Nat.le_trans hm.m2 (by decide)⟩)); intro _; (try simp only [List.cons_append, List.nil_append, List.append_nil])) | refine sW rfl rfl ?_ | refine sK rfl rfl ?_ | refine j_if rfl ?_ | refine j_else rfl ?_ | refine pkT rfl rfl rfl rfl ?_ | refine pkF rfl rfl rfl rfl ?_)
  unfold mtO
  generalize mt a b = m at *
  have hl : decide (cq m.From.P m.To.P < 0) = decide (m.From.P < m.To.P) := by rw [decide_eq_decide]; exact cq_lt
  have he : decide (cq m.From.P m.To.P = 0) = decide (m.From.P = m.To.P) := by rw [decide_eq_decide]; exact cq_eq
  (refine j_tree (.v [0, 1, 2, 3, 4, 5, 6, 7, 8, 9, 10, 11, 12, 13, 14, 15, 16] (.e1 17 (.e1 18 (.fin)))) ([⟨b6, e_api_Interval (q_api_Interval m), 32⟩]) mixed (by kernel_rfl) (by repeat (first | exact List.Sublist.refl _ | exact List.nil_sublist _ | refine List.Sublist.cons_cons _ ?_ | refine List.Sublist.cons _ ?_ | refine List.Sublist.trans ?_ (List.sublist_append_right _ _))) ?_; simp only [JT, picks, List.getElem?_cons_succ, List.getElem?_cons_zero])
  repeat (first | refine eS rfl rfl ?_ | refine uP rfl rfl rfl rfl ?_ | refine uQ rfl rfl rfl rfl ?_ | refine eX rfl rfl ?_ | (refine uS rfl rfl ?_ ?_; focus omega) | (refine uC rfl rfl ?_ ?_; focus (first | exact trivial | assumption | constructor <;> assumption | exact mb2 rfl rfl | exact mb4 rfl rfl rfl rfl)) | refine uW rfl rfl ?_ | refine eF rfl ?_ | refine eT rfl ?_ | (refine eA rfl rfl ?_; intro _) | (refine eB rfl rfl ?_; intro _) | (refine eN rfl rfl ?_ ?_; (focus (first | exact trivial | assumption | constructor <;> assumption | exact mb2 rfl rfl | exact mb4 rfl rfl rfl rfl)); intro _; (try simp only [List.cons_append, List.nil_append, List.append_nil])) | refine je_nil ?_ | refine tX rfl rfl ?_ | (refine tS rfl rfl ?_ ?_; focus omega) | (refine tC rfl rfl ?_ ?_; focus (first | exact trivial | assumption | constructor <;> assumption | exact mb2 rfl rfl | exact mb4 rfl rfl rfl rfl)) | refine tW rfl rfl ?_ | refine tK rfl rfl ?_ | refine Go.Vt.hq (wl_pickT rfl rfl) rfl rfl ?_ | refine Go.Vt.hq (wl_pickF rfl rfl) rfl rfl ?_ | refine jh_nil ?_ | (refine wn_new ?_; intro _) | refine jn_nil ?_)
  rw [hl]
  rcases h1 : decide (m.From.P < m.To.P) with _ | _
  · repeat (first | refine eS rfl rfl ?_ | refine uP rfl rfl rfl rfl ?_ | refine uQ rfl rfl rfl rfl ?_ | refine eX rfl rfl ?_ | (refine uS rfl rfl ?_ ?_; focus omega) | (refine uC rfl rfl ?_ ?_; focus (first | exact trivial | assumption | constructor <;> assumption | exact mb2 rfl rfl | exact mb4 rfl rfl rfl rfl)) | refine uW rfl rfl ?_ | refine eF rfl ?_ | refine eT rfl ?_ | (refine eA rfl rfl ?_; intro _) | (refine eB rfl rfl ?_; intro _) | (refine eN rfl rfl ?_ ?_; (focus (first | exact trivial | assumption | constructor <;> assumption | exact mb2 rfl rfl | exact mb4 rfl rfl rfl rfl)); intro _; (try simp only [List.cons_append, List.nil_append, List.append_nil])) | refine je_nil ?_ | refine tX rfl rfl ?_ | (refine tS rfl rfl ?_ ?_; focus omega) | (refine tC rfl rfl ?_ ?_; focus (first | exact trivial | assumption | constructor <;> assumption | exact mb2 rfl rfl | exact mb4 rfl rfl rfl rfl)) | refine tW rfl rfl ?_ | refine tK rfl rfl ?_ | refine Go.Vt.hq (wl_pickT rfl rfl) rfl rfl ?_ | refine Go.Vt.hq (wl_pickF rfl rfl) rfl rfl ?_ | refine jh_nil ?_ | (refine wn_new ?_; intro _) | refine jn_nil ?_)
    rw [he]
    rcases h2 : decide (m.From.P = m.To.P) with _ | _
    · repeat (first | refine eS rfl rfl ?_ | refine uP rfl rfl rfl rfl ?_ | refine uQ rfl rfl rfl rfl ?_ | refine eX rfl rfl ?_ | (refine uS rfl rfl ?_ ?_; focus omega) | (refine uC rfl rfl ?_ ?_; focus (first | exact trivial | assumption | constructor <;> assumption | exact mb2 rfl rfl | exact mb4 rfl rfl rfl rfl)) | refine uW rfl rfl ?_ | refine eF rfl ?_ | refine eT rfl ?_ | (refine eA rfl rfl ?_; intro _) | (refine eB rfl rfl ?_; intro _) | (refine eN rfl rfl ?_ ?_; (focus (first | exact trivial | assumption | constructor <;> assumption | exact mb2 rfl rfl | exact mb4 rfl rfl rfl rfl)); intro _; (try simp only [List.cons_append, List.nil_append, List.append_nil])) | refine je_nil ?_ | refine tX rfl rfl ?_ | (refine tS rfl rfl ?_ ?_; focus omega) | (refine tC rfl rfl ?_ ?_; focus (first | exact trivial | assumption | constructor <;> assumption | exact mb2 rfl rfl | exact mb4 rfl rfl rfl rfl)) | refine tW rfl rfl ?_ | refine tK rfl rfl ?_ | refine Go.Vt.hq (wl_pickT rfl rfl) rfl rfl ?_ | refine Go.Vt.hq (wl_pickF rfl rfl) rfl rfl ?_ | refine jh_nil ?_ | (refine wn_new ?_; intro _) | refine jn_nil ?_)
      repeat (first | refine sX rfl rfl ?_ | (refine sS rfl rfl ?_ ?_; focus omega) | (refine sC rfl rfl ?_ ?_; focus (first | exact trivial | assumption | constructor <;> assumption | exact mb2 rfl rfl | exact mb4 rfl rfl rfl rfl)) | refine cX ?_ | refine cY ?_ | (refine sA rfl rfl ?_; intro _) | refine sT rfl ?_ | refine sF rfl ?_ | (refine sR rfl ?_ ?_; focus omega) | (refine sB rfl rfl ?_; intro _) | (refine sN rfl rfl ?_ ?_; (focus (first | exact trivial | assumption | constructor <;> assumption | exact mb2 rfl rfl | exact mb4 rfl rfl rfl rfl)); intro _; (try simp only [List.cons_append, List.nil_append, List.append_nil])) | refine sW rfl rfl ?_ | refine sK rfl rfl ?_ | refine j_if rfl ?_ | refine j_else rfl ?_ | refine pkT rfl rfl rfl rfl ?_ | refine pkF rfl rfl rfl rfl ?_)
      exact jx_ret_two rfl (wr_cell rfl) (resv_tmp rfl) (fun w hw => ret_ok hw)
    · repeat (first | refine eS rfl rfl ?_ | refine uP rfl rfl rfl rfl ?_ | refine uQ rfl rfl rfl rfl ?_ | refine eX rfl rfl ?_ | (refine uS rfl rfl ?_ ?_; focus omega) | (refine uC rfl rfl ?_ ?_; focus (first | exact trivial | assumption | constructor <;> assumption | exact mb2 rfl rfl | exact mb4 rfl rfl rfl rfl)) | refine uW rfl rfl ?_ | refine eF rfl ?_ | refine eT rfl ?_ | (refine eA rfl rfl ?_; intro _) | (refine eB rfl rfl ?_; intro _) | (refine eN rfl rfl ?_ ?_; (focus (first | exact trivial | assumption | constructor <;> assumption | exact mb2 rfl rfl | exact mb4 rfl rfl rfl rfl)); intro _; (try simp only [List.cons_append, List.nil_append, List.append_nil])) | refine je_nil ?_ | refine tX rfl rfl ?_ | (refine tS rfl rfl ?_ ?_; focus omega) | (refine tC rfl rfl ?_ ?_; focus (first | exact trivial | assumption | constructor <;> assumption | exact mb2 rfl rfl | exact mb4 rfl rfl rfl rfl)) | refine tW rfl rfl ?_ | refine tK rfl rfl ?_ | refine Go.Vt.hq (wl_pickT rfl rfl) rfl rfl ?_ | refine Go.Vt.hq (wl_pickF rfl rfl) rfl rfl ?_ | refine jh_nil ?_ | (refine wn_new ?_; intro _) | refine jn_nil ?_)
      rcases h3 : m.OpenFrom with _ | _
      · repeat (first | refine eS rfl rfl ?_ | refine uP rfl rfl rfl rfl ?_ | refine uQ rfl rfl rfl rfl ?_ | refine eX rfl rfl ?_ | (refine uS rfl rfl ?_ ?_; focus omega) | (refine uC rfl rfl ?_ ?_; focus (first | exact trivial | assumption | constructor <;> assumption | exact mb2 rfl rfl | exact mb4 rfl rfl rfl rfl)) | refine uW rfl rfl ?_ | refine eF rfl ?_ | refine eT rfl ?_ | (refine eA rfl rfl ?_; intro _) | (refine eB rfl rfl ?_; intro _) | (refine eN rfl rfl ?_ ?_; (focus (first | exact trivial | assumption | constructor <;> assumption | exact mb2 rfl rfl | exact mb4 rfl rfl rfl rfl)); intro _; (try simp only [List.cons_append, List.nil_append, List.append_nil])) | refine je_nil ?_ | refine tX rfl rfl ?_ | (refine tS rfl rfl ?_ ?_; focus omega) | (refine tC rfl rfl ?_ ?_; focus (first | exact trivial | assumption | constructor <;> assumption | exact mb2 rfl rfl | exact mb4 rfl rfl rfl rfl)) | refine tW rfl rfl ?_ | refine tK rfl rfl ?_ | refine Go.Vt.hq (wl_pickT rfl rfl) rfl rfl ?_ | refine Go.Vt.hq (wl_pickF rfl rfl) rfl rfl ?_ | refine jh_nil ?_ | (refine wn_new ?_; intro _) | refine jn_nil ?_)
        repeat (first | refine sX rfl rfl ?_ | (refine sS rfl rfl ?_ ?_; focus omega) | (refine sC rfl rfl ?_ ?_; focus (first | exact trivial | assumption | constructor <;> assumption | exact mb2 rfl rfl | exact mb4 rfl rfl rfl rfl)) | refine cX ?_ | refine cY ?_ | (refine sA rfl rfl ?_; intro _) | refine sT rfl ?_ | refine sF rfl ?_ | (refine sR rfl ?_ ?_; focus omega) | (refine sB rfl rfl ?_; intro _) | (refine sN rfl rfl ?_ ?_; (focus (first | exact trivial | assumption | constructor <;> assumption | exact mb2 rfl rfl | exact mb4 rfl rfl rfl rfl)); intro _; (try simp only [List.cons_append, List.nil_append, List.append_nil])) | refine sW rfl rfl ?_ | refine sK rfl rfl ?_ | refine j_if rfl ?_ | refine j_else rfl ?_ | refine pkT rfl rfl rfl rfl ?_ | refine pkF rfl rfl rfl rfl ?_)
        exact jx_ret_two rfl (wr_cell rfl) (resv_tmp rfl) (fun w hw => ret_ok hw)
      · repeat (first | refine eS rfl rfl ?_ | refine uP rfl rfl rfl rfl ?_ | refine uQ rfl rfl rfl rfl ?_ | refine eX rfl rfl ?_ | (refine uS rfl rfl ?_ ?_; focus omega) | (refine uC rfl rfl ?_ ?_; focus (first | exact trivial | assumption | constructor <;> assumption | exact mb2 rfl rfl | exact mb4 rfl rfl rfl rfl)) | refine uW rfl rfl ?_ | refine eF rfl ?_ | refine eT rfl ?_ | (refine eA rfl rfl ?_; intro _) | (refine eB rfl rfl ?_; intro _) | (refine eN rfl rfl ?_ ?_; (focus (first | exact trivial | assumption | constructor <;> assumption | exact mb2 rfl rfl | exact mb4 rfl rfl rfl rfl)); intro _; (try simp only [List.cons_append, List.nil_append, List.append_nil])) | refine je_nil ?_ | refine tX rfl rfl ?_ | (refine tS rfl rfl ?_ ?_; focus omega) | (refine tC rfl rfl ?_ ?_; focus (first | exact trivial | assumption | constructor <;> assumption | exact mb2 rfl rfl | exact mb4 rfl rfl rfl rfl)) | refine tW rfl rfl ?_ | refine tK rfl rfl ?_ | refine Go.Vt.hq (wl_pickT rfl rfl) rfl rfl ?_ | refine Go.Vt.hq (wl_pickF rfl rfl) rfl rfl ?_ | refine jh_nil ?_ | (refine wn_new ?_; intro _) | refine jn_nil ?_)
        repeat (first | refine sX rfl rfl ?_ | (refine sS rfl rfl ?_ ?_; focus omega) | (refine sC rfl rfl ?_ ?_; focus (first | exact trivial | assumption | constructor <;> assumption | exact mb2 rfl rfl | exact mb4 rfl rfl rfl rfl)) | refine cX ?_ | refine cY ?_ | (refine sA rfl rfl ?_; intro _) | refine sT rfl ?_ | refine sF rfl ?_ | (refine sR rfl ?_ ?_; focus omega) | (refine sB rfl rfl ?_; intro _) | (refine sN rfl rfl ?_ ?_; (focus (first | exact trivial | assumption | constructor <;> assumption | exact mb2 rfl rfl | exact mb4 rfl rfl rfl rfl)); intro _; (try simp only [List.cons_append, List.nil_append, List.append_nil])) | refine sW rfl rfl ?_ | refine sK rfl rfl ?_ | refine j_if rfl ?_ | refine j_else rfl ?_ | refine pkT rfl rfl rfl rfl ?_ | refine pkF rfl rfl rfl rfl ?_)
        exact jx_ret_two rfl (wr_cell rfl) (resv_tmp rfl) (fun w hw => ret_ok hw)
  · repeat (first | refine eS rfl rfl ?_ | refine uP rfl rfl rfl rfl ?_ | refine uQ rfl rfl rfl rfl ?_ | refine eX rfl rfl ?_ | (refine uS rfl rfl ?_ ?_; focus omega) | (refine uC rfl rfl ?_ ?_; focus (first | exact trivial | assumption | constructor <;> assumption | exact mb2 rfl rfl | exact mb4 rfl rfl rfl rfl)) | refine uW rfl rfl ?_ | refine eF rfl ?_ | refine eT rfl ?_ | (refine eA rfl rfl ?_; intro _) | (refine eB rfl rfl ?_; intro _) | (refine eN rfl rfl ?_ ?_; (focus (first | exact trivial | assumption | constructor <;> assumption | exact mb2 rfl rfl | exact mb4 rfl rfl rfl rfl)); intro _; (try simp only [List.cons_append, List.nil_append, List.append_nil])) | refine je_nil ?_ | refine tX rfl rfl ?_ | (refine tS rfl rfl ?_ ?_; focus omega) | (refine tC rfl rfl ?_ ?_; focus (first | exact trivial | assumption | constructor <;> assumption | exact mb2 rfl rfl | exact mb4 rfl rfl rfl rfl)) | refine tW rfl rfl ?_ | refine tK rfl rfl ?_ | refine Go.Vt.hq (wl_pickT rfl rfl) rfl rfl ?_ | refine Go.Vt.hq (wl_pickF rfl rfl) rfl rfl ?_ | refine jh_nil ?_ | (refine wn_new ?_; intro _) | refine jn_nil ?_)
    repeat (first | refine sX rfl rfl ?_ | (refine sS rfl rfl ?_ ?_; focus omega) | (refine sC rfl rfl ?_ ?_; focus (first | exact trivial | assumption | constructor <;> assumption | exact mb2 rfl rfl | exact mb4 rfl rfl rfl rfl)) | refine cX ?_ | refine cY ?_ | (refine sA rfl rfl ?_; intro _) | refine sT rfl ?_ | refine sF rfl ?_ | (refine sR rfl ?_ ?_; focus omega) | (refine sB rfl rfl ?_; intro _) | (refine sN rfl rfl ?_ ?_; (focus (first | exact trivial | assumption | constructor <;> assumption | exact mb2 rfl rfl | exact mb4 rfl rfl rfl rfl)); intro _; (try simp only [List.cons_append, List.nil_append, List.append_nil])) | refine sW rfl rfl ?_ | refine sK rfl rfl ?_ | refine j_if rfl ?_ | refine j_else rfl ?_ | refine pkT rfl rfl rfl rfl ?_ | refine pkF rfl rfl rfl rfl ?_)
    exact jx_ret_two rfl (wr_cell rfl) (resv_tmp rfl) (fun w hw => ret_ok hw)⟩
end Go.Vt
/- The part of a value during a period, walked. Conditions: those that each statement names. -/
set_option linter.unusedSimpArgs false
set_option linter.unusedVariables false
set_option maxRecDepth 100000
namespace Go.Vt
open Go.RowKit Go.Proofs
open Fv (va red)
abbrev rI := r_api_Interval
/-- What a unit has in common with the first intervals of a list; the same for all units. -/
def ri (u : UL) (ds : List R_api_Interval) : Nat → List UL
  | 0 => []
  | k + 1 => ri u ds k ++ (if mtO u.In (gi ds (k : Int)) = true then [⟨mt u.In (gi ds (k : Int)), u.F⟩] else [])
def ro (us : List UL) (ds : List R_api_Interval) : Nat → List UL
  | 0 => []
  | m + 1 => ro us ds m ++ ri (gi us (m : Int)) ds ds.length
theorem ri_len (u : UL) (ds : List R_api_Interval) : ∀ k, (ri u ds k).length ≤ k
  | 0 => Nat.le_refl _
  | k + 1 => by
    have := ri_len u ds k
    rw [ri, List.length_append]
    split <;> simp <;> omega
theorem ro_len (us : List UL) (ds : List R_api_Interval) : ∀ m, (ro us ds m).length ≤ m * ds.length
  | 0 => by simp [ro]
  | m + 1 => by
    have := ro_len us ds m
    have := ri_len (gi us (m : Int)) ds ds.length
    rw [ro, List.length_append, Nat.add_mul, Nat.one_mul]
    omega
theorem pnorm_spec (v : Value) (us : List UL) (w : World) (hv : ArgS w v rU us) (hn : us = [] → v = .slice none 0 0) (hl : us.length ≤ 19) (hok : ∀ u ∈ us, UIn u) :
    Calls Tryz.prog 152 [vLines, v].toArray w (RetM (SlS rU 36 (nrmR us)) (fun s => vSl s) (fun s => mS 163 s) w) := by
  have hN : ∀ L, LstN w L v UL rU us := fun L => ⟨fun w' hw' => hv.to hw'.ext, hn⟩
  refine fn_intro Tryz.func152 rfl Tryz.ntmps152 rfl ?_
  repeat (first | refine sX rfl rfl ?_ | (refine sS rfl rfl ?_ ?_; focus omega) | (refine sC rfl rfl ?_ ?_; focus (exact ⟨hl, hok⟩)) | refine cX ?_ | refine cY ?_ | (refine sA rfl rfl ?_; intro _) | refine sT rfl ?_ | refine sF rfl ?_ | (refine sR rfl ?_ ?_; focus omega) | (refine sB rfl rfl ?_; intro _) | (refine sN rfl rfl ?_ ?_; (focus (exact ⟨hl, hok⟩)); intro _; (try simp only [List.cons_append, List.nil_append, List.append_nil])) | refine sW rfl rfl ?_ | refine sK rfl rfl ?_ | refine j_if rfl ?_ | refine j_else rfl ?_ | refine pkT rfl rfl rfl rfl ?_ | refine pkF rfl rfl rfl rfl ?_)
  rename_i s
  exact jx_ret_tmp rfl rfl (fun w hw => ⟨s, rfl, hw.sub (by repeat (first | exact List.Sublist.refl _ | exact List.nil_sublist _ | exact List.sublist_append_left _ _ | refine List.Sublist.append_left ?_ _ | refine List.Sublist.cons_cons _ ?_ | refine List.Sublist.cons _ ?_ | refine List.Sublist.trans ?_ (List.sublist_append_right _ _)))⟩)
instance sr_pnorm (w0 : World) (L : List Blk) (v : Value) (us : List UL) [h : LstN w0 L v UL rU us] : SpecR Tryz.prog w0 L 152 [vLines, v] (SlS rU 36 (nrmR us)) (fun s => vSl s) (fun s => mS 163 s) (us.length ≤ 19 ∧ ∀ u ∈ us, UIn u) := ⟨fun hp w hw => pnorm_spec v us w (h.out w hw) h.nil hp.1 hp.2⟩
theorem restrict_spec (v v2 : Value) (us : List UL) (ds : List R_api_Interval) (w : World) (hv : ArgS w v rU us) (hd : ArgS w v2 rI ds) (hl : us.length ≤ 1024) (hl2 : ds.length ≤ 1024) (h19 : (ro us ds us.length).length ≤ 19) (hok : ∀ u ∈ us, IvOk BQ u.In) (hok2 : ∀ d ∈ ds, IvOk BQ d) (hin : ∀ u ∈ ro us ds us.length, UIn u) :
    Calls Tryz.prog 113 [vLines, v, v2].toArray w (RetM (SlS rU 36 (nrmR (ro us ds us.length))) (fun s => vSl s) (fun s => mS 163 s) w) := by
  refine fn_intro Tryz.func113 rfl Tryz.ntmps113 rfl ?_
  obtain ⟨p, cp, rfl⟩ := hv.form
  obtain ⟨p2, cp2, rfl⟩ := hd.form
  repeat (first | refine sX rfl rfl ?_ | (refine sS rfl rfl ?_ ?_; focus omega) | (refine sC rfl rfl ?_ ?_; focus (first | exact trivial | assumption | constructor <;> assumption | exact mb2 rfl rfl | exact mb4 rfl rfl rfl rfl)) | refine cX ?_ | refine cY ?_ | (refine sA rfl rfl ?_; intro _) | refine sT rfl ?_ | refine sF rfl ?_ | (refine sR rfl ?_ ?_; focus omega) | (refine sB rfl rfl ?_; intro _) | (refine sN rfl rfl ?_ ?_; (focus (first | exact trivial | assumption | constructor <;> assumption | exact mb2 rfl rfl | exact mb4 rfl rfl rfl rfl)); intro _; (try simp only [List.cons_append, List.nil_append, List.append_nil])) | refine sW rfl rfl ?_ | refine sK rfl rfl ?_ | refine j_if rfl ?_ | refine j_else rfl ?_ | refine pkT rfl rfl rfl rfl ?_ | refine pkF rfl rfl rfl rfl ?_)
  refine j_loop (S := (m : Nat) × SlS rU 36 (ro us ds m)) (fun s => s.1 ≤ us.length) (fun s => [(0, vLines), (2, .slice p2 ds.length cp2), (7, vSl s.2), (14, .slice p us.length cp), (15, .int .i64 us.length), (16, .int .i64 (s.1 : Nat))]) (fun s => mS 163 s.2) (fun s => us.length - s.1) ⟨0, SlS.no⟩ (Nat.zero_le _) (by repeat (first | exact sub_nil | refine sub_cons rfl ?_ | refine sub_cons' rfl (by congr 1; omega) ?_)) (by repeat (first | exact List.Sublist.refl _ | exact List.nil_sublist _ | refine List.Sublist.cons_cons _ ?_ | refine List.Sublist.cons _ ?_)) (fun s hm => ?_)
  obtain ⟨m, s⟩ := s
  simp only at hm ⊢
  repeat (first | refine sX rfl rfl ?_ | (refine sS rfl rfl ?_ ?_; focus omega) | (refine sC rfl rfl ?_ ?_; focus (first | exact trivial | assumption | constructor <;> assumption | exact mb2 rfl rfl | exact mb4 rfl rfl rfl rfl)) | refine cX ?_ | refine cY ?_ | (refine sA rfl rfl ?_; intro _) | refine sT rfl ?_ | refine sF rfl ?_ | (refine sR rfl ?_ ?_; focus omega) | (refine sB rfl rfl ?_; intro _) | (refine sN rfl rfl ?_ ?_; (focus (first | exact trivial | assumption | constructor <;> assumption | exact mb2 rfl rfl | exact mb4 rfl rfl rfl rfl)); intro _; (try simp only [List.cons_append, List.nil_append, List.append_nil])) | refine sW rfl rfl ?_ | refine sK rfl rfl ?_ | refine j_if rfl ?_ | refine j_else rfl ?_ | refine pkT rfl rfl rfl rfl ?_ | refine pkF rfl rfl rfl rfl ?_)
  refine j_cond rfl (fun h => ?_) (fun h => ?_)
  · have hlt : m < us.length := by have := of_decide_eq_true h; omega
    have hne : us ≠ [] := fun h0 => by rw [h0] at hlt; simp at hlt
    obtain ⟨bw, ow, cw, hvw, hcw, hrow⟩ := hv.blk (k := 35) hne []
    injection hvw with e1 e2 e3
    subst e1
    subst e3
    have hrow' : ∀ L, RowC w L bw ow UL rU us := fun L => ⟨fun w' hw' => hrow.out w' (hw'.sub (List.nil_sublist _))⟩
    have hro := ro_len us ds m
    have hmul : m * ds.length ≤ 1024 * 1024 := Nat.mul_le_mul (by omega) hl2
    repeat (first | refine sX rfl rfl ?_ | (refine sS rfl rfl ?_ ?_; focus omega) | (refine sC rfl rfl ?_ ?_; focus (first | exact trivial | assumption | constructor <;> assumption | exact mb2 rfl rfl | exact mb4 rfl rfl rfl rfl)) | refine cX ?_ | refine cY ?_ | (refine sA rfl rfl ?_; intro _) | refine sT rfl ?_ | refine sF rfl ?_ | (refine sR rfl ?_ ?_; focus omega) | (refine sB rfl rfl ?_; intro _) | (refine sN rfl rfl ?_ ?_; (focus (first | exact trivial | assumption | constructor <;> assumption | exact mb2 rfl rfl | exact mb4 rfl rfl rfl rfl)); intro _; (try simp only [List.cons_append, List.nil_append, List.append_nil])) | refine sW rfl rfl ?_ | refine sK rfl rfl ?_ | refine j_if rfl ?_ | refine j_else rfl ?_ | refine pkT rfl rfl rfl rfl ?_ | refine pkF rfl rfl rfl rfl ?_)
    rename_i b9
    refine j_permL (mS 163 s ++ [⟨b9, rU (gi us (m : Int)), 163⟩]) (List.perm_append_singleton _ _).symm ?_
    refine j_loop (S := (xs : List UL) × Nat × SlS rU 36 xs) (fun s => s.2.1 ≤ ds.length ∧ s.1 = ro us ds m ++ ri (gi us (m : Int)) ds s.2.1) (fun s => [(0, vLines), (2, .slice p2 ds.length cp2), (7, vSl s.2.2), (9, .pointer (some ⟨b9, 0, none⟩)), (14, .slice (some ⟨bw, ow, none⟩) us.length cp), (15, .int .i64 us.length), (16, .int .i64 (m : Nat)), (20, .slice p2 ds.length cp2), (21, .int .i64 ds.length), (22, .int .i64 (s.2.1 : Nat))]) (fun s => mS 163 s.2.2 ++ [⟨b9, rU (gi us (m : Int)), 163⟩]) (fun s => ds.length - s.2.1) ⟨ro us ds m, 0, s⟩ ⟨Nat.zero_le _, (List.append_nil _).symm⟩ (by repeat (first | exact sub_nil | refine sub_cons rfl ?_ | refine sub_cons' rfl (by congr 1; omega) ?_)) (by repeat (first | exact List.Sublist.refl _ | exact List.nil_sublist _ | exact List.sublist_append_left _ _ | refine List.Sublist.append_left ?_ _ | refine List.Sublist.cons_cons _ ?_ | refine List.Sublist.cons _ ?_ | refine List.Sublist.trans ?_ (List.sublist_append_right _ _))) (fun s hk => ?_)
    obtain ⟨xs, k, s⟩ := s
    obtain ⟨hk, hxs⟩ := hk
    simp only at hk hxs ⊢
    have hxl : xs.length ≤ 1049600 := by
      have := ri_len (gi us (m : Int)) ds k
      rw [hxs, List.length_append]
      omega
    repeat (first | refine sX rfl rfl ?_ | (refine sS rfl rfl ?_ ?_; focus omega) | (refine sC rfl rfl ?_ ?_; focus (first | exact trivial | assumption | constructor <;> assumption | exact mb2 rfl rfl | exact mb4 rfl rfl rfl rfl)) | refine cX ?_ | refine cY ?_ | (refine sA rfl rfl ?_; intro _) | refine sT rfl ?_ | refine sF rfl ?_ | (refine sR rfl ?_ ?_; focus omega) | (refine sB rfl rfl ?_; intro _) | (refine sN rfl rfl ?_ ?_; (focus (first | exact trivial | assumption | constructor <;> assumption | exact mb2 rfl rfl | exact mb4 rfl rfl rfl rfl)); intro _; (try simp only [List.cons_append, List.nil_append, List.append_nil])) | refine sW rfl rfl ?_ | refine sK rfl rfl ?_ | refine j_if rfl ?_ | refine j_else rfl ?_ | refine pkT rfl rfl rfl rfl ?_ | refine pkF rfl rfl rfl rfl ?_)
    refine j_cond rfl (fun h => ?_) (fun h => ?_)
    · have hlt2 : k < ds.length := by have := of_decide_eq_true h; omega
      have hne2 : ds ≠ [] := fun h0 => by rw [h0] at hlt2; simp at hlt2
      obtain ⟨bd, od, cd, hvd, hcd, hrowd⟩ := hd.blk (k := 19) hne2 []
      injection hvd with e1 e2 e3
      subst e1
      subst e3
      have hrowd' : ∀ L, RowC w L bd od R_api_Interval rI ds := fun L => ⟨fun w' hw' => hrowd.out w' (hw'.sub (List.nil_sublist _))⟩
      have ho := hok _ (gi_mem (i := (m : Int)) (xs := us) (by omega))
      have ho2 := hok2 _ (gi_mem (i := (k : Int)) (xs := ds) (by omega))
      repeat (first | refine sX rfl rfl ?_ | (refine sS rfl rfl ?_ ?_; focus omega) | (refine sC rfl rfl ?_ ?_; focus (exact ⟨ho, ho2⟩)) | refine cX ?_ | refine cY ?_ | (refine sA rfl rfl ?_; intro _) | refine sT rfl ?_ | refine sF rfl ?_ | (refine sR rfl ?_ ?_; focus omega) | (refine sB rfl rfl ?_; intro _) | (refine sN rfl rfl ?_ ?_; (focus (exact ⟨ho, ho2⟩)); intro _; (try simp only [List.cons_append, List.nil_append, List.append_nil])) | refine sW rfl rfl ?_ | refine sK rfl rfl ?_ | refine j_if rfl ?_ | refine j_else rfl ?_ | refine pkT rfl rfl rfl rfl ?_ | refine pkF rfl rfl rfl rfl ?_)
      rcases hmo : mtO (gi us (m : Int)).In (gi ds (k : Int)) with _ | _
      · have e : xs = ro us ds m ++ ri (gi us (m : Int)) ds (k + 1) := by rw [ri, hmo, if_neg (by decide), List.append_nil]; exact hxs
        repeat (first | refine sX rfl rfl ?_ | (refine sS rfl rfl ?_ ?_; focus omega) | (refine sC rfl rfl ?_ ?_; focus (exact ⟨by omega, by omega⟩)) | refine cX ?_ | refine cY ?_ | (refine sA rfl rfl ?_; intro _) | refine sT rfl ?_ | refine sF rfl ?_ | (refine sR rfl ?_ ?_; focus omega) | (refine sB rfl rfl ?_; intro _) | (refine sN rfl rfl ?_ ?_; (focus (exact ⟨by omega, by omega⟩)); intro _; (try simp only [List.cons_append, List.nil_append, List.append_nil])) | refine sW rfl rfl ?_ | refine sK rfl rfl ?_ | refine j_if rfl ?_ | refine j_else rfl ?_ | refine pkT rfl rfl rfl rfl ?_ | refine pkF rfl rfl rfl rfl ?_)
        exact jx_loop ⟨xs, k + 1, s⟩ ⟨hlt2, e⟩ (by repeat (first | exact sub_nil | refine sub_cons rfl ?_ | refine sub_cons' rfl (by congr 1; omega) ?_)) (by repeat (first | exact List.Sublist.refl _ | exact List.nil_sublist _ | exact List.sublist_append_left _ _ | refine List.Sublist.append_left ?_ _ | refine List.Sublist.cons_cons _ ?_ | refine List.Sublist.cons _ ?_ | refine List.Sublist.trans ?_ (List.sublist_append_right _ _))) (by show ds.length - (k + 1) < ds.length - k; omega)
      · have e : xs ++ [⟨mt (gi us (m : Int)).In (gi ds (k : Int)), (gi us (m : Int)).F⟩] = ro us ds m ++ ri (gi us (m : Int)) ds (k + 1) := by rw [ri, hmo, if_pos rfl, ← List.append_assoc, ← hxs]
        repeat (first | refine sX rfl rfl ?_ | (refine sS rfl rfl ?_ ?_; focus omega) | (refine sC rfl rfl ?_ ?_; focus (first | exact trivial | assumption | constructor <;> assumption | exact mb2 rfl rfl | exact mb4 rfl rfl rfl rfl)) | refine cX ?_ | refine cY ?_ | (refine sA rfl rfl ?_; intro _) | refine sT rfl ?_ | refine sF rfl ?_ | (refine sR rfl ?_ ?_; focus omega) | (refine sB rfl rfl ?_; intro _) | (refine sN rfl rfl ?_ ?_; (focus (first | exact trivial | assumption | constructor <;> assumption | exact mb2 rfl rfl | exact mb4 rfl rfl rfl rfl)); intro _; (try simp only [List.cons_append, List.nil_append, List.append_nil])) | refine sW rfl rfl ?_ | refine sK rfl rfl ?_ | refine j_if rfl ?_ | refine j_else rfl ?_ | refine pkT rfl rfl rfl rfl ?_ | refine pkF rfl rfl rfl rfl ?_)
        refine sU rfl rfl ?_ ?_ ?_ ?_
        · rfl
        · rfl
        · exact ⟨by decide, by omega, by omega⟩
        intro s'
        repeat (first | refine sX rfl rfl ?_ | (refine sS rfl rfl ?_ ?_; focus omega) | (refine sC rfl rfl ?_ ?_; focus (exact ⟨by omega, by omega⟩)) | refine cX ?_ | refine cY ?_ | (refine sA rfl rfl ?_; intro _) | refine sT rfl ?_ | refine sF rfl ?_ | (refine sR rfl ?_ ?_; focus omega) | (refine sB rfl rfl ?_; intro _) | (refine sN rfl rfl ?_ ?_; (focus (exact ⟨by omega, by omega⟩)); intro _; (try simp only [List.cons_append, List.nil_append, List.append_nil])) | refine sW rfl rfl ?_ | refine sK rfl rfl ?_ | refine j_if rfl ?_ | refine j_else rfl ?_ | refine pkT rfl rfl rfl rfl ?_ | refine pkF rfl rfl rfl rfl ?_)
        exact jx_loop ⟨_, k + 1, s'⟩ ⟨hlt2, e⟩ (by repeat (first | exact sub_nil | refine sub_cons rfl ?_ | refine sub_cons' rfl (by congr 1; omega) ?_)) (by repeat (first | exact List.Sublist.refl _ | exact List.nil_sublist _ | exact List.sublist_append_left _ _ | refine List.Sublist.append_left ?_ _ | refine List.Sublist.cons_cons _ ?_ | refine List.Sublist.cons _ ?_ | refine List.Sublist.trans ?_ (List.sublist_append_right _ _))) (by show ds.length - (k + 1) < ds.length - k; omega)
    · have hge : k = ds.length := by have := of_decide_eq_false h; omega
      subst hge
      repeat (first | refine sX rfl rfl ?_ | (refine sS rfl rfl ?_ ?_; focus omega) | (refine sC rfl rfl ?_ ?_; focus (exact ⟨by omega, by omega⟩)) | refine cX ?_ | refine cY ?_ | (refine sA rfl rfl ?_; intro _) | refine sT rfl ?_ | refine sF rfl ?_ | (refine sR rfl ?_ ?_; focus omega) | (refine sB rfl rfl ?_; intro _) | (refine sN rfl rfl ?_ ?_; (focus (exact ⟨by omega, by omega⟩)); intro _; (try simp only [List.cons_append, List.nil_append, List.append_nil])) | refine sW rfl rfl ?_ | refine sK rfl rfl ?_ | refine j_if rfl ?_ | refine j_else rfl ?_ | refine pkT rfl rfl rfl rfl ?_ | refine pkF rfl rfl rfl rfl ?_)
      subst hxs
      exact jx_loop ⟨m + 1, s⟩ hlt (by repeat (first | exact sub_nil | refine sub_cons rfl ?_ | refine sub_cons' rfl (by congr 1; omega) ?_)) (by repeat (first | exact List.Sublist.refl _ | exact List.nil_sublist _ | exact List.sublist_append_left _ _ | refine List.Sublist.append_left ?_ _ | refine List.Sublist.cons_cons _ ?_ | refine List.Sublist.cons _ ?_ | refine List.Sublist.trans ?_ (List.sublist_append_right _ _))) (by show us.length - (m + 1) < us.length - m; omega)
  · have hge : m = us.length := by have := of_decide_eq_false h; omega
    subst hge
    repeat (first | refine sX rfl rfl ?_ | (refine sS rfl rfl ?_ ?_; focus omega) | (refine sC rfl rfl ?_ ?_; focus (exact ⟨h19, hin⟩)) | refine cX ?_ | refine cY ?_ | (refine sA rfl rfl ?_; intro _) | refine sT rfl ?_ | refine sF rfl ?_ | (refine sR rfl ?_ ?_; focus omega) | (refine sB rfl rfl ?_; intro _) | (refine sN rfl rfl ?_ ?_; (focus (exact ⟨h19, hin⟩)); intro _; (try simp only [List.cons_append, List.nil_append, List.append_nil])) | refine sW rfl rfl ?_ | refine sK rfl rfl ?_ | refine j_if rfl ?_ | refine j_else rfl ?_ | refine pkT rfl rfl rfl rfl ?_ | refine pkF rfl rfl rfl rfl ?_)
    rename_i s2
    exact jx_ret_tmp rfl rfl (fun w hw => ⟨s2, rfl, hw.sub (by repeat (first | exact List.Sublist.refl _ | exact List.nil_sublist _ | exact List.sublist_append_left _ _ | refine List.Sublist.append_left ?_ _ | refine List.Sublist.cons_cons _ ?_ | refine List.Sublist.cons _ ?_ | refine List.Sublist.trans ?_ (List.sublist_append_right _ _)))⟩)
end Go.Vt
/- What the moving point through samples says: plain. Conditions: those that each statement names. -/
set_option linter.unusedSimpArgs false
set_option linter.unusedVariables false
set_option maxRecDepth 100000
namespace Go.Vt
open Go.RowKit Go.Proofs
/-- The samples' times increase. -/
def Inc (pts : List SS) : Prop := ∀ i : Nat, i + 1 < pts.length → (gi pts (i : Int)).T < (gi pts ((i + 1 : Nat) : Int)).T
theorem Inc.lt {pts : List SS} (h : Inc pts) : ∀ {j i : Nat}, i < j → j < pts.length → (gi pts (i : Int)).T < (gi pts (j : Int)).T
  | 0, i, hij, _ => by omega
  | j + 1, i, hij, hj => by
    have h1 := h j hj
    rcases (by omega : i < j ∨ i = j) with h2 | h2
    · have := h.lt h2 (by omega)
      grind
    · subst h2; exact h1
theorem Inc.le {pts : List SS} (h : Inc pts) {i j : Nat} (hij : i ≤ j) (hj : j < pts.length) : (gi pts (i : Int)).T ≤ (gi pts (j : Int)).T := by
  rcases (by omega : i < j ∨ i = j) with h1 | h1
  · exact Rat.le_of_lt (h.lt h1 hj)
  · subst h1; exact Rat.le_refl
theorem sgs_gi (pts : List SS) : ∀ m (i : Nat), i < m → gi (sgs pts m) (i : Int) = sgU pts i
  | 0, i, h => by omega
  | m + 1, i, h => by
    have hl := sgs_len pts m
    rw [gi_nat (by rw [sgs_len]; exact h)]
    simp only [sgs]
    rcases (by omega : i < m ∨ i = m) with h1 | h1
    · rw [List.getElem_append_left (by omega), ← gi_nat (by omega)]
      exact sgs_gi pts m i h1
    · subst h1
      rw [List.getElem_append_right (by omega)]
      simp [hl]
/-- The straight ways as plain units. -/
def sgW (pts : List SS) (m : Nat) : List UL := mpN toU (sgs pts m) (sgs pts m).length
theorem sgW_map (pts : List SS) (m : Nat) : sgW pts m = (sgs pts m).map toU := mpN_all _ _
theorem sgW_len (pts : List SS) (m : Nat) : (sgW pts m).length = m := by rw [sgW_map, List.length_map, sgs_len]
theorem sgW_get {pts : List SS} {m i : Nat} (h : i < m) : gi (sgW pts m) (i : Int) = toU (sgU pts i) := by
  rw [gi_nat (by rw [sgW_len]; exact h)]
  simp only [sgW_map, List.getElem_map]
  rw [← gi_nat (by rw [sgs_len]; exact h), sgs_gi pts m i h]
theorem sgW_mem {pts : List SS} {m : Nat} {u : UL} (h : u ∈ sgW pts m) : ∃ i, i < m ∧ u = toU (sgU pts i) := by
  rw [sgW_map] at h
  obtain ⟨x, hx, rfl⟩ := List.mem_map.1 h
  obtain ⟨i, h1, rfl⟩ := sgs_mem pts m hx
  exact ⟨i, h1, rfl⟩
theorem sgW_val {pts : List SS} (hB : Bnd pts) (hi : Inc pts) {m : Nat} (hm : m + 1 ≤ pts.length) : UVal (sgW pts m) := by
  refine ⟨sgs_in hB m, fun u hu => ?_⟩
  obtain ⟨i, h1, rfl⟩ := sgW_mem hu
  exact .inl (hi i (by omega))
theorem sgW_pw {pts : List SS} (hB : Bnd pts) (hi : Inc pts) {m : Nat} (hm : m + 1 ≤ pts.length) : ((sgW pts m).map absU).Pairwise GU.bfr := by
  have hv := sgW_val hB hi hm
  refine pw_of_next (fun u hu => ?_) (fun i h => ?_)
  · obtain ⟨x, hx, rfl⟩ := List.mem_map.1 hu
    exact hv.v x hx
  · rw [List.length_map, sgW_len] at h
    rw [List.getElem_map, List.getElem_map, ← gi_nat (by rw [sgW_len]; omega), ← gi_nat (by rw [sgW_len]; exact h), sgW_get (by omega), sgW_get h]
    refine .inr ⟨rfl, .inr ?_⟩
    show decide ((1 : Int) < ((i + 1 + 1 : Nat) : Int)) = true
    exact decide_eq_true (by omega)
theorem toU_ofU (us : List UL) : mpN toU (mpN ofU us us.length) (mpN ofU us us.length).length = us := by
  rw [mpN_all, mpN_all, List.map_map]
  have : ∀ u ∈ us, (toU ∘ ofU) u = id u := fun u _ => rfl
  rw [List.map_congr_left this, List.map_id]
theorem mNorm_U (us : List PU) : mpN toU (mNorm us) (mNorm us).length = nrmR (mpN toU us us.length) := toU_ofU _
/-- The moving point through samples: no error, and what it says. -/
theorem frS_law {pts : List SS} (hB : Bnd pts) (hi : Inc pts) (h2 : 2 ≤ pts.length) : frE pts = 0 ∧ NF ((mpN toU (frS pts) (frS pts).length).map absU) ∧ (∀ u ∈ mpN toU (frS pts) (frS pts).length, UOk u) ∧ ∀ t v, Has ((mpN toU (frS pts) (frS pts).length).map absU) t v ↔ Has ((sgW pts (pts.length - 1)).map absU) t v := by
  have hv := sgW_val hB hi (m := pts.length - 1) (by omega)
  have hp := sgW_pw hB hi (m := pts.length - 1) (by omega)
  have hd : ((sgW pts (pts.length - 1)).map absU).Pairwise Dis := hp.imp fun h => h.Dis
  have e1 : frS pts = mNorm (sgs pts (pts.length - 1)) := by unfold frS; rw [if_neg (by omega)]
  have e2 : frE pts = nrmE (sgW pts (pts.length - 1)) := by unfold frE; rw [if_neg (by omega)]; rfl
  have e3 : mpN toU (frS pts) (frS pts).length = nrmR (sgW pts (pts.length - 1)) := by rw [e1, mNorm_U]; rfl
  obtain ⟨n1, n2⟩ := nrm_nf hv hd
  rw [e3]
  exact ⟨by rw [e2]; exact (nrmE_0 hv).2 hd, n1, nrmR_ok hv.i, n2⟩
end Go.Vt
/- What the part of a value during a period says: plain. Conditions: those that each statement names. -/
set_option linter.unusedSimpArgs false
set_option linter.unusedVariables false
set_option maxRecDepth 100000
namespace Go.Vt
open Go.RowKit Go.Proofs
open Fv (va red)
def memI (I : R_api_Interval) (t : Rat) : Prop := (I.From.P < t ∨ (I.From.P = t ∧ I.OpenFrom = false)) ∧ (t < I.To.P ∨ (t = I.To.P ∧ I.OpenTo = false))
def okI (I : R_api_Interval) : Prop := I.From.P < I.To.P ∨ (I.From.P = I.To.P ∧ I.OpenFrom = false ∧ I.OpenTo = false)
theorem memI_ok {I : R_api_Interval} {t : Rat} (h : memI I t) : okI I := by
  unfold memI okI at *
  grind
theorem mt_mem {a b : R_api_Interval} {t : Rat} : memI (mt a b) t ↔ memI a t ∧ memI b t := by
  unfold memI mt mtF mtT
  split <;> split <;> (try split) <;> (try split) <;> simp only [Bool.or_eq_false_iff] <;> grind
theorem mtO_iff {a b : R_api_Interval} : mtO a b = true ↔ okI (mt a b) := by
  unfold mtO okI
  simp
theorem has_map {us : List UL} {t : Rat} {v : R_api_Point} : Has (us.map absU) t v ↔ ∃ u ∈ us, memI u.In t ∧ pos u.F t = v := by
  unfold Has
  constructor
  · rintro ⟨x, hx, h1, h2⟩
    obtain ⟨u, hu, rfl⟩ := List.mem_map.1 hx
    exact ⟨u, hu, h1, h2⟩
  · rintro ⟨u, hu, h1, h2⟩
    exact ⟨_, List.mem_map.2 ⟨u, hu, rfl⟩, h1, h2⟩
theorem ri_mem {u x : UL} {ds : List R_api_Interval} : ∀ {k : Nat}, k ≤ ds.length → (x ∈ ri u ds k ↔ ∃ j : Nat, j < k ∧ mtO u.In (gi ds (j : Int)) = true ∧ x = ⟨mt u.In (gi ds (j : Int)), u.F⟩)
  | 0, _ => by simp [ri]
  | k + 1, hk => by
    rw [ri, List.mem_append, ri_mem (by omega)]
    constructor
    · rintro (⟨j, h1, h2⟩ | h1)
      · exact ⟨j, by omega, h2⟩
      · split at h1
        · rename_i hm
          rw [List.mem_singleton] at h1
          exact ⟨k, by omega, hm, h1⟩
        · cases h1
    · rintro ⟨j, h1, h2, h3⟩
      rcases (by omega : j < k ∨ j = k) with h4 | h4
      · exact .inl ⟨j, h4, h2, h3⟩
      · subst h4
        rw [if_pos h2]
        exact .inr (by simp [h3])
theorem ro_mem {us : List UL} {x : UL} {ds : List R_api_Interval} : ∀ {m : Nat}, m ≤ us.length → (x ∈ ro us ds m ↔ ∃ i : Nat, i < m ∧ x ∈ ri (gi us (i : Int)) ds ds.length)
  | 0, _ => by simp [ro]
  | m + 1, hm => by
    rw [ro, List.mem_append, ro_mem (by omega)]
    constructor
    · rintro (⟨i, h1, h2⟩ | h1)
      · exact ⟨i, by omega, h2⟩
      · exact ⟨m, by omega, h1⟩
    · rintro ⟨i, h1, h2⟩
      rcases (by omega : i < m ∨ i = m) with h4 | h4
      · exact .inl ⟨i, h4, h2⟩
      · subst h4; exact .inr h2
/-- The parts: each is of a unit and an interval. -/
theorem ro_iff {us : List UL} {x : UL} {ds : List R_api_Interval} : x ∈ ro us ds us.length ↔ ∃ u ∈ us, ∃ d ∈ ds, mtO u.In d = true ∧ x = ⟨mt u.In d, u.F⟩ := by
  rw [ro_mem (Nat.le_refl _)]
  constructor
  · rintro ⟨i, h1, h2⟩
    obtain ⟨j, h3, h4, h5⟩ := (ri_mem (Nat.le_refl _)).1 h2
    exact ⟨_, gi_mem (by omega), _, gi_mem (by omega), h4, h5⟩
  · rintro ⟨u, hu, d, hd, h1, h2⟩
    obtain ⟨i, hi, rfl⟩ := List.getElem_of_mem hu
    obtain ⟨j, hj, rfl⟩ := List.getElem_of_mem hd
    exact ⟨i, hi, (ri_mem (Nat.le_refl _)).2 ⟨j, hj, by rw [gi_nat hi, gi_nat hj]; exact h1, by rw [gi_nat hi, gi_nat hj]; exact h2⟩⟩
theorem ro_has {us : List UL} {ds : List R_api_Interval} {t : Rat} {v : R_api_Point} : Has ((ro us ds us.length).map absU) t v ↔ Has (us.map absU) t v ∧ ∃ d ∈ ds, memI d t := by
  rw [has_map, has_map]
  constructor
  · rintro ⟨x, hx, h1, h2⟩
    obtain ⟨u, hu, d, hd, h3, rfl⟩ := ro_iff.1 hx
    have h4 := mt_mem.1 h1
    exact ⟨⟨u, hu, h4.1, h2⟩, d, hd, h4.2⟩
  · rintro ⟨⟨u, hu, h1, h2⟩, d, hd, h3⟩
    have h4 := mt_mem.2 ⟨h1, h3⟩
    exact ⟨_, ro_iff.2 ⟨u, hu, d, hd, mtO_iff.2 (memI_ok h4), rfl⟩, h4, h2⟩
theorem ro_ok {us : List UL} {ds : List R_api_Interval} : ∀ u ∈ ro us ds us.length, (absU u).ok := fun x hx => by
  obtain ⟨u, hu, d, hd, h3, rfl⟩ := ro_iff.1 hx
  exact mtO_iff.1 h3
def DisI (a b : R_api_Interval) : Prop := ∀ t, ¬ (memI a t ∧ memI b t)
theorem ri_pw {u : UL} {ds : List R_api_Interval} (hd : ds.Pairwise DisI) : ∀ k, k ≤ ds.length → ((ri u ds k).map absU).Pairwise Dis
  | 0, _ => by simp [ri]
  | k + 1, hk => by
    rw [ri, List.map_append]
    refine List.pairwise_append.2 ⟨ri_pw hd k (by omega), ?_, fun x hx y hy => ?_⟩
    · split <;> simp
    · split at hy
      · simp only [List.map_cons, List.map_nil, List.mem_singleton] at hy
        subst hy
        obtain ⟨x', hx', rfl⟩ := List.mem_map.1 hx
        obtain ⟨j, h1, h2, rfl⟩ := (ri_mem (by omega)).1 hx'
        rintro t ⟨h3, h4⟩
        have h5 := List.pairwise_iff_getElem.1 hd j k (by omega) (by omega) h1
        exact h5 t ⟨by rw [← gi_nat (by omega)]; exact (mt_mem.1 h3).2, by rw [← gi_nat (by omega)]; exact (mt_mem.1 h4).2⟩
      · cases hy
theorem ro_pw {us : List UL} {ds : List R_api_Interval} (hu : (us.map absU).Pairwise Dis) (hd : ds.Pairwise DisI) : ∀ m, m ≤ us.length → ((ro us ds m).map absU).Pairwise Dis
  | 0, _ => by simp [ro]
  | m + 1, hm => by
    rw [ro, List.map_append]
    refine List.pairwise_append.2 ⟨ro_pw hu hd m (by omega), ri_pw hd _ (Nat.le_refl _), fun x hx y hy => ?_⟩
    obtain ⟨x', hx', rfl⟩ := List.mem_map.1 hx
    obtain ⟨y', hy', rfl⟩ := List.mem_map.1 hy
    obtain ⟨i, h1, h2⟩ := (ro_mem (by omega)).1 hx'
    obtain ⟨j, h3, h4, rfl⟩ := (ri_mem (Nat.le_refl _)).1 h2
    obtain ⟨j', h5, h6, rfl⟩ := (ri_mem (Nat.le_refl _)).1 hy'
    rintro t ⟨h7, h8⟩
    have h9 := List.pairwise_iff_getElem.1 hu i m (by rw [List.length_map]; omega) (by rw [List.length_map]; omega) h1
    rw [List.getElem_map, List.getElem_map, ← gi_nat (by omega), ← gi_nat (by omega)] at h9
    exact h9 t ⟨(mt_mem.1 h7).1, (mt_mem.1 h8).1⟩
structure UK (K : Nat) (u : UL) : Prop where
  i : IvOk K u.In
  f : LnOk K u.F
theorem UK.mono {K K' : Nat} {u : UL} (h : UK K u) (hk : K ≤ K') : UK K' u := ⟨h.i.mono hk, h.f.mono hk⟩
theorem UK.uin {K : Nat} {u : UL} (h : UK K u) (hk : K ≤ KN) : UIn u := ⟨h.i.mono hk, h.f.mono hk⟩
theorem lred_K {K : Nat} {f : R_api_Line} {t : Rat} (h : LnOk K f) (ht : M t ≤ K) : LnOk (4 * K + 4) (lred f t) := by
  have one : ∀ a b : Rat, M a ≤ K → M b ≤ K → M (a + t * (b + t * 0)) ≤ 4 * K + 4 := fun a b ha hb => by
    have h1 := M_add a (t * (b + t * 0))
    have h2 := M_mul t (b + t * 0)
    have h3 := M_add b (t * 0)
    have h4 := M_mul t 0
    have h5 : M 0 = 1 := by decide
    omega
  have h0 : M 0 ≤ 4 * K + 4 := by
    have h5 : M 0 = 1 := by decide
    omega
  exact ⟨one _ _ h.x0 h.x1, h0, one _ _ h.y0 h.y1, h0⟩
theorem nstp_K {K : Nat} {l : List UL} {i : Nat} {xs : List UL} {x : UL} (h : ∀ v ∈ xs, UK (4 * K + 4) v) (hx : UK K x) : ∀ v ∈ nstp l i xs x, UK (4 * K + 4) v := by
  have hx' := hx.mono (show K ≤ 4 * K + 4 by omega)
  have trn : ∀ {u : UL}, UK (4 * K + 4) u → ∀ v ∈ turn xs u, UK (4 * K + 4) v := fun hu v hv => by
    rcases List.mem_or_eq_of_mem_set hv with h1 | h1
    · exact h v h1
    · rw [h1]; exact hu
  unfold nstp
  split
  · split
    · rename_i hc
      have h0 : 0 < xs.length := by
        unfold cA at hc
        simp only [Bool.and_eq_true] at hc
        exact bef_len hc.1
      have hl := h _ (gi_mem (i := (xs.length : Int) - 1) (xs := xs) (by omega))
      exact trn ⟨⟨hl.i.r1, hx'.i.r2, hl.i.n1, hx'.i.n2, hl.i.m1, hx'.i.m2⟩, hl.f⟩
    · intro v hv
      rcases List.mem_append.1 hv with h1 | h1
      · exact h v h1
      · rw [List.mem_singleton] at h1
        subst h1
        split
        · exact ⟨hx'.i.at _ _, hx'.f⟩
        · exact hx'
  · split
    · rename_i hc
      have h0 : 0 < xs.length := by
        unfold cC at hc
        simp only [Bool.and_eq_true] at hc
        exact bef_len hc.1
      have hl := h _ (gi_mem (i := (xs.length : Int) - 1) (xs := xs) (by omega))
      exact trn ⟨hl.i.at _ _, hl.f⟩
    · split
      · exact h
      · intro v hv
        rcases List.mem_append.1 hv with h1 | h1
        · exact h v h1
        · rw [List.mem_singleton] at h1
          subst h1
          exact ⟨hx'.i, lred_K hx.f hx.i.m1⟩
theorem nrm_K {K : Nat} {l : List UL} (h : ∀ u ∈ l, UK K u) : ∀ m, m ≤ l.length → ∀ v ∈ nrm l m, UK (4 * K + 4) v
  | 0, _ => fun v hv => by cases hv
  | m + 1, hm => nstp_K (nrm_K h m (by omega)) (h _ (gi_mem (by omega)))
theorem atU_K {K : Nat} {u v : UL} (h : UK K u) (hv : v ∈ atU u) : UK K v := by
  unfold atU at hv
  rcases List.mem_append.1 hv with h1 | h1
  · split at h1
    · cases h1
    · rw [List.mem_singleton] at h1
      subst h1
      exact ⟨⟨h.i.r1, h.i.r1, h.i.n1, h.i.n1, h.i.m1, h.i.m1⟩, h.f⟩
  · split at h1
    · cases h1
    · rcases List.mem_cons.1 h1 with h2 | h2
      · subst h2
        exact ⟨h.i.at _ _, h.f⟩
      · split at h2
        · cases h2
        · rw [List.mem_singleton] at h2
          subst h2
          exact ⟨⟨h.i.r2, h.i.r2, h.i.n2, h.i.n2, h.i.m2, h.i.m2⟩, h.f⟩
theorem atm_K {K : Nat} {us : List UL} (h : ∀ u ∈ us, UK K u) : ∀ m, m ≤ us.length → ∀ v ∈ atm us m, UK K v
  | 0, _, v, hv => by cases hv
  | m + 1, hm, v, hv => by
    rw [atm] at hv
    rcases List.mem_append.1 hv with h1 | h1
    · exact atm_K h m (by omega) v h1
    · exact atU_K (h _ (gi_mem (by omega))) h1
theorem nrmR_K {K : Nat} {us : List UL} (h : ∀ u ∈ us, UK K u) : ∀ v ∈ nrmR us, UK (4 * K + 4) v := by
  unfold nrmR
  split
  · exact nrm_K (atm_K (fun u hu => h u (sor_mem hu)) _ (Nat.le_refl _)) _ (Nat.le_refl _)
  · intro v hv
    cases hv
theorem ro_K {K : Nat} {us : List UL} {ds : List R_api_Interval} (h : ∀ u ∈ us, UK K u) (hd : ∀ d ∈ ds, IvOk K d) : ∀ u ∈ ro us ds us.length, UK K u := fun x hx => by
  obtain ⟨u, hu, d, hd', h3, rfl⟩ := ro_iff.1 hx
  exact ⟨mt_ok (h u hu).i (hd d hd'), (h u hu).f⟩
end Go.Vt
/- The part of a moving point during a period; equal moving points: walked. Conditions: those that each statement names. -/
set_option linter.unusedSimpArgs false
set_option linter.unusedVariables false
set_option maxRecDepth 100000
namespace Go.Vt
open Go.RowKit Go.Proofs
instance sr_restrict (w0 : World) (L : List Blk) (v v2 : Value) (us : List UL) (ds : List R_api_Interval) [h : LstC w0 L v UL rU us] [h2 : LstC w0 L v2 R_api_Interval rI ds] : SpecR Tryz.prog w0 L 113 [vLines, v, v2] (SlS rU 36 (nrmR (ro us ds us.length))) (fun s => vSl s) (fun s => mS 163 s) ((us.length ≤ 1024 ∧ ds.length ≤ 1024 ∧ (ro us ds us.length).length ≤ 19) ∧ (∀ u ∈ us, IvOk BQ u.In) ∧ (∀ d ∈ ds, IvOk BQ d) ∧ ∀ u ∈ ro us ds us.length, UIn u) := ⟨fun hp w hw =>
  restrict_spec v v2 us ds w (h.out w hw) (h2.out w hw) hp.1.1 hp.1.2.1 hp.1.2.2 hp.2.1 hp.2.2.1 hp.2.2.2⟩
/-- The units of a moving point, restricted. -/
def mRes (us : List PU) (ds : List R_api_Interval) : List UL := ro (mpN toU us us.length) ds (mpN toU us us.length).length
structure ResOk (us : List PU) (ds : List R_api_Interval) : Prop where
  l1 : us.length ≤ 1024
  l2 : ds.length ≤ 1024
  l3 : (mRes us ds).length ≤ 19
  o1 : ∀ u ∈ mpN toU us us.length, IvOk BQ u.In
  o2 : ∀ d ∈ ds, IvOk BQ d
  o3 : ∀ u ∈ mRes us ds, UIn u
theorem mrestrict_spec (v v2 : Value) (us : List PU) (ds : List R_api_Interval) (w : World) (hv : ArgS w v rP us) (hd : ArgS w v2 rI ds) (hok : ResOk us ds) :
    Calls Tryz.prog 71 [v, v2].toArray w (RetM (SlS rP 36 (mpN ofU (nrmR (mRes us ds)) (nrmR (mRes us ds)).length)) (fun s => vSl s) (fun s => mS 68 s) w) := by
  have := ArgC.mk hv
  have := ArgC.mk hd
  have hml := mpN_len toU us us.length
  have hnl := nrmR_len (mRes us ds)
  have h3 := hok.l3
  have h1 := hok.l1
  refine fn_intro Tryz.func71 rfl Tryz.ntmps71 rfl ?_
  repeat (first | refine sX rfl rfl ?_ | (refine sS rfl rfl ?_ ?_; focus omega) | (refine sC rfl rfl ?_ ?_; focus (first | omega | exact (show (nrmR (mRes us ds)).length ≤ 1048576 by omega) | exact ⟨⟨by omega, hok.l2, hok.l3⟩, hok.o1, hok.o2, hok.o3⟩)) | refine cX ?_ | refine cY ?_ | (refine sA rfl rfl ?_; intro _) | refine sT rfl ?_ | refine sF rfl ?_ | (refine sR rfl ?_ ?_; focus omega) | (refine sB rfl rfl ?_; intro _) | (refine sN rfl rfl ?_ ?_; (focus (first | omega | exact (show (nrmR (mRes us ds)).length ≤ 1048576 by omega) | exact ⟨⟨by omega, hok.l2, hok.l3⟩, hok.o1, hok.o2, hok.o3⟩)); intro _; (try simp only [List.cons_append, List.nil_append, List.append_nil])) | refine sW rfl rfl ?_ | refine sK rfl rfl ?_ | refine j_if rfl ?_ | refine j_else rfl ?_ | refine pkT rfl rfl rfl rfl ?_ | refine pkF rfl rfl rfl rfl ?_)
  rename_i s1 s2 s3
  exact jx_ret_tmp rfl rfl (fun w hw => ⟨s3, rfl, hw.sub (by repeat (first | exact List.Sublist.refl _ | exact List.nil_sublist _ | exact List.sublist_append_left _ _ | refine List.Sublist.append_left ?_ _ | refine List.Sublist.cons_cons _ ?_ | refine List.Sublist.cons _ ?_ | refine List.Sublist.trans ?_ (List.sublist_append_right _ _)))⟩)
instance sr_mrestrict (w0 : World) (L : List Blk) (v v2 : Value) (us : List PU) (ds : List R_api_Interval) [h : LstC w0 L v PU rP us] [h2 : LstC w0 L v2 R_api_Interval rI ds] : SpecR Tryz.prog w0 L 71 [v, v2] (SlS rP 36 (mpN ofU (nrmR (mRes us ds)) (nrmR (mRes us ds)).length)) (fun s => vSl s) (fun s => mS 68 s) (ResOk us ds) := ⟨fun hp w hw => mrestrict_spec v v2 us ds w (h.out w hw) (h2.out w hw) hp⟩
/-- A slice of the call's own with one element, or two. -/
instance lst1 {α : Type} {enc : α → Array Value} {k : Nat} {x : α} {sp : List Value} [he : EncC enc k] (w0 : World) (L : List Blk) (b c : Nat) (T : TypeId) [h : AtC w0 L b (row enc [x] sp) T] : LstC w0 L (.slice (some ⟨b, 0, none⟩) 1 (c + 1)) α enc [x] := ⟨fun w hw => by
  obtain ⟨fz, hb⟩ := h.out w hw
  exact argS_row (c := c + 1) hb (Nat.le_add_left 1 c)⟩
instance lst2 {α : Type} {enc : α → Array Value} {k : Nat} {x y : α} {sp : List Value} [he : EncC enc k] (w0 : World) (L : List Blk) (b c : Nat) (T : TypeId) [h : AtC w0 L b (row enc [x, y] sp) T] : LstC w0 L (.slice (some ⟨b, 0, none⟩) 2 (c + 2)) α enc [x, y] := ⟨fun w hw => by
  obtain ⟨fz, hb⟩ := h.out w hw
  exact argS_row (c := c + 2) hb (Nat.le_add_left 2 c)⟩
def eqN (us vs : List PU) : Nat → Bool
  | 0 => true
  | m + 1 => eqN us vs m && decide (gi us (m : Int) = gi vs (m : Int))
theorem eqN_iff {us vs : List PU} : ∀ m, m ≤ us.length → m ≤ vs.length → (eqN us vs m = true ↔ us.take m = vs.take m)
  | 0, _, _ => by simp [eqN]
  | m + 1, h1, h2 => by
    rw [eqN, Bool.and_eq_true, eqN_iff m (by omega) (by omega), decide_eq_true_iff, List.take_succ_eq_append_getElem h1, List.take_succ_eq_append_getElem h2, gi_nat h1, gi_nat h2]
    constructor
    · rintro ⟨h3, h4⟩
      rw [h3, h4]
    · intro h3
      have := List.append_inj' h3 rfl
      exact ⟨this.1, by simpa using this.2⟩
theorem seq_spec (v1 v2 : Value) (us vs : List PU) (w : World) (h1 : ArgS w v1 rP us) (h2 : ArgS w v2 rP vs) (hl : us.length ≤ 1048576) (hl2 : vs.length ≤ 1048576) :
    Calls Tryz.prog 72 [v1, v2].toArray w (Ret (.bool (decide (us = vs))) w) := by
  refine fn_intro Tryz.func72 rfl Tryz.ntmps72 rfl ?_
  obtain ⟨p1, c1, rfl⟩ := h1.form
  obtain ⟨p2, c2, rfl⟩ := h2.form
  repeat (first | refine sX rfl rfl ?_ | (refine sS rfl rfl ?_ ?_; focus omega) | (refine sC rfl rfl ?_ ?_; focus (first | exact trivial | assumption | constructor <;> assumption | exact mb2 rfl rfl | exact mb4 rfl rfl rfl rfl)) | refine cX ?_ | refine cY ?_ | (refine sA rfl rfl ?_; intro _) | refine sT rfl ?_ | refine sF rfl ?_ | (refine sR rfl ?_ ?_; focus omega) | (refine sB rfl rfl ?_; intro _) | (refine sN rfl rfl ?_ ?_; (focus (first | exact trivial | assumption | constructor <;> assumption | exact mb2 rfl rfl | exact mb4 rfl rfl rfl rfl)); intro _; (try simp only [List.cons_append, List.nil_append, List.append_nil])) | refine sW rfl rfl ?_ | refine sK rfl rfl ?_ | refine j_if rfl ?_ | refine j_else rfl ?_ | refine pkT rfl rfl rfl rfl ?_ | refine pkF rfl rfl rfl rfl ?_)
  by_cases hll : us.length = vs.length
  · simp only [decide_eq_true (show (us.length : Int) = (vs.length : Int) by omega), Bool.not_true]
    repeat (first | refine sX rfl rfl ?_ | (refine sS rfl rfl ?_ ?_; focus omega) | (refine sC rfl rfl ?_ ?_; focus (first | exact trivial | assumption | constructor <;> assumption | exact mb2 rfl rfl | exact mb4 rfl rfl rfl rfl)) | refine cX ?_ | refine cY ?_ | (refine sA rfl rfl ?_; intro _) | refine sT rfl ?_ | refine sF rfl ?_ | (refine sR rfl ?_ ?_; focus omega) | (refine sB rfl rfl ?_; intro _) | (refine sN rfl rfl ?_ ?_; (focus (first | exact trivial | assumption | constructor <;> assumption | exact mb2 rfl rfl | exact mb4 rfl rfl rfl rfl)); intro _; (try simp only [List.cons_append, List.nil_append, List.append_nil])) | refine sW rfl rfl ?_ | refine sK rfl rfl ?_ | refine j_if rfl ?_ | refine j_else rfl ?_ | refine pkT rfl rfl rfl rfl ?_ | refine pkF rfl rfl rfl rfl ?_)
    refine j_loop (S := Nat) (fun m => m ≤ us.length ∧ eqN us vs m = true) (fun m => [(0, .slice p1 us.length c1), (1, .slice p2 vs.length c2), (11, .slice p1 us.length c1), (12, .int .i64 us.length), (13, .int .i64 (m : Nat))]) (fun _ => []) (fun m => us.length - m) 0 ⟨Nat.zero_le _, rfl⟩ (by repeat (first | exact sub_nil | refine sub_cons rfl ?_ | refine sub_cons' rfl (by congr 1; omega) ?_)) (by repeat (first | exact List.Sublist.refl _ | exact List.nil_sublist _ | refine List.Sublist.cons_cons _ ?_ | refine List.Sublist.cons _ ?_)) (fun m hm => ?_)
    obtain ⟨hm, he⟩ := hm
    repeat (first | refine sX rfl rfl ?_ | (refine sS rfl rfl ?_ ?_; focus omega) | (refine sC rfl rfl ?_ ?_; focus (first | exact trivial | assumption | constructor <;> assumption | exact mb2 rfl rfl | exact mb4 rfl rfl rfl rfl)) | refine cX ?_ | refine cY ?_ | (refine sA rfl rfl ?_; intro _) | refine sT rfl ?_ | refine sF rfl ?_ | (refine sR rfl ?_ ?_; focus omega) | (refine sB rfl rfl ?_; intro _) | (refine sN rfl rfl ?_ ?_; (focus (first | exact trivial | assumption | constructor <;> assumption | exact mb2 rfl rfl | exact mb4 rfl rfl rfl rfl)); intro _; (try simp only [List.cons_append, List.nil_append, List.append_nil])) | refine sW rfl rfl ?_ | refine sK rfl rfl ?_ | refine j_if rfl ?_ | refine j_else rfl ?_ | refine pkT rfl rfl rfl rfl ?_ | refine pkF rfl rfl rfl rfl ?_)
    refine j_cond rfl (fun h => ?_) (fun h => ?_)
    · have hlt : m < us.length := by have := of_decide_eq_true h; omega
      have hne : us ≠ [] := fun h0 => by rw [h0] at hlt; simp at hlt
      have hne2 : vs ≠ [] := fun h0 => by rw [h0] at hll; simp at hll; rw [hll] at hlt; simp at hlt
      obtain ⟨b1, o1, c1', hv1, hc1, hr1⟩ := h1.blk (k := 35) hne []
      injection hv1 with e1 e2 e3
      subst e1
      subst e3
      obtain ⟨b2, o2, c2', hv2, hc2, hr2⟩ := h2.blk (k := 35) hne2 []
      injection hv2 with e1 e2 e3
      subst e1
      subst e3
      have hr1' : ∀ L, RowC w L b1 o1 PU rP us := fun L => ⟨fun w' hw' => hr1.out w' (hw'.sub (List.nil_sublist _))⟩
      have hr2' : ∀ L, RowC w L b2 o2 PU rP vs := fun L => ⟨fun w' hw' => hr2.out w' (hw'.sub (List.nil_sublist _))⟩
      repeat (first | refine sX rfl rfl ?_ | (refine sS rfl rfl ?_ ?_; focus omega) | (refine sC rfl rfl ?_ ?_; focus (first | exact trivial | assumption | constructor <;> assumption | exact mb2 rfl rfl | exact mb4 rfl rfl rfl rfl)) | refine cX ?_ | refine cY ?_ | (refine sA rfl rfl ?_; intro _) | refine sT rfl ?_ | refine sF rfl ?_ | (refine sR rfl ?_ ?_; focus omega) | (refine sB rfl rfl ?_; intro _) | (refine sN rfl rfl ?_ ?_; (focus (first | exact trivial | assumption | constructor <;> assumption | exact mb2 rfl rfl | exact mb4 rfl rfl rfl rfl)); intro _; (try simp only [List.cons_append, List.nil_append, List.append_nil])) | refine sW rfl rfl ?_ | refine sK rfl rfl ?_ | refine j_if rfl ?_ | refine j_else rfl ?_ | refine pkT rfl rfl rfl rfl ?_ | refine pkF rfl rfl rfl rfl ?_)
      refine jD 9 9 mixed (by kernel_rfl) ?_
      repeat (first | refine tX rfl rfl ?_ | (refine tS rfl rfl ?_ ?_; focus omega) | (refine tC rfl rfl ?_ ?_; focus (first | exact trivial | assumption | constructor <;> assumption | exact mb2 rfl rfl | exact mb4 rfl rfl rfl rfl)) | refine tW rfl rfl ?_ | refine tK rfl rfl ?_ | refine Go.Vt.hq (wl_pickT rfl rfl) rfl rfl ?_ | refine Go.Vt.hq (wl_pickF rfl rfl) rfl rfl ?_)
      rcases hd : decide (gi us (m : Int) = gi vs (m : Int)) with _ | _
      · refine jh_nil ?_
        refine jn_nil ?_
        have hno : decide (us = vs) = false := decide_eq_false fun h0 => by
          subst h0
          exact of_decide_eq_false hd rfl
        repeat (first | refine sX rfl rfl ?_ | (refine sS rfl rfl ?_ ?_; focus omega) | (refine sC rfl rfl ?_ ?_; focus (first | exact trivial | assumption | constructor <;> assumption | exact mb2 rfl rfl | exact mb4 rfl rfl rfl rfl)) | refine cX ?_ | refine cY ?_ | (refine sA rfl rfl ?_; intro _) | refine sT rfl ?_ | refine sF rfl ?_ | (refine sR rfl ?_ ?_; focus omega) | (refine sB rfl rfl ?_; intro _) | (refine sN rfl rfl ?_ ?_; (focus (first | exact trivial | assumption | constructor <;> assumption | exact mb2 rfl rfl | exact mb4 rfl rfl rfl rfl)); intro _; (try simp only [List.cons_append, List.nil_append, List.append_nil])) | refine sW rfl rfl ?_ | refine sK rfl rfl ?_ | refine j_if rfl ?_ | refine j_else rfl ?_ | refine pkT rfl rfl rfl rfl ?_ | refine pkF rfl rfl rfl rfl ?_)
        rw [hno]
        exact jx_ret_tmp rfl rfl (fun w hw => ret_ok hw)
      · refine jh_nil ?_
        refine jn_nil ?_
        repeat (first | refine sX rfl rfl ?_ | (refine sS rfl rfl ?_ ?_; focus omega) | (refine sC rfl rfl ?_ ?_; focus (exact ⟨by omega, by omega⟩)) | refine cX ?_ | refine cY ?_ | (refine sA rfl rfl ?_; intro _) | refine sT rfl ?_ | refine sF rfl ?_ | (refine sR rfl ?_ ?_; focus omega) | (refine sB rfl rfl ?_; intro _) | (refine sN rfl rfl ?_ ?_; (focus (exact ⟨by omega, by omega⟩)); intro _; (try simp only [List.cons_append, List.nil_append, List.append_nil])) | refine sW rfl rfl ?_ | refine sK rfl rfl ?_ | refine j_if rfl ?_ | refine j_else rfl ?_ | refine pkT rfl rfl rfl rfl ?_ | refine pkF rfl rfl rfl rfl ?_)
        exact jx_loop (m + 1) ⟨hlt, by rw [eqN, he, hd]; rfl⟩ (by repeat (first | exact sub_nil | refine sub_cons rfl ?_ | refine sub_cons' rfl (by congr 1; omega) ?_)) (by repeat (first | exact List.Sublist.refl _ | exact List.nil_sublist _ | refine List.Sublist.cons_cons _ ?_ | refine List.Sublist.cons _ ?_)) (by omega)
    · have hge : m = us.length := by have := of_decide_eq_false h; omega
      subst hge
      have hyes : decide (us = vs) = true := by
        have := (eqN_iff us.length (Nat.le_refl _) (by omega)).1 he
        rw [List.take_length, hll, List.take_length] at this
        exact decide_eq_true this
      repeat (first | refine sX rfl rfl ?_ | (refine sS rfl rfl ?_ ?_; focus omega) | (refine sC rfl rfl ?_ ?_; focus (first | exact trivial | assumption | constructor <;> assumption | exact mb2 rfl rfl | exact mb4 rfl rfl rfl rfl)) | refine cX ?_ | refine cY ?_ | (refine sA rfl rfl ?_; intro _) | refine sT rfl ?_ | refine sF rfl ?_ | (refine sR rfl ?_ ?_; focus omega) | (refine sB rfl rfl ?_; intro _) | (refine sN rfl rfl ?_ ?_; (focus (first | exact trivial | assumption | constructor <;> assumption | exact mb2 rfl rfl | exact mb4 rfl rfl rfl rfl)); intro _; (try simp only [List.cons_append, List.nil_append, List.append_nil])) | refine sW rfl rfl ?_ | refine sK rfl rfl ?_ | refine j_if rfl ?_ | refine j_else rfl ?_ | refine pkT rfl rfl rfl rfl ?_ | refine pkF rfl rfl rfl rfl ?_)
      rw [hyes]
      exact jx_ret_tmp rfl rfl (fun w hw => ret_ok hw)
  · have hno : decide (us = vs) = false := decide_eq_false fun h0 => hll (by rw [h0])
    simp only [decide_eq_false (show ¬ (us.length : Int) = (vs.length : Int) by omega), Bool.not_false]
    repeat (first | refine sX rfl rfl ?_ | (refine sS rfl rfl ?_ ?_; focus omega) | (refine sC rfl rfl ?_ ?_; focus (first | exact trivial | assumption | constructor <;> assumption | exact mb2 rfl rfl | exact mb4 rfl rfl rfl rfl)) | refine cX ?_ | refine cY ?_ | (refine sA rfl rfl ?_; intro _) | refine sT rfl ?_ | refine sF rfl ?_ | (refine sR rfl ?_ ?_; focus omega) | (refine sB rfl rfl ?_; intro _) | (refine sN rfl rfl ?_ ?_; (focus (first | exact trivial | assumption | constructor <;> assumption | exact mb2 rfl rfl | exact mb4 rfl rfl rfl rfl)); intro _; (try simp only [List.cons_append, List.nil_append, List.append_nil])) | refine sW rfl rfl ?_ | refine sK rfl rfl ?_ | refine j_if rfl ?_ | refine j_else rfl ?_ | refine pkT rfl rfl rfl rfl ?_ | refine pkF rfl rfl rfl rfl ?_)
    rw [hno]
    exact jx_ret_tmp rfl rfl (fun w hw => ret_ok hw)
theorem msame_spec (v1 v2 : Value) (us vs : List PU) (w : World) (h1 : ArgS w v1 rP us) (h2 : ArgS w v2 rP vs) (hl : us.length ≤ 1048576) (hl2 : vs.length ≤ 1048576) :
    Calls Tryz.prog 26 [v1, v2].toArray w (Ret (.bool (decide (us = vs))) w) := by
  have : ∀ L, SpecM Tryz.prog w L 72 [v1, v2] (.bool (decide (us = vs))) True := fun L => ⟨fun _ w' hw' => seq_spec v1 v2 us vs w' (h1.to hw'.ext) (h2.to hw'.ext) hl hl2⟩
  refine fn_intro Tryz.func26 rfl Tryz.ntmps26 rfl ?_
  repeat (first | refine sX rfl rfl ?_ | (refine sS rfl rfl ?_ ?_; focus omega) | (refine sC rfl rfl ?_ ?_; focus (first | exact trivial | assumption | constructor <;> assumption | exact mb2 rfl rfl | exact mb4 rfl rfl rfl rfl)) | refine cX ?_ | refine cY ?_ | (refine sA rfl rfl ?_; intro _) | refine sT rfl ?_ | refine sF rfl ?_ | (refine sR rfl ?_ ?_; focus omega) | (refine sB rfl rfl ?_; intro _) | (refine sN rfl rfl ?_ ?_; (focus (first | exact trivial | assumption | constructor <;> assumption | exact mb2 rfl rfl | exact mb4 rfl rfl rfl rfl)); intro _; (try simp only [List.cons_append, List.nil_append, List.append_nil])) | refine sW rfl rfl ?_ | refine sK rfl rfl ?_ | refine j_if rfl ?_ | refine j_else rfl ?_ | refine pkT rfl rfl rfl rfl ?_ | refine pkF rfl rfl rfl rfl ?_)
  exact jx_ret_tmp rfl rfl (fun w hw => ret_ok hw)
instance sm_msame (w0 : World) (L : List Blk) (v1 v2 : Value) (us vs : List PU) [h1 : LstC w0 L v1 PU rP us] [h2 : LstC w0 L v2 PU rP vs] : SpecM Tryz.prog w0 L 26 [v1, v2] (.bool (decide (us = vs))) (us.length ≤ 1048576 ∧ vs.length ≤ 1048576) := ⟨fun hp w hw => msame_spec v1 v2 us vs w (h1.out w hw) (h2.out w hw) hp.1 hp.2⟩
end Go.Vt
/- The moving point that runs make up, walked. Conditions: those that each statement names. -/
set_option linter.unusedSimpArgs false
set_option linter.unusedVariables false
set_option maxRecDepth 100000
namespace Go.Vt
open Go.RowKit Go.Proofs
/-- A run, and where its breakpoints lie. -/
structure RD where
  I : R_api_Interval
  b : Nat
  c : Nat
  pts : List SS
  sp : List Value
instance : Inhabited RD := ⟨⟨zR_api_Interval, 0, 0, [], []⟩⟩
abbrev rR := r_simplify_Run
def RD.hd (r : RD) : R_simplify_Run := ⟨r.I, ⟨some ⟨r.b, 0, none⟩, r.pts.length, r.c⟩⟩
theorem gi_map {α β : Type} [Inhabited α] [Inhabited β] {f : α → β} {xs : List α} {i : Nat} (h : i < xs.length) : gi (xs.map f) (i : Int) = f (gi xs (i : Int)) := by
  rw [gi_nat (by rw [List.length_map]; exact h), gi_nat h, List.getElem_map]
/-- The unit behind a breakpoint of a run. -/
def bsU (I : R_api_Interval) (pts : List SS) (i : Nat) : PU := ⟨⟨⟨(gi pts (i : Int)).T, 0, false⟩, ⟨(gi pts ((i + 1 : Nat) : Int)).T, 0, false⟩, if i = 0 then I.OpenFrom else true, if i + 2 = pts.length then I.OpenTo else false⟩, stl (gi pts (i : Int)) (gi pts ((i + 1 : Nat) : Int))⟩
def bs (I : R_api_Interval) (pts : List SS) : Nat → List PU
  | 0 => []
  | m + 1 => bs I pts m ++ [bsU I pts m]
def b1 (I : R_api_Interval) (pts : List SS) : List PU := if pts.length = 1 then [⟨I, ⟨(gi pts 0).P.X, 0, (gi pts 0).P.Y, 0⟩⟩] else bs I pts (pts.length - 1)
def bA (rs : List RD) : Nat → List PU
  | 0 => []
  | m + 1 => bA rs m ++ b1 (gi rs (m : Int)).I (gi rs (m : Int)).pts
theorem bs_len (I : R_api_Interval) (pts : List SS) : ∀ m, (bs I pts m).length = m
  | 0 => rfl
  | m + 1 => by rw [bs, List.length_append, bs_len I pts m]; rfl
theorem b1_len (I : R_api_Interval) (pts : List SS) : (b1 I pts).length ≤ pts.length := by
  unfold b1
  split
  · simp; omega
  · rw [bs_len]; omega
/-- The runs are short, their breakpoints lie in memory. -/
structure RdOk (w : World) (r : RD) : Prop where
  len : r.pts.length ≤ 1024
  bnd : Bnd r.pts
  mem : ∃ T fz, w.heap[r.b]? = some (.cells (row rS r.pts r.sp) T fz)
theorem bA_len {w : World} {rs : List RD} (h : ∀ r ∈ rs, RdOk w r) : ∀ m, m ≤ rs.length → (bA rs m).length ≤ m * 1024
  | 0, _ => by simp [bA]
  | m + 1, hm => by
    have h1 := bA_len h m (by omega)
    have h2 := (h _ (gi_mem (i := (m : Int)) (xs := rs) (by omega))).len
    have h3 := b1_len (gi rs (m : Int)).I (gi rs (m : Int)).pts
    rw [bA, List.length_append]
    omega
set_option maxHeartbeats 2000000 in
theorem build_spec (v : Value) (rs : List RD) (w : World) (hv : ArgS w v rR (rs.map RD.hd)) (hl : rs.length ≤ 64) (hr : ∀ r ∈ rs, RdOk w r) (h19 : (bA rs rs.length).length ≤ 19) (hin : ∀ u ∈ mpN toU (bA rs rs.length) (bA rs rs.length).length, UIn u) :
    Calls Tryz.prog 24 [v].toArray w (RetM (SlS rP 36 (mNorm (bA rs rs.length))) (fun s => .tuple #[vSl s, .int .i64 (nrmE (mpN toU (bA rs rs.length) (bA rs rs.length).length))]) (fun s => mS 68 s) w) := by
  refine fn_intro Tryz.func24 rfl Tryz.ntmps24 rfl ?_
  obtain ⟨p, cp, rfl⟩ := hv.form
  have hml : (rs.map RD.hd).length = rs.length := List.length_map _
  rw [hml]
  repeat (first | refine sX rfl rfl ?_ | (refine sS rfl rfl ?_ ?_; focus omega) | (refine sC rfl rfl ?_ ?_; focus (first | exact trivial | assumption | constructor <;> assumption | exact mb2 rfl rfl | exact mb4 rfl rfl rfl rfl)) | refine cX ?_ | refine cY ?_ | (refine sA rfl rfl ?_; intro _) | refine sT rfl ?_ | refine sF rfl ?_ | (refine sR rfl ?_ ?_; focus omega) | (refine sB rfl rfl ?_; intro _) | (refine sN rfl rfl ?_ ?_; (focus (first | exact trivial | assumption | constructor <;> assumption | exact mb2 rfl rfl | exact mb4 rfl rfl rfl rfl)); intro _; (try simp only [List.cons_append, List.nil_append, List.append_nil])) | refine sW rfl rfl ?_ | refine sK rfl rfl ?_ | refine j_if rfl ?_ | refine j_else rfl ?_ | refine pkT rfl rfl rfl rfl ?_ | refine pkF rfl rfl rfl rfl ?_)
  refine j_loop (S := (m : Nat) × SlS rP 36 (bA rs m)) (fun s => s.1 ≤ rs.length) (fun s => [(4, vSl s.2), (11, .slice p rs.length cp), (12, .int .i64 rs.length), (13, .int .i64 (s.1 : Nat))]) (fun s => mS 68 s.2) (fun s => rs.length - s.1) ⟨0, SlS.no⟩ (Nat.zero_le _) (by repeat (first | exact sub_nil | refine sub_cons rfl ?_ | refine sub_cons' rfl (by congr 1; omega) ?_)) (by repeat (first | exact List.Sublist.refl _ | exact List.nil_sublist _ | refine List.Sublist.cons_cons _ ?_ | refine List.Sublist.cons _ ?_)) (fun s hm => ?_)
  obtain ⟨m, s⟩ := s
  simp only at hm ⊢
  repeat (first | refine sX rfl rfl ?_ | (refine sS rfl rfl ?_ ?_; focus omega) | (refine sC rfl rfl ?_ ?_; focus (first | exact trivial | assumption | constructor <;> assumption | exact mb2 rfl rfl | exact mb4 rfl rfl rfl rfl)) | refine cX ?_ | refine cY ?_ | (refine sA rfl rfl ?_; intro _) | refine sT rfl ?_ | refine sF rfl ?_ | (refine sR rfl ?_ ?_; focus omega) | (refine sB rfl rfl ?_; intro _) | (refine sN rfl rfl ?_ ?_; (focus (first | exact trivial | assumption | constructor <;> assumption | exact mb2 rfl rfl | exact mb4 rfl rfl rfl rfl)); intro _; (try simp only [List.cons_append, List.nil_append, List.append_nil])) | refine sW rfl rfl ?_ | refine sK rfl rfl ?_ | refine j_if rfl ?_ | refine j_else rfl ?_ | refine pkT rfl rfl rfl rfl ?_ | refine pkF rfl rfl rfl rfl ?_)
  refine j_cond rfl (fun h => ?_) (fun h => ?_)
  · have hlt : m < rs.length := by have := of_decide_eq_true h; omega
    have hne : rs.map RD.hd ≠ [] := fun h0 => by rw [h0] at hml; simp at hml; omega
    obtain ⟨bw, ow, cw, hvw, hcw, hrow⟩ := hv.blk (k := 20) hne []
    injection hvw with e1 e2 e3
    subst e1
    subst e3
    have hrow' : ∀ L, RowC w L bw ow R_simplify_Run rR (rs.map RD.hd) := fun L => ⟨fun w' hw' => hrow.out w' (hw'.sub (List.nil_sublist _))⟩
    have hbl := bA_len hr m (by omega)
    have hrm := hr _ (gi_mem (i := (m : Int)) (xs := rs) (by omega))
    have hgm := gi_map (f := RD.hd) hlt
    have hbA : bA rs (m + 1) = bA rs m ++ b1 (gi rs (m : Int)).I (gi rs (m : Int)).pts := rfl
    repeat (first | refine sX rfl rfl ?_ | (refine sS rfl rfl ?_ ?_; focus omega) | (refine sC rfl rfl ?_ ?_; focus (first | exact trivial | assumption | constructor <;> assumption | exact mb2 rfl rfl | exact mb4 rfl rfl rfl rfl)) | refine cX ?_ | refine cY ?_ | (refine sA rfl rfl ?_; intro _) | refine sT rfl ?_ | refine sF rfl ?_ | (refine sR rfl ?_ ?_; focus omega) | (refine sB rfl rfl ?_; intro _) | (refine sN rfl rfl ?_ ?_; (focus (first | exact trivial | assumption | constructor <;> assumption | exact mb2 rfl rfl | exact mb4 rfl rfl rfl rfl)); intro _; (try simp only [List.cons_append, List.nil_append, List.append_nil])) | refine sW rfl rfl ?_ | refine sK rfl rfl ?_ | refine j_if rfl ?_ | refine j_else rfl ?_ | refine pkT rfl rfl rfl rfl ?_ | refine pkF rfl rfl rfl rfl ?_)
    simp only [hgm]
    generalize gi rs (m : Int) = r at *
    obtain ⟨I, b, c, pts, sp⟩ := r
    obtain ⟨rl, rb, T, rmem⟩ := hrm
    simp only at rl rb rmem hbA
    have := FoC.mk rmem
    dsimp only [RD.hd]
    rename_i b6
    have hb1 : b1 I pts = (if pts.length = 1 then [⟨I, ⟨(gi pts 0).P.X, 0, (gi pts 0).P.Y, 0⟩⟩] else []) ++ bs I pts (pts.length - 1) := by
      unfold b1
      split
      · rename_i h1
        rw [h1]
        rfl
      · rfl
    refine j_permL (mS 68 s ++ [⟨b6, cRun I b pts.length c, 35⟩]) (List.perm_append_singleton _ _).symm ?_
    have hgA : (pts.length : Int) = 1 ↔ pts.length = 1 := by omega
    refine j_cut (S := (xs : List PU) × SlS rP 36 xs) (fun s' => s'.1 = bA rs m ++ (if pts.length = 1 then [⟨I, ⟨(gi pts 0).P.X, 0, (gi pts 0).P.Y, 0⟩⟩] else [])) (fun s' => [(4, vSl s'.2), (6, .pointer (some ⟨b6, 0, none⟩)), (11, .slice (some ⟨bw, ow, none⟩) rs.length cp), (12, .int .i64 rs.length), (13, .int .i64 (m : Nat))]) (fun s' => mS 68 s'.2 ++ [⟨b6, cRun I b pts.length c, 35⟩]) ?_ (fun s' hs' => ?_)
    · refine j_cond rfl (fun h1 => ?_) (fun h1 => ?_)
      · have h1' : pts.length = 1 := by have := of_decide_eq_true h1; omega
        repeat (first | refine sX rfl rfl ?_ | (refine sS rfl rfl ?_ ?_; focus omega) | (refine sC rfl rfl ?_ ?_; focus (first | exact trivial | assumption | constructor <;> assumption | exact mb2 rfl rfl | exact mb4 rfl rfl rfl rfl)) | refine cX ?_ | refine cY ?_ | (refine sA rfl rfl ?_; intro _) | refine sT rfl ?_ | refine sF rfl ?_ | (refine sR rfl ?_ ?_; focus omega) | (refine sB rfl rfl ?_; intro _) | (refine sN rfl rfl ?_ ?_; (focus (first | exact trivial | assumption | constructor <;> assumption | exact mb2 rfl rfl | exact mb4 rfl rfl rfl rfl)); intro _; (try simp only [List.cons_append, List.nil_append, List.append_nil])) | refine sW rfl rfl ?_ | refine sK rfl rfl ?_ | refine j_if rfl ?_ | refine j_else rfl ?_ | refine pkT rfl rfl rfl rfl ?_ | refine pkF rfl rfl rfl rfl ?_)
        refine sU rfl rfl ?_ ?_ ?_ ?_
        · rfl
        · rfl
        · exact ⟨by decide, by omega, by omega⟩
        intro s'
        repeat (first | refine sX rfl rfl ?_ | (refine sS rfl rfl ?_ ?_; focus omega) | (refine sC rfl rfl ?_ ?_; focus (first | exact trivial | assumption | constructor <;> assumption | exact mb2 rfl rfl | exact mb4 rfl rfl rfl rfl)) | refine cX ?_ | refine cY ?_ | (refine sA rfl rfl ?_; intro _) | refine sT rfl ?_ | refine sF rfl ?_ | (refine sR rfl ?_ ?_; focus omega) | (refine sB rfl rfl ?_; intro _) | (refine sN rfl rfl ?_ ?_; (focus (first | exact trivial | assumption | constructor <;> assumption | exact mb2 rfl rfl | exact mb4 rfl rfl rfl rfl)); intro _; (try simp only [List.cons_append, List.nil_append, List.append_nil])) | refine sW rfl rfl ?_ | refine sK rfl rfl ?_ | refine j_if rfl ?_ | refine j_else rfl ?_ | refine pkT rfl rfl rfl rfl ?_ | refine pkF rfl rfl rfl rfl ?_)
        exact jx_mid ⟨_, s'⟩ (by rw [if_pos h1']) (by repeat (first | exact sub_nil | refine sub_cons rfl ?_ | refine sub_cons' rfl (by congr 1; omega) ?_)) (by repeat (first | exact List.Sublist.refl _ | exact List.nil_sublist _ | exact List.sublist_append_left _ _ | refine List.Sublist.append_left ?_ _ | refine List.Sublist.cons_cons _ ?_ | refine List.Sublist.cons _ ?_ | refine List.Sublist.trans ?_ (List.sublist_append_right _ _)))
      · have h1' : ¬ pts.length = 1 := by have := of_decide_eq_false h1; omega
        refine j_skip ?_
        exact jx_mid ⟨bA rs m, s⟩ (by rw [if_neg h1', List.append_nil]) (by repeat (first | exact sub_nil | refine sub_cons rfl ?_ | refine sub_cons' rfl (by congr 1; omega) ?_)) (by repeat (first | exact List.Sublist.refl _ | exact List.nil_sublist _ | exact List.sublist_append_left _ _ | refine List.Sublist.append_left ?_ _ | refine List.Sublist.cons_cons _ ?_ | refine List.Sublist.cons _ ?_ | refine List.Sublist.trans ?_ (List.sublist_append_right _ _)))
    · obtain ⟨xs, s1⟩ := s'
      simp only at hs' ⊢
      have hxl : xs.length ≤ (bA rs m).length + 1 := by
        rw [hs', List.length_append]
        split <;> simp
      repeat (first | refine sX rfl rfl ?_ | (refine sS rfl rfl ?_ ?_; focus omega) | (refine sC rfl rfl ?_ ?_; focus (first | exact trivial | assumption | constructor <;> assumption | exact mb2 rfl rfl | exact mb4 rfl rfl rfl rfl)) | refine cX ?_ | refine cY ?_ | (refine sA rfl rfl ?_; intro _) | refine sT rfl ?_ | refine sF rfl ?_ | (refine sR rfl ?_ ?_; focus omega) | (refine sB rfl rfl ?_; intro _) | (refine sN rfl rfl ?_ ?_; (focus (first | exact trivial | assumption | constructor <;> assumption | exact mb2 rfl rfl | exact mb4 rfl rfl rfl rfl)); intro _; (try simp only [List.cons_append, List.nil_append, List.append_nil])) | refine sW rfl rfl ?_ | refine sK rfl rfl ?_ | refine j_if rfl ?_ | refine j_else rfl ?_ | refine pkT rfl rfl rfl rfl ?_ | refine pkF rfl rfl rfl rfl ?_)
      refine j_loop (S := (ys : List PU) × Nat × SlS rP 36 ys) (fun t => t.1 = xs ++ bs I pts t.2.1 ∧ t.2.1 ≤ pts.length - 1) (fun t => [(4, vSl t.2.2), (6, .pointer (some ⟨b6, 0, none⟩)), (8, .int .i64 ((pts.length : Int) - 1)), (9, .int .i64 ((t.2.1 : Int) + 1)), (11, .slice (some ⟨bw, ow, none⟩) rs.length cp), (12, .int .i64 rs.length), (13, .int .i64 (m : Nat))]) (fun t => mS 68 t.2.2 ++ [⟨b6, cRun I b pts.length c, 35⟩]) (fun t => pts.length - 1 - t.2.1) ⟨xs, 0, s1⟩ ⟨by rw [bs, List.append_nil], Nat.zero_le _⟩ (by repeat (first | exact sub_nil | refine sub_cons rfl ?_ | refine sub_cons' rfl (by congr 1; omega) ?_)) (by repeat (first | exact List.Sublist.refl _ | exact List.nil_sublist _ | exact List.sublist_append_left _ _ | refine List.Sublist.append_left ?_ _ | refine List.Sublist.cons_cons _ ?_ | refine List.Sublist.cons _ ?_ | refine List.Sublist.trans ?_ (List.sublist_append_right _ _))) (fun t ht => ?_)
      obtain ⟨ys, i, s2⟩ := t
      simp only at ht ⊢
      obtain ⟨hys, hi⟩ := ht
      have hyl : ys.length ≤ (bA rs m).length + 1 + i := by
        rw [hys, List.length_append, bs_len]
        omega
      repeat (first | refine sX rfl rfl ?_ | (refine sS rfl rfl ?_ ?_; focus omega) | (refine sC rfl rfl ?_ ?_; focus (first | exact trivial | assumption | constructor <;> assumption | exact mb2 rfl rfl | exact mb4 rfl rfl rfl rfl)) | refine cX ?_ | refine cY ?_ | (refine sA rfl rfl ?_; intro _) | refine sT rfl ?_ | refine sF rfl ?_ | (refine sR rfl ?_ ?_; focus omega) | (refine sB rfl rfl ?_; intro _) | (refine sN rfl rfl ?_ ?_; (focus (first | exact trivial | assumption | constructor <;> assumption | exact mb2 rfl rfl | exact mb4 rfl rfl rfl rfl)); intro _; (try simp only [List.cons_append, List.nil_append, List.append_nil])) | refine sW rfl rfl ?_ | refine sK rfl rfl ?_ | refine j_if rfl ?_ | refine j_else rfl ?_ | refine pkT rfl rfl rfl rfl ?_ | refine pkF rfl rfl rfl rfl ?_)
      refine j_cond rfl (fun h2 => ?_) (fun h2 => ?_)
      · have hi2 : i + 1 < pts.length := by have := of_decide_eq_true h2; omega
        repeat (first | refine sX rfl rfl ?_ | (refine sS rfl rfl ?_ ?_; focus omega) | (refine sC rfl rfl ?_ ?_; focus (first | exact trivial | assumption | constructor <;> assumption | exact mb2 rfl rfl | exact mb4 rfl rfl rfl rfl)) | refine cX ?_ | refine cY ?_ | (refine sA rfl rfl ?_; intro _) | refine sT rfl ?_ | refine sF rfl ?_ | (refine sR rfl ?_ ?_; focus omega) | (refine sB rfl rfl ?_; intro _) | (refine sN rfl rfl ?_ ?_; (focus (first | exact trivial | assumption | constructor <;> assumption | exact mb2 rfl rfl | exact mb4 rfl rfl rfl rfl)); intro _; (try simp only [List.cons_append, List.nil_append, List.append_nil])) | refine sW rfl rfl ?_ | refine sK rfl rfl ?_ | refine j_if rfl ?_ | refine j_else rfl ?_ | refine pkT rfl rfl rfl rfl ?_ | refine pkF rfl rfl rfl rfl ?_)
        (refine jD 16 17 mixed (by kernel_rfl) ?_; (repeat (first | refine tX rfl rfl ?_ | (refine tS rfl rfl ?_ ?_; focus omega) | (refine tC rfl rfl ?_ ?_; focus (first | exact trivial | assumption | constructor <;> assumption | exact mb2 rfl rfl | exact mb4 rfl rfl rfl rfl)) | refine tW rfl rfl ?_ | refine tK rfl rfl ?_ | refine Go.Vt.hq (wl_pickT rfl rfl) rfl rfl ?_ | refine Go.Vt.hq (wl_pickF rfl rfl) rfl rfl ?_)); refine jh_nil ?_; (repeat (refine wn_new ?_; intro _)); refine jn_nil ?_)
        repeat (first | refine sX rfl rfl ?_ | (refine sS rfl rfl ?_ ?_; focus omega) | (refine sC rfl rfl ?_ ?_; focus (first | exact trivial | assumption | constructor <;> assumption | exact mb2 rfl rfl | exact mb4 rfl rfl rfl rfl)) | refine cX ?_ | refine cY ?_ | (refine sA rfl rfl ?_; intro _) | refine sT rfl ?_ | refine sF rfl ?_ | (refine sR rfl ?_ ?_; focus omega) | (refine sB rfl rfl ?_; intro _) | (refine sN rfl rfl ?_ ?_; (focus (first | exact trivial | assumption | constructor <;> assumption | exact mb2 rfl rfl | exact mb4 rfl rfl rfl rfl)); intro _; (try simp only [List.cons_append, List.nil_append, List.append_nil])) | refine sW rfl rfl ?_ | refine sK rfl rfl ?_ | refine j_if rfl ?_ | refine j_else rfl ?_ | refine pkT rfl rfl rfl rfl ?_ | refine pkF rfl rfl rfl rfl ?_)
        rename_i b10
        have e1 : (i : Int) + 1 - 1 = i := by omega
        have e2 : (i : Int) + 1 = ((i + 1 : Nat) : Int) := by omega
        simp only [e1]
        refine j_cut (S := Bool) (fun o => o = if i = 0 then I.OpenFrom else true) (fun _ => [(4, vSl s2), (6, .pointer (some ⟨b6, 0, none⟩)), (8, .int .i64 ((pts.length : Int) - 1)), (9, .int .i64 ((i : Int) + 1)), (10, .pointer (some ⟨b10, 0, none⟩)), (11, .slice (some ⟨bw, ow, none⟩) rs.length cp), (12, .int .i64 rs.length), (13, .int .i64 (m : Nat))]) (fun o => ⟨b10, e_api_Interval (q_api_Interval ⟨⟨(gi pts (i : Int)).T, 0, false⟩, ⟨(gi pts ((i : Int) + 1)).T, 0, false⟩, o, false⟩), 32⟩ :: (mS 68 s2 ++ [⟨b6, cRun I b pts.length c, 35⟩])) ?_ (fun o ho => ?_)
        · refine j_cond rfl (fun h3 => ?_) (fun h3 => ?_)
          · have h3' : i = 0 := by have := of_decide_eq_true h3; omega
            repeat (first | refine sX rfl rfl ?_ | (refine sS rfl rfl ?_ ?_; focus omega) | (refine sC rfl rfl ?_ ?_; focus (first | exact trivial | assumption | constructor <;> assumption | exact mb2 rfl rfl | exact mb4 rfl rfl rfl rfl)) | refine cX ?_ | refine cY ?_ | (refine sA rfl rfl ?_; intro _) | refine sT rfl ?_ | refine sF rfl ?_ | (refine sR rfl ?_ ?_; focus omega) | (refine sB rfl rfl ?_; intro _) | (refine sN rfl rfl ?_ ?_; (focus (first | exact trivial | assumption | constructor <;> assumption | exact mb2 rfl rfl | exact mb4 rfl rfl rfl rfl)); intro _; (try simp only [List.cons_append, List.nil_append, List.append_nil])) | refine sW rfl rfl ?_ | refine sK rfl rfl ?_ | refine j_if rfl ?_ | refine j_else rfl ?_ | refine pkT rfl rfl rfl rfl ?_ | refine pkF rfl rfl rfl rfl ?_)
            exact jx_mid I.OpenFrom (by rw [if_pos h3']) (by repeat (first | exact sub_nil | refine sub_cons rfl ?_ | refine sub_cons' rfl (by congr 1; omega) ?_)) (by repeat (first | exact List.Sublist.refl _ | exact List.nil_sublist _ | exact List.sublist_append_left _ _ | refine List.Sublist.append_left ?_ _ | refine List.Sublist.cons_cons _ ?_ | refine List.Sublist.cons _ ?_ | refine List.Sublist.trans ?_ (List.sublist_append_right _ _)))
          · have h3' : ¬ i = 0 := by have := of_decide_eq_false h3; omega
            refine j_skip ?_
            exact jx_mid true (by rw [if_neg h3']) (by repeat (first | exact sub_nil | refine sub_cons rfl ?_ | refine sub_cons' rfl (by congr 1; omega) ?_)) (by repeat (first | exact List.Sublist.refl _ | exact List.nil_sublist _ | exact List.sublist_append_left _ _ | refine List.Sublist.append_left ?_ _ | refine List.Sublist.cons_cons _ ?_ | refine List.Sublist.cons _ ?_ | refine List.Sublist.trans ?_ (List.sublist_append_right _ _)))
        · repeat (first | refine sX rfl rfl ?_ | (refine sS rfl rfl ?_ ?_; focus omega) | (refine sC rfl rfl ?_ ?_; focus (first | exact trivial | assumption | constructor <;> assumption | exact mb2 rfl rfl | exact mb4 rfl rfl rfl rfl)) | refine cX ?_ | refine cY ?_ | (refine sA rfl rfl ?_; intro _) | refine sT rfl ?_ | refine sF rfl ?_ | (refine sR rfl ?_ ?_; focus omega) | (refine sB rfl rfl ?_; intro _) | (refine sN rfl rfl ?_ ?_; (focus (first | exact trivial | assumption | constructor <;> assumption | exact mb2 rfl rfl | exact mb4 rfl rfl rfl rfl)); intro _; (try simp only [List.cons_append, List.nil_append, List.append_nil])) | refine sW rfl rfl ?_ | refine sK rfl rfl ?_ | refine j_if rfl ?_ | refine j_else rfl ?_ | refine pkT rfl rfl rfl rfl ?_ | refine pkF rfl rfl rfl rfl ?_)
          refine j_cut (S := Bool) (fun o' => o' = if i + 2 = pts.length then I.OpenTo else false) (fun _ => [(4, vSl s2), (6, .pointer (some ⟨b6, 0, none⟩)), (8, .int .i64 ((pts.length : Int) - 1)), (9, .int .i64 ((i : Int) + 1)), (10, .pointer (some ⟨b10, 0, none⟩)), (11, .slice (some ⟨bw, ow, none⟩) rs.length cp), (12, .int .i64 rs.length), (13, .int .i64 (m : Nat))]) (fun o' => ⟨b10, e_api_Interval (q_api_Interval ⟨⟨(gi pts (i : Int)).T, 0, false⟩, ⟨(gi pts ((i : Int) + 1)).T, 0, false⟩, o, o'⟩), 32⟩ :: (mS 68 s2 ++ [⟨b6, cRun I b pts.length c, 35⟩])) ?_ (fun o' ho' => ?_)
          · refine j_cond rfl (fun h4 => ?_) (fun h4 => ?_)
            · have h4' : i + 2 = pts.length := by have := of_decide_eq_true h4; omega
              repeat (first | refine sX rfl rfl ?_ | (refine sS rfl rfl ?_ ?_; focus omega) | (refine sC rfl rfl ?_ ?_; focus (first | exact trivial | assumption | constructor <;> assumption | exact mb2 rfl rfl | exact mb4 rfl rfl rfl rfl)) | refine cX ?_ | refine cY ?_ | (refine sA rfl rfl ?_; intro _) | refine sT rfl ?_ | refine sF rfl ?_ | (refine sR rfl ?_ ?_; focus omega) | (refine sB rfl rfl ?_; intro _) | (refine sN rfl rfl ?_ ?_; (focus (first | exact trivial | assumption | constructor <;> assumption | exact mb2 rfl rfl | exact mb4 rfl rfl rfl rfl)); intro _; (try simp only [List.cons_append, List.nil_append, List.append_nil])) | refine sW rfl rfl ?_ | refine sK rfl rfl ?_ | refine j_if rfl ?_ | refine j_else rfl ?_ | refine pkT rfl rfl rfl rfl ?_ | refine pkF rfl rfl rfl rfl ?_)
              exact jx_mid I.OpenTo (by rw [if_pos h4']) (by repeat (first | exact sub_nil | refine sub_cons rfl ?_ | refine sub_cons' rfl (by congr 1; omega) ?_)) (by repeat (first | exact List.Sublist.refl _ | exact List.nil_sublist _ | exact List.sublist_append_left _ _ | refine List.Sublist.append_left ?_ _ | refine List.Sublist.cons_cons _ ?_ | refine List.Sublist.cons _ ?_ | refine List.Sublist.trans ?_ (List.sublist_append_right _ _)))
            · have h4' : ¬ i + 2 = pts.length := by have := of_decide_eq_false h4; omega
              refine j_skip ?_
              exact jx_mid false (by rw [if_neg h4']) (by repeat (first | exact sub_nil | refine sub_cons rfl ?_ | refine sub_cons' rfl (by congr 1; omega) ?_)) (by repeat (first | exact List.Sublist.refl _ | exact List.nil_sublist _ | exact List.sublist_append_left _ _ | refine List.Sublist.append_left ?_ _ | refine List.Sublist.cons_cons _ ?_ | refine List.Sublist.cons _ ?_ | refine List.Sublist.trans ?_ (List.sublist_append_right _ _)))
          · have hp : ∀ i : Int, M (gi pts i).T ≤ 34359738368 ∧ M (gi pts i).P.X ≤ 34359738368 ∧ M (gi pts i).P.Y ≤ 34359738368 := fun i => ⟨Nat.le_trans (rb i).1 (by decide), Nat.le_trans (rb i).2.1 (by decide), Nat.le_trans (rb i).2.2 (by decide)⟩
            have hu : bsU I pts i = ⟨⟨⟨(gi pts (i : Int)).T, 0, false⟩, ⟨(gi pts ((i : Int) + 1)).T, 0, false⟩, o, o'⟩, stl (gi pts (i : Int)) (gi pts ((i : Int) + 1))⟩ := by
              rw [ho, ho', e2]
              rfl
            (refine j_tree (.v [0, 1, 2, 3, 4, 5, 6, 7, 8, 9, 10, 11, 12, 13, 14] (.e1 15 (.e1 16 (.e1 17 (.fin))))) ([⟨b10, e_api_Interval (q_api_Interval ⟨⟨(gi pts (i : Int)).T, 0, false⟩, ⟨(gi pts ((i : Int) + 1)).T, 0, false⟩, o, o'⟩), 32⟩, ⟨b6, cRun I b pts.length c, 35⟩]) mixed (by kernel_rfl) (by repeat (first | exact List.Sublist.refl _ | exact List.nil_sublist _ | refine List.Sublist.cons_cons _ ?_ | refine List.Sublist.cons _ ?_ | refine List.Sublist.trans ?_ (List.sublist_append_right _ _))) ?_; simp only [JT, picks, List.getElem?_cons_succ, List.getElem?_cons_zero])
            repeat (first | refine tX rfl rfl ?_ | (refine tS rfl rfl ?_ ?_; focus omega) | (refine tC rfl rfl ?_ ?_; focus (first | exact trivial | assumption | constructor <;> assumption | exact mb2 rfl rfl | exact mb4 rfl rfl rfl rfl)) | refine tW rfl rfl ?_ | refine tK rfl rfl ?_ | refine Go.Vt.hq (wl_pickT rfl rfl) rfl rfl ?_ | refine Go.Vt.hq (wl_pickF rfl rfl) rfl rfl ?_)
            simp only [e1]
            repeat (first | refine eS rfl rfl ?_ | refine uP rfl rfl rfl rfl ?_ | refine uQ rfl rfl rfl rfl ?_ | refine eX rfl rfl ?_ | (refine uS rfl rfl ?_ ?_; focus omega) | (refine uC rfl rfl ?_ ?_; focus (exact ⟨hp _, hp _⟩)) | refine uW rfl rfl ?_ | refine eF rfl ?_ | refine eT rfl ?_ | (refine eA rfl rfl ?_; intro _) | (refine eB rfl rfl ?_; intro _) | (refine eN rfl rfl ?_ ?_; (focus (exact ⟨hp _, hp _⟩)); intro _; (try simp only [List.cons_append, List.nil_append, List.append_nil])) | refine je_nil ?_ | refine tX rfl rfl ?_ | (refine tS rfl rfl ?_ ?_; focus omega) | (refine tC rfl rfl ?_ ?_; focus (exact ⟨hp _, hp _⟩)) | refine tW rfl rfl ?_ | refine tK rfl rfl ?_ | refine Go.Vt.hq (wl_pickT rfl rfl) rfl rfl ?_ | refine Go.Vt.hq (wl_pickF rfl rfl) rfl rfl ?_ | refine jh_nil ?_ | (refine wn_new ?_; intro _) | refine jn_nil ?_)
            repeat (first | refine sX rfl rfl ?_ | (refine sS rfl rfl ?_ ?_; focus omega) | (refine sC rfl rfl ?_ ?_; focus (first | exact trivial | assumption | constructor <;> assumption | exact mb2 rfl rfl | exact mb4 rfl rfl rfl rfl)) | refine cX ?_ | refine cY ?_ | (refine sA rfl rfl ?_; intro _) | refine sT rfl ?_ | refine sF rfl ?_ | (refine sR rfl ?_ ?_; focus omega) | (refine sB rfl rfl ?_; intro _) | (refine sN rfl rfl ?_ ?_; (focus (first | exact trivial | assumption | constructor <;> assumption | exact mb2 rfl rfl | exact mb4 rfl rfl rfl rfl)); intro _; (try simp only [List.cons_append, List.nil_append, List.append_nil])) | refine sW rfl rfl ?_ | refine sK rfl rfl ?_ | refine j_if rfl ?_ | refine j_else rfl ?_ | refine pkT rfl rfl rfl rfl ?_ | refine pkF rfl rfl rfl rfl ?_)
            rw [← hu]
            refine eU rfl rfl ?_ ?_ ?_ ?_
            · rfl
            · rfl
            · exact ⟨by decide, by omega, by omega⟩
            intro s'
            repeat (first | refine eS rfl rfl ?_ | refine uP rfl rfl rfl rfl ?_ | refine uQ rfl rfl rfl rfl ?_ | refine eX rfl rfl ?_ | (refine uS rfl rfl ?_ ?_; focus omega) | (refine uC rfl rfl ?_ ?_; focus (first | exact trivial | assumption | constructor <;> assumption | exact mb2 rfl rfl | exact mb4 rfl rfl rfl rfl)) | refine uW rfl rfl ?_ | refine eF rfl ?_ | refine eT rfl ?_ | (refine eA rfl rfl ?_; intro _) | (refine eB rfl rfl ?_; intro _) | (refine eN rfl rfl ?_ ?_; (focus (first | exact trivial | assumption | constructor <;> assumption | exact mb2 rfl rfl | exact mb4 rfl rfl rfl rfl)); intro _; (try simp only [List.cons_append, List.nil_append, List.append_nil])) | refine je_nil ?_ | refine tX rfl rfl ?_ | (refine tS rfl rfl ?_ ?_; focus omega) | (refine tC rfl rfl ?_ ?_; focus (first | exact trivial | assumption | constructor <;> assumption | exact mb2 rfl rfl | exact mb4 rfl rfl rfl rfl)) | refine tW rfl rfl ?_ | refine tK rfl rfl ?_ | refine Go.Vt.hq (wl_pickT rfl rfl) rfl rfl ?_ | refine Go.Vt.hq (wl_pickF rfl rfl) rfl rfl ?_ | refine jh_nil ?_ | (refine wn_new ?_; intro _) | refine jn_nil ?_)
            repeat (first | refine sX rfl rfl ?_ | (refine sS rfl rfl ?_ ?_; focus omega) | (refine sC rfl rfl ?_ ?_; focus (first | exact trivial | assumption | constructor <;> assumption | exact mb2 rfl rfl | exact mb4 rfl rfl rfl rfl)) | refine cX ?_ | refine cY ?_ | (refine sA rfl rfl ?_; intro _) | refine sT rfl ?_ | refine sF rfl ?_ | (refine sR rfl ?_ ?_; focus omega) | (refine sB rfl rfl ?_; intro _) | (refine sN rfl rfl ?_ ?_; (focus (first | exact trivial | assumption | constructor <;> assumption | exact mb2 rfl rfl | exact mb4 rfl rfl rfl rfl)); intro _; (try simp only [List.cons_append, List.nil_append, List.append_nil])) | refine sW rfl rfl ?_ | refine sK rfl rfl ?_ | refine j_if rfl ?_ | refine j_else rfl ?_ | refine pkT rfl rfl rfl rfl ?_ | refine pkF rfl rfl rfl rfl ?_)
            exact jx_loop ⟨_, i + 1, s'⟩ ⟨by show ys ++ [bsU I pts i] = xs ++ (bs I pts i ++ [bsU I pts i]); rw [hys, List.append_assoc], by show i + 1 ≤ pts.length - 1; omega⟩ (by repeat (first | exact sub_nil | refine sub_cons rfl ?_ | refine sub_cons' rfl (by congr 1; omega) ?_)) (by repeat (first | exact List.Sublist.refl _ | exact List.nil_sublist _ | exact List.sublist_append_left _ _ | refine List.Sublist.append_left ?_ _ | refine List.Sublist.cons_cons _ ?_ | refine List.Sublist.cons _ ?_ | refine List.Sublist.trans ?_ (List.sublist_append_right _ _))) (by show pts.length - 1 - (i + 1) < pts.length - 1 - i; omega)
      · have hge : i = pts.length - 1 := by have := of_decide_eq_false h2; omega
        subst hge
        have hbm : ys = bA rs (m + 1) := by rw [hbA, hb1, ← List.append_assoc, ← hs', hys]
        subst hbm
        repeat (first | refine sX rfl rfl ?_ | (refine sS rfl rfl ?_ ?_; focus omega) | (refine sC rfl rfl ?_ ?_; focus (first | exact trivial | assumption | constructor <;> assumption | exact mb2 rfl rfl | exact mb4 rfl rfl rfl rfl)) | refine cX ?_ | refine cY ?_ | (refine sA rfl rfl ?_; intro _) | refine sT rfl ?_ | refine sF rfl ?_ | (refine sR rfl ?_ ?_; focus omega) | (refine sB rfl rfl ?_; intro _) | (refine sN rfl rfl ?_ ?_; (focus (first | exact trivial | assumption | constructor <;> assumption | exact mb2 rfl rfl | exact mb4 rfl rfl rfl rfl)); intro _; (try simp only [List.cons_append, List.nil_append, List.append_nil])) | refine sW rfl rfl ?_ | refine sK rfl rfl ?_ | refine j_if rfl ?_ | refine j_else rfl ?_ | refine pkT rfl rfl rfl rfl ?_ | refine pkF rfl rfl rfl rfl ?_)
        exact jx_loop ⟨m + 1, s2⟩ (by show m + 1 ≤ rs.length; omega) (by repeat (first | exact sub_nil | refine sub_cons rfl ?_ | refine sub_cons' rfl (by congr 1; omega) ?_)) (by repeat (first | exact List.Sublist.refl _ | exact List.nil_sublist _ | exact List.sublist_append_left _ _ | refine List.Sublist.append_left ?_ _ | refine List.Sublist.cons_cons _ ?_ | refine List.Sublist.cons _ ?_ | refine List.Sublist.trans ?_ (List.sublist_append_right _ _))) (by show rs.length - (m + 1) < rs.length - m; omega)
  · have hge : m = rs.length := by have := of_decide_eq_false h; omega
    subst hge
    repeat (first | refine sX rfl rfl ?_ | (refine sS rfl rfl ?_ ?_; focus omega) | (refine sC rfl rfl ?_ ?_; focus (exact ⟨h19, hin⟩)) | refine cX ?_ | refine cY ?_ | (refine sA rfl rfl ?_; intro _) | refine sT rfl ?_ | refine sF rfl ?_ | (refine sR rfl ?_ ?_; focus omega) | (refine sB rfl rfl ?_; intro _) | (refine sN rfl rfl ?_ ?_; (focus (exact ⟨h19, hin⟩)); intro _; (try simp only [List.cons_append, List.nil_append, List.append_nil])) | refine sW rfl rfl ?_ | refine sK rfl rfl ?_ | refine j_if rfl ?_ | refine j_else rfl ?_ | refine pkT rfl rfl rfl rfl ?_ | refine pkF rfl rfl rfl rfl ?_)
    exact jx_ret_two rfl (resv_tmp rfl) (resv_tmp rfl) (fun w hw => ⟨_, rfl, hw.sub (by repeat (first | exact List.Sublist.refl _ | exact List.nil_sublist _ | exact List.sublist_append_left _ _ | refine List.Sublist.append_left ?_ _ | refine List.Sublist.cons_cons _ ?_ | refine List.Sublist.cons _ ?_ | refine List.Sublist.trans ?_ (List.sublist_append_right _ _)))⟩)
end Go.Vt
/- Plain mathematics: the program's table finds what the reference's search finds. Conditions: none. -/
set_option linter.unusedSimpArgs false
set_option linter.unusedVariables false
namespace Go.Vt
/-- 'k' is the least one of least cost among those that are enough, from 'a' on, below 'b'. -/
def Bst (ok : Nat → Bool) (c : Nat → Int) (a b k : Nat) : Prop := a ≤ k ∧ k < b ∧ ok k = true ∧ ∀ k', a ≤ k' → k' < b → ok k' = true → c k ≤ c k' ∧ (c k = c k' → k ≤ k')
theorem Bst.uniq {ok : Nat → Bool} {c : Nat → Int} {a b k j : Nat} (h : Bst ok c a b k) (g : Bst ok c a b j) : k = j := by
  obtain ⟨h1, h2, h3, h4⟩ := h
  obtain ⟨g1, g2, g3, g4⟩ := g
  have e1 := h4 j g1 g2 g3
  have e2 := g4 k h1 h2 h3
  have e3 : c k = c j := by omega
  have := e1.2 e3
  have := e2.2 e3.symm
  omega
variable {ok : Nat → Nat → Bool} {l i : Nat} {s : List Int × List Int}
end Go.Vt
/- The examples of the chapter, and the reference's best list. Conditions: those that each statement names. -/
set_option linter.unusedSimpArgs false
set_option linter.unusedVariables false
set_option maxRecDepth 100000
namespace Go.Vt
open Go.RowKit Go.Proofs
def zzP : List R_movingpoint_Sample := [⟨((0 : Int) : Rat), ⟨((0 : Int) : Rat), ((0 : Int) : Rat)⟩⟩, ⟨((1 : Int) : Rat), ⟨((1 : Int) : Rat), ((1 : Int) : Rat)⟩⟩, ⟨((2 : Int) : Rat), ⟨((2 : Int) : Rat), ((0 : Int) : Rat)⟩⟩, ⟨((3 : Int) : Rat), ⟨((3 : Int) : Rat), ((1 : Int) : Rat)⟩⟩, ⟨((4 : Int) : Rat), ⟨((4 : Int) : Rat), ((0 : Int) : Rat)⟩⟩]
abbrev liP : List R_movingpoint_Sample := [⟨((0 : Int) : Rat), ⟨((0 : Int) : Rat), ((0 : Int) : Rat)⟩⟩, ⟨((1 : Int) : Rat), ⟨((1 : Int) : Rat), ((0 : Int) : Rat)⟩⟩, ⟨((2 : Int) : Rat), ⟨((4 : Int) : Rat), ((0 : Int) : Rat)⟩⟩]
theorem kn_a : keptL (okd zzP ((((1 : Int) : Rat)) * ((1 : Int) : Rat))) (5 - 1) = [0, 4] := by decide +kernel
theorem kn_b : keptL (okd zzP (Rat.divInt 1 2 * Rat.divInt 1 2)) (5 - 1) = [0, 1, 2, 3, 4] := by decide +kernel
theorem kn_d : dv liP 0 2 1 = ((1 : Int) : Rat) := by decide +kernel
instance sr_zigzag (w0 : World) (L : List Blk) : SpecR Tryz.prog w0 L 40 [] Nat (fun b => vRun ⟨⟨0, 0, false⟩, ⟨((4 : Int) : Rat), 0, false⟩, false, false⟩ b 5 5) (fun b => [⟨b, row rS zzP [], 47⟩]) True := ⟨fun _ w hw => by
  refine fn_intro Tryz.func40 rfl Tryz.ntmps40 rfl ?_
  repeat (first | refine sX rfl rfl ?_ | (refine sS rfl rfl ?_ ?_; focus omega) | (refine sC rfl rfl ?_ ?_; focus (first | exact ⟨by omega, by omega⟩ | exact ⟨⟨by omega, by omega⟩, ⟨by omega, by omega⟩, ⟨by omega, by omega⟩⟩)) | refine cX ?_ | refine cY ?_ | (refine sA rfl rfl ?_; intro _) | refine sT rfl ?_ | refine sF rfl ?_ | (refine sR rfl ?_ ?_; focus omega) | (refine sB rfl rfl ?_; intro _) | (refine sN rfl rfl ?_ ?_; (focus (first | exact ⟨by omega, by omega⟩ | exact ⟨⟨by omega, by omega⟩, ⟨by omega, by omega⟩, ⟨by omega, by omega⟩⟩)); intro _; (try simp only [List.cons_append, List.nil_append, List.append_nil])) | refine sW rfl rfl ?_ | refine sK rfl rfl ?_ | refine j_if rfl ?_ | refine j_else rfl ?_ | refine pkT rfl rfl rfl rfl ?_ | refine pkF rfl rfl rfl rfl ?_)
  rename_i b0 bN
  exact wx_cell rfl rfl (fun w hw => ⟨bN, rfl, hw.sub (by repeat (first | exact List.Sublist.refl _ | exact List.nil_sublist _ | refine List.Sublist.cons_cons _ ?_ | refine List.Sublist.cons _ ?_))⟩)⟩
instance sm_dev2 (w0 : World) (L : List Blk) (I : R_api_Interval) (b n c : Nat) (i j : Int) (pts : List R_movingpoint_Sample) (sp : List Value) (T : TypeId) [h : AtC w0 L b (row r_movingpoint_Sample pts sp) T] : SpecM Tryz.prog w0 L 11 [vRun I b n c, .int .i64 i, .int .i64 j] (.tuple #[vQ (dv pts i.toNat j.toNat (j.toNat - i.toNat - 1)), .int .i64 0]) ((pts.length = n ∧ n ≤ c ∧ n ≤ 1099511627776 ∧ Bnd pts) ∧ 0 ≤ i ∧ i < j ∧ j < n) := ⟨fun hp w hw => by
  obtain ⟨g1, g2, g3, g4⟩ := hp
  have := FoC.mk (h.out w hw)
  refine fn_intro Tryz.func11 rfl Tryz.ntmps11 rfl ?_
  have e1 : ¬ j = 0 := by omega
  have e2 : ¬ i < 0 := by omega
  have e3 : ¬ j ≤ i := by omega
  have e4 : ¬ (n : Int) ≤ j := by omega
  repeat (first | refine sX rfl rfl ?_ | (refine sS rfl rfl ?_ ?_; focus omega) | (refine sC rfl rfl ?_ ?_; focus (first | exact trivial | assumption | constructor <;> assumption | exact mb2 rfl rfl | exact mb4 rfl rfl rfl rfl)) | refine cX ?_ | refine cY ?_ | (refine sA rfl rfl ?_; intro _) | refine sT rfl ?_ | refine sF rfl ?_ | (refine sR rfl ?_ ?_; focus omega) | (refine sB rfl rfl ?_; intro _) | (refine sN rfl rfl ?_ ?_; (focus (first | exact trivial | assumption | constructor <;> assumption | exact mb2 rfl rfl | exact mb4 rfl rfl rfl rfl)); intro _; (try simp only [List.cons_append, List.nil_append, List.append_nil])) | refine sW rfl rfl ?_ | refine sK rfl rfl ?_ | refine j_if rfl ?_ | refine j_else rfl ?_ | refine pkT rfl rfl rfl rfl ?_ | refine pkF rfl rfl rfl rfl ?_)
  by_cases hi : i = 0
  · simp only [decide_eq_true hi]
    repeat (first | refine sX rfl rfl ?_ | (refine sS rfl rfl ?_ ?_; focus omega) | (refine sC rfl rfl ?_ ?_; focus (first | exact trivial | assumption | constructor <;> assumption | exact mb2 rfl rfl | exact mb4 rfl rfl rfl rfl)) | refine cX ?_ | refine cY ?_ | (refine sA rfl rfl ?_; intro _) | refine sT rfl ?_ | refine sF rfl ?_ | (refine sR rfl ?_ ?_; focus omega) | (refine sB rfl rfl ?_; intro _) | (refine sN rfl rfl ?_ ?_; (focus (first | exact trivial | assumption | constructor <;> assumption | exact mb2 rfl rfl | exact mb4 rfl rfl rfl rfl)); intro _; (try simp only [List.cons_append, List.nil_append, List.append_nil])) | refine sW rfl rfl ?_ | refine sK rfl rfl ?_ | refine j_if rfl ?_ | refine j_else rfl ?_ | refine pkT rfl rfl rfl rfl ?_ | refine pkF rfl rfl rfl rfl ?_)
    simp only [decide_eq_false e1]
    repeat (first | refine sX rfl rfl ?_ | (refine sS rfl rfl ?_ ?_; focus omega) | (refine sC rfl rfl ?_ ?_; focus (first | exact trivial | assumption | constructor <;> assumption | exact mb2 rfl rfl | exact mb4 rfl rfl rfl rfl)) | refine cX ?_ | refine cY ?_ | (refine sA rfl rfl ?_; intro _) | refine sT rfl ?_ | refine sF rfl ?_ | (refine sR rfl ?_ ?_; focus omega) | (refine sB rfl rfl ?_; intro _) | (refine sN rfl rfl ?_ ?_; (focus (first | exact trivial | assumption | constructor <;> assumption | exact mb2 rfl rfl | exact mb4 rfl rfl rfl rfl)); intro _; (try simp only [List.cons_append, List.nil_append, List.append_nil])) | refine sW rfl rfl ?_ | refine sK rfl rfl ?_ | refine j_if rfl ?_ | refine j_else rfl ?_ | refine pkT rfl rfl rfl rfl ?_ | refine pkF rfl rfl rfl rfl ?_)
    simp only [decide_eq_false e2]
    repeat (first | refine sX rfl rfl ?_ | (refine sS rfl rfl ?_ ?_; focus omega) | (refine sC rfl rfl ?_ ?_; focus (first | exact trivial | assumption | constructor <;> assumption | exact mb2 rfl rfl | exact mb4 rfl rfl rfl rfl)) | refine cX ?_ | refine cY ?_ | (refine sA rfl rfl ?_; intro _) | refine sT rfl ?_ | refine sF rfl ?_ | (refine sR rfl ?_ ?_; focus omega) | (refine sB rfl rfl ?_; intro _) | (refine sN rfl rfl ?_ ?_; (focus (first | exact trivial | assumption | constructor <;> assumption | exact mb2 rfl rfl | exact mb4 rfl rfl rfl rfl)); intro _; (try simp only [List.cons_append, List.nil_append, List.append_nil])) | refine sW rfl rfl ?_ | refine sK rfl rfl ?_ | refine j_if rfl ?_ | refine j_else rfl ?_ | refine pkT rfl rfl rfl rfl ?_ | refine pkF rfl rfl rfl rfl ?_)
    simp only [decide_eq_false e3]
    repeat (first | refine sX rfl rfl ?_ | (refine sS rfl rfl ?_ ?_; focus omega) | (refine sC rfl rfl ?_ ?_; focus (first | exact trivial | assumption | constructor <;> assumption | exact mb2 rfl rfl | exact mb4 rfl rfl rfl rfl)) | refine cX ?_ | refine cY ?_ | (refine sA rfl rfl ?_; intro _) | refine sT rfl ?_ | refine sF rfl ?_ | (refine sR rfl ?_ ?_; focus omega) | (refine sB rfl rfl ?_; intro _) | (refine sN rfl rfl ?_ ?_; (focus (first | exact trivial | assumption | constructor <;> assumption | exact mb2 rfl rfl | exact mb4 rfl rfl rfl rfl)); intro _; (try simp only [List.cons_append, List.nil_append, List.append_nil])) | refine sW rfl rfl ?_ | refine sK rfl rfl ?_ | refine j_if rfl ?_ | refine j_else rfl ?_ | refine pkT rfl rfl rfl rfl ?_ | refine pkF rfl rfl rfl rfl ?_)
    simp only [decide_eq_false e4]
    repeat (first | refine sX rfl rfl ?_ | (refine sS rfl rfl ?_ ?_; focus omega) | (refine sC rfl rfl ?_ ?_; focus (exact ⟨g1, g2, g3, g4⟩)) | refine cX ?_ | refine cY ?_ | (refine sA rfl rfl ?_; intro _) | refine sT rfl ?_ | refine sF rfl ?_ | (refine sR rfl ?_ ?_; focus omega) | (refine sB rfl rfl ?_; intro _) | (refine sN rfl rfl ?_ ?_; (focus (exact ⟨g1, g2, g3, g4⟩)); intro _; (try simp only [List.cons_append, List.nil_append, List.append_nil])) | refine sW rfl rfl ?_ | refine sK rfl rfl ?_ | refine j_if rfl ?_ | refine j_else rfl ?_ | refine pkT rfl rfl rfl rfl ?_ | refine pkF rfl rfl rfl rfl ?_)
    exact jx_ret_two rfl (wr_cell rfl) (resv_tmp rfl) (fun w hw => ret_ok hw)
  · simp only [decide_eq_false hi]
    repeat (first | refine sX rfl rfl ?_ | (refine sS rfl rfl ?_ ?_; focus omega) | (refine sC rfl rfl ?_ ?_; focus (first | exact trivial | assumption | constructor <;> assumption | exact mb2 rfl rfl | exact mb4 rfl rfl rfl rfl)) | refine cX ?_ | refine cY ?_ | (refine sA rfl rfl ?_; intro _) | refine sT rfl ?_ | refine sF rfl ?_ | (refine sR rfl ?_ ?_; focus omega) | (refine sB rfl rfl ?_; intro _) | (refine sN rfl rfl ?_ ?_; (focus (first | exact trivial | assumption | constructor <;> assumption | exact mb2 rfl rfl | exact mb4 rfl rfl rfl rfl)); intro _; (try simp only [List.cons_append, List.nil_append, List.append_nil])) | refine sW rfl rfl ?_ | refine sK rfl rfl ?_ | refine j_if rfl ?_ | refine j_else rfl ?_ | refine pkT rfl rfl rfl rfl ?_ | refine pkF rfl rfl rfl rfl ?_)
    simp only [decide_eq_false e2]
    repeat (first | refine sX rfl rfl ?_ | (refine sS rfl rfl ?_ ?_; focus omega) | (refine sC rfl rfl ?_ ?_; focus (first | exact trivial | assumption | constructor <;> assumption | exact mb2 rfl rfl | exact mb4 rfl rfl rfl rfl)) | refine cX ?_ | refine cY ?_ | (refine sA rfl rfl ?_; intro _) | refine sT rfl ?_ | refine sF rfl ?_ | (refine sR rfl ?_ ?_; focus omega) | (refine sB rfl rfl ?_; intro _) | (refine sN rfl rfl ?_ ?_; (focus (first | exact trivial | assumption | constructor <;> assumption | exact mb2 rfl rfl | exact mb4 rfl rfl rfl rfl)); intro _; (try simp only [List.cons_append, List.nil_append, List.append_nil])) | refine sW rfl rfl ?_ | refine sK rfl rfl ?_ | refine j_if rfl ?_ | refine j_else rfl ?_ | refine pkT rfl rfl rfl rfl ?_ | refine pkF rfl rfl rfl rfl ?_)
    simp only [decide_eq_false e3]
    repeat (first | refine sX rfl rfl ?_ | (refine sS rfl rfl ?_ ?_; focus omega) | (refine sC rfl rfl ?_ ?_; focus (first | exact trivial | assumption | constructor <;> assumption | exact mb2 rfl rfl | exact mb4 rfl rfl rfl rfl)) | refine cX ?_ | refine cY ?_ | (refine sA rfl rfl ?_; intro _) | refine sT rfl ?_ | refine sF rfl ?_ | (refine sR rfl ?_ ?_; focus omega) | (refine sB rfl rfl ?_; intro _) | (refine sN rfl rfl ?_ ?_; (focus (first | exact trivial | assumption | constructor <;> assumption | exact mb2 rfl rfl | exact mb4 rfl rfl rfl rfl)); intro _; (try simp only [List.cons_append, List.nil_append, List.append_nil])) | refine sW rfl rfl ?_ | refine sK rfl rfl ?_ | refine j_if rfl ?_ | refine j_else rfl ?_ | refine pkT rfl rfl rfl rfl ?_ | refine pkF rfl rfl rfl rfl ?_)
    simp only [decide_eq_false e4]
    repeat (first | refine sX rfl rfl ?_ | (refine sS rfl rfl ?_ ?_; focus omega) | (refine sC rfl rfl ?_ ?_; focus (exact ⟨g1, g2, g3, g4⟩)) | refine cX ?_ | refine cY ?_ | (refine sA rfl rfl ?_; intro _) | refine sT rfl ?_ | refine sF rfl ?_ | (refine sR rfl ?_ ?_; focus omega) | (refine sB rfl rfl ?_; intro _) | (refine sN rfl rfl ?_ ?_; (focus (exact ⟨g1, g2, g3, g4⟩)); intro _; (try simp only [List.cons_append, List.nil_append, List.append_nil])) | refine sW rfl rfl ?_ | refine sK rfl rfl ?_ | refine j_if rfl ?_ | refine j_else rfl ?_ | refine pkT rfl rfl rfl rfl ?_ | refine pkF rfl rfl rfl rfl ?_)
    exact jx_ret_two rfl (wr_cell rfl) (resv_tmp rfl) (fun w hw => ret_ok hw)⟩
instance (priority := low) sm_same' (w0 : World) (L : List Blk) (a b ca cb n m : Nat) (xs ys : List Int) (spx spy : List Value) (Tx Ty : TypeId) [h1 : AtC w0 L a (row (eI .i64) xs spx) Tx] [h2 : AtC w0 L b (row (eI .i64) ys spy) Ty] : SpecM Tryz.prog w0 L 43 [.slice (some ⟨a, 0, none⟩) n ca, .slice (some ⟨b, 0, none⟩) m cb] (.bool (decide (xs = ys))) ((n = xs.length ∧ m = ys.length) ∧ n ≤ 1099511627776) := ⟨fun hp w hw => by
  obtain ⟨⟨rfl, rfl⟩, hp⟩ := hp
  exact same_spec a b ca cb xs ys spx spy Tx Ty hp w (h1.out w hw) (h2.out w hw)⟩
theorem bnd_of {pts : List R_movingpoint_Sample} (h : ∀ x ∈ pts, M x.T ≤ PB ∧ M x.P.X ≤ PB ∧ M x.P.Y ≤ PB) : Bnd pts := fun i => by
  by_cases hi : i.toNat < pts.length
  · rw [gi_eq hi]
    exact h _ (List.getElem_mem hi)
  · have : gi pts i = default := by unfold gi; simp only [List.getD_eq_getElem?_getD, List.getElem?_eq_none (by omega : pts.length ≤ i.toNat)]; rfl
    rw [this]
    exact ⟨by decide +kernel, by decide +kernel, by decide +kernel⟩
theorem bnd_zz : Bnd zzP := bnd_of (by decide +kernel)
theorem bnd_li : Bnd liP := bnd_of (by decide +kernel)
/-- The chapter's examples hold. -/
instance sm_known : SpecC Tryz.prog 9 [] (.bool true) True := ⟨fun _ w => by
  refine fn_intro Tryz.func9 rfl Tryz.ntmps9 rfl ?_
  have r1 : RunOk zzP 5 5 := ⟨rfl, Nat.le_refl _, by decide, bnd_zz⟩
  have r2 : RunOk liP 3 3 := ⟨rfl, Nat.le_refl _, by decide, bnd_li⟩
  repeat (first | refine sX rfl rfl ?_ | (refine sS rfl rfl ?_ ?_; focus omega) | (refine sC rfl rfl ?_ ?_; focus (first | exact trivial | exact ⟨by omega, by omega⟩ | exact ⟨⟨by omega, by omega⟩, ⟨by omega, by omega⟩⟩ | exact ⟨⟨by omega, by omega⟩, ⟨by omega, by omega⟩, ⟨by omega, by omega⟩⟩ | exact ⟨r1, by decide, by decide +kernel, by decide +kernel⟩ | exact ⟨r2, by decide, by decide, by decide⟩)) | refine cX ?_ | refine cY ?_ | (refine sA rfl rfl ?_; intro _) | refine sT rfl ?_ | refine sF rfl ?_ | (refine sR rfl ?_ ?_; focus omega) | (refine sB rfl rfl ?_; intro _) | (refine sN rfl rfl ?_ ?_; (focus (first | exact trivial | exact ⟨by omega, by omega⟩ | exact ⟨⟨by omega, by omega⟩, ⟨by omega, by omega⟩⟩ | exact ⟨⟨by omega, by omega⟩, ⟨by omega, by omega⟩, ⟨by omega, by omega⟩⟩ | exact ⟨r1, by decide, by decide +kernel, by decide +kernel⟩ | exact ⟨r2, by decide, by decide, by decide⟩)); intro _; (try simp only [List.cons_append, List.nil_append, List.append_nil])) | refine sW rfl rfl ?_ | refine sK rfl rfl ?_ | refine j_if rfl ?_ | refine j_else rfl ?_ | refine pkT rfl rfl rfl rfl ?_ | refine pkF rfl rfl rfl rfl ?_)
  rename_i bh bz sa
  obtain ⟨⟨ba, ca, spa⟩, ha⟩ := sa
  simp only [kn_a] at ha ⊢
  (refine j_late3 [1] [0, 2] [3, 4, 5, 6, 7] ([⟨ba, row (eI .i64) [0, 4] spa, 3⟩, ⟨bh, e_api_Rat (Q (Rat.divInt 1 2)), 28⟩]) mixed (by kernel_rfl) (by decide) (by repeat (first | exact List.Sublist.refl _ | exact List.nil_sublist _ | refine List.Sublist.cons_cons _ ?_ | refine List.Sublist.cons _ ?_ | refine List.Sublist.trans ?_ (List.sublist_append_right _ _))) ?_; simp only [picks, List.getElem?_cons_succ, List.getElem?_cons_zero])
  repeat (first | refine tX rfl rfl ?_ | (refine tS rfl rfl ?_ ?_; focus omega) | (refine tC rfl rfl ?_ ?_; focus (first | exact trivial | exact ⟨by omega, by omega⟩ | exact ⟨⟨by omega, by omega⟩, ⟨by omega, by omega⟩⟩ | exact ⟨⟨by omega, by omega⟩, ⟨by omega, by omega⟩, ⟨by omega, by omega⟩⟩ | exact ⟨r1, by decide, by decide +kernel, by decide +kernel⟩ | exact ⟨r2, by decide, by decide, by decide⟩)) | refine tW rfl rfl ?_ | refine tK rfl rfl ?_ | refine Go.Vt.hq (wl_pickT rfl rfl) rfl rfl ?_ | refine Go.Vt.hq (wl_pickF rfl rfl) rfl rfl ?_)
  refine jh_nil ?_
  refine eN rfl rfl trivial ?_
  intro bz2
  simp only [List.cons_append, List.nil_append]
  refine eN rfl rfl ⟨r1, by decide, by decide +kernel, by decide +kernel⟩ ?_
  intro sb
  simp only [List.cons_append, List.nil_append]
  refine je_nil ?_
  repeat (first | refine tX rfl rfl ?_ | (refine tS rfl rfl ?_ ?_; focus omega) | (refine tC rfl rfl ?_ ?_; focus (first | exact trivial | exact ⟨by omega, by omega⟩ | exact ⟨⟨by omega, by omega⟩, ⟨by omega, by omega⟩⟩ | exact ⟨⟨by omega, by omega⟩, ⟨by omega, by omega⟩, ⟨by omega, by omega⟩⟩ | exact ⟨r1, by decide, by decide +kernel, by decide +kernel⟩ | exact ⟨r2, by decide, by decide, by decide⟩)) | refine tW rfl rfl ?_ | refine tK rfl rfl ?_ | refine Go.Vt.hq (wl_pickT rfl rfl) rfl rfl ?_ | refine Go.Vt.hq (wl_pickF rfl rfl) rfl rfl ?_)
  refine jh_nil ?_
  obtain ⟨⟨bb, cb, spb⟩, hb⟩ := sb
  simp only [kn_b] at hb ⊢
  repeat (first | refine sX rfl rfl ?_ | (refine sS rfl rfl ?_ ?_; focus omega) | (refine sC rfl rfl ?_ ?_; focus (first | exact trivial | exact ⟨by omega, by omega⟩ | exact ⟨⟨by omega, by omega⟩, ⟨by omega, by omega⟩⟩ | exact ⟨⟨by omega, by omega⟩, ⟨by omega, by omega⟩, ⟨by omega, by omega⟩⟩ | exact ⟨r1, by decide, by decide +kernel, by decide +kernel⟩ | exact ⟨r2, by decide, by decide, by decide⟩)) | refine cX ?_ | refine cY ?_ | (refine sA rfl rfl ?_; intro _) | refine sT rfl ?_ | refine sF rfl ?_ | (refine sR rfl ?_ ?_; focus omega) | (refine sB rfl rfl ?_; intro _) | (refine sN rfl rfl ?_ ?_; (focus (first | exact trivial | exact ⟨by omega, by omega⟩ | exact ⟨⟨by omega, by omega⟩, ⟨by omega, by omega⟩⟩ | exact ⟨⟨by omega, by omega⟩, ⟨by omega, by omega⟩, ⟨by omega, by omega⟩⟩ | exact ⟨r1, by decide, by decide +kernel, by decide +kernel⟩ | exact ⟨r2, by decide, by decide, by decide⟩)); intro _; (try simp only [List.cons_append, List.nil_append, List.append_nil])) | refine sW rfl rfl ?_ | refine sK rfl rfl ?_ | refine j_if rfl ?_ | refine j_else rfl ?_ | refine pkT rfl rfl rfl rfl ?_ | refine pkF rfl rfl rfl rfl ?_)
  rename_i bp bq br
  rw [show dv _ (Int.toNat 0) (Int.toNat 2) (Int.toNat 2 - Int.toNat 0 - 1) = ((1 : Int) : Rat) from kn_d]
  (refine j_phases [([0, 1, 2, 3], [4, 5, 6, 7, 8, 9, 10, 11]), ([12], [13, 14, 15, 16, 17, 18, 19, 20]), ([21], [22, 23, 24, 25])] ([⟨br, e_api_Rat (Q ((1 : Int) : Rat)), 28⟩, ⟨bb, row (eI .i64) [0, 1, 2, 3, 4] spb, 3⟩, ⟨ba, row (eI .i64) [0, 4] spa, 3⟩]) mixed (by kernel_rfl) (by repeat (first | exact List.Sublist.refl _ | exact List.nil_sublist _ | refine List.Sublist.cons_cons _ ?_ | refine List.Sublist.cons _ ?_ | refine List.Sublist.trans ?_ (List.sublist_append_right _ _))) ?_; simp only [JP, picks, List.getElem?_cons_succ, List.getElem?_cons_zero])
  repeat (first | refine tX rfl rfl ?_ | (refine tS rfl rfl ?_ ?_; focus omega) | (refine tC rfl rfl ?_ ?_; focus (first | exact trivial | exact ⟨by omega, by omega⟩ | exact ⟨⟨by omega, by omega⟩, ⟨by omega, by omega⟩⟩ | exact ⟨⟨by omega, by omega⟩, ⟨by omega, by omega⟩, ⟨by omega, by omega⟩⟩ | exact ⟨r1, by decide, by decide +kernel, by decide +kernel⟩ | exact ⟨r2, by decide, by decide, by decide⟩)) | refine tW rfl rfl ?_ | refine tK rfl rfl ?_ | refine Go.Vt.hq (wl_pickT rfl rfl) rfl rfl ?_ | refine Go.Vt.hq (wl_pickF rfl rfl) rfl rfl ?_)
  simp only [decide_eq_true (show (0 : Int) = 0 from rfl)]
  repeat (first | refine tX rfl rfl ?_ | (refine tS rfl rfl ?_ ?_; focus omega) | (refine tC rfl rfl ?_ ?_; focus (first | exact trivial | exact ⟨by omega, by omega⟩)) | refine tW rfl rfl ?_ | refine tK rfl rfl ?_ | refine Go.Vt.hq (wl_pickT rfl rfl) rfl rfl ?_ | refine Go.Vt.hq (wl_pickF rfl rfl) rfl rfl ?_)
  repeat (first | refine eS rfl rfl ?_ | refine uP rfl rfl rfl rfl ?_ | refine uQ rfl rfl rfl rfl ?_ | refine eX rfl rfl ?_ | (refine uS rfl rfl ?_ ?_; focus omega) | (refine uC rfl rfl ?_ ?_; focus (first | exact trivial | exact ⟨by omega, by omega⟩ | exact ⟨⟨rfl, rfl⟩, by decide⟩)) | refine uW rfl rfl ?_ | refine eF rfl ?_ | refine eT rfl ?_ | (refine eA rfl rfl ?_; intro _) | (refine eB rfl rfl ?_; intro _) | (refine eN rfl rfl ?_ ?_; (focus (first | exact trivial | exact ⟨by omega, by omega⟩ | exact ⟨⟨rfl, rfl⟩, by decide⟩)); intro _; (try simp only [List.cons_append, List.nil_append, List.append_nil])) | refine je_nil ?_ | refine tX rfl rfl ?_ | (refine tS rfl rfl ?_ ?_; focus omega) | (refine tC rfl rfl ?_ ?_; focus (first | exact trivial | exact ⟨by omega, by omega⟩ | exact ⟨⟨rfl, rfl⟩, by decide⟩)) | refine tW rfl rfl ?_ | refine tK rfl rfl ?_ | refine Go.Vt.hq (wl_pickT rfl rfl) rfl rfl ?_ | refine Go.Vt.hq (wl_pickF rfl rfl) rfl rfl ?_ | refine jh_nil ?_)
  repeat (first | refine sX rfl rfl ?_ | (refine sS rfl rfl ?_ ?_; focus omega) | (refine sC rfl rfl ?_ ?_; focus (first | exact trivial | assumption | constructor <;> assumption | exact mb2 rfl rfl | exact mb4 rfl rfl rfl rfl)) | refine cX ?_ | refine cY ?_ | (refine sA rfl rfl ?_; intro _) | refine sT rfl ?_ | refine sF rfl ?_ | (refine sR rfl ?_ ?_; focus omega) | (refine sB rfl rfl ?_; intro _) | (refine sN rfl rfl ?_ ?_; (focus (first | exact trivial | assumption | constructor <;> assumption | exact mb2 rfl rfl | exact mb4 rfl rfl rfl rfl)); intro _; (try simp only [List.cons_append, List.nil_append, List.append_nil])) | refine sW rfl rfl ?_ | refine sK rfl rfl ?_ | refine j_if rfl ?_ | refine j_else rfl ?_ | refine pkT rfl rfl rfl rfl ?_ | refine pkF rfl rfl rfl rfl ?_)
  exact jx_ret_tmp rfl rfl (fun w hw => by rw [decide_eq_true (show ((1 : Int) : Rat) = ((1 : Int) : Rat) from rfl)]; exact ret_ok hw)⟩
end Go.Vt
/- Facts about the decoded run. Conditions: those that each statement names. -/
set_option linter.unusedSimpArgs false
set_option linter.unusedVariables false
set_option maxRecDepth 100000
namespace Go.Vt
open Go.RowKit Go.Proofs
theorem M_small {n : Int} (h : 0 ≤ n ∧ n < 256) : M (n : Rat) ≤ 1 := by
  rw [M_int]
  have := mg_small (n := n) (k := 1) (by omega)
  omega
theorem pA_bnd (ws : List WStep) : ∀ m, m ≤ 7 → ∀ x ∈ (pA ws m).1, M x.T ≤ PB ∧ M x.P.X ≤ PB ∧ M x.P.Y ≤ PB
  | 0, _, x, hx => by cases hx
  | m + 1, hm, x, hx => by
    rw [pA] at hx
    rcases List.mem_append.1 hx with h | h
    · exact pA_bnd ws m (by omega) x h
    · rw [List.mem_singleton] at h
      subst h
      have h1 := pA_time ws (m + 1)
      rw [pA] at h1
      simp only at h1 ⊢
      have h2 := M_small (n := (gi ws (m : Int)).X % 32) (by omega)
      have h3 := M_small (n := (gi ws (m : Int)).Y % 32) (by omega)
      exact ⟨Nat.le_trans h1 (Nat.le_trans (show 2 * (m + 1) + 1 ≤ 100 by omega) (by decide)), Nat.le_trans h2 (by decide), Nat.le_trans h3 (by decide)⟩
theorem ptsW_bnd (ws : List WStep) : Bnd (ptsW ws) := by
  unfold ptsW
  split
  · exact bnd_of (by decide +kernel)
  · exact bnd_of (pA_bnd ws _ (by omega))
theorem ptsW_len (ws : List WStep) : 1 ≤ (ptsW ws).length ∧ (ptsW ws).length ≤ 7 := by
  unfold ptsW
  split
  · exact ⟨Nat.le_refl _, by decide⟩
  · rw [pA_len]
    omega
theorem half_pos (n : Int) (h : 0 < n) : 0 < Rat.divInt n 2 := by
  rw [Rat.divInt_eq_div]
  have h1 : (0 : Rat) < ((n : Int) : Rat) := by exact_mod_cast h
  have : ((2 : Int) : Rat) = 2 := rfl
  rw [this]
  grind
theorem pA_le (ws : List WStep) : ∀ m (i : Nat), i < m → (gi (pA ws m).1 (i : Int)).T ≤ (pA ws m).2
  | 0, i, hi => by omega
  | m + 1, i, hi => by
    have hp := half_pos (1 + (gi ws (m : Int)).Time % 8) (by omega)
    have hlen := pA_len ws m
    have hnext : (pA ws m).2 < (pA ws (m + 1)).2 := by
      rw [pA]
      simp only
      grind
    rcases (by omega : i < m ∨ i = m) with h | rfl
    · have hg : gi (pA ws (m + 1)).1 (i : Int) = gi (pA ws m).1 (i : Int) := by
        rw [pA]
        unfold gi
        simp only [Int.toNat_natCast, List.getD_eq_getElem?_getD]
        rw [List.getElem?_append_left (by omega)]
      rw [hg]
      exact Rat.le_trans (pA_le ws m i h) (Rat.le_of_lt hnext)
    · have hlast : gi (pA ws (i + 1)).1 (i : Int) = ⟨(pA ws (i + 1)).2, ⟨(((gi ws (i : Int)).X % 32 : Int) : Rat), (((gi ws (i : Int)).Y % 32 : Int) : Rat)⟩⟩ := by
        rw [pA]
        unfold gi
        simp only [Int.toNat_natCast, List.getD_eq_getElem?_getD]
        rw [List.getElem?_append_right (by omega), hlen, Nat.sub_self]
        rfl
      rw [hlast]
      exact Rat.le_refl
/-- The times of a run increase. -/
theorem pA_inc (ws : List WStep) : ∀ m (i j : Nat), i < j → j < m → (gi (pA ws m).1 (i : Int)).T < (gi (pA ws m).1 (j : Int)).T ∧ (gi (pA ws m).1 (j : Int)).T ≤ (pA ws m).2
  | 0, i, j, _, hj => by omega
  | m + 1, i, j, hij, hj => by
    have hp := half_pos (1 + (gi ws (m : Int)).Time % 8) (by omega)
    have hlen := pA_len ws m
    have hget : ∀ k : Nat, k < m → gi (pA ws (m + 1)).1 (k : Int) = gi (pA ws m).1 (k : Int) := fun k hk => by
      rw [pA]
      unfold gi
      simp only [Int.toNat_natCast, List.getD_eq_getElem?_getD]
      rw [List.getElem?_append_left (by omega)]
    have hlast : gi (pA ws (m + 1)).1 (m : Int) = ⟨(pA ws (m + 1)).2, ⟨(((gi ws (m : Int)).X % 32 : Int) : Rat), (((gi ws (m : Int)).Y % 32 : Int) : Rat)⟩⟩ := by
      rw [pA]
      unfold gi
      simp only [Int.toNat_natCast, List.getD_eq_getElem?_getD]
      rw [List.getElem?_append_right (by omega), hlen, Nat.sub_self]
      rfl
    have hnext : (pA ws m).2 < (pA ws (m + 1)).2 := by
      rw [pA]
      simp only
      grind
    rcases (by omega : j < m ∨ j = m) with h | rfl
    · rw [hget i (by omega), hget j h]
      have h3 := pA_inc ws m i j hij h
      exact ⟨h3.1, Rat.le_trans h3.2 (Rat.le_of_lt hnext)⟩
    · rw [hget i hij, hlast]
      refine ⟨?_, Rat.le_refl⟩
      have h4 : (gi (pA ws j).1 (i : Int)).T ≤ (pA ws j).2 := pA_le ws j i hij
      simp only
      grind
theorem ptsW_inc (ws : List WStep) (i j : Nat) (hij : i < j) (hj : j < (ptsW ws).length) : (gi (ptsW ws) (i : Int)).T < (gi (ptsW ws) (j : Int)).T := by
  unfold ptsW at hj ⊢
  split
  · rename_i h
    rw [if_pos h] at hj
    simp only [List.length_singleton] at hj
    omega
  · rename_i h
    rw [if_neg h, pA_len] at hj
    exact (pA_inc ws _ i j hij hj).1
end Go.Vt
/- SimplifyDeviates, walked. Conditions: those that each statement names. -/
set_option linter.unusedSimpArgs false
set_option linter.unusedVariables false
set_option maxRecDepth 100000
namespace Go.Vt
open Go.RowKit Go.Proofs
instance sr_fromS (w0 : World) (L : List Blk) (b n c : Nat) (pts : List SS) (sp : List Value) (T : TypeId) [h : AtC w0 L b (row rS pts sp) T] : SpecR Tryz.prog w0 L 13 [.slice (some ⟨b, 0, none⟩) n c] (SlS rP 36 (frS pts)) (fun s => .tuple #[vSl s, .int .i64 (frE pts)]) (fun s => mS 68 s) ((pts.length = n ∧ 1 ≤ n ∧ n ≤ 19) ∧ Bnd pts ∧ Inc pts) := ⟨fun hp w hw =>
  fromS_spec b n c pts sp T hp.1.1 hp.1.2.1 hp.1.2.2 hp.2.1 (fun i hi => hp.2.2 i (by omega)) w (h.out w hw)⟩
theorem ptsW_Inc (ws : List WStep) : Inc (ptsW ws) := fun i hi => ptsW_inc ws i (i + 1) (by omega) hi
end Go.Vt
/- A slice appended onto a slice, either of which may be none. Conditions: those that each statement names. -/
set_option linter.unusedSimpArgs false
set_option linter.unusedVariables false
set_option maxRecDepth 100000
namespace Go.Vt
open Go.RowKit Go.Proofs
theorem SlS.like {α : Type} {enc : α → Array Value} {k : Nat} {xs ys : List α} (s : SlS enc k xs) (h : ys = xs) : ∃ s' : SlS enc k ys, vSl s' = vSl s ∧ ∀ T, mS T s' = mS T s := by
  subst h
  exact ⟨s, rfl, fun _ => rfl⟩
theorem app_nothing {P : Program} {S T ty : TypeId} {i : TypeInfo} {p : Option Addr} {n c : Nat} {w : World} (ht : P.underlying S = some (.slice T)) (hi : P.info? T = some i) (h : (p = none ∧ n = 0 ∧ c = 0) ∨ (∃ b, p = some ⟨b, 0, none⟩ ∧ n ≤ c)) :
    (Builtin.append_ #[S, S] ty #[.slice p n c, .slice none 0 0]).run P w = .ok (.slice p n c) w := by
  rcases h with ⟨rfl, rfl, rfl⟩ | ⟨b, rfl, hnc⟩
  · simp [Builtin.append_, run_underlying ht, sizeOf, typeInfo, hi, Builtin.lenOf, Builtin.firstCells]
  · simp [Builtin.append_, run_underlying ht, sizeOf, typeInfo, hi, Builtin.lenOf, Builtin.firstCells, hnc, storeCells]
section
variable {P : Program} {w0 : World} {n : Nat} {ops : Array Oper} {L L1 L2 : List Blk} {E : Env}
variable {Q : Exit → Act → World → Prop} {rest : List Oper}
variable {ty : TypeId} {pos : String} {aft : Array Edge} {gd : Option (Nat × Bool)} {t : Tmp} {x y : Operand}
variable {α : Type} {enc : α → Array Value} {S T T2 : TypeId} {k B : Nat} {xs ys : List α} {z : Value} {zc : Array Value} {s : SlS enc k xs} {u : SlS enc k ys}
variable [hx : IsC (evl E x) (vSl s)] [hy : IsC (evl E y) (vSl u)] [hd : OwnS T s L L1] [h2 : OwnS T2 u L L2] [hT : UndC P S (.slice T)] [hz : ZeroC P T z zc] [he : EncC enc k] [hk : SizeC P T k] [hB : BytesC P T B]
include hx hy hd h2 hT hz he hk hB
theorem app_runV (hzk : zc.size = k) (hb : (xs.length + ys.length) * B ≤ 140737488355328 ∧ xs.length + ys.length ≤ 9223372036854775807) (a : Act) (w : World) (ha : Rep n E a) (hw : Own w0 L w) :
    ∃ s' : SlS enc k (xs ++ ys), ∃ w', (execOp a.eval ⟨some t, .call ⟨.builtin .append, #[x, y], #[S, S]⟩, ty, pos, aft, gd⟩).run P w = .ok (.value (vSl s')) w' ∧ Own w0 (mS T s' ++ L1) w' := by
  have hp := hw.perm hd.out
  have hlen : (xs ++ ys).length = xs.length + ys.length := List.length_append
  rcases u.cases T2 with ⟨rfl, hv2, -⟩ | ⟨b2, c2, sp2, h12, hv2, hm2, hys⟩
  · obtain ⟨s', e1, e2⟩ := s.like (List.append_nil xs)
    obtain ⟨i, hi, -⟩ := info_some hk.out
    refine ⟨s', w, ?_, by rw [e2]; exact hp⟩
    rw [e1]
    have hx' : Env.ev E x = some (vSl s) := by rw [← evl_ev, hx.out]
    have hy' : Env.ev E y = some (.slice none 0 0) := by rw [← evl_ev, hy.out, hv2]
    refine run_appop (d := some t) (pos := pos) (aft := aft) (gd := gd) ha hx' hy' ?_
    rcases s.cases T with ⟨-, hv, -⟩ | ⟨b, c, sp, h1, hv, -, -⟩
    · rw [hv]
      exact app_nothing hT.out hi (.inl ⟨rfl, rfl, rfl⟩)
    · rw [hv]
      exact app_nothing hT.out hi (.inr ⟨b, rfl, h1.1⟩)
  · have hp2 := hw.perm h2.out
    rw [hm2] at hp2
    obtain ⟨fz, hf⟩ : ∃ fz, w.heap[b2]? = some (.cells (row enc ys sp2) T2 fz) := ⟨(0, 0), (hp2.mem _ (.head _)).2⟩
    have hm : 0 < ys.length := List.length_pos_iff.2 hys
    have hne : xs ++ ys ≠ [] := fun h0 => by rw [h0, List.length_nil] at hlen; omega
    have hy' : Env.ev E y = some (.slice (some ⟨b2, 0, none⟩) ys.length c2) := by rw [← evl_ev, hy.out, hv2]
    have hcs : ∀ j v, (rowL enc ys)[j]? = some v → (row enc ys sp2)[0 + j]? = some v := fun j v hv => by
      have hj : j < (rowL enc ys).length := by
        rcases Nat.lt_or_ge j (rowL enc ys).length with h | h
        · exact h
        · rw [List.getElem?_eq_none h] at hv; cases hv
      rw [Nat.zero_add, row, List.getElem?_toArray, List.getElem?_append_left hj]
      exact hv
    rcases s.cases T with ⟨rfl, hv, hm0⟩ | ⟨b, c, sp, h1, hv, hm1, -⟩
    · have hx' : Env.ev E x = some (.slice none 0 0) := by rw [← evl_ev, hx.out, hv]
      rw [hm0, List.nil_append] at hp
      obtain ⟨s, w', hr, ho⟩ := run_app_nil (L := L1) (ty := ty) (b2 := b2) (off2 := 0) (m := ys.length) (c2 := c2) (news := rowL enc ys) hT.out hz.out hz.cells hk.out hB.out hzk hp ⟨T2, fz, hf⟩ (by rw [rowL_len (k := k)]) hcs hm (by simpa using hb.1) (by simpa using hb.2)
      refine ⟨SlS.at_ s.1.1 s.1.2.1 s.1.2.2 (by rw [List.nil_append]; exact s.2) hne, w', ?_, ho⟩
      have h3 := run_appop (d := some t) (pos := pos) (aft := aft) (gd := gd) ha hx' hy' hr
      rw [h3]
      rfl
    · have hx' : Env.ev E x = some (.slice (some ⟨b, 0, none⟩) xs.length c) := by rw [← evl_ev, hx.out, hv]
      rw [hm1] at hp
      obtain ⟨s, w', hr, ho⟩ := run_app (L1 := L1) (ty := ty) (b := b) (len := xs.length) (c := c) (b2 := b2) (off2 := 0) (m := ys.length) (c2 := c2) (xs := rowL enc xs) (sp := sp) (news := rowL enc ys) hT.out hz.out hz.cells hk.out hB.out hzk hp (.refl _) (rowL_len xs) h1.2 h1.1 ⟨T2, fz, hf⟩ (by rw [rowL_len (k := k)]) hcs (row_one ys) hb.1 hb.2
      refine ⟨SlS.at_ s.1.1 s.1.2.1 s.1.2.2 (by rw [hlen]; exact s.2) hne, w', ?_, ?_⟩
      · have h3 := run_appop (d := some t) (pos := pos) (aft := aft) (gd := gd) ha hx' hy' hr
        rw [h3]
        show _ = Result.ok (Next.value (Value.slice _ (xs ++ ys).length _)) w'
        rw [hlen]
      · show Own w0 (⟨s.1.1, row enc (xs ++ ys) s.1.2.2, T⟩ :: L1) w'
        rw [row, rowL_append]
        exact ho
theorem sV (hg : guardB ops E gd = some true) (hd' : Nat.blt t n = true) (hzk : zc.size = k) (hb : (xs.length + ys.length) * B ≤ 140737488355328 ∧ xs.length + ys.length ≤ 9223372036854775807)
    (h : ∀ s' : SlS enc k (xs ++ ys), JO P w0 n ops Q rest ((t, vSl s') :: E) (mS T s' ++ L1)) : JO P w0 n ops Q (⟨some t, .call ⟨.builtin .append, #[x, y], #[S, S]⟩, ty, pos, aft, gd⟩ :: rest) E L :=
  jo_w (L' := SlS enc k (xs ++ ys)) (o := ⟨some t, .call ⟨.builtin .append, #[x, y], #[S, S]⟩, ty, pos, aft, gd⟩) hg hd' (fun s => vSl s) (fun s => mS T s ++ L1)
    (fun a w ha hw => by
      obtain ⟨s, w', hr, ho⟩ := app_runV (hx := hx) (hy := hy) (hd := hd) (h2 := h2) (hT := hT) (hz := hz) (he := he) (hk := hk) (hB := hB) hzk hb a w ha hw
      exact ⟨s, w', .inl hr, ho⟩) h
end
end Go.Vt
/- The same moving point by the other road, walked. Conditions: those that each statement names. -/
set_option linter.unusedSimpArgs false
set_option linter.unusedVariables false
set_option maxRecDepth 100000
namespace Go.Vt
open Go.RowKit Go.Proofs
/-- The units through a run's samples, during its period. -/
def bu (r : RD) : List PU := mpN ofU (nrmR (mRes (frS r.pts) [r.I])) (nrmR (mRes (frS r.pts) [r.I])).length
def buA (rs : List RD) : Nat → List PU
  | 0 => []
  | m + 1 => buA rs m ++ bu (gi rs (m : Int))
structure BuOk (w : World) (r : RD) : Prop where
  l1 : 1 ≤ r.pts.length
  l2 : r.pts.length ≤ 19
  bnd : Bnd r.pts
  inc : Inc r.pts
  res : ResOk (frS r.pts) [r.I]
  cap : (bu r).length ≤ 1024
  mem : ∃ T fz, w.heap[r.b]? = some (.cells (row rS r.pts r.sp) T fz)
theorem buA_len {w : World} {rs : List RD} (h : ∀ r ∈ rs, BuOk w r) : ∀ m, m ≤ rs.length → (buA rs m).length ≤ m * 1024
  | 0, _ => by simp [buA]
  | m + 1, hm => by
    have h1 := buA_len h m (by omega)
    have h2 := (h _ (gi_mem (i := (m : Int)) (xs := rs) (by omega))).cap
    rw [buA, List.length_append]
    omega
set_option maxHeartbeats 2000000 in
theorem built_spec (v : Value) (rs : List RD) (w : World) (hv : ArgS w v rR (rs.map RD.hd)) (hl : rs.length ≤ 64) (hr : ∀ r ∈ rs, BuOk w r) (h19 : (buA rs rs.length).length ≤ 19) (hin : ∀ u ∈ mpN toU (buA rs rs.length) (buA rs rs.length).length, UIn u) :
    Calls Tryz.prog 25 [v].toArray w (RetM (SlS rP 36 (mNorm (buA rs rs.length))) (fun s => .tuple #[vSl s, .int .i64 (nrmE (mpN toU (buA rs rs.length) (buA rs rs.length).length))]) (fun s => mS 68 s) w) := by
  refine fn_intro Tryz.func25 rfl Tryz.ntmps25 rfl ?_
  obtain ⟨p, cp, rfl⟩ := hv.form
  have hml : (rs.map RD.hd).length = rs.length := List.length_map _
  rw [hml]
  repeat (first | refine sX rfl rfl ?_ | (refine sS rfl rfl ?_ ?_; focus omega) | (refine sC rfl rfl ?_ ?_; focus (first | exact trivial | assumption | constructor <;> assumption | exact mb2 rfl rfl | exact mb4 rfl rfl rfl rfl)) | refine cX ?_ | refine cY ?_ | (refine sA rfl rfl ?_; intro _) | refine sT rfl ?_ | refine sF rfl ?_ | (refine sR rfl ?_ ?_; focus omega) | (refine sB rfl rfl ?_; intro _) | (refine sN rfl rfl ?_ ?_; (focus (first | exact trivial | assumption | constructor <;> assumption | exact mb2 rfl rfl | exact mb4 rfl rfl rfl rfl)); intro _; (try simp only [List.cons_append, List.nil_append, List.append_nil])) | refine sW rfl rfl ?_ | refine sK rfl rfl ?_ | refine j_if rfl ?_ | refine j_else rfl ?_ | refine pkT rfl rfl rfl rfl ?_ | refine pkF rfl rfl rfl rfl ?_)
  refine j_loop (S := (ys : List PU) × Nat × SlS rP 36 ys) (fun s => s.1 = buA rs s.2.1 ∧ s.2.1 ≤ rs.length) (fun s => [(0, .slice p rs.length cp), (4, vSl s.2.2), (5, .int .i64 (s.2.1 : Nat))]) (fun s => mS 68 s.2.2) (fun s => rs.length - s.2.1) ⟨[], 0, SlS.no⟩ ⟨rfl, Nat.zero_le _⟩ (by repeat (first | exact sub_nil | refine sub_cons rfl ?_ | refine sub_cons' rfl (by congr 1; omega) ?_)) (by repeat (first | exact List.Sublist.refl _ | exact List.nil_sublist _ | refine List.Sublist.cons_cons _ ?_ | refine List.Sublist.cons _ ?_)) (fun s hm => ?_)
  obtain ⟨ys, m, s⟩ := s
  simp only at hm ⊢
  obtain ⟨hys, hm⟩ := hm
  repeat (first | refine sX rfl rfl ?_ | (refine sS rfl rfl ?_ ?_; focus omega) | (refine sC rfl rfl ?_ ?_; focus (first | exact trivial | assumption | constructor <;> assumption | exact mb2 rfl rfl | exact mb4 rfl rfl rfl rfl)) | refine cX ?_ | refine cY ?_ | (refine sA rfl rfl ?_; intro _) | refine sT rfl ?_ | refine sF rfl ?_ | (refine sR rfl ?_ ?_; focus omega) | (refine sB rfl rfl ?_; intro _) | (refine sN rfl rfl ?_ ?_; (focus (first | exact trivial | assumption | constructor <;> assumption | exact mb2 rfl rfl | exact mb4 rfl rfl rfl rfl)); intro _; (try simp only [List.cons_append, List.nil_append, List.append_nil])) | refine sW rfl rfl ?_ | refine sK rfl rfl ?_ | refine j_if rfl ?_ | refine j_else rfl ?_ | refine pkT rfl rfl rfl rfl ?_ | refine pkF rfl rfl rfl rfl ?_)
  refine j_cond rfl (fun h => ?_) (fun h => ?_)
  · have hlt : m < rs.length := by have := of_decide_eq_true h; omega
    have hne : rs.map RD.hd ≠ [] := fun h0 => by rw [h0] at hml; simp at hml; omega
    obtain ⟨bw, ow, cw, hvw, hcw, hrow⟩ := hv.blk (k := 20) hne []
    injection hvw with e1 e2 e3
    subst e1
    subst e3
    have hrow' : ∀ L, RowC w L bw ow R_simplify_Run rR (rs.map RD.hd) := fun L => ⟨fun w' hw' => hrow.out w' (hw'.sub (List.nil_sublist _))⟩
    have hbl : ys.length ≤ m * 1024 := hys ▸ buA_len hr m (by omega)
    have hrm := hr _ (gi_mem (i := (m : Int)) (xs := rs) (by omega))
    have hgm := gi_map (f := RD.hd) hlt
    have hbA : buA rs (m + 1) = buA rs m ++ bu (gi rs (m : Int)) := rfl
    repeat (first | refine sX rfl rfl ?_ | (refine sS rfl rfl ?_ ?_; focus omega) | (refine sC rfl rfl ?_ ?_; focus (first | exact trivial | assumption | constructor <;> assumption | exact mb2 rfl rfl | exact mb4 rfl rfl rfl rfl)) | refine cX ?_ | refine cY ?_ | (refine sA rfl rfl ?_; intro _) | refine sT rfl ?_ | refine sF rfl ?_ | (refine sR rfl ?_ ?_; focus omega) | (refine sB rfl rfl ?_; intro _) | (refine sN rfl rfl ?_ ?_; (focus (first | exact trivial | assumption | constructor <;> assumption | exact mb2 rfl rfl | exact mb4 rfl rfl rfl rfl)); intro _; (try simp only [List.cons_append, List.nil_append, List.append_nil])) | refine sW rfl rfl ?_ | refine sK rfl rfl ?_ | refine j_if rfl ?_ | refine j_else rfl ?_ | refine pkT rfl rfl rfl rfl ?_ | refine pkF rfl rfl rfl rfl ?_)
    simp only [hgm]
    generalize gi rs (m : Int) = r at *
    obtain ⟨T, rmem⟩ := hrm.mem
    obtain ⟨I, b, c, pts, sp⟩ := r
    simp only at rmem
    have := FoC.mk rmem
    dsimp only [RD.hd]
    repeat (first | refine sX rfl rfl ?_ | (refine sS rfl rfl ?_ ?_; focus omega) | (refine sC rfl rfl ?_ ?_; focus (exact ⟨⟨rfl, hrm.l1, hrm.l2⟩, hrm.bnd, hrm.inc⟩)) | refine cX ?_ | refine cY ?_ | (refine sA rfl rfl ?_; intro _) | refine sT rfl ?_ | refine sF rfl ?_ | (refine sR rfl ?_ ?_; focus omega) | (refine sB rfl rfl ?_; intro _) | (refine sN rfl rfl ?_ ?_; (focus (exact ⟨⟨rfl, hrm.l1, hrm.l2⟩, hrm.bnd, hrm.inc⟩)); intro _; (try simp only [List.cons_append, List.nil_append, List.append_nil])) | refine sW rfl rfl ?_ | refine sK rfl rfl ?_ | refine j_if rfl ?_ | refine j_else rfl ?_ | refine pkT rfl rfl rfl rfl ?_ | refine pkF rfl rfl rfl rfl ?_)
    simp only [hgm]
    dsimp only [RD.hd]
    repeat (first | refine sX rfl rfl ?_ | (refine sS rfl rfl ?_ ?_; focus omega) | (refine sC rfl rfl ?_ ?_; focus (exact hrm.res)) | refine cX ?_ | refine cY ?_ | (refine sA rfl rfl ?_; intro _) | refine sT rfl ?_ | refine sF rfl ?_ | (refine sR rfl ?_ ?_; focus omega) | (refine sB rfl rfl ?_; intro _) | (refine sN rfl rfl ?_ ?_; (focus (exact hrm.res)); intro _; (try simp only [List.cons_append, List.nil_append, List.append_nil])) | refine sW rfl rfl ?_ | refine sK rfl rfl ?_ | refine j_if rfl ?_ | refine j_else rfl ?_ | refine pkT rfl rfl rfl rfl ?_ | refine pkF rfl rfl rfl rfl ?_)
    have hc : (mpN ofU (nrmR (mRes (frS pts) [I])) (nrmR (mRes (frS pts) [I])).length).length ≤ 1024 := hrm.cap
    refine sV rfl rfl ?_ ?_ ?_
    · rfl
    · exact ⟨by omega, by omega⟩
    intro s'
    repeat (first | refine sX rfl rfl ?_ | (refine sS rfl rfl ?_ ?_; focus omega) | (refine sC rfl rfl ?_ ?_; focus (first | exact trivial | assumption | constructor <;> assumption | exact mb2 rfl rfl | exact mb4 rfl rfl rfl rfl)) | refine cX ?_ | refine cY ?_ | (refine sA rfl rfl ?_; intro _) | refine sT rfl ?_ | refine sF rfl ?_ | (refine sR rfl ?_ ?_; focus omega) | (refine sB rfl rfl ?_; intro _) | (refine sN rfl rfl ?_ ?_; (focus (first | exact trivial | assumption | constructor <;> assumption | exact mb2 rfl rfl | exact mb4 rfl rfl rfl rfl)); intro _; (try simp only [List.cons_append, List.nil_append, List.append_nil])) | refine sW rfl rfl ?_ | refine sK rfl rfl ?_ | refine j_if rfl ?_ | refine j_else rfl ?_ | refine pkT rfl rfl rfl rfl ?_ | refine pkF rfl rfl rfl rfl ?_)
    exact jx_loop ⟨_, m + 1, s'⟩ ⟨by rw [hbA, ← hys]; rfl, by show m + 1 ≤ rs.length; omega⟩ (by repeat (first | exact sub_nil | refine sub_cons rfl ?_ | refine sub_cons' rfl (by congr 1; omega) ?_)) (by repeat (first | exact List.Sublist.refl _ | exact List.nil_sublist _ | exact List.sublist_append_left _ _ | refine List.Sublist.append_left ?_ _ | refine List.Sublist.cons_cons _ ?_ | refine List.Sublist.cons _ ?_ | refine List.Sublist.trans ?_ (List.sublist_append_right _ _))) (by show rs.length - (m + 1) < rs.length - m; omega)
  · have hge : m = rs.length := by have := of_decide_eq_false h; omega
    subst hge
    subst hys
    repeat (first | refine sX rfl rfl ?_ | (refine sS rfl rfl ?_ ?_; focus omega) | (refine sC rfl rfl ?_ ?_; focus (exact ⟨h19, hin⟩)) | refine cX ?_ | refine cY ?_ | (refine sA rfl rfl ?_; intro _) | refine sT rfl ?_ | refine sF rfl ?_ | (refine sR rfl ?_ ?_; focus omega) | (refine sB rfl rfl ?_; intro _) | (refine sN rfl rfl ?_ ?_; (focus (exact ⟨h19, hin⟩)); intro _; (try simp only [List.cons_append, List.nil_append, List.append_nil])) | refine sW rfl rfl ?_ | refine sK rfl rfl ?_ | refine j_if rfl ?_ | refine j_else rfl ?_ | refine pkT rfl rfl rfl rfl ?_ | refine pkF rfl rfl rfl rfl ?_)
    exact jx_ret_two rfl (resv_tmp rfl) (resv_tmp rfl) (fun w hw => ⟨_, rfl, hw.sub (by repeat (first | exact List.Sublist.refl _ | exact List.nil_sublist _ | exact List.sublist_append_left _ _ | refine List.Sublist.append_left ?_ _ | refine List.Sublist.cons_cons _ ?_ | refine List.Sublist.cons _ ?_ | refine List.Sublist.trans ?_ (List.sublist_append_right _ _)))⟩)
end Go.Vt
/- Runs made into moving points by two roads: plain. Conditions: those that each statement names. -/
set_option linter.unusedSimpArgs false
set_option linter.unusedVariables false
set_option maxRecDepth 100000
namespace Go.Vt
open Go.RowKit Go.Proofs
open Fv (va red)
/-- A run as the program makes them, its times moved or not. -/
structure RL (r : RD) : Prop where
  fr : r.I.From = ⟨(gi r.pts 0).T, 0, false⟩
  to : r.I.To = ⟨(gi r.pts ((r.pts.length - 1 : Nat) : Int)).T, 0, false⟩
  fl : r.pts.length = 1 → r.I.OpenFrom = false ∧ r.I.OpenTo = false
  B : Bnd r.pts
  i : Inc r.pts
  l1 : 1 ≤ r.pts.length
  l2 : r.pts.length ≤ 7
abbrev K0 : Nat := 6291460
abbrev K1 : Nat := 4 * K0 + 4
abbrev K2 : Nat := 4 * K1 + 4
theorem stl_K {pts : List SS} (hB : Bnd pts) (i : Nat) : LnOk K0 (stl (gi pts (i : Int)) (gi pts ((i + 1 : Nat) : Int))) := by
  obtain ⟨h1, h2, h3⟩ := hB (i : Int)
  obtain ⟨h4, h5, h6⟩ := hB ((i + 1 : Nat) : Int)
  have := MB.mk h1
  have := MB.mk h2
  have := MB.mk h3
  have := MB.mk h4
  have := MB.mk h5
  have := MB.mk h6
  exact ⟨MB.lt (q := (stl (gi pts (i : Int)) (gi pts ((i + 1 : Nat) : Int))).X0) rfl, MB.lt (q := (stl (gi pts (i : Int)) (gi pts ((i + 1 : Nat) : Int))).X1) rfl, MB.lt (q := (stl (gi pts (i : Int)) (gi pts ((i + 1 : Nat) : Int))).Y0) rfl, MB.lt (q := (stl (gi pts (i : Int)) (gi pts ((i + 1 : Nat) : Int))).Y1) rfl⟩
theorem K_one : K0 ≤ K1 ∧ K1 ≤ KN ∧ K0 ≤ KN ∧ K2 ≤ KN ∧ PB ≤ K0 ∧ KN ≤ BQ := by decide
theorem sgU_K {pts : List SS} (hB : Bnd pts) (i : Nat) : UK K0 (toU (sgU pts i)) :=
  ⟨⟨rfl, rfl, rfl, rfl, Nat.le_trans (hB (i : Int)).1 K_one.2.2.2.2.1, Nat.le_trans (hB ((i + 1 : Nat) : Int)).1 K_one.2.2.2.2.1⟩, stl_K hB i⟩
theorem bsU_K {I : R_api_Interval} {pts : List SS} (hB : Bnd pts) (i : Nat) : UK K0 (toU (bsU I pts i)) :=
  ⟨⟨rfl, rfl, rfl, rfl, Nat.le_trans (hB (i : Int)).1 K_one.2.2.2.2.1, Nat.le_trans (hB ((i + 1 : Nat) : Int)).1 K_one.2.2.2.2.1⟩, stl_K hB i⟩
def bW (I : R_api_Interval) (pts : List SS) (m : Nat) : List UL := (bs I pts m).map toU
theorem bW_succ (I : R_api_Interval) (pts : List SS) (m : Nat) : bW I pts (m + 1) = bW I pts m ++ [toU (bsU I pts m)] := by
  show ((bs I pts m ++ [bsU I pts m]).map toU) = _
  rw [List.map_append]
  rfl
theorem bW_mem {I : R_api_Interval} {pts : List SS} {u : UL} : ∀ {m : Nat}, u ∈ bW I pts m ↔ ∃ i, i < m ∧ u = toU (bsU I pts i)
  | 0 => by
    constructor
    · intro h; cases h
    · rintro ⟨i, h, -⟩; omega
  | m + 1 => by
    rw [bW_succ, List.mem_append, bW_mem, List.mem_singleton]
    constructor
    · rintro (⟨i, h1, h2⟩ | h)
      · exact ⟨i, by omega, h2⟩
      · exact ⟨m, by omega, h⟩
    · rintro ⟨i, h1, h2⟩
      rcases (by omega : i < m ∨ i = m) with h3 | h3
      · exact .inl ⟨i, h3, h2⟩
      · exact .inr (h3 ▸ h2)
theorem sgW_mem' {pts : List SS} {m : Nat} {u : UL} : u ∈ sgW pts m ↔ ∃ i, i < m ∧ u = toU (sgU pts i) := by
  refine ⟨sgW_mem, ?_⟩
  rintro ⟨i, h, rfl⟩
  rw [← sgW_get h]
  exact gi_mem (by rw [sgW_len]; omega)
theorem bsU_mem {r : RD} (h : RL r) {i : Nat} (hi : i + 1 < r.pts.length) (t : Rat) : memI (bsU r.I r.pts i).In t ↔ memI (sgU r.pts i).In t ∧ memI r.I t := by
  have e1 : r.I.From.P = (gi r.pts ((0 : Nat) : Int)).T := by rw [h.fr]; rfl
  have e2 : r.I.To.P = (gi r.pts ((r.pts.length - 1 : Nat) : Int)).T := by rw [h.to]
  have k1 := h.i i hi
  have k2 : 0 < i → (gi r.pts ((0 : Nat) : Int)).T < (gi r.pts (i : Int)).T := fun h0 => h.i.lt h0 (by omega)
  have k3 : i + 2 < r.pts.length → (gi r.pts ((i + 1 : Nat) : Int)).T < (gi r.pts ((r.pts.length - 1 : Nat) : Int)).T := fun h0 => h.i.lt (by omega) (by omega)
  unfold memI bsU sgU
  simp only [e1, e2]
  rcases (by omega : i = 0 ∨ 0 < i) with h0 | h0
  · subst h0
    rcases (by omega : 0 + 2 = r.pts.length ∨ 0 + 2 < r.pts.length) with h4 | h4
    · rw [if_pos rfl, if_pos h4, show r.pts.length - 1 = 0 + 1 by omega]
      have : decide ((1 : Int) < ((0 + 1 : Nat) : Int)) = false := by decide
      rw [this]
      grind
    · have := k3 h4
      rw [if_pos rfl, if_neg (by omega)]
      have : decide ((1 : Int) < ((0 + 1 : Nat) : Int)) = false := by decide
      rw [this]
      grind
  · have := k2 h0
    have e3 : decide ((1 : Int) < ((i + 1 : Nat) : Int)) = true := decide_eq_true (by omega)
    rw [e3, if_neg (by omega)]
    rcases (by omega : i + 2 = r.pts.length ∨ i + 2 < r.pts.length) with h4 | h4
    · rw [if_pos h4, show r.pts.length - 1 = i + 1 by omega]
      grind
    · have := k3 h4
      rw [if_neg (by omega)]
      grind
theorem bsU_bfr {r : RD} (h : RL r) {i m : Nat} (him : i < m) (hm : m + 1 < r.pts.length) : (absU (toU (bsU r.I r.pts i))).bfr (absU (toU (bsU r.I r.pts m))) := by
  rcases (by omega : i + 1 = m ∨ i + 1 < m) with h1 | h1
  · subst h1
    exact .inr ⟨rfl, .inr (by show (if i + 1 = 0 then r.I.OpenFrom else true) = true; rw [if_neg (by omega)])⟩
  · exact .inl (h.i.lt h1 (by omega))
theorem bsU_lt {r : RD} (h : RL r) {i : Nat} (hi : i + 1 < r.pts.length) : (absU (toU (bsU r.I r.pts i))).a < (absU (toU (bsU r.I r.pts i))).b := h.i i hi
theorem bW_pw {r : RD} (h : RL r) : ∀ m, m + 1 ≤ r.pts.length → ((bW r.I r.pts m).map absU).Pairwise Dis
  | 0, _ => List.Pairwise.nil
  | m + 1, hm => by
    rw [bW_succ, List.map_append, List.pairwise_append]
    refine ⟨bW_pw h m (by omega), List.pairwise_singleton _ _, fun u hu w hw => ?_⟩
    obtain ⟨x, hx, rfl⟩ := List.mem_map.1 hu
    obtain ⟨i, h1, rfl⟩ := bW_mem.1 hx
    obtain rfl := List.mem_singleton.1 hw
    exact (bsU_bfr h h1 (by omega)).Dis
theorem bW_has {r : RD} (h : RL r) {m : Nat} (hm : m + 1 ≤ r.pts.length) {t : Rat} {v : R_api_Point} : Has ((bW r.I r.pts m).map absU) t v ↔ Has ((sgW r.pts m).map absU) t v ∧ memI r.I t := by
  rw [has_map, has_map]
  constructor
  · rintro ⟨u, hu, h1, h2⟩
    obtain ⟨i, h3, rfl⟩ := bW_mem.1 hu
    obtain ⟨h4, h5⟩ := (bsU_mem h (by omega) t).1 h1
    exact ⟨⟨_, sgW_mem'.2 ⟨i, h3, rfl⟩, h4, h2⟩, h5⟩
  · rintro ⟨⟨u, hu, h1, h2⟩, h5⟩
    obtain ⟨i, h3, rfl⟩ := sgW_mem'.1 hu
    exact ⟨_, bW_mem.2 ⟨i, h3, rfl⟩, (bsU_mem h (by omega) t).2 ⟨h1, h5⟩, h2⟩
/-- Units that go on from one another have a normal form that is no longer. -/
theorem bW_short {r : RD} (h : RL r) : ∀ m, m + 2 ≤ r.pts.length → ∃ (ys : List (GU Rat R_api_Line)) (u : GU Rat R_api_Line), NF (ys ++ [u]) ∧ (∀ t v, Has (ys ++ [u]) t v ↔ Has ((bW r.I r.pts (m + 1)).map absU) t v) ∧ ys.length ≤ m ∧ u.b = (gi r.pts ((m + 1 : Nat) : Int)).T ∧ (m + 2 < r.pts.length → u.ob = false) ∧ u.a < u.b
  | 0, hm => by
    refine ⟨[], absU (toU (bsU r.I r.pts 0)), NF.one (.inl (bsU_lt h (by omega))) (fun k => ?_), fun t v => Iff.rfl, Nat.le_refl _, rfl, fun k => ?_, bsU_lt h (by omega)⟩
    · have := bsU_lt h (i := 0) (by omega)
      rw [k] at this
      exact absurd this (by grind)
    · show (if 0 + 2 = r.pts.length then r.I.OpenTo else false) = false
      rw [if_neg (by omega)]
  | m + 1, hm => by
    obtain ⟨ys, u, h1, h2, h3, h4, h5, h6⟩ := bW_short h m (by omega)
    have h7 := h5 (by omega)
    obtain ⟨x, hx⟩ : ∃ x, x = absU (toU (bsU r.I r.pts (m + 1))) := ⟨_, rfl⟩
    have x1 : x.a = u.b := by rw [hx, h4]; rfl
    have x2 : x.a < x.b := by rw [hx]; exact bsU_lt h (by omega)
    have x3 : x.oa = true := by rw [hx]; show (if m + 1 = 0 then r.I.OpenFrom else true) = true; rw [if_neg (by omega)]
    have x4 : x.b = (gi r.pts ((m + 1 + 1 : Nat) : Int)).T := by rw [hx]; rfl
    have x5 : m + 1 + 2 < r.pts.length → x.ob = false := fun k => by rw [hx]; show (if m + 1 + 2 = r.pts.length then r.I.OpenTo else false) = false; rw [if_neg (by omega)]
    have x6 : ∀ t v, Has ((bW r.I r.pts (m + 1 + 1)).map absU) t v ↔ Has (ys ++ [u]) t v ∨ (x.mem t ∧ va x.f t = v) := fun t v => by
      rw [bW_succ, List.map_append, has_app, h2, hx]
      exact or_congr Iff.rfl has_one
    by_cases hf : u.f = x.f
    · refine ⟨ys, ⟨u.a, x.b, u.oa, x.ob, u.f⟩, NF.last h1 rfl rfl rfl (by show u.a < x.b; grind), fun t v => ?_, by omega, x4, x5, by show u.a < x.b; grind⟩
      rw [x6, has_last, has_last, or_assoc]
      refine or_congr Iff.rfl ?_
      show GU.mem ⟨u.a, x.b, u.oa, x.ob, u.f⟩ t ∧ va u.f t = v ↔ _
      rw [← hf, ← or_and_right]
      refine and_congr ?_ Iff.rfl
      unfold GU.mem
      simp only
      grind
    · refine ⟨ys ++ [u], x, NF.snoc h1 (.inl x2) (fun k => ?_) ⟨.inr ⟨x1.symm, .inr x3⟩, fun _ _ _ => hf, fun _ k => ?_, fun _ k => ?_⟩, fun t v => ?_, by rw [List.length_append]; simpa using h3, x4, x5, x2⟩
      · rw [k] at x2; exact absurd x2 (by grind)
      · rw [x3] at k; cases k
      · rw [k] at h6; exact absurd h6 (by grind)
      · rw [x6, has_last]
def frW (pts : List SS) : List UL := mpN toU (frS pts) (frS pts).length
theorem frW_one {pts : List SS} (h : pts.length = 1) : frW pts = [toU (one1 (gi pts 0))] := by
  unfold frW
  rw [mpN_all]
  have : frS pts = [one1 (gi pts 0)] := by unfold frS; rw [if_pos h]
  rw [this]
  rfl
theorem one_K {pts : List SS} (hB : Bnd pts) : UK K0 (toU (one1 (gi pts 0))) := by
  have h0 : M 0 ≤ K0 := by decide
  have h1 := K_one.2.2.2.2.1
  exact ⟨⟨rfl, rfl, rfl, rfl, Nat.le_trans (hB 0).1 h1, Nat.le_trans (hB 0).1 h1⟩, ⟨Nat.le_trans (hB 0).2.1 h1, h0, Nat.le_trans (hB 0).2.2 h1, h0⟩⟩
/-- The units of the first road. -/
def b1W (r : RD) : List UL := (b1 r.I r.pts).map toU
theorem RL.one {r : RD} (h : RL r) (h1 : r.pts.length = 1) : b1W r = frW r.pts ∧ r.I = (one1 (gi r.pts 0)).In := by
  have e1 : r.I = (one1 (gi r.pts 0)).In := by
    obtain ⟨f1, f2⟩ := h.fl h1
    have f3 := h.fr
    have f4 := h.to
    rw [h1] at f4
    cases hI : r.I with
    | mk a b c d =>
      rw [hI] at f1 f2 f3 f4
      simp only at f1 f2 f3 f4
      rw [f1, f2, f3, f4]
      rfl
  refine ⟨?_, e1⟩
  rw [frW_one h1]
  unfold b1W b1
  rw [if_pos h1, e1]
  rfl
theorem RL.two {r : RD} (h1 : ¬ r.pts.length = 1) : b1W r = bW r.I r.pts (r.pts.length - 1) := by
  unfold b1W b1 bW
  rw [if_neg h1]
theorem RL.iv {r : RD} (h : RL r) : IvOk K0 r.I := by
  have h1 := K_one.2.2.2.2.1
  exact ⟨by rw [h.fr], by rw [h.to], by rw [h.fr], by rw [h.to], by rw [h.fr]; exact Nat.le_trans (h.B _).1 h1, by rw [h.to]; exact Nat.le_trans (h.B _).1 h1⟩
/-- What a list of units is, that the normal form asks for. -/
structure Fit (K : Nat) (A : List UL) : Prop where
  k : ∀ u ∈ A, UK K u
  o : ∀ u ∈ A, (absU u).ok
  p : (A.map absU).Pairwise Dis
theorem Fit.val {K : Nat} {A : List UL} (h : Fit K A) (hk : K ≤ KN) : UVal A := ⟨fun u hu => (h.k u hu).uin hk, h.o⟩
theorem one_fit {pts : List SS} (hB : Bnd pts) : Fit K0 [toU (one1 (gi pts 0))] :=
  ⟨fun u hu => List.mem_singleton.1 hu ▸ one_K hB, fun u hu => List.mem_singleton.1 hu ▸ .inr ⟨rfl, rfl, rfl⟩, List.pairwise_singleton _ _⟩
theorem b1_fit {r : RD} (h : RL r) : Fit K0 (b1W r) := by
  by_cases h1 : r.pts.length = 1
  · rw [(h.one h1).1, frW_one h1]
    exact one_fit h.B
  · rw [RL.two h1]
    have := h.l1
    refine ⟨fun u hu => ?_, fun u hu => ?_, bW_pw h _ (by omega)⟩
    · obtain ⟨i, h3, rfl⟩ := bW_mem.1 hu
      exact bsU_K h.B i
    · obtain ⟨i, h3, rfl⟩ := bW_mem.1 hu
      exact .inl (bsU_lt h (by omega))
theorem fr_fit {r : RD} (h : RL r) : Fit K1 (frW r.pts) := by
  by_cases h1 : r.pts.length = 1
  · rw [frW_one h1]
    obtain ⟨k, o, p⟩ := one_fit h.B
    exact ⟨fun u hu => (k u hu).mono K_one.1, o, p⟩
  · have := h.l1
    have e : frW r.pts = nrmR (sgW r.pts (r.pts.length - 1)) := by
      unfold frW frS
      rw [if_neg h1, mNorm_U]
      rfl
    obtain ⟨-, n1, -, -⟩ := frS_law h.B h.i (by omega)
    rw [e]
    refine ⟨nrmR_K (fun u hu => ?_), fun u hu => ?_, ?_⟩
    · obtain ⟨i, h3, rfl⟩ := sgW_mem'.1 hu
      exact sgU_K h.B i
    · rw [← e] at hu
      exact n1.ok _ (List.mem_map.2 ⟨u, hu, rfl⟩)
    · rw [← e]
      exact n1.pw.imp fun k => k.bf.Dis
theorem b1_has {r : RD} (h : RL r) {t : Rat} {v : R_api_Point} : Has ((b1W r).map absU) t v ↔ Has ((frW r.pts).map absU) t v ∧ memI r.I t := by
  by_cases h1 : r.pts.length = 1
  · obtain ⟨e1, e2⟩ := h.one h1
    rw [e1]
    refine ⟨fun k => ⟨k, ?_⟩, fun k => k.1⟩
    rw [frW_one h1, has_map] at k
    obtain ⟨u, hu, k1, k2⟩ := k
    rw [List.mem_singleton.1 hu] at k1
    rw [e2]
    exact k1
  · have := h.l1
    rw [RL.two h1, bW_has h (by omega)]
    obtain ⟨-, -, -, n4⟩ := frS_law h.B h.i (by omega)
    exact and_congr (n4 t v).symm Iff.rfl
/-- The units of the second road. -/
def mrW (r : RD) : List UL := mRes (frS r.pts) [r.I]
theorem mr_fit {r : RD} (h : RL r) : Fit K1 (mrW r) := by
  obtain ⟨k, o, p⟩ := fr_fit h
  refine ⟨ro_K k (fun d hd => ?_), ro_ok, ro_pw p (List.pairwise_singleton _ _) _ (Nat.le_refl _)⟩
  rw [List.mem_singleton.1 hd]
  exact ⟨h.iv.r1, h.iv.r2, h.iv.n1, h.iv.n2, Nat.le_trans h.iv.m1 K_one.1, Nat.le_trans h.iv.m2 K_one.1⟩
theorem mr_has {r : RD} (h : RL r) {t : Rat} {v : R_api_Point} : Has ((mrW r).map absU) t v ↔ Has ((b1W r).map absU) t v := by
  rw [b1_has h]
  refine (ro_has (us := frW r.pts) (ds := [r.I])).trans (and_congr Iff.rfl ?_)
  simp
def buW (r : RD) : List UL := mpN toU (bu r) (bu r).length
theorem buW_eq (r : RD) : buW r = nrmR (mrW r) := toU_ofU _
theorem bu_nf {r : RD} (h : RL r) : NF ((buW r).map absU) ∧ ∀ t v, Has ((buW r).map absU) t v ↔ Has ((b1W r).map absU) t v := by
  rw [buW_eq]
  have hf := mr_fit h
  obtain ⟨n1, n2⟩ := nrm_nf (hf.val K_one.2.1) hf.p
  exact ⟨n1, fun t v => (n2 t v).trans (mr_has h)⟩
theorem bu_fit {r : RD} (h : RL r) : Fit K2 (buW r) := by
  obtain ⟨n1, -⟩ := bu_nf h
  refine ⟨?_, fun u hu => n1.ok _ (List.mem_map.2 ⟨u, hu, rfl⟩), n1.pw.imp fun k => k.bf.Dis⟩
  rw [buW_eq]
  exact nrmR_K (mr_fit h).k
theorem frW_len {r : RD} (h : RL r) : (frW r.pts).length ≤ 18 := by
  by_cases h1 : r.pts.length = 1
  · rw [frW_one h1]; exact Nat.le_of_ble_eq_true rfl
  · have e : frW r.pts = nrmR (sgW r.pts (r.pts.length - 1)) := by
      unfold frW frS
      rw [if_neg h1, mNorm_U]
      rfl
    have h2 := nrmR_len (sgW r.pts (r.pts.length - 1))
    have h3 := sgW_len r.pts (r.pts.length - 1)
    have := h.l2
    rw [e]
    omega
theorem mr_len {r : RD} (h : RL r) : (mrW r).length ≤ 18 := by
  have h1 := ro_len (frW r.pts) [r.I] (frW r.pts).length
  have h2 := frW_len h
  have : (mrW r).length ≤ (frW r.pts).length * 1 := h1
  omega
theorem bu_len {r : RD} (h : RL r) : (bu r).length ≤ 6 := by
  have e : (bu r).length = (buW r).length := (mpN_len _ _ _).symm
  rw [e]
  obtain ⟨n1, n2⟩ := bu_nf h
  by_cases h1 : r.pts.length = 1
  · rw [buW_eq]
    have h2 := nrmR_len (mrW r)
    have h3 : (mrW r).length ≤ (frW r.pts).length * 1 := ro_len (frW r.pts) [r.I] (frW r.pts).length
    rw [frW_one h1] at h3
    simp only [List.length_singleton] at h3
    omega
  · have := h.l1
    have := h.l2
    obtain ⟨ys, u, m1, m2, m3, -⟩ := bW_short h (r.pts.length - 2) (by omega)
    have e2 : (buW r).map absU = ys ++ [u] := NF.uniq n1 m1 fun t v => by
      rw [n2, m2, RL.two h1, show r.pts.length - 2 + 1 = r.pts.length - 1 by omega]
    have e3 := congrArg List.length e2
    rw [List.length_map, List.length_append, List.length_singleton] at e3
    omega
theorem RL.res {r : RD} (h : RL r) : ResOk (frS r.pts) [r.I] := by
  have hb := K_one
  have hm := fr_fit h
  have hk : ∀ {K : Nat} {I : R_api_Interval}, IvOk K I → K ≤ KN → IvOk BQ I := fun g k => ⟨g.r1, g.r2, g.n1, g.n2, Nat.le_trans g.m1 (Nat.le_trans k hb.2.2.2.2.2), Nat.le_trans g.m2 (Nat.le_trans k hb.2.2.2.2.2)⟩
  have hl : (frS r.pts).length = (frW r.pts).length := (mpN_len _ _ _).symm
  have h18 := frW_len h
  refine ⟨by omega, Nat.le_of_ble_eq_true rfl, Nat.le_trans (mr_len h) (by decide), fun u hu => hk (hm.k u hu).i hb.2.1, fun d hd => ?_, fun u hu => ((mr_fit h).k u hu).uin hb.2.1⟩
  rw [List.mem_singleton.1 hd]
  exact hk h.iv hb.2.2.1
theorem dis_app {A B : List (GU Rat R_api_Line)} : (A ++ B).Pairwise Dis ↔ A.Pairwise Dis ∧ B.Pairwise Dis ∧ ∀ t, ¬ ((∃ v, Has A t v) ∧ ∃ v, Has B t v) := by
  rw [List.pairwise_append]
  refine and_congr Iff.rfl (and_congr Iff.rfl ?_)
  constructor
  · rintro h t ⟨⟨v, u, hu, h1, -⟩, v', w, hw, h2, -⟩
    exact h u hu w hw t ⟨h1, h2⟩
  · intro h u hu w hw t ⟨h1, h2⟩
    exact h t ⟨⟨_, u, hu, h1, rfl⟩, _, w, hw, h2, rfl⟩
def bAW (rs : List RD) (m : Nat) : List UL := (bA rs m).map toU
def buAW (rs : List RD) (m : Nat) : List UL := (buA rs m).map toU
theorem bAW_succ (rs : List RD) (m : Nat) : bAW rs (m + 1) = bAW rs m ++ b1W (gi rs (m : Int)) := by
  show ((bA rs m ++ b1 _ _).map toU) = _
  rw [List.map_append]
  rfl
theorem buAW_succ (rs : List RD) (m : Nat) : buAW rs (m + 1) = buAW rs m ++ buW (gi rs (m : Int)) := by
  show ((buA rs m ++ bu _).map toU) = _
  rw [List.map_append]
  unfold buW
  rw [mpN_all]
  rfl
theorem roads {rs : List RD} (h : ∀ r ∈ rs, RL r) : ∀ m, m ≤ rs.length → ((∀ u ∈ bAW rs m, UK K0 u ∧ (absU u).ok) ∧ (∀ u ∈ buAW rs m, UK K2 u ∧ (absU u).ok)) ∧ (∀ t v, Has ((buAW rs m).map absU) t v ↔ Has ((bAW rs m).map absU) t v) ∧ (((buAW rs m).map absU).Pairwise Dis ↔ ((bAW rs m).map absU).Pairwise Dis)
  | 0, _ => by
    refine ⟨⟨fun u hu => ?_, fun u hu => ?_⟩, fun t v => Iff.rfl, Iff.rfl⟩
    · cases hu
    · cases hu
  | m + 1, hm => by
    obtain ⟨⟨g1, g2⟩, g3, g4⟩ := roads h m (by omega)
    have hr := h _ (gi_mem (i := (m : Int)) (xs := rs) (by omega))
    have f1 := b1_fit hr
    have f2 := bu_fit hr
    obtain ⟨-, n2⟩ := bu_nf hr
    rw [bAW_succ, buAW_succ]
    refine ⟨⟨fun u hu => ?_, fun u hu => ?_⟩, fun t v => ?_, ?_⟩
    · rcases List.mem_append.1 hu with k | k
      · exact g1 u k
      · exact ⟨f1.k u k, f1.o u k⟩
    · rcases List.mem_append.1 hu with k | k
      · exact g2 u k
      · exact ⟨f2.k u k, f2.o u k⟩
    · rw [List.map_append, List.map_append, has_app, has_app, g3, n2]
    · rw [List.map_append, List.map_append, dis_app, dis_app, g4]
      refine and_congr Iff.rfl (and_congr ⟨fun _ => f1.p, fun _ => f2.p⟩ ?_)
      simp only [g3, n2]
/-- Both roads end at the same place. -/
theorem roads_meet {rs : List RD} (h : ∀ r ∈ rs, RL r) : mNorm (bA rs rs.length) = mNorm (buA rs rs.length) ∧ nrmE (mpN toU (bA rs rs.length) (bA rs rs.length).length) = nrmE (mpN toU (buA rs rs.length) (buA rs rs.length).length) ∧ (∀ u ∈ mpN toU (bA rs rs.length) (bA rs rs.length).length, UIn u) ∧ ∀ u ∈ mpN toU (buA rs rs.length) (buA rs rs.length).length, UIn u := by
  obtain ⟨⟨g1, g2⟩, g3, g4⟩ := roads h rs.length (Nat.le_refl _)
  have hb := K_one
  unfold mNorm
  rw [mpN_all toU, mpN_all toU]
  have v1 : UVal (bAW rs rs.length) := ⟨fun u hu => (g1 u hu).1.uin hb.2.2.1, fun u hu => (g1 u hu).2⟩
  have v2 : UVal (buAW rs rs.length) := ⟨fun u hu => (g2 u hu).1.uin hb.2.2.2.1, fun u hu => (g2 u hu).2⟩
  suffices hs : nrmR (bAW rs rs.length) = nrmR (buAW rs rs.length) ∧ nrmE (bAW rs rs.length) = nrmE (buAW rs rs.length) by
    refine ⟨?_, hs.2, v1.i, v2.i⟩
    show mpN ofU (nrmR (bAW rs rs.length)) (nrmR (bAW rs rs.length)).length = mpN ofU (nrmR (buAW rs rs.length)) (nrmR (buAW rs rs.length)).length
    rw [hs.1]
  by_cases hd : ((bAW rs rs.length).map absU).Pairwise Dis
  · obtain ⟨a1, a2⟩ := nrm_nf v1 hd
    obtain ⟨c1, c2⟩ := nrm_nf v2 (g4.2 hd)
    refine ⟨absL_inj (fun u hu => (nrmR_ok v1.i u hu).i) (fun u hu => (nrmR_ok v2.i u hu).i) (NF.uniq a1 c1 fun t v => by rw [a2, c2, g3]), ?_⟩
    rw [(nrmE_0 v1).2 hd, (nrmE_0 v2).2 (g4.2 hd)]
  · have e1 := (nrmE_01 (bAW rs rs.length)).resolve_left fun k => hd ((nrmE_0 v1).1 k)
    have e2 := (nrmE_01 (buAW rs rs.length)).resolve_left fun k => hd (g4.1 ((nrmE_0 v2).1 k))
    exact ⟨by rw [e1.2, e2.2], by rw [e1.1, e2.1]⟩
theorem bA_len7 {rs : List RD} (h : ∀ r ∈ rs, RL r) : ∀ m, m ≤ rs.length → (bA rs m).length ≤ m * 7 ∧ (buA rs m).length ≤ m * 6
  | 0, _ => by simp [bA, buA]
  | m + 1, hm => by
    obtain ⟨h1, h2⟩ := bA_len7 h m (by omega)
    have hr := h _ (gi_mem (i := (m : Int)) (xs := rs) (by omega))
    have h3 := b1_len (gi rs (m : Int)).I (gi rs (m : Int)).pts
    have h4 := hr.l2
    have h5 := bu_len hr
    rw [bA, buA, List.length_append, List.length_append]
    omega
end Go.Vt
/- A region that draws its order: values anywhere, effects in one of many orders; a cut that turns the list of blocks. Conditions: the closed check 'tqA'. -/
set_option linter.unusedSimpArgs false
set_option linter.unusedVariables false
set_option linter.unusedSectionVars false
namespace Go.Vt
open Go.RowKit
section
variable {P : Program} {w0 : World} {n : Nat} {ops : Array Oper} {L L' Lw : List Blk} {E : Env}
variable {Q : Exit → Act → World → Prop} {v : Value}
inductive Tq where
  | fin
  | v (hs : List Nat) (t : Tq)
  | no
  | br (i : Nat) (t : Tq) (u : Tq)
def Tq.alts : Tq → List Nat
  | .br i _ u => i :: u.alts
  | _ => []
def Tq.ch : Tq → Bool
  | .no => true
  | .br _ _ _ => true
  | _ => false
def tqB (ops : Array Oper) : Tq → List Nat → Array Bool → Bool
  | .fin, pre, listed => pre.isEmpty && (Region.ready .any ops listed).isEmpty
  | .v hs t, pre, listed => pre.isEmpty && lexF ops (tqB ops t []) hs listed
  | .no, pre, listed => !pre.isEmpty && decide (Region.ready .any ops listed = pre)
  | .br i t u, pre, listed => tqB ops t [] (listed.setIfInBounds i true) && tqB ops u (pre ++ [i]) listed
def tqC (k : Nat) : Tq → Nat → Bool
  | .fin, N => decide (N = 0)
  | .v hs t, N => decide (hs.length ≤ N) && tqC k t (N - hs.length)
  | .no, _ => true
  | .br i t u, N => decide (i < k) && (decide (0 < N) && (tqC k t (N - 1) && tqC k u N))
def tqA (ops : Array Oper) (t : Tq) : Bool := Region.noSelect ops && (tqC ops.size t ops.size && tqB ops t [] (Array.replicate ops.size false))
def AQ (P : Program) (w0 : World) (l : List Oper) (Lw : List Blk) (F : List Blk → Act → Prop) : Tq → List Blk → Act → Prop
  | .fin, L, a => F L a
  | .v hs t, L, a => AH P w0 Lw l.toArray (fun a1 => AQ P w0 l Lw F t L a1) (picks l hs) a
  | .no, _, _ => True
  | .br i t u, L, a => EC P w0 l.toArray [] Lw (fun L1 a1 => AQ P w0 l Lw F t L1 a1) [i] L a ∧ AQ P w0 l Lw F u L a
def JQ (P : Program) (w0 : World) (n : Nat) (l : List Oper) (Lw : List Blk) (K : Env → List Blk → Prop) : Tq → Env → List Blk → Prop
  | .fin, E, L => K E L
  | .v hs t, E, L => JH P w0 n Lw l.toArray (fun E1 => JQ P w0 n l Lw K t E1 L) (picks l hs) E
  | .no, _, _ => True
  | .br i t u, E, L => JE P w0 n l.toArray Lw (fun E1 L1 => JQ P w0 n l Lw K t E1 L1) (picks l [i]) E L ∧ JQ P w0 n l Lw K u E L
theorem aq_of_jq {l : List Oper} {K : Env → List Blk → Prop} {F : List Blk → Act → Prop} (hK : ∀ E L a, Rep n E a → K E L → F L a) : ∀ (t : Tq) (N : Nat) (E : Env) (L : List Blk) (a : Act), tqC l.length t N = true → Rep n E a → JQ P w0 n l Lw K t E L → AQ P w0 l Lw F t L a
  | .fin, _, E, L, a, _, ha, h => hK E L a ha h
  | .no, _, E, L, a, _, ha, h => trivial
  | .v hs t, N, E, L, a, hc, ha, h => by
    simp only [tqC, Bool.and_eq_true, decide_eq_true_eq] at hc
    exact ah_of_jh (n := n) (fun E1 a1 ha1 h1 => aq_of_jq hK t _ E1 L a1 hc.2 ha1 h1) _ _ _ ha h
  | .br i t u, N, E, L, a, hc, ha, h => by
    simp only [tqC, Bool.and_eq_true, decide_eq_true_eq] at hc
    exact ⟨ec_of_je (n := n) (Lj := Lw) (fun E1 L1 a1 ha1 h1 => aq_of_jq hK t _ E1 L1 a1 hc.2.2.1 ha1 h1) [i] E L a (by simpa using hc.1) (fun _ _ => rfl) ha h.1, aq_of_jq hK u _ E L a hc.2.2.2 ha h.2⟩
/-- One operation, and what comes behind it. -/
def StQ (P : Program) (w0 : World) (l : List Oper) (Lw : List Blk) (F : List Blk → Act → Prop) (N : Nat) (listed : Array Bool) (L : List Blk) (a : Act) (q : Nat) : Prop :=
  ∃ o, l.toArray[q]? = some o ∧ q < l.length ∧ Eff P w0 Lw l.toArray L o a fun L' u => wpK P w0 l.toArray (List.range l.length) Lw F N (listed.setIfInBounds q true) [] L' (a.put o.dst u)
theorem wpK_of_aq {l : List Oper} {F : List Blk → Act → Prop} (hsel : Region.noSelect l.toArray = true) : ∀ (t : Tq),
    (∀ (N : Nat) (listed : Array Bool) (L : List Blk) (a : Act), tqC l.length t N = true → tqB l.toArray t [] listed = true → Weak w0 Lw L → AQ P w0 l Lw F t L a → wpK P w0 l.toArray (List.range l.length) Lw F N listed [] L a) ∧
    (∀ (N : Nat) (pre : List Nat) (listed : Array Bool) (L : List Blk) (a : Act), t.ch = true → tqC l.length t (N + 1) = true → tqB l.toArray t pre listed = true → Weak w0 Lw L → AQ P w0 l Lw F t L a → Region.ready .any l.toArray listed = pre ++ t.alts ∧ ∀ q ∈ t.alts, StQ P w0 l Lw F N listed L a q)
  | .fin => ⟨fun N listed L a hc hB hw h => by
      simp only [tqC, decide_eq_true_eq] at hc
      subst hc
      exact ⟨rfl, by simpa [tqB] using hB, h⟩, fun _ _ _ _ _ hch => by cases hch⟩
  | .no => ⟨fun N listed L a hc hB hw h => by simp [tqB] at hB, fun N pre listed L a _ _ hB _ _ => by
      simp only [tqB, Bool.and_eq_true, decide_eq_true_eq] at hB
      exact ⟨by rw [hB.2]; simp [Tq.alts], fun q hq => by cases hq⟩⟩
  | .v hs t => ⟨fun N listed L a hc hB hw h => by
      simp only [tqC, Bool.and_eq_true, decide_eq_true_eq] at hc
      simp only [tqB, Bool.and_eq_true] at hB
      have := wpK_of_ahF (k := tqB l.toArray t []) (G := fun a1 => AQ P w0 l Lw F t L a1) (N := N - hs.length) (es := []) (As := List.range l.length) (F := F) (fun listed a1 hb hG => (wpK_of_aq hsel t).1 _ listed L a1 hc.2 hb hw hG) hsel hw hs listed a hB.2 h
      rw [show hs.length + (N - hs.length) = N by omega] at this
      exact this, fun _ _ _ _ _ hch => by cases hch⟩
  | .br i t u => by
    have chain : ∀ (N : Nat) (pre : List Nat) (listed : Array Bool) (L : List Blk) (a : Act), tqC l.length (.br i t u) (N + 1) = true → tqB l.toArray (.br i t u) pre listed = true → Weak w0 Lw L → AQ P w0 l Lw F (.br i t u) L a → Region.ready .any l.toArray listed = pre ++ (Tq.br i t u).alts ∧ ∀ q ∈ (Tq.br i t u).alts, StQ P w0 l Lw F N listed L a q := fun N pre listed L a hc hB hw h => by
      simp only [tqC, Bool.and_eq_true, decide_eq_true_eq, Nat.add_sub_cancel] at hc
      simp only [tqB, Bool.and_eq_true] at hB
      have hch : u.ch = true := by
        have := hB.2
        cases u <;> simp [tqB, Tq.ch] at this ⊢
      obtain ⟨k1, k2⟩ := (wpK_of_aq hsel u).2 N (pre ++ [i]) listed L a hch hc.2.2.2 hB.2 hw h.2
      refine ⟨by rw [k1]; simp [Tq.alts], fun q hq => ?_⟩
      rcases List.mem_cons.1 hq with h1 | h1
      · subst h1
        obtain ⟨o, ho, hE⟩ := h.1
        exact ⟨o, ho, hc.1, Eff.mono hE fun L' u' hw' hK => (wpK_of_aq hsel t).1 _ _ _ _ hc.2.2.1 hB.1 hw' hK⟩
      · exact k2 q h1
    refine ⟨fun N listed L a hc hB hw h => ?_, fun N pre listed L a _ hc hB hw h => chain N pre listed L a hc hB hw h⟩
    cases N with
    | zero => simp [tqC] at hc
    | succ N =>
      obtain ⟨k1, k2⟩ := chain N [] listed L a hc hB hw h
      rw [List.nil_append] at k1
      refine ⟨by rw [k1]; simp [Tq.alts], fun q hq => ?_⟩
      rw [k1] at hq
      obtain ⟨o, ho, hl, hE⟩ := k2 q hq
      exact ⟨o, ho, .inr ⟨[], .inr ⟨by simpa using hl, rfl⟩, hE⟩⟩
theorem j_treeQ {id : Nat} {l : List Oper} (t : Tq) (Lw : List Blk) (hm : P.follows .mixedOrders = true) (hB : tqA l.toArray t = true) (hL : Lw.Sublist L)
    (h : JQ P w0 n l Lw (fun E2 L2 => JX w0 n .normal Q E2 L2) t E L) : J P w0 n (.region id l.toArray true) Q E L := by
  refine ⟨fun a w ha hw => ?_⟩
  simp only [tqA, Bool.and_eq_true] at hB
  obtain ⟨hsel, hc, hlex⟩ := hB
  refine wp_region_any hm ?_
  have hc' : tqC l.length t l.toArray.size = true := by simpa using hc
  have H := (wpK_of_aq (P := P) (F := fun L a => ∀ w, Own w0 L w → Q .normal a w) hsel t).1 _ _ L a hc' hlex (weak_sub hL) (aq_of_jq (n := n) (fun E2 L2 a2 ha2 hx w hw => hx.out a2 w ha2 hw) t _ E L a hc' ha h)
  exact wpAny_of_wpK (P := P) (Q := Q) (fun L a w hF hw => hF w hw) _ _ _ _ _ w.drew (hw.to (Ext.drew w)) H
end
class SbpC (A L : List Blk) : Prop where
  out : ∃ L', L.Perm (A ++ L')
instance sbpNil (L : List Blk) : SbpC [] L := ⟨L, .refl _⟩
instance sbpCons (b : Nat) (cs : Array Value) (T : TypeId) (A L L1 : List Blk) [h : DelC b L cs T L1] [k : SbpC A L1] : SbpC (⟨b, cs, T⟩ :: A) L := ⟨by
  obtain ⟨L', hp⟩ := k.out
  exact ⟨L', h.out.trans (hp.cons _)⟩⟩
theorem jx_midP {w0 : World} {n : Nat} {Q : Exit → Act → World → Prop} {E : Env} {L : List Blk} {S : Type} {I : S → Prop} {Es : S → Env} {Ls : S → List Blk} (s : S) (hs : I s) (hE : Sub E (Es s)) (hL : SbpC (Ls s) L) : JX w0 n .normal (MidQ w0 n I Es Ls (fun _ _ => True) Q) E L := ⟨fun a w ha hw => by
  obtain ⟨L', hp⟩ := hL.out
  exact (jx_mid (L := Ls s ++ L') s hs hE (List.sublist_append_left _ _)).out a w ha (hw.perm hp)⟩
end Go.Vt
/- P31 (runs built by two roads) walked. Conditions: those that each statement names. -/
set_option linter.unusedSimpArgs false
set_option linter.unusedVariables false
set_option maxRecDepth 100000
namespace Go.Vt
open Go.RowKit Go.Proofs
instance sp_ShiftB (x : R_api_Real) (q : Rat) : SpecC Tryz.prog 23 [vR x, vQ q] (vR ⟨x.P + q, x.R, x.Neg⟩) (M x.P ≤ LQ ∧ M q ≤ LQ) := ⟨fun hp w => by
  refine fn_intro Tryz.func23 rfl Tryz.ntmps23 rfl ?_
  repeat (first | refine sX rfl rfl ?_ | (refine sS rfl rfl ?_ ?_; focus omega) | (refine sC rfl rfl ?_ ?_; focus (exact hp)) | refine cX ?_ | refine cY ?_ | (refine sA rfl rfl ?_; intro _) | refine sT rfl ?_ | refine sF rfl ?_ | (refine sR rfl ?_ ?_; focus omega) | (refine sB rfl rfl ?_; intro _) | (refine sN rfl rfl ?_ ?_; (focus (exact hp)); intro _; (try simp only [List.cons_append, List.nil_append, List.append_nil])) | refine sW rfl rfl ?_ | refine sK rfl rfl ?_ | refine j_if rfl ?_ | refine j_else rfl ?_ | refine pkT rfl rfl rfl rfl ?_ | refine pkF rfl rfl rfl rfl ?_)
  exact wx_cell rfl rfl (fun w hw => ret_ok hw)⟩
instance ys_quo8 {P : Program} {w0 : World} {n : Nat} {L : List Blk} {E : Env} {T T' : TypeId} {x y : Operand} {a c : Int} [hx : IsC (evl E x) (.int .u8 a)] [hy : IsC (evl E y) (.int .u8 c)] : YsC P w0 n L E (.binOp .quo T x y T') (.int .u8 (a / c)) (0 ≤ a ∧ a ≤ 255 ∧ 1 ≤ c) := ⟨fun h _ _ _ _ _ => yl_arith isE isE fun w => by
  have h1 : (a.tdiv c) = a / c := Int.tdiv_eq_ediv_of_nonneg h.1
  have h2 := IntWalk.tdiv_le a c h.1 h.2.2
  rw [run_quo _ _ (by omega), h1]
  have h3 : IntKind.u8.wrap (a / c) = a / c := by
    show (a / c) % 256 = a / c
    exact Int.emod_eq_of_lt (by omega) (by omega)
  rw [h3]⟩
/-- Two small numbers. -/
abbrev e2B (a b : Int) : Array Value := row (eI .u8) [a, b] []
instance (priority := high) ys_e2B {w0 : World} {n : Nat} {L : List Blk} {E : Env} {T T0 : TypeId} {x : Operand} {b : Nat} {i a1 a2 : Int} [IsC (evl E x) (.pointer (some ⟨b, 0 + i.toNat * 1, none⟩))] [h : AtC w0 L b (row (eI .u8) [a1, a2] []) T0] [hv : LdC Tryz.prog T (eI .u8 (gi [a1, a2] i)) 0 (.int .u8 (gi [a1, a2] i))] : YsC Tryz.prog w0 n L E (.load T x) (.int .u8 (gi [a1, a2] i)) (0 ≤ i ∧ i < 2) := ⟨fun hi => ys_row0.out (by show i.toNat < 2; omega)⟩
def shI (I : R_api_Interval) (q : Rat) : R_api_Interval := ⟨⟨I.From.P + q, I.From.R, I.From.Neg⟩, ⟨I.To.P + q, I.To.R, I.To.Neg⟩, I.OpenFrom, I.OpenTo⟩
def shS (q : Rat) (p : SS) : SS := ⟨p.T + q, p.P⟩
/-- The first 'm' samples, later by 'q'. -/
def shN (q : Rat) (ps : List SS) : Nat → List SS
  | 0 => ps
  | m + 1 => (shN q ps m).set m (shS q (gi ps (m : Int)))
theorem shN_len (q : Rat) (ps : List SS) : ∀ m, (shN q ps m).length = ps.length
  | 0 => rfl
  | m + 1 => by rw [shN, List.length_set, shN_len q ps m]
theorem shN_gi (q : Rat) (ps : List SS) : ∀ m, m ≤ ps.length → ∀ i : Nat, i < ps.length → gi (shN q ps m) (i : Int) = if i < m then shS q (gi ps (i : Int)) else gi ps (i : Int)
  | 0, _, i, _ => rfl
  | m + 1, hm, i, hi => by
    have hl := shN_len q ps m
    rw [gi_nat (by rw [shN_len]; exact hi)]
    simp only [shN]
    rw [List.getElem_set]
    rcases (by omega : m = i ∨ m ≠ i) with h | h
    · subst h
      rw [if_pos rfl, if_pos (by omega)]
    · rw [if_neg h, ← gi_nat (by omega), shN_gi q ps m (by omega) i hi]
      by_cases h2 : i < m
      · rw [if_pos h2, if_pos (by omega)]
      · rw [if_neg h2, if_neg (by omega)]
theorem shN_all (q : Rat) (ps : List SS) {i : Nat} (hi : i < ps.length) : gi (shN q ps ps.length) (i : Int) = shS q (gi ps (i : Int)) := by rw [shN_gi q ps _ (Nat.le_refl _) i hi, if_pos hi]
theorem ptsW_bB (ws : List WStep) : ∀ p ∈ ptsW ws, M p.T ≤ 100 ∧ M p.P.X ≤ 1 ∧ M p.P.Y ≤ 1 := by
  have hA : ∀ m, m ≤ 7 → ∀ x ∈ (pA ws m).1, M x.T ≤ 100 ∧ M x.P.X ≤ 1 ∧ M x.P.Y ≤ 1 := by
    intro m
    induction m with
    | zero => intro _ x hx; cases hx
    | succ m ih =>
      intro hm x hx
      rw [pA] at hx
      rcases List.mem_append.1 hx with h | h
      · exact ih (by omega) x h
      · rw [List.mem_singleton] at h
        subst h
        have h1 := pA_time ws (m + 1)
        rw [pA] at h1
        simp only at h1 ⊢
        exact ⟨Nat.le_trans h1 (by omega), M_small (by omega), M_small (by omega)⟩
  unfold ptsW
  split
  · decide +kernel
  · exact hA _ (by omega)
theorem runI_RL (ws : List WStep) (op : Int) (b c : Nat) (sp : List Value) : RL ⟨runI (ptsW ws) op, b, c, ptsW ws, sp⟩ := by
  have hl := ptsW_len ws
  refine ⟨rfl, ?_, fun h => ?_, ptsW_bnd ws, ptsW_Inc ws, hl.1, hl.2⟩
  · show (⟨(gi (ptsW ws) (((ptsW ws).length : Int) - 1)).T, 0, false⟩ : R_api_Real) = _
    rw [show ((ptsW ws).length : Int) - 1 = (((ptsW ws).length - 1 : Nat) : Int) by omega]
  · have h : (ptsW ws).length = 1 := h
    show (decide (1 < (ptsW ws).length) && _) = false ∧ (decide (1 < (ptsW ws).length) && _) = false
    rw [decide_eq_false (by omega)]
    exact ⟨rfl, rfl⟩
theorem shift_RL (ws : List WStep) (op k : Int) (hk : 0 ≤ k ∧ k < 64) (b c : Nat) (sp : List Value) : RL ⟨shI (runI (ptsW ws) op) (k : Rat), b, c, shN (k : Rat) (ptsW ws) (ptsW ws).length, sp⟩ := by
  have hl := ptsW_len ws
  have h0 := runI_RL ws op b c sp
  have hs := shN_len (k : Rat) (ptsW ws) (ptsW ws).length
  have hkM : M (k : Rat) ≤ 1 := M_small (by omega)
  refine ⟨?_, ?_, fun h => h0.fl (by rw [← hs]; exact h), bnd_of (fun p hp => ?_), fun i hi => ?_, by rw [hs]; exact hl.1, by rw [hs]; exact hl.2⟩
  · have := shN_all (k : Rat) (ptsW ws) (i := 0) (by omega)
    show (⟨(runI (ptsW ws) op).From.P + (k : Rat), _, _⟩ : R_api_Real) = ⟨(gi (shN (k : Rat) (ptsW ws) (ptsW ws).length) ((0 : Nat) : Int)).T, 0, false⟩
    rw [this]
    rfl
  · show (⟨(runI (ptsW ws) op).To.P + (k : Rat), _, _⟩ : R_api_Real) = ⟨(gi (shN (k : Rat) (ptsW ws) (ptsW ws).length) (((shN (k : Rat) (ptsW ws) (ptsW ws).length).length - 1 : Nat) : Int)).T, 0, false⟩
    rw [hs, shN_all (k : Rat) (ptsW ws) (i := (ptsW ws).length - 1) (by omega)]
    have h1 := h0.to
    simp only at h1
    rw [h1]
    rfl
  · obtain ⟨i, hi, rfl⟩ := List.getElem_of_mem hp
    have hi' : i < (shN (k : Rat) (ptsW ws) (ptsW ws).length).length := hi
    rw [hs] at hi'
    rw [← gi_nat hi, shN_all _ _ (by omega)]
    obtain ⟨g1, g2, g3⟩ := ptsW_bB ws _ (gi_mem (i := (i : Int)) (xs := ptsW ws) (by omega))
    have := MB.mk g1
    have := MB.mk g2
    have := MB.mk g3
    have := MB.mk hkM
    show M ((gi (ptsW ws) (i : Int)).T + (k : Rat)) ≤ PB ∧ M (gi (ptsW ws) (i : Int)).P.X ≤ PB ∧ M (gi (ptsW ws) (i : Int)).P.Y ≤ PB
    exact ⟨MB.lt rfl, MB.lt rfl, MB.lt rfl⟩
  · simp only [hs] at hi
    show (gi (shN (k : Rat) (ptsW ws) (ptsW ws).length) (i : Int)).T < (gi (shN (k : Rat) (ptsW ws) (ptsW ws).length) ((i + 1 : Nat) : Int)).T
    rw [shN_all _ _ (by omega), shN_all _ _ hi]
    have := ptsW_Inc ws i hi
    show (gi (ptsW ws) (i : Int)).T + (k : Rat) < (gi (ptsW ws) ((i + 1 : Nat) : Int)).T + (k : Rat)
    grind
theorem j_subL {P : Program} {w0 : World} {n : Nat} {c : Code} {Q : Exit → Act → World → Prop} {E E' : Env} {L L' : List Blk} (hs : Sub E E') (hL : L'.Sublist L) (h : J P w0 n c Q E' L') : J P w0 n c Q E L := ⟨fun a w ha hw => h.out a w (ha.sub hs) (hw.sub hL)⟩
/-- Both roads, called. -/
theorem two_RL {r1 r2 : RD} (h : RL r1 ∧ RL r2) : ∀ r ∈ [r1, r2], RL r := fun r hr => by
  rcases List.mem_cons.1 hr with h1 | h1
  · exact h1 ▸ h.1
  · exact (List.mem_singleton.1 h1) ▸ h.2
abbrev sr2 (w0 : World) (L : List Blk) (f : FuncId) (v : Value) (r1 r2 : RD) := SpecR Tryz.prog w0 L f [v] (SlS rP 36 (mNorm (bA [r1, r2] 2))) (fun s => .tuple #[vSl s, .int .i64 (nrmE (mpN toU (bA [r1, r2] 2) (bA [r1, r2] 2).length))]) (fun s => mS 68 s) (RL r1 ∧ RL r2)
instance sr_build (w0 : World) (L : List Blk) (v : Value) (I1 I2 : R_api_Interval) (p1 p2 c1 c2 : Nat) (pts1 pts2 : List SS) (z1 z2 : List Value) (T1 T2 : TypeId) [h : LstC w0 L v R_simplify_Run rR [⟨I1, ⟨some ⟨p1, 0, none⟩, pts1.length, c1⟩⟩, ⟨I2, ⟨some ⟨p2, 0, none⟩, pts2.length, c2⟩⟩]] [a1 : AtC w0 L p1 (row rS pts1 z1) T1] [a2 : AtC w0 L p2 (row rS pts2 z2) T2] :
    sr2 w0 L 24 v ⟨I1, p1, c1, pts1, z1⟩ ⟨I2, p2, c2, pts2, z2⟩ := ⟨fun hp w hw => by
  have hb := bA_len7 (two_RL hp) 2 (Nat.le_refl _)
  have hm := roads_meet (two_RL hp)
  refine build_spec v [⟨I1, p1, c1, pts1, z1⟩, ⟨I2, p2, c2, pts2, z2⟩] w (h.out w hw) (Nat.le_of_ble_eq_true rfl) (fun r hr => ?_) (by show (bA _ 2).length ≤ 19; omega) hm.2.2.1
  have hl : r.pts.length ≤ 1024 := by have := (two_RL hp r hr).l2; omega
  have hB := (two_RL hp r hr).B
  rcases List.mem_cons.1 hr with h1 | h1
  · subst h1
    exact ⟨hl, hB, T1, a1.out w hw⟩
  · rw [List.mem_singleton] at h1
    subst h1
    exact ⟨hl, hB, T2, a2.out w hw⟩⟩
instance sr_built (w0 : World) (L : List Blk) (v : Value) (I1 I2 : R_api_Interval) (p1 p2 c1 c2 : Nat) (pts1 pts2 : List SS) (z1 z2 : List Value) (T1 T2 : TypeId) [h : LstC w0 L v R_simplify_Run rR [⟨I1, ⟨some ⟨p1, 0, none⟩, pts1.length, c1⟩⟩, ⟨I2, ⟨some ⟨p2, 0, none⟩, pts2.length, c2⟩⟩]] [a1 : AtC w0 L p1 (row rS pts1 z1) T1] [a2 : AtC w0 L p2 (row rS pts2 z2) T2] :
    sr2 w0 L 25 v ⟨I1, p1, c1, pts1, z1⟩ ⟨I2, p2, c2, pts2, z2⟩ := ⟨fun hp w hw => by
  have hb := bA_len7 (two_RL hp) 2 (Nat.le_refl _)
  have hm := roads_meet (two_RL hp)
  have key := built_spec v [⟨I1, p1, c1, pts1, z1⟩, ⟨I2, p2, c2, pts2, z2⟩] w (h.out w hw) (Nat.le_of_ble_eq_true rfl) (fun r hr => ?_) (by show (buA _ 2).length ≤ 19; omega) hm.2.2.2
  · rw [← hm.1, ← hm.2.1] at key
    exact key
  · have hR := two_RL hp r hr
    have hl := bu_len hR
    have hl2 := hR.l2
    refine ⟨hR.l1, by omega, hR.B, hR.i, hR.res, by omega, ?_⟩
    rcases List.mem_cons.1 hr with h1 | h1
    · subst h1
      exact ⟨T1, a1.out w hw⟩
    · rw [List.mem_singleton] at h1
      subst h1
      exact ⟨T2, a2.out w hw⟩⟩
set_option maxHeartbeats 4000000 in
theorem builds_spec (v1 v2 : Value) (ws1 ws2 : List WStep) (k0 k1 : Int) (h1 : 0 ≤ k0 ∧ k0 ≤ 255) (h2 : 0 ≤ k1 ∧ k1 ≤ 255) (hws1 : WOk ws1) (hws2 : WOk ws2) (w : World) (hv1 : ArgS w v1 e_st_Time_X_Y ws1) (hv2 : ArgS w v2 e_st_Time_X_Y ws2) (hl1 : ws1.length ≤ 9223372036854775807) (hl2 : ws2.length ≤ 9223372036854775807) :
    Calls Tryz.prog 4 [v1, v2, .agg (e2B k0 k1)].toArray w (Ret (.bool true) w) := by
  have := ArgC.mk hv1
  have := ArgC.mk hv2
  have h1' : 0 ≤ gi [k0, k1] 0 ∧ gi [k0, k1] 0 ≤ 255 := h1
  have h2' : 0 ≤ gi [k0, k1] 1 ∧ gi [k0, k1] 1 ≤ 255 := h2
  refine fn_intro Tryz.func4 rfl Tryz.ntmps4 rfl ?_
  repeat (first | refine sX rfl rfl ?_ | (refine sS rfl rfl ?_ ?_; focus omega) | (refine sC rfl rfl ?_ ?_; focus (first | exact trivial | exact ⟨by omega, by omega⟩)) | refine cX ?_ | refine cY ?_ | (refine sA rfl rfl ?_; intro _) | refine sT rfl ?_ | refine sF rfl ?_ | (refine sR rfl ?_ ?_; focus omega) | (refine sB rfl rfl ?_; intro _) | (refine sN rfl rfl ?_ ?_; (focus (first | exact trivial | exact ⟨by omega, by omega⟩)); intro _; (try simp only [List.cons_append, List.nil_append, List.append_nil])) | refine sW rfl rfl ?_ | refine sK rfl rfl ?_ | refine j_if rfl ?_ | refine j_else rfl ?_ | refine pkT rfl rfl rfl rfl ?_ | refine pkF rfl rfl rfl rfl ?_)
  rename_i b5
  refine j_cut (S := Nat × Nat × SP3 (ptsW ws1) × SP3 (ptsW ws2)) (fun _ => True) (fun s => [(5, .pointer (some ⟨b5, 0, none⟩)), (6, .bool false), (7, .pointer (some ⟨s.1, 0, none⟩)), (8, .pointer (some ⟨s.2.1, 0, none⟩))])
    (fun s => [⟨s.1, cRun (runI (ptsW ws1) (gi [k0, k1] 1)) s.2.2.1.1.1 (ptsW ws1).length s.2.2.1.1.2.1, 35⟩, ⟨s.2.1, cRun (runI (ptsW ws2) (gi [k0, k1] 1 / 4)) s.2.2.2.1.1 (ptsW ws2).length s.2.2.2.1.2.1, 35⟩, ⟨s.2.2.1.1.1, row rS (ptsW ws1) s.2.2.1.1.2.2, 47⟩, ⟨s.2.2.2.1.1, row rS (ptsW ws2) s.2.2.2.1.2.2, 47⟩, ⟨b5, e2B k0 k1, 58⟩]) ?_ (fun s _ => ?_)
  · (refine j_treeQ (.v [0, 1, 2, 4, 5, 6, 7] (.br 3 (.br 8 (.br 9 (.br 10 (.br 11 (.br 12 (.fin) (.no)) (.no)) (.no)) (.br 10 (.br 9 (.br 11 (.br 12 (.fin) (.no)) (.no)) (.no)) (.no))) (.br 9 (.br 8 (.br 10 (.br 11 (.br 12 (.fin) (.no)) (.no)) (.no)) (.br 10 (.br 8 (.br 11 (.br 12 (.fin) (.no)) (.no)) (.no)) (.no))) (.br 10 (.br 8 (.br 9 (.br 11 (.br 12 (.fin) (.no)) (.no)) (.no)) (.br 9 (.br 8 (.br 11 (.br 12 (.fin) (.no)) (.no)) (.no)) (.no))) (.no)))) (.br 9 (.br 3 (.br 8 (.br 10 (.br 11 (.br 12 (.fin) (.no)) (.no)) (.no)) (.br 10 (.br 8 (.br 11 (.br 12 (.fin) (.no)) (.no)) (.no)) (.no))) (.br 10 (.br 3 (.br 8 (.br 11 (.br 12 (.fin) (.no)) (.no)) (.no)) (.no)) (.no))) (.br 10 (.br 3 (.br 8 (.br 9 (.br 11 (.br 12 (.fin) (.no)) (.no)) (.no)) (.br 9 (.br 8 (.br 11 (.br 12 (.fin) (.no)) (.no)) (.no)) (.no))) (.br 9 (.br 3 (.br 8 (.br 11 (.br 12 (.fin) (.no)) (.no)) (.no)) (.no)) (.no))) (.no))))) ([⟨b5, e2B k0 k1, 58⟩]) mixed (by kernel_rfl) (by repeat (first | exact List.Sublist.refl _ | exact List.nil_sublist _ | refine List.Sublist.cons_cons _ ?_ | refine List.Sublist.cons _ ?_ | refine List.Sublist.trans ?_ (List.sublist_append_right _ _))) ?_; simp only [JQ, picks, List.getElem?_cons_succ, List.getElem?_cons_zero])
    repeat' (first | (with_reducible refine And.intro ?_ ?_) | (with_reducible exact True.intro) | refine eS rfl rfl ?_ | refine uP rfl rfl rfl rfl ?_ | refine uQ rfl rfl rfl rfl ?_ | refine eX rfl rfl ?_ | (refine uS rfl rfl ?_ ?_; focus omega) | (refine uC rfl rfl ?_ ?_; focus (first | exact ⟨by omega, by omega⟩ | exact ⟨⟨by omega, by omega⟩, hws1, hl1⟩ | exact ⟨⟨by omega, by omega⟩, hws2, hl2⟩)) | refine uW rfl rfl ?_ | refine eF rfl ?_ | refine eT rfl ?_ | (refine eA rfl rfl ?_; intro _) | (refine eB rfl rfl ?_; intro _) | (refine eN rfl rfl ?_ ?_; (focus (first | exact ⟨by omega, by omega⟩ | exact ⟨⟨by omega, by omega⟩, hws1, hl1⟩ | exact ⟨⟨by omega, by omega⟩, hws2, hl2⟩)); intro _; (try simp only [List.cons_append, List.nil_append, List.append_nil])) | refine je_nil ?_ | refine tX rfl rfl ?_ | (refine tS rfl rfl ?_ ?_; focus omega) | (refine tC rfl rfl ?_ ?_; focus (first | exact ⟨by omega, by omega⟩ | exact ⟨⟨by omega, by omega⟩, hws1, hl1⟩ | exact ⟨⟨by omega, by omega⟩, hws2, hl2⟩)) | refine tW rfl rfl ?_ | refine tK rfl rfl ?_ | refine Go.Vt.hq (wl_pickT rfl rfl) rfl rfl ?_ | refine Go.Vt.hq (wl_pickF rfl rfl) rfl rfl ?_ | refine jh_nil ?_ | (refine wn_new ?_; intro _) | refine jn_nil ?_)
    all_goals exact jx_midP ⟨_, _, ‹SP3 (ptsW ws1)›, ‹SP3 (ptsW ws2)›⟩ trivial (by repeat (first | exact sub_nil | refine sub_cons rfl ?_ | refine sub_cons' rfl (by congr 1; omega) ?_)) inferInstance
  · obtain ⟨b7, b8, ⟨⟨p1, c1, z1⟩, hc1⟩, ⟨⟨p2, c2, z2⟩, hc2⟩⟩ := s
    simp only at hc1 hc2 ⊢
    repeat (first | refine sX rfl rfl ?_ | (refine sS rfl rfl ?_ ?_; focus omega) | (refine sC rfl rfl ?_ ?_; focus (exact ⟨by omega, by omega⟩)) | refine cX ?_ | refine cY ?_ | (refine sA rfl rfl ?_; intro _) | refine sT rfl ?_ | refine sF rfl ?_ | (refine sR rfl ?_ ?_; focus omega) | (refine sB rfl rfl ?_; intro _) | (refine sN rfl rfl ?_ ?_; (focus (exact ⟨by omega, by omega⟩)); intro _; (try simp only [List.cons_append, List.nil_append, List.append_nil])) | refine sW rfl rfl ?_ | refine sK rfl rfl ?_ | refine j_if rfl ?_ | refine j_else rfl ?_ | refine pkT rfl rfl rfl rfl ?_ | refine pkF rfl rfl rfl rfl ?_)
    rename_i b9
    have hk : 0 ≤ gi [k0, k1] 0 % 64 ∧ gi [k0, k1] 0 % 64 < 64 := by omega
    have R1 := runI_RL ws1 (gi [k0, k1] 1) p1 c1 z1
    have R2 := shift_RL ws2 (gi [k0, k1] 1 / 4) _ hk p2 c2 z2
    have hqM : M ((gi [k0, k1] 0 % 64 : Int) : Rat) ≤ LQ := Nat.le_trans (M_small (by omega)) (by decide)
    have hB2 := ptsW_bnd ws2
    have hln2 := ptsW_len ws2
    have hs1 : M (runI (ptsW ws2) (gi [k0, k1] 1 / 4)).From.P ≤ LQ ∧ M ((gi [k0, k1] 0 % 64 : Int) : Rat) ≤ LQ := ⟨Nat.le_trans (hB2 0).1 (by decide), hqM⟩
    have hs2 : M (runI (ptsW ws2) (gi [k0, k1] 1 / 4)).To.P ≤ LQ ∧ M ((gi [k0, k1] 0 % 64 : Int) : Rat) ≤ LQ := ⟨Nat.le_trans (hB2 ((ptsW ws2).length - 1)).1 (by decide), hqM⟩
    generalize runI (ptsW ws1) (gi [k0, k1] 1) = I1 at *
    generalize runI (ptsW ws2) (gi [k0, k1] 1 / 4) = I2 at *
    generalize ((gi [k0, k1] 0 % 64 : Int) : Rat) = q at *
    generalize ptsW ws1 = ps1 at *
    generalize ptsW ws2 = ps2 at *
    refine j_loop (S := Nat) (fun m => m ≤ ps2.length) (fun m => [(5, .pointer (some ⟨b5, 0, none⟩)), (6, .bool false), (7, .pointer (some ⟨b7, 0, none⟩)), (8, .pointer (some ⟨b8, 0, none⟩)), (9, .pointer (some ⟨b9, 0, none⟩)), (10, .int .i64 (m : Nat))])
      (fun m => [⟨b9, e_api_Rat (Q q), 28⟩, ⟨b7, cRun I1 p1 ps1.length c1, 35⟩, ⟨b8, cRun I2 p2 ps2.length c2, 35⟩, ⟨p1, row rS ps1 z1, 47⟩, ⟨p2, row rS (shN q ps2 m) z2, 47⟩]) (fun m => ps2.length - m) 0 (Nat.zero_le _) (by repeat (first | exact sub_nil | refine sub_cons rfl ?_ | refine sub_cons' rfl (by congr 1; omega) ?_)) (by repeat (first | exact List.Sublist.refl _ | exact List.nil_sublist _ | refine List.Sublist.cons_cons _ ?_ | refine List.Sublist.cons _ ?_)) (fun m hm => ?_)
    have hsl := shN_len q ps2 m
    repeat (first | refine sX rfl rfl ?_ | (refine sS rfl rfl ?_ ?_; focus omega) | (refine sC rfl rfl ?_ ?_; focus (first | exact trivial | assumption | constructor <;> assumption | exact mb2 rfl rfl | exact mb4 rfl rfl rfl rfl)) | refine cX ?_ | refine cY ?_ | (refine sA rfl rfl ?_; intro _) | refine sT rfl ?_ | refine sF rfl ?_ | (refine sR rfl ?_ ?_; focus omega) | (refine sB rfl rfl ?_; intro _) | (refine sN rfl rfl ?_ ?_; (focus (first | exact trivial | assumption | constructor <;> assumption | exact mb2 rfl rfl | exact mb4 rfl rfl rfl rfl)); intro _; (try simp only [List.cons_append, List.nil_append, List.append_nil])) | refine sW rfl rfl ?_ | refine sK rfl rfl ?_ | refine j_if rfl ?_ | refine j_else rfl ?_ | refine pkT rfl rfl rfl rfl ?_ | refine pkF rfl rfl rfl rfl ?_)
    refine j_cond rfl (fun h => ?_) (fun h => ?_)
    · have hlt : m < ps2.length := by have := of_decide_eq_true h; omega
      have hgm : gi (shN q ps2 m) (m : Int) = gi ps2 (m : Int) := by rw [shN_gi q ps2 m hm m hlt, if_neg (Nat.lt_irrefl m)]
      have hpre : M (gi (shN q ps2 m) (m : Int)).T ≤ LQ ∧ M q ≤ LQ := ⟨by rw [hgm]; exact Nat.le_trans (hB2 (m : Int)).1 (by decide), hs1.2⟩
      repeat (first | refine sX rfl rfl ?_ | (refine sS rfl rfl ?_ ?_; focus omega) | (refine sC rfl rfl ?_ ?_; focus (first | exact trivial | assumption | constructor <;> assumption | exact mb2 rfl rfl | exact mb4 rfl rfl rfl rfl)) | refine cX ?_ | refine cY ?_ | (refine sA rfl rfl ?_; intro _) | refine sT rfl ?_ | refine sF rfl ?_ | (refine sR rfl ?_ ?_; focus omega) | (refine sB rfl rfl ?_; intro _) | (refine sN rfl rfl ?_ ?_; (focus (first | exact trivial | assumption | constructor <;> assumption | exact mb2 rfl rfl | exact mb4 rfl rfl rfl rfl)); intro _; (try simp only [List.cons_append, List.nil_append, List.append_nil])) | refine sW rfl rfl ?_ | refine sK rfl rfl ?_ | refine j_if rfl ?_ | refine j_else rfl ?_ | refine pkT rfl rfl rfl rfl ?_ | refine pkF rfl rfl rfl rfl ?_)
      refine jD 13 13 mixed (by kernel_rfl) ?_
      repeat (first | refine tX rfl rfl ?_ | (refine tS rfl rfl ?_ ?_; focus omega) | (refine tC rfl rfl ?_ ?_; focus (exact hpre)) | refine tW rfl rfl ?_ | refine tK rfl rfl ?_ | refine Go.Vt.hq (wl_pickT rfl rfl) rfl rfl ?_ | refine Go.Vt.hq (wl_pickF rfl rfl) rfl rfl ?_)
      refine jh_nil ?_
      refine jn_nil ?_
      refine sRF (i := (m : Int)) (f := 0) (shS q (gi ps2 (m : Int))) ?_ rfl ?_ ?_
      · rw [hgm]; rfl
      · show m < _; omega
      repeat (first | refine sX rfl rfl ?_ | (refine sS rfl rfl ?_ ?_; focus omega) | (refine sC rfl rfl ?_ ?_; focus (first | exact trivial | assumption | constructor <;> assumption | exact mb2 rfl rfl | exact mb4 rfl rfl rfl rfl)) | refine cX ?_ | refine cY ?_ | (refine sA rfl rfl ?_; intro _) | refine sT rfl ?_ | refine sF rfl ?_ | (refine sR rfl ?_ ?_; focus omega) | (refine sB rfl rfl ?_; intro _) | (refine sN rfl rfl ?_ ?_; (focus (first | exact trivial | assumption | constructor <;> assumption | exact mb2 rfl rfl | exact mb4 rfl rfl rfl rfl)); intro _; (try simp only [List.cons_append, List.nil_append, List.append_nil])) | refine sW rfl rfl ?_ | refine sK rfl rfl ?_ | refine j_if rfl ?_ | refine j_else rfl ?_ | refine pkT rfl rfl rfl rfl ?_ | refine pkF rfl rfl rfl rfl ?_)
      exact jx_loop (m + 1) hlt (by repeat (first | exact sub_nil | refine sub_cons rfl ?_ | refine sub_cons' rfl (by congr 1; omega) ?_)) (by repeat (first | exact List.Sublist.refl _ | exact List.nil_sublist _ | refine List.Sublist.cons_cons _ ?_ | refine List.Sublist.cons _ ?_)) (by show ps2.length - (m + 1) < ps2.length - m; omega)
    · have hge : m = ps2.length := by have := of_decide_eq_false h; omega
      subst hge
      repeat (first | refine sX rfl rfl ?_ | (refine sS rfl rfl ?_ ?_; focus omega) | (refine sC rfl rfl ?_ ?_; focus (first | exact trivial | assumption | constructor <;> assumption | exact mb2 rfl rfl | exact mb4 rfl rfl rfl rfl)) | refine cX ?_ | refine cY ?_ | (refine sA rfl rfl ?_; intro _) | refine sT rfl ?_ | refine sF rfl ?_ | (refine sR rfl ?_ ?_; focus omega) | (refine sB rfl rfl ?_; intro _) | (refine sN rfl rfl ?_ ?_; (focus (first | exact trivial | assumption | constructor <;> assumption | exact mb2 rfl rfl | exact mb4 rfl rfl rfl rfl)); intro _; (try simp only [List.cons_append, List.nil_append, List.append_nil])) | refine sW rfl rfl ?_ | refine sK rfl rfl ?_ | refine j_if rfl ?_ | refine j_else rfl ?_ | refine pkT rfl rfl rfl rfl ?_ | refine pkF rfl rfl rfl rfl ?_)
      refine jD 12 12 mixed (by kernel_rfl) ?_
      repeat (first | refine tX rfl rfl ?_ | (refine tS rfl rfl ?_ ?_; focus omega) | (refine tC rfl rfl ?_ ?_; focus (first | exact hs1 | exact hs2)) | refine tW rfl rfl ?_ | refine tK rfl rfl ?_ | refine Go.Vt.hq (wl_pickT rfl rfl) rfl rfl ?_ | refine Go.Vt.hq (wl_pickF rfl rfl) rfl rfl ?_)
      refine jh_nil ?_
      refine jn_nil ?_
      iterate 5 (first | refine sX rfl rfl ?_ | (refine sS rfl rfl ?_ ?_; focus omega) | (refine sC rfl rfl ?_ ?_; focus (first | exact trivial | assumption | constructor <;> assumption | exact mb2 rfl rfl | exact mb4 rfl rfl rfl rfl)) | refine cX ?_ | refine cY ?_ | (refine sA rfl rfl ?_; intro _) | refine sT rfl ?_ | refine sF rfl ?_ | (refine sR rfl ?_ ?_; focus omega) | (refine sB rfl rfl ?_; intro _) | (refine sN rfl rfl ?_ ?_; (focus (first | exact trivial | assumption | constructor <;> assumption | exact mb2 rfl rfl | exact mb4 rfl rfl rfl rfl)); intro _; (try simp only [List.cons_append, List.nil_append, List.append_nil])) | refine sW rfl rfl ?_ | refine sK rfl rfl ?_ | refine j_if rfl ?_ | refine j_else rfl ?_ | refine pkT rfl rfl rfl rfl ?_ | refine pkF rfl rfl rfl rfl ?_)
      refine jx_then (j_subL (E' := [(6, .bool false), (7, .pointer (some ⟨b7, 0, none⟩)), (8, .pointer (some ⟨b8, 0, none⟩))]) (L' := [⟨b7, cRun I1 p1 ps1.length c1, 35⟩, ⟨b8, cRun (shI I2 q) p2 ps2.length c2, 35⟩, ⟨p1, row rS ps1 z1, 47⟩, ⟨p2, row rS (shN q ps2 ps2.length) z2, 47⟩]) (by repeat (first | exact sub_nil | refine sub_cons rfl ?_ | refine sub_cons' rfl (by congr 1; omega) ?_)) (by repeat (first | exact List.Sublist.refl _ | exact List.nil_sublist _ | refine List.Sublist.cons_cons _ ?_ | refine List.Sublist.cons _ ?_)) ?_)
      generalize shN q ps2 ps2.length = ps3 at *
      generalize shI I2 q = I3 at *
      rw [← hsl]
      have hRR := And.intro R1 R2
      have hb := bA_len7 (two_RL hRR) 2 (Nat.le_refl _)
      have hmn : (mNorm (bA [⟨I1, p1, c1, ps1, z1⟩, ⟨I3, p2, c2, ps3, z2⟩] 2)).length ≤ 1048576 := by
        unfold mNorm
        rw [mpN_len]
        have h1 := nrmR_len (mpN toU (bA [⟨I1, p1, c1, ps1, z1⟩, ⟨I3, p2, c2, ps3, z2⟩] 2) (bA [⟨I1, p1, c1, ps1, z1⟩, ⟨I3, p2, c2, ps3, z2⟩] 2).length)
        rw [mpN_len] at h1
        omega
      repeat (first | refine sX rfl rfl ?_ | (refine sS rfl rfl ?_ ?_; focus omega) | (refine sC rfl rfl ?_ ?_; focus (first | exact hRR | exact ⟨hmn, hmn⟩)) | refine cX ?_ | refine cY ?_ | (refine sA rfl rfl ?_; intro _) | refine sT rfl ?_ | refine sF rfl ?_ | (refine sR rfl ?_ ?_; focus omega) | (refine sB rfl rfl ?_; intro _) | (refine sN rfl rfl ?_ ?_; (focus (first | exact hRR | exact ⟨hmn, hmn⟩)); intro _; (try simp only [List.cons_append, List.nil_append, List.append_nil])) | refine sW rfl rfl ?_ | refine sK rfl rfl ?_ | refine j_if rfl ?_ | refine j_else rfl ?_ | refine pkT rfl rfl rfl rfl ?_ | refine pkF rfl rfl rfl rfl ?_)
      simp only [eq_self, decide_true]
      repeat (first | refine sX rfl rfl ?_ | (refine sS rfl rfl ?_ ?_; focus omega) | (refine sC rfl rfl ?_ ?_; focus (first | exact trivial | assumption | constructor <;> assumption | exact mb2 rfl rfl | exact mb4 rfl rfl rfl rfl)) | refine cX ?_ | refine cY ?_ | (refine sA rfl rfl ?_; intro _) | refine sT rfl ?_ | refine sF rfl ?_ | (refine sR rfl ?_ ?_; focus omega) | (refine sB rfl rfl ?_; intro _) | (refine sN rfl rfl ?_ ?_; (focus (first | exact trivial | assumption | constructor <;> assumption | exact mb2 rfl rfl | exact mb4 rfl rfl rfl rfl)); intro _; (try simp only [List.cons_append, List.nil_append, List.append_nil])) | refine sW rfl rfl ?_ | refine sK rfl rfl ?_ | refine j_if rfl ?_ | refine j_else rfl ?_ | refine pkT rfl rfl rfl rfl ?_ | refine pkF rfl rfl rfl rfl ?_)
      simp only [eq_self, decide_true]
      repeat (first | refine sX rfl rfl ?_ | (refine sS rfl rfl ?_ ?_; focus omega) | (refine sC rfl rfl ?_ ?_; focus (first | exact trivial | assumption | constructor <;> assumption | exact mb2 rfl rfl | exact mb4 rfl rfl rfl rfl)) | refine cX ?_ | refine cY ?_ | (refine sA rfl rfl ?_; intro _) | refine sT rfl ?_ | refine sF rfl ?_ | (refine sR rfl ?_ ?_; focus omega) | (refine sB rfl rfl ?_; intro _) | (refine sN rfl rfl ?_ ?_; (focus (first | exact trivial | assumption | constructor <;> assumption | exact mb2 rfl rfl | exact mb4 rfl rfl rfl rfl)); intro _; (try simp only [List.cons_append, List.nil_append, List.append_nil])) | refine sW rfl rfl ?_ | refine sK rfl rfl ?_ | refine j_if rfl ?_ | refine j_else rfl ?_ | refine pkT rfl rfl rfl rfl ?_ | refine pkF rfl rfl rfl rfl ?_)
      exact jx_ret_tmp rfl rfl (fun w hw => ret_ok hw)
end Go.Vt
/- The card of SimplifyBuilds. Conditions: none. -/
set_option linter.unusedSimpArgs false
set_option linter.unusedVariables false
namespace Go.Proofs.YtgcjapcminakdaaGreatDoor
open Go.ChangeShapes Go.WideShapes Go.ChangeAt Go.RowKit Go.Deep
set_option maxRecDepth 100000
def bArgs : Array Value := #[.slice none 0 0, .slice none 0 0, .agg #[.int .u8 0, .int .u8 0]]
theorem bunder58 : Tryz.prog.underlying 58 = some (.array 2 5) := by kernel_rfl
theorem trod_pair {H : Type} {enc : TypeId × Value → H} {P : Program} {W : World} {base fuel : Nat} {sp : Nat → Bool} {held : Bool} {t e : TypeId} {a b : Value} {x : DataW H × List MemPlace} (ht : P.underlying t = some (.array 2 e)) (hc : P.cellsOf e = 1) (h : DataW.trod enc P W base sp held fuel t [a, b] = some x) :
    ∃ y z k, DataW.trod enc P W base sp held k e [a] = some y ∧ DataW.trod enc P W base sp held k e [b] = some z := by
  match fuel with
  | 0 => simp [DataW.trod] at h
  | k + 1 =>
    unfold DataW.trod at h
    rw [ht] at h
    simp [show List.range 2 = [0, 1] from rfl, hc] at h
    obtain ⟨-, h⟩ := h
    rcases ha : DataW.trod enc P W base sp held k e [a] with _ | y
    · simp [ha] at h
    · rcases hb : DataW.trod enc P W base sp held k e [b] with _ | z
      · simp [ha, hb] at h
      · exact ⟨y, z, k, ha, hb⟩
theorem open_two {H : Type} {enc : TypeId × Value → H} {W : World} {base b0 : Nat} {r : Reach} {held : Bool} {v : Value} {d : DataW H} {p : List MemPlace} (hv : Value.okWide Tryz.prog W r b0 58 v) (h : DataW.Trod enc Tryz.prog W base (fun _ => true) held 58 v d p) :
    ∃ a1 a2 : Int, v = .agg (Go.Vt.e2B a1 a2) ∧ (0 ≤ a1 ∧ a1 ≤ 255) ∧ (0 ≤ a2 ∧ a2 ≤ 255) := by
  simp only [Value.okWide, bunder58] at hv
  obtain ⟨cs, rfl, hs, _⟩ := hv
  have h3 : cs.size = 2 := by rw [hs]; kernel_rfl
  obtain ⟨fuel, hf⟩ := h
  match cs, h3 with
  | ⟨[c0, c1]⟩, _ =>
    simp only [Value.cells] at hf
    obtain ⟨y0, y1, n, g0, g1⟩ := trod_pair bunder58 (by kernel_rfl) hf
    obtain ⟨n0, p0, _, q0⟩ := DataW.trod_int Tryz.underlying5 g0
    obtain ⟨n1, p1, _, q1⟩ := DataW.trod_int Tryz.underlying5 g1
    simp only [List.cons.injEq, and_true] at p0 p1
    subst p0; subst p1
    exact ⟨n0, n1, rfl, u8_wf q0, u8_wf q1⟩
theorem builds_reads (os : Os) {H : Type} (enc : TypeId × Value → H) : ∃ places, DataW.whole enc Tryz.prog ((laidWorld os).forCall (fun _ _ => 0) ⟨#[], bArgs, []⟩).memory Tryz.f4.params.toList Rows.simplifyBuildsSpec.vars false bArgs.toList 8 = some ([.nil, .nil, .agg [.lit (.int .u8 0), .lit (.int .u8 0)]], [], places) :=
  ⟨[], by kernel_rfl⟩
theorem builds_contract (H : Type) (enc : TypeId × Value → H) (W : World) (base : Nat) (args : Array Value) (ds gs : List (DataW H)) (before : List MemPlace)
    (hval : ∀ (j : Nat) t v, Tryz.f4.params[j]? = some t → args[j]? = some v → Value.okWide Tryz.prog W .any base t v)
    (hW : DataW.Whole enc Tryz.prog Tryz.f4.params.toList Rows.simplifyBuildsSpec.vars false W args.toList ds gs before) :
    Calls Tryz.prog 4 args W fun e W' => ∃ v, e = .returned v ∧ Rows.simplifyBuildsSpec.post enc Tryz.prog Tryz.f4 false true false false W args v W' := by
  have hW' := hW
  obtain ⟨p, q, hA0, hV, rfl, hfz, hnd⟩ := hW
  have hA : DataW.TrodAll enc Tryz.prog W 0 (fun _ => true) true Tryz.f4.params.toList args.toList ds p := hA0
  rw [Tryz.params4] at hA hval
  obtain ⟨v0, vs0, d0, ds0, p0, q0, hargs, rfl, rfl, h0, r0⟩ := trodAll_cons hA
  obtain ⟨v1, vs1, d1, ds1, p1, q1, hargs1, rfl, rfl, h1, r1⟩ := trodAll_cons r0
  obtain ⟨v2, vs2, d2, ds2, p2, q2, hargs2, rfl, rfl, h2, r2⟩ := trodAll_cons r1
  subst hargs2
  subst hargs1
  obtain ⟨rfl, rfl, rfl⟩ := trodAll_nil r2
  obtain rfl : args = #[v0, v1, v2] := by cases args; simp_all
  obtain ⟨rfl, rfl⟩ := trodVars_none hV
  clear hA0
  simp only [List.append_nil] at hW'
  have hlt : ∀ x ∈ p0 ++ (p1 ++ p2), x.block < W.heap.size := fun x hx => by simpa using hW'.lt x hx
  obtain ⟨a1, a2, rfl, g1, g2⟩ := open_two (hval 2 58 v2 rfl rfl) h2
  have h0k := h0
  have h1k := h1
  have h2k := h2
  obtain ⟨fuel, hf⟩ := h0
  obtain ⟨fuel1, hf1⟩ := h1
  obtain ⟨ws, hws, hok, hlen⟩ := open_way (okWide_slice Tryz.underlying23 (hval 0 23 v0 rfl rfl)) hf
  obtain ⟨ws1, hws1, hok1, hlen1⟩ := open_way (okWide_slice Tryz.underlying23 (hval 1 23 v1 rfl rfl)) hf1
  refine (Go.Vt.builds_spec v0 v1 ws ws1 a1 a2 g1 g2 hok hok1 W hws hws1 hlen hlen1).mono fun e' W' ⟨he', hb⟩ => ?_
  subst he'
  exact ⟨_, rfl, ⟨_, _, _, [], _, [], hW', trodAll_mk1 (shut_bool Tryz.underlying4 _), trodAll_mk3 (Below.trod rlaidOut (by kernel_rfl) (of_decide_eq_true (by kernel_rfl)) h0k hb (fun x hx => hlt x (List.mem_append_left _ hx))) (Below.trod rlaidOut (by kernel_rfl) (of_decide_eq_true (by kernel_rfl)) h1k hb (fun x hx => hlt x (List.mem_append_right _ (List.mem_append_left _ hx)))) (Below.trod rlaidOut (by kernel_rfl) (of_decide_eq_true (by kernel_rfl)) h2k hb (fun x hx => hlt x (List.mem_append_right _ (List.mem_append_right _ hx)))), (by first | rfl | (simp; done)), hb.frame _, fun h => by cases h⟩⟩
theorem builds_lifted (os : Os) (started : os.Started) (H : Type) (enc : TypeId × Value → H) (F : Stop.Interp) :
    ReturnsInHanded {} Tryz.checked os 4 .any ((OpenSpec.ofChange Rows.simplifyBuildsSpec).preRow enc Tryz.prog Tryz.f4 Rows.simplifyBuildsRow.domain false Rows.simplifyBuildsRow.laid) (((OpenSpec.ofChange Rows.simplifyBuildsSpec).at F).post enc Tryz.prog Tryz.f4 false true false false) := by
  obtain ⟨places, hx⟩ := builds_reads os enc
  refine returnsInHanded_of_row (C := Tryz.checked) (s := OpenSpec.ofChange Rows.simplifyBuildsSpec) rown started (by kernel_rfl) Tryz.func4
    (witness_row_at (enc := enc) (C := Tryz.checked) false (laidWorld os) bArgs rfl (by kernel_rfl) (by kernel_rfl) (by kernel_rfl)
      (OpenSpec.preRow_of_cond 8 hx (by kernel_rfl) (fun k hk => by cases hk) (by kernel_rfl) (laid_met os _))) ?_
  intro W base args ds gs before hval hW _ _ _ _ _ _
  exact builds_contract H enc W base args ds gs before hval hW
theorem builds_said : Rows.SimplifyBuildsSaid :=
  OpenClaim.holds_of_cond 4 Tryz.f4 rfl rfl rfl rfl rfl rfl rfl ⟨rfl, rfl, rfl, rfl, rfl⟩ rfl rfl rfl rfl rfl (by kernel_rfl) Tryz.func4 (by kernel_rfl)
    (of_decide_eq_true (by kernel_rfl)) (by unfold Func.isWrapper; first | (rw [if_pos (by decide +kernel)]; kernel_rfl) | (rw [if_neg (by decide +kernel)]; exact ⟨rfl, rfl⟩))
    (fun os started H enc _ F => by rw [OpenClaim.pre_eq_preRow]; exact builds_lifted os started H enc F)
theorem builds_plain (f : FuncId) (fn : Func) (hf : Tryz.pinned.checked.prog.funcNamed "viator/viatorlaw31.SimplifyBuilds" = some f) (hfn : Tryz.pinned.checked.prog.funcs[f]? = some fn) :
    false = Tryz.pinned.checked.prog.looks [] ∧ ∀ (j : Nat) t, fn.params[j]? = some t → Tryz.pinned.checked.prog.wantsStandIn t = false := by
  obtain rfl : f = 4 := Option.some.inj ((show Tryz.prog.funcNamed "viator/viatorlaw31.SimplifyBuilds" = some 4 by kernel_rfl).symm.trans hf) |>.symm
  obtain rfl : fn = Tryz.f4 := (Option.some.inj (Tryz.func4.symm.trans hfn)).symm
  refine ⟨by kernel_rfl, fun j t ht => ?_⟩
  rw [Tryz.params4] at ht
  have := Array.mem_of_getElem? ht
  simp at this
  rcases this with rfl | rfl
  · exact (show Tryz.prog.wantsStandIn 23 = false by kernel_rfl)
  · exact (show Tryz.prog.wantsStandIn 58 = false by kernel_rfl)
/-- The card. -/
theorem simplifyBuilds_card : Rows.SimplifyBuildsCardSaid :=
  Claim7.holds_tied_plain_at .later [] _ _ _ _ builds_said (fun _ h => by cases h) (by kernel_rfl) (fun _ h => by cases h) simplifyBuilds_row_tie rfl ⟨rfl, rfl⟩ (by kernel_rfl) rfl builds_plain (by kernel_rfl)
end Go.Proofs.YtgcjapcminakdaaGreatDoor
