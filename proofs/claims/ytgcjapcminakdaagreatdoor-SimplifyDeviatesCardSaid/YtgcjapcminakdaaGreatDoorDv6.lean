/- SimplifyDeviates returns true for every input, what it calls, and what that computes. (part 6 of 6.) Conditions: those that each statement names. -/
import Derived.Test.YtgcjapcminakdaaGreatDoorDv5
/- The moving point through samples, walked. Conditions: those that each statement names. -/
set_option linter.unusedSimpArgs false
set_option linter.unusedVariables false
set_option maxRecDepth 100000
namespace Go.Vt
open Go.RowKit Go.Proofs
abbrev SS := R_movingpoint_Sample
class SumC (f g : Nat) (h : outParam Nat) : Prop where out : f + g = h
instance : SumC 4 4 8 := ⟨rfl⟩
instance : SumC 4 0 4 := ⟨rfl⟩
instance ys_rowFF {P : Program} {w0 : World} {n : Nat} {L : List Blk} {E : Env} {v : Value} {x : Operand} {T T0 : TypeId} {α : Type} [Inhabited α] {enc : α → Array Value} {k b f g s : Nat} {xs : List α} {sp : List Value} {i : Int} [IsC (evl E x) (.pointer (some ⟨b, 0 + i.toNat * k + f + g, none⟩))] [hs : SumC f g s] [h : AtC w0 L b (row enc xs sp) T0] [EncC enc k] [hv : LdC P T (enc (gi xs i)) s v] : YsC P w0 n L E (.load T x) v (i.toNat < xs.length) := ⟨fun hi _ _ _ _ _ => yl_loadA isE h.out (by
  have h1 := ldv_row (P := P) (T := T) (v := v) (enc := enc) (k := k) (sp := sp) (f := s) hi (by rw [← gi_eq hi]; exact hv.out)
  rw [Nat.add_assoc, hs.out, Nat.zero_add]
  exact h1)⟩
/-- The unit between two neighbours. -/
def sgU (pts : List SS) (i : Nat) : PU := ⟨⟨⟨(gi pts (i : Int)).T, 0, false⟩, ⟨(gi pts ((i + 1 : Nat) : Int)).T, 0, false⟩, decide ((1 : Int) < ((i + 1 : Nat) : Int)), false⟩, stl (gi pts (i : Int)) (gi pts ((i + 1 : Nat) : Int))⟩
def sgs (pts : List SS) : Nat → List PU
  | 0 => []
  | m + 1 => sgs pts m ++ [sgU pts m]
theorem sgs_len (pts : List SS) : ∀ m, (sgs pts m).length = m
  | 0 => rfl
  | m + 1 => by rw [sgs, List.length_append, sgs_len pts m]; rfl
theorem sgs_mem (pts : List SS) {u : PU} : ∀ m, u ∈ sgs pts m → ∃ i, i < m ∧ u = sgU pts i
  | 0, h => by cases h
  | m + 1, h => by
    rw [sgs] at h
    rcases List.mem_append.1 h with h1 | h1
    · obtain ⟨i, h3, h4⟩ := sgs_mem pts m h1
      exact ⟨i, by omega, h4⟩
    · rw [List.mem_singleton] at h1
      exact ⟨m, by omega, h1⟩
def one1 (p : SS) : PU := ⟨⟨⟨p.T, 0, false⟩, ⟨p.T, 0, false⟩, false, false⟩, ⟨p.P.X, 0, p.P.Y, 0⟩⟩
def frS (pts : List SS) : List PU := if pts.length = 1 then [one1 (gi pts 0)] else mNorm (sgs pts (pts.length - 1))
def frE (pts : List SS) : Int := if pts.length = 1 then 0 else nrmE (mpN toU (sgs pts (pts.length - 1)) (sgs pts (pts.length - 1)).length)
theorem mpN_mem {α β : Type} [Inhabited α] {f : α → β} {xs : List α} {y : β} : ∀ m, m ≤ xs.length → y ∈ mpN f xs m → ∃ x ∈ xs, y = f x
  | 0, _, h => by cases h
  | m + 1, hm, h => by
    rw [mpN] at h
    rcases List.mem_append.1 h with h1 | h1
    · exact mpN_mem m (by omega) h1
    · rw [List.mem_singleton] at h1
      exact ⟨_, gi_mem (by omega), h1⟩
theorem sgU_in {pts : List SS} (hB : Bnd pts) (i : Nat) : UIn (toU (sgU pts i)) := by
  obtain ⟨h1, h2, h3⟩ := hB (i : Int)
  obtain ⟨h4, h5, h6⟩ := hB ((i + 1 : Nat) : Int)
  have := MB.mk h1
  have := MB.mk h2
  have := MB.mk h3
  have := MB.mk h4
  have := MB.mk h5
  have := MB.mk h6
  exact ⟨⟨rfl, rfl, rfl, rfl, Nat.le_trans h1 (by decide), Nat.le_trans h4 (by decide)⟩, ⟨MB.lt (q := (stl (gi pts (i : Int)) (gi pts ((i + 1 : Nat) : Int))).X0) rfl, MB.lt (q := (stl (gi pts (i : Int)) (gi pts ((i + 1 : Nat) : Int))).X1) rfl, MB.lt (q := (stl (gi pts (i : Int)) (gi pts ((i + 1 : Nat) : Int))).Y0) rfl, MB.lt (q := (stl (gi pts (i : Int)) (gi pts ((i + 1 : Nat) : Int))).Y1) rfl⟩⟩
theorem sgs_in {pts : List SS} (hB : Bnd pts) (m : Nat) : ∀ u ∈ mpN toU (sgs pts m) (sgs pts m).length, UIn u := fun u hu => by
  obtain ⟨x, hx, rfl⟩ := mpN_mem _ (Nat.le_refl _) hu
  obtain ⟨i, -, rfl⟩ := sgs_mem pts m hx
  exact sgU_in hB i
set_option maxHeartbeats 1000000 in
theorem fromS_spec (b n c : Nat) (pts : List SS) (sp : List Value) (T : TypeId) (hn : pts.length = n) (h1 : 1 ≤ n) (h19 : n ≤ 19) (hB : Bnd pts) (hinc : ∀ i : Nat, i + 1 < n → (gi pts (i : Int)).T < (gi pts ((i + 1 : Nat) : Int)).T) (w : World) (hw : ∃ fz, w.heap[b]? = some (.cells (row rS pts sp) T fz)) :
    Calls Tryz.prog 13 [.slice (some ⟨b, 0, none⟩) n c].toArray w (RetM (SlS rP 36 (frS pts)) (fun s => .tuple #[vSl s, .int .i64 (frE pts)]) (fun s => mS 68 s) w) := by
  have := FoC.mk hw
  have hBd : ∀ i : Int, M (gi pts i).T ≤ LQ ∧ M (gi pts i).P.X ≤ LQ ∧ M (gi pts i).P.Y ≤ LQ := fun i => by
    obtain ⟨h1, h2, h3⟩ := hB i
    exact ⟨Nat.le_trans h1 (by decide), Nat.le_trans h2 (by decide), Nat.le_trans h3 (by decide)⟩
  refine fn_intro Tryz.func13 rfl Tryz.ntmps13 rfl ?_
  repeat (first | refine sX rfl rfl ?_ | (refine sS rfl rfl ?_ ?_; focus omega) | (refine sC rfl rfl ?_ ?_; focus (first | exact trivial | assumption | exact ⟨by assumption, by assumption⟩ | exact mb2 rfl rfl | exact mb4 rfl rfl rfl rfl)) | refine cX ?_ | refine cY ?_ | (refine sA rfl rfl ?_; intro _) | refine sT rfl ?_ | refine sF rfl ?_ | (refine sR rfl ?_ ?_; focus omega) | (refine sB rfl rfl ?_; intro _) | (refine sN rfl rfl ?_ ?_; (focus (first | exact trivial | assumption | exact ⟨by assumption, by assumption⟩ | exact mb2 rfl rfl | exact mb4 rfl rfl rfl rfl)); intro _; (try simp only [List.cons_append, List.nil_append, List.append_nil])) | refine sW rfl rfl ?_ | refine sK rfl rfl ?_ | refine j_if rfl ?_ | refine j_else rfl ?_ | refine Go.Vt.jq (wl_pickT rfl rfl) rfl rfl ?_ | refine Go.Vt.jq (wl_pickF rfl rfl) rfl rfl ?_)
  simp only [decide_eq_false (show ¬ (256 : Int) < (n : Int) by omega)]
  repeat (first | refine sX rfl rfl ?_ | (refine sS rfl rfl ?_ ?_; focus omega) | (refine sC rfl rfl ?_ ?_; focus (first | exact trivial | assumption | exact ⟨by assumption, by assumption⟩ | exact mb2 rfl rfl | exact mb4 rfl rfl rfl rfl)) | refine cX ?_ | refine cY ?_ | (refine sA rfl rfl ?_; intro _) | refine sT rfl ?_ | refine sF rfl ?_ | (refine sR rfl ?_ ?_; focus omega) | (refine sB rfl rfl ?_; intro _) | (refine sN rfl rfl ?_ ?_; (focus (first | exact trivial | assumption | exact ⟨by assumption, by assumption⟩ | exact mb2 rfl rfl | exact mb4 rfl rfl rfl rfl)); intro _; (try simp only [List.cons_append, List.nil_append, List.append_nil])) | refine sW rfl rfl ?_ | refine sK rfl rfl ?_ | refine j_if rfl ?_ | refine j_else rfl ?_ | refine Go.Vt.jq (wl_pickT rfl rfl) rfl rfl ?_ | refine Go.Vt.jq (wl_pickF rfl rfl) rfl rfl ?_)
  refine j_loop (S := Nat) (fun m => m ≤ n) (fun m => [(0, .slice (some ⟨b, 0, none⟩) n c), (3, .int .i64 0), (20, .slice (some ⟨b, 0, none⟩) n c), (21, .int .i64 n), (22, .int .i64 (m : Nat))]) (fun _ => []) (fun m => n - m) 0 (Nat.zero_le _) (by repeat (first | exact sub_nil | refine sub_cons rfl ?_ | refine sub_cons' rfl (by congr 1; omega) ?_)) (by repeat (first | exact List.Sublist.refl _ | exact List.nil_sublist _ | refine List.Sublist.cons_cons _ ?_ | refine List.Sublist.cons _ ?_)) (fun m hm => ?_)
  repeat (first | refine sX rfl rfl ?_ | (refine sS rfl rfl ?_ ?_; focus omega) | (refine sC rfl rfl ?_ ?_; focus (first | exact trivial | assumption | exact ⟨by assumption, by assumption⟩ | exact mb2 rfl rfl | exact mb4 rfl rfl rfl rfl)) | refine cX ?_ | refine cY ?_ | (refine sA rfl rfl ?_; intro _) | refine sT rfl ?_ | refine sF rfl ?_ | (refine sR rfl ?_ ?_; focus omega) | (refine sB rfl rfl ?_; intro _) | (refine sN rfl rfl ?_ ?_; (focus (first | exact trivial | assumption | exact ⟨by assumption, by assumption⟩ | exact mb2 rfl rfl | exact mb4 rfl rfl rfl rfl)); intro _; (try simp only [List.cons_append, List.nil_append, List.append_nil])) | refine sW rfl rfl ?_ | refine sK rfl rfl ?_ | refine j_if rfl ?_ | refine j_else rfl ?_ | refine Go.Vt.jq (wl_pickT rfl rfl) rfl rfl ?_ | refine Go.Vt.jq (wl_pickF rfl rfl) rfl rfl ?_)
  refine j_cond rfl (fun h => ?_) (fun h => ?_)
  · have hlt : m < n := by have := of_decide_eq_true h; omega
    repeat (first | refine sX rfl rfl ?_ | (refine sS rfl rfl ?_ ?_; focus omega) | (refine sC rfl rfl ?_ ?_; focus (first | exact (hBd _).1 | exact (hBd _).2.1 | exact (hBd _).2.2 | exact ⟨by omega, by omega⟩)) | refine cX ?_ | refine cY ?_ | (refine sA rfl rfl ?_; intro _) | refine sT rfl ?_ | refine sF rfl ?_ | (refine sR rfl ?_ ?_; focus omega) | (refine sB rfl rfl ?_; intro _) | (refine sN rfl rfl ?_ ?_; (focus (first | exact (hBd _).1 | exact (hBd _).2.1 | exact (hBd _).2.2 | exact ⟨by omega, by omega⟩)); intro _; (try simp only [List.cons_append, List.nil_append, List.append_nil])) | refine sW rfl rfl ?_ | refine sK rfl rfl ?_ | refine j_if rfl ?_ | refine j_else rfl ?_ | refine Go.Vt.jq (wl_pickT rfl rfl) rfl rfl ?_ | refine Go.Vt.jq (wl_pickF rfl rfl) rfl rfl ?_)
    exact jx_loop (m + 1) hlt (by repeat (first | exact sub_nil | refine sub_cons rfl ?_ | refine sub_cons' rfl (by congr 1; omega) ?_)) (by repeat (first | exact List.Sublist.refl _ | exact List.nil_sublist _ | refine List.Sublist.cons_cons _ ?_ | refine List.Sublist.cons _ ?_)) (by omega)
  · have hge : m = n := by have := of_decide_eq_false h; omega
    subst hge
    repeat (first | refine sX rfl rfl ?_ | (refine sS rfl rfl ?_ ?_; focus omega) | (refine sC rfl rfl ?_ ?_; focus (first | exact trivial | assumption | exact ⟨by assumption, by assumption⟩ | exact mb2 rfl rfl | exact mb4 rfl rfl rfl rfl)) | refine cX ?_ | refine cY ?_ | (refine sA rfl rfl ?_; intro _) | refine sT rfl ?_ | refine sF rfl ?_ | (refine sR rfl ?_ ?_; focus omega) | (refine sB rfl rfl ?_; intro _) | (refine sN rfl rfl ?_ ?_; (focus (first | exact trivial | assumption | exact ⟨by assumption, by assumption⟩ | exact mb2 rfl rfl | exact mb4 rfl rfl rfl rfl)); intro _; (try simp only [List.cons_append, List.nil_append, List.append_nil])) | refine sW rfl rfl ?_ | refine sK rfl rfl ?_ | refine j_if rfl ?_ | refine j_else rfl ?_ | refine Go.Vt.jq (wl_pickT rfl rfl) rfl rfl ?_ | refine Go.Vt.jq (wl_pickF rfl rfl) rfl rfl ?_)
    refine j_loop (S := Nat) (fun k => k ≤ m) (fun k => [(0, .slice (some ⟨b, 0, none⟩) m c), (3, .int .i64 0), (45, .slice (some ⟨b, 0, none⟩) m c), (46, .int .i64 m), (47, .int .i64 (k : Nat))]) (fun _ => []) (fun k => m - k) 0 (Nat.zero_le _) (by repeat (first | exact sub_nil | refine sub_cons rfl ?_ | refine sub_cons' rfl (by congr 1; omega) ?_)) (by repeat (first | exact List.Sublist.refl _ | exact List.nil_sublist _ | refine List.Sublist.cons_cons _ ?_ | refine List.Sublist.cons _ ?_)) (fun k hk => ?_)
    repeat (first | refine sX rfl rfl ?_ | (refine sS rfl rfl ?_ ?_; focus omega) | (refine sC rfl rfl ?_ ?_; focus (first | exact trivial | assumption | exact ⟨by assumption, by assumption⟩ | exact mb2 rfl rfl | exact mb4 rfl rfl rfl rfl)) | refine cX ?_ | refine cY ?_ | (refine sA rfl rfl ?_; intro _) | refine sT rfl ?_ | refine sF rfl ?_ | (refine sR rfl ?_ ?_; focus omega) | (refine sB rfl rfl ?_; intro _) | (refine sN rfl rfl ?_ ?_; (focus (first | exact trivial | assumption | exact ⟨by assumption, by assumption⟩ | exact mb2 rfl rfl | exact mb4 rfl rfl rfl rfl)); intro _; (try simp only [List.cons_append, List.nil_append, List.append_nil])) | refine sW rfl rfl ?_ | refine sK rfl rfl ?_ | refine j_if rfl ?_ | refine j_else rfl ?_ | refine Go.Vt.jq (wl_pickT rfl rfl) rfl rfl ?_ | refine Go.Vt.jq (wl_pickF rfl rfl) rfl rfl ?_)
    refine j_cond rfl (fun h => ?_) (fun h => ?_)
    · have hlt : k < m := by have := of_decide_eq_true h; omega
      repeat (first | refine sX rfl rfl ?_ | (refine sS rfl rfl ?_ ?_; focus omega) | (refine sC rfl rfl ?_ ?_; focus (first | exact trivial | assumption | exact ⟨by assumption, by assumption⟩ | exact mb2 rfl rfl | exact mb4 rfl rfl rfl rfl)) | refine cX ?_ | refine cY ?_ | (refine sA rfl rfl ?_; intro _) | refine sT rfl ?_ | refine sF rfl ?_ | (refine sR rfl ?_ ?_; focus omega) | (refine sB rfl rfl ?_; intro _) | (refine sN rfl rfl ?_ ?_; (focus (first | exact trivial | assumption | exact ⟨by assumption, by assumption⟩ | exact mb2 rfl rfl | exact mb4 rfl rfl rfl rfl)); intro _; (try simp only [List.cons_append, List.nil_append, List.append_nil])) | refine sW rfl rfl ?_ | refine sK rfl rfl ?_ | refine j_if rfl ?_ | refine j_else rfl ?_ | refine Go.Vt.jq (wl_pickT rfl rfl) rfl rfl ?_ | refine Go.Vt.jq (wl_pickF rfl rfl) rfl rfl ?_)
      rcases k with _ | k
      · (refine jD 17 17 mixed (by kernel_rfl) ?_; (repeat (first | refine tX rfl rfl ?_ | (refine tS rfl rfl ?_ ?_; focus omega) | (refine tC rfl rfl ?_ ?_; focus (first | exact trivial | assumption | exact ⟨by assumption, by assumption⟩ | exact mb2 rfl rfl | exact mb4 rfl rfl rfl rfl)) | refine tW rfl rfl ?_ | refine tK rfl rfl ?_ | refine Go.Vt.hq (wl_pickT rfl rfl) rfl rfl ?_ | refine Go.Vt.hq (wl_pickF rfl rfl) rfl rfl ?_)); refine jh_nil ?_; (repeat (refine wn_new ?_; intro _)); refine jn_nil ?_)
        repeat (first | refine sX rfl rfl ?_ | (refine sS rfl rfl ?_ ?_; focus omega) | (refine sC rfl rfl ?_ ?_; focus (exact ⟨by omega, by omega⟩)) | refine cX ?_ | refine cY ?_ | (refine sA rfl rfl ?_; intro _) | refine sT rfl ?_ | refine sF rfl ?_ | (refine sR rfl ?_ ?_; focus omega) | (refine sB rfl rfl ?_; intro _) | (refine sN rfl rfl ?_ ?_; (focus (exact ⟨by omega, by omega⟩)); intro _; (try simp only [List.cons_append, List.nil_append, List.append_nil])) | refine sW rfl rfl ?_ | refine sK rfl rfl ?_ | refine j_if rfl ?_ | refine j_else rfl ?_ | refine Go.Vt.jq (wl_pickT rfl rfl) rfl rfl ?_ | refine Go.Vt.jq (wl_pickF rfl rfl) rfl rfl ?_)
        exact jx_loop 1 hlt (by repeat (first | exact sub_nil | refine sub_cons rfl ?_ | refine sub_cons' rfl (by congr 1; omega) ?_)) (by repeat (first | exact List.Sublist.refl _ | exact List.nil_sublist _ | refine List.Sublist.cons_cons _ ?_ | refine List.Sublist.cons _ ?_)) (by omega)
      · have e1 : ((k + 1 : Nat) : Int) - 1 = (k : Int) := by omega
        refine jD 17 17 mixed (by kernel_rfl) ?_
        repeat (first | refine tX rfl rfl ?_ | (refine tS rfl rfl ?_ ?_; focus omega) | (refine tC rfl rfl ?_ ?_; focus (first | exact trivial | assumption | exact ⟨by assumption, by assumption⟩ | exact mb2 rfl rfl | exact mb4 rfl rfl rfl rfl)) | refine tW rfl rfl ?_ | refine tK rfl rfl ?_ | refine Go.Vt.hq (wl_pickT rfl rfl) rfl rfl ?_ | refine Go.Vt.hq (wl_pickF rfl rfl) rfl rfl ?_)
        simp only [decide_eq_true (show (0 : Int) < ((k + 1 : Nat) : Int) by omega), e1]
        repeat (first | refine tX rfl rfl ?_ | (refine tS rfl rfl ?_ ?_; focus omega) | (refine tC rfl rfl ?_ ?_; focus (first | exact trivial | assumption | exact ⟨by assumption, by assumption⟩ | exact mb2 rfl rfl | exact mb4 rfl rfl rfl rfl)) | refine tW rfl rfl ?_ | refine tK rfl rfl ?_ | refine Go.Vt.hq (wl_pickT rfl rfl) rfl rfl ?_ | refine Go.Vt.hq (wl_pickF rfl rfl) rfl rfl ?_)
        simp only [e1]
        repeat (first | refine tX rfl rfl ?_ | (refine tS rfl rfl ?_ ?_; focus omega) | (refine tC rfl rfl ?_ ?_; focus (exact ⟨(hBd _).1, (hBd _).1⟩)) | refine tW rfl rfl ?_ | refine tK rfl rfl ?_ | refine Go.Vt.hq (wl_pickT rfl rfl) rfl rfl ?_ | refine Go.Vt.hq (wl_pickF rfl rfl) rfl rfl ?_)
        refine jh_nil ?_
        refine jn_nil ?_
        have hcl : ¬ cq (gi pts ((k + 1 : Nat) : Int)).T (gi pts (k : Int)).T ≤ 0 := by
          rw [cq_le]
          have := hinc k hlt
          grind
        simp only [decide_eq_false hcl]
        repeat (first | refine sX rfl rfl ?_ | (refine sS rfl rfl ?_ ?_; focus omega) | (refine sC rfl rfl ?_ ?_; focus (exact ⟨by omega, by omega⟩)) | refine cX ?_ | refine cY ?_ | (refine sA rfl rfl ?_; intro _) | refine sT rfl ?_ | refine sF rfl ?_ | (refine sR rfl ?_ ?_; focus omega) | (refine sB rfl rfl ?_; intro _) | (refine sN rfl rfl ?_ ?_; (focus (exact ⟨by omega, by omega⟩)); intro _; (try simp only [List.cons_append, List.nil_append, List.append_nil])) | refine sW rfl rfl ?_ | refine sK rfl rfl ?_ | refine j_if rfl ?_ | refine j_else rfl ?_ | refine Go.Vt.jq (wl_pickT rfl rfl) rfl rfl ?_ | refine Go.Vt.jq (wl_pickF rfl rfl) rfl rfl ?_)
        exact jx_loop (k + 2) hlt (by repeat (first | exact sub_nil | refine sub_cons rfl ?_ | refine sub_cons' rfl (by congr 1; omega) ?_)) (by repeat (first | exact List.Sublist.refl _ | exact List.nil_sublist _ | refine List.Sublist.cons_cons _ ?_ | refine List.Sublist.cons _ ?_)) (by omega)
    · have hge : k = m := by have := of_decide_eq_false h; omega
      subst hge
      repeat (first | refine sX rfl rfl ?_ | (refine sS rfl rfl ?_ ?_; focus omega) | (refine sC rfl rfl ?_ ?_; focus (first | exact trivial | assumption | exact ⟨by assumption, by assumption⟩ | exact mb2 rfl rfl | exact mb4 rfl rfl rfl rfl)) | refine cX ?_ | refine cY ?_ | (refine sA rfl rfl ?_; intro _) | refine sT rfl ?_ | refine sF rfl ?_ | (refine sR rfl ?_ ?_; focus omega) | (refine sB rfl rfl ?_; intro _) | (refine sN rfl rfl ?_ ?_; (focus (first | exact trivial | assumption | exact ⟨by assumption, by assumption⟩ | exact mb2 rfl rfl | exact mb4 rfl rfl rfl rfl)); intro _; (try simp only [List.cons_append, List.nil_append, List.append_nil])) | refine sW rfl rfl ?_ | refine sK rfl rfl ?_ | refine j_if rfl ?_ | refine j_else rfl ?_ | refine Go.Vt.jq (wl_pickT rfl rfl) rfl rfl ?_ | refine Go.Vt.jq (wl_pickF rfl rfl) rfl rfl ?_)
      by_cases ho : k = 1
      · simp only [decide_eq_true (show (k : Int) = 1 by omega)]
        repeat (first | refine sX rfl rfl ?_ | (refine sS rfl rfl ?_ ?_; focus omega) | (refine sC rfl rfl ?_ ?_; focus (first | exact trivial | assumption | exact ⟨by assumption, by assumption⟩ | exact mb2 rfl rfl | exact mb4 rfl rfl rfl rfl)) | refine cX ?_ | refine cY ?_ | (refine sA rfl rfl ?_; intro _) | refine sT rfl ?_ | refine sF rfl ?_ | (refine sR rfl ?_ ?_; focus omega) | (refine sB rfl rfl ?_; intro _) | (refine sN rfl rfl ?_ ?_; (focus (first | exact trivial | assumption | exact ⟨by assumption, by assumption⟩ | exact mb2 rfl rfl | exact mb4 rfl rfl rfl rfl)); intro _; (try simp only [List.cons_append, List.nil_append, List.append_nil])) | refine sW rfl rfl ?_ | refine sK rfl rfl ?_ | refine j_if rfl ?_ | refine j_else rfl ?_ | refine Go.Vt.jq (wl_pickT rfl rfl) rfl rfl ?_ | refine Go.Vt.jq (wl_pickF rfl rfl) rfl rfl ?_)
        rename_i b7
        subst ho
        (refine j_late [0, 1, 2, 3, 4, 5, 6, 7, 8, 9, 10, 11, 12, 13, 14] [15, 16, 17] _ mixed (by kernel_rfl) (by decide) (List.Sublist.refl _) ?_; simp only [picks, List.getElem?_cons_succ, List.getElem?_cons_zero])
        repeat (first | refine tX rfl rfl ?_ | (refine tS rfl rfl ?_ ?_; focus omega) | (refine tC rfl rfl ?_ ?_; focus (first | exact trivial | assumption | exact ⟨by assumption, by assumption⟩ | exact mb2 rfl rfl | exact mb4 rfl rfl rfl rfl)) | refine tW rfl rfl ?_ | refine tK rfl rfl ?_ | refine Go.Vt.hq (wl_pickT rfl rfl) rfl rfl ?_ | refine Go.Vt.hq (wl_pickF rfl rfl) rfl rfl ?_)
        refine jh_nil ?_
        repeat (first | refine eS rfl rfl ?_ | refine uP rfl rfl rfl rfl ?_ | refine uQ rfl rfl rfl rfl ?_ | refine eX rfl rfl ?_ | (refine uS rfl rfl ?_ ?_; focus omega) | (refine uC rfl rfl ?_ ?_; focus (first | exact trivial | assumption | exact ⟨by assumption, by assumption⟩ | exact mb2 rfl rfl | exact mb4 rfl rfl rfl rfl)) | refine uW rfl rfl ?_ | refine eF rfl ?_ | refine eT rfl ?_ | (refine eA rfl rfl ?_; intro _) | (refine eB rfl rfl ?_; intro _) | (refine eN rfl rfl ?_ ?_; (focus (first | exact trivial | assumption | exact ⟨by assumption, by assumption⟩ | exact mb2 rfl rfl | exact mb4 rfl rfl rfl rfl)); intro _; (try simp only [List.cons_append, List.nil_append, List.append_nil])) | refine je_nil ?_ | refine tX rfl rfl ?_ | (refine tS rfl rfl ?_ ?_; focus omega) | (refine tC rfl rfl ?_ ?_; focus (first | exact trivial | assumption | exact ⟨by assumption, by assumption⟩ | exact mb2 rfl rfl | exact mb4 rfl rfl rfl rfl)) | refine tW rfl rfl ?_ | refine tK rfl rfl ?_ | refine Go.Vt.hq (wl_pickT rfl rfl) rfl rfl ?_ | refine Go.Vt.hq (wl_pickF rfl rfl) rfl rfl ?_ | refine jh_nil ?_ | (refine wn_new ?_; intro _) | refine jn_nil ?_)
        repeat (first | refine sX rfl rfl ?_ | (refine sS rfl rfl ?_ ?_; focus omega) | (refine sC rfl rfl ?_ ?_; focus (first | exact trivial | assumption | exact ⟨by assumption, by assumption⟩ | exact mb2 rfl rfl | exact mb4 rfl rfl rfl rfl)) | refine cX ?_ | refine cY ?_ | (refine sA rfl rfl ?_; intro _) | refine sT rfl ?_ | refine sF rfl ?_ | (refine sR rfl ?_ ?_; focus omega) | (refine sB rfl rfl ?_; intro _) | (refine sN rfl rfl ?_ ?_; (focus (first | exact trivial | assumption | exact ⟨by assumption, by assumption⟩ | exact mb2 rfl rfl | exact mb4 rfl rfl rfl rfl)); intro _; (try simp only [List.cons_append, List.nil_append, List.append_nil])) | refine sW rfl rfl ?_ | refine sK rfl rfl ?_ | refine j_if rfl ?_ | refine j_else rfl ?_ | refine Go.Vt.jq (wl_pickT rfl rfl) rfl rfl ?_ | refine Go.Vt.jq (wl_pickF rfl rfl) rfl rfl ?_)
        rename_i b8
        have e1 : frS pts = [one1 (gi pts 0)] := by unfold frS; rw [if_pos hn]
        have e2 : frE pts = 0 := by unfold frE; rw [if_pos hn]
        obtain ⟨s', hv', hm'⟩ := SlS.put (enc := rP) (k := 36) (b := b8) (sp := []) (c := 1) (ys := frS pts) 68 (by rw [e1]; rfl) ⟨Nat.le_refl _, rfl⟩ Nat.one_pos
        refine jx_ret_two (v1 := vSl s') (v2 := .int .i64 (frE pts)) rfl (resv_tmp (by rw [hv']; rfl)) (resv_tmp (by rw [e2]; rfl)) (fun w hw => ⟨s', rfl, ?_⟩)
        dsimp only
        rw [hm', e1]
        exact hw.sub (by repeat (first | exact List.Sublist.refl _ | exact List.nil_sublist _ | exact List.sublist_append_left _ _ | refine List.Sublist.append_left ?_ _ | refine List.Sublist.cons_cons _ ?_ | refine List.Sublist.cons _ ?_ | refine List.Sublist.trans ?_ (List.sublist_append_right _ _)))
      · simp only [decide_eq_false (show ¬ (k : Int) = 1 by omega)]
        repeat (first | refine sX rfl rfl ?_ | (refine sS rfl rfl ?_ ?_; focus omega) | (refine sC rfl rfl ?_ ?_; focus (first | exact trivial | assumption | exact ⟨by assumption, by assumption⟩ | exact mb2 rfl rfl | exact mb4 rfl rfl rfl rfl)) | refine cX ?_ | refine cY ?_ | (refine sA rfl rfl ?_; intro _) | refine sT rfl ?_ | refine sF rfl ?_ | (refine sR rfl ?_ ?_; focus omega) | (refine sB rfl rfl ?_; intro _) | (refine sN rfl rfl ?_ ?_; (focus (first | exact trivial | assumption | exact ⟨by assumption, by assumption⟩ | exact mb2 rfl rfl | exact mb4 rfl rfl rfl rfl)); intro _; (try simp only [List.cons_append, List.nil_append, List.append_nil])) | refine sW rfl rfl ?_ | refine sK rfl rfl ?_ | refine j_if rfl ?_ | refine j_else rfl ?_ | refine Go.Vt.jq (wl_pickT rfl rfl) rfl rfl ?_ | refine Go.Vt.jq (wl_pickF rfl rfl) rfl rfl ?_)
        refine j_loop (S := (m : Nat) × SlS rP 36 (sgs pts m)) (fun s => s.1 ≤ k - 1) (fun s => [(0, .slice (some ⟨b, 0, none⟩) k c), (8, vSl s.2), (9, .int .i64 ((s.1 + 1 : Nat)))]) (fun s => mS 68 s.2) (fun s => k - 1 - s.1) ⟨0, SlS.no⟩ (Nat.zero_le _) (by repeat (first | exact sub_nil | refine sub_cons rfl ?_ | refine sub_cons' rfl (by congr 1; omega) ?_)) (by repeat (first | exact List.Sublist.refl _ | exact List.nil_sublist _ | refine List.Sublist.cons_cons _ ?_ | refine List.Sublist.cons _ ?_)) (fun s hm => ?_)
        obtain ⟨m, s⟩ := s
        simp only at hm ⊢
        have hsl := sgs_len pts m
        repeat (first | refine sX rfl rfl ?_ | (refine sS rfl rfl ?_ ?_; focus omega) | (refine sC rfl rfl ?_ ?_; focus (first | exact trivial | assumption | exact ⟨by assumption, by assumption⟩ | exact mb2 rfl rfl | exact mb4 rfl rfl rfl rfl)) | refine cX ?_ | refine cY ?_ | (refine sA rfl rfl ?_; intro _) | refine sT rfl ?_ | refine sF rfl ?_ | (refine sR rfl ?_ ?_; focus omega) | (refine sB rfl rfl ?_; intro _) | (refine sN rfl rfl ?_ ?_; (focus (first | exact trivial | assumption | exact ⟨by assumption, by assumption⟩ | exact mb2 rfl rfl | exact mb4 rfl rfl rfl rfl)); intro _; (try simp only [List.cons_append, List.nil_append, List.append_nil])) | refine sW rfl rfl ?_ | refine sK rfl rfl ?_ | refine j_if rfl ?_ | refine j_else rfl ?_ | refine Go.Vt.jq (wl_pickT rfl rfl) rfl rfl ?_ | refine Go.Vt.jq (wl_pickF rfl rfl) rfl rfl ?_)
        refine j_cond rfl (fun h => ?_) (fun h => ?_)
        · have hlt : m + 1 < k := by have := of_decide_eq_true h; omega
          have e1 : ((m + 1 : Nat) : Int) - 1 = (m : Int) := by omega
          have hp : ∀ i : Int, M (gi pts i).T ≤ 34359738368 ∧ M (gi pts i).P.X ≤ 34359738368 ∧ M (gi pts i).P.Y ≤ 34359738368 := fun i => ⟨Nat.le_trans (hB i).1 (by decide), Nat.le_trans (hB i).2.1 (by decide), Nat.le_trans (hB i).2.2 (by decide)⟩
          repeat (first | refine sX rfl rfl ?_ | (refine sS rfl rfl ?_ ?_; focus omega) | (refine sC rfl rfl ?_ ?_; focus (first | exact trivial | assumption | exact ⟨by assumption, by assumption⟩ | exact mb2 rfl rfl | exact mb4 rfl rfl rfl rfl)) | refine cX ?_ | refine cY ?_ | (refine sA rfl rfl ?_; intro _) | refine sT rfl ?_ | refine sF rfl ?_ | (refine sR rfl ?_ ?_; focus omega) | (refine sB rfl rfl ?_; intro _) | (refine sN rfl rfl ?_ ?_; (focus (first | exact trivial | assumption | exact ⟨by assumption, by assumption⟩ | exact mb2 rfl rfl | exact mb4 rfl rfl rfl rfl)); intro _; (try simp only [List.cons_append, List.nil_append, List.append_nil])) | refine sW rfl rfl ?_ | refine sK rfl rfl ?_ | refine j_if rfl ?_ | refine j_else rfl ?_ | refine Go.Vt.jq (wl_pickT rfl rfl) rfl rfl ?_ | refine Go.Vt.jq (wl_pickF rfl rfl) rfl rfl ?_)
          (refine j_drawL [0, 1, 2, 3, 4, 5, 6, 7, 8] [9, 10] [11, 12] ([]) mixed (by kernel_rfl) (by repeat (first | exact List.Sublist.refl _ | exact List.nil_sublist _ | refine List.Sublist.cons_cons _ ?_ | refine List.Sublist.cons _ ?_ | refine List.Sublist.trans ?_ (List.sublist_append_right _ _))) ?_; simp only [picks, List.getElem?_cons_succ, List.getElem?_cons_zero])
          repeat (first | refine tX rfl rfl ?_ | (refine tS rfl rfl ?_ ?_; focus omega) | (refine tC rfl rfl ?_ ?_; focus (first | exact trivial | assumption | exact ⟨by assumption, by assumption⟩ | exact mb2 rfl rfl | exact mb4 rfl rfl rfl rfl)) | refine tW rfl rfl ?_ | refine tK rfl rfl ?_ | refine Go.Vt.hq (wl_pickT rfl rfl) rfl rfl ?_ | refine Go.Vt.hq (wl_pickF rfl rfl) rfl rfl ?_)
          simp only [e1]
          repeat (first | refine eS rfl rfl ?_ | refine uP rfl rfl rfl rfl ?_ | refine uQ rfl rfl rfl rfl ?_ | refine eX rfl rfl ?_ | (refine uS rfl rfl ?_ ?_; focus omega) | (refine uC rfl rfl ?_ ?_; focus (first | exact trivial | assumption | exact ⟨by assumption, by assumption⟩ | exact mb2 rfl rfl | exact mb4 rfl rfl rfl rfl)) | refine uW rfl rfl ?_ | refine eF rfl ?_ | refine eT rfl ?_ | (refine eA rfl rfl ?_; intro _) | (refine eB rfl rfl ?_; intro _) | (refine eN rfl rfl ?_ ?_; (focus (first | exact trivial | assumption | exact ⟨by assumption, by assumption⟩ | exact mb2 rfl rfl | exact mb4 rfl rfl rfl rfl)); intro _; (try simp only [List.cons_append, List.nil_append, List.append_nil])) | refine je_nil ?_ | refine tX rfl rfl ?_ | (refine tS rfl rfl ?_ ?_; focus omega) | (refine tC rfl rfl ?_ ?_; focus (first | exact trivial | assumption | exact ⟨by assumption, by assumption⟩ | exact mb2 rfl rfl | exact mb4 rfl rfl rfl rfl)) | refine tW rfl rfl ?_ | refine tK rfl rfl ?_ | refine Go.Vt.hq (wl_pickT rfl rfl) rfl rfl ?_ | refine Go.Vt.hq (wl_pickF rfl rfl) rfl rfl ?_ | refine jh_nil ?_ | (refine wn_new ?_; intro _) | refine jn_nil ?_)
          repeat (first | refine sX rfl rfl ?_ | (refine sS rfl rfl ?_ ?_; focus omega) | (refine sC rfl rfl ?_ ?_; focus (first | exact ⟨(hp _).1, (hp _).2.1, (hp _).1, (hp _).2.1⟩ | exact ⟨(hp _).1, (hp _).2.2, (hp _).1, (hp _).2.2⟩)) | refine cX ?_ | refine cY ?_ | (refine sA rfl rfl ?_; intro _) | refine sT rfl ?_ | refine sF rfl ?_ | (refine sR rfl ?_ ?_; focus omega) | (refine sB rfl rfl ?_; intro _) | (refine sN rfl rfl ?_ ?_; (focus (first | exact ⟨(hp _).1, (hp _).2.1, (hp _).1, (hp _).2.1⟩ | exact ⟨(hp _).1, (hp _).2.2, (hp _).1, (hp _).2.2⟩)); intro _; (try simp only [List.cons_append, List.nil_append, List.append_nil])) | refine sW rfl rfl ?_ | refine sK rfl rfl ?_ | refine j_if rfl ?_ | refine j_else rfl ?_ | refine Go.Vt.jq (wl_pickT rfl rfl) rfl rfl ?_ | refine Go.Vt.jq (wl_pickF rfl rfl) rfl rfl ?_)
          refine jD 9 10 mixed (by kernel_rfl) ?_
          repeat (first | refine tX rfl rfl ?_ | (refine tS rfl rfl ?_ ?_; focus omega) | (refine tC rfl rfl ?_ ?_; focus (first | exact trivial | assumption | exact ⟨by assumption, by assumption⟩ | exact mb2 rfl rfl | exact mb4 rfl rfl rfl rfl)) | refine tW rfl rfl ?_ | refine tK rfl rfl ?_ | refine Go.Vt.hq (wl_pickT rfl rfl) rfl rfl ?_ | refine Go.Vt.hq (wl_pickF rfl rfl) rfl rfl ?_)
          refine jh_nil ?_
          (repeat (refine wn_new ?_; intro _))
          refine jn_nil ?_
          repeat (first | refine sX rfl rfl ?_ | (refine sS rfl rfl ?_ ?_; focus omega) | (refine sC rfl rfl ?_ ?_; focus (first | exact trivial | assumption | exact ⟨by assumption, by assumption⟩ | exact mb2 rfl rfl | exact mb4 rfl rfl rfl rfl)) | refine cX ?_ | refine cY ?_ | (refine sA rfl rfl ?_; intro _) | refine sT rfl ?_ | refine sF rfl ?_ | (refine sR rfl ?_ ?_; focus omega) | (refine sB rfl rfl ?_; intro _) | (refine sN rfl rfl ?_ ?_; (focus (first | exact trivial | assumption | exact ⟨by assumption, by assumption⟩ | exact mb2 rfl rfl | exact mb4 rfl rfl rfl rfl)); intro _; (try simp only [List.cons_append, List.nil_append, List.append_nil])) | refine sW rfl rfl ?_ | refine sK rfl rfl ?_ | refine j_if rfl ?_ | refine j_else rfl ?_ | refine Go.Vt.jq (wl_pickT rfl rfl) rfl rfl ?_ | refine Go.Vt.jq (wl_pickF rfl rfl) rfl rfl ?_)
          refine sU rfl rfl ?_ ?_ ?_ ?_
          · rfl
          · rfl
          · exact ⟨by decide, by omega, by omega⟩
          intro s'
          repeat (first | refine sX rfl rfl ?_ | (refine sS rfl rfl ?_ ?_; focus omega) | (refine sC rfl rfl ?_ ?_; focus (exact ⟨by omega, by omega⟩)) | refine cX ?_ | refine cY ?_ | (refine sA rfl rfl ?_; intro _) | refine sT rfl ?_ | refine sF rfl ?_ | (refine sR rfl ?_ ?_; focus omega) | (refine sB rfl rfl ?_; intro _) | (refine sN rfl rfl ?_ ?_; (focus (exact ⟨by omega, by omega⟩)); intro _; (try simp only [List.cons_append, List.nil_append, List.append_nil])) | refine sW rfl rfl ?_ | refine sK rfl rfl ?_ | refine j_if rfl ?_ | refine j_else rfl ?_ | refine Go.Vt.jq (wl_pickT rfl rfl) rfl rfl ?_ | refine Go.Vt.jq (wl_pickF rfl rfl) rfl rfl ?_)
          exact jx_loop ⟨m + 1, s'⟩ (by show m + 1 ≤ k - 1; omega) (by repeat (first | exact sub_nil | refine sub_cons rfl ?_ | refine sub_cons' rfl (by congr 1; omega) ?_)) (by repeat (first | exact List.Sublist.refl _ | exact List.nil_sublist _ | exact List.sublist_append_left _ _ | refine List.Sublist.append_left ?_ _ | refine List.Sublist.cons_cons _ ?_ | refine List.Sublist.cons _ ?_ | refine List.Sublist.trans ?_ (List.sublist_append_right _ _))) (by show k - 1 - (m + 1) < k - 1 - m; omega)
        · have hge : m = k - 1 := by have := of_decide_eq_false h; omega
          subst hge
          repeat (first | refine sX rfl rfl ?_ | (refine sS rfl rfl ?_ ?_; focus omega) | (refine sC rfl rfl ?_ ?_; focus (first | exact trivial | exact ⟨by omega, sgs_in hB _⟩)) | refine cX ?_ | refine cY ?_ | (refine sA rfl rfl ?_; intro _) | refine sT rfl ?_ | refine sF rfl ?_ | (refine sR rfl ?_ ?_; focus omega) | (refine sB rfl rfl ?_; intro _) | (refine sN rfl rfl ?_ ?_; (focus (first | exact trivial | exact ⟨by omega, sgs_in hB _⟩)); intro _; (try simp only [List.cons_append, List.nil_append, List.append_nil])) | refine sW rfl rfl ?_ | refine sK rfl rfl ?_ | refine j_if rfl ?_ | refine j_else rfl ?_ | refine Go.Vt.jq (wl_pickT rfl rfl) rfl rfl ?_ | refine Go.Vt.jq (wl_pickF rfl rfl) rfl rfl ?_)
          rename_i s2
          have e1 : frS pts = mNorm (sgs pts (k - 1)) := by unfold frS; rw [if_neg (by omega), hn]
          have e2 : frE pts = nrmE (mpN toU (sgs pts (k - 1)) (sgs pts (k - 1)).length) := by unfold frE; rw [if_neg (by omega), hn]
          obtain ⟨s', hv', hm'⟩ := SlS.turn 68 e1.symm s2
          exact jx_ret_two (v1 := vSl s') (v2 := .int .i64 (frE pts)) rfl (resv_tmp (by rw [hv']; rfl)) (resv_tmp (by rw [e2]; rfl)) (fun w hw => ⟨s', rfl, by dsimp only; rw [hm']; exact hw.sub (by repeat (first | exact List.Sublist.refl _ | exact List.nil_sublist _ | exact List.sublist_append_left _ _ | refine List.Sublist.append_left ?_ _ | refine List.Sublist.cons_cons _ ?_ | refine List.Sublist.cons _ ?_ | refine List.Sublist.trans ?_ (List.sublist_append_right _ _)))⟩)
end Go.Vt
/- The position of a moving point at a rational instant, walked. Conditions: those that each statement names. -/
set_option linter.unusedSimpArgs false
set_option linter.unusedVariables false
set_option maxRecDepth 100000
namespace Go.Vt
open Go.RowKit Go.Proofs
instance sp_xs (f : R_api_Line) : SpecC Tryz.prog 63 [vLn f] (vQd (lnX f)) True := ⟨fun _ w => by
  refine fn_intro Tryz.func63 rfl Tryz.ntmps63 rfl ?_
  repeat (first | refine sX rfl rfl ?_ | (refine sS rfl rfl ?_ ?_; focus omega) | (refine sC rfl rfl ?_ ?_; focus (first | exact trivial | assumption | exact ⟨by assumption, by assumption⟩ | exact mb2 rfl rfl | exact mb4 rfl rfl rfl rfl)) | refine cX ?_ | refine cY ?_ | (refine sA rfl rfl ?_; intro _) | refine sT rfl ?_ | refine sF rfl ?_ | (refine sR rfl ?_ ?_; focus omega) | (refine sB rfl rfl ?_; intro _) | (refine sN rfl rfl ?_ ?_; (focus (first | exact trivial | assumption | exact ⟨by assumption, by assumption⟩ | exact mb2 rfl rfl | exact mb4 rfl rfl rfl rfl)); intro _; (try simp only [List.cons_append, List.nil_append, List.append_nil])) | refine sW rfl rfl ?_ | refine sK rfl rfl ?_ | refine j_if rfl ?_ | refine j_else rfl ?_ | refine Go.Vt.jq (wl_pickT rfl rfl) rfl rfl ?_ | refine Go.Vt.jq (wl_pickF rfl rfl) rfl rfl ?_)
  exact wx_cell rfl rfl (fun w hw => ret_ok hw)⟩
instance sp_ys (f : R_api_Line) : SpecC Tryz.prog 64 [vLn f] (vQd (lnY f)) True := ⟨fun _ w => by
  refine fn_intro Tryz.func64 rfl Tryz.ntmps64 rfl ?_
  repeat (first | refine sX rfl rfl ?_ | (refine sS rfl rfl ?_ ?_; focus omega) | (refine sC rfl rfl ?_ ?_; focus (first | exact trivial | assumption | exact ⟨by assumption, by assumption⟩ | exact mb2 rfl rfl | exact mb4 rfl rfl rfl rfl)) | refine cX ?_ | refine cY ?_ | (refine sA rfl rfl ?_; intro _) | refine sT rfl ?_ | refine sF rfl ?_ | (refine sR rfl ?_ ?_; focus omega) | (refine sB rfl rfl ?_; intro _) | (refine sN rfl rfl ?_ ?_; (focus (first | exact trivial | assumption | exact ⟨by assumption, by assumption⟩ | exact mb2 rfl rfl | exact mb4 rfl rfl rfl rfl)); intro _; (try simp only [List.cons_append, List.nil_append, List.append_nil])) | refine sW rfl rfl ?_ | refine sK rfl rfl ?_ | refine j_if rfl ?_ | refine j_else rfl ?_ | refine Go.Vt.jq (wl_pickT rfl rfl) rfl rfl ?_ | refine Go.Vt.jq (wl_pickF rfl rfl) rfl rfl ?_)
  exact wx_cell rfl rfl (fun w hw => ret_ok hw)⟩
def atP (r : Option R_api_Line) (t : Rat) : R_api_Point := match r with | some f => pos f t | none => zR_api_Point
theorem AtR.mem {us : List UL} {t : Rat} {f : R_api_Line} (h : AtR us t (some f)) : ∃ u ∈ us, f = u.F := by
  rcases h.out with ⟨k, h1, -, -, -, h5⟩ | ⟨-, h2⟩
  · injection h5 with h5
    exact ⟨_, gi_mem (by omega), h5⟩
  · cases h2
theorem atRat_spec (v : Value) (us : List PU) (t : Rat) (c : Nat) (r : Option R_api_Line) (hk : Cut (mpN toU us us.length) t c) (hr : AtR (mpN toU us us.length) t r) (w : World) (hv : ArgS w v rP us) (hl : us.length ≤ 1048576) (htM : M t ≤ 8589934592) (hok : ∀ u ∈ mpN toU us us.length, UOk u) :
    Calls Tryz.prog 18 [v, vQ t].toArray w (Ret (.tuple #[vP (atP r t), .bool r.isSome]) w) := by
  have := ArgC.mk hv
  have : CtC (mpN toU us us.length) (⟨t, 0, false⟩ : R_api_Real).P c := ⟨hk⟩
  have : AtC' (mpN toU us us.length) (⟨t, 0, false⟩ : R_api_Real).P r := ⟨hr⟩
  have hml := mpN_len toU us us.length
  have htq : M t ≤ LQ := Nat.le_trans htM (by decide)
  refine fn_intro Tryz.func18 rfl Tryz.ntmps18 rfl ?_
  repeat (first | refine sX rfl rfl ?_ | (refine sS rfl rfl ?_ ?_; focus omega) | (refine sC rfl rfl ?_ ?_; focus (first | exact trivial | assumption | exact ⟨by assumption, by assumption⟩ | exact mb2 rfl rfl | exact mb4 rfl rfl rfl rfl)) | refine cX ?_ | refine cY ?_ | (refine sA rfl rfl ?_; intro _) | refine sT rfl ?_ | refine sF rfl ?_ | (refine sR rfl ?_ ?_; focus omega) | (refine sB rfl rfl ?_; intro _) | (refine sN rfl rfl ?_ ?_; (focus (first | exact trivial | assumption | exact ⟨by assumption, by assumption⟩ | exact mb2 rfl rfl | exact mb4 rfl rfl rfl rfl)); intro _; (try simp only [List.cons_append, List.nil_append, List.append_nil])) | refine sW rfl rfl ?_ | refine sK rfl rfl ?_ | refine j_if rfl ?_ | refine j_else rfl ?_ | refine Go.Vt.jq (wl_pickT rfl rfl) rfl rfl ?_ | refine Go.Vt.jq (wl_pickF rfl rfl) rfl rfl ?_)
  rename_i b3 b4
  refine j_cut (S := Nat) (fun _ => True) (fun b6 => [(3, .pointer (some ⟨b3, 0, none⟩)), (4, .pointer (some ⟨b4, 0, none⟩)), (6, .pointer (some ⟨b6, 0, none⟩)), (7, .bool r.isSome)]) (fun b6 => [⟨b6, e_api_Line (q_api_Line (r.getD zR_api_Line)), 66⟩, ⟨b4, e_api_Point (q_api_Point zR_api_Point), 45⟩, ⟨b3, e_api_Rat (Q t), 28⟩]) ?_ (fun b6 _ => ?_)
  · (refine j_tree (.v [0, 2] (.e2 1 (.v [3] (.e2 4 (.v [5, 6, 7] (.e1 8 (.e1 9 (.e1 10 (.fin))))) 8 (.e1 4 (.v [5, 6, 7] (.e1 9 (.e1 10 (.fin))))))) 8 (.e1 1 (.v [3] (.e1 4 (.v [5, 6, 7] (.e1 9 (.e1 10 (.fin))))))))) ([⟨b3, e_api_Rat (Q t), 28⟩]) mixed (by kernel_rfl) (by repeat (first | exact List.Sublist.refl _ | exact List.nil_sublist _ | refine List.Sublist.cons_cons _ ?_ | refine List.Sublist.cons _ ?_ | refine List.Sublist.trans ?_ (List.sublist_append_right _ _))) ?_; simp only [JT, picks, List.getElem?_cons_succ, List.getElem?_cons_zero])
    repeat (first | refine eS rfl rfl ?_ | refine uP rfl rfl rfl rfl ?_ | refine uQ rfl rfl rfl rfl ?_ | refine eX rfl rfl ?_ | (refine uS rfl rfl ?_ ?_; focus omega) | (refine uC rfl rfl ?_ ?_; focus (first | exact trivial | exact hl | exact ⟨by omega, ⟨rfl, rfl⟩, htq, fun u hu => (hok u hu).i.mono (by decide)⟩)) | refine uW rfl rfl ?_ | refine eF rfl ?_ | refine eT rfl ?_ | (refine eA rfl rfl ?_; intro _) | (refine eB rfl rfl ?_; intro _) | (refine eN rfl rfl ?_ ?_; (focus (first | exact trivial | exact hl | exact ⟨by omega, ⟨rfl, rfl⟩, htq, fun u hu => (hok u hu).i.mono (by decide)⟩)); intro _; (try simp only [List.cons_append, List.nil_append, List.append_nil])) | refine je_nil ?_ | refine tX rfl rfl ?_ | (refine tS rfl rfl ?_ ?_; focus omega) | (refine tC rfl rfl ?_ ?_; focus (first | exact trivial | exact hl | exact ⟨by omega, ⟨rfl, rfl⟩, htq, fun u hu => (hok u hu).i.mono (by decide)⟩)) | refine tW rfl rfl ?_ | refine tK rfl rfl ?_ | refine Go.Vt.hq (wl_pickT rfl rfl) rfl rfl ?_ | refine Go.Vt.hq (wl_pickF rfl rfl) rfl rfl ?_ | refine jh_nil ?_ | (refine wn_new ?_; intro _) | refine jn_nil ?_)
    refine And.intro ?_ ?_
    · repeat (first | refine eS rfl rfl ?_ | refine uP rfl rfl rfl rfl ?_ | refine uQ rfl rfl rfl rfl ?_ | refine eX rfl rfl ?_ | (refine uS rfl rfl ?_ ?_; focus omega) | (refine uC rfl rfl ?_ ?_; focus (first | exact trivial | exact hl | exact ⟨by omega, ⟨rfl, rfl⟩, htq, fun u hu => (hok u hu).i.mono (by decide)⟩)) | refine uW rfl rfl ?_ | refine eF rfl ?_ | refine eT rfl ?_ | (refine eA rfl rfl ?_; intro _) | (refine eB rfl rfl ?_; intro _) | (refine eN rfl rfl ?_ ?_; (focus (first | exact trivial | exact hl | exact ⟨by omega, ⟨rfl, rfl⟩, htq, fun u hu => (hok u hu).i.mono (by decide)⟩)); intro _; (try simp only [List.cons_append, List.nil_append, List.append_nil])) | refine je_nil ?_ | refine tX rfl rfl ?_ | (refine tS rfl rfl ?_ ?_; focus omega) | (refine tC rfl rfl ?_ ?_; focus (first | exact trivial | exact hl | exact ⟨by omega, ⟨rfl, rfl⟩, htq, fun u hu => (hok u hu).i.mono (by decide)⟩)) | refine tW rfl rfl ?_ | refine tK rfl rfl ?_ | refine Go.Vt.hq (wl_pickT rfl rfl) rfl rfl ?_ | refine Go.Vt.hq (wl_pickF rfl rfl) rfl rfl ?_ | refine jh_nil ?_ | (refine wn_new ?_; intro _) | refine jn_nil ?_)
      refine And.intro ?_ ?_
      · repeat (first | refine eS rfl rfl ?_ | refine uP rfl rfl rfl rfl ?_ | refine uQ rfl rfl rfl rfl ?_ | refine eX rfl rfl ?_ | (refine uS rfl rfl ?_ ?_; focus omega) | (refine uC rfl rfl ?_ ?_; focus (first | exact trivial | exact hl | exact ⟨by omega, ⟨rfl, rfl⟩, htq, fun u hu => (hok u hu).i.mono (by decide)⟩)) | refine uW rfl rfl ?_ | refine eF rfl ?_ | refine eT rfl ?_ | (refine eA rfl rfl ?_; intro _) | (refine eB rfl rfl ?_; intro _) | (refine eN rfl rfl ?_ ?_; (focus (first | exact trivial | exact hl | exact ⟨by omega, ⟨rfl, rfl⟩, htq, fun u hu => (hok u hu).i.mono (by decide)⟩)); intro _; (try simp only [List.cons_append, List.nil_append, List.append_nil])) | refine je_nil ?_ | refine tX rfl rfl ?_ | (refine tS rfl rfl ?_ ?_; focus omega) | (refine tC rfl rfl ?_ ?_; focus (first | exact trivial | exact hl | exact ⟨by omega, ⟨rfl, rfl⟩, htq, fun u hu => (hok u hu).i.mono (by decide)⟩)) | refine tW rfl rfl ?_ | refine tK rfl rfl ?_ | refine Go.Vt.hq (wl_pickT rfl rfl) rfl rfl ?_ | refine Go.Vt.hq (wl_pickF rfl rfl) rfl rfl ?_ | refine jh_nil ?_ | (refine wn_new ?_; intro _) | refine jn_nil ?_)
        exact jx_mid _ trivial (by repeat (first | exact sub_nil | refine sub_cons rfl ?_ | refine sub_cons' rfl (by congr 1; omega) ?_)) (by repeat (first | exact List.Sublist.refl _ | exact List.nil_sublist _ | exact List.sublist_append_left _ _ | refine List.Sublist.append_left ?_ _ | refine List.Sublist.cons_cons _ ?_ | refine List.Sublist.cons _ ?_ | refine List.Sublist.trans ?_ (List.sublist_append_right _ _)))
      · repeat (first | refine eS rfl rfl ?_ | refine uP rfl rfl rfl rfl ?_ | refine uQ rfl rfl rfl rfl ?_ | refine eX rfl rfl ?_ | (refine uS rfl rfl ?_ ?_; focus omega) | (refine uC rfl rfl ?_ ?_; focus (first | exact trivial | exact hl | exact ⟨by omega, ⟨rfl, rfl⟩, htq, fun u hu => (hok u hu).i.mono (by decide)⟩)) | refine uW rfl rfl ?_ | refine eF rfl ?_ | refine eT rfl ?_ | (refine eA rfl rfl ?_; intro _) | (refine eB rfl rfl ?_; intro _) | (refine eN rfl rfl ?_ ?_; (focus (first | exact trivial | exact hl | exact ⟨by omega, ⟨rfl, rfl⟩, htq, fun u hu => (hok u hu).i.mono (by decide)⟩)); intro _; (try simp only [List.cons_append, List.nil_append, List.append_nil])) | refine je_nil ?_ | refine tX rfl rfl ?_ | (refine tS rfl rfl ?_ ?_; focus omega) | (refine tC rfl rfl ?_ ?_; focus (first | exact trivial | exact hl | exact ⟨by omega, ⟨rfl, rfl⟩, htq, fun u hu => (hok u hu).i.mono (by decide)⟩)) | refine tW rfl rfl ?_ | refine tK rfl rfl ?_ | refine Go.Vt.hq (wl_pickT rfl rfl) rfl rfl ?_ | refine Go.Vt.hq (wl_pickF rfl rfl) rfl rfl ?_ | refine jh_nil ?_ | (refine wn_new ?_; intro _) | refine jn_nil ?_)
        exact jx_mid _ trivial (by repeat (first | exact sub_nil | refine sub_cons rfl ?_ | refine sub_cons' rfl (by congr 1; omega) ?_)) (by repeat (first | exact List.Sublist.refl _ | exact List.nil_sublist _ | exact List.sublist_append_left _ _ | refine List.Sublist.append_left ?_ _ | refine List.Sublist.cons_cons _ ?_ | refine List.Sublist.cons _ ?_ | refine List.Sublist.trans ?_ (List.sublist_append_right _ _)))
    · repeat (first | refine eS rfl rfl ?_ | refine uP rfl rfl rfl rfl ?_ | refine uQ rfl rfl rfl rfl ?_ | refine eX rfl rfl ?_ | (refine uS rfl rfl ?_ ?_; focus omega) | (refine uC rfl rfl ?_ ?_; focus (first | exact trivial | exact hl | exact ⟨by omega, ⟨rfl, rfl⟩, htq, fun u hu => (hok u hu).i.mono (by decide)⟩)) | refine uW rfl rfl ?_ | refine eF rfl ?_ | refine eT rfl ?_ | (refine eA rfl rfl ?_; intro _) | (refine eB rfl rfl ?_; intro _) | (refine eN rfl rfl ?_ ?_; (focus (first | exact trivial | exact hl | exact ⟨by omega, ⟨rfl, rfl⟩, htq, fun u hu => (hok u hu).i.mono (by decide)⟩)); intro _; (try simp only [List.cons_append, List.nil_append, List.append_nil])) | refine je_nil ?_ | refine tX rfl rfl ?_ | (refine tS rfl rfl ?_ ?_; focus omega) | (refine tC rfl rfl ?_ ?_; focus (first | exact trivial | exact hl | exact ⟨by omega, ⟨rfl, rfl⟩, htq, fun u hu => (hok u hu).i.mono (by decide)⟩)) | refine tW rfl rfl ?_ | refine tK rfl rfl ?_ | refine Go.Vt.hq (wl_pickT rfl rfl) rfl rfl ?_ | refine Go.Vt.hq (wl_pickF rfl rfl) rfl rfl ?_ | refine jh_nil ?_ | (refine wn_new ?_; intro _) | refine jn_nil ?_)
      exact jx_mid _ trivial (by repeat (first | exact sub_nil | refine sub_cons rfl ?_ | refine sub_cons' rfl (by congr 1; omega) ?_)) (by repeat (first | exact List.Sublist.refl _ | exact List.nil_sublist _ | exact List.sublist_append_left _ _ | refine List.Sublist.append_left ?_ _ | refine List.Sublist.cons_cons _ ?_ | refine List.Sublist.cons _ ?_ | refine List.Sublist.trans ?_ (List.sublist_append_right _ _)))
  rcases r with _ | f
  · repeat (first | refine sX rfl rfl ?_ | (refine sS rfl rfl ?_ ?_; focus omega) | (refine sC rfl rfl ?_ ?_; focus (first | exact trivial | assumption | exact ⟨by assumption, by assumption⟩ | exact mb2 rfl rfl | exact mb4 rfl rfl rfl rfl)) | refine cX ?_ | refine cY ?_ | (refine sA rfl rfl ?_; intro _) | refine sT rfl ?_ | refine sF rfl ?_ | (refine sR rfl ?_ ?_; focus omega) | (refine sB rfl rfl ?_; intro _) | (refine sN rfl rfl ?_ ?_; (focus (first | exact trivial | assumption | exact ⟨by assumption, by assumption⟩ | exact mb2 rfl rfl | exact mb4 rfl rfl rfl rfl)); intro _; (try simp only [List.cons_append, List.nil_append, List.append_nil])) | refine sW rfl rfl ?_ | refine sK rfl rfl ?_ | refine j_if rfl ?_ | refine j_else rfl ?_ | refine Go.Vt.jq (wl_pickT rfl rfl) rfl rfl ?_ | refine Go.Vt.jq (wl_pickF rfl rfl) rfl rfl ?_)
    exact jx_ret_two rfl (wr_cell rfl) (resv_tmp rfl) (fun w hw => ret_ok hw)
  · obtain ⟨u, hu, hfu⟩ := hr.mem
    have ho := (hok u hu).f
    rw [← hfu] at ho
    have hm0 : M 0 ≤ 34359738368 := Nat.le_trans mb_zero.out (by decide)
    simp only [Option.isSome_some, Option.getD_some, Bool.not_true]
    repeat (first | refine sX rfl rfl ?_ | (refine sS rfl rfl ?_ ?_; focus omega) | (refine sC rfl rfl ?_ ?_; focus (first | exact trivial | assumption | exact ⟨by assumption, by assumption⟩ | exact mb2 rfl rfl | exact mb4 rfl rfl rfl rfl)) | refine cX ?_ | refine cY ?_ | (refine sA rfl rfl ?_; intro _) | refine sT rfl ?_ | refine sF rfl ?_ | (refine sR rfl ?_ ?_; focus omega) | (refine sB rfl rfl ?_; intro _) | (refine sN rfl rfl ?_ ?_; (focus (first | exact trivial | assumption | exact ⟨by assumption, by assumption⟩ | exact mb2 rfl rfl | exact mb4 rfl rfl rfl rfl)); intro _; (try simp only [List.cons_append, List.nil_append, List.append_nil])) | refine sW rfl rfl ?_ | refine sK rfl rfl ?_ | refine j_if rfl ?_ | refine j_else rfl ?_ | refine Go.Vt.jq (wl_pickT rfl rfl) rfl rfl ?_ | refine Go.Vt.jq (wl_pickF rfl rfl) rfl rfl ?_)
    (refine jD 9 9 mixed (by kernel_rfl) ?_; (repeat (first | refine tX rfl rfl ?_ | (refine tS rfl rfl ?_ ?_; focus omega) | (refine tC rfl rfl ?_ ?_; focus (first | exact trivial | exact ⟨Nat.le_trans ho.x0 (by decide), Nat.le_trans ho.x1 (by decide), hm0, Nat.le_trans htM (by decide)⟩ | exact ⟨Nat.le_trans ho.y0 (by decide), Nat.le_trans ho.y1 (by decide), hm0, Nat.le_trans htM (by decide)⟩)) | refine tW rfl rfl ?_ | refine tK rfl rfl ?_ | refine Go.Vt.hq (wl_pickT rfl rfl) rfl rfl ?_ | refine Go.Vt.hq (wl_pickF rfl rfl) rfl rfl ?_)); refine jh_nil ?_; (repeat (refine wn_new ?_; intro _)); refine jn_nil ?_)
    repeat (first | refine sX rfl rfl ?_ | (refine sS rfl rfl ?_ ?_; focus omega) | (refine sC rfl rfl ?_ ?_; focus (first | exact trivial | assumption | exact ⟨by assumption, by assumption⟩ | exact mb2 rfl rfl | exact mb4 rfl rfl rfl rfl)) | refine cX ?_ | refine cY ?_ | (refine sA rfl rfl ?_; intro _) | refine sT rfl ?_ | refine sF rfl ?_ | (refine sR rfl ?_ ?_; focus omega) | (refine sB rfl rfl ?_; intro _) | (refine sN rfl rfl ?_ ?_; (focus (first | exact trivial | assumption | exact ⟨by assumption, by assumption⟩ | exact mb2 rfl rfl | exact mb4 rfl rfl rfl rfl)); intro _; (try simp only [List.cons_append, List.nil_append, List.append_nil])) | refine sW rfl rfl ?_ | refine sK rfl rfl ?_ | refine j_if rfl ?_ | refine j_else rfl ?_ | refine Go.Vt.jq (wl_pickT rfl rfl) rfl rfl ?_ | refine Go.Vt.jq (wl_pickF rfl rfl) rfl rfl ?_)
    exact jx_ret_two rfl (wr_cell rfl) (resv_tmp rfl) (fun w hw => ret_ok hw)
/-- What is found at an instant in a moving point. -/
class AtC2 (us : List PU) (t : Rat) (r : outParam (Option R_api_Line)) : Prop where
  cut : ∃ c, Cut (mpN toU us us.length) t c
  out : AtR (mpN toU us us.length) t r
instance sm_atRat (w0 : World) (L : List Blk) (v : Value) (us : List PU) (t : Rat) (r : Option R_api_Line) [h : LstC w0 L v PU rP us] [hr : AtC2 us t r] : SpecM Tryz.prog w0 L 18 [v, vQ t] (.tuple #[vP (atP r t), .bool r.isSome]) (us.length ≤ 1048576 ∧ M t ≤ 8589934592 ∧ ∀ u ∈ mpN toU us us.length, UOk u) := ⟨fun hp w hw => by
  obtain ⟨c, hc⟩ := hr.cut
  exact atRat_spec v us t c r hc hr.out w (h.out w hw) hp.1 hp.2.1 hp.2.2⟩
end Go.Vt
/- What the moving point through samples says: plain. Conditions: those that each statement names. -/
set_option linter.unusedSimpArgs false
set_option linter.unusedVariables false
set_option maxRecDepth 100000
namespace Go.Vt
open Go.RowKit Go.Proofs
theorem nf_le {R : List UL} (h : NF (R.map absU)) {i j : Nat} (hij : i < j) (hj : j < R.length) : (absU (gi R (i : Int))).bfr (absU (gi R (j : Int))) := by
  have h1 := List.pairwise_iff_getElem.1 h.pw i j (by rw [List.length_map]; omega) (by rw [List.length_map]; omega) hij
  rw [List.getElem_map, List.getElem_map, ← gi_nat (by omega), ← gi_nat hj] at h1
  exact h1.bf
theorem nf_ok {R : List UL} (h : NF (R.map absU)) {i : Nat} (hi : i < R.length) : (absU (gi R (i : Int))).ok := h.ok _ (List.mem_map.2 ⟨_, gi_mem (by omega), rfl⟩)
theorem cut_ex {R : List UL} (h : NF (R.map absU)) (t : Rat) : ∃ c, Cut R t c := by
  have key : ∀ m, m ≤ R.length → ∃ c, c ≤ m ∧ (∀ j : Nat, j < c → (gi R (j : Int)).In.To.P < t) ∧ ∀ j : Nat, c ≤ j → j < m → t ≤ (gi R (j : Int)).In.To.P := fun m => by
    induction m with
    | zero => exact fun _ => ⟨0, Nat.le_refl _, fun j hj => by omega, fun j _ hj => by omega⟩
    | succ m ih =>
      intro hm
      obtain ⟨c, h1, h2, h3⟩ := ih (by omega)
      by_cases hc : c < m
      · refine ⟨c, by omega, h2, fun j h4 h5 => ?_⟩
        rcases (by omega : j < m ∨ j = m) with h6 | h6
        · exact h3 j h4 h6
        · subst h6
          have h7 := h3 c (Nat.le_refl _) hc
          have h8 := nf_le h hc (by omega)
          have h9 := nf_ok h (i := j) (by omega)
          unfold GU.bfr absU at h8
          unfold GU.ok absU at h9
          grind
      · have hcm : c = m := by omega
        subst hcm
        by_cases ht : t ≤ (gi R (c : Int)).In.To.P
        · exact ⟨c, by omega, h2, fun j h4 h5 => by rw [show j = c by omega]; exact ht⟩
        · refine ⟨c + 1, Nat.le_refl _, fun j hj => ?_, fun j h4 h5 => by omega⟩
          rcases (by omega : j < c ∨ j = c) with h6 | h6
          · exact h2 j h6
          · subst h6
            grind
  obtain ⟨c, h1, h2, h3⟩ := key R.length (Nat.le_refl _)
  exact ⟨c, h1, h2, h3⟩
theorem atr_ex {R : List UL} (h : NF (R.map absU)) (t : Rat) : ∃ r, AtR R t r ∧ ∀ v, Has (R.map absU) t v ↔ r.map (fun f => pos f t) = some v := by
  by_cases hk : ∃ k : Nat, k < R.length ∧ (absU (gi R (k : Int))).mem t
  · obtain ⟨k, h1, h2⟩ := hk
    refine ⟨some (gi R (k : Int)).F, ⟨.inl ⟨k, h1, h2, fun j hj hm => ?_, fun j hj => ?_, rfl⟩⟩, fun v => ?_⟩
    · exact (nf_le h hj h1).dis hm h2
    · rcases (by omega : j < k ∨ j = k) with h3 | h3
      · have h4 := nf_le h h3 h1
        have h5 := nf_ok h (i := j) (by omega)
        unfold GU.bfr absU at h4
        unfold GU.ok absU at h5
        unfold GU.mem absU at h2
        grind
      · subst h3
        unfold GU.mem absU at h2
        grind
    · have hm : absU (gi R (k : Int)) ∈ R.map absU := List.mem_map.2 ⟨_, gi_mem (by omega), rfl⟩
      simp only [Option.map_some, Option.some.injEq]
      constructor
      · intro h3
        exact h.fn hm h2 h3
      · intro h3
        exact ⟨_, hm, h2, h3⟩
  · refine ⟨none, ⟨.inr ⟨fun j hj hm => hk ⟨j, hj, hm⟩, rfl⟩⟩, fun v => ?_⟩
    simp only [Option.map_none, reduceCtorEq, iff_false]
    rintro ⟨u, hu, h1, h2⟩
    obtain ⟨x, hx, rfl⟩ := List.mem_map.1 hu
    obtain ⟨i, hi, rfl⟩ := List.getElem_of_mem hx
    exact hk ⟨i, hi, by rw [gi_nat hi]; exact h1⟩
theorem stl_pos {a b : SS} (h : a.T < b.T) (t : Rat) : pos (stl a b) t = ⟨a.P.X + (b.P.X - a.P.X) * ((t - a.T) / (b.T - a.T)), a.P.Y + (b.P.Y - a.P.Y) * ((t - a.T) / (b.T - a.T))⟩ := by
  have hne : ¬ b.T - a.T = 0 := by grind
  rw [btw_pos a b t h]
  unfold btw
  rw [if_neg hne]
theorem stl_a {a b : SS} (h : a.T < b.T) : pos (stl a b) a.T = a.P := by
  rw [stl_pos h]
  have : (a.T - a.T) / (b.T - a.T) = 0 := by rw [show a.T - a.T = 0 by grind, Rat.div_def, Rat.zero_mul]
  rw [this]
  cases a with
  | mk T P => cases P; simp only [R_api_Point.mk.injEq]; constructor <;> grind
theorem stl_b {a b : SS} (h : a.T < b.T) : pos (stl a b) b.T = b.P := by
  rw [stl_pos h]
  have : (b.T - a.T) / (b.T - a.T) = 1 := by rw [Rat.div_def]; exact Rat.mul_inv_cancel _ (by grind)
  rw [this]
  cases b with
  | mk T P => cases P; simp only [R_api_Point.mk.injEq]; constructor <;> grind
/-- The samples' times increase. -/
def Inc (pts : List SS) : Prop := ∀ i : Nat, i + 1 < pts.length → (gi pts (i : Int)).T < (gi pts ((i + 1 : Nat) : Int)).T
theorem Inc.lt {pts : List SS} (h : Inc pts) : ∀ {j i : Nat}, i < j → j < pts.length → (gi pts (i : Int)).T < (gi pts (j : Int)).T
  | 0, i, hij, _ => by omega
  | j + 1, i, hij, hj => by
    have h1 := h j hj
    rcases (by omega : i < j ∨ i = j) with h2 | h2
    · have := h.lt h2 (by omega)
      grind
    · subst h2; exact h1
theorem Inc.le {pts : List SS} (h : Inc pts) {i j : Nat} (hij : i ≤ j) (hj : j < pts.length) : (gi pts (i : Int)).T ≤ (gi pts (j : Int)).T := by
  rcases (by omega : i < j ∨ i = j) with h1 | h1
  · exact Rat.le_of_lt (h.lt h1 hj)
  · subst h1; exact Rat.le_refl
theorem sgs_gi (pts : List SS) : ∀ m (i : Nat), i < m → gi (sgs pts m) (i : Int) = sgU pts i
  | 0, i, h => by omega
  | m + 1, i, h => by
    have hl := sgs_len pts m
    rw [gi_nat (by rw [sgs_len]; exact h)]
    simp only [sgs]
    rcases (by omega : i < m ∨ i = m) with h1 | h1
    · rw [List.getElem_append_left (by omega), ← gi_nat (by omega)]
      exact sgs_gi pts m i h1
    · subst h1
      rw [List.getElem_append_right (by omega)]
      simp [hl]
/-- The straight ways as plain units. -/
def sgW (pts : List SS) (m : Nat) : List UL := mpN toU (sgs pts m) (sgs pts m).length
theorem sgW_map (pts : List SS) (m : Nat) : sgW pts m = (sgs pts m).map toU := mpN_all _ _
theorem sgW_len (pts : List SS) (m : Nat) : (sgW pts m).length = m := by rw [sgW_map, List.length_map, sgs_len]
theorem sgW_get {pts : List SS} {m i : Nat} (h : i < m) : gi (sgW pts m) (i : Int) = toU (sgU pts i) := by
  rw [gi_nat (by rw [sgW_len]; exact h)]
  simp only [sgW_map, List.getElem_map]
  rw [← gi_nat (by rw [sgs_len]; exact h), sgs_gi pts m i h]
theorem sgW_mem {pts : List SS} {m : Nat} {u : UL} (h : u ∈ sgW pts m) : ∃ i, i < m ∧ u = toU (sgU pts i) := by
  rw [sgW_map] at h
  obtain ⟨x, hx, rfl⟩ := List.mem_map.1 h
  obtain ⟨i, h1, rfl⟩ := sgs_mem pts m hx
  exact ⟨i, h1, rfl⟩
theorem sgW_val {pts : List SS} (hB : Bnd pts) (hi : Inc pts) {m : Nat} (hm : m + 1 ≤ pts.length) : UVal (sgW pts m) := by
  refine ⟨sgs_in hB m, fun u hu => ?_⟩
  obtain ⟨i, h1, rfl⟩ := sgW_mem hu
  exact .inl (hi i (by omega))
theorem sgW_pw {pts : List SS} (hB : Bnd pts) (hi : Inc pts) {m : Nat} (hm : m + 1 ≤ pts.length) : ((sgW pts m).map absU).Pairwise GU.bfr := by
  have hv := sgW_val hB hi hm
  refine pw_of_next (fun u hu => ?_) (fun i h => ?_)
  · obtain ⟨x, hx, rfl⟩ := List.mem_map.1 hu
    exact hv.v x hx
  · rw [List.length_map, sgW_len] at h
    rw [List.getElem_map, List.getElem_map, ← gi_nat (by rw [sgW_len]; omega), ← gi_nat (by rw [sgW_len]; exact h), sgW_get (by omega), sgW_get h]
    refine .inr ⟨rfl, .inr ?_⟩
    show decide ((1 : Int) < ((i + 1 + 1 : Nat) : Int)) = true
    exact decide_eq_true (by omega)
theorem sgW_has {pts : List SS} (hi : Inc pts) {m i : Nat} (hm : m + 1 ≤ pts.length) (h : i < m) {t : Rat} (h1 : (gi pts (i : Int)).T ≤ t) (h2 : t ≤ (gi pts ((i + 1 : Nat) : Int)).T) : Has ((sgW pts m).map absU) t (pos (stl (gi pts (i : Int)) (gi pts ((i + 1 : Nat) : Int))) t) := by
  have hmem : ∀ j, j < m → absU (toU (sgU pts j)) ∈ (sgW pts m).map absU := fun j hj => by
    rw [← sgW_get hj]
    exact List.mem_map.2 ⟨_, gi_mem (by rw [sgW_len]; omega), rfl⟩
  by_cases hlt : (gi pts (i : Int)).T < t ∨ i = 0
  · refine ⟨_, hmem i h, ⟨?_, ?_⟩, rfl⟩
    · rcases hlt with h3 | h3
      · exact .inl h3
      · subst h3
        rcases Classical.em ((gi pts ((0 : Nat) : Int)).T < t) with h4 | h4
        · exact .inl h4
        · refine .inr ⟨?_, rfl⟩
          show (gi pts ((0 : Nat) : Int)).T = t
          grind
    · rcases Classical.em (t < (gi pts ((i + 1 : Nat) : Int)).T) with h4 | h4
      · exact .inl h4
      · refine .inr ⟨?_, rfl⟩
        show t = (gi pts ((i + 1 : Nat) : Int)).T
        grind
  · have ht : t = (gi pts (i : Int)).T := by grind
    have hi0 : i ≠ 0 := fun h0 => hlt (.inr h0)
    obtain ⟨k, rfl⟩ : ∃ k, i = k + 1 := ⟨i - 1, by omega⟩
    have h3 := hi k (by omega)
    have h4 := hi (k + 1) (by omega)
    refine ⟨_, hmem k (by omega), ⟨.inl ?_, .inr ⟨ht, rfl⟩⟩, ?_⟩
    · show (gi pts (k : Int)).T < t
      rw [ht]; exact h3
    · show pos (stl (gi pts (k : Int)) (gi pts ((k + 1 : Nat) : Int))) t = _
      rw [ht, stl_b h3, stl_a h4]
theorem toU_ofU (us : List UL) : mpN toU (mpN ofU us us.length) (mpN ofU us us.length).length = us := by
  rw [mpN_all, mpN_all, List.map_map]
  have : ∀ u ∈ us, (toU ∘ ofU) u = id u := fun u _ => rfl
  rw [List.map_congr_left this, List.map_id]
theorem mNorm_U (us : List PU) : mpN toU (mNorm us) (mNorm us).length = nrmR (mpN toU us us.length) := toU_ofU _
/-- The moving point through samples: no error, and what it says. -/
theorem frS_law {pts : List SS} (hB : Bnd pts) (hi : Inc pts) (h2 : 2 ≤ pts.length) : frE pts = 0 ∧ NF ((mpN toU (frS pts) (frS pts).length).map absU) ∧ (∀ u ∈ mpN toU (frS pts) (frS pts).length, UOk u) ∧ ∀ t v, Has ((mpN toU (frS pts) (frS pts).length).map absU) t v ↔ Has ((sgW pts (pts.length - 1)).map absU) t v := by
  have hv := sgW_val hB hi (m := pts.length - 1) (by omega)
  have hp := sgW_pw hB hi (m := pts.length - 1) (by omega)
  have hd : ((sgW pts (pts.length - 1)).map absU).Pairwise Dis := hp.imp fun h => h.Dis
  have e1 : frS pts = mNorm (sgs pts (pts.length - 1)) := by unfold frS; rw [if_neg (by omega)]
  have e2 : frE pts = nrmE (sgW pts (pts.length - 1)) := by unfold frE; rw [if_neg (by omega)]; rfl
  have e3 : mpN toU (frS pts) (frS pts).length = nrmR (sgW pts (pts.length - 1)) := by rw [e1, mNorm_U]; rfl
  obtain ⟨n1, n2⟩ := nrm_nf hv hd
  rw [e3]
  exact ⟨by rw [e2]; exact (nrmE_0 hv).2 hd, n1, nrmR_ok hv.i, n2⟩
theorem d2_self (p : R_api_Point) : d2 p p = 0 := by unfold d2; grind
theorem dv_nonneg (pts : List SS) (i j : Nat) : ∀ n, 0 ≤ dv pts i j n
  | 0 => Rat.le_refl
  | n + 1 => by
    rw [dv, Rat.max_def]
    have := dv_nonneg pts i j n
    split <;> grind
theorem dv_ge {pts : List SS} {i j : Nat} : ∀ n m : Nat, m < n → d2 (gi pts ((i : Int) + 1 + m)).P (pos (stl (gi pts (i : Int)) (gi pts (j : Int))) (gi pts ((i : Int) + 1 + m)).T) ≤ dv pts i j n
  | 0, m, h => by omega
  | n + 1, m, h => by
    rw [dv]
    rcases (by omega : m < n ∨ m = n) with h1 | h1
    · have := dv_ge (pts := pts) (i := i) (j := j) n m h1
      rw [Rat.max_def]
      split <;> grind
    · subst h1
      rw [Rat.max_def]
      split <;> grind
theorem sq0 (d : Rat) : 0 ≤ d * d := by
  rcases Std.le_total (a := (0 : Rat)) (b := d) with h | h
  · exact Rat.mul_nonneg h h
  · have : 0 ≤ (-d) * (-d) := Rat.mul_nonneg (by grind) (by grind)
    grind
theorem conv1 {l x0 x1 y0 y1 d : Rat} (h0 : 0 ≤ l) (h1 : l ≤ 1) (ha : x0 * x0 + y0 * y0 ≤ d) (hb : x1 * x1 + y1 * y1 ≤ d) :
    ((1 - l) * x0 + l * x1) * ((1 - l) * x0 + l * x1) + ((1 - l) * y0 + l * y1) * ((1 - l) * y0 + l * y1) ≤ d := by
  have e1 : 0 ≤ l * (1 - l) * ((x0 - x1) * (x0 - x1) + (y0 - y1) * (y0 - y1)) := Rat.mul_nonneg (Rat.mul_nonneg h0 (by grind)) (by have := sq0 (x0 - x1); have := sq0 (y0 - y1); grind)
  have e2 : 0 ≤ (1 - l) * (d - (x0 * x0 + y0 * y0)) := Rat.mul_nonneg (by grind) (by grind)
  have e3 : 0 ≤ l * (d - (x1 * x1 + y1 * y1)) := Rat.mul_nonneg h0 (by grind)
  grind
/-- On each straight way of a run, it is not farther from a longer one than at the breakpoints. -/
theorem dev_law {pts : List SS} (hi : Inc pts) {f g i : Nat} (hfg : f < g) (hg : g < pts.length) (h1 : f ≤ i) (h2 : i < g) {t : Rat} (ht1 : (gi pts (i : Int)).T ≤ t) (ht2 : t ≤ (gi pts ((i + 1 : Nat) : Int)).T) :
    d2 (pos (stl (gi pts (i : Int)) (gi pts ((i + 1 : Nat) : Int))) t) (pos (stl (gi pts (f : Int)) (gi pts (g : Int))) t) ≤ dv pts f g (g - f - 1) := by
  have hfl := hi.lt hfg hg
  have hil := hi i (by omega)
  have ends : ∀ j : Nat, f ≤ j → j ≤ g → d2 (gi pts (j : Int)).P (pos (stl (gi pts (f : Int)) (gi pts (g : Int))) (gi pts (j : Int)).T) ≤ dv pts f g (g - f - 1) := fun j h3 h4 => by
    rcases (by omega : j = f ∨ j = g ∨ (f < j ∧ j < g)) with h5 | h5 | ⟨h5, h6⟩
    · subst h5
      rw [stl_a hfl, d2_self]
      exact dv_nonneg _ _ _ _
    · subst h5
      rw [stl_b hfl, d2_self]
      exact dv_nonneg _ _ _ _
    · have h7 := dv_ge (pts := pts) (i := f) (j := g) (g - f - 1) (j - f - 1) (by omega)
      rw [show (f : Int) + 1 + ((j - f - 1 : Nat) : Int) = (j : Int) by omega] at h7
      exact h7
  have ha := ends i h1 (by omega)
  have hb := ends (i + 1) (by omega) (by omega)
  have hD : ¬ (gi pts ((i + 1 : Nat) : Int)).T - (gi pts (i : Int)).T = 0 := by grind
  obtain ⟨l, hl⟩ : ∃ l, l = (t - (gi pts (i : Int)).T) / ((gi pts ((i + 1 : Nat) : Int)).T - (gi pts (i : Int)).T) := ⟨_, rfl⟩
  have hlt : t = (gi pts (i : Int)).T + l * ((gi pts ((i + 1 : Nat) : Int)).T - (gi pts (i : Int)).T) := by rw [hl]; grind
  have hpos : 0 < (gi pts ((i + 1 : Nat) : Int)).T - (gi pts (i : Int)).T := by grind
  have hl0 : 0 ≤ l := by
    rcases Classical.em (0 ≤ l) with h3 | h3
    · exact h3
    · exfalso
      have : 0 < (-l) * ((gi pts ((i + 1 : Nat) : Int)).T - (gi pts (i : Int)).T) := Rat.mul_pos (by grind) hpos
      grind
  have hl1 : l ≤ 1 := by
    rcases Classical.em (l ≤ 1) with h3 | h3
    · exact h3
    · exfalso
      have : 0 < (l - 1) * ((gi pts ((i + 1 : Nat) : Int)).T - (gi pts (i : Int)).T) := Rat.mul_pos (by grind) hpos
      grind
  rw [stl_pos hil, ← hl]
  generalize gi pts (i : Int) = a at *
  generalize gi pts ((i + 1 : Nat) : Int) = b at *
  generalize stl (gi pts (f : Int)) (gi pts (g : Int)) = L at *
  have hc := conv1 hl0 hl1 ha hb
  unfold d2 pos at *
  simp only at hc ⊢
  subst hlt
  have ex : a.P.X + (b.P.X - a.P.X) * l - (L.X0 + (a.T + l * (b.T - a.T)) * (L.X1 + (a.T + l * (b.T - a.T)) * 0)) = (1 - l) * (a.P.X - (L.X0 + a.T * (L.X1 + a.T * 0))) + l * (b.P.X - (L.X0 + b.T * (L.X1 + b.T * 0))) := by grind
  have ey : a.P.Y + (b.P.Y - a.P.Y) * l - (L.Y0 + (a.T + l * (b.T - a.T)) * (L.Y1 + (a.T + l * (b.T - a.T)) * 0)) = (1 - l) * (a.P.Y - (L.Y0 + a.T * (L.Y1 + a.T * 0))) + l * (b.P.Y - (L.Y0 + b.T * (L.Y1 + b.T * 0))) := by grind
  rw [ex, ey]
  exact hc
/-- The straight way at an instant between two breakpoints. -/
theorem way_at {pts : List SS} (hi : Inc pts) {f g : Nat} (hfg : f < g) (hg : g < pts.length) {t : Rat} (h1 : (gi pts (f : Int)).T ≤ t) (h2 : t ≤ (gi pts (g : Int)).T) : ∃ i, f ≤ i ∧ i < g ∧ (gi pts (i : Int)).T ≤ t ∧ t ≤ (gi pts ((i + 1 : Nat) : Int)).T := by
  have key : ∀ d, f + d + 1 ≤ g → t ≤ (gi pts ((f + d + 1 : Nat) : Int)).T → ∃ i, f ≤ i ∧ i < g ∧ (gi pts (i : Int)).T ≤ t ∧ t ≤ (gi pts ((i + 1 : Nat) : Int)).T := fun d => by
    induction d with
    | zero => exact fun h3 h4 => ⟨f, Nat.le_refl _, hfg, h1, h4⟩
    | succ d ih =>
      intro h3 h4
      by_cases h5 : t ≤ (gi pts ((f + d + 1 : Nat) : Int)).T
      · exact ih (by omega) h5
      · exact ⟨f + d + 1, by omega, by omega, by grind, h4⟩
  exact key (g - f - 1) (by omega) (by rw [show f + (g - f - 1) + 1 = g by omega]; exact h2)
end Go.Vt
/- Plain mathematics: the program's table finds what the reference's search finds. Conditions: none. -/
set_option linter.unusedSimpArgs false
set_option linter.unusedVariables false
namespace Go.Vt
variable {ok : Nat → Nat → Bool} {l i : Nat} {s : List Int × List Int}
end Go.Vt
/- The examples of the chapter, and the reference's best list. Conditions: those that each statement names. -/
set_option linter.unusedSimpArgs false
set_option linter.unusedVariables false
set_option maxRecDepth 100000
namespace Go.Vt
open Go.RowKit Go.Proofs
def zzP : List R_movingpoint_Sample := [⟨((0 : Int) : Rat), ⟨((0 : Int) : Rat), ((0 : Int) : Rat)⟩⟩, ⟨((1 : Int) : Rat), ⟨((1 : Int) : Rat), ((1 : Int) : Rat)⟩⟩, ⟨((2 : Int) : Rat), ⟨((2 : Int) : Rat), ((0 : Int) : Rat)⟩⟩, ⟨((3 : Int) : Rat), ⟨((3 : Int) : Rat), ((1 : Int) : Rat)⟩⟩, ⟨((4 : Int) : Rat), ⟨((4 : Int) : Rat), ((0 : Int) : Rat)⟩⟩]
abbrev liP : List R_movingpoint_Sample := [⟨((0 : Int) : Rat), ⟨((0 : Int) : Rat), ((0 : Int) : Rat)⟩⟩, ⟨((1 : Int) : Rat), ⟨((1 : Int) : Rat), ((0 : Int) : Rat)⟩⟩, ⟨((2 : Int) : Rat), ⟨((4 : Int) : Rat), ((0 : Int) : Rat)⟩⟩]
theorem kn_a : keptL (okd zzP ((((1 : Int) : Rat)) * ((1 : Int) : Rat))) (5 - 1) = [0, 4] := by decide +kernel
theorem kn_b : keptL (okd zzP (Rat.divInt 1 2 * Rat.divInt 1 2)) (5 - 1) = [0, 1, 2, 3, 4] := by decide +kernel
theorem kn_d : dv liP 0 2 1 = ((1 : Int) : Rat) := by decide +kernel
instance sr_zigzag (w0 : World) (L : List Blk) : SpecR Tryz.prog w0 L 40 [] Nat (fun b => vRun ⟨⟨0, 0, false⟩, ⟨((4 : Int) : Rat), 0, false⟩, false, false⟩ b 5 5) (fun b => [⟨b, row rS zzP [], 47⟩]) True := ⟨fun _ w hw => by
  refine fn_intro Tryz.func40 rfl Tryz.ntmps40 rfl ?_
  repeat (first | refine sX rfl rfl ?_ | (refine sS rfl rfl ?_ ?_; focus omega) | (refine sC rfl rfl ?_ ?_; focus (first | exact ⟨by omega, by omega⟩ | exact ⟨⟨by omega, by omega⟩, ⟨by omega, by omega⟩, ⟨by omega, by omega⟩⟩)) | refine cX ?_ | refine cY ?_ | (refine sA rfl rfl ?_; intro _) | refine sT rfl ?_ | refine sF rfl ?_ | (refine sR rfl ?_ ?_; focus omega) | (refine sB rfl rfl ?_; intro _) | (refine sN rfl rfl ?_ ?_; (focus (first | exact ⟨by omega, by omega⟩ | exact ⟨⟨by omega, by omega⟩, ⟨by omega, by omega⟩, ⟨by omega, by omega⟩⟩)); intro _; (try simp only [List.cons_append, List.nil_append, List.append_nil])) | refine sW rfl rfl ?_ | refine sK rfl rfl ?_ | refine j_if rfl ?_ | refine j_else rfl ?_ | refine Go.Vt.jq (wl_pickT rfl rfl) rfl rfl ?_ | refine Go.Vt.jq (wl_pickF rfl rfl) rfl rfl ?_)
  rename_i b0 bN
  exact wx_cell rfl rfl (fun w hw => ⟨bN, rfl, hw.sub (by repeat (first | exact List.Sublist.refl _ | exact List.nil_sublist _ | refine List.Sublist.cons_cons _ ?_ | refine List.Sublist.cons _ ?_))⟩)⟩
instance sm_dev2 (w0 : World) (L : List Blk) (I : R_api_Interval) (b n c : Nat) (i j : Int) (pts : List R_movingpoint_Sample) (sp : List Value) (T : TypeId) [h : AtC w0 L b (row r_movingpoint_Sample pts sp) T] : SpecM Tryz.prog w0 L 11 [vRun I b n c, .int .i64 i, .int .i64 j] (.tuple #[vQ (dv pts i.toNat j.toNat (j.toNat - i.toNat - 1)), .int .i64 0]) ((pts.length = n ∧ n ≤ c ∧ n ≤ 1099511627776 ∧ Bnd pts) ∧ 0 ≤ i ∧ i < j ∧ j < n) := ⟨fun hp w hw => by
  obtain ⟨g1, g2, g3, g4⟩ := hp
  have := FoC.mk (h.out w hw)
  refine fn_intro Tryz.func11 rfl Tryz.ntmps11 rfl ?_
  have e1 : ¬ j = 0 := by omega
  have e2 : ¬ i < 0 := by omega
  have e3 : ¬ j ≤ i := by omega
  have e4 : ¬ (n : Int) ≤ j := by omega
  repeat (first | refine sX rfl rfl ?_ | (refine sS rfl rfl ?_ ?_; focus omega) | (refine sC rfl rfl ?_ ?_; focus (first | exact trivial | assumption | exact ⟨by assumption, by assumption⟩ | exact mb2 rfl rfl | exact mb4 rfl rfl rfl rfl)) | refine cX ?_ | refine cY ?_ | (refine sA rfl rfl ?_; intro _) | refine sT rfl ?_ | refine sF rfl ?_ | (refine sR rfl ?_ ?_; focus omega) | (refine sB rfl rfl ?_; intro _) | (refine sN rfl rfl ?_ ?_; (focus (first | exact trivial | assumption | exact ⟨by assumption, by assumption⟩ | exact mb2 rfl rfl | exact mb4 rfl rfl rfl rfl)); intro _; (try simp only [List.cons_append, List.nil_append, List.append_nil])) | refine sW rfl rfl ?_ | refine sK rfl rfl ?_ | refine j_if rfl ?_ | refine j_else rfl ?_ | refine Go.Vt.jq (wl_pickT rfl rfl) rfl rfl ?_ | refine Go.Vt.jq (wl_pickF rfl rfl) rfl rfl ?_)
  by_cases hi : i = 0
  · simp only [decide_eq_true hi]
    repeat (first | refine sX rfl rfl ?_ | (refine sS rfl rfl ?_ ?_; focus omega) | (refine sC rfl rfl ?_ ?_; focus (first | exact trivial | assumption | exact ⟨by assumption, by assumption⟩ | exact mb2 rfl rfl | exact mb4 rfl rfl rfl rfl)) | refine cX ?_ | refine cY ?_ | (refine sA rfl rfl ?_; intro _) | refine sT rfl ?_ | refine sF rfl ?_ | (refine sR rfl ?_ ?_; focus omega) | (refine sB rfl rfl ?_; intro _) | (refine sN rfl rfl ?_ ?_; (focus (first | exact trivial | assumption | exact ⟨by assumption, by assumption⟩ | exact mb2 rfl rfl | exact mb4 rfl rfl rfl rfl)); intro _; (try simp only [List.cons_append, List.nil_append, List.append_nil])) | refine sW rfl rfl ?_ | refine sK rfl rfl ?_ | refine j_if rfl ?_ | refine j_else rfl ?_ | refine Go.Vt.jq (wl_pickT rfl rfl) rfl rfl ?_ | refine Go.Vt.jq (wl_pickF rfl rfl) rfl rfl ?_)
    simp only [decide_eq_false e1]
    repeat (first | refine sX rfl rfl ?_ | (refine sS rfl rfl ?_ ?_; focus omega) | (refine sC rfl rfl ?_ ?_; focus (first | exact trivial | assumption | exact ⟨by assumption, by assumption⟩ | exact mb2 rfl rfl | exact mb4 rfl rfl rfl rfl)) | refine cX ?_ | refine cY ?_ | (refine sA rfl rfl ?_; intro _) | refine sT rfl ?_ | refine sF rfl ?_ | (refine sR rfl ?_ ?_; focus omega) | (refine sB rfl rfl ?_; intro _) | (refine sN rfl rfl ?_ ?_; (focus (first | exact trivial | assumption | exact ⟨by assumption, by assumption⟩ | exact mb2 rfl rfl | exact mb4 rfl rfl rfl rfl)); intro _; (try simp only [List.cons_append, List.nil_append, List.append_nil])) | refine sW rfl rfl ?_ | refine sK rfl rfl ?_ | refine j_if rfl ?_ | refine j_else rfl ?_ | refine Go.Vt.jq (wl_pickT rfl rfl) rfl rfl ?_ | refine Go.Vt.jq (wl_pickF rfl rfl) rfl rfl ?_)
    simp only [decide_eq_false e2]
    repeat (first | refine sX rfl rfl ?_ | (refine sS rfl rfl ?_ ?_; focus omega) | (refine sC rfl rfl ?_ ?_; focus (first | exact trivial | assumption | exact ⟨by assumption, by assumption⟩ | exact mb2 rfl rfl | exact mb4 rfl rfl rfl rfl)) | refine cX ?_ | refine cY ?_ | (refine sA rfl rfl ?_; intro _) | refine sT rfl ?_ | refine sF rfl ?_ | (refine sR rfl ?_ ?_; focus omega) | (refine sB rfl rfl ?_; intro _) | (refine sN rfl rfl ?_ ?_; (focus (first | exact trivial | assumption | exact ⟨by assumption, by assumption⟩ | exact mb2 rfl rfl | exact mb4 rfl rfl rfl rfl)); intro _; (try simp only [List.cons_append, List.nil_append, List.append_nil])) | refine sW rfl rfl ?_ | refine sK rfl rfl ?_ | refine j_if rfl ?_ | refine j_else rfl ?_ | refine Go.Vt.jq (wl_pickT rfl rfl) rfl rfl ?_ | refine Go.Vt.jq (wl_pickF rfl rfl) rfl rfl ?_)
    simp only [decide_eq_false e3]
    repeat (first | refine sX rfl rfl ?_ | (refine sS rfl rfl ?_ ?_; focus omega) | (refine sC rfl rfl ?_ ?_; focus (first | exact trivial | assumption | exact ⟨by assumption, by assumption⟩ | exact mb2 rfl rfl | exact mb4 rfl rfl rfl rfl)) | refine cX ?_ | refine cY ?_ | (refine sA rfl rfl ?_; intro _) | refine sT rfl ?_ | refine sF rfl ?_ | (refine sR rfl ?_ ?_; focus omega) | (refine sB rfl rfl ?_; intro _) | (refine sN rfl rfl ?_ ?_; (focus (first | exact trivial | assumption | exact ⟨by assumption, by assumption⟩ | exact mb2 rfl rfl | exact mb4 rfl rfl rfl rfl)); intro _; (try simp only [List.cons_append, List.nil_append, List.append_nil])) | refine sW rfl rfl ?_ | refine sK rfl rfl ?_ | refine j_if rfl ?_ | refine j_else rfl ?_ | refine Go.Vt.jq (wl_pickT rfl rfl) rfl rfl ?_ | refine Go.Vt.jq (wl_pickF rfl rfl) rfl rfl ?_)
    simp only [decide_eq_false e4]
    repeat (first | refine sX rfl rfl ?_ | (refine sS rfl rfl ?_ ?_; focus omega) | (refine sC rfl rfl ?_ ?_; focus (exact ⟨g1, g2, g3, g4⟩)) | refine cX ?_ | refine cY ?_ | (refine sA rfl rfl ?_; intro _) | refine sT rfl ?_ | refine sF rfl ?_ | (refine sR rfl ?_ ?_; focus omega) | (refine sB rfl rfl ?_; intro _) | (refine sN rfl rfl ?_ ?_; (focus (exact ⟨g1, g2, g3, g4⟩)); intro _; (try simp only [List.cons_append, List.nil_append, List.append_nil])) | refine sW rfl rfl ?_ | refine sK rfl rfl ?_ | refine j_if rfl ?_ | refine j_else rfl ?_ | refine Go.Vt.jq (wl_pickT rfl rfl) rfl rfl ?_ | refine Go.Vt.jq (wl_pickF rfl rfl) rfl rfl ?_)
    exact jx_ret_two rfl (wr_cell rfl) (resv_tmp rfl) (fun w hw => ret_ok hw)
  · simp only [decide_eq_false hi]
    repeat (first | refine sX rfl rfl ?_ | (refine sS rfl rfl ?_ ?_; focus omega) | (refine sC rfl rfl ?_ ?_; focus (first | exact trivial | assumption | exact ⟨by assumption, by assumption⟩ | exact mb2 rfl rfl | exact mb4 rfl rfl rfl rfl)) | refine cX ?_ | refine cY ?_ | (refine sA rfl rfl ?_; intro _) | refine sT rfl ?_ | refine sF rfl ?_ | (refine sR rfl ?_ ?_; focus omega) | (refine sB rfl rfl ?_; intro _) | (refine sN rfl rfl ?_ ?_; (focus (first | exact trivial | assumption | exact ⟨by assumption, by assumption⟩ | exact mb2 rfl rfl | exact mb4 rfl rfl rfl rfl)); intro _; (try simp only [List.cons_append, List.nil_append, List.append_nil])) | refine sW rfl rfl ?_ | refine sK rfl rfl ?_ | refine j_if rfl ?_ | refine j_else rfl ?_ | refine Go.Vt.jq (wl_pickT rfl rfl) rfl rfl ?_ | refine Go.Vt.jq (wl_pickF rfl rfl) rfl rfl ?_)
    simp only [decide_eq_false e2]
    repeat (first | refine sX rfl rfl ?_ | (refine sS rfl rfl ?_ ?_; focus omega) | (refine sC rfl rfl ?_ ?_; focus (first | exact trivial | assumption | exact ⟨by assumption, by assumption⟩ | exact mb2 rfl rfl | exact mb4 rfl rfl rfl rfl)) | refine cX ?_ | refine cY ?_ | (refine sA rfl rfl ?_; intro _) | refine sT rfl ?_ | refine sF rfl ?_ | (refine sR rfl ?_ ?_; focus omega) | (refine sB rfl rfl ?_; intro _) | (refine sN rfl rfl ?_ ?_; (focus (first | exact trivial | assumption | exact ⟨by assumption, by assumption⟩ | exact mb2 rfl rfl | exact mb4 rfl rfl rfl rfl)); intro _; (try simp only [List.cons_append, List.nil_append, List.append_nil])) | refine sW rfl rfl ?_ | refine sK rfl rfl ?_ | refine j_if rfl ?_ | refine j_else rfl ?_ | refine Go.Vt.jq (wl_pickT rfl rfl) rfl rfl ?_ | refine Go.Vt.jq (wl_pickF rfl rfl) rfl rfl ?_)
    simp only [decide_eq_false e3]
    repeat (first | refine sX rfl rfl ?_ | (refine sS rfl rfl ?_ ?_; focus omega) | (refine sC rfl rfl ?_ ?_; focus (first | exact trivial | assumption | exact ⟨by assumption, by assumption⟩ | exact mb2 rfl rfl | exact mb4 rfl rfl rfl rfl)) | refine cX ?_ | refine cY ?_ | (refine sA rfl rfl ?_; intro _) | refine sT rfl ?_ | refine sF rfl ?_ | (refine sR rfl ?_ ?_; focus omega) | (refine sB rfl rfl ?_; intro _) | (refine sN rfl rfl ?_ ?_; (focus (first | exact trivial | assumption | exact ⟨by assumption, by assumption⟩ | exact mb2 rfl rfl | exact mb4 rfl rfl rfl rfl)); intro _; (try simp only [List.cons_append, List.nil_append, List.append_nil])) | refine sW rfl rfl ?_ | refine sK rfl rfl ?_ | refine j_if rfl ?_ | refine j_else rfl ?_ | refine Go.Vt.jq (wl_pickT rfl rfl) rfl rfl ?_ | refine Go.Vt.jq (wl_pickF rfl rfl) rfl rfl ?_)
    simp only [decide_eq_false e4]
    repeat (first | refine sX rfl rfl ?_ | (refine sS rfl rfl ?_ ?_; focus omega) | (refine sC rfl rfl ?_ ?_; focus (exact ⟨g1, g2, g3, g4⟩)) | refine cX ?_ | refine cY ?_ | (refine sA rfl rfl ?_; intro _) | refine sT rfl ?_ | refine sF rfl ?_ | (refine sR rfl ?_ ?_; focus omega) | (refine sB rfl rfl ?_; intro _) | (refine sN rfl rfl ?_ ?_; (focus (exact ⟨g1, g2, g3, g4⟩)); intro _; (try simp only [List.cons_append, List.nil_append, List.append_nil])) | refine sW rfl rfl ?_ | refine sK rfl rfl ?_ | refine j_if rfl ?_ | refine j_else rfl ?_ | refine Go.Vt.jq (wl_pickT rfl rfl) rfl rfl ?_ | refine Go.Vt.jq (wl_pickF rfl rfl) rfl rfl ?_)
    exact jx_ret_two rfl (wr_cell rfl) (resv_tmp rfl) (fun w hw => ret_ok hw)⟩
instance (priority := low) sm_same' (w0 : World) (L : List Blk) (a b ca cb n m : Nat) (xs ys : List Int) (spx spy : List Value) (Tx Ty : TypeId) [h1 : AtC w0 L a (row (eI .i64) xs spx) Tx] [h2 : AtC w0 L b (row (eI .i64) ys spy) Ty] : SpecM Tryz.prog w0 L 43 [.slice (some ⟨a, 0, none⟩) n ca, .slice (some ⟨b, 0, none⟩) m cb] (.bool (decide (xs = ys))) ((n = xs.length ∧ m = ys.length) ∧ n ≤ 1099511627776) := ⟨fun hp w hw => by
  obtain ⟨⟨rfl, rfl⟩, hp⟩ := hp
  exact same_spec a b ca cb xs ys spx spy Tx Ty hp w (h1.out w hw) (h2.out w hw)⟩
theorem bnd_of {pts : List R_movingpoint_Sample} (h : ∀ x ∈ pts, M x.T ≤ PB ∧ M x.P.X ≤ PB ∧ M x.P.Y ≤ PB) : Bnd pts := fun i => by
  by_cases hi : i.toNat < pts.length
  · rw [gi_eq hi]
    exact h _ (List.getElem_mem hi)
  · have : gi pts i = default := by unfold gi; simp only [List.getD_eq_getElem?_getD, List.getElem?_eq_none (by omega : pts.length ≤ i.toNat)]; rfl
    rw [this]
    exact ⟨by decide +kernel, by decide +kernel, by decide +kernel⟩
theorem bnd_zz : Bnd zzP := bnd_of (by decide +kernel)
theorem bnd_li : Bnd liP := bnd_of (by decide +kernel)
/-- The chapter's examples hold. -/
instance sm_known : SpecC Tryz.prog 9 [] (.bool true) True := ⟨fun _ w => by
  refine fn_intro Tryz.func9 rfl Tryz.ntmps9 rfl ?_
  have r1 : RunOk zzP 5 5 := ⟨rfl, Nat.le_refl _, by decide, bnd_zz⟩
  have r2 : RunOk liP 3 3 := ⟨rfl, Nat.le_refl _, by decide, bnd_li⟩
  repeat (first | refine sX rfl rfl ?_ | (refine sS rfl rfl ?_ ?_; focus omega) | (refine sC rfl rfl ?_ ?_; focus (first | exact trivial | exact ⟨by omega, by omega⟩ | exact ⟨⟨by omega, by omega⟩, ⟨by omega, by omega⟩⟩ | exact ⟨⟨by omega, by omega⟩, ⟨by omega, by omega⟩, ⟨by omega, by omega⟩⟩ | exact ⟨r1, by decide, by decide +kernel, by decide +kernel⟩ | exact ⟨r2, by decide, by decide, by decide⟩)) | refine cX ?_ | refine cY ?_ | (refine sA rfl rfl ?_; intro _) | refine sT rfl ?_ | refine sF rfl ?_ | (refine sR rfl ?_ ?_; focus omega) | (refine sB rfl rfl ?_; intro _) | (refine sN rfl rfl ?_ ?_; (focus (first | exact trivial | exact ⟨by omega, by omega⟩ | exact ⟨⟨by omega, by omega⟩, ⟨by omega, by omega⟩⟩ | exact ⟨⟨by omega, by omega⟩, ⟨by omega, by omega⟩, ⟨by omega, by omega⟩⟩ | exact ⟨r1, by decide, by decide +kernel, by decide +kernel⟩ | exact ⟨r2, by decide, by decide, by decide⟩)); intro _; (try simp only [List.cons_append, List.nil_append, List.append_nil])) | refine sW rfl rfl ?_ | refine sK rfl rfl ?_ | refine j_if rfl ?_ | refine j_else rfl ?_ | refine Go.Vt.jq (wl_pickT rfl rfl) rfl rfl ?_ | refine Go.Vt.jq (wl_pickF rfl rfl) rfl rfl ?_)
  rename_i bh bz sa
  obtain ⟨⟨ba, ca, spa⟩, ha⟩ := sa
  simp only [kn_a] at ha ⊢
  (refine j_late3 [1] [0, 2] [3, 4, 5, 6, 7] ([⟨ba, row (eI .i64) [0, 4] spa, 3⟩, ⟨bh, e_api_Rat (Q (Rat.divInt 1 2)), 28⟩]) mixed (by kernel_rfl) (by decide) (by repeat (first | exact List.Sublist.refl _ | exact List.nil_sublist _ | refine List.Sublist.cons_cons _ ?_ | refine List.Sublist.cons _ ?_ | refine List.Sublist.trans ?_ (List.sublist_append_right _ _))) ?_; simp only [picks, List.getElem?_cons_succ, List.getElem?_cons_zero])
  repeat (first | refine tX rfl rfl ?_ | (refine tS rfl rfl ?_ ?_; focus omega) | (refine tC rfl rfl ?_ ?_; focus (first | exact trivial | exact ⟨by omega, by omega⟩ | exact ⟨⟨by omega, by omega⟩, ⟨by omega, by omega⟩⟩ | exact ⟨⟨by omega, by omega⟩, ⟨by omega, by omega⟩, ⟨by omega, by omega⟩⟩ | exact ⟨r1, by decide, by decide +kernel, by decide +kernel⟩ | exact ⟨r2, by decide, by decide, by decide⟩)) | refine tW rfl rfl ?_ | refine tK rfl rfl ?_ | refine Go.Vt.hq (wl_pickT rfl rfl) rfl rfl ?_ | refine Go.Vt.hq (wl_pickF rfl rfl) rfl rfl ?_)
  refine jh_nil ?_
  refine eN rfl rfl trivial ?_
  intro bz2
  simp only [List.cons_append, List.nil_append]
  refine eN rfl rfl ⟨r1, by decide, by decide +kernel, by decide +kernel⟩ ?_
  intro sb
  simp only [List.cons_append, List.nil_append]
  refine je_nil ?_
  repeat (first | refine tX rfl rfl ?_ | (refine tS rfl rfl ?_ ?_; focus omega) | (refine tC rfl rfl ?_ ?_; focus (first | exact trivial | exact ⟨by omega, by omega⟩ | exact ⟨⟨by omega, by omega⟩, ⟨by omega, by omega⟩⟩ | exact ⟨⟨by omega, by omega⟩, ⟨by omega, by omega⟩, ⟨by omega, by omega⟩⟩ | exact ⟨r1, by decide, by decide +kernel, by decide +kernel⟩ | exact ⟨r2, by decide, by decide, by decide⟩)) | refine tW rfl rfl ?_ | refine tK rfl rfl ?_ | refine Go.Vt.hq (wl_pickT rfl rfl) rfl rfl ?_ | refine Go.Vt.hq (wl_pickF rfl rfl) rfl rfl ?_)
  refine jh_nil ?_
  obtain ⟨⟨bb, cb, spb⟩, hb⟩ := sb
  simp only [kn_b] at hb ⊢
  repeat (first | refine sX rfl rfl ?_ | (refine sS rfl rfl ?_ ?_; focus omega) | (refine sC rfl rfl ?_ ?_; focus (first | exact trivial | exact ⟨by omega, by omega⟩ | exact ⟨⟨by omega, by omega⟩, ⟨by omega, by omega⟩⟩ | exact ⟨⟨by omega, by omega⟩, ⟨by omega, by omega⟩, ⟨by omega, by omega⟩⟩ | exact ⟨r1, by decide, by decide +kernel, by decide +kernel⟩ | exact ⟨r2, by decide, by decide, by decide⟩)) | refine cX ?_ | refine cY ?_ | (refine sA rfl rfl ?_; intro _) | refine sT rfl ?_ | refine sF rfl ?_ | (refine sR rfl ?_ ?_; focus omega) | (refine sB rfl rfl ?_; intro _) | (refine sN rfl rfl ?_ ?_; (focus (first | exact trivial | exact ⟨by omega, by omega⟩ | exact ⟨⟨by omega, by omega⟩, ⟨by omega, by omega⟩⟩ | exact ⟨⟨by omega, by omega⟩, ⟨by omega, by omega⟩, ⟨by omega, by omega⟩⟩ | exact ⟨r1, by decide, by decide +kernel, by decide +kernel⟩ | exact ⟨r2, by decide, by decide, by decide⟩)); intro _; (try simp only [List.cons_append, List.nil_append, List.append_nil])) | refine sW rfl rfl ?_ | refine sK rfl rfl ?_ | refine j_if rfl ?_ | refine j_else rfl ?_ | refine Go.Vt.jq (wl_pickT rfl rfl) rfl rfl ?_ | refine Go.Vt.jq (wl_pickF rfl rfl) rfl rfl ?_)
  rename_i bp bq br
  rw [show dv _ (Int.toNat 0) (Int.toNat 2) (Int.toNat 2 - Int.toNat 0 - 1) = ((1 : Int) : Rat) from kn_d]
  (refine j_phases [([0, 1, 2, 3], [4, 5, 6, 7, 8, 9, 10, 11]), ([12], [13, 14, 15, 16, 17, 18, 19, 20]), ([21], [22, 23, 24, 25])] ([⟨br, e_api_Rat (Q ((1 : Int) : Rat)), 28⟩, ⟨bb, row (eI .i64) [0, 1, 2, 3, 4] spb, 3⟩, ⟨ba, row (eI .i64) [0, 4] spa, 3⟩]) mixed (by kernel_rfl) (by repeat (first | exact List.Sublist.refl _ | exact List.nil_sublist _ | refine List.Sublist.cons_cons _ ?_ | refine List.Sublist.cons _ ?_ | refine List.Sublist.trans ?_ (List.sublist_append_right _ _))) ?_; simp only [JP, picks, List.getElem?_cons_succ, List.getElem?_cons_zero])
  repeat (first | refine tX rfl rfl ?_ | (refine tS rfl rfl ?_ ?_; focus omega) | (refine tC rfl rfl ?_ ?_; focus (first | exact trivial | exact ⟨by omega, by omega⟩ | exact ⟨⟨by omega, by omega⟩, ⟨by omega, by omega⟩⟩ | exact ⟨⟨by omega, by omega⟩, ⟨by omega, by omega⟩, ⟨by omega, by omega⟩⟩ | exact ⟨r1, by decide, by decide +kernel, by decide +kernel⟩ | exact ⟨r2, by decide, by decide, by decide⟩)) | refine tW rfl rfl ?_ | refine tK rfl rfl ?_ | refine Go.Vt.hq (wl_pickT rfl rfl) rfl rfl ?_ | refine Go.Vt.hq (wl_pickF rfl rfl) rfl rfl ?_)
  simp only [decide_eq_true (show (0 : Int) = 0 from rfl)]
  repeat (first | refine tX rfl rfl ?_ | (refine tS rfl rfl ?_ ?_; focus omega) | (refine tC rfl rfl ?_ ?_; focus (first | exact trivial | exact ⟨by omega, by omega⟩)) | refine tW rfl rfl ?_ | refine tK rfl rfl ?_ | refine Go.Vt.hq (wl_pickT rfl rfl) rfl rfl ?_ | refine Go.Vt.hq (wl_pickF rfl rfl) rfl rfl ?_)
  repeat (first | refine eS rfl rfl ?_ | refine uP rfl rfl rfl rfl ?_ | refine uQ rfl rfl rfl rfl ?_ | refine eX rfl rfl ?_ | (refine uS rfl rfl ?_ ?_; focus omega) | (refine uC rfl rfl ?_ ?_; focus (first | exact trivial | exact ⟨by omega, by omega⟩ | exact ⟨⟨rfl, rfl⟩, by decide⟩)) | refine uW rfl rfl ?_ | refine eF rfl ?_ | refine eT rfl ?_ | (refine eA rfl rfl ?_; intro _) | (refine eB rfl rfl ?_; intro _) | (refine eN rfl rfl ?_ ?_; (focus (first | exact trivial | exact ⟨by omega, by omega⟩ | exact ⟨⟨rfl, rfl⟩, by decide⟩)); intro _; (try simp only [List.cons_append, List.nil_append, List.append_nil])) | refine je_nil ?_ | refine tX rfl rfl ?_ | (refine tS rfl rfl ?_ ?_; focus omega) | (refine tC rfl rfl ?_ ?_; focus (first | exact trivial | exact ⟨by omega, by omega⟩ | exact ⟨⟨rfl, rfl⟩, by decide⟩)) | refine tW rfl rfl ?_ | refine tK rfl rfl ?_ | refine Go.Vt.hq (wl_pickT rfl rfl) rfl rfl ?_ | refine Go.Vt.hq (wl_pickF rfl rfl) rfl rfl ?_ | refine jh_nil ?_)
  repeat (first | refine sX rfl rfl ?_ | (refine sS rfl rfl ?_ ?_; focus omega) | (refine sC rfl rfl ?_ ?_; focus (first | exact trivial | assumption | exact ⟨by assumption, by assumption⟩ | exact mb2 rfl rfl | exact mb4 rfl rfl rfl rfl)) | refine cX ?_ | refine cY ?_ | (refine sA rfl rfl ?_; intro _) | refine sT rfl ?_ | refine sF rfl ?_ | (refine sR rfl ?_ ?_; focus omega) | (refine sB rfl rfl ?_; intro _) | (refine sN rfl rfl ?_ ?_; (focus (first | exact trivial | assumption | exact ⟨by assumption, by assumption⟩ | exact mb2 rfl rfl | exact mb4 rfl rfl rfl rfl)); intro _; (try simp only [List.cons_append, List.nil_append, List.append_nil])) | refine sW rfl rfl ?_ | refine sK rfl rfl ?_ | refine j_if rfl ?_ | refine j_else rfl ?_ | refine Go.Vt.jq (wl_pickT rfl rfl) rfl rfl ?_ | refine Go.Vt.jq (wl_pickF rfl rfl) rfl rfl ?_)
  exact jx_ret_tmp rfl rfl (fun w hw => by rw [decide_eq_true (show ((1 : Int) : Rat) = ((1 : Int) : Rat) from rfl)]; exact ret_ok hw)⟩
end Go.Vt
/- Facts about the decoded run. Conditions: those that each statement names. -/
set_option linter.unusedSimpArgs false
set_option linter.unusedVariables false
set_option maxRecDepth 100000
namespace Go.Vt
open Go.RowKit Go.Proofs
theorem M_small {n : Int} (h : 0 ≤ n ∧ n < 256) : M (n : Rat) ≤ 1 := by
  rw [M_int]
  have := mg_small (n := n) (k := 1) (by omega)
  omega
theorem pA_bnd (ws : List WStep) : ∀ m, m ≤ 7 → ∀ x ∈ (pA ws m).1, M x.T ≤ PB ∧ M x.P.X ≤ PB ∧ M x.P.Y ≤ PB
  | 0, _, x, hx => by cases hx
  | m + 1, hm, x, hx => by
    rw [pA] at hx
    rcases List.mem_append.1 hx with h | h
    · exact pA_bnd ws m (by omega) x h
    · rw [List.mem_singleton] at h
      subst h
      have h1 := pA_time ws (m + 1)
      rw [pA] at h1
      simp only at h1 ⊢
      have h2 := M_small (n := (gi ws (m : Int)).X % 32) (by omega)
      have h3 := M_small (n := (gi ws (m : Int)).Y % 32) (by omega)
      exact ⟨Nat.le_trans h1 (Nat.le_trans (show 2 * (m + 1) + 1 ≤ 100 by omega) (by decide)), Nat.le_trans h2 (by decide), Nat.le_trans h3 (by decide)⟩
theorem ptsW_bnd (ws : List WStep) : Bnd (ptsW ws) := by
  unfold ptsW
  split
  · exact bnd_of (by decide +kernel)
  · exact bnd_of (pA_bnd ws _ (by omega))
theorem ptsW_len (ws : List WStep) : 1 ≤ (ptsW ws).length ∧ (ptsW ws).length ≤ 7 := by
  unfold ptsW
  split
  · exact ⟨Nat.le_refl _, by decide⟩
  · rw [pA_len]
    omega
theorem half_pos (n : Int) (h : 0 < n) : 0 < Rat.divInt n 2 := by
  rw [Rat.divInt_eq_div]
  have h1 : (0 : Rat) < ((n : Int) : Rat) := by exact_mod_cast h
  have : ((2 : Int) : Rat) = 2 := rfl
  rw [this]
  grind
theorem pA_le (ws : List WStep) : ∀ m (i : Nat), i < m → (gi (pA ws m).1 (i : Int)).T ≤ (pA ws m).2
  | 0, i, hi => by omega
  | m + 1, i, hi => by
    have hp := half_pos (1 + (gi ws (m : Int)).Time % 8) (by omega)
    have hlen := pA_len ws m
    have hnext : (pA ws m).2 < (pA ws (m + 1)).2 := by
      rw [pA]
      simp only
      grind
    rcases (by omega : i < m ∨ i = m) with h | rfl
    · have hg : gi (pA ws (m + 1)).1 (i : Int) = gi (pA ws m).1 (i : Int) := by
        rw [pA]
        unfold gi
        simp only [Int.toNat_natCast, List.getD_eq_getElem?_getD]
        rw [List.getElem?_append_left (by omega)]
      rw [hg]
      exact Rat.le_trans (pA_le ws m i h) (Rat.le_of_lt hnext)
    · have hlast : gi (pA ws (i + 1)).1 (i : Int) = ⟨(pA ws (i + 1)).2, ⟨(((gi ws (i : Int)).X % 32 : Int) : Rat), (((gi ws (i : Int)).Y % 32 : Int) : Rat)⟩⟩ := by
        rw [pA]
        unfold gi
        simp only [Int.toNat_natCast, List.getD_eq_getElem?_getD]
        rw [List.getElem?_append_right (by omega), hlen, Nat.sub_self]
        rfl
      rw [hlast]
      exact Rat.le_refl
/-- The times of a run increase. -/
theorem pA_inc (ws : List WStep) : ∀ m (i j : Nat), i < j → j < m → (gi (pA ws m).1 (i : Int)).T < (gi (pA ws m).1 (j : Int)).T ∧ (gi (pA ws m).1 (j : Int)).T ≤ (pA ws m).2
  | 0, i, j, _, hj => by omega
  | m + 1, i, j, hij, hj => by
    have hp := half_pos (1 + (gi ws (m : Int)).Time % 8) (by omega)
    have hlen := pA_len ws m
    have hget : ∀ k : Nat, k < m → gi (pA ws (m + 1)).1 (k : Int) = gi (pA ws m).1 (k : Int) := fun k hk => by
      rw [pA]
      unfold gi
      simp only [Int.toNat_natCast, List.getD_eq_getElem?_getD]
      rw [List.getElem?_append_left (by omega)]
    have hlast : gi (pA ws (m + 1)).1 (m : Int) = ⟨(pA ws (m + 1)).2, ⟨(((gi ws (m : Int)).X % 32 : Int) : Rat), (((gi ws (m : Int)).Y % 32 : Int) : Rat)⟩⟩ := by
      rw [pA]
      unfold gi
      simp only [Int.toNat_natCast, List.getD_eq_getElem?_getD]
      rw [List.getElem?_append_right (by omega), hlen, Nat.sub_self]
      rfl
    have hnext : (pA ws m).2 < (pA ws (m + 1)).2 := by
      rw [pA]
      simp only
      grind
    rcases (by omega : j < m ∨ j = m) with h | rfl
    · rw [hget i (by omega), hget j h]
      have h3 := pA_inc ws m i j hij h
      exact ⟨h3.1, Rat.le_trans h3.2 (Rat.le_of_lt hnext)⟩
    · rw [hget i hij, hlast]
      refine ⟨?_, Rat.le_refl⟩
      have h4 : (gi (pA ws j).1 (i : Int)).T ≤ (pA ws j).2 := pA_le ws j i hij
      simp only
      grind
theorem ptsW_inc (ws : List WStep) (i j : Nat) (hij : i < j) (hj : j < (ptsW ws).length) : (gi (ptsW ws) (i : Int)).T < (gi (ptsW ws) (j : Int)).T := by
  unfold ptsW at hj ⊢
  split
  · rename_i h
    rw [if_pos h] at hj
    simp only [List.length_singleton] at hj
    omega
  · rename_i h
    rw [if_neg h, pA_len] at hj
    exact (pA_inc ws _ i j hij hj).1
end Go.Vt
/- A cut behind the operations that are being walked. Conditions: none. -/
set_option linter.unusedSimpArgs false
set_option linter.unusedVariables false
namespace Go.Vt
open Go.RowKit
section
variable {P : Program} {w0 : World} {n : Nat} {ops : Array Oper} {L : List Blk} {E : Env} {Q Q' : Exit → Act → World → Prop}
theorem letsOut_mono (hq : ∀ e a w, Q e a w → Q' e a w) (h : LetsOut Q) : LetsOut Q' := by
  obtain ⟨a, w, h⟩ := h
  exact ⟨a, w, hq _ _ _ h⟩
theorem oper_mono2 {o : Oper} {a : Act} {w : World} {K K' : Act → World → Prop} (hk : ∀ a w, K a w → K' a w) (hq : ∀ e a w, Q e a w → Q' e a w) (hh : o.wp P a w K Q) : o.wp P a w K' Q' := by
  unfold Oper.wp at *
  generalize (execOp a.eval o).run P w = r at *
  cases r with
  | ok x w' =>
    cases x <;> simp only [Oper.upon] at hh ⊢
    case value v => exact hk _ _ hh
    case skip => exact hk _ _ hh
    case defer d => exact hk _ _ hh
    case enter f args =>
      refine Calls.mono hh fun e w'' he => ?_
      cases e with
      | returned v => exact hk _ _ he
      | panicked c => exact hq _ _ _ he
      | outgrown => exact letsOut_mono hq he
    case row r args => exact Rows.mono hh fun _ _ he => hk _ _ he
  | halt x w' =>
    cases x <;> simp only [Oper.upon] at hh ⊢
    case panic v => exact hq _ _ _ hh
theorem wpList_mono2 (hq : ∀ e a w, Q e a w → Q' e a w) : ∀ (l : List Oper) (a : Act) (w : World), wpList P ops Q l a w → wpList P ops Q' l a w
  | [], a, w, h => hq _ _ _ h
  | o :: l, a, w, h => by
    unfold wpList at *
    split
    · rename_i hw
      rw [if_pos hw] at h
      rcases h with h | h
      · exact .inl (oper_mono2 (wpList_mono2 hq l) hq h)
      · exact .inr ⟨h.1, letsOut_mono hq h.2⟩
    · rename_i hw
      rw [if_neg hw] at h
      exact wpList_mono2 hq l _ _ h
theorem jo_cut {S : Type} (I : S → Prop) (Es : S → Env) (Ls : S → List Blk) {l : List Oper} {y : Code} (h1 : JO P w0 n ops (MidQ w0 n I Es Ls (fun _ _ => True) Q) l E L) (h2 : ∀ s, I s → J P w0 n y Q (Es s) (Ls s)) : JO P w0 n ops (Then P y Q) l E L := ⟨fun a w ha hw => by
  refine wpList_mono2 (fun e a' w' hq => ?_) l a w (h1.out a w ha hw)
  cases e with
  | normal => obtain ⟨⟨s, hs, hr, ho⟩, _⟩ := hq; exact (h2 s hs).out a' w' hr ho
  | _ => exact hq⟩
end
end Go.Vt
/- SimplifyDeviates, walked. Conditions: those that each statement names. -/
set_option linter.unusedSimpArgs false
set_option linter.unusedVariables false
set_option maxRecDepth 100000
namespace Go.Vt
open Go.RowKit Go.Proofs
/-- A deviation, or the error. -/
def dev2V (pts : List SS) (i j : Int) : Rat × Int := if i = 0 ∧ j = 0 ∧ pts.length = 1 then (0, 0) else if i < 0 ∨ j ≤ i ∨ (pts.length : Int) ≤ j then (0, 2) else (dv pts i.toNat j.toNat (j.toNat - i.toNat - 1), 0)
instance (priority := high) sm_dev2' (w0 : World) (L : List Blk) (I : R_api_Interval) (b n c : Nat) (i j : Int) (pts : List SS) (sp : List Value) (T : TypeId) [h : AtC w0 L b (row r_movingpoint_Sample pts sp) T] : SpecM Tryz.prog w0 L 11 [vRun I b n c, .int .i64 i, .int .i64 j] (.tuple #[vQ (dev2V pts i j).1, .int .i64 (dev2V pts i j).2]) (pts.length = n ∧ n ≤ c ∧ n ≤ 1099511627776 ∧ Bnd pts) := ⟨fun hp w hw => by
  obtain ⟨g1, g2, g3, g4⟩ := hp
  have := FoC.mk (h.out w hw)
  have bad : ¬ (i = 0 ∧ j = 0 ∧ pts.length = 1) → (i < 0 ∨ j ≤ i ∨ (pts.length : Int) ≤ j) → dev2V pts i j = (0, 2) := fun h1 h2 => by unfold dev2V; rw [if_neg h1, if_pos h2]
  have good : ¬ (i = 0 ∧ j = 0 ∧ pts.length = 1) → ¬ (i < 0 ∨ j ≤ i ∨ (pts.length : Int) ≤ j) → dev2V pts i j = (dv pts i.toNat j.toNat (j.toNat - i.toNat - 1), 0) := fun h1 h2 => by unfold dev2V; rw [if_neg h1, if_neg h2]
  refine fn_intro Tryz.func11 rfl Tryz.ntmps11 rfl ?_
  refine j_seq ?_
  refine j_region ?_
  repeat (first | refine sX rfl rfl ?_ | (refine sS rfl rfl ?_ ?_; focus omega) | (refine sC rfl rfl ?_ ?_; focus (first | exact trivial | assumption | exact ⟨by assumption, by assumption⟩ | exact mb2 rfl rfl | exact mb4 rfl rfl rfl rfl)) | (refine sA rfl rfl ?_; intro _) | refine sT rfl ?_ | refine sW rfl rfl ?_ | refine sK rfl rfl ?_ | refine cY ?_ | refine Go.Vt.jq (wl_pickT rfl rfl) rfl rfl ?_ | refine Go.Vt.jq (wl_pickF rfl rfl) rfl rfl ?_)
  rename_i b3 b6
  refine j_seq ?_
  refine j_seq ?_
  refine j_cut (S := Bool) (fun v => v = (decide (i = 0) && (decide (j = 0) && decide ((n : Int) = 1)))) (fun v => [(19, .bool v), (1, .int .i64 i), (2, .int .i64 j), (3, .pointer (some ⟨b3, 0, none⟩)), (6, .pointer (some ⟨b6, 0, none⟩))]) (fun _ => [⟨b6, e_api_Rat (Q 0), 28⟩, ⟨b3, cRun I b n c, 35⟩]) ?_ (fun v hv => ?_)
  · repeat (first | refine sX rfl rfl ?_ | (refine sS rfl rfl ?_ ?_; focus omega) | (refine sC rfl rfl ?_ ?_; focus (first | exact trivial | assumption | exact ⟨by assumption, by assumption⟩ | exact mb2 rfl rfl | exact mb4 rfl rfl rfl rfl)) | refine cX ?_ | refine cY ?_ | (refine sA rfl rfl ?_; intro _) | refine sT rfl ?_ | refine sF rfl ?_ | (refine sR rfl ?_ ?_; focus omega) | (refine sB rfl rfl ?_; intro _) | (refine sN rfl rfl ?_ ?_; (focus (first | exact trivial | assumption | exact ⟨by assumption, by assumption⟩ | exact mb2 rfl rfl | exact mb4 rfl rfl rfl rfl)); intro _; (try simp only [List.cons_append, List.nil_append, List.append_nil])) | refine sW rfl rfl ?_ | refine sK rfl rfl ?_ | refine j_if rfl ?_ | refine j_else rfl ?_ | refine Go.Vt.jq (wl_pickT rfl rfl) rfl rfl ?_ | refine Go.Vt.jq (wl_pickF rfl rfl) rfl rfl ?_)
    rcases h1 : decide (i = 0) with _ | _
    · repeat (first | refine sX rfl rfl ?_ | (refine sS rfl rfl ?_ ?_; focus omega) | (refine sC rfl rfl ?_ ?_; focus (first | exact trivial | assumption | exact ⟨by assumption, by assumption⟩ | exact mb2 rfl rfl | exact mb4 rfl rfl rfl rfl)) | refine cX ?_ | refine cY ?_ | (refine sA rfl rfl ?_; intro _) | refine sT rfl ?_ | refine sF rfl ?_ | (refine sR rfl ?_ ?_; focus omega) | (refine sB rfl rfl ?_; intro _) | (refine sN rfl rfl ?_ ?_; (focus (first | exact trivial | assumption | exact ⟨by assumption, by assumption⟩ | exact mb2 rfl rfl | exact mb4 rfl rfl rfl rfl)); intro _; (try simp only [List.cons_append, List.nil_append, List.append_nil])) | refine sW rfl rfl ?_ | refine sK rfl rfl ?_ | refine j_if rfl ?_ | refine j_else rfl ?_ | refine Go.Vt.jq (wl_pickT rfl rfl) rfl rfl ?_ | refine Go.Vt.jq (wl_pickF rfl rfl) rfl rfl ?_)
      exact jx_mid false rfl (by repeat (first | exact sub_nil | refine sub_cons rfl ?_ | refine sub_cons' rfl (by congr 1; omega) ?_)) (by repeat (first | exact List.Sublist.refl _ | exact List.nil_sublist _ | refine List.Sublist.cons_cons _ ?_ | refine List.Sublist.cons _ ?_))
    · repeat (first | refine sX rfl rfl ?_ | (refine sS rfl rfl ?_ ?_; focus omega) | (refine sC rfl rfl ?_ ?_; focus (first | exact trivial | assumption | exact ⟨by assumption, by assumption⟩ | exact mb2 rfl rfl | exact mb4 rfl rfl rfl rfl)) | refine cX ?_ | refine cY ?_ | (refine sA rfl rfl ?_; intro _) | refine sT rfl ?_ | refine sF rfl ?_ | (refine sR rfl ?_ ?_; focus omega) | (refine sB rfl rfl ?_; intro _) | (refine sN rfl rfl ?_ ?_; (focus (first | exact trivial | assumption | exact ⟨by assumption, by assumption⟩ | exact mb2 rfl rfl | exact mb4 rfl rfl rfl rfl)); intro _; (try simp only [List.cons_append, List.nil_append, List.append_nil])) | refine sW rfl rfl ?_ | refine sK rfl rfl ?_ | refine j_if rfl ?_ | refine j_else rfl ?_ | refine Go.Vt.jq (wl_pickT rfl rfl) rfl rfl ?_ | refine Go.Vt.jq (wl_pickF rfl rfl) rfl rfl ?_)
      rcases h2 : decide (j = 0) with _ | _
      · repeat (first | refine sX rfl rfl ?_ | (refine sS rfl rfl ?_ ?_; focus omega) | (refine sC rfl rfl ?_ ?_; focus (first | exact trivial | assumption | exact ⟨by assumption, by assumption⟩ | exact mb2 rfl rfl | exact mb4 rfl rfl rfl rfl)) | refine cX ?_ | refine cY ?_ | (refine sA rfl rfl ?_; intro _) | refine sT rfl ?_ | refine sF rfl ?_ | (refine sR rfl ?_ ?_; focus omega) | (refine sB rfl rfl ?_; intro _) | (refine sN rfl rfl ?_ ?_; (focus (first | exact trivial | assumption | exact ⟨by assumption, by assumption⟩ | exact mb2 rfl rfl | exact mb4 rfl rfl rfl rfl)); intro _; (try simp only [List.cons_append, List.nil_append, List.append_nil])) | refine sW rfl rfl ?_ | refine sK rfl rfl ?_ | refine j_if rfl ?_ | refine j_else rfl ?_ | refine Go.Vt.jq (wl_pickT rfl rfl) rfl rfl ?_ | refine Go.Vt.jq (wl_pickF rfl rfl) rfl rfl ?_)
        exact jx_mid false rfl (by repeat (first | exact sub_nil | refine sub_cons rfl ?_ | refine sub_cons' rfl (by congr 1; omega) ?_)) (by repeat (first | exact List.Sublist.refl _ | exact List.nil_sublist _ | refine List.Sublist.cons_cons _ ?_ | refine List.Sublist.cons _ ?_))
      · repeat (first | refine sX rfl rfl ?_ | (refine sS rfl rfl ?_ ?_; focus omega) | (refine sC rfl rfl ?_ ?_; focus (first | exact trivial | assumption | exact ⟨by assumption, by assumption⟩ | exact mb2 rfl rfl | exact mb4 rfl rfl rfl rfl)) | refine cX ?_ | refine cY ?_ | (refine sA rfl rfl ?_; intro _) | refine sT rfl ?_ | refine sF rfl ?_ | (refine sR rfl ?_ ?_; focus omega) | (refine sB rfl rfl ?_; intro _) | (refine sN rfl rfl ?_ ?_; (focus (first | exact trivial | assumption | exact ⟨by assumption, by assumption⟩ | exact mb2 rfl rfl | exact mb4 rfl rfl rfl rfl)); intro _; (try simp only [List.cons_append, List.nil_append, List.append_nil])) | refine sW rfl rfl ?_ | refine sK rfl rfl ?_ | refine j_if rfl ?_ | refine j_else rfl ?_ | refine Go.Vt.jq (wl_pickT rfl rfl) rfl rfl ?_ | refine Go.Vt.jq (wl_pickF rfl rfl) rfl rfl ?_)
        exact jx_mid (decide ((n : Int) = 1)) rfl (by repeat (first | exact sub_nil | refine sub_cons rfl ?_ | refine sub_cons' rfl (by congr 1; omega) ?_)) (by repeat (first | exact List.Sublist.refl _ | exact List.nil_sublist _ | refine List.Sublist.cons_cons _ ?_ | refine List.Sublist.cons _ ?_))
  rcases v with _ | _
  · have h0 : ¬ (i = 0 ∧ j = 0 ∧ pts.length = 1) := fun ⟨k1, k2, k3⟩ => by
      rw [decide_eq_true k1, decide_eq_true k2, decide_eq_true (by omega)] at hv
      cases hv
    iterate 3 (first | refine sX rfl rfl ?_ | (refine sS rfl rfl ?_ ?_; focus omega) | (refine sC rfl rfl ?_ ?_; focus (first | exact trivial | assumption | exact ⟨by assumption, by assumption⟩ | exact mb2 rfl rfl | exact mb4 rfl rfl rfl rfl)) | refine cX ?_ | refine cY ?_ | (refine sA rfl rfl ?_; intro _) | refine sT rfl ?_ | refine sF rfl ?_ | (refine sR rfl ?_ ?_; focus omega) | (refine sB rfl rfl ?_; intro _) | (refine sN rfl rfl ?_ ?_; (focus (first | exact trivial | assumption | exact ⟨by assumption, by assumption⟩ | exact mb2 rfl rfl | exact mb4 rfl rfl rfl rfl)); intro _; (try simp only [List.cons_append, List.nil_append, List.append_nil])) | refine sW rfl rfl ?_ | refine sK rfl rfl ?_ | refine j_if rfl ?_ | refine j_else rfl ?_ | refine Go.Vt.jq (wl_pickT rfl rfl) rfl rfl ?_ | refine Go.Vt.jq (wl_pickF rfl rfl) rfl rfl ?_)
    refine j_seq ?_
    refine j_seq ?_
    refine j_cut (S := Bool) (fun v => v = (decide (i < 0) || (decide (j ≤ i) || decide ((n : Int) ≤ j)))) (fun v => [(34, .bool v), (1, .int .i64 i), (2, .int .i64 j), (3, .pointer (some ⟨b3, 0, none⟩)), (6, .pointer (some ⟨b6, 0, none⟩))]) (fun _ => [⟨b6, e_api_Rat (Q 0), 28⟩, ⟨b3, cRun I b n c, 35⟩]) ?_ (fun v hv => ?_)
    · repeat (first | refine sX rfl rfl ?_ | (refine sS rfl rfl ?_ ?_; focus omega) | (refine sC rfl rfl ?_ ?_; focus (first | exact trivial | assumption | exact ⟨by assumption, by assumption⟩ | exact mb2 rfl rfl | exact mb4 rfl rfl rfl rfl)) | refine cX ?_ | refine cY ?_ | (refine sA rfl rfl ?_; intro _) | refine sT rfl ?_ | refine sF rfl ?_ | (refine sR rfl ?_ ?_; focus omega) | (refine sB rfl rfl ?_; intro _) | (refine sN rfl rfl ?_ ?_; (focus (first | exact trivial | assumption | exact ⟨by assumption, by assumption⟩ | exact mb2 rfl rfl | exact mb4 rfl rfl rfl rfl)); intro _; (try simp only [List.cons_append, List.nil_append, List.append_nil])) | refine sW rfl rfl ?_ | refine sK rfl rfl ?_ | refine j_if rfl ?_ | refine j_else rfl ?_ | refine Go.Vt.jq (wl_pickT rfl rfl) rfl rfl ?_ | refine Go.Vt.jq (wl_pickF rfl rfl) rfl rfl ?_)
      rcases h1 : decide (i < 0) with _ | _
      · repeat (first | refine sX rfl rfl ?_ | (refine sS rfl rfl ?_ ?_; focus omega) | (refine sC rfl rfl ?_ ?_; focus (first | exact trivial | assumption | exact ⟨by assumption, by assumption⟩ | exact mb2 rfl rfl | exact mb4 rfl rfl rfl rfl)) | refine cX ?_ | refine cY ?_ | (refine sA rfl rfl ?_; intro _) | refine sT rfl ?_ | refine sF rfl ?_ | (refine sR rfl ?_ ?_; focus omega) | (refine sB rfl rfl ?_; intro _) | (refine sN rfl rfl ?_ ?_; (focus (first | exact trivial | assumption | exact ⟨by assumption, by assumption⟩ | exact mb2 rfl rfl | exact mb4 rfl rfl rfl rfl)); intro _; (try simp only [List.cons_append, List.nil_append, List.append_nil])) | refine sW rfl rfl ?_ | refine sK rfl rfl ?_ | refine j_if rfl ?_ | refine j_else rfl ?_ | refine Go.Vt.jq (wl_pickT rfl rfl) rfl rfl ?_ | refine Go.Vt.jq (wl_pickF rfl rfl) rfl rfl ?_)
        rcases h2 : decide (j ≤ i) with _ | _
        · repeat (first | refine sX rfl rfl ?_ | (refine sS rfl rfl ?_ ?_; focus omega) | (refine sC rfl rfl ?_ ?_; focus (first | exact trivial | assumption | exact ⟨by assumption, by assumption⟩ | exact mb2 rfl rfl | exact mb4 rfl rfl rfl rfl)) | refine cX ?_ | refine cY ?_ | (refine sA rfl rfl ?_; intro _) | refine sT rfl ?_ | refine sF rfl ?_ | (refine sR rfl ?_ ?_; focus omega) | (refine sB rfl rfl ?_; intro _) | (refine sN rfl rfl ?_ ?_; (focus (first | exact trivial | assumption | exact ⟨by assumption, by assumption⟩ | exact mb2 rfl rfl | exact mb4 rfl rfl rfl rfl)); intro _; (try simp only [List.cons_append, List.nil_append, List.append_nil])) | refine sW rfl rfl ?_ | refine sK rfl rfl ?_ | refine j_if rfl ?_ | refine j_else rfl ?_ | refine Go.Vt.jq (wl_pickT rfl rfl) rfl rfl ?_ | refine Go.Vt.jq (wl_pickF rfl rfl) rfl rfl ?_)
          exact jx_mid (decide ((n : Int) ≤ j)) rfl (by repeat (first | exact sub_nil | refine sub_cons rfl ?_ | refine sub_cons' rfl (by congr 1; omega) ?_)) (by repeat (first | exact List.Sublist.refl _ | exact List.nil_sublist _ | refine List.Sublist.cons_cons _ ?_ | refine List.Sublist.cons _ ?_))
        · repeat (first | refine sX rfl rfl ?_ | (refine sS rfl rfl ?_ ?_; focus omega) | (refine sC rfl rfl ?_ ?_; focus (first | exact trivial | assumption | exact ⟨by assumption, by assumption⟩ | exact mb2 rfl rfl | exact mb4 rfl rfl rfl rfl)) | refine cX ?_ | refine cY ?_ | (refine sA rfl rfl ?_; intro _) | refine sT rfl ?_ | refine sF rfl ?_ | (refine sR rfl ?_ ?_; focus omega) | (refine sB rfl rfl ?_; intro _) | (refine sN rfl rfl ?_ ?_; (focus (first | exact trivial | assumption | exact ⟨by assumption, by assumption⟩ | exact mb2 rfl rfl | exact mb4 rfl rfl rfl rfl)); intro _; (try simp only [List.cons_append, List.nil_append, List.append_nil])) | refine sW rfl rfl ?_ | refine sK rfl rfl ?_ | refine j_if rfl ?_ | refine j_else rfl ?_ | refine Go.Vt.jq (wl_pickT rfl rfl) rfl rfl ?_ | refine Go.Vt.jq (wl_pickF rfl rfl) rfl rfl ?_)
          exact jx_mid true rfl (by repeat (first | exact sub_nil | refine sub_cons rfl ?_ | refine sub_cons' rfl (by congr 1; omega) ?_)) (by repeat (first | exact List.Sublist.refl _ | exact List.nil_sublist _ | refine List.Sublist.cons_cons _ ?_ | refine List.Sublist.cons _ ?_))
      · repeat (first | refine sX rfl rfl ?_ | (refine sS rfl rfl ?_ ?_; focus omega) | (refine sC rfl rfl ?_ ?_; focus (first | exact trivial | assumption | exact ⟨by assumption, by assumption⟩ | exact mb2 rfl rfl | exact mb4 rfl rfl rfl rfl)) | refine cX ?_ | refine cY ?_ | (refine sA rfl rfl ?_; intro _) | refine sT rfl ?_ | refine sF rfl ?_ | (refine sR rfl ?_ ?_; focus omega) | (refine sB rfl rfl ?_; intro _) | (refine sN rfl rfl ?_ ?_; (focus (first | exact trivial | assumption | exact ⟨by assumption, by assumption⟩ | exact mb2 rfl rfl | exact mb4 rfl rfl rfl rfl)); intro _; (try simp only [List.cons_append, List.nil_append, List.append_nil])) | refine sW rfl rfl ?_ | refine sK rfl rfl ?_ | refine j_if rfl ?_ | refine j_else rfl ?_ | refine Go.Vt.jq (wl_pickT rfl rfl) rfl rfl ?_ | refine Go.Vt.jq (wl_pickF rfl rfl) rfl rfl ?_)
        exact jx_mid true rfl (by repeat (first | exact sub_nil | refine sub_cons rfl ?_ | refine sub_cons' rfl (by congr 1; omega) ?_)) (by repeat (first | exact List.Sublist.refl _ | exact List.nil_sublist _ | refine List.Sublist.cons_cons _ ?_ | refine List.Sublist.cons _ ?_))
    rcases v with _ | _
    · have hg : ¬ i < 0 ∧ ¬ j ≤ i ∧ ¬ (n : Int) ≤ j := by
        have := hv.symm
        simp only [Bool.or_eq_false_iff, decide_eq_false_iff_not] at this
        exact this
      rw [good h0 (by omega)]
      repeat (first | refine sX rfl rfl ?_ | (refine sS rfl rfl ?_ ?_; focus omega) | (refine sC rfl rfl ?_ ?_; focus (exact ⟨⟨g1, g2, g3, g4⟩, by omega, by omega, by omega⟩)) | refine cX ?_ | refine cY ?_ | (refine sA rfl rfl ?_; intro _) | refine sT rfl ?_ | refine sF rfl ?_ | (refine sR rfl ?_ ?_; focus omega) | (refine sB rfl rfl ?_; intro _) | (refine sN rfl rfl ?_ ?_; (focus (exact ⟨⟨g1, g2, g3, g4⟩, by omega, by omega, by omega⟩)); intro _; (try simp only [List.cons_append, List.nil_append, List.append_nil])) | refine sW rfl rfl ?_ | refine sK rfl rfl ?_ | refine j_if rfl ?_ | refine j_else rfl ?_ | refine Go.Vt.jq (wl_pickT rfl rfl) rfl rfl ?_ | refine Go.Vt.jq (wl_pickF rfl rfl) rfl rfl ?_)
      exact jx_ret_two rfl (wr_cell rfl) (resv_tmp rfl) (fun w hw => ret_ok hw)
    · have hg : i < 0 ∨ j ≤ i ∨ (n : Int) ≤ j := by
        have := hv.symm
        simp only [Bool.or_eq_true, decide_eq_true_eq] at this
        exact this
      rw [bad h0 (by omega)]
      repeat (first | refine sX rfl rfl ?_ | (refine sS rfl rfl ?_ ?_; focus omega) | (refine sC rfl rfl ?_ ?_; focus (first | exact trivial | assumption | exact ⟨by assumption, by assumption⟩ | exact mb2 rfl rfl | exact mb4 rfl rfl rfl rfl)) | refine cX ?_ | refine cY ?_ | (refine sA rfl rfl ?_; intro _) | refine sT rfl ?_ | refine sF rfl ?_ | (refine sR rfl ?_ ?_; focus omega) | (refine sB rfl rfl ?_; intro _) | (refine sN rfl rfl ?_ ?_; (focus (first | exact trivial | assumption | exact ⟨by assumption, by assumption⟩ | exact mb2 rfl rfl | exact mb4 rfl rfl rfl rfl)); intro _; (try simp only [List.cons_append, List.nil_append, List.append_nil])) | refine sW rfl rfl ?_ | refine sK rfl rfl ?_ | refine j_if rfl ?_ | refine j_else rfl ?_ | refine Go.Vt.jq (wl_pickT rfl rfl) rfl rfl ?_ | refine Go.Vt.jq (wl_pickF rfl rfl) rfl rfl ?_)
      exact jx_ret_two rfl (wr_cell rfl) (resv_tmp rfl) (fun w hw => ret_ok hw)
  · have h0 : i = 0 ∧ j = 0 ∧ (n : Int) = 1 := by
      have := hv.symm
      simp only [Bool.and_eq_true, decide_eq_true_eq] at this
      exact this
    have e : dev2V pts i j = (0, 0) := by unfold dev2V; rw [if_pos ⟨h0.1, h0.2.1, by omega⟩]
    rw [e]
    repeat (first | refine sX rfl rfl ?_ | (refine sS rfl rfl ?_ ?_; focus omega) | (refine sC rfl rfl ?_ ?_; focus (first | exact trivial | assumption | exact ⟨by assumption, by assumption⟩ | exact mb2 rfl rfl | exact mb4 rfl rfl rfl rfl)) | refine cX ?_ | refine cY ?_ | (refine sA rfl rfl ?_; intro _) | refine sT rfl ?_ | refine sF rfl ?_ | (refine sR rfl ?_ ?_; focus omega) | (refine sB rfl rfl ?_; intro _) | (refine sN rfl rfl ?_ ?_; (focus (first | exact trivial | assumption | exact ⟨by assumption, by assumption⟩ | exact mb2 rfl rfl | exact mb4 rfl rfl rfl rfl)); intro _; (try simp only [List.cons_append, List.nil_append, List.append_nil])) | refine sW rfl rfl ?_ | refine sK rfl rfl ?_ | refine j_if rfl ?_ | refine j_else rfl ?_ | refine Go.Vt.jq (wl_pickT rfl rfl) rfl rfl ?_ | refine Go.Vt.jq (wl_pickF rfl rfl) rfl rfl ?_)
    exact jx_ret_two rfl (wr_cell rfl) (resv_tmp rfl) (fun w hw => ret_ok hw)⟩
instance sr_fromS (w0 : World) (L : List Blk) (b n c : Nat) (pts : List SS) (sp : List Value) (T : TypeId) [h : AtC w0 L b (row rS pts sp) T] : SpecR Tryz.prog w0 L 13 [.slice (some ⟨b, 0, none⟩) n c] (SlS rP 36 (frS pts)) (fun s => .tuple #[vSl s, .int .i64 (frE pts)]) (fun s => mS 68 s) ((pts.length = n ∧ 1 ≤ n ∧ n ≤ 19) ∧ Bnd pts ∧ Inc pts) := ⟨fun hp w hw =>
  fromS_spec b n c pts sp T hp.1.1 hp.1.2.1 hp.1.2.2 hp.2.1 (fun i hi => hp.2.2 i (by omega)) w (h.out w hw)⟩
theorem ptsW_Inc (ws : List WStep) : Inc (ptsW ws) := fun i hi => ptsW_inc ws i (i + 1) (by omega) hi
/-- The instants that the statement looks at. -/
def insT (a b : SS) (i : Nat) : Rat := a.T + Rat.divInt (i : Int) 8 * (b.T - a.T)
theorem part_01 {i : Nat} (h : i ≤ 8) : 0 ≤ Rat.divInt (i : Int) 8 ∧ Rat.divInt (i : Int) 8 ≤ 1 := by
  have : ∀ i : Nat, i ≤ 8 → 0 ≤ Rat.divInt (i : Int) 8 ∧ Rat.divInt (i : Int) 8 ≤ 1 := by decide +kernel
  exact this i h
theorem M_part {i : Nat} (h : i ≤ 8) : M (Rat.divInt (i : Int) 8) ≤ 1 := by
  have : ∀ i : Nat, i ≤ 8 → M (Rat.divInt (i : Int) 8) ≤ 1 := by decide +kernel
  exact this i h
theorem insT_in {a b : SS} (h : a.T < b.T) {i : Nat} (hi : i ≤ 8) : a.T ≤ insT a b i ∧ insT a b i ≤ b.T := by
  obtain ⟨h1, h2⟩ := part_01 hi
  unfold insT
  have h3 : 0 ≤ Rat.divInt (i : Int) 8 * (b.T - a.T) := Rat.mul_nonneg h1 (by grind)
  have h4 : 0 ≤ (1 - Rat.divInt (i : Int) 8) * (b.T - a.T) := Rat.mul_nonneg (by grind) (by grind)
  constructor <;> grind
theorem insT_pos {a b : SS} (h : a.T < b.T) (i : Nat) : pos (stl a b) (insT a b i) = ⟨a.P.X + (b.P.X - a.P.X) * Rat.divInt (i : Int) 8, a.P.Y + (b.P.Y - a.P.Y) * Rat.divInt (i : Int) 8⟩ := by
  rw [stl_pos h]
  have hne : b.T - a.T ≠ 0 := by grind
  have : (insT a b i - a.T) / (b.T - a.T) = Rat.divInt (i : Int) 8 := by
    unfold insT
    grind
  rw [this]
/-- What is found there. -/
theorem ins_law {pts : List SS} (hB : Bnd pts) (hi : Inc pts) {f g : Nat} (hfg : f < g) (hg : g < pts.length) {i : Nat} (h8 : i ≤ 8) : ∃ q, AtC2 (frS pts) (insT (gi pts (f : Int)) (gi pts (g : Int)) i) (some q) ∧ d2 (pos q (insT (gi pts (f : Int)) (gi pts (g : Int)) i)) (pos (stl (gi pts (f : Int)) (gi pts (g : Int))) (insT (gi pts (f : Int)) (gi pts (g : Int)) i)) ≤ dv pts f g (g - f - 1) ∧ M (pos q (insT (gi pts (f : Int)) (gi pts (g : Int)) i)).X ≤ 67108864 ∧ M (pos q (insT (gi pts (f : Int)) (gi pts (g : Int)) i)).Y ≤ 67108864 := by
  have hfl := hi.lt hfg hg
  obtain ⟨h1, h2⟩ := insT_in hfl h8
  obtain ⟨k, k1, k2, k3, k4⟩ := way_at hi hfg hg h1 h2
  obtain ⟨-, hnf, -, hhas⟩ := frS_law hB hi (by omega)
  obtain ⟨r, r1, r2⟩ := atr_ex hnf (insT (gi pts (f : Int)) (gi pts (g : Int)) i)
  have hh := sgW_has hi (m := pts.length - 1) (by omega) (i := k) (by omega) k3 k4
  have hr := (r2 _).1 ((hhas _ _).2 hh)
  cases r with
  | none => cases hr
  | some q =>
    simp only [Option.map_some, Option.some.injEq] at hr
    refine ⟨q, ⟨cut_ex hnf _, r1⟩, ?_⟩
    rw [hr]
    have g1 : ∀ i, MB (gi pts i).T PB := fun i => ⟨(hB i).1⟩
    have g2 : ∀ i, MB (gi pts i).P.X PB := fun i => ⟨(hB i).2.1⟩
    have g3 : ∀ i, MB (gi pts i).P.Y PB := fun i => ⟨(hB i).2.2⟩
    have g4 := MB.mk (M_part h8)
    refine ⟨dev_law hi hfg hg k1 k2 k3 k4, ?_, ?_⟩
    · unfold insT
      exact MB.lt rfl
    · unfold insT
      exact MB.lt rfl
set_option maxHeartbeats 2000000 in
theorem devs_spec (v : Value) (ws : List WStep) (f g : Int) (hws : WOk ws) (w : World) (hv : ArgS w v e_st_Time_X_Y ws) (hlen : ws.length ≤ 9223372036854775807) (hf : -9223372036854775808 ≤ f ∧ f ≤ 9223372036854775807) (hg : -9223372036854775808 ≤ g ∧ g ≤ 9223372036854775807) :
    Calls Tryz.prog 3 [v, .int .i64 f, .int .i64 g].toArray w (Ret (.bool true) w) := by
  have := ArgC.mk hv
  have hB := ptsW_bnd ws
  have hi := ptsW_Inc ws
  have hl := ptsW_len ws
  refine fn_intro Tryz.func3 rfl Tryz.ntmps3 rfl ?_
  repeat (first | refine sX rfl rfl ?_ | (refine sS rfl rfl ?_ ?_; focus omega) | (refine sC rfl rfl ?_ ?_; focus (first | exact trivial | exact ⟨⟨by omega, by omega⟩, hws, hlen⟩)) | refine cX ?_ | refine cY ?_ | (refine sA rfl rfl ?_; intro _) | refine sT rfl ?_ | refine sF rfl ?_ | (refine sR rfl ?_ ?_; focus omega) | (refine sB rfl rfl ?_; intro _) | (refine sN rfl rfl ?_ ?_; (focus (first | exact trivial | exact ⟨⟨by omega, by omega⟩, hws, hlen⟩)); intro _; (try simp only [List.cons_append, List.nil_append, List.append_nil])) | refine sW rfl rfl ?_ | refine sK rfl rfl ?_ | refine j_if rfl ?_ | refine j_else rfl ?_ | refine Go.Vt.jq (wl_pickT rfl rfl) rfl rfl ?_ | refine Go.Vt.jq (wl_pickF rfl rfl) rfl rfl ?_)
  rename_i s b7
  obtain ⟨⟨bp, cp, spp⟩, hs⟩ := s
  simp only at hs ⊢
  obtain ⟨pts, hpts⟩ : ∃ pts, pts = ptsW ws := ⟨_, rfl⟩
  simp only [← hpts] at hB hi hl hs ⊢
  repeat (first | refine sX rfl rfl ?_ | (refine sS rfl rfl ?_ ?_; focus omega) | (refine sC rfl rfl ?_ ?_; focus (exact ⟨rfl, hs, by omega, hB⟩)) | refine cX ?_ | refine cY ?_ | (refine sA rfl rfl ?_; intro _) | refine sT rfl ?_ | refine sF rfl ?_ | (refine sR rfl ?_ ?_; focus omega) | (refine sB rfl rfl ?_; intro _) | (refine sN rfl rfl ?_ ?_; (focus (exact ⟨rfl, hs, by omega, hB⟩)); intro _; (try simp only [List.cons_append, List.nil_append, List.append_nil])) | refine sW rfl rfl ?_ | refine sK rfl rfl ?_ | refine j_if rfl ?_ | refine j_else rfl ?_ | refine Go.Vt.jq (wl_pickT rfl rfl) rfl rfl ?_ | refine Go.Vt.jq (wl_pickF rfl rfl) rfl rfl ?_)
  rename_i b8
  refine jo_cut (S := Bool) (fun v => v = (decide ((pts.length : Int) = 1) && (decide (f = 0) && decide (g = 0)))) (fun v => [(44, .bool v), (1, .int .i64 f), (2, .int .i64 g), (6, .bool false), (7, .pointer (some ⟨b7, 0, none⟩)), (8, .pointer (some ⟨b8, 0, none⟩)), (9, .int .i64 (dev2V pts f g).2), (10, .int .i64 pts.length)]) (fun _ => [⟨b8, e_api_Rat (Q (dev2V pts f g).1), 28⟩, ⟨b7, cRun (runI pts 0) bp pts.length cp, 35⟩, ⟨bp, row rS pts spp, 47⟩]) ?_ (fun v hv => ?_)
  · rcases h1 : decide ((pts.length : Int) = 1) with _ | _
    · repeat (first | refine sX rfl rfl ?_ | (refine sS rfl rfl ?_ ?_; focus omega) | (refine sC rfl rfl ?_ ?_; focus (first | exact trivial | assumption | exact ⟨by assumption, by assumption⟩ | exact mb2 rfl rfl | exact mb4 rfl rfl rfl rfl)) | refine cX ?_ | refine cY ?_ | (refine sA rfl rfl ?_; intro _) | refine sT rfl ?_ | refine sF rfl ?_ | (refine sR rfl ?_ ?_; focus omega) | (refine sB rfl rfl ?_; intro _) | (refine sN rfl rfl ?_ ?_; (focus (first | exact trivial | assumption | exact ⟨by assumption, by assumption⟩ | exact mb2 rfl rfl | exact mb4 rfl rfl rfl rfl)); intro _; (try simp only [List.cons_append, List.nil_append, List.append_nil])) | refine sW rfl rfl ?_ | refine sK rfl rfl ?_ | refine j_if rfl ?_ | refine j_else rfl ?_ | refine Go.Vt.jq (wl_pickT rfl rfl) rfl rfl ?_ | refine Go.Vt.jq (wl_pickF rfl rfl) rfl rfl ?_)
      exact jx_mid false rfl (by repeat (first | exact sub_nil | refine sub_cons rfl ?_ | refine sub_cons' rfl (by congr 1; omega) ?_)) (by repeat (first | exact List.Sublist.refl _ | exact List.nil_sublist _ | refine List.Sublist.cons_cons _ ?_ | refine List.Sublist.cons _ ?_))
    · repeat (first | refine sX rfl rfl ?_ | (refine sS rfl rfl ?_ ?_; focus omega) | (refine sC rfl rfl ?_ ?_; focus (first | exact trivial | assumption | exact ⟨by assumption, by assumption⟩ | exact mb2 rfl rfl | exact mb4 rfl rfl rfl rfl)) | refine cX ?_ | refine cY ?_ | (refine sA rfl rfl ?_; intro _) | refine sT rfl ?_ | refine sF rfl ?_ | (refine sR rfl ?_ ?_; focus omega) | (refine sB rfl rfl ?_; intro _) | (refine sN rfl rfl ?_ ?_; (focus (first | exact trivial | assumption | exact ⟨by assumption, by assumption⟩ | exact mb2 rfl rfl | exact mb4 rfl rfl rfl rfl)); intro _; (try simp only [List.cons_append, List.nil_append, List.append_nil])) | refine sW rfl rfl ?_ | refine sK rfl rfl ?_ | refine j_if rfl ?_ | refine j_else rfl ?_ | refine Go.Vt.jq (wl_pickT rfl rfl) rfl rfl ?_ | refine Go.Vt.jq (wl_pickF rfl rfl) rfl rfl ?_)
      rcases h2 : decide (f = 0) with _ | _
      · repeat (first | refine sX rfl rfl ?_ | (refine sS rfl rfl ?_ ?_; focus omega) | (refine sC rfl rfl ?_ ?_; focus (first | exact trivial | assumption | exact ⟨by assumption, by assumption⟩ | exact mb2 rfl rfl | exact mb4 rfl rfl rfl rfl)) | refine cX ?_ | refine cY ?_ | (refine sA rfl rfl ?_; intro _) | refine sT rfl ?_ | refine sF rfl ?_ | (refine sR rfl ?_ ?_; focus omega) | (refine sB rfl rfl ?_; intro _) | (refine sN rfl rfl ?_ ?_; (focus (first | exact trivial | assumption | exact ⟨by assumption, by assumption⟩ | exact mb2 rfl rfl | exact mb4 rfl rfl rfl rfl)); intro _; (try simp only [List.cons_append, List.nil_append, List.append_nil])) | refine sW rfl rfl ?_ | refine sK rfl rfl ?_ | refine j_if rfl ?_ | refine j_else rfl ?_ | refine Go.Vt.jq (wl_pickT rfl rfl) rfl rfl ?_ | refine Go.Vt.jq (wl_pickF rfl rfl) rfl rfl ?_)
        exact jx_mid false rfl (by repeat (first | exact sub_nil | refine sub_cons rfl ?_ | refine sub_cons' rfl (by congr 1; omega) ?_)) (by repeat (first | exact List.Sublist.refl _ | exact List.nil_sublist _ | refine List.Sublist.cons_cons _ ?_ | refine List.Sublist.cons _ ?_))
      · repeat (first | refine sX rfl rfl ?_ | (refine sS rfl rfl ?_ ?_; focus omega) | (refine sC rfl rfl ?_ ?_; focus (first | exact trivial | assumption | exact ⟨by assumption, by assumption⟩ | exact mb2 rfl rfl | exact mb4 rfl rfl rfl rfl)) | refine cX ?_ | refine cY ?_ | (refine sA rfl rfl ?_; intro _) | refine sT rfl ?_ | refine sF rfl ?_ | (refine sR rfl ?_ ?_; focus omega) | (refine sB rfl rfl ?_; intro _) | (refine sN rfl rfl ?_ ?_; (focus (first | exact trivial | assumption | exact ⟨by assumption, by assumption⟩ | exact mb2 rfl rfl | exact mb4 rfl rfl rfl rfl)); intro _; (try simp only [List.cons_append, List.nil_append, List.append_nil])) | refine sW rfl rfl ?_ | refine sK rfl rfl ?_ | refine j_if rfl ?_ | refine j_else rfl ?_ | refine Go.Vt.jq (wl_pickT rfl rfl) rfl rfl ?_ | refine Go.Vt.jq (wl_pickF rfl rfl) rfl rfl ?_)
        exact jx_mid (decide (g = 0)) rfl (by repeat (first | exact sub_nil | refine sub_cons rfl ?_ | refine sub_cons' rfl (by congr 1; omega) ?_)) (by repeat (first | exact List.Sublist.refl _ | exact List.nil_sublist _ | refine List.Sublist.cons_cons _ ?_ | refine List.Sublist.cons _ ?_))
  rcases v with _ | _
  · repeat (first | refine sX rfl rfl ?_ | (refine sS rfl rfl ?_ ?_; focus omega) | (refine sC rfl rfl ?_ ?_; focus (first | exact trivial | assumption | exact ⟨by assumption, by assumption⟩ | exact mb2 rfl rfl | exact mb4 rfl rfl rfl rfl)) | refine cX ?_ | refine cY ?_ | (refine sA rfl rfl ?_; intro _) | refine sT rfl ?_ | refine sF rfl ?_ | (refine sR rfl ?_ ?_; focus omega) | (refine sB rfl rfl ?_; intro _) | (refine sN rfl rfl ?_ ?_; (focus (first | exact trivial | assumption | exact ⟨by assumption, by assumption⟩ | exact mb2 rfl rfl | exact mb4 rfl rfl rfl rfl)); intro _; (try simp only [List.cons_append, List.nil_append, List.append_nil])) | refine sW rfl rfl ?_ | refine sK rfl rfl ?_ | refine j_if rfl ?_ | refine j_else rfl ?_ | refine Go.Vt.jq (wl_pickT rfl rfl) rfl rfl ?_ | refine Go.Vt.jq (wl_pickF rfl rfl) rfl rfl ?_)
    refine jo_cut (S := Bool) (fun v => v = (decide (f < 0) || (decide (g ≤ f) || decide ((pts.length : Int) ≤ g)))) (fun v => [(63, .bool v), (1, .int .i64 f), (2, .int .i64 g), (6, .bool false), (7, .pointer (some ⟨b7, 0, none⟩)), (8, .pointer (some ⟨b8, 0, none⟩)), (9, .int .i64 (dev2V pts f g).2), (10, .int .i64 pts.length)]) (fun _ => [⟨b8, e_api_Rat (Q (dev2V pts f g).1), 28⟩, ⟨b7, cRun (runI pts 0) bp pts.length cp, 35⟩, ⟨bp, row rS pts spp, 47⟩]) ?_ (fun v2 hv2 => ?_)
    · rcases h1 : decide (f < 0) with _ | _
      · repeat (first | refine sX rfl rfl ?_ | (refine sS rfl rfl ?_ ?_; focus omega) | (refine sC rfl rfl ?_ ?_; focus (first | exact trivial | assumption | exact ⟨by assumption, by assumption⟩ | exact mb2 rfl rfl | exact mb4 rfl rfl rfl rfl)) | refine cX ?_ | refine cY ?_ | (refine sA rfl rfl ?_; intro _) | refine sT rfl ?_ | refine sF rfl ?_ | (refine sR rfl ?_ ?_; focus omega) | (refine sB rfl rfl ?_; intro _) | (refine sN rfl rfl ?_ ?_; (focus (first | exact trivial | assumption | exact ⟨by assumption, by assumption⟩ | exact mb2 rfl rfl | exact mb4 rfl rfl rfl rfl)); intro _; (try simp only [List.cons_append, List.nil_append, List.append_nil])) | refine sW rfl rfl ?_ | refine sK rfl rfl ?_ | refine j_if rfl ?_ | refine j_else rfl ?_ | refine Go.Vt.jq (wl_pickT rfl rfl) rfl rfl ?_ | refine Go.Vt.jq (wl_pickF rfl rfl) rfl rfl ?_)
        rcases h2 : decide (g ≤ f) with _ | _
        · repeat (first | refine sX rfl rfl ?_ | (refine sS rfl rfl ?_ ?_; focus omega) | (refine sC rfl rfl ?_ ?_; focus (first | exact trivial | assumption | exact ⟨by assumption, by assumption⟩ | exact mb2 rfl rfl | exact mb4 rfl rfl rfl rfl)) | refine cX ?_ | refine cY ?_ | (refine sA rfl rfl ?_; intro _) | refine sT rfl ?_ | refine sF rfl ?_ | (refine sR rfl ?_ ?_; focus omega) | (refine sB rfl rfl ?_; intro _) | (refine sN rfl rfl ?_ ?_; (focus (first | exact trivial | assumption | exact ⟨by assumption, by assumption⟩ | exact mb2 rfl rfl | exact mb4 rfl rfl rfl rfl)); intro _; (try simp only [List.cons_append, List.nil_append, List.append_nil])) | refine sW rfl rfl ?_ | refine sK rfl rfl ?_ | refine j_if rfl ?_ | refine j_else rfl ?_ | refine Go.Vt.jq (wl_pickT rfl rfl) rfl rfl ?_ | refine Go.Vt.jq (wl_pickF rfl rfl) rfl rfl ?_)
          exact jx_mid (decide ((pts.length : Int) ≤ g)) rfl (by repeat (first | exact sub_nil | refine sub_cons rfl ?_ | refine sub_cons' rfl (by congr 1; omega) ?_)) (by repeat (first | exact List.Sublist.refl _ | exact List.nil_sublist _ | refine List.Sublist.cons_cons _ ?_ | refine List.Sublist.cons _ ?_))
        · repeat (first | refine sX rfl rfl ?_ | (refine sS rfl rfl ?_ ?_; focus omega) | (refine sC rfl rfl ?_ ?_; focus (first | exact trivial | assumption | exact ⟨by assumption, by assumption⟩ | exact mb2 rfl rfl | exact mb4 rfl rfl rfl rfl)) | refine cX ?_ | refine cY ?_ | (refine sA rfl rfl ?_; intro _) | refine sT rfl ?_ | refine sF rfl ?_ | (refine sR rfl ?_ ?_; focus omega) | (refine sB rfl rfl ?_; intro _) | (refine sN rfl rfl ?_ ?_; (focus (first | exact trivial | assumption | exact ⟨by assumption, by assumption⟩ | exact mb2 rfl rfl | exact mb4 rfl rfl rfl rfl)); intro _; (try simp only [List.cons_append, List.nil_append, List.append_nil])) | refine sW rfl rfl ?_ | refine sK rfl rfl ?_ | refine j_if rfl ?_ | refine j_else rfl ?_ | refine Go.Vt.jq (wl_pickT rfl rfl) rfl rfl ?_ | refine Go.Vt.jq (wl_pickF rfl rfl) rfl rfl ?_)
          exact jx_mid true rfl (by repeat (first | exact sub_nil | refine sub_cons rfl ?_ | refine sub_cons' rfl (by congr 1; omega) ?_)) (by repeat (first | exact List.Sublist.refl _ | exact List.nil_sublist _ | refine List.Sublist.cons_cons _ ?_ | refine List.Sublist.cons _ ?_))
      · repeat (first | refine sX rfl rfl ?_ | (refine sS rfl rfl ?_ ?_; focus omega) | (refine sC rfl rfl ?_ ?_; focus (first | exact trivial | assumption | exact ⟨by assumption, by assumption⟩ | exact mb2 rfl rfl | exact mb4 rfl rfl rfl rfl)) | refine cX ?_ | refine cY ?_ | (refine sA rfl rfl ?_; intro _) | refine sT rfl ?_ | refine sF rfl ?_ | (refine sR rfl ?_ ?_; focus omega) | (refine sB rfl rfl ?_; intro _) | (refine sN rfl rfl ?_ ?_; (focus (first | exact trivial | assumption | exact ⟨by assumption, by assumption⟩ | exact mb2 rfl rfl | exact mb4 rfl rfl rfl rfl)); intro _; (try simp only [List.cons_append, List.nil_append, List.append_nil])) | refine sW rfl rfl ?_ | refine sK rfl rfl ?_ | refine j_if rfl ?_ | refine j_else rfl ?_ | refine Go.Vt.jq (wl_pickT rfl rfl) rfl rfl ?_ | refine Go.Vt.jq (wl_pickF rfl rfl) rfl rfl ?_)
        exact jx_mid true rfl (by repeat (first | exact sub_nil | refine sub_cons rfl ?_ | refine sub_cons' rfl (by congr 1; omega) ?_)) (by repeat (first | exact List.Sublist.refl _ | exact List.nil_sublist _ | refine List.Sublist.cons_cons _ ?_ | refine List.Sublist.cons _ ?_))
    have h0 : ¬ (f = 0 ∧ g = 0 ∧ pts.length = 1) := fun ⟨k1, k2, k3⟩ => by
      rw [decide_eq_true k1, decide_eq_true k2, decide_eq_true (by omega)] at hv
      cases hv
    rcases v2 with _ | _
    · have hr : ¬ f < 0 ∧ ¬ g ≤ f ∧ ¬ (pts.length : Int) ≤ g := by
        have := hv2.symm
        simp only [Bool.or_eq_false_iff, decide_eq_false_iff_not] at this
        exact this
      have e : dev2V pts f g = (dv pts f.toNat g.toNat (g.toNat - f.toNat - 1), 0) := by unfold dev2V; rw [if_neg h0, if_neg (by omega)]
      simp only [e]
      obtain ⟨fn, rfl⟩ : ∃ k : Nat, f = (k : Int) := ⟨f.toNat, by omega⟩
      obtain ⟨gn, rfl⟩ : ∃ k : Nat, g = (k : Int) := ⟨g.toNat, by omega⟩
      simp only [Int.toNat_natCast]
      have hfg : fn < gn := by omega
      have hgl : gn < pts.length := by omega
      have hfl := hi.lt hfg hgl
      have hrv := rv_dv hfl (gn - fn - 1)
      have hlaw := fun i (h8 : i ≤ 8) => ins_law hB hi hfg hgl (i := i) h8
      obtain ⟨hE, -, huok, -⟩ := frS_law hB hi (by omega)
      obtain ⟨d, hd⟩ : ∃ d, d = dv pts fn gn (gn - fn - 1) := ⟨_, rfl⟩
      have hdM : M d ≤ 67108864 := by rw [hd]; exact M_dv hB fn gn _
      simp only [← hd] at hrv hlaw ⊢
      repeat (first | refine sX rfl rfl ?_ | (refine sS rfl rfl ?_ ?_; focus omega) | (refine sC rfl rfl ?_ ?_; focus (first | exact trivial | assumption | exact ⟨by assumption, by assumption⟩ | exact mb2 rfl rfl | exact mb4 rfl rfl rfl rfl)) | refine cX ?_ | refine cY ?_ | (refine sA rfl rfl ?_; intro _) | refine sT rfl ?_ | refine sF rfl ?_ | (refine sR rfl ?_ ?_; focus omega) | (refine sB rfl rfl ?_; intro _) | (refine sN rfl rfl ?_ ?_; (focus (first | exact trivial | assumption | exact ⟨by assumption, by assumption⟩ | exact mb2 rfl rfl | exact mb4 rfl rfl rfl rfl)); intro _; (try simp only [List.cons_append, List.nil_append, List.append_nil])) | refine sW rfl rfl ?_ | refine sK rfl rfl ?_ | refine j_if rfl ?_ | refine j_else rfl ?_ | refine Go.Vt.jq (wl_pickT rfl rfl) rfl rfl ?_ | refine Go.Vt.jq (wl_pickF rfl rfl) rfl rfl ?_)
      refine jD 10 10 mixed (by kernel_rfl) ?_
      repeat (first | refine tX rfl rfl ?_ | (refine tS rfl rfl ?_ ?_; focus omega) | (refine tC rfl rfl ?_ ?_; focus (exact ⟨⟨rfl, hs, by omega, hB⟩, by omega, by omega, by omega⟩)) | refine tW rfl rfl ?_ | refine tK rfl rfl ?_ | refine Go.Vt.hq (wl_pickT rfl rfl) rfl rfl ?_ | refine Go.Vt.hq (wl_pickF rfl rfl) rfl rfl ?_)
      simp only [Int.toNat_natCast, hrv, decide_eq_true (rfl : d = d), Bool.not_true]
      repeat (first | refine tX rfl rfl ?_ | (refine tS rfl rfl ?_ ?_; focus omega) | (refine tC rfl rfl ?_ ?_; focus (first | exact trivial | assumption | exact ⟨by assumption, by assumption⟩ | exact mb2 rfl rfl | exact mb4 rfl rfl rfl rfl)) | refine tW rfl rfl ?_ | refine tK rfl rfl ?_ | refine Go.Vt.hq (wl_pickT rfl rfl) rfl rfl ?_ | refine Go.Vt.hq (wl_pickF rfl rfl) rfl rfl ?_)
      refine jh_nil ?_
      refine jn_nil ?_
      repeat (first | refine sX rfl rfl ?_ | (refine sS rfl rfl ?_ ?_; focus omega) | (refine sC rfl rfl ?_ ?_; focus (exact ⟨⟨rfl, by omega, by omega⟩, hB, hi⟩)) | refine cX ?_ | refine cY ?_ | (refine sA rfl rfl ?_; intro _) | refine sT rfl ?_ | refine sF rfl ?_ | (refine sR rfl ?_ ?_; focus omega) | (refine sB rfl rfl ?_; intro _) | (refine sN rfl rfl ?_ ?_; (focus (exact ⟨⟨rfl, by omega, by omega⟩, hB, hi⟩)); intro _; (try simp only [List.cons_append, List.nil_append, List.append_nil])) | refine sW rfl rfl ?_ | refine sK rfl rfl ?_ | refine j_if rfl ?_ | refine j_else rfl ?_ | refine Go.Vt.jq (wl_pickT rfl rfl) rfl rfl ?_ | refine Go.Vt.jq (wl_pickF rfl rfl) rfl rfl ?_)
      rename_i su
      simp only [hE]
      (refine j_drawL [0, 1, 2, 3, 4, 5, 6, 7, 8, 9] [10, 11] [12, 13] (_) mixed (by kernel_rfl) (List.Sublist.refl _) ?_; simp only [picks, List.getElem?_cons_succ, List.getElem?_cons_zero])
      repeat (first | refine tX rfl rfl ?_ | (refine tS rfl rfl ?_ ?_; focus omega) | (refine tC rfl rfl ?_ ?_; focus (first | exact trivial | assumption | exact ⟨by assumption, by assumption⟩ | exact mb2 rfl rfl | exact mb4 rfl rfl rfl rfl)) | refine tW rfl rfl ?_ | refine tK rfl rfl ?_ | refine Go.Vt.hq (wl_pickT rfl rfl) rfl rfl ?_ | refine Go.Vt.hq (wl_pickF rfl rfl) rfl rfl ?_)
      repeat (first | refine eS rfl rfl ?_ | refine uP rfl rfl rfl rfl ?_ | refine uQ rfl rfl rfl rfl ?_ | refine eX rfl rfl ?_ | (refine uS rfl rfl ?_ ?_; focus omega) | (refine uC rfl rfl ?_ ?_; focus (first | exact trivial | assumption | exact ⟨by assumption, by assumption⟩ | exact mb2 rfl rfl | exact mb4 rfl rfl rfl rfl)) | refine uW rfl rfl ?_ | refine eF rfl ?_ | refine eT rfl ?_ | (refine eA rfl rfl ?_; intro _) | (refine eB rfl rfl ?_; intro _) | (refine eN rfl rfl ?_ ?_; (focus (first | exact trivial | assumption | exact ⟨by assumption, by assumption⟩ | exact mb2 rfl rfl | exact mb4 rfl rfl rfl rfl)); intro _; (try simp only [List.cons_append, List.nil_append, List.append_nil])) | refine je_nil ?_ | refine tX rfl rfl ?_ | (refine tS rfl rfl ?_ ?_; focus omega) | (refine tC rfl rfl ?_ ?_; focus (first | exact trivial | assumption | exact ⟨by assumption, by assumption⟩ | exact mb2 rfl rfl | exact mb4 rfl rfl rfl rfl)) | refine tW rfl rfl ?_ | refine tK rfl rfl ?_ | refine Go.Vt.hq (wl_pickT rfl rfl) rfl rfl ?_ | refine Go.Vt.hq (wl_pickF rfl rfl) rfl rfl ?_ | refine jh_nil ?_ | (refine wn_new ?_; intro _) | refine jn_nil ?_)
      repeat (first | refine sX rfl rfl ?_ | (refine sS rfl rfl ?_ ?_; focus omega) | (refine sC rfl rfl ?_ ?_; focus (first | exact trivial | assumption | exact ⟨by assumption, by assumption⟩ | exact mb2 rfl rfl | exact mb4 rfl rfl rfl rfl)) | refine cX ?_ | refine cY ?_ | (refine sA rfl rfl ?_; intro _) | refine sT rfl ?_ | refine sF rfl ?_ | (refine sR rfl ?_ ?_; focus omega) | (refine sB rfl rfl ?_; intro _) | (refine sN rfl rfl ?_ ?_; (focus (first | exact trivial | assumption | exact ⟨by assumption, by assumption⟩ | exact mb2 rfl rfl | exact mb4 rfl rfl rfl rfl)); intro _; (try simp only [List.cons_append, List.nil_append, List.append_nil])) | refine sW rfl rfl ?_ | refine sK rfl rfl ?_ | refine j_if rfl ?_ | refine j_else rfl ?_ | refine Go.Vt.jq (wl_pickT rfl rfl) rfl rfl ?_ | refine Go.Vt.jq (wl_pickF rfl rfl) rfl rfl ?_)
      rename_i b13 b14
      refine j_loop (S := Nat) (fun i => i ≤ 9) (fun i => [(6, .bool false), (7, .pointer (some ⟨b7, 0, none⟩)), (8, .pointer (some ⟨b8, 0, none⟩)), (11, vSl su), (13, .pointer (some ⟨b13, 0, none⟩)), (14, .pointer (some ⟨b14, 0, none⟩)), (15, .int .i64 (i : Nat))]) (fun _ => ⟨b14, rS (gi pts (gn : Int)), 47⟩ :: ⟨b13, rS (gi pts (fn : Int)), 47⟩ :: (mS 68 su ++ [⟨b8, e_api_Rat (Q d), 28⟩])) (fun i => 9 - i) 0 (Nat.zero_le _) (by repeat (first | exact sub_nil | refine sub_cons rfl ?_ | refine sub_cons' rfl (by congr 1; omega) ?_)) (by repeat (first | exact List.Sublist.refl _ | exact List.nil_sublist _ | exact List.sublist_append_left _ _ | refine List.Sublist.append_left ?_ _ | refine List.Sublist.cons_cons _ ?_ | refine List.Sublist.cons _ ?_ | refine List.Sublist.trans ?_ (List.sublist_append_right _ _))) (fun i hi9 => ?_)
      repeat (first | refine sX rfl rfl ?_ | (refine sS rfl rfl ?_ ?_; focus omega) | (refine sC rfl rfl ?_ ?_; focus (first | exact trivial | assumption | exact ⟨by assumption, by assumption⟩ | exact mb2 rfl rfl | exact mb4 rfl rfl rfl rfl)) | refine cX ?_ | refine cY ?_ | (refine sA rfl rfl ?_; intro _) | refine sT rfl ?_ | refine sF rfl ?_ | (refine sR rfl ?_ ?_; focus omega) | (refine sB rfl rfl ?_; intro _) | (refine sN rfl rfl ?_ ?_; (focus (first | exact trivial | assumption | exact ⟨by assumption, by assumption⟩ | exact mb2 rfl rfl | exact mb4 rfl rfl rfl rfl)); intro _; (try simp only [List.cons_append, List.nil_append, List.append_nil])) | refine sW rfl rfl ?_ | refine sK rfl rfl ?_ | refine j_if rfl ?_ | refine j_else rfl ?_ | refine Go.Vt.jq (wl_pickT rfl rfl) rfl rfl ?_ | refine Go.Vt.jq (wl_pickF rfl rfl) rfl rfl ?_)
      refine j_cond rfl (fun h => ?_) (fun h => ?_)
      · have hi8 : i ≤ 8 := by have := of_decide_eq_true h; omega
        obtain ⟨q, hq1, hq2, hq3, hq4⟩ := hlaw i hi8
        rw [insT_pos hfl] at hq2
        unfold insT at hq1 hq2 hq3 hq4
        have g1 : ∀ i, MB (gi pts i).T PB := fun i => ⟨(hB i).1⟩
        have g2 : ∀ i, MB (gi pts i).P.X PB := fun i => ⟨(hB i).2.1⟩
        have g3 : ∀ i, MB (gi pts i).P.Y PB := fun i => ⟨(hB i).2.2⟩
        have g4 := MB.mk (M_part hi8)
        have g5 := MB.mk hq3
        have g6 := MB.mk hq4
        have g7 := MB.mk hdM
        have hul : (frS pts).length ≤ 1048576 := by
          have h1 : frS pts = mNorm (sgs pts (pts.length - 1)) := by unfold frS; rw [if_neg (by omega)]
          have h2 := nrmR_len (sgW pts (pts.length - 1))
          have h3 := sgW_len pts (pts.length - 1)
          have h4 : (mNorm (sgs pts (pts.length - 1))).length = (nrmR (sgW pts (pts.length - 1))).length := mpN_len _ _ _
          rw [h1]
          omega
        repeat (first | refine sX rfl rfl ?_ | (refine sS rfl rfl ?_ ?_; focus omega) | (refine sC rfl rfl ?_ ?_; focus (exact ⟨by omega, by omega⟩)) | refine cX ?_ | refine cY ?_ | (refine sA rfl rfl ?_; intro _) | refine sT rfl ?_ | refine sF rfl ?_ | (refine sR rfl ?_ ?_; focus omega) | (refine sB rfl rfl ?_; intro _) | (refine sN rfl rfl ?_ ?_; (focus (exact ⟨by omega, by omega⟩)); intro _; (try simp only [List.cons_append, List.nil_append, List.append_nil])) | refine sW rfl rfl ?_ | refine sK rfl rfl ?_ | refine j_if rfl ?_ | refine j_else rfl ?_ | refine Go.Vt.jq (wl_pickT rfl rfl) rfl rfl ?_ | refine Go.Vt.jq (wl_pickF rfl rfl) rfl rfl ?_)
        (refine jD 10 11 mixed (by kernel_rfl) ?_; (repeat (first | refine tX rfl rfl ?_ | (refine tS rfl rfl ?_ ?_; focus omega) | (refine tC rfl rfl ?_ ?_; focus (first | exact trivial | assumption | exact ⟨by assumption, by assumption⟩ | exact mb2 rfl rfl | exact mb4 rfl rfl rfl rfl)) | refine tW rfl rfl ?_ | refine tK rfl rfl ?_ | refine Go.Vt.hq (wl_pickT rfl rfl) rfl rfl ?_ | refine Go.Vt.hq (wl_pickF rfl rfl) rfl rfl ?_)); refine jh_nil ?_; (repeat (refine wn_new ?_; intro _)); refine jn_nil ?_)
        repeat (first | refine sX rfl rfl ?_ | (refine sS rfl rfl ?_ ?_; focus omega) | (refine sC rfl rfl ?_ ?_; focus (exact ⟨hul, MB.lt rfl, huok⟩)) | refine cX ?_ | refine cY ?_ | (refine sA rfl rfl ?_; intro _) | refine sT rfl ?_ | refine sF rfl ?_ | (refine sR rfl ?_ ?_; focus omega) | (refine sB rfl rfl ?_; intro _) | (refine sN rfl rfl ?_ ?_; (focus (exact ⟨hul, MB.lt rfl, huok⟩)); intro _; (try simp only [List.cons_append, List.nil_append, List.append_nil])) | refine sW rfl rfl ?_ | refine sK rfl rfl ?_ | refine j_if rfl ?_ | refine j_else rfl ?_ | refine Go.Vt.jq (wl_pickT rfl rfl) rfl rfl ?_ | refine Go.Vt.jq (wl_pickF rfl rfl) rfl rfl ?_)
        refine jD 16 16 mixed (by kernel_rfl) ?_
        repeat (first | refine tX rfl rfl ?_ | (refine tS rfl rfl ?_ ?_; focus omega) | (refine tC rfl rfl ?_ ?_; focus (first | exact trivial | assumption | exact ⟨by assumption, by assumption⟩ | exact mb2 rfl rfl | exact mb4 rfl rfl rfl rfl)) | refine tW rfl rfl ?_ | refine tK rfl rfl ?_ | refine Go.Vt.hq (wl_pickT rfl rfl) rfl rfl ?_ | refine Go.Vt.hq (wl_pickF rfl rfl) rfl rfl ?_)
        simp only [Option.isSome_some, Bool.not_true]
        repeat (first | refine tX rfl rfl ?_ | (refine tS rfl rfl ?_ ?_; focus omega) | (refine tC rfl rfl ?_ ?_; focus (first | exact ⟨mb4 rfl rfl rfl rfl, MB.lt rfl⟩ | exact ⟨Nat.le_trans hq3 (by decide), Nat.le_trans hq4 (by decide), MB.lt rfl, MB.lt rfl⟩)) | refine tW rfl rfl ?_ | refine tK rfl rfl ?_ | refine Go.Vt.hq (wl_pickT rfl rfl) rfl rfl ?_ | refine Go.Vt.hq (wl_pickF rfl rfl) rfl rfl ?_)
        dsimp only [atP]
        repeat (first | refine tX rfl rfl ?_ | (refine tS rfl rfl ?_ ?_; focus omega) | (refine tC rfl rfl ?_ ?_; focus (exact mb2 rfl rfl)) | refine tW rfl rfl ?_ | refine tK rfl rfl ?_ | refine Go.Vt.hq (wl_pickT rfl rfl) rfl rfl ?_ | refine Go.Vt.hq (wl_pickF rfl rfl) rfl rfl ?_)
        simp only [decide_eq_false (show ¬ 0 < cq (d2 (pos q ((gi pts (fn : Int)).T + Rat.divInt (i : Int) 8 * ((gi pts (gn : Int)).T - (gi pts (fn : Int)).T))) ⟨(gi pts (fn : Int)).P.X + ((gi pts (gn : Int)).P.X - (gi pts (fn : Int)).P.X) * Rat.divInt (i : Int) 8, (gi pts (fn : Int)).P.Y + ((gi pts (gn : Int)).P.Y - (gi pts (fn : Int)).P.Y) * Rat.divInt (i : Int) 8⟩) d from fun h => by have := cq_gt.1 h; grind)]
        repeat (first | refine tX rfl rfl ?_ | (refine tS rfl rfl ?_ ?_; focus omega) | (refine tC rfl rfl ?_ ?_; focus (first | exact trivial | assumption | exact ⟨by assumption, by assumption⟩ | exact mb2 rfl rfl | exact mb4 rfl rfl rfl rfl)) | refine tW rfl rfl ?_ | refine tK rfl rfl ?_ | refine Go.Vt.hq (wl_pickT rfl rfl) rfl rfl ?_ | refine Go.Vt.hq (wl_pickF rfl rfl) rfl rfl ?_)
        refine jh_nil ?_
        refine jn_nil ?_
        repeat (first | refine sX rfl rfl ?_ | (refine sS rfl rfl ?_ ?_; focus omega) | (refine sC rfl rfl ?_ ?_; focus (exact ⟨by omega, by omega⟩)) | refine cX ?_ | refine cY ?_ | (refine sA rfl rfl ?_; intro _) | refine sT rfl ?_ | refine sF rfl ?_ | (refine sR rfl ?_ ?_; focus omega) | (refine sB rfl rfl ?_; intro _) | (refine sN rfl rfl ?_ ?_; (focus (exact ⟨by omega, by omega⟩)); intro _; (try simp only [List.cons_append, List.nil_append, List.append_nil])) | refine sW rfl rfl ?_ | refine sK rfl rfl ?_ | refine j_if rfl ?_ | refine j_else rfl ?_ | refine Go.Vt.jq (wl_pickT rfl rfl) rfl rfl ?_ | refine Go.Vt.jq (wl_pickF rfl rfl) rfl rfl ?_)
        exact jx_loop (i + 1) (by omega) (by repeat (first | exact sub_nil | refine sub_cons rfl ?_ | refine sub_cons' rfl (by congr 1; omega) ?_)) (by repeat (first | exact List.Sublist.refl _ | exact List.nil_sublist _ | exact List.sublist_append_left _ _ | refine List.Sublist.append_left ?_ _ | refine List.Sublist.cons_cons _ ?_ | refine List.Sublist.cons _ ?_ | refine List.Sublist.trans ?_ (List.sublist_append_right _ _))) (by omega)
      · repeat (first | refine sX rfl rfl ?_ | (refine sS rfl rfl ?_ ?_; focus omega) | (refine sC rfl rfl ?_ ?_; focus (first | exact trivial | assumption | exact ⟨by assumption, by assumption⟩ | exact mb2 rfl rfl | exact mb4 rfl rfl rfl rfl)) | refine cX ?_ | refine cY ?_ | (refine sA rfl rfl ?_; intro _) | refine sT rfl ?_ | refine sF rfl ?_ | (refine sR rfl ?_ ?_; focus omega) | (refine sB rfl rfl ?_; intro _) | (refine sN rfl rfl ?_ ?_; (focus (first | exact trivial | assumption | exact ⟨by assumption, by assumption⟩ | exact mb2 rfl rfl | exact mb4 rfl rfl rfl rfl)); intro _; (try simp only [List.cons_append, List.nil_append, List.append_nil])) | refine sW rfl rfl ?_ | refine sK rfl rfl ?_ | refine j_if rfl ?_ | refine j_else rfl ?_ | refine Go.Vt.jq (wl_pickT rfl rfl) rfl rfl ?_ | refine Go.Vt.jq (wl_pickF rfl rfl) rfl rfl ?_)
        exact jx_ret_tmp rfl rfl (fun w hw => ret_ok hw)
    · have hr : f < 0 ∨ g ≤ f ∨ (pts.length : Int) ≤ g := by
        have := hv2.symm
        simp only [Bool.or_eq_true, decide_eq_true_eq] at this
        exact this
      have e : dev2V pts f g = (0, 2) := by unfold dev2V; rw [if_neg h0, if_pos (by omega)]
      simp only [e]
      repeat (first | refine sX rfl rfl ?_ | (refine sS rfl rfl ?_ ?_; focus omega) | (refine sC rfl rfl ?_ ?_; focus (first | exact trivial | assumption | exact ⟨by assumption, by assumption⟩ | exact mb2 rfl rfl | exact mb4 rfl rfl rfl rfl)) | refine cX ?_ | refine cY ?_ | (refine sA rfl rfl ?_; intro _) | refine sT rfl ?_ | refine sF rfl ?_ | (refine sR rfl ?_ ?_; focus omega) | (refine sB rfl rfl ?_; intro _) | (refine sN rfl rfl ?_ ?_; (focus (first | exact trivial | assumption | exact ⟨by assumption, by assumption⟩ | exact mb2 rfl rfl | exact mb4 rfl rfl rfl rfl)); intro _; (try simp only [List.cons_append, List.nil_append, List.append_nil])) | refine sW rfl rfl ?_ | refine sK rfl rfl ?_ | refine j_if rfl ?_ | refine j_else rfl ?_ | refine Go.Vt.jq (wl_pickT rfl rfl) rfl rfl ?_ | refine Go.Vt.jq (wl_pickF rfl rfl) rfl rfl ?_)
      exact jx_ret_tmp rfl rfl (fun w hw => ret_ok hw)
  · have h0 : (pts.length : Int) = 1 ∧ f = 0 ∧ g = 0 := by
      have := hv.symm
      simp only [Bool.and_eq_true, decide_eq_true_eq] at this
      exact this
    have e : dev2V pts f g = (0, 0) := by unfold dev2V; rw [if_pos ⟨h0.2.1, h0.2.2, by omega⟩]
    simp only [e]
    repeat (first | refine sX rfl rfl ?_ | (refine sS rfl rfl ?_ ?_; focus omega) | (refine sC rfl rfl ?_ ?_; focus (first | exact trivial | assumption | exact ⟨by assumption, by assumption⟩ | exact mb2 rfl rfl | exact mb4 rfl rfl rfl rfl)) | refine cX ?_ | refine cY ?_ | (refine sA rfl rfl ?_; intro _) | refine sT rfl ?_ | refine sF rfl ?_ | (refine sR rfl ?_ ?_; focus omega) | (refine sB rfl rfl ?_; intro _) | (refine sN rfl rfl ?_ ?_; (focus (first | exact trivial | assumption | exact ⟨by assumption, by assumption⟩ | exact mb2 rfl rfl | exact mb4 rfl rfl rfl rfl)); intro _; (try simp only [List.cons_append, List.nil_append, List.append_nil])) | refine sW rfl rfl ?_ | refine sK rfl rfl ?_ | refine j_if rfl ?_ | refine j_else rfl ?_ | refine Go.Vt.jq (wl_pickT rfl rfl) rfl rfl ?_ | refine Go.Vt.jq (wl_pickF rfl rfl) rfl rfl ?_)
    exact jx_ret_tmp rfl rfl (fun w hw => ret_ok hw)
end Go.Vt
/- The card of SimplifyDeviates. Conditions: none. -/
set_option linter.unusedSimpArgs false
set_option linter.unusedVariables false
namespace Go.Proofs.YtgcjapcminakdaaGreatDoor
open Go.ChangeShapes Go.WideShapes Go.ChangeAt Go.RowKit Go.Deep
set_option maxRecDepth 100000
def eArgs : Array Value := #[.slice none 0 0, .int .i64 0, .int .i64 0]
theorem i64_wf {n : Int} (h : (Lit.int .i64 n).wf = true) : -9223372036854775808 ≤ n ∧ n ≤ 9223372036854775807 := by
  simp only [Lit.wf, Bool.and_eq_true, decide_eq_true_eq] at h
  exact ⟨h.1, h.2⟩
theorem devs_reads (os : Os) {H : Type} (enc : TypeId × Value → H) : ∃ places, DataW.whole enc Tryz.prog ((laidWorld os).forCall (fun _ _ => 0) ⟨#[], eArgs, []⟩).memory Tryz.f3.params.toList Rows.simplifyDeviatesSpec.vars false eArgs.toList 8 = some ([.nil, .lit (.int .i64 0), .lit (.int .i64 0)], [], places) :=
  ⟨[], by kernel_rfl⟩
theorem devs_contract (H : Type) (enc : TypeId × Value → H) (W : World) (base : Nat) (args : Array Value) (ds gs : List (DataW H)) (before : List MemPlace)
    (hval : ∀ (j : Nat) t v, Tryz.f3.params[j]? = some t → args[j]? = some v → Value.okWide Tryz.prog W .any base t v)
    (hW : DataW.Whole enc Tryz.prog Tryz.f3.params.toList Rows.simplifyDeviatesSpec.vars false W args.toList ds gs before) :
    Calls Tryz.prog 3 args W fun e W' => ∃ v, e = .returned v ∧ Rows.simplifyDeviatesSpec.post enc Tryz.prog Tryz.f3 false true false false W args v W' := by
  have hW' := hW
  obtain ⟨p, q, hA0, hV, rfl, hfz, hnd⟩ := hW
  have hA : DataW.TrodAll enc Tryz.prog W 0 (fun _ => true) true Tryz.f3.params.toList args.toList ds p := hA0
  rw [Tryz.params3] at hA hval
  obtain ⟨v0, vs0, d0, ds0, p0, q0, hargs, rfl, rfl, h0, r0⟩ := trodAll_cons hA
  obtain ⟨v1, vs1, d1, ds1, p1, q1, hargs1, rfl, rfl, h1, r1⟩ := trodAll_cons r0
  obtain ⟨v2, vs2, d2, ds2, p2, q2, hargs2, rfl, rfl, h2, r2⟩ := trodAll_cons r1
  subst hargs2
  subst hargs1
  obtain ⟨rfl, rfl, rfl⟩ := trodAll_nil r2
  obtain rfl : args = #[v0, v1, v2] := by cases args; simp_all
  obtain ⟨rfl, rfl⟩ := trodVars_none hV
  clear hA0
  simp only [List.append_nil] at hW'
  have hlt : ∀ x ∈ p0 ++ (p1 ++ p2), x.block < W.heap.size := fun x hx => by simpa using hW'.lt x hx
  obtain ⟨f, rfl, rfl, rfl, hwf⟩ := open_int Tryz.underlying3 (hval 1 3 v1 rfl rfl) h1
  obtain ⟨g, rfl, rfl, rfl, hwg⟩ := open_int Tryz.underlying3 (hval 2 3 v2 rfl rfl) h2
  have h0k := h0
  obtain ⟨fuel, hf⟩ := h0
  obtain ⟨ws, hws, hok, hlen⟩ := open_way (okWide_slice Tryz.underlying23 (hval 0 23 v0 rfl rfl)) hf
  refine (Go.Vt.devs_spec v0 ws f g hok W hws hlen (i64_wf hwf) (i64_wf hwg)).mono fun e' W' ⟨he', hb⟩ => ?_
  subst he'
  simp only [List.append_nil] at hlt hW'
  exact ⟨_, rfl, ⟨_, _, _, [], _, [], hW', trodAll_mk1 (shut_bool Tryz.underlying4 _), trodAll_mk3 (Below.trod rlaidOut (by kernel_rfl) (of_decide_eq_true (by kernel_rfl)) h0k hb (fun x hx => hlt x hx)) (shut_int Tryz.underlying3 hwf) (shut_int Tryz.underlying3 hwg), (by first | rfl | (simp; done)), hb.frame _, fun h => by cases h⟩⟩
theorem devs_lifted (os : Os) (started : os.Started) (H : Type) (enc : TypeId × Value → H) (F : Stop.Interp) :
    ReturnsInHanded {} Tryz.checked os 3 .any ((OpenSpec.ofChange Rows.simplifyDeviatesSpec).preRow enc Tryz.prog Tryz.f3 Rows.simplifyDeviatesRow.domain false Rows.simplifyDeviatesRow.laid) (((OpenSpec.ofChange Rows.simplifyDeviatesSpec).at F).post enc Tryz.prog Tryz.f3 false true false false) := by
  obtain ⟨places, hx⟩ := devs_reads os enc
  refine returnsInHanded_of_row (C := Tryz.checked) (s := OpenSpec.ofChange Rows.simplifyDeviatesSpec) rown started (by kernel_rfl) Tryz.func3
    (witness_row_at (enc := enc) (C := Tryz.checked) false (laidWorld os) eArgs rfl (by kernel_rfl) (by kernel_rfl) (by kernel_rfl)
      (OpenSpec.preRow_of_cond 8 hx (by kernel_rfl) (fun k hk => by cases hk) (by kernel_rfl) (laid_met os _))) ?_
  intro W base args ds gs before hval hW _ _ _ _ _ _
  exact devs_contract H enc W base args ds gs before hval hW
theorem devs_said : Rows.SimplifyDeviatesSaid :=
  OpenClaim.holds_of_cond 3 Tryz.f3 rfl rfl rfl rfl rfl rfl rfl ⟨rfl, rfl, rfl, rfl, rfl⟩ rfl rfl rfl rfl rfl (by kernel_rfl) Tryz.func3 (by kernel_rfl)
    (of_decide_eq_true (by kernel_rfl)) (by unfold Func.isWrapper; first | (rw [if_pos (by decide +kernel)]; kernel_rfl) | (rw [if_neg (by decide +kernel)]; exact ⟨rfl, rfl⟩))
    (fun os started H enc _ F => by rw [OpenClaim.pre_eq_preRow]; exact devs_lifted os started H enc F)
theorem devs_plain (f : FuncId) (fn : Func) (hf : Tryz.pinned.checked.prog.funcNamed "viator/viatorlaw31.SimplifyDeviates" = some f) (hfn : Tryz.pinned.checked.prog.funcs[f]? = some fn) :
    false = Tryz.pinned.checked.prog.looks [] ∧ ∀ (j : Nat) t, fn.params[j]? = some t → Tryz.pinned.checked.prog.wantsStandIn t = false := by
  obtain rfl : f = 3 := Option.some.inj ((show Tryz.prog.funcNamed "viator/viatorlaw31.SimplifyDeviates" = some 3 by kernel_rfl).symm.trans hf) |>.symm
  obtain rfl : fn = Tryz.f3 := (Option.some.inj (Tryz.func3.symm.trans hfn)).symm
  refine ⟨by kernel_rfl, fun j t ht => ?_⟩
  rw [Tryz.params3] at ht
  have := Array.mem_of_getElem? ht
  simp at this
  rcases this with rfl | rfl
  · exact (show Tryz.prog.wantsStandIn 23 = false by kernel_rfl)
  · exact (show Tryz.prog.wantsStandIn 3 = false by kernel_rfl)
/-- The card. -/
theorem simplifyDeviates_card : Rows.SimplifyDeviatesCardSaid :=
  Claim7.holds_tied_plain_at .later [] _ _ _ _ devs_said (fun _ h => by cases h) (by kernel_rfl) (fun _ h => by cases h) simplifyDeviates_row_tie rfl ⟨rfl, rfl⟩ (by kernel_rfl) rfl devs_plain (by kernel_rfl)
end Go.Proofs.YtgcjapcminakdaaGreatDoor
