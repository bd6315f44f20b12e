/- The list that goes as far as it can, walked. Conditions: those that each statement names. -/
import Derived.Test.YtgcjapcminakdaaDoorKeeps
set_option linter.unusedSimpArgs false
set_option linter.unusedVariables false
set_option maxRecDepth 100000
namespace Go.Vt
open Go.RowKit Go.Proofs

/-- The farthest index that is enough. -/
def gd (o : Nat → Bool) (i : Nat) : Nat → Nat
  | 0 => i + 1
  | q + 1 => if o (i + 1 + (q + 1)) = true then i + 1 + (q + 1) else gd o i q
def gch (ok : Nat → Nat → Bool) (l : Nat) : Nat → Nat → List Int
  | 0, _ => []
  | f + 1, i => if i < l then (gd (ok i) i (l - i - 1) : Int) :: gch ok l f (gd (ok i) i (l - i - 1)) else []
def greL (ok : Nat → Nat → Bool) (l : Nat) : List Int := 0 :: gch ok l l 0
theorem gd_lt (o : Nat → Bool) (i : Nat) : ∀ q, i < gd o i q ∧ gd o i q ≤ i + 1 + q
  | 0 => ⟨by rw [gd]; omega, by rw [gd]; omega⟩
  | q + 1 => by
    have := gd_lt o i q
    rw [gd]
    split <;> omega
theorem greedy_spec (I : R_api_Interval) (b l c : Nat) (d : Rat) (pts : List R_movingpoint_Sample) (sp : List Value) (T : TypeId) (hr : RunOk pts (l + 1) c) (hl : l ≤ 1048576) (hd : M d ≤ 1073741824) (hd0 : 0 ≤ d) (w : World) (hw : ∃ fz, w.heap[b]? = some (.cells (row rS pts sp) T fz)) :
    Calls Tryd.prog 24 [vRun I b (l + 1) c, vQ d].toArray w (RetM { s : Nat × Nat × List Value // (greL (okd pts (d * d)) l).length ≤ s.2.1 } (fun s => .tuple #[vL s.1.1 (greL (okd pts (d * d)) l) s.1.2.1, .int .i64 0]) (fun s => [⟨s.1.1, row (eI .i64) (greL (okd pts (d * d)) l) s.1.2.2, 3⟩]) w) := by
  have := FoC.mk hw
  have hdd : M (d * d) ≤ LQ := Nat.le_trans (M_mul d d) (by have : LQ = 274877906944 := rfl; omega)
  have hd' : M d ≤ LQ := Nat.le_trans hd (by decide)
  refine fn_intro Tryd.func24 rfl Tryd.ntmps24 rfl ?_
  repeat (first | refine sX rfl rfl ?_ | (refine sS rfl rfl ?_ ?_; focus omega) | (refine sC rfl rfl ?_ ?_; focus (first | exact trivial | assumption | exact ⟨by assumption, by assumption⟩ | exact mb2 rfl rfl | exact mb4 rfl rfl rfl rfl)) | refine cX ?_ | refine cY ?_ | (refine sA rfl rfl ?_; intro _) | refine sT rfl ?_ | refine sF rfl ?_ | (refine sR rfl ?_ ?_; focus omega) | (refine sB rfl rfl ?_; intro _) | (refine sN rfl rfl ?_ ?_; (focus (first | exact trivial | assumption | exact ⟨by assumption, by assumption⟩ | exact mb2 rfl rfl | exact mb4 rfl rfl rfl rfl)); intro _; simp only [List.cons_append, List.nil_append]) | refine sW rfl rfl ?_ | refine sK rfl rfl ?_ | refine j_if rfl ?_ | refine j_else rfl ?_ | refine Go.Vt.jq (wl_pickT rfl rfl) rfl rfl ?_ | refine Go.Vt.jq (wl_pickF rfl rfl) rfl rfl ?_)
  refine j_else (by rw [decide_eq_false (sign_nonneg hd0)]; rfl) ?_
  repeat (first | refine sX rfl rfl ?_ | (refine sS rfl rfl ?_ ?_; focus omega) | (refine sC rfl rfl ?_ ?_; focus (first | exact trivial | assumption | exact ⟨by assumption, by assumption⟩ | exact mb2 rfl rfl | exact mb4 rfl rfl rfl rfl)) | refine cX ?_ | refine cY ?_ | (refine sA rfl rfl ?_; intro _) | refine sT rfl ?_ | refine sF rfl ?_ | (refine sR rfl ?_ ?_; focus omega) | (refine sB rfl rfl ?_; intro _) | (refine sN rfl rfl ?_ ?_; (focus (first | exact trivial | assumption | exact ⟨by assumption, by assumption⟩ | exact mb2 rfl rfl | exact mb4 rfl rfl rfl rfl)); intro _; simp only [List.cons_append, List.nil_append]) | refine sW rfl rfl ?_ | refine sK rfl rfl ?_ | refine j_if rfl ?_ | refine j_else rfl ?_ | refine Go.Vt.jq (wl_pickT rfl rfl) rfl rfl ?_ | refine Go.Vt.jq (wl_pickF rfl rfl) rfl rfl ?_)
  rename_i b2 b3 q bo
  obtain ⟨b1, bm⟩ := q
  have e1 : ((l + 1 : Nat) : Int) - 1 = (l : Int) := by omega
  simp only [e1]
  generalize hok : okd pts (d * d) = ok at *
  have hnext : ∀ i, ok i (i + 1) = true := fun i => by rw [← hok]; exact okd_next i
  refine j_loop (S := Nat × List Int × Nat × Nat × List Value) (fun s => s.1 ≤ l ∧ (∃ f, l - s.1 ≤ f ∧ s.2.1 ++ gch ok l f s.1 = greL ok l) ∧ s.2.1.length ≤ s.1 + 1 ∧ s.2.1.length ≤ s.2.2.2.1 ∧ s.2.2.2.2.length = (s.2.2.2.1 - s.2.1.length) * 1)
    (fun s => [(6, .func (.func 50) #[] #[.pointer (some ⟨b1, 0, none⟩), .pointer (some ⟨bm, 0, none⟩)]), (7, vL s.2.2.1 s.2.1 s.2.2.2.1), (8, .int .i64 (l : Nat)), (9, .int .i64 (s.1 : Nat))]) (fun s => [⟨s.2.2.1, row (eI .i64) s.2.1 s.2.2.2.2, 3⟩, ⟨bm, e_api_Rat (Q (d * d)), 28⟩, ⟨b1, cRun I b (l + 1) c, 35⟩]) (fun s => l - s.1) (0, [0], bo, 1, [])
    ⟨Nat.zero_le _, ⟨l, Nat.le_refl _, rfl⟩, Nat.le_refl _, Nat.le_refl _, rfl⟩ (by repeat (first | exact sub_nil | refine sub_cons rfl ?_ | refine sub_cons' rfl (by congr 1; omega) ?_)) (by repeat (first | exact List.Sublist.refl _ | exact List.nil_sublist _ | refine List.Sublist.cons_cons _ ?_ | refine List.Sublist.cons _ ?_)) (fun s hs => ?_)
  obtain ⟨i, acc, bo, co, so⟩ := s
  obtain ⟨hil, ⟨f, hf, hch⟩, ha1, ha2, ha3⟩ := hs
  simp only at hil hf hch ha1 ha2 ha3 ⊢
  repeat (first | refine sX rfl rfl ?_ | (refine sS rfl rfl ?_ ?_; focus omega) | (refine sC rfl rfl ?_ ?_; focus (first | exact trivial | assumption | exact ⟨by assumption, by assumption⟩ | exact mb2 rfl rfl | exact mb4 rfl rfl rfl rfl)) | refine cX ?_ | refine cY ?_ | (refine sA rfl rfl ?_; intro _) | refine sT rfl ?_ | refine sF rfl ?_ | (refine sR rfl ?_ ?_; focus omega) | (refine sB rfl rfl ?_; intro _) | (refine sN rfl rfl ?_ ?_; (focus (first | exact trivial | assumption | exact ⟨by assumption, by assumption⟩ | exact mb2 rfl rfl | exact mb4 rfl rfl rfl rfl)); intro _; simp only [List.cons_append, List.nil_append]) | refine sW rfl rfl ?_ | refine sK rfl rfl ?_ | refine j_if rfl ?_ | refine j_else rfl ?_ | refine Go.Vt.jq (wl_pickT rfl rfl) rfl rfl ?_ | refine Go.Vt.jq (wl_pickF rfl rfl) rfl rfl ?_)
  refine j_cond rfl (fun h => ?_) (fun h => ?_)
  · have hlt : i < l := by have := of_decide_eq_true h; omega
    repeat (first | refine sX rfl rfl ?_ | (refine sS rfl rfl ?_ ?_; focus omega) | (refine sC rfl rfl ?_ ?_; focus (first | exact trivial | assumption | exact ⟨by assumption, by assumption⟩ | exact mb2 rfl rfl | exact mb4 rfl rfl rfl rfl)) | refine cX ?_ | refine cY ?_ | (refine sA rfl rfl ?_; intro _) | refine sT rfl ?_ | refine sF rfl ?_ | (refine sR rfl ?_ ?_; focus omega) | (refine sB rfl rfl ?_; intro _) | (refine sN rfl rfl ?_ ?_; (focus (first | exact trivial | assumption | exact ⟨by assumption, by assumption⟩ | exact mb2 rfl rfl | exact mb4 rfl rfl rfl rfl)); intro _; simp only [List.cons_append, List.nil_append]) | refine sW rfl rfl ?_ | refine sK rfl rfl ?_ | refine j_if rfl ?_ | refine j_else rfl ?_ | refine Go.Vt.jq (wl_pickT rfl rfl) rfl rfl ?_ | refine Go.Vt.jq (wl_pickF rfl rfl) rfl rfl ?_)
    refine j_loop (S := Nat) (fun k => (i < k ∧ k ≤ l) ∧ gd (ok i) i (l - i - 1) = gd (ok i) i (k - i - 1))
      (fun k => [(6, .func (.func 50) #[] #[.pointer (some ⟨b1, 0, none⟩), .pointer (some ⟨bm, 0, none⟩)]), (7, vL bo acc co), (8, .int .i64 (l : Nat)), (9, .int .i64 (i : Nat)), (10, .int .i64 (k : Nat))]) (fun _ => [⟨bo, row (eI .i64) acc so, 3⟩, ⟨bm, e_api_Rat (Q (d * d)), 28⟩, ⟨b1, cRun I b (l + 1) c, 35⟩]) (fun k => k - i) l
      ⟨⟨hlt, Nat.le_refl _⟩, rfl⟩ (by repeat (first | exact sub_nil | refine sub_cons rfl ?_ | refine sub_cons' rfl (by congr 1; omega) ?_)) (by repeat (first | exact List.Sublist.refl _ | exact List.nil_sublist _ | refine List.Sublist.cons_cons _ ?_ | refine List.Sublist.cons _ ?_)) (fun k hk => ?_)
    obtain ⟨⟨hik, hkl⟩, hgd⟩ := hk
    have hcall : RunOk pts (l + 1) c ∧ M (d * d) ≤ LQ ∧ (0 : Int) ≤ (i : Int) ∧ (i : Int) < (k : Int) ∧ (k : Int) < ((l + 1 : Nat) : Int) := ⟨hr, hdd, by omega, by omega, by omega⟩
    repeat (first | refine sX rfl rfl ?_ | (refine sS rfl rfl ?_ ?_; focus omega) | (refine sC rfl rfl ?_ ?_; focus (exact hcall)) | refine cX ?_ | refine cY ?_ | (refine sA rfl rfl ?_; intro _) | refine sT rfl ?_ | refine sF rfl ?_ | (refine sR rfl ?_ ?_; focus omega) | (refine sB rfl rfl ?_; intro _) | (refine sN rfl rfl ?_ ?_; (focus (exact hcall)); intro _; simp only [List.cons_append, List.nil_append]) | refine sW rfl rfl ?_ | refine sK rfl rfl ?_ | refine j_if rfl ?_ | refine j_else rfl ?_ | refine Go.Vt.jq (wl_pickT rfl rfl) rfl rfl ?_ | refine Go.Vt.jq (wl_pickF rfl rfl) rfl rfl ?_)
    simp only [Int.toNat_natCast, hok]
    cases hc : ok i k with
    | false =>
      have hne : k ≠ i + 1 := fun h => by rw [h, hnext] at hc; cases hc
      simp only [Bool.not_false]
      repeat (first | refine sX rfl rfl ?_ | (refine sS rfl rfl ?_ ?_; focus omega) | (refine sC rfl rfl ?_ ?_; focus (first | exact trivial | assumption | exact ⟨by assumption, by assumption⟩ | exact mb2 rfl rfl | exact mb4 rfl rfl rfl rfl)) | refine cX ?_ | refine cY ?_ | (refine sA rfl rfl ?_; intro _) | refine sT rfl ?_ | refine sF rfl ?_ | (refine sR rfl ?_ ?_; focus omega) | (refine sB rfl rfl ?_; intro _) | (refine sN rfl rfl ?_ ?_; (focus (first | exact trivial | assumption | exact ⟨by assumption, by assumption⟩ | exact mb2 rfl rfl | exact mb4 rfl rfl rfl rfl)); intro _; simp only [List.cons_append, List.nil_append]) | refine sW rfl rfl ?_ | refine sK rfl rfl ?_ | refine j_if rfl ?_ | refine j_else rfl ?_ | refine Go.Vt.jq (wl_pickT rfl rfl) rfl rfl ?_ | refine Go.Vt.jq (wl_pickF rfl rfl) rfl rfl ?_)
      refine jx_loop (k - 1) ⟨⟨by omega, by omega⟩, ?_⟩ (by repeat (first | exact sub_nil | refine sub_cons rfl ?_ | refine sub_cons' rfl (by congr 1; omega) ?_)) (by repeat (first | exact List.Sublist.refl _ | exact List.nil_sublist _ | refine List.Sublist.cons_cons _ ?_ | refine List.Sublist.cons _ ?_)) (by omega)
      obtain ⟨q, rfl⟩ : ∃ q, k = i + 1 + (q + 1) := ⟨k - i - 2, by omega⟩
      rw [hgd, show i + 1 + (q + 1) - i - 1 = q + 1 by omega, gd, hc, if_neg (by simp), show i + 1 + (q + 1) - 1 - i - 1 = q by omega]
    | true =>
      have hgk : gd (ok i) i (l - i - 1) = k := by
        rw [hgd]
        obtain ⟨q, hq⟩ : ∃ q, k = i + 1 + q := ⟨k - i - 1, by omega⟩
        rw [show k - i - 1 = q by omega]
        cases q with
        | zero => rw [gd]; omega
        | succ q => rw [gd, ← hq, hc, if_pos rfl]
      simp only [Bool.not_true]
      repeat (first | refine sX rfl rfl ?_ | (refine sS rfl rfl ?_ ?_; focus omega) | (refine sC rfl rfl ?_ ?_; focus (first | exact trivial | assumption | exact ⟨by assumption, by assumption⟩ | exact mb2 rfl rfl | exact mb4 rfl rfl rfl rfl)) | refine cX ?_ | refine cY ?_ | (refine sA rfl rfl ?_; intro _) | refine sT rfl ?_ | refine sF rfl ?_ | (refine sR rfl ?_ ?_; focus omega) | (refine sB rfl rfl ?_; intro _) | (refine sN rfl rfl ?_ ?_; (focus (first | exact trivial | assumption | exact ⟨by assumption, by assumption⟩ | exact mb2 rfl rfl | exact mb4 rfl rfl rfl rfl)); intro _; simp only [List.cons_append, List.nil_append]) | refine sW rfl rfl ?_ | refine sK rfl rfl ?_ | refine j_if rfl ?_ | refine j_else rfl ?_ | refine Go.Vt.jq (wl_pickT rfl rfl) rfl rfl ?_ | refine Go.Vt.jq (wl_pickF rfl rfl) rfl rfl ?_)
      rename_i bz
      refine sP rfl rfl ?_ ⟨ha2, ha3⟩ rfl ?_ ?_
      · rfl
      · exact ⟨by omega, by omega⟩
      intro b' c' sp' h1 h2
      rw [show acc.length + 1 = (acc ++ [(k : Int)]).length by simp] at h1 h2 ⊢
      repeat (first | refine sX rfl rfl ?_ | (refine sS rfl rfl ?_ ?_; focus omega) | (refine sC rfl rfl ?_ ?_; focus (first | exact trivial | assumption | exact ⟨by assumption, by assumption⟩ | exact mb2 rfl rfl | exact mb4 rfl rfl rfl rfl)) | refine cX ?_ | refine cY ?_ | (refine sA rfl rfl ?_; intro _) | refine sT rfl ?_ | refine sF rfl ?_ | (refine sR rfl ?_ ?_; focus omega) | (refine sB rfl rfl ?_; intro _) | (refine sN rfl rfl ?_ ?_; (focus (first | exact trivial | assumption | exact ⟨by assumption, by assumption⟩ | exact mb2 rfl rfl | exact mb4 rfl rfl rfl rfl)); intro _; simp only [List.cons_append, List.nil_append]) | refine sW rfl rfl ?_ | refine sK rfl rfl ?_ | refine j_if rfl ?_ | refine j_else rfl ?_ | refine Go.Vt.jq (wl_pickT rfl rfl) rfl rfl ?_ | refine Go.Vt.jq (wl_pickF rfl rfl) rfl rfl ?_)
      refine jx_loop (k, acc ++ [(k : Int)], b', c', sp') ⟨by simp only; omega, ?_, by simp only [List.length_append, List.length_singleton]; omega, h1, h2⟩ (by repeat (first | exact sub_nil | refine sub_cons rfl ?_ | refine sub_cons' rfl (by congr 1; omega) ?_)) (by repeat (first | exact List.Sublist.refl _ | exact List.nil_sublist _ | refine List.Sublist.cons_cons _ ?_ | refine List.Sublist.cons _ ?_)) (by simp only; omega)
      obtain ⟨f', rfl⟩ : ∃ f', f = f' + 1 := ⟨f - 1, by omega⟩
      refine ⟨f', by simp only; omega, ?_⟩
      rw [gch, if_pos hlt, hgk] at hch
      simp only
      rw [← hch, List.append_assoc]
      rfl
  · have hge : i = l := by have := of_decide_eq_false h; omega
    subst hge
    have hnil : gch ok i f i = [] := by
      cases f with
      | zero => rfl
      | succ f => rw [gch, if_neg (by omega)]
    rw [hnil, List.append_nil] at hch
    subst hch
    repeat (first | refine sX rfl rfl ?_ | (refine sS rfl rfl ?_ ?_; focus omega) | (refine sC rfl rfl ?_ ?_; focus (first | exact trivial | assumption | exact ⟨by assumption, by assumption⟩ | exact mb2 rfl rfl | exact mb4 rfl rfl rfl rfl)) | refine cX ?_ | refine cY ?_ | (refine sA rfl rfl ?_; intro _) | refine sT rfl ?_ | refine sF rfl ?_ | (refine sR rfl ?_ ?_; focus omega) | (refine sB rfl rfl ?_; intro _) | (refine sN rfl rfl ?_ ?_; (focus (first | exact trivial | assumption | exact ⟨by assumption, by assumption⟩ | exact mb2 rfl rfl | exact mb4 rfl rfl rfl rfl)); intro _; simp only [List.cons_append, List.nil_append]) | refine sW rfl rfl ?_ | refine sK rfl rfl ?_ | refine j_if rfl ?_ | refine j_else rfl ?_ | refine Go.Vt.jq (wl_pickT rfl rfl) rfl rfl ?_ | refine Go.Vt.jq (wl_pickF rfl rfl) rfl rfl ?_)
    exact jx_ret_two rfl (resv_tmp rfl) (resv_tmp rfl) (fun w hw => ⟨⟨(bo, co, so), ha2⟩, rfl, hw.sub sbl⟩)
end Go.Vt
