/- ReconstructThrough: for at most 12 reports and any settings, Through returns the trajectory through the reports of their chain. (part 4 of 6.) Conditions: those that each statement names. -/
import Derived.RangeFuncBox
import Derived.RangeFuncNested
import Derived.Test.YtecgnhneekbhgaaGreatDoorKT3
/- Loops over iterators under the program logic: codes in a round cut in two, appends onto slices that own their rows, boxes. Conditions: those that each rule names. -/
set_option linter.unusedSimpArgs false
set_option linter.unusedVariables false
set_option maxHeartbeats 2000000
set_option maxRecDepth 100000
set_option linter.unusedSectionVars false
namespace Go.Vt
open Go.RowKit
section
variable {P : Program} {w0 : World} {n : Nat} {ops : Array Oper} {L : List Blk} {E : Env} {Q : Exit → Act → World → Prop} {rest : List Oper} {r : Option Nat} {N : Nat}
variable {ty : TypeId} {pos : String} {aft : Array Edge} {gd : Option (Nat × Bool)} {t : Tmp} {x y : Operand}
/-- The same behind a loop over an iterator, where the frame has a deferred call. -/
theorem listI_q {o : Oper} {v : Value} {a : Act} {ds : List Deferred} {w : World} (hy : Yl P w0 n L E o v) (ha : Rep n E a) (hw : Own w0 L w) (hg : guardB ops E o.guard = some true) (hn : noDef o = true)
    (h : ∀ w', Ext w w' → wpListIn (Fr r) N P ops Q rest { a.put o.dst v with defers := ds } w') : wpListIn (Fr r) N P ops Q (o :: rest) { a with defers := ds } w := by
  refine wpListIn_step fun K hK => ?_
  rw [if_pos (guardB_spec (a := a) ha hg)]
  refine wpI_of hn (wp_of_calm (a := { a with defers := ds }) (hy.out a w ha hw) fun w' hx => hK _ _ ?_)
  have e : ({ a with defers := ds } : Act).put o.dst v = { a.put o.dst v with defers := ds } := by
    cases o.dst <;> rfl
  rw [e]
  exact h w' hx
theorem upon_mid {Q' : Exit → Act → World → Prop} {o : Oper} {a : Act} {K : Act → World → Prop} {res : Result Next} (hQQ : ∀ e a w, e ≠ .normal → Q' e a w → Q e a w) (h : o.upon P a K Q' res) : o.uponIn (Fr r) N P a K Q res := by
  cases res with
  | ok x w' =>
    cases x <;> simp only [Oper.upon] at h <;> simp only [Oper.uponIn]
    case value => exact h
    case skip => exact h
    case defer => exact h
    case enter =>
      refine ⟨(fun hd => by cases hd), callsI (h.mono fun e w'' he => ?_)⟩
      cases e with
      | returned v => exact he
      | panicked ch => exact hQQ _ _ _ (fun h => by cases h) he
      | outgrown => obtain ⟨a0, w0, h0⟩ := he; exact ⟨a0, w0, hQQ _ _ _ (fun h => by cases h) h0⟩
    case row => exact ⟨(fun hd => by cases hd), fun c cs _ => let ⟨v, w', r, s⟩ := h c cs; ⟨v, w', r, stepsIn_wide.2 s⟩⟩
  | halt x w' =>
    cases x <;> simp only [Oper.upon] at h <;> simp only [Oper.uponIn]
    all_goals first | exact h | exact hQQ _ _ _ (fun h => by cases h) h
/-- What the first operations come to, walked as everywhere. -/
def MidL (r : Option Nat) (N : Nat) (P : Program) (ops : Array Oper) (Q : Exit → Act → World → Prop) (l2 : List Oper) : Exit → Act → World → Prop := fun e a w => e = .normal ∧ wpListIn (Fr r) N P ops Q l2 a w
theorem listI_split {l2 : List Oper} : ∀ (l1 : List Oper) (a : Act) (w : World), l1.all noDef = true → wpList P ops (MidL r N P ops Q l2) l1 a w → wpListIn (Fr r) N P ops Q (l1 ++ l2) a w
  | [], _, _, _, h => h.2
  | o :: l, a, w, hd, h => by
    simp only [List.all_cons, Bool.and_eq_true] at hd
    simp only [wpList] at h
    simp only [List.cons_append, wpListIn]
    split at h
    · rename_i hw
      rw [if_pos hw]
      rcases h with h | ⟨_, a0, w0, h, _⟩
      · refine ⟨fun f _ => trivial, ?_⟩
        rw [Oper.semAt_eq _ _ _ (noDef_ne hd.1)]
        have h2 : o.wpIn (Fr r) N P a w (wpListIn (Fr r) N P ops Q (l ++ l2)) Q := Oper.wpIn_mono (fun a w h => listI_split l a w hd.2 h) ⟨fun f _ => trivial, by
          rw [Oper.semAt_eq _ _ _ (noDef_ne hd.1)]
          exact upon_mid (fun e a w he hq => absurd hq.1 he) h⟩
        have h3 := h2.2
        rw [Oper.semAt_eq _ _ _ (noDef_ne hd.1)] at h3
        exact h3
      · cases h
    · rename_i hw
      rw [if_neg hw]
      exact ⟨fun f _ => trivial, listI_split l _ _ hd.2 h⟩
theorem jx_midL {l2 : List Oper} (h : ∀ a w, Rep n E a → Own w0 L w → wpListIn (Fr r) N P ops Q l2 a w) : JX w0 n .normal (MidL r N P ops Q l2) E L := ⟨fun a w ha hw => ⟨rfl, h a w ha hw⟩⟩
/-- An append onto a slice that owns its row: what else changes is said. -/
theorem listI_app {S T : TypeId} {a : Act} {w : World} {v : Value} {b2 m c2 k size bytes base : Nat} {xs news : List Value} {z : Value} {zc : Array Value} [hT : UndC P S (.slice T)] [hz : ZeroC P T z zc] [hk : SizeC P T size] [hB : BytesC P T bytes] (ha : Rep n E a) (hx : Env.ev E x = some v) (hy : Env.ev E y = some (.slice (some ⟨b2, 0, none⟩) m c2))
    (h6 : zc.size = size) (h7 : 0 < size) (hown : w.ownsRow base T size v k xs) (hn : news.length = m * size) (hc : ∀ j u, news[j]? = some u → w.cell? ((⟨b2, 0, none⟩ : Addr).add j) = some u) (h1 : ∀ u ∈ news, u.oneCell' = true) (hm : k + m ≤ maxLen) (hb : (k + m) * bytes ≤ 140737488355328) (hbs : base ≤ w.heap.size)
    (h : ∀ v' w', w'.ownsRow base T size v' (k + m) (xs ++ news) → w.grownBy w' v.ownBlock → wpListIn (Fr r) N P ops Q rest (a.put (some t) v') w') : wpListIn (Fr r) N P ops Q (⟨some t, .call ⟨.builtin .append, #[x, y], #[S, S]⟩, ty, pos, aft, none⟩ :: rest) a w := by
  obtain ⟨i, hi, h4⟩ := info_some hk.out
  obtain ⟨i', hi', h5⟩ := info_some hB.out
  obtain rfl : i' = i := Option.some.inj (hi'.symm.trans hi)
  have hz' : i'.zero = some z := by simpa [hi] using hz.out
  obtain ⟨v', w', hr, h8, h9, _⟩ := run_append_own (P := P) w base S ty T i' z size bytes hT.out hi hz' h4 h5 (by rw [hz.cells]; exact h6) h7 v k xs hown ⟨b2, 0, none⟩ m c2 news hn hc h1 hm hb hbs
  refine wpListIn_step fun K hK => ?_
  rw [if_pos (show Region.wanted _ _ = true from rfl)]
  refine ⟨fun f _ => trivial, ?_⟩
  rw [Oper.semAt_eq _ _ _ (fun c e => by cases e), run_appop ha hx hy hr]
  exact hK _ _ (h v' w' h8 h9)
theorem listI_store {T T0 : TypeId} {a : Act} {w : World} {b : Nat} {u u0 : Value} (ha : Rep n E a) (hx : Env.ev E x = some (.pointer (some ⟨b, 0, none⟩))) (hy : Env.ev E y = some u) (hb : w.heap[b]? = some (.cells #[u0] T0 (0, 0))) (hk : (P.info? T).map (·.size) = some 1) (hu : u.cells = #[u]) (h1 : u.oneCell' = true)
    (h : wpListIn (Fr r) N P ops Q rest (a.put none undef) (w.setCell ⟨b, 0, none⟩ u)) : wpListIn (Fr r) N P ops Q (⟨none, .store T x y, ty, pos, aft, none⟩ :: rest) a w := by
  refine wpListIn_step fun K hK => ?_
  rw [if_pos (show Region.wanted _ _ = true from rfl)]
  refine ⟨fun f _ => trivial, ?_⟩
  have hc : w.cell? ⟨b, 0, none⟩ = some u0 := by rw [cell_block hb]; rfl
  have hf : w.frozen? ⟨b, 0, none⟩ = false := frozen_of_row _ _ _ _ _ hb
  have hr : (execOp a.eval ⟨none, .store T x y, ty, pos, aft, none⟩).run P w = .ok .skip (w.setCell ⟨b, 0, none⟩ u) := by
    simp [execOp, ha.ev hx, ha.ev hy, Instr.storeAt, Instr.sureAddr, storeVar, run_sizeOf hk, hu, storeCells, Sem.run_bind, addr_add, run_store P w _ u _ h1, hc, hf, Result.andThen]
  rw [Oper.semAt_eq _ _ _ (fun c e => by cases e), hr]
  exact hK _ _ h
end
/-- A slice that owns its row, as a slice of the call's own. -/
theorem sls_of {α : Type} {enc : α → Array Value} {k base : Nat} {T : TypeId} {W : World} {v : Value} {xs : List α} (hnil : xs = [] → v = .slice none 0 0) (h : W.ownsRow base T k v xs.length (rowL enc xs)) :
    ∃ s : SlS enc k xs, v = vSl s ∧ ((mS T s).map (·.b)).Nodup ∧ ∀ e ∈ mS T s, base ≤ e.b ∧ W.heap[e.b]? = some e.obj := by
  obtain ⟨hl, h⟩ := h
  rcases h with ⟨rfl, h0⟩ | ⟨g, cap, cur, rfl, hb, hg, hn, hm, hs, ht⟩
  · have : xs = [] := List.length_eq_zero_iff.1 h0
    subst this
    exact ⟨SlS.no, rfl, List.nodup_nil, fun e he => (by cases he)⟩
  · by_cases h0 : xs = []
    · subst h0
      cases hnil rfl
    · refine ⟨SlS.at_ g cap (cur.toList.drop (xs.length * k)) ⟨hn, by rw [List.length_drop, Array.length_toList, hs, Nat.sub_mul]⟩ h0, rfl, by simp [mS, mO, SlS.at_], fun e he => ?_⟩
      have e1 : e = ⟨g, row enc xs (cur.toList.drop (xs.length * k)), T⟩ := by
        simpa [mS, mO, SlS.at_] using he
      subst e1
      refine ⟨hb, ?_⟩
      rw [hg]
      have : cur = row enc xs (cur.toList.drop (xs.length * k)) := by
        unfold row
        apply Array.ext'
        rw [List.toList_toArray, ← ht, List.take_append_drop]
      rw [← this]
theorem boxed_to {W W' : World} {B : Nat} {t : TypeId} {v : Value} (h : Boxed W B t v) (hx : Ext W W') : Boxed W' B t v := (hx.block B (lt_of_block h)).trans h
end Go.Vt
/- The keys of a map, one after another in any order. Conditions: those that each statement names. -/
set_option linter.unusedSimpArgs false
set_option linter.unusedVariables false
set_option maxHeartbeats 2000000
set_option maxRecDepth 100000
namespace Go.Vt
open Go.RowKit Go.Proofs
open Go.ChangeMaps (setBlock)
theorem grown_ext {w w' : World} (h : Ext w w') : w.grownBy w' none := ⟨h.bel.os, h.bel.tape, h.bel.output, h.bel.size, fun k hk _ => h.bel.block k hk⟩
/-- What a round that goes on keeps: what the caller had, maps and iterators. -/
def KpK (wc A A' : World) : Prop := Below wc.heap.size A A' ∧ ∀ (k : Nat) (o : Obj), A.heap[k]? = some o → o.isWalk = true → A'.heap[k]? = some o
instance al_boxM {P : Program} {E : Env} {T : TypeId} {x : Operand} {m : Option Nat} [h : IsC (evl E x) (.map m)] : AlC P E (.box T x) #[.map m] T := ⟨fun hg hd h => jo_box isE hg hd h⟩
instance ld_boxRp (m : Option Nat) : LdC Tryz.prog 113 #[.map m] 0 (.map m) := ⟨ldv_one (by kernel_rfl) (by kernel_rfl)⟩
abbrev pKR (l : List (api_Report × Bool)) : List api_Report := l.map (·.1)
theorem pKR_snoc {l : List (api_Report × Bool)} {s : List Nat} {i : Nat} (h : i < l.length) : seenL (pKR l) (s ++ [i]) = seenL (pKR l) s ++ [(gi l (i : Int)).1] := by
  rw [seenL_snoc _ _ _ (by rw [List.length_map]; exact h), List.getElem_map, gi_nat h]
set_option maxHeartbeats 4000000 in
theorem keysRp_stops (wc w0 : World) (Bm b N : Nat) (TB : TypeId) (l : List (api_Report × Bool)) (hwc : Below wc.heap.size wc w0) (hB : ∃ fz, wc.heap[Bm]? = some (.cells #[.map (some b)] TB fz)) (hb : wc.heap[b]? = some (mRp l)) :
    SeqStopsK (Fr none) N Tryz.prog 128 #[.pointer (some ⟨Bm, 0, none⟩)] (fun x : api_Report => #[.agg (e_api_Report x)]) (KpK wc) (fun ys => ys.Perm (pKR l)) (fun _ => True) (l.length + 1) w0 := by
  intro lp Jp Jx W hW hJ hJx hY h0
  have hBW : Below wc.heap.size wc W := hwc.trans (hW.mono hwc.size)
  have hB1 : ∃ fz, W.heap[Bm]? = some (.cells #[.map (some b)] TB fz) := by
    obtain ⟨fz, h⟩ := hB
    exact ⟨fz, (hBW.block Bm (lt_of_block h)).trans h⟩
  have hb1 : W.heap[b]? = some (mRp l) := (hBW.block b (lt_of_block hb)).trans hb
  have fB := FoC.mk (w0 := W) hB1
  have fb := FoO.mk hb1
  have hgo := fnI_intro (N := N) (P := Tryz.prog) (l := [Value.func (.yield lp) #[] #[], Value.pointer (some ⟨Bm, 0, none⟩)]) (w := W) (R := fun e W' => (∃ v, e = Ending.returned v) ∧ ((∃ xs, xs.Perm (pKR l) ∧ Jp xs W') ∨ ∃ pre, True ∧ Jx pre W')) Tryz.func128 rfl Tryz.ntmps128 rfl
  refine hgo ?_
  clear hgo
  refine ji_seq ?_
  refine ji_of ?_
  repeat (first | (refine wkB ?_; try intro _) | (refine sC rfl rfl ?_ ?_; focus (first | exact trivial | assumption | constructor <;> assumption | exact mb2 rfl rfl | exact mb4 rfl rfl rfl rfl)) | (refine sN rfl rfl ?_ ?_; (focus (first | exact trivial | assumption | constructor <;> assumption | exact mb2 rfl rfl | exact mb4 rfl rfl rfl rfl)); intro _; (try simp only [List.cons_append, List.nil_append, List.append_nil])) | refine sMu rfl ?_ | (refine sMm rfl rfl ?_; intro _) | (refine sRg rfl rfl ?_; intro _))
  refine jxi_then ?_
  rename_i r
  refine ji_block ?_
  refine ji_loop (S := List Nat) (fun s W1 => SeenOk l.length s ∧ Jp (seenL (pKR l) s) W1 ∧ Below wc.heap.size wc W1 ∧ W1.heap[r]? = some (itO b l.length s) ∧ W.heap.size ≤ r) (fun _ => [(0, .func (.yield lp) #[] #[]), (5, .pointer (some ⟨r, 0, none⟩))]) (fun s => l.length - s.length) [] (fun w hw => ⟨⟨List.nodup_nil, fun i hi => by cases hi⟩, hJ _ W w none h0 (grown_ext hw.ext) (fun _ e => by cases e), hBW.trans (hw.ext.bel.mono hBW.size), (hw.mem _ (.head _)).2, (hw.mem _ (.head _)).1⟩) sbB (fun s W1 hI => ?_)
  obtain ⟨hs, hJp, hB0, hr1, hrW⟩ := hI
  have hbb : W1.heap[b]? = some (mRp l) := (hB0.block b (lt_of_block hb)).trans hb
  have hlen := seen_len hs.nd hs.lt
  refine ji_seq ?_
  refine ji_region ?_
  refine joi_next rfl rfl (fun w hw => (hw.ext.block _ (lt_of_block hr1)).trans hr1) (fun w hw => (hw.ext.block _ (lt_of_block hbb)).trans hbb) (fun hall => ?h0) (fun w w1 hw hw1 i hi hni => ?h1)
  case h0 =>
    refine joi_of (fun _ _ h => by obtain ⟨⟨v, h⟩, _⟩ := h; cases h) rfl ?_
    repeat (first | (refine wkB ?_; try intro _) | (refine sC rfl rfl ?_ ?_; focus (first | exact trivial | assumption | constructor <;> assumption | exact mb2 rfl rfl | exact mb4 rfl rfl rfl rfl)) | (refine sN rfl rfl ?_ ?_; (focus (first | exact trivial | assumption | constructor <;> assumption | exact mb2 rfl rfl | exact mb4 rfl rfl rfl rfl)); intro _; (try simp only [List.cons_append, List.nil_append, List.append_nil])) | refine sMu rfl ?_ | (refine sMm rfl rfl ?_; intro _) | (refine sRg rfl rfl ?_; intro _))
    refine jxi_then ?_
    refine ji_seq ?_
    refine ji_cond rfl (fun h => by cases h) (fun _ => ?_)
    refine ji_exit ?_
    refine jxi_then_exit ?_
    refine jxi_loop_exit ?_
    refine jx_block_here ?_
    exact jx_end0 rfl (fun w hw => ⟨⟨_, rfl⟩, .inl ⟨_, seenL_perm hs.nd (by rw [List.length_map]; exact hs.lt) (by rw [List.length_map]; exact hall), hJ _ W1 w none hJp (grown_ext hw.ext) (fun _ e => by cases e)⟩⟩)
  case h1 =>
    have hs' := hs.snoc hi hni
    have hlen' := seen_len hs'.nd hs'.lt
    rw [List.length_append, List.length_singleton] at hlen'
    have hrw : w.heap[r]? = some (itO b l.length s) := (hw.ext.block _ (lt_of_block hr1)).trans hr1
    have hg := grown_next (r := r) (o := itO b l.length (s ++ [i])) hw1
    have hJ2 := hJ _ w _ (some r) (hJ _ W1 w none hJp (grown_ext hw.ext) (fun _ e => by cases e)) hg (fun r' e => by cases e; exact ⟨hrW, _, hrw, itO_walk _ _ _⟩)
    have hB2 := (hB0.trans (hw.ext.bel.mono hB0.size)).grown hg (Nat.le_trans hB0.size hw.ext.size) (fun j e => by cases e; exact Nat.le_trans hBW.size hrW)
    have hr2 := heap_next (o := itO b l.length (s ++ [i])) hw1 hrw
    generalize setBlock w1 r (itO b l.length (s ++ [i])) = W2 at *
    have hb2 : W2.heap[b]? = some (mRp l) := (hB2.block b (lt_of_block hb)).trans hb
    have f2 := FoO.mk hr2
    have f3 := FoO.mk hb2
    refine joi_of (fun _ _ h => by obtain ⟨⟨v, h⟩, _⟩ := h; cases h) rfl ?_
    repeat (first | (refine wkB ?_; try intro _) | (refine sC rfl rfl ?_ ?_; focus (first | exact trivial | assumption | constructor <;> assumption | exact mb2 rfl rfl | exact mb4 rfl rfl rfl rfl)) | (refine sN rfl rfl ?_ ?_; (focus (first | exact trivial | assumption | constructor <;> assumption | exact mb2 rfl rfl | exact mb4 rfl rfl rfl rfl)); intro _; (try simp only [List.cons_append, List.nil_append, List.append_nil])) | refine sMu rfl ?_ | (refine sMm rfl rfl ?_; intro _) | (refine sRg rfl rfl ?_; intro _))
    refine jxi_then ?_
    refine ji_seq ?_
    refine ji_cond rfl (fun _ => ?_) (fun h => by cases h)
    refine ji_skip ?_
    refine jxi_then ?_
    refine ji_block ?_
    refine ji_seq ?_
    refine ji_of ?_
    repeat (first | (refine wkB ?_; try intro _) | (refine sC rfl rfl ?_ ?_; focus (first | exact trivial | assumption | constructor <;> assumption | exact mb2 rfl rfl | exact mb4 rfl rfl rfl rfl)) | (refine sN rfl rfl ?_ ?_; (focus (first | exact trivial | assumption | constructor <;> assumption | exact mb2 rfl rfl | exact mb4 rfl rfl rfl rfl)); intro _; (try simp only [List.cons_append, List.nil_append, List.append_nil])) | refine sMu rfl ?_ | (refine sMm rfl rfl ?_; intro _) | (refine sRg rfl rfl ?_; intro _))
    refine jxi_then ?_
    refine ji_seq ?_
    refine ji_region ?_
    refine ⟨fun a2 w2 ha2 hw2 => listI_split [_, _] a2 w2 rfl (JO.out ?_ a2 w2 ha2 hw2)⟩
    repeat (first | (refine wkB ?_; try intro _) | (refine sC rfl rfl ?_ ?_; focus (first | exact trivial | assumption | constructor <;> assumption | exact mb2 rfl rfl | exact mb4 rfl rfl rfl rfl)) | (refine sN rfl rfl ?_ ?_; (focus (first | exact trivial | assumption | constructor <;> assumption | exact mb2 rfl rfl | exact mb4 rfl rfl rfl rfl)); intro _; (try simp only [List.cons_append, List.nil_append, List.append_nil])) | refine sMu rfl ?_ | (refine sMm rfl rfl ?_; intro _) | (refine sRg rfl rfl ?_; intro _))
    refine jx_midL (fun a3 w3 ha3 hw3 => (joi_yield (l := lp) (args := #[.agg (e_api_Report (gi l (i : Int)).1)]) (R := fun e W' => (e = .returned (.bool true) ∧ Jp (seenL (pKR l) (s ++ [i])) W' ∧ KpK wc W2 W') ∨ (e = .returned (.bool false) ∧ Jx (seenL (pKR l) (s ++ [i])) W')) rfl rfl rfl (fun a w ha => run_callY ha rfl rfl) (fun w hw => ?_) ?_).out a3 w3 ha3 hw3)
    · obtain ⟨fn, tmps, asg, bd, y1, y2⟩ := hY (seenL (pKR l) s) (gi l (i : Int)).1 w (hJ _ W2 w none hJ2 (grown_ext hw.ext) (fun _ e => by cases e)) (by rw [seenL_len _ (by rw [List.length_map]; exact hs.lt)]; omega)
      refine ⟨fn, tmps, asg, bd, y1, y2.mono fun e W' h => ?_⟩
      rw [pKR_snoc hi]
      rcases h with ⟨e1, e2, e3⟩ | ⟨e1, e2⟩
      · exact .inl ⟨e1, e2, (hw.ext.bel.mono hB2.size).trans e3.1, fun k o hk hwk => e3.2 k o ((hw.ext.block k (lt_of_block hk)).trans hk) hwk⟩
      · exact .inr ⟨e1, e2⟩
    · rintro e W' (⟨rfl, hJ', hk⟩ | ⟨rfl, hx'⟩)
      · refine ⟨_, rfl, ?_⟩
        refine joi_of (E := (12, .bool true) :: _) (fun _ _ h => by obtain ⟨⟨v, h⟩, _⟩ := h; cases h) rfl ?_
        repeat (first | (refine wkB ?_; try intro _) | (refine sC rfl rfl ?_ ?_; focus (first | exact trivial | assumption | constructor <;> assumption | exact mb2 rfl rfl | exact mb4 rfl rfl rfl rfl)) | (refine sN rfl rfl ?_ ?_; (focus (first | exact trivial | assumption | constructor <;> assumption | exact mb2 rfl rfl | exact mb4 rfl rfl rfl rfl)); intro _; (try simp only [List.cons_append, List.nil_append, List.append_nil])) | refine sMu rfl ?_ | (refine sMm rfl rfl ?_; intro _) | (refine sRg rfl rfl ?_; intro _))
        refine jxi_then ?_
        refine ji_cond rfl (fun h => by cases h) (fun _ => ?_)
        refine ji_skip ?_
        refine jx_block ?_
        refine jxi_loop (s ++ [i]) (fun w hw => ⟨hs', hJ _ W' w none hJ' (grown_ext hw.ext) (fun _ e => by cases e), hB2.trans ((hk.1.mono (Nat.le_refl _)).trans (hw.ext.bel.mono (Nat.le_trans hB2.size hk.1.size))), ?_, hrW⟩) sbB (by simp only [List.length_append, List.length_singleton]; omega)
        have h3 := hk.2 r _ hr2 (itO_walk _ _ _)
        exact (hw.ext.block _ (lt_of_block h3)).trans h3
      · refine ⟨_, rfl, ?_⟩
        refine joi_of (E := (12, .bool false) :: _) (fun _ _ h => by obtain ⟨⟨v, h⟩, _⟩ := h; cases h) rfl ?_
        repeat (first | (refine wkB ?_; try intro _) | (refine sC rfl rfl ?_ ?_; focus (first | exact trivial | assumption | constructor <;> assumption | exact mb2 rfl rfl | exact mb4 rfl rfl rfl rfl)) | (refine sN rfl rfl ?_ ?_; (focus (first | exact trivial | assumption | constructor <;> assumption | exact mb2 rfl rfl | exact mb4 rfl rfl rfl rfl)); intro _; (try simp only [List.cons_append, List.nil_append, List.append_nil])) | refine sMu rfl ?_ | (refine sMm rfl rfl ?_; intro _) | (refine sRg rfl rfl ?_; intro _))
        refine jxi_then ?_
        refine ji_cond rfl (fun _ => ?_) (fun h => by cases h)
        refine ji_ret ?_
        refine jx_block_ret ?_
        refine jxi_loop_ret ?_
        refine jx_block_ret ?_
        exact jx_ret0 rfl (fun w hw => ⟨⟨_, rfl⟩, .inr ⟨_, trivial, hJx _ W' w none hx' (grown_ext hw.ext) (fun _ e => by cases e)⟩⟩)
end Go.Vt
/- The keys of a map, one after another in any order. Conditions: those that each statement names. -/
set_option linter.unusedSimpArgs false
set_option linter.unusedVariables false
set_option maxHeartbeats 2000000
set_option maxRecDepth 100000
namespace Go.Vt
open Go.RowKit Go.Proofs
open Go.ChangeMaps (setBlock)
instance ld_boxEx (m : Option Nat) : LdC Tryz.prog 114 #[.map m] 0 (.map m) := ⟨ldv_one (by kernel_rfl) (by kernel_rfl)⟩
abbrev pKE (l : List (api_Exchange × Bool)) : List api_Exchange := l.map (·.1)
theorem pKE_snoc {l : List (api_Exchange × Bool)} {s : List Nat} {i : Nat} (h : i < l.length) : seenL (pKE l) (s ++ [i]) = seenL (pKE l) s ++ [(gi l (i : Int)).1] := by
  rw [seenL_snoc _ _ _ (by rw [List.length_map]; exact h), List.getElem_map, gi_nat h]
set_option maxHeartbeats 4000000 in
theorem keysEx_stops (wc w0 : World) (Bm b N : Nat) (TB : TypeId) (l : List (api_Exchange × Bool)) (hwc : Below wc.heap.size wc w0) (hB : ∃ fz, wc.heap[Bm]? = some (.cells #[.map (some b)] TB fz)) (hb : wc.heap[b]? = some (mEx l)) :
    SeqStopsK (Fr none) N Tryz.prog 184 #[.pointer (some ⟨Bm, 0, none⟩)] (fun x : api_Exchange => #[.agg (e_api_Exchange x)]) (KpK wc) (fun ys => ys.Perm (pKE l)) (fun _ => True) (l.length + 1) w0 := by
  intro lp Jp Jx W hW hJ hJx hY h0
  have hBW : Below wc.heap.size wc W := hwc.trans (hW.mono hwc.size)
  have hB1 : ∃ fz, W.heap[Bm]? = some (.cells #[.map (some b)] TB fz) := by
    obtain ⟨fz, h⟩ := hB
    exact ⟨fz, (hBW.block Bm (lt_of_block h)).trans h⟩
  have hb1 : W.heap[b]? = some (mEx l) := (hBW.block b (lt_of_block hb)).trans hb
  have fB := FoC.mk (w0 := W) hB1
  have fb := FoO.mk hb1
  have hgo := fnI_intro (N := N) (P := Tryz.prog) (l := [Value.func (.yield lp) #[] #[], Value.pointer (some ⟨Bm, 0, none⟩)]) (w := W) (R := fun e W' => (∃ v, e = Ending.returned v) ∧ ((∃ xs, xs.Perm (pKE l) ∧ Jp xs W') ∨ ∃ pre, True ∧ Jx pre W')) Tryz.func184 rfl Tryz.ntmps184 rfl
  refine hgo ?_
  clear hgo
  refine ji_seq ?_
  refine ji_of ?_
  repeat (first | (refine wkB ?_; try intro _) | (refine sC rfl rfl ?_ ?_; focus (first | exact trivial | assumption | constructor <;> assumption | exact mb2 rfl rfl | exact mb4 rfl rfl rfl rfl)) | (refine sN rfl rfl ?_ ?_; (focus (first | exact trivial | assumption | constructor <;> assumption | exact mb2 rfl rfl | exact mb4 rfl rfl rfl rfl)); intro _; (try simp only [List.cons_append, List.nil_append, List.append_nil])) | refine sMu rfl ?_ | (refine sMm rfl rfl ?_; intro _) | (refine sRg rfl rfl ?_; intro _))
  refine jxi_then ?_
  rename_i r
  refine ji_block ?_
  refine ji_loop (S := List Nat) (fun s W1 => SeenOk l.length s ∧ Jp (seenL (pKE l) s) W1 ∧ Below wc.heap.size wc W1 ∧ W1.heap[r]? = some (itO b l.length s) ∧ W.heap.size ≤ r) (fun _ => [(0, .func (.yield lp) #[] #[]), (5, .pointer (some ⟨r, 0, none⟩))]) (fun s => l.length - s.length) [] (fun w hw => ⟨⟨List.nodup_nil, fun i hi => by cases hi⟩, hJ _ W w none h0 (grown_ext hw.ext) (fun _ e => by cases e), hBW.trans (hw.ext.bel.mono hBW.size), (hw.mem _ (.head _)).2, (hw.mem _ (.head _)).1⟩) sbB (fun s W1 hI => ?_)
  obtain ⟨hs, hJp, hB0, hr1, hrW⟩ := hI
  have hbb : W1.heap[b]? = some (mEx l) := (hB0.block b (lt_of_block hb)).trans hb
  have hlen := seen_len hs.nd hs.lt
  refine ji_seq ?_
  refine ji_region ?_
  refine joi_next rfl rfl (fun w hw => (hw.ext.block _ (lt_of_block hr1)).trans hr1) (fun w hw => (hw.ext.block _ (lt_of_block hbb)).trans hbb) (fun hall => ?h0) (fun w w1 hw hw1 i hi hni => ?h1)
  case h0 =>
    refine joi_of (fun _ _ h => by obtain ⟨⟨v, h⟩, _⟩ := h; cases h) rfl ?_
    repeat (first | (refine wkB ?_; try intro _) | (refine sC rfl rfl ?_ ?_; focus (first | exact trivial | assumption | constructor <;> assumption | exact mb2 rfl rfl | exact mb4 rfl rfl rfl rfl)) | (refine sN rfl rfl ?_ ?_; (focus (first | exact trivial | assumption | constructor <;> assumption | exact mb2 rfl rfl | exact mb4 rfl rfl rfl rfl)); intro _; (try simp only [List.cons_append, List.nil_append, List.append_nil])) | refine sMu rfl ?_ | (refine sMm rfl rfl ?_; intro _) | (refine sRg rfl rfl ?_; intro _))
    refine jxi_then ?_
    refine ji_seq ?_
    refine ji_cond rfl (fun h => by cases h) (fun _ => ?_)
    refine ji_exit ?_
    refine jxi_then_exit ?_
    refine jxi_loop_exit ?_
    refine jx_block_here ?_
    exact jx_end0 rfl (fun w hw => ⟨⟨_, rfl⟩, .inl ⟨_, seenL_perm hs.nd (by rw [List.length_map]; exact hs.lt) (by rw [List.length_map]; exact hall), hJ _ W1 w none hJp (grown_ext hw.ext) (fun _ e => by cases e)⟩⟩)
  case h1 =>
    have hs' := hs.snoc hi hni
    have hlen' := seen_len hs'.nd hs'.lt
    rw [List.length_append, List.length_singleton] at hlen'
    have hrw : w.heap[r]? = some (itO b l.length s) := (hw.ext.block _ (lt_of_block hr1)).trans hr1
    have hg := grown_next (r := r) (o := itO b l.length (s ++ [i])) hw1
    have hJ2 := hJ _ w _ (some r) (hJ _ W1 w none hJp (grown_ext hw.ext) (fun _ e => by cases e)) hg (fun r' e => by cases e; exact ⟨hrW, _, hrw, itO_walk _ _ _⟩)
    have hB2 := (hB0.trans (hw.ext.bel.mono hB0.size)).grown hg (Nat.le_trans hB0.size hw.ext.size) (fun j e => by cases e; exact Nat.le_trans hBW.size hrW)
    have hr2 := heap_next (o := itO b l.length (s ++ [i])) hw1 hrw
    generalize setBlock w1 r (itO b l.length (s ++ [i])) = W2 at *
    have hb2 : W2.heap[b]? = some (mEx l) := (hB2.block b (lt_of_block hb)).trans hb
    have f2 := FoO.mk hr2
    have f3 := FoO.mk hb2
    refine joi_of (fun _ _ h => by obtain ⟨⟨v, h⟩, _⟩ := h; cases h) rfl ?_
    repeat (first | (refine wkB ?_; try intro _) | (refine sC rfl rfl ?_ ?_; focus (first | exact trivial | assumption | constructor <;> assumption | exact mb2 rfl rfl | exact mb4 rfl rfl rfl rfl)) | (refine sN rfl rfl ?_ ?_; (focus (first | exact trivial | assumption | constructor <;> assumption | exact mb2 rfl rfl | exact mb4 rfl rfl rfl rfl)); intro _; (try simp only [List.cons_append, List.nil_append, List.append_nil])) | refine sMu rfl ?_ | (refine sMm rfl rfl ?_; intro _) | (refine sRg rfl rfl ?_; intro _))
    refine jxi_then ?_
    refine ji_seq ?_
    refine ji_cond rfl (fun _ => ?_) (fun h => by cases h)
    refine ji_skip ?_
    refine jxi_then ?_
    refine ji_block ?_
    refine ji_seq ?_
    refine ji_of ?_
    repeat (first | (refine wkB ?_; try intro _) | (refine sC rfl rfl ?_ ?_; focus (first | exact trivial | assumption | constructor <;> assumption | exact mb2 rfl rfl | exact mb4 rfl rfl rfl rfl)) | (refine sN rfl rfl ?_ ?_; (focus (first | exact trivial | assumption | constructor <;> assumption | exact mb2 rfl rfl | exact mb4 rfl rfl rfl rfl)); intro _; (try simp only [List.cons_append, List.nil_append, List.append_nil])) | refine sMu rfl ?_ | (refine sMm rfl rfl ?_; intro _) | (refine sRg rfl rfl ?_; intro _))
    refine jxi_then ?_
    refine ji_seq ?_
    refine ji_region ?_
    refine ⟨fun a2 w2 ha2 hw2 => listI_split [_, _] a2 w2 rfl (JO.out ?_ a2 w2 ha2 hw2)⟩
    repeat (first | (refine wkB ?_; try intro _) | (refine sC rfl rfl ?_ ?_; focus (first | exact trivial | assumption | constructor <;> assumption | exact mb2 rfl rfl | exact mb4 rfl rfl rfl rfl)) | (refine sN rfl rfl ?_ ?_; (focus (first | exact trivial | assumption | constructor <;> assumption | exact mb2 rfl rfl | exact mb4 rfl rfl rfl rfl)); intro _; (try simp only [List.cons_append, List.nil_append, List.append_nil])) | refine sMu rfl ?_ | (refine sMm rfl rfl ?_; intro _) | (refine sRg rfl rfl ?_; intro _))
    refine jx_midL (fun a3 w3 ha3 hw3 => (joi_yield (l := lp) (args := #[.agg (e_api_Exchange (gi l (i : Int)).1)]) (R := fun e W' => (e = .returned (.bool true) ∧ Jp (seenL (pKE l) (s ++ [i])) W' ∧ KpK wc W2 W') ∨ (e = .returned (.bool false) ∧ Jx (seenL (pKE l) (s ++ [i])) W')) rfl rfl rfl (fun a w ha => run_callY ha rfl rfl) (fun w hw => ?_) ?_).out a3 w3 ha3 hw3)
    · obtain ⟨fn, tmps, asg, bd, y1, y2⟩ := hY (seenL (pKE l) s) (gi l (i : Int)).1 w (hJ _ W2 w none hJ2 (grown_ext hw.ext) (fun _ e => by cases e)) (by rw [seenL_len _ (by rw [List.length_map]; exact hs.lt)]; omega)
      refine ⟨fn, tmps, asg, bd, y1, y2.mono fun e W' h => ?_⟩
      rw [pKE_snoc hi]
      rcases h with ⟨e1, e2, e3⟩ | ⟨e1, e2⟩
      · exact .inl ⟨e1, e2, (hw.ext.bel.mono hB2.size).trans e3.1, fun k o hk hwk => e3.2 k o ((hw.ext.block k (lt_of_block hk)).trans hk) hwk⟩
      · exact .inr ⟨e1, e2⟩
    · rintro e W' (⟨rfl, hJ', hk⟩ | ⟨rfl, hx'⟩)
      · refine ⟨_, rfl, ?_⟩
        refine joi_of (E := (12, .bool true) :: _) (fun _ _ h => by obtain ⟨⟨v, h⟩, _⟩ := h; cases h) rfl ?_
        repeat (first | (refine wkB ?_; try intro _) | (refine sC rfl rfl ?_ ?_; focus (first | exact trivial | assumption | constructor <;> assumption | exact mb2 rfl rfl | exact mb4 rfl rfl rfl rfl)) | (refine sN rfl rfl ?_ ?_; (focus (first | exact trivial | assumption | constructor <;> assumption | exact mb2 rfl rfl | exact mb4 rfl rfl rfl rfl)); intro _; (try simp only [List.cons_append, List.nil_append, List.append_nil])) | refine sMu rfl ?_ | (refine sMm rfl rfl ?_; intro _) | (refine sRg rfl rfl ?_; intro _))
        refine jxi_then ?_
        refine ji_cond rfl (fun h => by cases h) (fun _ => ?_)
        refine ji_skip ?_
        refine jx_block ?_
        refine jxi_loop (s ++ [i]) (fun w hw => ⟨hs', hJ _ W' w none hJ' (grown_ext hw.ext) (fun _ e => by cases e), hB2.trans ((hk.1.mono (Nat.le_refl _)).trans (hw.ext.bel.mono (Nat.le_trans hB2.size hk.1.size))), ?_, hrW⟩) sbB (by simp only [List.length_append, List.length_singleton]; omega)
        have h3 := hk.2 r _ hr2 (itO_walk _ _ _)
        exact (hw.ext.block _ (lt_of_block h3)).trans h3
      · refine ⟨_, rfl, ?_⟩
        refine joi_of (E := (12, .bool false) :: _) (fun _ _ h => by obtain ⟨⟨v, h⟩, _⟩ := h; cases h) rfl ?_
        repeat (first | (refine wkB ?_; try intro _) | (refine sC rfl rfl ?_ ?_; focus (first | exact trivial | assumption | constructor <;> assumption | exact mb2 rfl rfl | exact mb4 rfl rfl rfl rfl)) | (refine sN rfl rfl ?_ ?_; (focus (first | exact trivial | assumption | constructor <;> assumption | exact mb2 rfl rfl | exact mb4 rfl rfl rfl rfl)); intro _; (try simp only [List.cons_append, List.nil_append, List.append_nil])) | refine sMu rfl ?_ | (refine sMm rfl rfl ?_; intro _) | (refine sRg rfl rfl ?_; intro _))
        refine jxi_then ?_
        refine ji_cond rfl (fun _ => ?_) (fun h => by cases h)
        refine ji_ret ?_
        refine jx_block_ret ?_
        refine jxi_loop_ret ?_
        refine jx_block_ret ?_
        exact jx_ret0 rfl (fun w hw => ⟨⟨_, rfl⟩, .inr ⟨_, trivial, hJx _ W' w none hx' (grown_ext hw.ext) (fun _ e => by cases e)⟩⟩)
end Go.Vt
/- The keys of a map, collected. Conditions: those that each statement names. -/
set_option linter.unusedSimpArgs false
set_option linter.unusedVariables false
set_option maxHeartbeats 2000000
set_option maxRecDepth 100000
namespace Go.Vt
open Go.RowKit Go.Proofs
/-- What has been collected. -/
def SeqI (w : World) (b2 : Nat) (pre : List api_Report) (W : World) : Prop :=
  (∃ v', Boxed W b2 72 v' ∧ W.ownsRow w.heap.size 34 8 v' pre.length (rowL e_api_Report pre) ∧ (pre = [] → v' = .slice none 0 0)) ∧ Below w.heap.size w W
theorem seqI_own {w : World} {b2 B : Nat} (hB : w.heap.size ≤ B) : OwnFrom B (SeqI w b2) :=
  OwnFrom.and (Own.from (holdsRow_own w.heap.size b2 72 34 8 (fun pre => pre.length) (fun pre => rowL e_api_Report pre) (fun pre v' => pre = [] → v' = .slice none 0 0)) _) (ownFrom_below (Nat.le_refl _) hB)
def SeqA (b2 : Nat) (x : api_Report) (a' : Act) (W : World) : Prop :=
  ∃ bx, W.heap[bx]? = some (.cells (e_api_Report x) 34 (0, 0)) ∧ Rep 13 [(2, .pointer (some ⟨b2, 0, none⟩)), (5, .pointer (some ⟨bx, 0, none⟩))] a'
theorem seq_step {w W w3 w4 : World} {b2 B : Nat} {v' v2 : Value} {pre : List api_Report} {x : api_Report} (hw : w.heap.size ≤ W.heap.size) (hBe : Below w.heap.size w W) (h5 : Boxed W b2 72 v') (hrow : W.ownsRow w.heap.size 34 8 v' pre.length (rowL e_api_Report pre))
    (hx : Ext W w3) (hown : w4.ownsRow w.heap.size 34 8 v2 (pre.length + 1) (rowL e_api_Report pre ++ rowL e_api_Report [x])) (hg : w3.grownBy w4 v'.ownBlock) (hb2 : w.heap.size ≤ b2) :
    Boxed w4 b2 72 v' ∧ KeepsFrom B W (w4.setCell ⟨b2, 0, none⟩ v2) ∧ KpK w W (w4.setCell ⟨b2, 0, none⟩ v2) ∧ SeqI w b2 (pre ++ [x]) (w4.setCell ⟨b2, 0, none⟩ v2) := by
  have hrow3 : w3.ownsRow w.heap.size 34 8 v' pre.length (rowL e_api_Report pre) := hrow.kept (grown_ext hx) (by cases v' with
    | slice p n c => cases p with
      | none => exact .inl rfl
      | some p => exact .inr (fun h => by cases h)
    | _ => exact .inl rfl)
  have q5 := Boxed.kept (boxed_to h5 hx) hg (Boxed.not_row (boxed_to h5 hx) (by decide) hrow3)
  have own : ∀ j, v'.ownBlock = some j → w.heap.size ≤ j ∧ ∃ cs T, w3.heap[j]? = some (.cells cs T (0, 0)) := fun j hj => by
    rcases hrow3.2 with ⟨rfl, _⟩ | ⟨g, cap, cur, rfl, hb, hgb, _⟩
    · cases hj
    · obtain rfl : g = j := by simpa [Value.ownBlock] using hj
      exact ⟨hb, _, _, hgb⟩
  have keep : ∀ (k : Nat) (o : Obj), W.heap[k]? = some o → o.isCells = false → (w4.setCell ⟨b2, 0, none⟩ v2).heap[k]? = some o := fun k o hk ho => by
    have e3 : w3.heap[k]? = some o := (hx.block k (lt_of_block hk)).trans hk
    have e4 : w4.heap[k]? = some o := (hg.block k (lt_of_block e3) (fun e => by obtain ⟨-, cs, T, hc⟩ := own k e.symm; rw [e3] at hc; cases hc; cases ho)).trans e3
    refine ((grownBy_setCell' w4 b2 v2).block k (lt_of_block e4) (fun e => ?_)).trans e4
    obtain rfl : k = b2 := by simpa using e
    rw [show w4.heap[k]? = _ from q5] at e4
    cases e4
    cases ho
  have hbel := ((hx.bel.mono hw).grown hg (Nat.le_trans hw hx.size) (fun j e => (own j e).1)).setCell (p := ⟨b2, 0, none⟩) hb2 v2
  refine ⟨q5, ⟨Nat.le_trans hx.size (Nat.le_trans hg.size (grownBy_setCell' w4 b2 v2).size), fun k o _ hk ho => keep k o hk ho⟩, ⟨hbel, fun k o hk ho => keep k o hk (Obj.not_cells_of_walk ho)⟩, ⟨⟨v2, Boxed.set v2 q5, ?_, fun h => ?_⟩, hBe.trans hbel⟩⟩
  · have e := hown.kept (grownBy_setCell' w4 b2 v2) (.inr (Boxed.not_row q5 (by decide) hown).symm)
    rw [List.length_append, List.length_singleton, rowL_append]
    exact e
  · simp at h
instance al_boxS0 {P : Program} {E : Env} {T : TypeId} {x : Operand} [h : IsC (evl E x) (.slice none 0 0)] : AlC P E (.box T x) #[.slice none 0 0] T := ⟨fun hg hd h => jo_box isE hg hd h⟩
set_option maxHeartbeats 4000000 in
theorem seqRp_spec (Bm b : Nat) (TB : TypeId) (l : List (api_Report × Bool)) (w : World) (hl : l.length ≤ 1048576) (hB : ∃ fz, w.heap[Bm]? = some (.cells #[.map (some b)] TB fz)) (hb : w.heap[b]? = some (mRp l)) :
    Calls Tryz.prog 154 [.slice none 0 0, .func (.func 128) #[] [.pointer (some ⟨Bm, 0, none⟩)].toArray].toArray w (RetM ((ys : { ys : List api_Report // ys.Perm (pKR l) }) × SlS e_api_Report 8 ys.1) (fun s => vSl s.2) (fun s => mS 34 s.2) w) := by
  have hgo := fnM_intro (N := 5) (P := Tryz.prog) (l := [Value.slice none 0 0, .func (.func 128) #[] [.pointer (some ⟨Bm, 0, none⟩)].toArray]) (w := w) (R := RetM ((ys : { ys : List api_Report // ys.Perm (pKR l) }) × SlS e_api_Report 8 ys.1) (fun s => vSl s.2) (fun s => mS 34 s.2) w) Tryz.func154 rfl Tryz.ntmps154 rfl
  refine hgo ?_
  clear hgo
  refine ji_seq ?_
  refine ji_of ?_
  repeat (first | (refine wkB ?_; try intro _) | (refine sC rfl rfl ?_ ?_; focus (first | exact trivial | assumption | constructor <;> assumption | exact mb2 rfl rfl | exact mb4 rfl rfl rfl rfl)) | (refine sN rfl rfl ?_ ?_; (focus (first | exact trivial | assumption | constructor <;> assumption | exact mb2 rfl rfl | exact mb4 rfl rfl rfl rfl)); intro _; (try simp only [List.cons_append, List.nil_append, List.append_nil])) | refine sMu rfl ?_ | (refine sMm rfl rfl ?_; intro _) | (refine sRg rfl rfl ?_; intro _))
  refine jxi_then ?_
  refine ji_seq ?_
  refine ji_seq ?_
  refine ji_of ?_
  repeat (first | (refine wkB ?_; try intro _) | (refine sC rfl rfl ?_ ?_; focus (first | exact trivial | assumption | constructor <;> assumption | exact mb2 rfl rfl | exact mb4 rfl rfl rfl rfl)) | (refine sN rfl rfl ?_ ?_; (focus (first | exact trivial | assumption | constructor <;> assumption | exact mb2 rfl rfl | exact mb4 rfl rfl rfl rfl)); intro _; (try simp only [List.cons_append, List.nil_append, List.append_nil])) | refine sMu rfl ?_ | (refine sMm rfl rfl ?_; intro _) | (refine sRg rfl rfl ?_; intro _))
  refine jxi_then ?_
  refine ji_block ?_
  rename_i b2
  refine ⟨fun a w1 ha hw1 => ?_⟩
  have hb2 := hw1.mem _ (.head _)
  have hwd := hw1.ext.size
  refine wpIn_rangeFunc_ownH (F := Fr none) (n := 5) (P := Tryz.prog) (w0 := w1) (N := l.length + 1) (α := api_Report) (encs := fun x => #[.agg (e_api_Report x)]) (S := fun ys => ys.Perm (pKR l)) (Sp := fun _ => True) (Kp := KpK w) rfl (by omega) (gf := 128) (lb := #[.pointer (some ⟨Bm, 0, none⟩)]) (ha.ev (x := .tmp 6) rfl) trivial (fun args w => run_callFunc (by kernel_rfl) args w)
    (keysRp_stops w w1 Bm b 4 TB l hw1.ext.bel hB hb) (fun h k => ⟨h.1.trans k.1, fun i o ho hw => k.2 i o (h.2 i o ho hw) hw⟩) (fun W lo o o' hl h hc hk => ⟨belowK_b (w := w1) hwd W lo o o' hl h hc hk, fun k o2 h2 hw2 => (World.putObj_heap_other (fun e => by rw [e, h] at h2; cases h2; rw [hk] at hw2; cases hw2)).trans h2⟩) (Below.refl _ _) (fun _ => rfl)
    (SeqI w b2) (fun _ _ _ => False) (seqI_own hwd) (fun _ _ _ _ _ hs _ _ => hs) ⟨⟨_, hb2.2, World.ownsRow_nil _ _ _ _, fun _ => rfl⟩, hw1.ext.bel⟩
    (SeqA b2) (fun x a' s X Y row ⟨bx, hc, hr⟩ hg hrow => ⟨bx, (hg.block bx (lt_of_block hc) (fun e => by obtain ⟨-, o, ho, hn⟩ := hrow bx e.symm; rw [hc] at ho; cases ho; cases hn)).trans hc, hr⟩) ?assign ?body ?done ?stop
  case stop =>
    rintro D c pre W _ _ h _
    exact h.elim
  case assign =>
    intro lo pre x W K hi hK
    have hact : ∀ a0 : Act, a0.defers = [] → ({ tmps := ((#[7] : Array Tmp).zip #[Value.agg (e_api_Report x)]).foldl (fun t (p, v) => t.setIfInBounds p v) a0.tmps, defers := [] } : Act) = a0.put (some 7) (.agg (e_api_Report x)) := fun a0 h => by
      cases a0
      simp only at h
      subst h
      simp [Act.put]
    rw [hact a ha.defers]
    have hrep := ha.put (some 7) (.agg (e_api_Report x)) rfl
    refine JI.out (r := some lo) (N := 3) (P := Tryz.prog) (w0 := W) (n := 13) (E := [(7, .agg (e_api_Report x)), (2, .pointer (some ⟨b2, 0, none⟩))]) (L := []) ?_ _ W (hrep.sub sbB) (Own.start W)
    refine ji_region ?_
    refine joi_of (fun _ _ h => h) rfl ?_
    repeat (first | (refine wkB ?_; try intro _) | (refine sC rfl rfl ?_ ?_; focus (first | exact trivial | assumption | constructor <;> assumption | exact mb2 rfl rfl | exact mb4 rfl rfl rfl rfl)) | (refine sN rfl rfl ?_ ?_; (focus (first | exact trivial | assumption | constructor <;> assumption | exact mb2 rfl rfl | exact mb4 rfl rfl rfl rfl)); intro _; (try simp only [List.cons_append, List.nil_append, List.append_nil])) | refine sMu rfl ?_ | (refine sMm rfl rfl ?_; intro _) | (refine sRg rfl rfl ?_; intro _))
    rename_i bx
    refine ⟨fun a' W' ha' hw' => hK a' W' ⟨hw'.ext.size, fun k o _ hk _ => (hw'.ext.block k (lt_of_block hk)).trans hk⟩ ⟨hw'.ext.bel.mono hi.2.size, fun k o ho _ => (hw'.ext.block _ (lt_of_block ho)).trans ho⟩ (seqI_own (Nat.le_refl _) _ W W' none hi (grown_ext hw'.ext) (fun r e => by cases e)) ⟨bx, (hw'.mem _ (.head _)).2, ha'.sub sbB⟩⟩
  case body =>
    rintro lo pre x a' W hlw hr hi ⟨bx, hbx, hra⟩ hlt
    obtain ⟨⟨v', hv', hrow, hnil⟩, hBe⟩ := hi
    obtain ⟨o, m, c, hvs⟩ : ∃ o m c, v' = .slice o m c := by
      rcases hrow.2 with ⟨h, _⟩ | ⟨g, cap, _, h, _⟩
      · exact ⟨_, _, _, h⟩
      · exact ⟨_, _, _, h⟩
    have f2 := FoC.mk ⟨(0, 0), hv'⟩
    have fx := FoC.mk ⟨(0, 0), hbx⟩
    rw [hvs] at f2
    refine JI.out (r := some lo) (N := 3) (P := Tryz.prog) (w0 := W) (n := 13) (E := [(2, .pointer (some ⟨b2, 0, none⟩)), (5, .pointer (some ⟨bx, 0, none⟩))]) (L := []) ?_ _ W hra (Own.start W)
    refine ji_block ?_
    refine ji_region ?_
    refine ⟨fun a2 w2 ha2 hw2 => ?_⟩
    refine listI_split [_, _, _] a2 w2 rfl (JO.out (w0 := W) (n := 13) (L := []) ?_ a2 w2 ha2 hw2)
    repeat (first | (refine wkB ?_; try intro _) | (refine sC rfl rfl ?_ ?_; focus (first | exact trivial | assumption | constructor <;> assumption | exact mb2 rfl rfl | exact mb4 rfl rfl rfl rfl)) | (refine sN rfl rfl ?_ ?_; (focus (first | exact trivial | assumption | constructor <;> assumption | exact mb2 rfl rfl | exact mb4 rfl rfl rfl rfl)); intro _; (try simp only [List.cons_append, List.nil_append, List.append_nil])) | refine sMu rfl ?_ | (refine sMm rfl rfl ?_; intro _) | (refine sRg rfl rfl ?_; intro _))
    refine jx_midL (fun a3 w3 ha3 hw3 => ?_)
    have hbn := (hw3.mem _ (.head _)).2
    refine listI_app (size := 8) (k := pre.length) (m := 1) (base := w.heap.size) (v := v') (xs := rowL e_api_Report pre) (news := rowL e_api_Report [x]) ha3 (by rw [hvs]; rfl) rfl rfl (by decide) (hrow.kept (grown_ext hw3.ext) (by rw [hvs]; cases o with | none => exact .inl rfl | some p => exact .inr (fun h => by cases h))) (rowL_len (k := 8) [x]) (fun j u hu => by rw [addr_add, cell_block hbn, Nat.zero_add]; simpa [row] using hu) (row_one [x]) (by simp only [maxLen]; omega) ?_ (Nat.le_trans hBe.size hw3.ext.size) (fun v2 w4 hown hgrow => ?_)
    · omega
    · obtain ⟨g', cap', hv2⟩ := ownsRow_succ hown
      subst hv2
      obtain ⟨q5, k1, k2, k3⟩ := seq_step (x := x) (B := w1.heap.size) hBe.size hBe hv' hrow hw3.ext hown hgrow hb2.1
      refine listI_store (b := b2) (ha3.put (some 11) _ rfl) rfl rfl q5 (by kernel_rfl) rfl rfl ?_
      exact wpListIn_nil ⟨k1, k2, k3⟩
  case done =>
    rintro D ys W hD hp hi hK
    obtain ⟨⟨v', hv', hrow, hnil⟩, hBe⟩ := hi
    obtain ⟨s, hs1, hs2, hs3⟩ := sls_of hnil hrow
    obtain ⟨o, m, c, hvs⟩ : ∃ o m c, v' = .slice o m c := by
      rcases hrow.2 with ⟨h, _⟩ | ⟨g, cap, _, h, _⟩
      · exact ⟨_, _, _, h⟩
      · exact ⟨_, _, _, h⟩
    have f5 := FoC.mk ⟨(0, 0), hv'⟩
    rw [hvs] at f5 hs1
    have hra : Rep 13 [(2, .pointer (some ⟨b2, 0, none⟩))] a := ha.sub sbB
    have hl : YlC Tryz.prog W 13 [] [(2, .pointer (some ⟨b2, 0, none⟩))] (.load 72 (.tmp 2)) (.slice o m c) := inferInstance
    show Code.wpIn (Fr none) 5 _ _ _ _ W
    refine wpIn_seq (wpIn_region_lit ?_)
    refine listI_q (a := a) (L := []) (w0 := W) (hl.out _ _ _ _ _) hra (Own.start W) rfl rfl (fun W2 hx2 => ?_)
    refine listI_q (a := a.put (some 12) (.slice o m c)) (L := []) (w0 := W2) (E := Env.put [(2, .pointer (some ⟨b2, 0, none⟩))] (some 12) (.slice o m c)) (yl_assign rfl) (hra.put (some 12) _ rfl) (Own.start W2) rfl rfl (fun W3 hx3 => ?_)
    refine wpListIn_nil ?_
    have hx := hx2.tr hx3
    have hK3 : W3.heap[D]? = some (.deferred (some [])) := (hx.block D (lt_of_block hK)).trans hK
    have hr4 : ((a.put (some 12) (.slice o m c)).put (some 4) (.slice o m c)).tmps[4]? = some (.slice o m c) := ((hra.put (some 12) _ rfl).put (some 4) (.slice o m c) rfl).val 4 _ rfl
    refine wpIn_ret ?_
    refine ⟨by simp, .inl ⟨_, _, rfl, run_takeDeferred hK3, ?_⟩⟩
    rw [ha.defers]
    refine ⟨.slice o m c, ?_, ⟨⟨ys, hp⟩, s⟩, by rw [hs1], ⟨⟨?_, trivial⟩, fun e he => ?_, hs2⟩⟩
    · rw [results_tmp rfl]
      show Result.ok (Array.getD _ 4 undef) _ = _
      rw [Array.getD_eq_getD_getElem?, hr4]
      rfl
    · exact (hBe.trans (hx.bel.mono hBe.size)).trans (belowK_b (w := w1) hwd W3 D _ _ hD hK3 rfl rfl)
    · obtain ⟨h1, h2⟩ := hs3 e he
      have h3 := (hx.block _ (lt_of_block h2)).trans h2
      refine ⟨h1, (World.putObj_heap_other (fun hd => ?_)).trans h3⟩
      rw [hd, hK3] at h3
      simp only at he
      rcases s.cases 34 with ⟨-, -, x2⟩ | ⟨bs, cs, sp, -, -, x2, -⟩
      · rw [x2] at he
        cases he
      · rw [x2, List.mem_singleton] at he
        subst he
        cases h3
end Go.Vt
/- The keys of a map, collected. Conditions: those that each statement names. -/
set_option linter.unusedSimpArgs false
set_option linter.unusedVariables false
set_option maxHeartbeats 2000000
set_option maxRecDepth 100000
namespace Go.Vt
open Go.RowKit Go.Proofs
/-- What has been collected. -/
def SeqIE (w : World) (b2 : Nat) (pre : List api_Exchange) (W : World) : Prop :=
  (∃ v', Boxed W b2 73 v' ∧ W.ownsRow w.heap.size 119 5 v' pre.length (rowL e_api_Exchange pre) ∧ (pre = [] → v' = .slice none 0 0)) ∧ Below w.heap.size w W
theorem seqIE_own {w : World} {b2 B : Nat} (hB : w.heap.size ≤ B) : OwnFrom B (SeqIE w b2) :=
  OwnFrom.and (Own.from (holdsRow_own w.heap.size b2 73 119 5 (fun pre => pre.length) (fun pre => rowL e_api_Exchange pre) (fun pre v' => pre = [] → v' = .slice none 0 0)) _) (ownFrom_below (Nat.le_refl _) hB)
def SeqAE (b2 : Nat) (x : api_Exchange) (a' : Act) (W : World) : Prop :=
  ∃ bx, W.heap[bx]? = some (.cells (e_api_Exchange x) 119 (0, 0)) ∧ Rep 13 [(2, .pointer (some ⟨b2, 0, none⟩)), (5, .pointer (some ⟨bx, 0, none⟩))] a'
theorem seq_stepE {w W w3 w4 : World} {b2 B : Nat} {v' v2 : Value} {pre : List api_Exchange} {x : api_Exchange} (hw : w.heap.size ≤ W.heap.size) (hBe : Below w.heap.size w W) (h5 : Boxed W b2 73 v') (hrow : W.ownsRow w.heap.size 119 5 v' pre.length (rowL e_api_Exchange pre))
    (hx : Ext W w3) (hown : w4.ownsRow w.heap.size 119 5 v2 (pre.length + 1) (rowL e_api_Exchange pre ++ rowL e_api_Exchange [x])) (hg : w3.grownBy w4 v'.ownBlock) (hb2 : w.heap.size ≤ b2) :
    Boxed w4 b2 73 v' ∧ KeepsFrom B W (w4.setCell ⟨b2, 0, none⟩ v2) ∧ KpK w W (w4.setCell ⟨b2, 0, none⟩ v2) ∧ SeqIE w b2 (pre ++ [x]) (w4.setCell ⟨b2, 0, none⟩ v2) := by
  have hrow3 : w3.ownsRow w.heap.size 119 5 v' pre.length (rowL e_api_Exchange pre) := hrow.kept (grown_ext hx) (by cases v' with
    | slice p n c => cases p with
      | none => exact .inl rfl
      | some p => exact .inr (fun h => by cases h)
    | _ => exact .inl rfl)
  have q5 := Boxed.kept (boxed_to h5 hx) hg (Boxed.not_row (boxed_to h5 hx) (by decide) hrow3)
  have own : ∀ j, v'.ownBlock = some j → w.heap.size ≤ j ∧ ∃ cs T, w3.heap[j]? = some (.cells cs T (0, 0)) := fun j hj => by
    rcases hrow3.2 with ⟨rfl, _⟩ | ⟨g, cap, cur, rfl, hb, hgb, _⟩
    · cases hj
    · obtain rfl : g = j := by simpa [Value.ownBlock] using hj
      exact ⟨hb, _, _, hgb⟩
  have keep : ∀ (k : Nat) (o : Obj), W.heap[k]? = some o → o.isCells = false → (w4.setCell ⟨b2, 0, none⟩ v2).heap[k]? = some o := fun k o hk ho => by
    have e3 : w3.heap[k]? = some o := (hx.block k (lt_of_block hk)).trans hk
    have e4 : w4.heap[k]? = some o := (hg.block k (lt_of_block e3) (fun e => by obtain ⟨-, cs, T, hc⟩ := own k e.symm; rw [e3] at hc; cases hc; cases ho)).trans e3
    refine ((grownBy_setCell' w4 b2 v2).block k (lt_of_block e4) (fun e => ?_)).trans e4
    obtain rfl : k = b2 := by simpa using e
    rw [show w4.heap[k]? = _ from q5] at e4
    cases e4
    cases ho
  have hbel := ((hx.bel.mono hw).grown hg (Nat.le_trans hw hx.size) (fun j e => (own j e).1)).setCell (p := ⟨b2, 0, none⟩) hb2 v2
  refine ⟨q5, ⟨Nat.le_trans hx.size (Nat.le_trans hg.size (grownBy_setCell' w4 b2 v2).size), fun k o _ hk ho => keep k o hk ho⟩, ⟨hbel, fun k o hk ho => keep k o hk (Obj.not_cells_of_walk ho)⟩, ⟨⟨v2, Boxed.set v2 q5, ?_, fun h => ?_⟩, hBe.trans hbel⟩⟩
  · have e := hown.kept (grownBy_setCell' w4 b2 v2) (.inr (Boxed.not_row q5 (by decide) hown).symm)
    rw [List.length_append, List.length_singleton, rowL_append]
    exact e
  · simp at h
set_option maxHeartbeats 4000000 in
theorem seqEx_spec (Bm b : Nat) (TB : TypeId) (l : List (api_Exchange × Bool)) (w : World) (hl : l.length ≤ 1048576) (hB : ∃ fz, w.heap[Bm]? = some (.cells #[.map (some b)] TB fz)) (hb : w.heap[b]? = some (mEx l)) :
    Calls Tryz.prog 202 [.slice none 0 0, .func (.func 184) #[] [.pointer (some ⟨Bm, 0, none⟩)].toArray].toArray w (RetM ((ys : { ys : List api_Exchange // ys.Perm (pKE l) }) × SlS e_api_Exchange 5 ys.1) (fun s => vSl s.2) (fun s => mS 119 s.2) w) := by
  have hgo := fnM_intro (N := 5) (P := Tryz.prog) (l := [Value.slice none 0 0, .func (.func 184) #[] [.pointer (some ⟨Bm, 0, none⟩)].toArray]) (w := w) (R := RetM ((ys : { ys : List api_Exchange // ys.Perm (pKE l) }) × SlS e_api_Exchange 5 ys.1) (fun s => vSl s.2) (fun s => mS 119 s.2) w) Tryz.func202 rfl Tryz.ntmps202 rfl
  refine hgo ?_
  clear hgo
  refine ji_seq ?_
  refine ji_of ?_
  repeat (first | (refine wkB ?_; try intro _) | (refine sC rfl rfl ?_ ?_; focus (first | exact trivial | assumption | constructor <;> assumption | exact mb2 rfl rfl | exact mb4 rfl rfl rfl rfl)) | (refine sN rfl rfl ?_ ?_; (focus (first | exact trivial | assumption | constructor <;> assumption | exact mb2 rfl rfl | exact mb4 rfl rfl rfl rfl)); intro _; (try simp only [List.cons_append, List.nil_append, List.append_nil])) | refine sMu rfl ?_ | (refine sMm rfl rfl ?_; intro _) | (refine sRg rfl rfl ?_; intro _))
  refine jxi_then ?_
  refine ji_seq ?_
  refine ji_seq ?_
  refine ji_of ?_
  repeat (first | (refine wkB ?_; try intro _) | (refine sC rfl rfl ?_ ?_; focus (first | exact trivial | assumption | constructor <;> assumption | exact mb2 rfl rfl | exact mb4 rfl rfl rfl rfl)) | (refine sN rfl rfl ?_ ?_; (focus (first | exact trivial | assumption | constructor <;> assumption | exact mb2 rfl rfl | exact mb4 rfl rfl rfl rfl)); intro _; (try simp only [List.cons_append, List.nil_append, List.append_nil])) | refine sMu rfl ?_ | (refine sMm rfl rfl ?_; intro _) | (refine sRg rfl rfl ?_; intro _))
  refine jxi_then ?_
  refine ji_block ?_
  rename_i b2
  refine ⟨fun a w1 ha hw1 => ?_⟩
  have hb2 := hw1.mem _ (.head _)
  have hwd := hw1.ext.size
  refine wpIn_rangeFunc_ownH (F := Fr none) (n := 5) (P := Tryz.prog) (w0 := w1) (N := l.length + 1) (α := api_Exchange) (encs := fun x => #[.agg (e_api_Exchange x)]) (S := fun ys => ys.Perm (pKE l)) (Sp := fun _ => True) (Kp := KpK w) rfl (by omega) (gf := 184) (lb := #[.pointer (some ⟨Bm, 0, none⟩)]) (ha.ev (x := .tmp 6) rfl) trivial (fun args w => run_callFunc (by kernel_rfl) args w)
    (keysEx_stops w w1 Bm b 4 TB l hw1.ext.bel hB hb) (fun h k => ⟨h.1.trans k.1, fun i o ho hw => k.2 i o (h.2 i o ho hw) hw⟩) (fun W lo o o' hl h hc hk => ⟨belowK_b (w := w1) hwd W lo o o' hl h hc hk, fun k o2 h2 hw2 => (World.putObj_heap_other (fun e => by rw [e, h] at h2; cases h2; rw [hk] at hw2; cases hw2)).trans h2⟩) (Below.refl _ _) (fun _ => rfl)
    (SeqIE w b2) (fun _ _ _ => False) (seqIE_own hwd) (fun _ _ _ _ _ hs _ _ => hs) ⟨⟨_, hb2.2, World.ownsRow_nil _ _ _ _, fun _ => rfl⟩, hw1.ext.bel⟩
    (SeqAE b2) (fun x a' s X Y row ⟨bx, hc, hr⟩ hg hrow => ⟨bx, (hg.block bx (lt_of_block hc) (fun e => by obtain ⟨-, o, ho, hn⟩ := hrow bx e.symm; rw [hc] at ho; cases ho; cases hn)).trans hc, hr⟩) ?assign ?body ?done ?stop
  case stop =>
    rintro D c pre W _ _ h _
    exact h.elim
  case assign =>
    intro lo pre x W K hi hK
    have hact : ∀ a0 : Act, a0.defers = [] → ({ tmps := ((#[7] : Array Tmp).zip #[Value.agg (e_api_Exchange x)]).foldl (fun t (p, v) => t.setIfInBounds p v) a0.tmps, defers := [] } : Act) = a0.put (some 7) (.agg (e_api_Exchange x)) := fun a0 h => by
      cases a0
      simp only at h
      subst h
      simp [Act.put]
    rw [hact a ha.defers]
    have hrep := ha.put (some 7) (.agg (e_api_Exchange x)) rfl
    refine JI.out (r := some lo) (N := 3) (P := Tryz.prog) (w0 := W) (n := 13) (E := [(7, .agg (e_api_Exchange x)), (2, .pointer (some ⟨b2, 0, none⟩))]) (L := []) ?_ _ W (hrep.sub sbB) (Own.start W)
    refine ji_region ?_
    refine joi_of (fun _ _ h => h) rfl ?_
    repeat (first | (refine wkB ?_; try intro _) | (refine sC rfl rfl ?_ ?_; focus (first | exact trivial | assumption | constructor <;> assumption | exact mb2 rfl rfl | exact mb4 rfl rfl rfl rfl)) | (refine sN rfl rfl ?_ ?_; (focus (first | exact trivial | assumption | constructor <;> assumption | exact mb2 rfl rfl | exact mb4 rfl rfl rfl rfl)); intro _; (try simp only [List.cons_append, List.nil_append, List.append_nil])) | refine sMu rfl ?_ | (refine sMm rfl rfl ?_; intro _) | (refine sRg rfl rfl ?_; intro _))
    rename_i bx
    refine ⟨fun a' W' ha' hw' => hK a' W' ⟨hw'.ext.size, fun k o _ hk _ => (hw'.ext.block k (lt_of_block hk)).trans hk⟩ ⟨hw'.ext.bel.mono hi.2.size, fun k o ho _ => (hw'.ext.block _ (lt_of_block ho)).trans ho⟩ (seqIE_own (Nat.le_refl _) _ W W' none hi (grown_ext hw'.ext) (fun r e => by cases e)) ⟨bx, (hw'.mem _ (.head _)).2, ha'.sub sbB⟩⟩
  case body =>
    rintro lo pre x a' W hlw hr hi ⟨bx, hbx, hra⟩ hlt
    obtain ⟨⟨v', hv', hrow, hnil⟩, hBe⟩ := hi
    obtain ⟨o, m, c, hvs⟩ : ∃ o m c, v' = .slice o m c := by
      rcases hrow.2 with ⟨h, _⟩ | ⟨g, cap, _, h, _⟩
      · exact ⟨_, _, _, h⟩
      · exact ⟨_, _, _, h⟩
    have f2 := FoC.mk ⟨(0, 0), hv'⟩
    have fx := FoC.mk ⟨(0, 0), hbx⟩
    rw [hvs] at f2
    refine JI.out (r := some lo) (N := 3) (P := Tryz.prog) (w0 := W) (n := 13) (E := [(2, .pointer (some ⟨b2, 0, none⟩)), (5, .pointer (some ⟨bx, 0, none⟩))]) (L := []) ?_ _ W hra (Own.start W)
    refine ji_block ?_
    refine ji_region ?_
    refine ⟨fun a2 w2 ha2 hw2 => ?_⟩
    refine listI_split [_, _, _] a2 w2 rfl (JO.out (w0 := W) (n := 13) (L := []) ?_ a2 w2 ha2 hw2)
    repeat (first | (refine wkB ?_; try intro _) | (refine sC rfl rfl ?_ ?_; focus (first | exact trivial | assumption | constructor <;> assumption | exact mb2 rfl rfl | exact mb4 rfl rfl rfl rfl)) | (refine sN rfl rfl ?_ ?_; (focus (first | exact trivial | assumption | constructor <;> assumption | exact mb2 rfl rfl | exact mb4 rfl rfl rfl rfl)); intro _; (try simp only [List.cons_append, List.nil_append, List.append_nil])) | refine sMu rfl ?_ | (refine sMm rfl rfl ?_; intro _) | (refine sRg rfl rfl ?_; intro _))
    refine jx_midL (fun a3 w3 ha3 hw3 => ?_)
    have hbn := (hw3.mem _ (.head _)).2
    refine listI_app (size := 5) (k := pre.length) (m := 1) (base := w.heap.size) (v := v') (xs := rowL e_api_Exchange pre) (news := rowL e_api_Exchange [x]) ha3 (by rw [hvs]; rfl) rfl rfl (by decide) (hrow.kept (grown_ext hw3.ext) (by rw [hvs]; cases o with | none => exact .inl rfl | some p => exact .inr (fun h => by cases h))) (rowL_len (k := 5) [x]) (fun j u hu => by rw [addr_add, cell_block hbn, Nat.zero_add]; simpa [row] using hu) (row_one [x]) (by simp only [maxLen]; omega) ?_ (Nat.le_trans hBe.size hw3.ext.size) (fun v2 w4 hown hgrow => ?_)
    · omega
    · obtain ⟨g', cap', hv2⟩ := ownsRow_succ hown
      subst hv2
      obtain ⟨q5, k1, k2, k3⟩ := seq_stepE (x := x) (B := w1.heap.size) hBe.size hBe hv' hrow hw3.ext hown hgrow hb2.1
      refine listI_store (b := b2) (ha3.put (some 11) _ rfl) rfl rfl q5 (by kernel_rfl) rfl rfl ?_
      exact wpListIn_nil ⟨k1, k2, k3⟩
  case done =>
    rintro D ys W hD hp hi hK
    obtain ⟨⟨v', hv', hrow, hnil⟩, hBe⟩ := hi
    obtain ⟨s, hs1, hs2, hs3⟩ := sls_of hnil hrow
    obtain ⟨o, m, c, hvs⟩ : ∃ o m c, v' = .slice o m c := by
      rcases hrow.2 with ⟨h, _⟩ | ⟨g, cap, _, h, _⟩
      · exact ⟨_, _, _, h⟩
      · exact ⟨_, _, _, h⟩
    have f5 := FoC.mk ⟨(0, 0), hv'⟩
    rw [hvs] at f5 hs1
    have hra : Rep 13 [(2, .pointer (some ⟨b2, 0, none⟩))] a := ha.sub sbB
    have hl : YlC Tryz.prog W 13 [] [(2, .pointer (some ⟨b2, 0, none⟩))] (.load 73 (.tmp 2)) (.slice o m c) := inferInstance
    show Code.wpIn (Fr none) 5 _ _ _ _ W
    refine wpIn_seq (wpIn_region_lit ?_)
    refine listI_q (a := a) (L := []) (w0 := W) (hl.out _ _ _ _ _) hra (Own.start W) rfl rfl (fun W2 hx2 => ?_)
    refine listI_q (a := a.put (some 12) (.slice o m c)) (L := []) (w0 := W2) (E := Env.put [(2, .pointer (some ⟨b2, 0, none⟩))] (some 12) (.slice o m c)) (yl_assign rfl) (hra.put (some 12) _ rfl) (Own.start W2) rfl rfl (fun W3 hx3 => ?_)
    refine wpListIn_nil ?_
    have hx := hx2.tr hx3
    have hK3 : W3.heap[D]? = some (.deferred (some [])) := (hx.block D (lt_of_block hK)).trans hK
    have hr4 : ((a.put (some 12) (.slice o m c)).put (some 4) (.slice o m c)).tmps[4]? = some (.slice o m c) := ((hra.put (some 12) _ rfl).put (some 4) (.slice o m c) rfl).val 4 _ rfl
    refine wpIn_ret ?_
    refine ⟨by simp, .inl ⟨_, _, rfl, run_takeDeferred hK3, ?_⟩⟩
    rw [ha.defers]
    refine ⟨.slice o m c, ?_, ⟨⟨ys, hp⟩, s⟩, by rw [hs1], ⟨⟨?_, trivial⟩, fun e he => ?_, hs2⟩⟩
    · rw [results_tmp rfl]
      show Result.ok (Array.getD _ 4 undef) _ = _
      rw [Array.getD_eq_getD_getElem?, hr4]
      rfl
    · exact (hBe.trans (hx.bel.mono hBe.size)).trans (belowK_b (w := w1) hwd W3 D _ _ hD hK3 rfl rfl)
    · obtain ⟨h1, h2⟩ := hs3 e he
      have h3 := (hx.block _ (lt_of_block h2)).trans h2
      refine ⟨h1, (World.putObj_heap_other (fun hd => ?_)).trans h3⟩
      rw [hd, hK3] at h3
      simp only at he
      rcases s.cases 119 with ⟨-, -, x2⟩ | ⟨bs, cs, sp, -, -, x2, -⟩
      · rw [x2] at he
        cases he
      · rw [x2, List.mem_singleton] at he
        subst he
        cases h3
end Go.Vt
/- The order of units and their sorting, walked. Conditions: those that each statement names. -/
set_option linter.unusedSimpArgs false
set_option linter.unusedVariables false
set_option maxHeartbeats 2000000
set_option maxRecDepth 100000
namespace Go.Vt
open Go.RowKit Go.Proofs
/-- The first of some numbers that is not zero. -/
def orL : List Int → Int
  | [] => 0
  | x :: r => if x = 0 then orL r else x
theorem orL_drop (xs : List Int) (m : Nat) (hm : m < xs.length) : orL (xs.drop m) = if gi xs (m : Int) = 0 then orL (xs.drop (m + 1)) else gi xs (m : Int) := by
  rw [List.drop_eq_getElem_cons hm, orL, gi_nat hm]
theorem cmpOr_spec (b c n : Nat) (xs : List Int) (sp : List Value) (T : TypeId) (hn : n = xs.length) (hl : n ≤ 1099511627776) (w : World) (hw : ∃ fz, w.heap[b]? = some (.cells (row (eI .i64) xs sp) T fz)) :
    Calls Tryz.prog 121 [.slice (some ⟨b, 0, none⟩) n c].toArray w (Ret (.int .i64 (orL xs)) w) := by
  have := FoC.mk hw
  refine fn_intro Tryz.func121 rfl Tryz.ntmps121 rfl ?_
  repeat (refine wkB ?_; try intro _)
  refine j_loop (S := Nat) (fun m => m ≤ n ∧ orL xs = orL (xs.drop m)) (fun m => [(3, .int .i64 0), (6, .slice (some ⟨b, 0, none⟩) n c), (7, .int .i64 n), (8, .int .i64 (m : Nat))]) (fun _ => []) (fun m => n - m) 0 ⟨Nat.zero_le _, by rw [List.drop_zero]⟩ sbB slB (fun m hm => ?_)
  obtain ⟨hm, ho⟩ := hm
  repeat (refine wkB ?_; try intro _)
  refine j_cond rfl (fun h => ?_) (fun h => ?_)
  · have hlt : m < n := by have := of_decide_eq_true h; omega
    have hlp : (m : Int).toNat < xs.length := by omega
    rw [orL_drop xs m (by omega)] at ho
    repeat (refine wkB ?_; try intro _)
    by_cases h0 : gi xs (m : Int) = 0
    · rw [if_pos h0] at ho
      simp only [decide_eq_true h0, Bool.not_true]
      repeat (first | (refine wkB ?_; try intro _) | (refine sC rfl rfl ?_ ?_; focus (exact ⟨by omega, by omega⟩)) | (refine sN rfl rfl ?_ ?_; (focus (exact ⟨by omega, by omega⟩)); intro _; (try simp only [List.cons_append, List.nil_append, List.append_nil])))
      exact jx_loop (m + 1) ⟨hlt, ho⟩ sbB slB (by omega)
    · rw [if_neg h0] at ho
      simp only [decide_eq_false h0, Bool.not_false]
      repeat (refine wkB ?_; try intro _)
      rw [ho]
      exact jx_ret_tmp rfl rfl (fun w hw => ret_ok hw)
  · have hge : m = n := by have := of_decide_eq_false h; omega
    subst hge
    rw [hn, List.drop_length] at ho
    repeat (refine wkB ?_; try intro _)
    rw [ho]
    exact jx_ret_tmp rfl rfl (fun w hw => ret_ok hw)
instance sm_cmpOr (w0 : World) (L : List Blk) (b c n : Nat) (xs : List Int) (sp : List Value) (T : TypeId) [h : AtC w0 L b (row (eI .i64) xs sp) T] : SpecM Tryz.prog w0 L 121 [.slice (some ⟨b, 0, none⟩) n c] (.int .i64 (orL xs)) (n = xs.length ∧ n ≤ 1099511627776) := ⟨fun hp w hw => cmpOr_spec b c n xs sp T hp.1 hp.2 w (h.out w hw)⟩
def opn (I : R_api_Interval) : Int := if I.OpenFrom then 1 else 0
instance sp_opn (I : R_api_Interval) : SpecC Tryz.prog 142 [vIv I] (.int .i64 (opn I)) True := ⟨fun _ w => by
  refine fn_intro Tryz.func142 rfl Tryz.ntmps142 rfl ?_
  obtain ⟨f, t, o, c⟩ := I
  cases o
  · repeat (refine wkB ?_; try intro _)
    exact jx_ret_tmp rfl rfl (fun w hw => ret_ok hw)
  · repeat (refine wkB ?_; try intro _)
    exact jx_ret_tmp rfl rfl (fun w hw => ret_ok hw)⟩
/-- Both ends are rational and short. -/
structure IvOk (K : Nat) (I : R_api_Interval) : Prop where
  r1 : I.From.R = 0
  r2 : I.To.R = 0
  n1 : I.From.Neg = false
  n2 : I.To.Neg = false
  m1 : M I.From.P ≤ K
  m2 : M I.To.P ≤ K
theorem IvOk.mono {K K' : Nat} {I : R_api_Interval} (h : IvOk K I) (hk : K ≤ K') : IvOk K' I := ⟨h.r1, h.r2, h.n1, h.n2, Nat.le_trans h.m1 hk, Nat.le_trans h.m2 hk⟩
abbrev BQ : Nat := 8589934592
/-- The order of units. -/
def cmpU (a b : UL) : Int := orL [cq a.In.From.P b.In.From.P, Lib.compareInt (opn a.In) (opn b.In), cq a.In.To.P b.In.To.P]
instance sp_cmpU (a b : UL) : SpecC Tryz.prog 141 [vUL a, vUL b] (.int .i64 (cmpU a b)) (IvOk BQ a.In ∧ IvOk BQ b.In) := ⟨fun hp w => by
  obtain ⟨h1, h2⟩ := hp
  refine fn_intro Tryz.func141 rfl Tryz.ntmps141 rfl ?_
  repeat (refine wkB ?_; try intro _)
  rename_i b2 b3
  (refine j_phases [([0, 1, 2, 3, 4, 5, 6, 7, 8, 9, 10, 11, 12, 13, 14, 15, 16, 17, 18, 19, 20, 21, 22], [23, 24, 25])] ([⟨b3, rU b, 136⟩, ⟨b2, rU a, 136⟩]) (h := ?_); refine wkP ?_)
  (repeat (first | refine wkH ?_ | (refine tC rfl rfl ?_ ?_; focus (first | exact trivial | exact ⟨⟨h1.r1, h2.r1⟩, Nat.le_trans h1.m1 (by decide), Nat.le_trans h2.m1 (by decide)⟩ | exact ⟨⟨h1.r2, h2.r2⟩, Nat.le_trans h1.m2 (by decide), Nat.le_trans h2.m2 (by decide)⟩))))
  repeat (first | (refine wkT ?_; try intro _) | (refine tC rfl rfl ?_ ?_; focus (exact ⟨rfl, by decide⟩)) | (refine uC rfl rfl ?_ ?_; focus (exact ⟨rfl, by decide⟩)) | (refine eN rfl rfl ?_ ?_; (focus (exact ⟨rfl, by decide⟩)); intro _; (try simp only [List.cons_append, List.nil_append, List.append_nil])))
  repeat (refine wkB ?_; try intro _)
  exact jx_ret_tmp rfl rfl (fun w hw => ret_ok hw)⟩
/-- Two neighbours change places. -/
def swp (xs : List UL) (j : Nat) : List UL := (xs.set (j + 1) (gi xs (j : Int))).set j (gi xs ((j + 1 : Nat) : Int))
/-- An element goes down as long as it is less than the one ahead of it. -/
def dwn (xs : List UL) : Nat → List UL
  | 0 => xs
  | j + 1 => if cmpU (gi xs ((j + 1 : Nat) : Int)) (gi xs (j : Int)) < 0 then dwn (swp xs j) j else xs
/-- The first elements are in order. -/
def srt (xs : List UL) : Nat → List UL
  | 0 => xs
  | i + 1 => dwn (srt xs i) (i + 1)
theorem swp_len (xs : List UL) (j : Nat) : (swp xs j).length = xs.length := by simp [swp]
theorem swp_mem {xs : List UL} {j : Nat} (h : j + 1 < xs.length) {u : UL} (hu : u ∈ swp xs j) : u ∈ xs := by
  unfold swp at hu
  rcases List.mem_or_eq_of_mem_set hu with h1 | h1
  · rcases List.mem_or_eq_of_mem_set h1 with h2 | h2
    · exact h2
    · rw [h2, gi_nat (by omega)]
      exact List.getElem_mem _
  · rw [h1, gi_nat h]
    exact List.getElem_mem _
theorem dwn_len : ∀ (j : Nat) (xs : List UL), (dwn xs j).length = xs.length
  | 0, _ => rfl
  | j + 1, xs => by
    rw [dwn]
    split
    · rw [dwn_len j, swp_len]
    · rfl
theorem dwn_mem : ∀ (j : Nat) (xs : List UL), j < xs.length → ∀ u ∈ dwn xs j, u ∈ xs
  | 0, _, _, _, h => h
  | j + 1, xs, hj, u, h => by
    rw [dwn] at h
    split at h
    · exact swp_mem hj (dwn_mem j _ (by rw [swp_len]; omega) u h)
    · exact h
theorem srt_len (xs : List UL) : ∀ i, (srt xs i).length = xs.length
  | 0 => rfl
  | i + 1 => by rw [srt, dwn_len, srt_len xs i]
theorem srt_mem (xs : List UL) : ∀ i, i < xs.length → ∀ u ∈ srt xs i, u ∈ xs
  | 0, _, _, h => h
  | i + 1, hi, u, h => by
    rw [srt] at h
    exact srt_mem xs i (by omega) u (dwn_mem _ _ (by rw [srt_len]; exact hi) u h)
theorem ins_spec (w0 w : World) (L1 : List Blk) (b c n : Nat) (xs : List UL) (sp : List Value) (T : TypeId) (hn : xs.length = n) (hl : n ≤ 1048576) (hok : ∀ u ∈ xs, IvOk BQ u.In) (hw : Own w0 (⟨b, row rU xs sp, T⟩ :: L1) w) :
    Calls Tryz.prog 192 [.slice (some ⟨b, 0, none⟩) n c, .int .i64 0, .int .i64 n, vFn 141].toArray w (RetX w0 Unit (fun _ => .tuple #[]) (fun _ => ⟨b, row rU (srt xs (n - 1)) sp, T⟩ :: L1)) := by
  refine fn_introL Tryz.func192 rfl Tryz.ntmps192 rfl hw ?_
  repeat (refine wkB ?_; try intro _)
  refine j_loop (S := Nat) (fun m => m ≤ n - 1) (fun m => [(0, .slice (some ⟨b, 0, none⟩) n c), (1, .int .i64 0), (2, .int .i64 n), (3, vFn 141), (8, .int .i64 ((m + 1 : Nat)))]) (fun m => ⟨b, row rU (srt xs m) sp, T⟩ :: L1) (fun m => n - 1 - m) 0 (Nat.zero_le _) sbB slB (fun m hm => ?_)
  have hsl := srt_len xs m
  repeat (refine wkB ?_; try intro _)
  refine j_cond rfl (fun h => ?_) (fun h => ?_)
  · have hlt : m + 1 < n := by have := of_decide_eq_true h; omega
    have hmem := srt_mem xs m (by omega)
    repeat (refine wkB ?_; try intro _)
    refine j_loop (S := Nat × List UL) (fun s => dwn s.2 s.1 = srt xs (m + 1) ∧ s.2.length = n ∧ s.1 ≤ m + 1 ∧ ∀ u ∈ s.2, IvOk BQ u.In) (fun s => [(0, .slice (some ⟨b, 0, none⟩) n c), (1, .int .i64 0), (2, .int .i64 n), (3, vFn 141), (8, .int .i64 ((m + 1 : Nat))), (9, .int .i64 ((s.1 : Nat)))]) (fun s => ⟨b, row rU s.2 sp, T⟩ :: L1) (fun s => s.1) (m + 1, srt xs m)
      ⟨rfl, by show (srt xs m).length = n; omega, Nat.le_refl _, fun u hu => hok u (hmem u hu)⟩ sbB slB (fun s hs => ?_)
    obtain ⟨j, ys⟩ := s
    obtain ⟨g1, g2, g3, g4⟩ := hs
    simp only at g1 g2 g3 g4 ⊢
    repeat (refine wkB ?_; try intro _)
    rcases j with _ | j
    · (refine jD 17 17 (h := ?_); (repeat (refine wkH ?_)); refine jh_nil ?_; (repeat (refine wn_new ?_; intro _)); refine jn_nil ?_)
      repeat (refine wkB ?_; try intro _)
      exact jx_loop (m + 1) (by omega) sbB (by rw [← g1]; exact List.Sublist.refl _) (by omega)
    · have hj1 : ((j : Int)).toNat < ys.length := by omega
      have hj2 : (((j + 1 : Nat) : Int)).toNat < ys.length := by omega
      have e1 : ((j + 1 : Nat) : Int) - 1 = (j : Int) := by omega
      have o1 := g4 _ (by rw [gi_nat (show j < ys.length by omega)]; exact List.getElem_mem _ : gi ys (j : Int) ∈ ys)
      have o2 := g4 _ (by rw [gi_nat (show j + 1 < ys.length by omega)]; exact List.getElem_mem _ : gi ys ((j + 1 : Nat) : Int) ∈ ys)
      rw [dwn] at g1
      refine jD 17 17 (h := ?_)
      (repeat (refine wkH ?_))
      simp only [decide_eq_true (show (0 : Int) < ((j + 1 : Nat) : Int) by omega), e1]
      (repeat (refine wkH ?_))
      simp only [e1]
      (repeat (first | refine wkH ?_ | (refine tC rfl rfl ?_ ?_; focus (exact ⟨o2, o1⟩))))
      refine jh_nil ?_
      refine jn_nil ?_
      repeat (refine wkB ?_; try intro _)
      by_cases hc : cmpU (gi ys ((j + 1 : Nat) : Int)) (gi ys (j : Int)) < 0
      · rw [if_pos hc] at g1
        simp only [decide_eq_true hc]
        repeat (refine wkB ?_; try intro _)
        (refine j_seg [(true, [0, 1, 2, 3, 4, 5, 6, 7, 8]), (false, [9]), (true, [10, 11, 12]), (false, [13]), (true, [14])] [15, 16, 17] (h := ?_); refine wkS ?_)
        (repeat (refine wkH ?_))
        simp only [e1]
        refine jh_nil ?_
        refine eR rfl ?_ ?_
        · omega
        refine uS rfl rfl ?_ ?_
        · omega
        refine eR rfl ?_ ?_
        · rw [List.length_set]; omega
        refine je_nil ?_
        simp only [Int.toNat_natCast]
        repeat (first | (refine wkB ?_; try intro _) | (refine sC rfl rfl ?_ ?_; focus (exact ⟨by omega, by omega⟩)) | (refine sN rfl rfl ?_ ?_; (focus (exact ⟨by omega, by omega⟩)); intro _; (try simp only [List.cons_append, List.nil_append, List.append_nil])))
        simp only [e1]
        exact jx_loop (j, swp ys j) ⟨g1, by rw [swp_len]; exact g2, by omega, fun u hu => g4 u (swp_mem (by omega) hu)⟩ sbB slB (by show j < j + 1; omega)
      · rw [if_neg hc] at g1
        simp only [decide_eq_false hc]
        repeat (first | (refine wkB ?_; try intro _) | (refine sC rfl rfl ?_ ?_; focus (exact ⟨by omega, by omega⟩)) | (refine sN rfl rfl ?_ ?_; (focus (exact ⟨by omega, by omega⟩)); intro _; (try simp only [List.cons_append, List.nil_append, List.append_nil])))
        exact jx_loop (m + 1) (by omega) sbB (by rw [← g1]; exact List.Sublist.refl _) (by omega)
  · have hge : m = n - 1 := by have := of_decide_eq_false h; omega
    subst hge
    repeat (refine wkB ?_; try intro _)
    exact jx_end0 rfl (fun w hw => ⟨(), rfl, hw⟩)
abbrev SrtS (xs : List UL) (s : SlS rU 36 xs) : Type := { s' : SlS rU 36 (srt xs (xs.length - 1)) // vSl s' = vSl s }
theorem insS_spec (w0 w : World) (L L1 : List Blk) (xs : List UL) (s : SlS rU 36 xs) (T : TypeId) [hd : OwnS T s L L1] (hl : xs.length ≤ 1048576) (hok : ∀ u ∈ xs, IvOk BQ u.In) (hw : Own w0 L w) :
    Calls Tryz.prog 192 [vSl s, .int .i64 0, .int .i64 xs.length, vFn 141].toArray w (RetX w0 (SrtS xs s) (fun _ => .tuple #[]) (fun s' => mS T s'.1 ++ L1)) := by
  have hw1 := hw.perm hd.out
  rcases s.cases T with ⟨rfl, hv, hm⟩ | ⟨b, c, sp, h1, hv, hm, hne⟩
  · suffices h : Calls Tryz.prog 192 [.slice none 0 0, .int .i64 0, .int .i64 (([] : List UL).length : Nat), vFn 141].toArray w (RetX w0 (SrtS [] s) (fun _ => .tuple #[]) (fun s' => mS T s'.1 ++ L1)) by
      rw [← hv] at h
      exact h
    refine fn_introL Tryz.func192 rfl Tryz.ntmps192 rfl hw1 ?_
    repeat (refine wkB ?_; try intro _)
    refine j_loop (S := Unit) (fun _ => True) (fun _ => [(2, .int .i64 (([] : List UL).length : Nat)), (8, .int .i64 1)]) (fun _ => mS T s ++ L1) (fun _ => 0) () trivial sbB slB (fun _ _ => ?_)
    repeat (refine wkB ?_; try intro _)
    simp only [decide_eq_false (show ¬ (1 : Int) < ((([] : List UL).length : Nat) : Int) by simp)]
    repeat (refine wkB ?_; try intro _)
    exact jx_end0 rfl (fun w hw => ⟨⟨s, rfl⟩, rfl, hw⟩)
  · suffices h : Calls Tryz.prog 192 [.slice (some ⟨b, 0, none⟩) xs.length c, .int .i64 0, .int .i64 xs.length, vFn 141].toArray w (RetX w0 (SrtS xs s) (fun _ => .tuple #[]) (fun s' => mS T s'.1 ++ L1)) by
      rw [← hv] at h
      exact h
    rw [hm] at hw1
    have hsl := srt_len xs (xs.length - 1)
    refine (ins_spec w0 w L1 b c xs.length xs sp T rfl hl hok hw1).mono fun e w' ⟨_, he, hw'⟩ => ?_
    exact ⟨⟨SlS.at_ b c sp (by rw [hsl]; exact h1) (fun h0 => hne (List.length_eq_zero_iff.1 (by rw [h0, List.length_nil] at hsl; exact hsl.symm))), by rw [hv]; show Value.slice _ (srt xs (xs.length - 1)).length c = _; rw [hsl]⟩, he, hw'⟩
instance sx_ins (w0 : World) (L L1 : List Blk) (xs : List UL) (s : SlS rU 36 xs) (T : TypeId) [hd : OwnS T s L L1] : SpecX Tryz.prog w0 L 192 [vSl s, .int .i64 0, .int .i64 xs.length, vFn 141] (SrtS xs s) (fun _ => .tuple #[]) (fun s' => mS T s'.1 ++ L1) (xs.length ≤ 1048576 ∧ ∀ u ∈ xs, IvOk BQ u.In) := ⟨fun hp w hw => insS_spec w0 w L L1 xs s T hp.1 hp.2 hw⟩
theorem stable_spec (w0 w : World) (L L1 : List Blk) (xs : List UL) (s : SlS rU 36 xs) (T : TypeId) [hd : OwnS T s L L1] (hl : xs.length ≤ 19) (hok : ∀ u ∈ xs, IvOk BQ u.In) (hw : Own w0 L w) :
    Calls Tryz.prog 167 [vSl s, .int .i64 xs.length, vFn 141].toArray w (RetX w0 (SrtS xs s) (fun _ => .tuple #[]) (fun s' => mS T s'.1 ++ L1)) := by
  refine fn_introL Tryz.func167 rfl Tryz.ntmps167 rfl hw ?_
  repeat (refine wkB ?_; try intro _)
  refine j_loop (S := Unit) (fun _ => True) (fun _ => [(0, vSl s), (1, .int .i64 xs.length), (2, vFn 141), (6, .int .i64 20), (7, .int .i64 0), (8, .int .i64 20)]) (fun _ => L) (fun _ => 0) () trivial sbB slB (fun _ _ => ?_)
  repeat (refine wkB ?_; try intro _)
  simp only [decide_eq_false (show ¬ (20 : Int) ≤ (xs.length : Int) by omega)]
  repeat (refine wkB ?_; try intro _)
  refine sZ rfl rfl ?_ ?_
  · exact ⟨by omega, hok⟩
  intro s'
  repeat (refine wkB ?_; try intro _)
  refine j_loop (S := Unit) (fun _ => True) (fun _ => [(1, .int .i64 xs.length), (6, .int .i64 20)]) (fun _ => mS T s'.1 ++ L1) (fun _ => 0) () trivial sbB slB (fun _ _ => ?_)
  repeat (refine wkB ?_; try intro _)
  simp only [decide_eq_false (show ¬ (20 : Int) < (xs.length : Int) by omega)]
  repeat (refine wkB ?_; try intro _)
  exact jx_end0 rfl (fun w hw => ⟨s', rfl, hw⟩)
instance sx_stable (w0 : World) (L L1 : List Blk) (xs : List UL) (s : SlS rU 36 xs) (T : TypeId) [hd : OwnS T s L L1] : SpecX Tryz.prog w0 L 167 [vSl s, .int .i64 xs.length, vFn 141] (SrtS xs s) (fun _ => .tuple #[]) (fun s' => mS T s'.1 ++ L1) (xs.length ≤ 19 ∧ ∀ u ∈ xs, IvOk BQ u.In) := ⟨fun hp w hw => stable_spec w0 w L L1 xs s T hp.1 hp.2 hw⟩
theorem sortStable_spec (w0 w : World) (L L1 : List Blk) (xs : List UL) (s : SlS rU 36 xs) (T : TypeId) [hd : OwnS T s L L1] (hl : xs.length ≤ 19) (hok : ∀ u ∈ xs, IvOk BQ u.In) (hw : Own w0 L w) :
    Calls Tryz.prog 140 [vSl s, vFn 141].toArray w (RetX w0 (SrtS xs s) (fun _ => .tuple #[]) (fun s' => mS T s'.1 ++ L1)) := by
  refine fn_introL Tryz.func140 rfl Tryz.ntmps140 rfl hw ?_
  repeat (refine wkB ?_; try intro _)
  refine sZ rfl rfl ?_ ?_
  · exact ⟨hl, hok⟩
  intro s'
  repeat (refine wkB ?_; try intro _)
  exact jx_end0 rfl (fun w hw => ⟨s', rfl, hw⟩)
instance sx_sortStable (w0 : World) (L L1 : List Blk) (xs : List UL) (s : SlS rU 36 xs) (T : TypeId) [hd : OwnS T s L L1] : SpecX Tryz.prog w0 L 140 [vSl s, vFn 141] (SrtS xs s) (fun _ => .tuple #[]) (fun s' => mS T s'.1 ++ L1) (xs.length ≤ 19 ∧ ∀ u ∈ xs, IvOk BQ u.In) := ⟨fun hp w hw => sortStable_spec w0 w L L1 xs s T hp.1 hp.2 hw⟩
end Go.Vt
/- The order of exchanges. Conditions: those that each statement names. -/
set_option linter.unusedSimpArgs false
set_option linter.unusedVariables false
set_option maxHeartbeats 2000000
set_option maxRecDepth 100000
namespace Go.Vt
open Go.RowKit Go.Proofs
def fldE (x : api_Exchange) : List Int := [x.From, x.To, x.Sent, x.Received, x.Least]
theorem fldE_inj {a b : api_Exchange} (h : fldE a = fldE b) : a = b := by
  obtain ⟨a1, a2, a3, a4, a5⟩ := a
  obtain ⟨b1, b2, b3, b4, b5⟩ := b
  simp only [fldE, List.cons.injEq, and_true] at h
  obtain ⟨rfl, rfl, rfl, rfl, rfl⟩ := h
  rfl
def cmpEx (a b : api_Exchange) : Int := lexC (fldE a) (fldE b)
abbrev ExOk (_ : api_Exchange) : Prop := True
theorem orL_lex (a1 a2 a3 a4 a5 b1 b2 b3 b4 b5 : Int) : orL [Lib.compareInt a1 b1, Lib.compareInt a2 b2, Lib.compareInt a3 b3, Lib.compareInt a4 b4, Lib.compareInt a5 b5] = lexC [a1, a2, a3, a4, a5] [b1, b2, b3, b4, b5] := by
  simp only [orL, lexC_cons]
  have e : lexC [] [] = 0 := rfl
  rw [e]
  repeat' split
  all_goals first | rfl | omega
instance sp_order (a b : api_Exchange) : SpecC Tryz.prog 159 [.agg (e_api_Exchange a), .agg (e_api_Exchange b)] (.int .i64 (cmpEx a b)) (ExOk a ∧ ExOk b) := ⟨fun _ w => by
  have he : cmpEx a b = orL [Lib.compareInt a.From b.From, Lib.compareInt a.To b.To, Lib.compareInt a.Sent b.Sent, Lib.compareInt a.Received b.Received, Lib.compareInt a.Least b.Least] := (orL_lex _ _ _ _ _ _ _ _ _ _).symm
  rw [he]
  refine fn_intro Tryz.func159 rfl Tryz.ntmps159 rfl ?_
  repeat (refine wkB ?_; try intro _)
  rename_i b2 b3
  (refine j_phases [([0, 1, 2, 3, 4, 5, 6, 7, 8, 9, 10, 11, 12, 13, 14, 15, 16, 17, 18, 19, 20, 21, 22, 23, 24], [25, 26, 27])] ([⟨b3, e_api_Exchange b, 119⟩, ⟨b2, e_api_Exchange a, 119⟩]) (h := ?_); refine wkP ?_)
  (repeat (refine wkH ?_))
  repeat (first | (refine wkT ?_; try intro _) | (refine tC rfl rfl ?_ ?_; focus (exact ⟨rfl, by decide⟩)) | (refine uC rfl rfl ?_ ?_; focus (exact ⟨rfl, by decide⟩)) | (refine eN rfl rfl ?_ ?_; (focus (exact ⟨rfl, by decide⟩)); intro _; (try simp only [List.cons_append, List.nil_append, List.append_nil])))
  repeat (refine wkB ?_; try intro _)
  exact jx_ret_tmp rfl rfl (fun w hw => ret_ok hw)⟩
end Go.Vt
/- Sorting, walked. Conditions: those that each statement names. -/
set_option linter.unusedSimpArgs false
set_option linter.unusedVariables false
set_option maxHeartbeats 2000000
set_option maxRecDepth 100000
namespace Go.Vt
open Go.RowKit Go.Proofs
/-- Two neighbours change places. -/
def swpEx (xs : List api_Exchange) (j : Nat) : List api_Exchange := (xs.set (j + 1) (gi xs (j : Int))).set j (gi xs ((j + 1 : Nat) : Int))
/-- An element goes down as long as it is less than the one ahead of it. -/
def dwnEx (xs : List api_Exchange) : Nat → List api_Exchange
  | 0 => xs
  | j + 1 => if cmpEx (gi xs ((j + 1 : Nat) : Int)) (gi xs (j : Int)) < 0 then dwnEx (swpEx xs j) j else xs
/-- The first elements are in order. -/
def srtEx (xs : List api_Exchange) : Nat → List api_Exchange
  | 0 => xs
  | i + 1 => dwnEx (srtEx xs i) (i + 1)
theorem swp_lenEx (xs : List api_Exchange) (j : Nat) : (swpEx xs j).length = xs.length := by simp [swpEx]
theorem swp_memEx {xs : List api_Exchange} {j : Nat} (h : j + 1 < xs.length) {u : api_Exchange} (hu : u ∈ swpEx xs j) : u ∈ xs := by
  unfold swpEx at hu
  rcases List.mem_or_eq_of_mem_set hu with h1 | h1
  · rcases List.mem_or_eq_of_mem_set h1 with h2 | h2
    · exact h2
    · rw [h2, gi_nat (by omega)]
      exact List.getElem_mem _
  · rw [h1, gi_nat h]
    exact List.getElem_mem _
theorem dwn_lenEx : ∀ (j : Nat) (xs : List api_Exchange), (dwnEx xs j).length = xs.length
  | 0, _ => rfl
  | j + 1, xs => by
    rw [dwnEx]
    split
    · rw [dwn_lenEx j, swp_lenEx]
    · rfl
theorem dwn_memEx : ∀ (j : Nat) (xs : List api_Exchange), j < xs.length → ∀ u ∈ dwnEx xs j, u ∈ xs
  | 0, _, _, _, h => h
  | j + 1, xs, hj, u, h => by
    rw [dwnEx] at h
    split at h
    · exact swp_memEx hj (dwn_memEx j _ (by rw [swp_lenEx]; omega) u h)
    · exact h
theorem srt_lenEx (xs : List api_Exchange) : ∀ i, (srtEx xs i).length = xs.length
  | 0 => rfl
  | i + 1 => by rw [srtEx, dwn_lenEx, srt_lenEx xs i]
theorem srt_memEx (xs : List api_Exchange) : ∀ i, i < xs.length → ∀ u ∈ srtEx xs i, u ∈ xs
  | 0, _, _, h => h
  | i + 1, hi, u, h => by
    rw [srtEx] at h
    exact srt_memEx xs i (by omega) u (dwn_memEx _ _ (by rw [srt_lenEx]; exact hi) u h)
theorem ins_specEx (w0 w : World) (L1 : List Blk) (b c n : Nat) (xs : List api_Exchange) (sp : List Value) (T : TypeId) (hn : xs.length = n) (hl : n ≤ 1048576) (hok : ∀ u ∈ xs, ExOk u) (hw : Own w0 (⟨b, row e_api_Exchange xs sp, T⟩ :: L1) w) :
    Calls Tryz.prog 220 [.slice (some ⟨b, 0, none⟩) n c, .int .i64 0, .int .i64 n, vFn 159].toArray w (RetX w0 Unit (fun _ => .tuple #[]) (fun _ => ⟨b, row e_api_Exchange (srtEx xs (n - 1)) sp, T⟩ :: L1)) := by
  refine fn_introL Tryz.func220 rfl Tryz.ntmps220 rfl hw ?_
  repeat (refine wkB ?_; try intro _)
  refine j_loop (S := Nat) (fun m => m ≤ n - 1) (fun m => [(0, .slice (some ⟨b, 0, none⟩) n c), (1, .int .i64 0), (2, .int .i64 n), (3, vFn 159), (8, .int .i64 ((m + 1 : Nat)))]) (fun m => ⟨b, row e_api_Exchange (srtEx xs m) sp, T⟩ :: L1) (fun m => n - 1 - m) 0 (Nat.zero_le _) sbB slB (fun m hm => ?_)
  have hsl := srt_lenEx xs m
  repeat (refine wkB ?_; try intro _)
  refine j_cond rfl (fun h => ?_) (fun h => ?_)
  · have hlt : m + 1 < n := by have := of_decide_eq_true h; omega
    have hmem := srt_memEx xs m (by omega)
    repeat (refine wkB ?_; try intro _)
    refine j_loop (S := Nat × List api_Exchange) (fun s => dwnEx s.2 s.1 = srtEx xs (m + 1) ∧ s.2.length = n ∧ s.1 ≤ m + 1 ∧ ∀ u ∈ s.2, ExOk u) (fun s => [(0, .slice (some ⟨b, 0, none⟩) n c), (1, .int .i64 0), (2, .int .i64 n), (3, vFn 159), (8, .int .i64 ((m + 1 : Nat))), (9, .int .i64 ((s.1 : Nat)))]) (fun s => ⟨b, row e_api_Exchange s.2 sp, T⟩ :: L1) (fun s => s.1) (m + 1, srtEx xs m)
      ⟨rfl, by show (srtEx xs m).length = n; omega, Nat.le_refl _, fun u hu => hok u (hmem u hu)⟩ sbB slB (fun s hs => ?_)
    obtain ⟨j, ys⟩ := s
    obtain ⟨g1, g2, g3, g4⟩ := hs
    simp only at g1 g2 g3 g4 ⊢
    repeat (refine wkB ?_; try intro _)
    rcases j with _ | j
    · (refine jD 17 17 (h := ?_); (repeat (refine wkH ?_)); refine jh_nil ?_; (repeat (refine wn_new ?_; intro _)); refine jn_nil ?_)
      repeat (refine wkB ?_; try intro _)
      exact jx_loop (m + 1) (by omega) sbB (by rw [← g1]; exact List.Sublist.refl _) (by omega)
    · have hj1 : ((j : Int)).toNat < ys.length := by omega
      have hj2 : (((j + 1 : Nat) : Int)).toNat < ys.length := by omega
      have e1 : ((j + 1 : Nat) : Int) - 1 = (j : Int) := by omega
      have o1 := g4 _ (by rw [gi_nat (show j < ys.length by omega)]; exact List.getElem_mem _ : gi ys (j : Int) ∈ ys)
      have o2 := g4 _ (by rw [gi_nat (show j + 1 < ys.length by omega)]; exact List.getElem_mem _ : gi ys ((j + 1 : Nat) : Int) ∈ ys)
      rw [dwnEx] at g1
      refine jD 17 17 (h := ?_)
      (repeat (refine wkH ?_))
      simp only [decide_eq_true (show (0 : Int) < ((j + 1 : Nat) : Int) by omega), e1]
      (repeat (refine wkH ?_))
      simp only [e1]
      (repeat (first | refine wkH ?_ | (refine tC rfl rfl ?_ ?_; focus (exact ⟨o2, o1⟩))))
      refine jh_nil ?_
      refine jn_nil ?_
      repeat (refine wkB ?_; try intro _)
      by_cases hc : cmpEx (gi ys ((j + 1 : Nat) : Int)) (gi ys (j : Int)) < 0
      · rw [if_pos hc] at g1
        simp only [decide_eq_true hc]
        repeat (refine wkB ?_; try intro _)
        (refine j_seg [(true, [0, 1, 2, 3, 4, 5, 6, 7, 8]), (false, [9]), (true, [10, 11, 12]), (false, [13]), (true, [14])] [15, 16, 17] (h := ?_); refine wkS ?_)
        (repeat (refine wkH ?_))
        simp only [e1]
        refine jh_nil ?_
        refine eR rfl ?_ ?_
        · omega
        refine uS rfl rfl ?_ ?_
        · omega
        refine eR rfl ?_ ?_
        · rw [List.length_set]; omega
        refine je_nil ?_
        simp only [Int.toNat_natCast]
        repeat (first | (refine wkB ?_; try intro _) | (refine sC rfl rfl ?_ ?_; focus (exact ⟨by omega, by omega⟩)) | (refine sN rfl rfl ?_ ?_; (focus (exact ⟨by omega, by omega⟩)); intro _; (try simp only [List.cons_append, List.nil_append, List.append_nil])))
        simp only [e1]
        exact jx_loop (j, swpEx ys j) ⟨g1, by rw [swp_lenEx]; exact g2, by omega, fun u hu => g4 u (swp_memEx (by omega) hu)⟩ sbB slB (by show j < j + 1; omega)
      · rw [if_neg hc] at g1
        simp only [decide_eq_false hc]
        repeat (first | (refine wkB ?_; try intro _) | (refine sC rfl rfl ?_ ?_; focus (exact ⟨by omega, by omega⟩)) | (refine sN rfl rfl ?_ ?_; (focus (exact ⟨by omega, by omega⟩)); intro _; (try simp only [List.cons_append, List.nil_append, List.append_nil])))
        exact jx_loop (m + 1) (by omega) sbB (by rw [← g1]; exact List.Sublist.refl _) (by omega)
  · have hge : m = n - 1 := by have := of_decide_eq_false h; omega
    subst hge
    repeat (refine wkB ?_; try intro _)
    exact jx_end0 rfl (fun w hw => ⟨(), rfl, hw⟩)
abbrev SrtSEx (xs : List api_Exchange) (s : SlS e_api_Exchange 5 xs) : Type := { s' : SlS e_api_Exchange 5 (srtEx xs (xs.length - 1)) // vSl s' = vSl s }
theorem insS_specEx (w0 w : World) (L L1 : List Blk) (xs : List api_Exchange) (s : SlS e_api_Exchange 5 xs) (T : TypeId) [hd : OwnS T s L L1] (hl : xs.length ≤ 1048576) (hok : ∀ u ∈ xs, ExOk u) (hw : Own w0 L w) :
    Calls Tryz.prog 220 [vSl s, .int .i64 0, .int .i64 xs.length, vFn 159].toArray w (RetX w0 (SrtSEx xs s) (fun _ => .tuple #[]) (fun s' => mS T s'.1 ++ L1)) := by
  have hw1 := hw.perm hd.out
  rcases s.cases T with ⟨rfl, hv, hm⟩ | ⟨b, c, sp, h1, hv, hm, hne⟩
  · suffices h : Calls Tryz.prog 220 [.slice none 0 0, .int .i64 0, .int .i64 (([] : List api_Exchange).length : Nat), vFn 159].toArray w (RetX w0 (SrtSEx [] s) (fun _ => .tuple #[]) (fun s' => mS T s'.1 ++ L1)) by
      rw [← hv] at h
      exact h
    refine fn_introL Tryz.func220 rfl Tryz.ntmps220 rfl hw1 ?_
    repeat (refine wkB ?_; try intro _)
    refine j_loop (S := Unit) (fun _ => True) (fun _ => [(2, .int .i64 (([] : List api_Exchange).length : Nat)), (8, .int .i64 1)]) (fun _ => mS T s ++ L1) (fun _ => 0) () trivial sbB slB (fun _ _ => ?_)
    repeat (refine wkB ?_; try intro _)
    simp only [decide_eq_false (show ¬ (1 : Int) < ((([] : List api_Exchange).length : Nat) : Int) by simp)]
    repeat (refine wkB ?_; try intro _)
    exact jx_end0 rfl (fun w hw => ⟨⟨s, rfl⟩, rfl, hw⟩)
  · suffices h : Calls Tryz.prog 220 [.slice (some ⟨b, 0, none⟩) xs.length c, .int .i64 0, .int .i64 xs.length, vFn 159].toArray w (RetX w0 (SrtSEx xs s) (fun _ => .tuple #[]) (fun s' => mS T s'.1 ++ L1)) by
      rw [← hv] at h
      exact h
    rw [hm] at hw1
    have hsl := srt_lenEx xs (xs.length - 1)
    refine (ins_specEx w0 w L1 b c xs.length xs sp T rfl hl hok hw1).mono fun e w' ⟨_, he, hw'⟩ => ?_
    exact ⟨⟨SlS.at_ b c sp (by rw [hsl]; exact h1) (fun h0 => hne (List.length_eq_zero_iff.1 (by rw [h0, List.length_nil] at hsl; exact hsl.symm))), by rw [hv]; show Value.slice _ (srtEx xs (xs.length - 1)).length c = _; rw [hsl]⟩, he, hw'⟩
instance sx_insEx (w0 : World) (L L1 : List Blk) (xs : List api_Exchange) (s : SlS e_api_Exchange 5 xs) (T : TypeId) [hd : OwnS T s L L1] : SpecX Tryz.prog w0 L 220 [vSl s, .int .i64 0, .int .i64 xs.length, vFn 159] (SrtSEx xs s) (fun _ => .tuple #[]) (fun s' => mS T s'.1 ++ L1) (xs.length ≤ 1048576 ∧ ∀ u ∈ xs, ExOk u) := ⟨fun hp w hw => insS_specEx w0 w L L1 xs s T hp.1 hp.2 hw⟩
end Go.Vt
/- The sort of few events, walked. Conditions: those that each statement names. -/
set_option linter.unusedSimpArgs false
set_option linter.unusedVariables false
set_option maxHeartbeats 2000000
set_option maxRecDepth 100000
namespace Go.Vt
open Go.RowKit Go.Proofs
theorem pdqEx_spec (w0 w : World) (L L1 : List Blk) (xs : List api_Exchange) (s : SlS e_api_Exchange 5 xs) (T : TypeId) (lim : Int) [hd : OwnS T s L L1] (hl : xs.length ≤ 12) (hok : ∀ u ∈ xs, ExOk u) (hw : Own w0 L w) :
    Calls Tryz.prog 203 [vSl s, .int .i64 0, .int .i64 xs.length, .int .i64 lim, vFn 159].toArray w (RetX w0 (SrtSEx xs s) (fun _ => .tuple #[]) (fun s' => mS T s'.1 ++ L1)) := by
  refine fn_introL Tryz.func203 rfl Tryz.ntmps203 rfl hw ?_
  repeat (refine wkB ?_; try intro _)
  refine j_loop (S := Unit) (fun _ => True) (fun _ => [(0, vSl s), (1, .int .i64 0), (2, .int .i64 xs.length), (3, .int .i64 lim), (4, vFn 159), (10, .bool true), (11, .bool true)]) (fun _ => L) (fun _ => 0) () trivial sbB slB (fun _ _ => ?_)
  repeat (refine wkB ?_; try intro _)
  simp only [decide_eq_true (show (xs.length : Int) - 0 ≤ 12 by omega)]
  repeat (refine wkB ?_; try intro _)
  refine sZ rfl rfl ?_ ?_
  · exact ⟨by omega, hok⟩
  intro s'
  repeat (refine wkB ?_; try intro _)
  exact jx_ret0 rfl (fun w hw => ⟨s', rfl, hw⟩)
instance sx_pdqEx (w0 : World) (L L1 : List Blk) (xs : List api_Exchange) (s : SlS e_api_Exchange 5 xs) (T : TypeId) (lim : Int) [hd : OwnS T s L L1] : SpecX Tryz.prog w0 L 203 [vSl s, .int .i64 0, .int .i64 xs.length, .int .i64 lim, vFn 159] (SrtSEx xs s) (fun _ => .tuple #[]) (fun s' => mS T s'.1 ++ L1) (xs.length ≤ 12 ∧ ∀ u ∈ xs, ExOk u) := ⟨fun hp w hw => pdqEx_spec w0 w L L1 xs s T lim hp.1 hp.2 hw⟩
theorem sortEx_spec (w0 w : World) (L L1 : List Blk) (xs : List api_Exchange) (s : SlS e_api_Exchange 5 xs) (T : TypeId) [hd : OwnS T s L L1] (hl : xs.length ≤ 12) (hok : ∀ u ∈ xs, ExOk u) (hw : Own w0 L w) :
    Calls Tryz.prog 183 [vSl s, vFn 159].toArray w (RetX w0 (SrtSEx xs s) (fun _ => .tuple #[]) (fun s' => mS T s'.1 ++ L1)) := by
  refine fn_introL Tryz.func183 rfl Tryz.ntmps183 rfl hw ?_
  repeat (first | (refine wkB ?_; try intro _) | (refine sC rfl rfl ?_ ?_; focus (omega)) | (refine sN rfl rfl ?_ ?_; (focus (omega)); intro _; (try simp only [List.cons_append, List.nil_append, List.append_nil])))
  refine sZ rfl rfl ?_ ?_
  · exact ⟨hl, hok⟩
  intro s'
  repeat (refine wkB ?_; try intro _)
  exact jx_end0 rfl (fun w hw => ⟨s', rfl, hw⟩)
instance sx_sortEx (w0 : World) (L L1 : List Blk) (xs : List api_Exchange) (s : SlS e_api_Exchange 5 xs) (T : TypeId) [hd : OwnS T s L L1] : SpecX Tryz.prog w0 L 183 [vSl s, vFn 159] (SrtSEx xs s) (fun _ => .tuple #[]) (fun s' => mS T s'.1 ++ L1) (xs.length ≤ 12 ∧ ∀ u ∈ xs, ExOk u) := ⟨fun hp w hw => sortEx_spec w0 w L L1 xs s T hp.1 hp.2 hw⟩
end Go.Vt
/- Units sorted and divided into single instants and open intervals, walked. Conditions: those that each statement names. -/
set_option linter.unusedSimpArgs false
set_option linter.unusedVariables false
set_option maxHeartbeats 2000000
set_option maxRecDepth 100000
namespace Go.Vt
open Go.RowKit Go.Proofs
/-- A slice that is known, and nil where it is empty. -/
class LstN (w0 : World) (L : List Blk) (v : Value) (α : outParam Type) (enc : outParam (α → Array Value)) (xs : outParam (List α)) : Prop where
  out : ∀ w, Own w0 L w → ArgS w v enc xs
  nil : xs = [] → v = .slice none 0 0
instance lstNOwn {α : Type} {enc : α → Array Value} {k : Nat} {xs : List α} [he : EncC enc k] (w0 : World) (L L1 : List Blk) (T : TypeId) (s : SlS enc k xs) [h : OwnS T s L L1] : LstN w0 L (vSl s) α enc xs := ⟨(lstOwn w0 L L1 T s).out, fun h0 => by
  rcases s.cases T with ⟨-, hv, -⟩ | ⟨b, c, sp, h1, hv, hm, hne⟩
  · exact hv
  · exact absurd h0 hne⟩
instance bs_116_0 : BsC Tryz.prog 97 0 [] (row rU [] []) 136 := ⟨fun w => by kernel_rfl⟩
theorem clone_spec (v : Value) (us : List UL) (w : World) (hv : ArgS w v rU us) (hn : us = [] → v = .slice none 0 0) (hl : us.length ≤ 1048576) :
    Calls Tryz.prog 139 [v].toArray w (RetM (SlS rU 36 us) (fun s => vSl s) (fun s => mS 136 s) w) := by
  by_cases h0 : us = []
  · obtain rfl := hn h0
    subst h0
    refine fn_intro Tryz.func139 rfl Tryz.ntmps139 rfl ?_
    repeat (refine wkB ?_; try intro _)
    exact jx_ret_tmp rfl rfl (fun w hw => ⟨SlS.no, rfl, hw⟩)
  · obtain ⟨bw, ow, cw, rfl, hcw, hrow⟩ := hv.blk (k := 35) h0 []
    have hrow' : ∀ L, RowC w L bw ow UL rU us := fun L => ⟨fun w' hw' => hrow.out w' (hw'.sub (List.nil_sublist _))⟩
    refine fn_intro Tryz.func139 rfl Tryz.ntmps139 rfl ?_
    repeat (refine wkB ?_; try intro _)
    refine sG rfl rfl ?_ h0 ?_ ?_ ?_ ?_ ?_
    · rfl
    · rfl
    · rfl
    · decide
    · exact ⟨by omega, by omega⟩
    intro s'
    repeat (refine wkB ?_; try intro _)
    exact jx_ret_tmp rfl rfl (fun w hw => ⟨s', rfl, hw.sub suB⟩)
instance sr_clone (w0 : World) (L : List Blk) (v : Value) (us : List UL) [h : LstN w0 L v UL rU us] : SpecR Tryz.prog w0 L 139 [v] (SlS rU 36 us) (fun s => vSl s) (fun s => mS 136 s) (us.length ≤ 1048576) := ⟨fun hl w hw => clone_spec v us w (h.out w hw) h.nil hl⟩
instance call_sortStable : CallC Tryz.prog 140 := ⟨by kernel_rfl⟩
/-- Units in order. -/
def sor (us : List UL) : List UL := srt us (us.length - 1)
theorem sorted_spec (v : Value) (us : List UL) (w : World) (hv : ArgS w v rU us) (hn : us = [] → v = .slice none 0 0) (hl : us.length ≤ 19) (hok : ∀ u ∈ us, IvOk BQ u.In) :
    Calls Tryz.prog 103 [v].toArray w (RetM (SlS rU 36 (sor us)) (fun s => vSl s) (fun s => mS 136 s) w) := by
  have : ∀ L, LstN w L v UL rU us := fun L => ⟨fun w' hw' => hv.to hw'.ext, hn⟩
  refine fn_intro Tryz.func103 rfl Tryz.ntmps103 rfl ?_
  repeat (first | (refine wkB ?_; try intro _) | (refine sC rfl rfl ?_ ?_; focus (omega)) | (refine sN rfl rfl ?_ ?_; (focus (omega)); intro _; (try simp only [List.cons_append, List.nil_append, List.append_nil])))
  rename_i s
  refine sZ rfl rfl ?_ ?_
  · exact ⟨hl, hok⟩
  intro s'
  repeat (refine wkB ?_; try intro _)
  exact jx_ret_tmp rfl rfl (fun w hw => ⟨s'.1, by show Ending.returned (vSl s) = Ending.returned (vSl s'.1); rw [s'.2], hw.sub suB⟩)
instance sr_sorted (w0 : World) (L : List Blk) (v : Value) (us : List UL) [h : LstN w0 L v UL rU us] : SpecR Tryz.prog w0 L 103 [v] (SlS rU 36 (sor us)) (fun s => vSl s) (fun s => mS 136 s) (us.length ≤ 19 ∧ ∀ u ∈ us, IvOk BQ u.In) := ⟨fun hp w hw => sorted_spec v us w (h.out w hw) h.nil hp.1 hp.2⟩
end Go.Vt
/- Units divided into single instants and open intervals, walked. Conditions: those that each statement names. -/
set_option linter.unusedSimpArgs false
set_option linter.unusedVariables false
set_option maxHeartbeats 2000000
set_option maxRecDepth 100000
namespace Go.Vt
open Go.RowKit Go.Proofs
section
variable {P : Program} {α : Type} {enc : α → Array Value} {k : Nat} {xs ys : List α}
instance ldVS {T e : TypeId} {s : SlS enc k xs} [h : UndC P T (.slice e)] : LdC P T #[vSl s] 0 (vSl s) := ⟨ldv_one (by simp [oneB, h.out]) rfl⟩
theorem vSl_cells (s : SlS enc k xs) : (vSl s).cells = #[vSl s] := by
  rcases s.cases 0 with ⟨-, hv, -⟩ | ⟨b, c, sp, -, hv, -, -⟩ <;> rw [hv] <;> rfl
theorem vSl_one (s : SlS enc k xs) : (vSl s).oneCell' = true := by
  rcases s.cases 0 with ⟨-, hv, -⟩ | ⟨b, c, sp, -, hv, -, -⟩ <;> rw [hv] <;> rfl
instance stVS {T : TypeId} {v : Value} {s : SlS enc k xs} [h : SizeC P T 1] : StC P T #[v] 0 (vSl s) #[vSl s] := ⟨by rw [vSl_cells]; exact h.out, by rw [vSl_cells]; rfl, by rw [vSl_cells]; simp [vSl_one], by rw [vSl_cells]; rfl⟩
end
theorem j_permL {P : Program} {w0 : World} {n : Nat} {c : Code} {Q : Exit → Act → World → Prop} {E : Env} {L : List Blk} (L' : List Blk) (p : L.Perm L') (h : J P w0 n c Q E L') : J P w0 n c Q E L := ⟨fun a w ha hw => h.out a w ha (hw.perm p)⟩
/-- One instant. -/
def at1 (t : R_api_Real) (f : R_api_Line) : UL := ⟨⟨t, t, false, false⟩, f⟩
theorem atom1_spec (w0 w : World) (L2 : List Blk) (b : Nat) (xs : List UL) (s : SlS rU 36 xs) (t : R_api_Real) (f : R_api_Line) (hl : xs.length ≤ 1048576) (hw : Own w0 (mS 136 s ++ ⟨b, #[vSl s], 97⟩ :: L2) w) :
    Calls Tryz.prog 143 [vR t, vLn f, .pointer (some ⟨b, 0, none⟩)].toArray w (RetX w0 (SlS rU 36 (xs ++ [at1 t f])) (fun _ => .tuple #[]) (fun s' => mS 136 s' ++ ⟨b, #[vSl s'], 97⟩ :: L2)) := by
  refine fn_introL Tryz.func143 rfl Tryz.ntmps143 rfl hw ?_
  repeat (refine wkB ?_; try intro _)
  refine sU rfl rfl ?_ ?_ ?_ ?_
  · rfl
  · rfl
  · exact ⟨by decide, by omega, by omega⟩
  intro s'
  repeat (refine wkB ?_; try intro _)
  exact jx_end0 rfl (fun w hw => ⟨s', rfl, hw.sub suB⟩)
instance sx_atom1 (w0 : World) (L L1 L2 : List Blk) (b : Nat) {xs : List UL} (s : SlS rU 36 xs) (t : R_api_Real) (f : R_api_Line) [h1 : DelC b L #[vSl s] 97 L1] [h2 : OwnS 136 s L1 L2] : SpecX Tryz.prog w0 L 143 [vR t, vLn f, .pointer (some ⟨b, 0, none⟩)] (SlS rU 36 (xs ++ [at1 t f])) (fun _ => .tuple #[]) (fun s' => mS 136 s' ++ ⟨b, #[vSl s'], 97⟩ :: L2) (xs.length ≤ 1048576) := ⟨fun hl w hw =>
  atom1_spec w0 w L2 b xs s t f hl (hw.perm ((h1.out.trans (h2.out.cons _)).trans List.perm_middle.symm))⟩
/-- Without its ends. -/
def inn1 (u : UL) : UL := ⟨⟨u.In.From, u.In.To, true, true⟩, u.F⟩
/-- The parts of a unit. -/
def atU (u : UL) : List UL := (if u.In.OpenFrom = true then [] else [at1 u.In.From u.F]) ++ (if u.In.From = u.In.To then [] else inn1 u :: if u.In.OpenTo = true then [] else [at1 u.In.To u.F])
def atm (us : List UL) : Nat → List UL
  | 0 => []
  | m + 1 => atm us m ++ atU (gi us (m : Int))
theorem atU_len (u : UL) : (atU u).length ≤ 3 := by
  unfold atU
  split <;> split <;> (try split) <;> simp
theorem atm_len (us : List UL) : ∀ m, (atm us m).length ≤ 3 * m
  | 0 => Nat.le_refl _
  | m + 1 => by
    have := atm_len us m
    have := atU_len (gi us (m : Int))
    rw [atm, List.length_append]
    omega
theorem atoms_spec (v : Value) (us : List UL) (w : World) (hv : ArgS w v rU us) (hl : us.length ≤ 65536) :
    Calls Tryz.prog 104 [v].toArray w (RetM (SlS rU 36 (atm us us.length)) (fun s => vSl s) (fun s => mS 136 s) w) := by
  refine fn_intro Tryz.func104 rfl Tryz.ntmps104 rfl ?_
  obtain ⟨p, cp, rfl⟩ := hv.form
  repeat (refine wkB ?_; try intro _)
  rename_i b3
  refine j_loop (S := (xs : List UL) × Nat × SlS rU 36 xs) (fun s => s.2.1 ≤ us.length ∧ s.1 = atm us s.2.1) (fun s => [(3, .pointer (some ⟨b3, 0, none⟩)), (4, .func (.func 143) #[] [.pointer (some ⟨b3, 0, none⟩)].toArray), (8, .slice p us.length cp), (9, .int .i64 us.length), (10, .int .i64 (s.2.1 : Nat))]) (fun s => mS 136 s.2.2 ++ [⟨b3, #[vSl s.2.2], 97⟩]) (fun s => us.length - s.2.1) ⟨[], 0, SlS.no⟩
    ⟨Nat.zero_le _, rfl⟩ sbB slB (fun s hs => ?_)
  obtain ⟨xs, m, s⟩ := s
  obtain ⟨hm, hxs⟩ := hs
  simp only at hm hxs ⊢
  repeat (refine wkB ?_; try intro _)
  refine j_cond rfl (fun h => ?_) (fun h => ?_)
  · have hlt : m < us.length := by have := of_decide_eq_true h; omega
    have hne : us ≠ [] := fun h0 => by rw [h0] at hlt; simp at hlt
    obtain ⟨bw, ow, cw, hvw, hcw, hrow⟩ := hv.blk (k := 35) hne []
    injection hvw with e1 e2 e3
    subst e1
    subst e3
    have hrow' : ∀ L, RowC w L bw ow UL rU us := fun L => ⟨fun w' hw' => hrow.out w' (hw'.sub (List.nil_sublist _))⟩
    have hxl := atm_len us m
    rw [← hxs] at hxl
    obtain ⟨u, hu⟩ : ∃ u, u = gi us (m : Int) := ⟨_, rfl⟩
    have hnx : atm us (m + 1) = xs ++ atU u := by rw [atm, hxs, hu]
    repeat (refine wkB ?_; try intro _)
    simp only [← hu]
    rename_i b6
    refine j_permL (mS 136 s ++ [⟨b3, #[vSl s], 97⟩, ⟨b6, rU u, 136⟩]) (by
      have h1 := (List.perm_append_singleton (⟨b6, rU u, 136⟩ : Blk) (mS 136 s ++ [⟨b3, #[vSl s], 97⟩])).symm
      rw [List.append_assoc] at h1
      exact h1) ?_
    refine j_cut (S := (ys : List UL) × SlS rU 36 ys) (fun s' => s'.1 = xs ++ (if u.In.OpenFrom = true then [] else [at1 u.In.From u.F])) (fun s' => [(6, .pointer (some ⟨b6, 0, none⟩)), (3, .pointer (some ⟨b3, 0, none⟩)), (4, .func (.func 143) #[] [.pointer (some ⟨b3, 0, none⟩)].toArray), (8, .slice (some ⟨bw, ow, none⟩) us.length cp), (9, .int .i64 us.length), (10, .int .i64 (m : Nat))])
      (fun s' => mS 136 s'.2 ++ [⟨b3, #[vSl s'.2], 97⟩, ⟨b6, rU u, 136⟩]) ?_ (fun s' hs' => ?_)
    · rcases ho : u.In.OpenFrom with _ | _
      · repeat (refine wkB ?_; try intro _)
        refine sY rfl rfl ?_ ?_
        · omega
        intro s'
        repeat (refine wkB ?_; try intro _)
        exact jx_mid ⟨_, s'⟩ rfl sbB suB
      · repeat (refine wkB ?_; try intro _)
        exact jx_mid ⟨_, s⟩ (by rw [if_pos rfl, List.append_nil]) sbB suB
    obtain ⟨ys, s'⟩ := s'
    simp only at hs' ⊢
    have hyl : ys.length ≤ 3 * m + 1 := by rw [hs', List.length_append]; split <;> simp <;> omega
    repeat (refine wkB ?_; try intro _)
    by_cases hi : u.In.From = u.In.To
    · simp only [decide_eq_true hi]
      repeat (first | (refine wkB ?_; try intro _) | (refine sC rfl rfl ?_ ?_; focus (exact ⟨by omega, by omega⟩)) | (refine sN rfl rfl ?_ ?_; (focus (exact ⟨by omega, by omega⟩)); intro _; (try simp only [List.cons_append, List.nil_append, List.append_nil])))
      exact jx_loop ⟨ys, m + 1, s'⟩ ⟨hlt, by rw [hnx, atU, if_pos hi, List.append_nil]; exact hs'⟩ sbB suB (by show us.length - (m + 1) < us.length - m; omega)
    · simp only [decide_eq_false hi]
      repeat (refine wkB ?_; try intro _)
      refine sU rfl rfl ?_ ?_ ?_ ?_
      · rfl
      · rfl
      · exact ⟨by decide, by omega, by omega⟩
      intro s2
      repeat (refine wkB ?_; try intro _)
      rcases hc : u.In.OpenTo with _ | _
      · have e3 : ys ++ [inn1 u] ++ [at1 u.In.To u.F] = atm us (m + 1) := by
          rw [hnx, hs']
          unfold atU
          rw [if_neg hi, hc]
          simp
        repeat (refine wkB ?_; try intro _)
        refine sY rfl rfl ?_ ?_
        · simp only [List.length_append, List.length_singleton]; omega
        intro s3
        repeat (first | (refine wkB ?_; try intro _) | (refine sC rfl rfl ?_ ?_; focus (exact ⟨by omega, by omega⟩)) | (refine sN rfl rfl ?_ ?_; (focus (exact ⟨by omega, by omega⟩)); intro _; (try simp only [List.cons_append, List.nil_append, List.append_nil])))
        exact jx_loop ⟨_, m + 1, s3⟩ ⟨hlt, e3⟩ sbB suB (by show us.length - (m + 1) < us.length - m; omega)
      · have e3 : ys ++ [inn1 u] = atm us (m + 1) := by
          rw [hnx, hs']
          unfold atU
          rw [if_neg hi, hc]
          simp
        repeat (first | (refine wkB ?_; try intro _) | (refine sC rfl rfl ?_ ?_; focus (exact ⟨by omega, by omega⟩)) | (refine sN rfl rfl ?_ ?_; (focus (exact ⟨by omega, by omega⟩)); intro _; (try simp only [List.cons_append, List.nil_append, List.append_nil])))
        exact jx_loop ⟨_, m + 1, s2⟩ ⟨hlt, e3⟩ sbB suB (by show us.length - (m + 1) < us.length - m; omega)
  · have hge : m = us.length := by have := of_decide_eq_false h; omega
    subst hge
    subst hxs
    repeat (refine wkB ?_; try intro _)
    exact jx_ret_tmp rfl rfl (fun w hw => ⟨s, rfl, hw.sub suB⟩)
instance sr_atoms (w0 : World) (L : List Blk) (v : Value) (us : List UL) [h : LstC w0 L v UL rU us] : SpecR Tryz.prog w0 L 104 [v] (SlS rU 36 (atm us us.length)) (fun s => vSl s) (fun s => mS 136 s) (us.length ≤ 65536) := ⟨fun hl w hw => atoms_spec v us w (h.out w hw) hl⟩
end Go.Vt
/- Does the last unit hold an instant? Walked. Conditions: those that each statement names. -/
set_option linter.unusedSimpArgs false
set_option linter.unusedVariables false
set_option maxHeartbeats 2000000
set_option maxRecDepth 100000
namespace Go.Vt
open Go.RowKit Go.Proofs
/-- The last unit. -/
abbrev lstU (xs : List UL) : UL := gi xs ((xs.length : Int) - 1)
def hld (xs : List UL) (t : R_api_Real) : Bool := decide (0 < xs.length) && (decide ((lstU xs).In.To = t) && !(lstU xs).In.OpenTo)
theorem held_spec (v : Value) (xs : List UL) (t : R_api_Real) (w : World) (hv : ArgS w v rU xs) (hl : xs.length ≤ 1048576) :
    Calls Tryz.prog 106 [v, vR t].toArray w (Ret (.bool (hld xs t)) w) := by
  refine fn_intro Tryz.func106 rfl Tryz.ntmps106 rfl ?_
  obtain ⟨p, cp, rfl⟩ := hv.form
  repeat (refine wkB ?_; try intro _)
  by_cases h0 : 0 < xs.length
  · have hne : xs ≠ [] := fun h => by rw [h] at h0; simp at h0
    obtain ⟨bw, ow, cw, hvw, hcw, hrow⟩ := hv.blk (k := 35) hne []
    injection hvw with e1 e2 e3
    subst e1
    subst e3
    have hrow' : ∀ L, RowC w L bw ow UL rU xs := fun L => ⟨fun w' hw' => hrow.out w' (hw'.sub (List.nil_sublist _))⟩
    (refine j_late [0, 1, 2, 3, 4, 5, 6, 7, 8, 9, 10, 11, 12, 13, 14, 15, 16, 17, 18, 19, 20, 21, 22] [23] (_) (h := ?_); refine wkI ?_)
    (repeat (refine wkH ?_))
    simp only [decide_eq_true (show (0 : Int) < (xs.length : Int) by omega)]
    (repeat (refine wkH ?_))
    rcases h1 : decide ((lstU xs).In.To = t) with _ | _
    · repeat (refine wkT ?_; try intro _)
      repeat (refine wkB ?_; try intro _)
      unfold hld
      rw [h1, decide_eq_true h0]
      exact jx_ret_tmp rfl rfl (fun w hw => ret_ok hw)
    · repeat (refine wkT ?_; try intro _)
      repeat (refine wkB ?_; try intro _)
      unfold hld
      rw [h1, decide_eq_true h0]
      exact jx_ret_tmp rfl rfl (fun w hw => ret_ok hw)
  · (refine j_late [0, 1, 2, 3, 4, 5, 6, 7, 8, 9, 10, 11, 12, 13, 14, 15, 16, 17, 18, 19, 20, 21, 22] [23] (_) (h := ?_); refine wkI ?_)
    (repeat (refine wkH ?_))
    simp only [decide_eq_false (show ¬ (0 : Int) < (xs.length : Int) by omega)]
    (repeat (refine wkH ?_))
    repeat (refine wkT ?_; try intro _)
    repeat (refine wkB ?_; try intro _)
    unfold hld
    rw [decide_eq_false h0]
    exact jx_ret_tmp rfl rfl (fun w hw => ret_ok hw)
instance sm_held (w0 : World) (L : List Blk) (v : Value) (xs : List UL) (t : R_api_Real) [h : LstC w0 L v UL rU xs] : SpecM Tryz.prog w0 L 106 [v, vR t] (.bool (hld xs t)) (xs.length ≤ 1048576) := ⟨fun hl w hw => held_spec v xs t w (h.out w hw) hl⟩
abbrev vLines : Value := .iface 96 (.agg #[])
instance meth_Same : MethC Tryz.prog 96 (.agg #[]) "Same" 297 (.agg #[]) := ⟨fun w => by kernel_rfl⟩
instance meth_Equal : MethC Tryz.prog 96 (.agg #[]) "Equal" 295 (.agg #[]) := ⟨fun w => by kernel_rfl⟩
instance meth_Reduce : MethC Tryz.prog 96 (.agg #[]) "Reduce" 296 (.agg #[]) := ⟨fun w => by kernel_rfl⟩
instance nah_Same : NahC Tryz.prog 96 (.agg #[]) "Same" := ⟨fun w => by kernel_rfl⟩
instance nah_Equal : NahC Tryz.prog 96 (.agg #[]) "Equal" := ⟨fun w => by kernel_rfl⟩
instance nif_Lines : NifC Tryz.prog 96 := ⟨fun v w => by kernel_rfl⟩
instance ptr_Unit : PtrC Tryz.prog 182 := ⟨by kernel_rfl⟩
end Go.Vt
/- The normal form of units of lines, walked. Conditions: those that each statement names. -/
set_option linter.unusedSimpArgs false
set_option linter.unusedVariables false
set_option maxHeartbeats 2000000
set_option maxRecDepth 100000
namespace Go.Vt
open Go.RowKit Go.Proofs
abbrev KN : Nat := 1073741824
/-- The coefficients are short. -/
structure LnOk (K : Nat) (f : R_api_Line) : Prop where
  x0 : M f.X0 ≤ K
  x1 : M f.X1 ≤ K
  y0 : M f.Y0 ≤ K
  y1 : M f.Y1 ≤ K
structure UOk (u : UL) : Prop where
  i : IvOk KN u.In
  f : LnOk BQ u.F
structure UIn (u : UL) : Prop where
  i : IvOk KN u.In
  f : LnOk KN u.F
/-- Does the last unit end here, and is it longer than one instant? -/
def bef (xs : List UL) (t : R_api_Real) : Bool := decide (0 < xs.length) && (decide ((lstU xs).In.To = t) && !decide ((lstU xs).In.From = (lstU xs).In.To))
def smL (f g : R_api_Line) (t : Rat) : Bool := qsame (lnX f) (lnX g) t && qsame (lnY f) (lnY g) t
/-- The last unit is turned. -/
def turn (xs : List UL) (u : UL) : List UL := xs.set (xs.length - 1) u
def isI (u : UL) : Bool := decide (u.In.From = u.In.To)
/-- May the last unit be longer? -/
def cA (xs : List UL) (x : UL) : Bool := bef xs x.In.From && (!(lstU xs).In.OpenTo && decide ((lstU xs).F = x.F))
/-- Does the instant before belong to this unit? -/
def cB (l : List UL) (i : Nat) (xs : List UL) (x : UL) : Bool := decide (0 < i) && (isI (gi l ((i : Int) - 1)) && (decide ((gi l ((i : Int) - 1)).In.From = x.In.From) && !hld xs x.In.From))
def cC (xs : List UL) (x : UL) : Bool := bef xs x.In.From && smL (lstU xs).F x.F x.In.From.P
def cD (l : List UL) (i : Nat) (x : UL) : Bool := decide (i + 1 < l.length) && (decide ((gi l ((i : Int) + 1)).In.From = x.In.From) && smL (gi l ((i : Int) + 1)).F x.F x.In.From.P)
/-- The last unit, longer. -/
def ext (u x : UL) : UL := ⟨⟨u.In.From, x.In.To, u.In.OpenFrom, true⟩, u.F⟩
def clo (u : UL) : UL := ⟨⟨u.In.From, u.In.To, u.In.OpenFrom, false⟩, u.F⟩
def opF (x : UL) : UL := ⟨⟨x.In.From, x.In.To, false, x.In.OpenTo⟩, x.F⟩
def redU (x : UL) : UL := ⟨x.In, lred x.F x.In.From.P⟩
/-- One part more. -/
def nstp (l : List UL) (i : Nat) (xs : List UL) (x : UL) : List UL :=
  if isI x = false then
    if cA xs x = true then turn xs (ext (lstU xs) x) else xs ++ [if cB l i xs x = true then opF x else x]
  else if cC xs x = true then turn xs (clo (lstU xs))
  else if cD l i x = true then xs else xs ++ [redU x]
def nrm (l : List UL) : Nat → List UL
  | 0 => []
  | i + 1 => nstp l i (nrm l i) (gi l (i : Int))
/-- Are the first units apart? -/
def aprN (l : List UL) : Nat → Bool
  | 0 => true
  | m + 1 => aprN l m && !(decide (0 < m) && !aprt (gi l ((m : Int) - 1)).In (gi l (m : Int)).In)
def allU (us : List UL) : List UL := atm (sor us) (sor us).length
def nrmR (us : List UL) : List UL := if aprN (sor us) (sor us).length = true then nrm (allU us) (allU us).length else []
def nrmE (us : List UL) : Int := if aprN (sor us) (sor us).length = true then 0 else 11
theorem IvOk.at {K : Nat} {I : R_api_Interval} (h : IvOk K I) (o c : Bool) : IvOk K ⟨I.From, I.To, o, c⟩ := ⟨h.r1, h.r2, h.n1, h.n2, h.m1, h.m2⟩
theorem lred_ok {f : R_api_Line} {t : Rat} (h : LnOk KN f) (ht : M t ≤ KN) : LnOk BQ (lred f t) := by
  have := MB.mk h.x0
  have := MB.mk h.x1
  have := MB.mk h.y0
  have := MB.mk h.y1
  have := MB.mk ht
  unfold lred
  exact ⟨MB.lt rfl, MB.lt rfl, MB.lt rfl, MB.lt rfl⟩
theorem LnOk.mono {K K' : Nat} {f : R_api_Line} (h : LnOk K f) (hk : K ≤ K') : LnOk K' f := ⟨Nat.le_trans h.x0 hk, Nat.le_trans h.x1 hk, Nat.le_trans h.y0 hk, Nat.le_trans h.y1 hk⟩
theorem UIn.ok {u : UL} (h : UIn u) : UOk u := ⟨h.i, h.f.mono (by decide)⟩
theorem gi_mem {α : Type} [Inhabited α] {xs : List α} {i : Int} (h : i.toNat < xs.length) : gi xs i ∈ xs := by
  rw [gi_eq h]
  exact List.getElem_mem _
theorem turn_ok {xs : List UL} {u : UL} (h : ∀ v ∈ xs, UOk v) (hu : UOk u) : ∀ v ∈ turn xs u, UOk v := fun v hv => by
  rcases List.mem_or_eq_of_mem_set hv with h1 | h1
  · exact h v h1
  · rw [h1]; exact hu
theorem bef_len {xs : List UL} {t : R_api_Real} (h : bef xs t = true) : 0 < xs.length := by
  unfold bef at h
  simp only [Bool.and_eq_true, decide_eq_true_eq] at h
  exact h.1
theorem lst_ok {xs : List UL} (h : ∀ v ∈ xs, UOk v) (h0 : 0 < xs.length) : UOk (lstU xs) := h _ (gi_mem (by omega))
theorem nstp_ok {l : List UL} {i : Nat} {xs : List UL} {x : UL} (h : ∀ v ∈ xs, UOk v) (hx : UIn x) : ∀ v ∈ nstp l i xs x, UOk v := by
  unfold nstp
  split
  · split
    · rename_i hc
      have h0 : 0 < xs.length := by
        unfold cA at hc
        simp only [Bool.and_eq_true] at hc
        exact bef_len hc.1
      have hl := lst_ok h h0
      exact turn_ok h ⟨⟨hl.i.r1, hx.i.r2, hl.i.n1, hx.i.n2, hl.i.m1, hx.i.m2⟩, hl.f⟩
    · intro v hv
      rcases List.mem_append.1 hv with h1 | h1
      · exact h v h1
      · rw [List.mem_singleton] at h1
        subst h1
        split
        · exact ⟨hx.i.at _ _, hx.ok.f⟩
        · exact hx.ok
  · split
    · rename_i hc
      have h0 : 0 < xs.length := by
        unfold cC at hc
        simp only [Bool.and_eq_true] at hc
        exact bef_len hc.1
      have hl := lst_ok h h0
      exact turn_ok h ⟨hl.i.at _ _, hl.f⟩
    · split
      · exact h
      · intro v hv
        rcases List.mem_append.1 hv with h1 | h1
        · exact h v h1
        · rw [List.mem_singleton] at h1
          subst h1
          exact ⟨hx.i, lred_ok hx.f hx.i.m1⟩
theorem nrm_ok {l : List UL} (h : ∀ u ∈ l, UIn u) : ∀ m, m ≤ l.length → ∀ v ∈ nrm l m, UOk v
  | 0, _ => fun v hv => by cases hv
  | m + 1, hm => nstp_ok (nrm_ok h m (by omega)) (h _ (gi_mem (by omega)))
theorem nstp_len (l : List UL) (i : Nat) (xs : List UL) (x : UL) : (nstp l i xs x).length ≤ xs.length + 1 := by
  unfold nstp turn
  split
  · split <;> simp
  · split
    · simp
    · split <;> simp
theorem nrm_len (l : List UL) : ∀ m, (nrm l m).length ≤ m
  | 0 => Nat.le_refl _
  | m + 1 => by
    have := nrm_len l m
    have := nstp_len l m (nrm l m) (gi l (m : Int))
    rw [nrm]
    omega
theorem sor_len (us : List UL) : (sor us).length = us.length := srt_len us _
theorem sor_mem {us : List UL} {u : UL} (h : u ∈ sor us) : u ∈ us := by
  rcases Nat.eq_zero_or_pos us.length with h0 | h0
  · have h1 := sor_len us
    rw [h0] at h1
    rw [List.length_eq_zero_iff.1 h1] at h
    cases h
  · exact srt_mem us _ (by omega) u h
theorem atU_ok {u v : UL} (h : UIn u) (hv : v ∈ atU u) : UIn v := by
  unfold atU at hv
  have e1 : IvOk KN ⟨u.In.From, u.In.From, false, false⟩ := ⟨h.i.r1, h.i.r1, h.i.n1, h.i.n1, h.i.m1, h.i.m1⟩
  have e2 : IvOk KN ⟨u.In.To, u.In.To, false, false⟩ := ⟨h.i.r2, h.i.r2, h.i.n2, h.i.n2, h.i.m2, h.i.m2⟩
  rcases List.mem_append.1 hv with h1 | h1
  · split at h1
    · cases h1
    · rw [List.mem_singleton] at h1
      subst h1
      exact ⟨e1, h.f⟩
  · split at h1
    · cases h1
    · rcases List.mem_cons.1 h1 with h2 | h2
      · subst h2
        exact ⟨h.i.at _ _, h.f⟩
      · split at h2
        · cases h2
        · rw [List.mem_singleton] at h2
          subst h2
          exact ⟨e2, h.f⟩
theorem atm_ok {us : List UL} (h : ∀ u ∈ us, UIn u) : ∀ m, m ≤ us.length → ∀ v ∈ atm us m, UIn v
  | 0, _, v, hv => by cases hv
  | m + 1, hm, v, hv => by
    rw [atm] at hv
    rcases List.mem_append.1 hv with h1 | h1
    · exact atm_ok h m (by omega) v h1
    · exact atU_ok (h _ (gi_mem (by omega))) h1
theorem aprN_mono {l : List UL} {m : Nat} (h : aprN l m = false) : ∀ n, m ≤ n → aprN l n = false := fun n hn => by
  induction n with
  | zero => rw [show m = 0 by omega] at h; exact h
  | succ n ih =>
    rcases (by omega : m = n + 1 ∨ m ≤ n) with h1 | h1
    · rw [← h1]; exact h
    · rw [aprN, ih h1]; rfl
theorem SlS.turn {α : Type} {enc : α → Array Value} {k : Nat} {xs ys : List α} (T : TypeId) (h : xs = ys) (s : SlS enc k xs) : ∃ s' : SlS enc k ys, vSl s' = vSl s ∧ mS T s' = mS T s := by
  subst h
  exact ⟨s, rfl, rfl⟩
theorem SlS.put {α : Type} {enc : α → Array Value} {k n b c : Nat} {ys : List α} {sp : List Value} (T : TypeId) (hn : ys.length = n) (h : n ≤ c ∧ sp.length = (c - n) * k) (h0 : 0 < n) : ∃ s' : SlS enc k ys, vSl s' = .slice (some ⟨b, 0, none⟩) n c ∧ mS T s' = [⟨b, row enc ys sp, T⟩] := by
  subst hn
  exact ⟨SlS.at_ b c sp h (fun h1 => by rw [h1] at h0; simp at h0), rfl, rfl⟩
theorem turn_len (xs : List UL) (u : UL) : (turn xs u).length = xs.length := by simp [turn]
set_option maxHeartbeats 2000000 in
theorem pnormal_spec (v : Value) (us : List UL) (w : World) (hv : ArgS w v rU us) (hn : us = [] → v = .slice none 0 0) (hl : us.length ≤ 19) (hok : ∀ u ∈ us, UIn u) :
    Calls Tryz.prog 68 [vLines, v].toArray w (RetM (SlS rU 36 (nrmR us)) (fun s => .tuple #[vSl s, .int .i64 (nrmE us)]) (fun s => mS 136 s) w) := by
  have hN : ∀ L, LstN w L v UL rU us := fun L => ⟨fun w' hw' => hv.to hw'.ext, hn⟩
  have hsl := sor_len us
  have hso : ∀ u ∈ sor us, UIn u := fun u hu => hok u (sor_mem hu)
  refine fn_intro Tryz.func68 rfl Tryz.ntmps68 rfl ?_
  repeat (first | (refine wkB ?_; try intro _) | (refine sC rfl rfl ?_ ?_; focus (exact ⟨hl, fun u hu => (hok u hu).i.mono (by decide)⟩)) | (refine sN rfl rfl ?_ ?_; (focus (exact ⟨hl, fun u hu => (hok u hu).i.mono (by decide)⟩)); intro _; (try simp only [List.cons_append, List.nil_append, List.append_nil])))
  rename_i s1
  refine j_loop (S := Nat) (fun m => m ≤ (sor us).length ∧ aprN (sor us) m = true) (fun m => [(0, vLines), (1, vSl s1), (17, .int .i64 (sor us).length), (18, .int .i64 (m : Nat))]) (fun _ => mS 136 s1) (fun m => (sor us).length - m) 0
    ⟨Nat.zero_le _, rfl⟩ sbB suB (fun m hm => ?_)
  obtain ⟨hm, ham⟩ := hm
  repeat (refine wkB ?_; try intro _)
  refine j_cond rfl (fun h => ?_) (fun h => ?_)
  · have hlt : m < (sor us).length := by have := of_decide_eq_true h; omega
    rcases s1.cases 136 with ⟨h0, -, -⟩ | ⟨b1, c1, sp1, h1, hv1, hm1, hne⟩
    · rw [h0] at hlt; simp at hlt
    rw [hv1, hm1]
    have hap : aprN (sor us) (m + 1) = !(decide (0 < m) && !aprt (gi (sor us) ((m : Int) - 1)).In (gi (sor us) (m : Int)).In) := by rw [aprN, ham, Bool.true_and]
    have o1 := hso _ (gi_mem (i := (m : Int)) (by omega))
    repeat (refine wkB ?_; try intro _)
    rcases m with _ | m
    · (refine jD 17 17 (h := ?_); (repeat (refine wkH ?_)); refine jh_nil ?_; (repeat (refine wn_new ?_; intro _)); refine jn_nil ?_)
      repeat (first | (refine wkB ?_; try intro _) | (refine sC rfl rfl ?_ ?_; focus (exact ⟨by omega, by omega⟩)) | (refine sN rfl rfl ?_ ?_; (focus (exact ⟨by omega, by omega⟩)); intro _; (try simp only [List.cons_append, List.nil_append, List.append_nil])))
      exact jx_loop 1 ⟨hlt, by rw [hap]; rfl⟩ sbB suB (by omega)
    · have e1 : ((m + 1 : Nat) : Int) - 1 = (m : Int) := by omega
      have o2 := hso _ (gi_mem (i := (m : Int)) (by omega))
      rw [e1, decide_eq_true (show 0 < m + 1 by omega), Bool.true_and, Bool.not_not] at hap
      refine jD 17 17 (h := ?_)
      (repeat (refine wkH ?_))
      simp only [decide_eq_true (show (0 : Int) < ((m + 1 : Nat) : Int) by omega), e1]
      (repeat (refine wkH ?_))
      simp only [e1]
      (repeat (first | refine wkH ?_ | (refine tC rfl rfl ?_ ?_; focus (exact ⟨⟨o2.i.r2, o1.i.r1⟩, Nat.le_trans o2.i.m2 (by decide), Nat.le_trans o1.i.m1 (by decide)⟩))))
      refine jh_nil ?_
      refine jn_nil ?_
      repeat (refine wkB ?_; try intro _)
      rcases ha : aprt (gi (sor us) (m : Int)).In (gi (sor us) ((m + 1 : Nat) : Int)).In with _ | _
      · rw [ha] at hap
        repeat (refine wkB ?_; try intro _)
        have hf := aprN_mono hap (sor us).length hlt
        obtain ⟨s0, hs1, hs2⟩ := SlS.turn (enc := rU) (k := 36) 136 (show ([] : List UL) = nrmR us by unfold nrmR; rw [hf, if_neg (by decide)]) SlS.no
        have he : nrmE us = 11 := by unfold nrmE; rw [hf, if_neg (by decide)]
        exact jx_ret_two rfl (resv_tmp rfl) (resv_tmp rfl) (fun w hw => ⟨s0, by dsimp only; rw [hs1, he]; rfl, by dsimp only; rw [hs2]; exact hw.sub (List.nil_sublist _)⟩)
      · rw [ha] at hap
        repeat (first | (refine wkB ?_; try intro _) | (refine sC rfl rfl ?_ ?_; focus (exact ⟨by omega, by omega⟩)) | (refine sN rfl rfl ?_ ?_; (focus (exact ⟨by omega, by omega⟩)); intro _; (try simp only [List.cons_append, List.nil_append, List.append_nil])))
        exact jx_loop (m + 2) ⟨hlt, hap⟩ sbB suB (by omega)
  · have hge : m = (sor us).length := by have := of_decide_eq_false h; omega
    subst hge
    repeat (first | (refine wkB ?_; try intro _) | (refine sC rfl rfl ?_ ?_; focus (omega)) | (refine sN rfl rfl ?_ ?_; (focus (omega)); intro _; (try simp only [List.cons_append, List.nil_append, List.append_nil])))
    rename_i s8
    have hao : ∀ u ∈ atm (sor us) (sor us).length, UIn u := atm_ok hso _ (Nat.le_refl _)
    have hall := atm_len (sor us) (sor us).length
    have hR : nrmR us = nrm (atm (sor us) (sor us).length) (atm (sor us) (sor us).length).length := by unfold nrmR allU; rw [ham, if_pos rfl]
    have hE : nrmE us = 0 := by unfold nrmE; rw [ham, if_pos rfl]
    generalize atm (sor us) (sor us).length = al at *
    refine j_loop (S := (xs : List UL) × Nat × SlS rU 36 xs) (fun s => s.2.1 ≤ al.length ∧ s.1 = nrm al s.2.1) (fun s => [(0, vLines), (7, vSl s.2.2), (8, vSl s8), (41, vSl s8), (42, .int .i64 al.length), (43, .int .i64 (s.2.1 : Nat))]) (fun s => mS 136 s.2.2 ++ mS 136 s8) (fun s => al.length - s.2.1) ⟨[], 0, SlS.no⟩
      ⟨Nat.zero_le _, rfl⟩ sbB suB (fun s hs => ?_)
    obtain ⟨xs, i, s⟩ := s
    obtain ⟨hi, hxs⟩ := hs
    simp only at hi hxs ⊢
    repeat (refine wkB ?_; try intro _)
    refine j_cond rfl (fun h => ?_) (fun h => ?_)
    · have hlt : i < al.length := by have := of_decide_eq_true h; omega
      rcases s8.cases 136 with ⟨h0, -, -⟩ | ⟨b8, c8, sp8, h1, hv8, hm8, hne⟩
      · rw [h0] at hlt; simp at hlt
      rw [hv8, hm8]
      have hx0 := hao _ (gi_mem (i := (i : Int)) (by omega))
      have hnx : nrm al (i + 1) = nstp al i xs (gi al (i : Int)) := by rw [nrm, hxs]
      have hxo := nrm_ok hao i (by omega)
      have hxl := nrm_len al i
      rw [← hxs] at hxo hxl
      repeat (refine wkB ?_; try intro _)
      rename_i b10 b11
      obtain ⟨x, hx⟩ : ∃ x, x = gi al (i : Int) := ⟨_, rfl⟩
      simp only [← hx] at hx0 hnx ⊢
      refine j_permL (mS 136 s ++ [⟨b11, e_api_Real (q_api_Real x.In.From), 81⟩, ⟨b10, rU x, 136⟩, ⟨b8, row rU al sp8, 136⟩]) ((List.perm_middle.trans (List.perm_middle.cons _)).symm) ?_
      refine j_cut (S := Bool) (fun v => v = bef xs x.In.From) (fun v => [(75, .bool v), (0, vLines), (7, vSl s), (8, .slice (some ⟨b8, 0, none⟩) al.length c8), (9, .int .i64 (i : Nat)), (10, .pointer (some ⟨b10, 0, none⟩)), (11, .pointer (some ⟨b11, 0, none⟩)), (12, .pointer none), (13, .int .i64 xs.length), (41, .slice (some ⟨b8, 0, none⟩) al.length c8), (42, .int .i64 al.length), (43, .int .i64 (i : Nat))]) (fun _ => mS 136 s ++ [⟨b11, e_api_Real (q_api_Real x.In.From), 81⟩, ⟨b10, rU x, 136⟩, ⟨b8, row rU al sp8, 136⟩]) ?_ (fun v hv3 => ?_)
      · rcases s.cases 136 with ⟨h0, -, -⟩ | ⟨bo, co, so, ho, hvo, hmo, hneo⟩
        · refine jD 23 23 (h := ?_)
          (repeat (refine wkH ?_))
          simp only [decide_eq_false (show ¬ (0 : Int) < (xs.length : Int) by rw [h0]; simp)]
          (repeat (refine wkH ?_))
          refine jh_nil ?_
          refine jn_nil ?_
          repeat (refine wkB ?_; try intro _)
          exact jx_mid false (by rw [h0]; rfl) sbB suB
        · have hpo : 0 < xs.length := by rcases xs with _ | ⟨a, xs⟩; exact absurd rfl hneo; simp
          rw [hvo, hmo]
          simp only [List.cons_append, List.nil_append]
          refine jD 23 23 (h := ?_)
          (repeat (refine wkH ?_))
          simp only [decide_eq_true (show (0 : Int) < (xs.length : Int) by omega)]
          (repeat (refine wkH ?_))
          rcases hto : decide ((lstU xs).In.To = x.In.From) with _ | _
          · (repeat (refine wkH ?_))
            refine jh_nil ?_
            refine jn_nil ?_
            repeat (refine wkB ?_; try intro _)
            exact jx_mid false (by unfold bef; rw [hto, Bool.false_and, Bool.and_false]) sbB suB
          · (repeat (refine wkH ?_))
            refine jh_nil ?_
            refine jn_nil ?_
            repeat (refine wkB ?_; try intro _)
            exact jx_mid (!decide ((lstU xs).In.From = (lstU xs).In.To)) (by unfold bef; rw [hto, decide_eq_true hpo, Bool.true_and, Bool.true_and]) sbB suB
      refine j_cut (S := Option Addr) (fun p => (bef xs x.In.From = false ∧ p = none) ∨ (bef xs x.In.From = true ∧ ∃ bo co so, (xs.length ≤ co ∧ so.length = (co - xs.length) * 36) ∧ vSl s = .slice (some ⟨bo, 0, none⟩) xs.length co ∧ mS 136 s = [⟨bo, row rU xs so, 136⟩] ∧ p = some ⟨bo, 0 + ((xs.length : Int) - 1).toNat * 36, none⟩)) (fun p => [(0, vLines), (7, vSl s), (8, .slice (some ⟨b8, 0, none⟩) al.length c8), (9, .int .i64 (i : Nat)), (10, .pointer (some ⟨b10, 0, none⟩)), (11, .pointer (some ⟨b11, 0, none⟩)), (12, .pointer p), (13, .int .i64 xs.length), (41, .slice (some ⟨b8, 0, none⟩) al.length c8), (42, .int .i64 al.length), (43, .int .i64 (i : Nat))]) (fun _ => mS 136 s ++ [⟨b11, e_api_Real (q_api_Real x.In.From), 81⟩, ⟨b10, rU x, 136⟩, ⟨b8, row rU al sp8, 136⟩]) ?_ (fun p hp => ?_)
      · subst hv3
        rcases hb : bef xs x.In.From with _ | _
        · repeat (refine wkB ?_; try intro _)
          exact jx_mid none (.inl ⟨rfl, rfl⟩) sbB suB
        · have hpo := bef_len hb
          rcases s.cases 136 with ⟨h0, -, -⟩ | ⟨bo, co, so, ho, hvo, hmo, hneo⟩
          · rw [h0] at hpo; simp at hpo
          rw [hvo, hmo]
          simp only [List.cons_append, List.nil_append]
          repeat (refine wkB ?_; try intro _)
          exact jx_mid (some ⟨bo, 0 + ((xs.length : Int) - 1).toNat * 36, none⟩) (.inr ⟨trivial, bo, co, so, ho, rfl, rfl, rfl⟩) sbB suB
      repeat (refine wkB ?_; try intro _)
      rcases hI : isI x with _ | _
      · have hI' : decide (x.In.From = x.In.To) = false := hI
        simp only [hI']
        repeat (refine wkB ?_; try intro _)
        refine j_cut (S := Bool) (fun v => v = cA xs x) (fun v => [(117, .bool v), (0, vLines), (7, vSl s), (8, .slice (some ⟨b8, 0, none⟩) al.length c8), (9, .int .i64 (i : Nat)), (10, .pointer (some ⟨b10, 0, none⟩)), (11, .pointer (some ⟨b11, 0, none⟩)), (12, .pointer p), (13, .int .i64 xs.length), (41, .slice (some ⟨b8, 0, none⟩) al.length c8), (42, .int .i64 al.length), (43, .int .i64 (i : Nat))]) (fun _ => mS 136 s ++ [⟨b11, e_api_Real (q_api_Real x.In.From), 81⟩, ⟨b10, rU x, 136⟩, ⟨b8, row rU al sp8, 136⟩]) ?_ (fun v hv4 => ?_)
        · rcases hp with ⟨hb, rfl⟩ | ⟨hb, bo, co, so, ho, hvo, hmo, rfl⟩
          · (refine jD 23 23 (h := ?_); (repeat (refine wkH ?_)); refine jh_nil ?_; (repeat (refine wn_new ?_; intro _)); refine jn_nil ?_)
            repeat (refine wkB ?_; try intro _)
            exact jx_mid false (by unfold cA; rw [hb, Bool.false_and]) sbB suB
          · have hpo := bef_len hb
            rw [hvo, hmo]
            simp only [List.cons_append, List.nil_append]
            refine jD 23 23 (h := ?_)
            (repeat (refine wkH ?_))
            rcases hot : (lstU xs).In.OpenTo with _ | _
            · (repeat (refine wkH ?_))
              refine jh_nil ?_
              refine jn_nil ?_
              repeat (refine wkB ?_; try intro _)
              exact jx_mid (decide ((lstU xs).F = x.F)) (by unfold cA; rw [hb, hot, Bool.true_and, Bool.not_false, Bool.true_and]) sbB suB
            · (repeat (refine wkH ?_))
              refine jh_nil ?_
              refine jn_nil ?_
              repeat (refine wkB ?_; try intro _)
              exact jx_mid false (by unfold cA; rw [hb, hot, Bool.true_and, Bool.not_true, Bool.false_and]) sbB suB
        subst hv4
        refine j_cut (S := Unit) (fun _ => cA xs x = false) (fun _ => [(0, vLines), (7, vSl s), (8, .slice (some ⟨b8, 0, none⟩) al.length c8), (9, .int .i64 (i : Nat)), (10, .pointer (some ⟨b10, 0, none⟩)), (11, .pointer (some ⟨b11, 0, none⟩)), (13, .int .i64 xs.length), (41, .slice (some ⟨b8, 0, none⟩) al.length c8), (42, .int .i64 al.length), (43, .int .i64 (i : Nat))]) (fun _ => mS 136 s ++ [⟨b11, e_api_Real (q_api_Real x.In.From), 81⟩, ⟨b10, rU x, 136⟩, ⟨b8, row rU al sp8, 136⟩]) ?_ (fun _ hcA => ?_)
        · rcases hcA : cA xs x with _ | _
          · repeat (refine wkB ?_; try intro _)
            exact jx_mid () rfl sbB suB
          · have hb : bef xs x.In.From = true := by
              unfold cA at hcA
              simp only [Bool.and_eq_true] at hcA
              exact hcA.1
            have hpo := bef_len hb
            rcases hp with ⟨hb', -⟩ | ⟨-, bo, co, so, ho, hvo, hmo, rfl⟩
            · rw [hb] at hb'; cases hb'
            rw [hvo, hmo]
            simp only [List.cons_append, List.nil_append]
            have ek : ((xs.length : Int) - 1).toNat = xs.length - 1 := by omega
            repeat (refine wkB ?_; try intro _)
            refine sRF (i := (xs.length : Int) - 1) (f := 9) (⟨⟨(lstU xs).In.From, x.In.To, (lstU xs).In.OpenFrom, (lstU xs).In.OpenTo⟩, (lstU xs).F⟩ : UL) rfl rfl ?_ ?_
            · omega
            obtain ⟨zs, hzs⟩ : ∃ zs, zs = xs.set ((xs.length : Int) - 1).toNat (⟨⟨(lstU xs).In.From, x.In.To, (lstU xs).In.OpenFrom, (lstU xs).In.OpenTo⟩, (lstU xs).F⟩ : UL) := ⟨_, rfl⟩
            simp only [← hzs]
            have hzl : zs.length = xs.length := by rw [hzs]; simp
            have hg : gi zs ((xs.length : Int) - 1) = ⟨⟨(lstU xs).In.From, x.In.To, (lstU xs).In.OpenFrom, (lstU xs).In.OpenTo⟩, (lstU xs).F⟩ := by
              rw [gi_eq (by omega)]
              simp only [hzs, List.getElem_set_self]
            repeat (refine wkB ?_; try intro _)
            refine sRF (i := (xs.length : Int) - 1) (f := 19) (⟨⟨(gi zs ((xs.length : Int) - 1)).In.From, (gi zs ((xs.length : Int) - 1)).In.To, (gi zs ((xs.length : Int) - 1)).In.OpenFrom, true⟩, (gi zs ((xs.length : Int) - 1)).F⟩ : UL) rfl rfl ?_ ?_
            · omega
            have hfin : zs.set ((xs.length : Int) - 1).toNat (⟨⟨(gi zs ((xs.length : Int) - 1)).In.From, (gi zs ((xs.length : Int) - 1)).In.To, (gi zs ((xs.length : Int) - 1)).In.OpenFrom, true⟩, (gi zs ((xs.length : Int) - 1)).F⟩ : UL) = turn xs (ext (lstU xs) x) := by
              rw [hg, hzs, List.set_set, ek]
              rfl
            rw [hfin]
            obtain ⟨s', hv', hm'⟩ := SlS.put (enc := rU) (k := 36) (b := bo) 136 (turn_len xs (ext (lstU xs) x)) ho hpo
            rw [← hv']
            repeat (first | (refine wkB ?_; try intro _) | (refine sC rfl rfl ?_ ?_; focus (exact ⟨by omega, by omega⟩)) | (refine sN rfl rfl ?_ ?_; (focus (exact ⟨by omega, by omega⟩)); intro _; (try simp only [List.cons_append, List.nil_append, List.append_nil])))
            exact jx_loop ⟨turn xs (ext (lstU xs) x), i + 1, s'⟩ ⟨hlt, by rw [hnx, nstp, if_pos hI, if_pos hcA]⟩ sbB (by dsimp only; rw [hm']; exact suB) (by show al.length - (i + 1) < al.length - i; omega)
        refine j_seq ?_
        refine j_cut (S := UL) (fun y => y = if cB al i xs x = true then opF x else x) (fun _ => [(0, vLines), (7, vSl s), (8, .slice (some ⟨b8, 0, none⟩) al.length c8), (9, .int .i64 (i : Nat)), (10, .pointer (some ⟨b10, 0, none⟩)), (11, .pointer (some ⟨b11, 0, none⟩)), (13, .int .i64 xs.length), (41, .slice (some ⟨b8, 0, none⟩) al.length c8), (42, .int .i64 al.length), (43, .int .i64 (i : Nat))]) (fun y => mS 136 s ++ [⟨b11, e_api_Real (q_api_Real x.In.From), 81⟩, ⟨b10, rU y, 136⟩, ⟨b8, row rU al sp8, 136⟩]) ?_ (fun y hy => ?_)
        · refine j_seq ?_
          refine j_cut (S := Bool) (fun v => v = cB al i xs x) (fun v => [(156, .bool v), (0, vLines), (7, vSl s), (8, .slice (some ⟨b8, 0, none⟩) al.length c8), (9, .int .i64 (i : Nat)), (10, .pointer (some ⟨b10, 0, none⟩)), (11, .pointer (some ⟨b11, 0, none⟩)), (13, .int .i64 xs.length), (41, .slice (some ⟨b8, 0, none⟩) al.length c8), (42, .int .i64 al.length), (43, .int .i64 (i : Nat))]) (fun _ => mS 136 s ++ [⟨b11, e_api_Real (q_api_Real x.In.From), 81⟩, ⟨b10, rU x, 136⟩, ⟨b8, row rU al sp8, 136⟩]) ?_ (fun v hv5 => ?_)
          · by_cases hi0 : 0 < i
            · have ep : ((i : Int) - 1).toNat < al.length := by omega
              refine jD 28 28 (h := ?_)
              (repeat (refine wkH ?_))
              simp only [decide_eq_true (show (0 : Int) < (i : Int) by omega)]
              (repeat (refine wkH ?_))
              rcases hi1 : isI (gi al ((i : Int) - 1)) with _ | _
              · have hi1' : decide ((gi al ((i : Int) - 1)).In.From = (gi al ((i : Int) - 1)).In.To) = false := hi1
                simp only [hi1']
                (repeat (refine wkH ?_))
                refine jh_nil ?_
                refine jn_nil ?_
                repeat (refine wkB ?_; try intro _)
                exact jx_mid false (by unfold cB; rw [hi1, Bool.false_and, Bool.and_false]) sbB suB
              · have hi1' : decide ((gi al ((i : Int) - 1)).In.From = (gi al ((i : Int) - 1)).In.To) = true := hi1
                simp only [hi1']
                (repeat (refine wkH ?_))
                rcases hft : decide ((gi al ((i : Int) - 1)).In.From = x.In.From) with _ | _
                · (repeat (refine wkH ?_))
                  refine jh_nil ?_
                  refine jn_nil ?_
                  repeat (refine wkB ?_; try intro _)
                  exact jx_mid false (by unfold cB; rw [hft, Bool.false_and, Bool.and_false, Bool.and_false]) sbB suB
                · (repeat (first | refine wkH ?_ | (refine tC rfl rfl ?_ ?_; focus (omega))))
                  refine jh_nil ?_
                  refine jn_nil ?_
                  repeat (refine wkB ?_; try intro _)
                  exact jx_mid (!hld xs x.In.From) (by unfold cB; rw [hi1, hft, decide_eq_true hi0, Bool.true_and, Bool.true_and, Bool.true_and]) sbB suB
            · refine jD 28 28 (h := ?_)
              (repeat (refine wkH ?_))
              simp only [decide_eq_false (show ¬ (0 : Int) < (i : Int) by omega)]
              (repeat (refine wkH ?_))
              refine jh_nil ?_
              refine jn_nil ?_
              repeat (refine wkB ?_; try intro _)
              exact jx_mid false (by unfold cB; rw [decide_eq_false hi0, Bool.false_and]) sbB suB
          · subst hv5
            rcases hcB : cB al i xs x with _ | _
            · repeat (refine wkB ?_; try intro _)
              exact jx_mid x (by rw [if_neg (by decide)]) sbB suB
            · repeat (refine wkB ?_; try intro _)
              exact jx_mid (opF x) (by rw [if_pos rfl]) sbB suB
        repeat (refine wkB ?_; try intro _)
        refine sU rfl rfl ?_ ?_ ?_ ?_
        · rfl
        · rfl
        · exact ⟨by decide, by omega, by omega⟩
        intro s'
        repeat (first | (refine wkB ?_; try intro _) | (refine sC rfl rfl ?_ ?_; focus (exact ⟨by omega, by omega⟩)) | (refine sN rfl rfl ?_ ?_; (focus (exact ⟨by omega, by omega⟩)); intro _; (try simp only [List.cons_append, List.nil_append, List.append_nil])))
        exact jx_loop ⟨xs ++ [y], i + 1, s'⟩ ⟨hlt, by show xs ++ [y] = nrm al (i + 1); rw [hnx, nstp, if_pos hI, hcA, if_neg (by decide), hy]⟩ sbB suB (by show al.length - (i + 1) < al.length - i; omega)
      · have hI' : decide (x.In.From = x.In.To) = true := hI
        simp only [hI']
        repeat (refine wkB ?_; try intro _)
        have htM : M x.In.From.P ≤ 8589934592 := Nat.le_trans hx0.i.m1 (by decide)
        have hxf : (M x.F.X0 ≤ 8589934592 ∧ M x.F.X1 ≤ 8589934592) ∧ M x.F.Y0 ≤ 8589934592 ∧ M x.F.Y1 ≤ 8589934592 := ⟨⟨Nat.le_trans hx0.f.x0 (by decide), Nat.le_trans hx0.f.x1 (by decide)⟩, Nat.le_trans hx0.f.y0 (by decide), Nat.le_trans hx0.f.y1 (by decide)⟩
        refine j_cut (S := Bool) (fun v => v = cC xs x) (fun v => [(163, .bool v), (0, vLines), (7, vSl s), (8, .slice (some ⟨b8, 0, none⟩) al.length c8), (9, .int .i64 (i : Nat)), (10, .pointer (some ⟨b10, 0, none⟩)), (11, .pointer (some ⟨b11, 0, none⟩)), (12, .pointer p), (13, .int .i64 xs.length), (41, .slice (some ⟨b8, 0, none⟩) al.length c8), (42, .int .i64 al.length), (43, .int .i64 (i : Nat))]) (fun _ => mS 136 s ++ [⟨b11, e_api_Real (q_api_Real x.In.From), 81⟩, ⟨b10, rU x, 136⟩, ⟨b8, row rU al sp8, 136⟩]) ?_ (fun v hv4 => ?_)
        · rcases hp with ⟨hb, rfl⟩ | ⟨hb, bo, co, so, ho, hvo, hmo, rfl⟩
          · (refine j_late [0, 1, 2, 3, 4, 5, 6, 7, 8, 9, 10, 11, 12, 13, 14, 15] [16] (_) (h := ?_); refine wkI ?_)
            (repeat (refine wkH ?_))
            repeat (refine wkT ?_; try intro _)
            repeat (refine wkB ?_; try intro _)
            exact jx_mid false (by unfold cC; rw [hb, Bool.false_and]) sbB suB
          · have hpo := bef_len hb
            have hlo := (lst_ok hxo hpo).f
            rw [hvo, hmo]
            simp only [List.cons_append, List.nil_append]
            (refine j_late [0, 1, 2, 3, 4, 5, 6, 7, 8, 9, 10, 11, 12, 13, 14, 15] [16] (_) (h := ?_); refine wkI ?_)
            (repeat (first | refine wkH ?_ | (refine tC rfl rfl ?_ ?_; focus (exact ⟨hx0.i.r1, ⟨⟨hlo.x0, hlo.x1⟩, hlo.y0, hlo.y1⟩, hxf, htM⟩))))
            repeat (refine wkT ?_; try intro _)
            repeat (refine wkB ?_; try intro _)
            exact jx_mid (smL (lstU xs).F x.F x.In.From.P) (by unfold cC; rw [hb, Bool.true_and]) sbB suB
        subst hv4
        rcases hcC : cC xs x with _ | _
        · refine j_else (by rfl) ?_
          (first | refine sX rfl rfl ?_ | (refine sS rfl rfl ?_ ?_; focus omega) | (refine sC rfl rfl ?_ ?_; focus (first | exact trivial | assumption | constructor <;> assumption | exact mb2 rfl rfl | exact mb4 rfl rfl rfl rfl)) | refine cX ?_ | refine cY ?_ | (refine sA rfl rfl ?_; intro _) | refine sT rfl ?_ | refine sF rfl ?_ | (refine sR rfl ?_ ?_; focus omega) | (refine sB rfl rfl ?_; intro _) | (refine sN rfl rfl ?_ ?_; (focus (first | exact trivial | assumption | constructor <;> assumption | exact mb2 rfl rfl | exact mb4 rfl rfl rfl rfl)); intro _; (try simp only [List.cons_append, List.nil_append, List.append_nil])) | refine sW rfl rfl ?_ | refine sK rfl rfl ?_ | refine j_if rfl ?_ | refine j_else rfl ?_ | refine pkT rfl rfl rfl rfl ?_ | refine pkF rfl rfl rfl rfl ?_)
          refine j_cut (S := Bool) (fun v => v = cD al i x) (fun v => [(184, .bool v), (0, vLines), (7, vSl s), (8, .slice (some ⟨b8, 0, none⟩) al.length c8), (9, .int .i64 (i : Nat)), (10, .pointer (some ⟨b10, 0, none⟩)), (11, .pointer (some ⟨b11, 0, none⟩)), (13, .int .i64 xs.length), (41, .slice (some ⟨b8, 0, none⟩) al.length c8), (42, .int .i64 al.length), (43, .int .i64 (i : Nat))]) (fun _ => mS 136 s ++ [⟨b11, e_api_Real (q_api_Real x.In.From), 81⟩, ⟨b10, rU x, 136⟩, ⟨b8, row rU al sp8, 136⟩]) ?_ (fun v hv5 => ?_)
          · by_cases hi1 : i + 1 < al.length
            · have hya := hao _ (gi_mem (i := (i : Int) + 1) (by omega))
              have hyf : (M (gi al ((i : Int) + 1)).F.X0 ≤ 8589934592 ∧ M (gi al ((i : Int) + 1)).F.X1 ≤ 8589934592) ∧ M (gi al ((i : Int) + 1)).F.Y0 ≤ 8589934592 ∧ M (gi al ((i : Int) + 1)).F.Y1 ≤ 8589934592 := ⟨⟨Nat.le_trans hya.f.x0 (by decide), Nat.le_trans hya.f.x1 (by decide)⟩, Nat.le_trans hya.f.y0 (by decide), Nat.le_trans hya.f.y1 (by decide)⟩
              (refine j_late [0, 1, 2, 3, 4, 5, 6, 7, 8, 9, 10, 11, 12, 13, 14, 15, 16, 17, 18, 19, 20, 21, 22, 23, 24, 25, 26, 27, 28, 29, 30, 31] [32] (_) (h := ?_); refine wkI ?_)
              (repeat (refine wkH ?_))
              simp only [decide_eq_true (show (i : Int) + 1 < (al.length : Int) by omega)]
              (repeat (refine wkH ?_))
              rcases hft : decide ((gi al ((i : Int) + 1)).In.From = x.In.From) with _ | _
              · (repeat (refine wkH ?_))
                repeat (refine wkT ?_; try intro _)
                repeat (refine wkB ?_; try intro _)
                exact jx_mid false (by unfold cD; rw [hft, Bool.false_and, Bool.and_false]) sbB suB
              · (repeat (first | refine wkH ?_ | (refine tC rfl rfl ?_ ?_; focus (exact ⟨hx0.i.r1, hyf, hxf, htM⟩))))
                repeat (refine wkT ?_; try intro _)
                repeat (refine wkB ?_; try intro _)
                exact jx_mid (smL (gi al ((i : Int) + 1)).F x.F x.In.From.P) (by unfold cD; rw [hft, decide_eq_true hi1, Bool.true_and, Bool.true_and]) sbB suB
            · (refine j_late [0, 1, 2, 3, 4, 5, 6, 7, 8, 9, 10, 11, 12, 13, 14, 15, 16, 17, 18, 19, 20, 21, 22, 23, 24, 25, 26, 27, 28, 29, 30, 31] [32] (_) (h := ?_); refine wkI ?_)
              (repeat (refine wkH ?_))
              simp only [decide_eq_false (show ¬ (i : Int) + 1 < (al.length : Int) by omega)]
              (repeat (refine wkH ?_))
              repeat (refine wkT ?_; try intro _)
              repeat (refine wkB ?_; try intro _)
              exact jx_mid false (by unfold cD; rw [decide_eq_false hi1, Bool.false_and]) sbB suB
          subst hv5
          rcases hcD : cD al i x with _ | _
          · repeat (first | (refine wkB ?_; try intro _) | (refine sC rfl rfl ?_ ?_; focus (exact ⟨hx0.i.r1, hxf, htM⟩)) | (refine sN rfl rfl ?_ ?_; (focus (exact ⟨hx0.i.r1, hxf, htM⟩)); intro _; (try simp only [List.cons_append, List.nil_append, List.append_nil])))
            refine sU rfl rfl ?_ ?_ ?_ ?_
            · rfl
            · rfl
            · exact ⟨by decide, by omega, by omega⟩
            intro s'
            repeat (first | (refine wkB ?_; try intro _) | (refine sC rfl rfl ?_ ?_; focus (exact ⟨by omega, by omega⟩)) | (refine sN rfl rfl ?_ ?_; (focus (exact ⟨by omega, by omega⟩)); intro _; (try simp only [List.cons_append, List.nil_append, List.append_nil])))
            exact jx_loop ⟨_, i + 1, s'⟩ ⟨hlt, by show xs ++ [redU x] = nrm al (i + 1); rw [hnx, nstp, hI, if_neg (by decide), hcC, if_neg (by decide), hcD, if_neg (by decide)]⟩ sbB suB (by show al.length - (i + 1) < al.length - i; omega)
          · repeat (first | (refine wkB ?_; try intro _) | (refine sC rfl rfl ?_ ?_; focus (exact ⟨by omega, by omega⟩)) | (refine sN rfl rfl ?_ ?_; (focus (exact ⟨by omega, by omega⟩)); intro _; (try simp only [List.cons_append, List.nil_append, List.append_nil])))
            exact jx_loop ⟨xs, i + 1, s⟩ ⟨hlt, by show xs = nrm al (i + 1); rw [hnx, nstp, hI, if_neg (by decide), hcC, if_neg (by decide), hcD, if_pos rfl]⟩ sbB suB (by show al.length - (i + 1) < al.length - i; omega)
        · have hb : bef xs x.In.From = true := by
            unfold cC at hcC
            simp only [Bool.and_eq_true] at hcC
            exact hcC.1
          have hpo := bef_len hb
          rcases hp with ⟨hb', -⟩ | ⟨-, bo, co, so, ho, hvo, hmo, rfl⟩
          · rw [hb] at hb'; cases hb'
          rw [hvo, hmo]
          simp only [List.cons_append, List.nil_append]
          have ek : ((xs.length : Int) - 1).toNat = xs.length - 1 := by omega
          repeat (refine wkB ?_; try intro _)
          refine sRF (i := (xs.length : Int) - 1) (f := 19) (clo (lstU xs)) rfl rfl ?_ ?_
          · omega
          rw [ek]
          obtain ⟨s', hv', hm'⟩ := SlS.put (enc := rU) (k := 36) (b := bo) 136 (turn_len xs (clo (lstU xs))) ho hpo
          rw [← hv']
          repeat (first | (refine wkB ?_; try intro _) | (refine sC rfl rfl ?_ ?_; focus (exact ⟨by omega, by omega⟩)) | (refine sN rfl rfl ?_ ?_; (focus (exact ⟨by omega, by omega⟩)); intro _; (try simp only [List.cons_append, List.nil_append, List.append_nil])))
          exact jx_loop ⟨turn xs (clo (lstU xs)), i + 1, s'⟩ ⟨hlt, by show turn xs (clo (lstU xs)) = nrm al (i + 1); rw [hnx, nstp, hI, if_neg (by decide), if_pos hcC]⟩ sbB (by dsimp only; rw [hm']; exact suB) (by show al.length - (i + 1) < al.length - i; omega)
    · have hge : i = al.length := by have := of_decide_eq_false h; omega
      subst hge
      subst hxs
      repeat (refine wkB ?_; try intro _)
      obtain ⟨s0, hs1, hs2⟩ := SlS.turn 136 hR.symm s
      exact jx_ret_two rfl (resv_tmp rfl) (resv_tmp rfl) (fun w hw => ⟨s0, by dsimp only; rw [hs1, hE], by dsimp only; rw [hs2]; exact hw.sub suB⟩)
end Go.Vt
/- The normal form of a moving point; its position at an instant: walked. Conditions: those that each statement names. -/
set_option linter.unusedSimpArgs false
set_option linter.unusedVariables false
set_option maxHeartbeats 2000000
set_option maxRecDepth 100000
namespace Go.Vt
open Go.RowKit Go.Proofs
instance sr_pnormal (w0 : World) (L : List Blk) (v : Value) (us : List UL) [h : LstN w0 L v UL rU us] : SpecR Tryz.prog w0 L 68 [vLines, v] (SlS rU 36 (nrmR us)) (fun s => .tuple #[vSl s, .int .i64 (nrmE us)]) (fun s => mS 136 s) (us.length ≤ 19 ∧ ∀ u ∈ us, UIn u) := ⟨fun hp w hw => pnormal_spec v us w (h.out w hw) h.nil hp.1 hp.2⟩
theorem nrmR_len (us : List UL) : (nrmR us).length ≤ 3 * us.length := by
  unfold nrmR
  split
  · have h1 := nrm_len (allU us) (allU us).length
    have h2 := atm_len (sor us) (sor us).length
    have h3 := sor_len us
    unfold allU at h1 ⊢
    omega
  · simp
instance bd_Lines : BdC Tryz.prog 96 [] (.agg #[]) := ⟨fun w => by kernel_rfl⟩
/-- The units of a moving point, as they are normal. -/
def mNorm (us : List PU) : List PU := mpN ofU (nrmR (mpN toU us us.length)) (nrmR (mpN toU us us.length)).length
theorem mnormal_spec (v : Value) (us : List PU) (w : World) (hv : ArgS w v rP us) (hl : us.length ≤ 19) (hok : ∀ u ∈ mpN toU us us.length, UIn u) :
    Calls Tryz.prog 39 [v].toArray w (RetM (SlS rP 36 (mNorm us)) (fun s => .tuple #[vSl s, .int .i64 (nrmE (mpN toU us us.length))]) (fun s => mS 87 s) w) := by
  have := ArgC.mk hv
  have hml := mpN_len toU us us.length
  have hnl := nrmR_len (mpN toU us us.length)
  refine fn_intro Tryz.func39 rfl Tryz.ntmps39 rfl ?_
  repeat (first | (refine wkB ?_; try intro _) | (refine sC rfl rfl ?_ ?_; focus (first | exact trivial | omega | exact ⟨by omega, hok⟩)) | (refine sN rfl rfl ?_ ?_; (focus (first | exact trivial | omega | exact ⟨by omega, hok⟩)); intro _; (try simp only [List.cons_append, List.nil_append, List.append_nil])))
  rename_i s1 s2 s3
  exact jx_ret_two rfl (resv_tmp rfl) (resv_tmp rfl) (fun w hw => ⟨s3, rfl, hw.sub suB⟩)
instance sr_mnormal (w0 : World) (L : List Blk) (v : Value) (us : List PU) [h : LstC w0 L v PU rP us] : SpecR Tryz.prog w0 L 39 [v] (SlS rP 36 (mNorm us)) (fun s => .tuple #[vSl s, .int .i64 (nrmE (mpN toU us us.length))]) (fun s => mS 87 s) (us.length ≤ 19 ∧ ∀ u ∈ mpN toU us us.length, UIn u) := ⟨fun hp w hw => mnormal_spec v us w (h.out w hw) hp.1 hp.2⟩
end Go.Vt
/- Functions in pieces over a dense order of instants: what a list of units says, and that its normal form is determined by it. Conditions: those that each statement names. -/
set_option linter.unusedSectionVars false
set_option linter.unusedVariables false
set_option linter.unusedSimpArgs false
namespace Go.Vt
/-- An interval with a function on it. -/
structure GU (T F : Type) where
  a : T
  b : T
  oa : Bool
  ob : Bool
  f : F
/-- Functions of time: their values, and the least of those that have one value at an instant. -/
class Fv (F T : Type) (V : outParam Type) [LT T] where
  va : F → T → V
  red : F → T → F
  va_red : ∀ f t, va (red f t) t = va f t
  red_eq : ∀ f g t, va f t = va g t → red f t = red g t
  agree : ∀ (f g : F) (a b : T), a < b → (∀ t, a < t → t < b → va f t = va g t) → f = g
class Dns (T : Type) [LT T] : Prop where
  out : ∀ a b : T, a < b → ∃ c, a < c ∧ c < b
open Fv (va red)
section
variable {T F V : Type} [LE T] [LT T] [Std.LawfulOrderLT T] [Std.IsLinearOrder T] [Dns T] [Fv F T V]
def GU.mem (u : GU T F) (t : T) : Prop := (u.a < t ∨ (u.a = t ∧ u.oa = false)) ∧ (t < u.b ∨ (t = u.b ∧ u.ob = false))
def GU.ok (u : GU T F) : Prop := u.a < u.b ∨ (u.a = u.b ∧ u.oa = false ∧ u.ob = false)
def GU.bfr (u w : GU T F) : Prop := u.b < w.a ∨ (u.b = w.a ∧ (u.ob = true ∨ w.oa = true))
theorem dens2 {a b c : T} (h : a < b) (k : a < c) : ∃ t, a < t ∧ t < b ∧ t < c := by
  obtain ⟨x, h1, h2⟩ := Dns.out a b h
  obtain ⟨y, h3, h4⟩ := Dns.out a c k
  rcases Std.le_total (a := x) (b := y) with h5 | h5
  · exact ⟨x, h1, h2, by grind⟩
  · exact ⟨y, h3, by grind, h4⟩
theorem agree2 {f g : F} {a b c : T} (h : a < b) (k : a < c) (hv : ∀ t, a < t → t < b → t < c → va f t = va g t) : f = g := by
  rcases Std.le_total (a := b) (b := c) with h5 | h5
  · exact Fv.agree f g a b h fun t h1 h2 => hv t h1 h2 (by grind)
  · exact Fv.agree f g a c k fun t h1 h2 => hv t h1 (by grind) h2
theorem GU.ok.pt {u : GU T F} (h : u.ok) : ∃ t, u.mem t := by
  rcases h with h | ⟨h1, h2, h3⟩
  · obtain ⟨c, h1, h2⟩ := Dns.out _ _ h
    exact ⟨c, .inl h1, .inl h2⟩
  · exact ⟨u.a, .inr ⟨rfl, h2⟩, .inr ⟨h1, h3⟩⟩
theorem GU.bfr.dis {u w : GU T F} (h : u.bfr w) {t : T} (h1 : u.mem t) (h2 : w.mem t) : False := by
  unfold GU.mem GU.bfr at *
  grind
theorem GU.bfr.tr {u v w : GU T F} (hv : v.ok) (h : u.bfr v) (k : v.bfr w) : u.bfr w := by
  unfold GU.ok GU.bfr at *
  grind
/-- What a list of units says. -/
def Has (l : List (GU T F)) (t : T) (v : V) : Prop := ∃ u ∈ l, u.mem t ∧ va u.f t = v
theorem has_nil {t : T} {v : V} : ¬ Has ([] : List (GU T F)) t v := fun ⟨u, hu, _⟩ => by cases hu
theorem has_cons {u : GU T F} {l : List (GU T F)} {t : T} {v : V} : Has (u :: l) t v ↔ (u.mem t ∧ va u.f t = v) ∨ Has l t v := by
  unfold Has
  simp
theorem has_app {l m : List (GU T F)} {t : T} {v : V} : Has (l ++ m) t v ↔ Has l t v ∨ Has m t v := by
  unfold Has
  constructor
  · rintro ⟨u, hu, h⟩
    rcases List.mem_append.1 hu with h1 | h1
    · exact .inl ⟨u, h1, h⟩
    · exact .inr ⟨u, h1, h⟩
  · rintro (⟨u, hu, h⟩ | ⟨u, hu, h⟩)
    · exact ⟨u, List.mem_append_left _ hu, h⟩
    · exact ⟨u, List.mem_append_right _ hu, h⟩
theorem has_one {u : GU T F} {t : T} {v : V} : Has [u] t v ↔ (u.mem t ∧ va u.f t = v) := by
  rw [has_cons]
  exact ⟨fun h => h.resolve_right has_nil, .inl⟩
/-- A unit and a later one, as they are in a normal form. -/
structure Adj (u w : GU T F) : Prop where
  bf : u.bfr w
  n1 : u.b = w.a → u.ob = false → u.a < u.b → u.f ≠ w.f
  n2 : u.b = w.a → w.oa = false → va u.f w.a ≠ va w.f w.a
  n3 : u.b = w.a → u.a = u.b → va u.f w.a ≠ va w.f w.a
structure NF (l : List (GU T F)) : Prop where
  ok : ∀ u ∈ l, u.ok
  rd : ∀ u ∈ l, u.a = u.b → u.f = red u.f u.a
  pw : l.Pairwise Adj
theorem NF.nil : NF ([] : List (GU T F)) := ⟨(fun _ h => by cases h), (fun _ h => by cases h), List.Pairwise.nil⟩
theorem NF.tail {u : GU T F} {l : List (GU T F)} (h : NF (u :: l)) : NF l :=
  ⟨fun w hw => h.ok w (.tail _ hw), fun w hw => h.rd w (.tail _ hw), (List.pairwise_cons.1 h.pw).2⟩
theorem pw_tri {α : Type} {R : α → α → Prop} : ∀ {l : List α}, l.Pairwise R → ∀ u ∈ l, ∀ w ∈ l, u = w ∨ R u w ∨ R w u
  | [], _, _, h, _, _ => by cases h
  | x :: l, hp, u, hu, w, hw => by
    obtain ⟨h1, h2⟩ := List.pairwise_cons.1 hp
    rcases List.mem_cons.1 hu with rfl | hu
    · rcases List.mem_cons.1 hw with rfl | hw
      · exact .inl rfl
      · exact .inr (.inl (h1 w hw))
    · rcases List.mem_cons.1 hw with h3 | hw
      · exact .inr (.inr (by rw [h3]; exact h1 u hu))
      · exact pw_tri h2 u hu w hw
/-- What is said of an instant is said by the one unit that contains it. -/
theorem NF.fn {l : List (GU T F)} (h : NF l) {u : GU T F} (hu : u ∈ l) {t : T} {v : V} (hm : u.mem t) (hv : Has l t v) : va u.f t = v := by
  obtain ⟨w, hw, h1, h2⟩ := hv
  rcases pw_tri h.pw u hu w hw with rfl | h3 | h3
  · exact h2
  · exact (h3.bf.dis hm h1).elim
  · exact (h3.bf.dis h1 hm).elim
section
variable {u u' : GU T F} {l l' : List (GU T F)}
theorem hd_le (h : NF (u :: l)) {w : GU T F} (hw : w ∈ u :: l) : u.a ≤ w.a := by
  rcases List.mem_cons.1 hw with rfl | hw
  · exact Std.le_refl _
  · have h1 := (List.pairwise_cons.1 h.pw).1 w hw
    have h2 := h.ok u (.head _)
    have h3 := h1.bf
    unfold GU.ok GU.bfr at *
    grind
theorem tl_ge (h : NF (u :: l)) {w : GU T F} (hw : w ∈ l) : u.b ≤ w.a := by
  have h3 := ((List.pairwise_cons.1 h.pw).1 w hw).bf
  unfold GU.bfr at *
  grind
theorem hd_a (h : NF (u :: l)) (h' : NF (u' :: l')) (H : ∀ t v, Has (u :: l) t v → Has (u' :: l') t v) : ¬ u.a < u'.a := fun hlt => by
  have hok := h.ok u (.head _)
  obtain ⟨t, ht, htl⟩ : ∃ t, u.mem t ∧ t < u'.a := by
    rcases hok with h1 | ⟨h1, h2, h3⟩
    · obtain ⟨t, h2, h3, h4⟩ := dens2 h1 hlt
      exact ⟨t, ⟨.inl h2, .inl h3⟩, h4⟩
    · exact ⟨u.a, ⟨.inr ⟨rfl, h2⟩, .inr ⟨h1, h3⟩⟩, hlt⟩
  obtain ⟨w, hw, h1, h2⟩ := H t _ ⟨u, .head _, ht, rfl⟩
  have h3 := hd_le h' hw
  unfold GU.mem at h1
  grind
theorem hd_oa (h : NF (u :: l)) (h' : NF (u' :: l')) (H : ∀ t v, Has (u :: l) t v → Has (u' :: l') t v) (ha : u.a = u'.a) (ho : u.oa = false) : u'.oa = false := by
  have hok := h.ok u (.head _)
  have hok' := h'.ok u' (.head _)
  have hm : u.mem u.a := by unfold GU.mem GU.ok at *; grind
  obtain ⟨w, hw, h1, h2⟩ := H u.a _ ⟨u, .head _, hm, rfl⟩
  rcases List.mem_cons.1 hw with rfl | hw
  · unfold GU.mem at h1; grind
  · have h3 := tl_ge h' hw
    unfold GU.mem GU.ok at *
    grind
/-- If what a unit's other covers behind it is said, the next unit begins where it ends, with the other's function. -/
theorem nxt (h : NF (u :: l)) (h' : NF (u' :: l')) (H : ∀ t v, Has (u :: l) t v ↔ Has (u' :: l') t v) (hle : u'.a ≤ u.b) (hlt : u.b < u'.b) (hob : u.ob = false) : ∃ w ∈ l, w.a = u.b ∧ w.f = u'.f := by
  have cov : ∀ t, u.b < t → t < u'.b → ∃ w ∈ l, w.mem t ∧ va w.f t = va u'.f t := fun t h1 h2 => by
    obtain ⟨w, hw, h3, h4⟩ := (H t (va u'.f t)).2 ⟨u', .head _, ⟨.inl (by grind), .inl h2⟩, rfl⟩
    rcases List.mem_cons.1 hw with rfl | hw
    · unfold GU.mem at h3; grind
    · exact ⟨w, hw, h3, h4⟩
  cases l with
  | nil =>
    obtain ⟨t, h1, h2⟩ := Dns.out _ _ hlt
    obtain ⟨w, hw, _⟩ := cov t h1 h2
    cases hw
  | cons w l =>
    have hge := tl_ge h (.head _)
    have hb := ((List.pairwise_cons.1 h.pw).1 w (.head _)).bf
    have hok := h.ok w (.tail _ (.head _))
    have hwa : w.a = u.b := by
      rcases Std.le_total (a := w.a) (b := u.b) with h1 | h1
      · grind
      · rcases Classical.em (w.a = u.b) with h2 | h2
        · exact h2
        · obtain ⟨t, h3, h4, h5⟩ := dens2 hlt (show u.b < w.a by grind)
          obtain ⟨x, hx, h6, -⟩ := cov t h3 h4
          have h7 := hd_le h.tail hx
          unfold GU.mem at h6
          grind
    refine ⟨w, .head _, hwa, ?_⟩
    have hlong : w.a < w.b := by unfold GU.ok GU.bfr at *; grind
    refine agree2 (a := u.b) (b := w.b) (c := u'.b) (by grind) hlt fun t h1 h2 h3 => ?_
    have hmw : w.mem t := ⟨.inl (by grind), .inl h2⟩
    have hmu : u'.mem t := ⟨.inl (by grind), .inl h3⟩
    have := (H t _).1 ⟨w, .tail _ (.head _), hmw, rfl⟩
    exact (h'.fn (.head _) hmu this).symm
theorem hd_long (h : NF (u :: l)) (h' : NF (u' :: l')) (H : ∀ t v, Has (u :: l) t v ↔ Has (u' :: l') t v) (ha : u.a = u'.a) (ho : u.oa = u'.oa) (hi : u.a = u.b) : ¬ u'.a < u'.b := fun hlt => by
  have hok := h.ok u (.head _)
  obtain ⟨o1, o2⟩ : u.oa = false ∧ u.ob = false := by unfold GU.ok at hok; grind
  obtain ⟨w, hw, h1, h2⟩ := nxt h h' H (by grind) (by grind) o2
  have hadj := (List.pairwise_cons.1 h.pw).1 w hw
  refine hadj.n3 h1.symm hi ?_
  have hmu : u.mem w.a := ⟨.inr ⟨by grind, o1⟩, .inr ⟨h1, o2⟩⟩
  have hmu' : u'.mem w.a := ⟨.inr ⟨by grind, by grind⟩, .inl (by grind)⟩
  have := h.fn (.head _) hmu ((H w.a _).2 ⟨u', .head _, hmu', rfl⟩)
  rw [this, h2]
theorem hd_b (h : NF (u :: l)) (h' : NF (u' :: l')) (H : ∀ t v, Has (u :: l) t v ↔ Has (u' :: l') t v) (ha : u.a = u'.a) (hl : u.a < u.b) (hf : u.f = u'.f) : ¬ u.b < u'.b := fun hlt => by
  rcases ho : u.ob with _ | _
  · obtain ⟨w, hw, h1, h2⟩ := nxt h h' H (by grind) hlt ho
    exact ((List.pairwise_cons.1 h.pw).1 w hw).n1 h1.symm ho hl (by rw [hf, h2])
  · have hmu' : u'.mem u.b := ⟨.inl (by grind), .inl hlt⟩
    obtain ⟨w, hw, h1, h2⟩ := (H u.b (va u'.f u.b)).2 ⟨u', .head _, hmu', rfl⟩
    rcases List.mem_cons.1 hw with rfl | hw
    · unfold GU.mem at h1; grind
    · have h3 := tl_ge h hw
      have h4 : w.a = u.b ∧ w.oa = false := by unfold GU.mem at h1; grind
      refine ((List.pairwise_cons.1 h.pw).1 w hw).n2 h4.1.symm h4.2 ?_
      rw [h4.1, h2, hf]
theorem hd_ob (h : NF (u :: l)) (h' : NF (u' :: l')) (H : ∀ t v, Has (u :: l) t v ↔ Has (u' :: l') t v) (hb : u.b = u'.b) (hl : u.a < u.b) (hl' : u'.a < u'.b) (hf : u.f = u'.f) (ho : u.ob = false) : u'.ob = false := by
  rcases ho' : u'.ob with _ | _
  · rfl
  · have hmu : u.mem u.b := ⟨.inl hl, .inr ⟨rfl, ho⟩⟩
    obtain ⟨w, hw, h1, h2⟩ := (H u.b (va u.f u.b)).1 ⟨u, .head _, hmu, rfl⟩
    rcases List.mem_cons.1 hw with rfl | hw
    · unfold GU.mem at h1; grind
    · have h3 := tl_ge h' hw
      have h4 : w.a = u'.b ∧ w.oa = false := by unfold GU.mem at h1; grind
      refine absurd ?_ (((List.pairwise_cons.1 h'.pw).1 w hw).n2 h4.1.symm h4.2)
      rw [h4.1, ← hb, h2, hf]
theorem hd_eq (h : NF (u :: l)) (h' : NF (u' :: l')) (H : ∀ t v, Has (u :: l) t v ↔ Has (u' :: l') t v) : u = u' := by
  have H' : ∀ t v, Has (u' :: l') t v ↔ Has (u :: l) t v := fun t v => (H t v).symm
  have ha : u.a = u'.a := by
    have h1 := hd_a h h' fun t v => (H t v).1
    have h2 := hd_a h' h fun t v => (H' t v).1
    grind
  have ho : u.oa = u'.oa := by
    have h1 := hd_oa h h' (fun t v => (H t v).1) ha
    have h2 := hd_oa h' h (fun t v => (H' t v).1) ha.symm
    cases hq : u.oa <;> cases hq' : u'.oa <;> simp_all
  have hok := h.ok u (.head _)
  have hok' := h'.ok u' (.head _)
  rcases hok with hl | ⟨hi, i1, i2⟩
  · have hl' : u'.a < u'.b := by
      rcases hok' with h1 | ⟨h1, -, -⟩
      · exact h1
      · exact absurd hl (hd_long h' h H' ha.symm ho.symm h1)
    have hf : u.f = u'.f := by
      refine agree2 (a := u.a) (b := u.b) (c := u'.b) hl (by grind) fun t h1 h2 h3 => ?_
      have hm : u.mem t := ⟨.inl h1, .inl h2⟩
      have hm' : u'.mem t := ⟨.inl (by grind), .inl h3⟩
      exact h.fn (.head _) hm ((H t _).2 ⟨u', .head _, hm', rfl⟩)
    have hb : u.b = u'.b := by
      have h1 := hd_b h h' H ha hl hf
      have h2 := hd_b h' h H' ha.symm hl' hf.symm
      grind
    have hob : u.ob = u'.ob := by
      have h1 := hd_ob h h' H hb hl hl' hf
      have h2 := hd_ob h' h H' hb.symm hl' hl hf.symm
      cases hq : u.ob <;> cases hq' : u'.ob <;> simp_all
    cases u
    cases u'
    simp_all
  · have hi' : u'.a = u'.b ∧ u'.oa = false ∧ u'.ob = false := by
      rcases hok' with h1 | h1
      · exact absurd h1 (hd_long h h' H ha ho hi)
      · exact h1
    have hm : u.mem u.a := ⟨.inr ⟨rfl, i1⟩, .inr ⟨hi, i2⟩⟩
    have hm' : u'.mem u.a := ⟨.inr ⟨ha.symm, hi'.2.1⟩, .inr ⟨by grind, hi'.2.2⟩⟩
    have hv := h.fn (.head _) hm ((H u.a _).2 ⟨u', .head _, hm', rfl⟩)
    have hf : u.f = u'.f := by
      rw [h.rd u (.head _) hi, h'.rd u' (.head _) hi'.1, ← ha]
      exact Fv.red_eq _ _ _ hv
    have hb : u.b = u'.b := by grind
    cases u
    cases u'
    simp_all
end
theorem NF.pts {u : GU T F} {l : List (GU T F)} (h : NF (u :: l)) : ∃ t v, Has (u :: l) t v := by
  obtain ⟨t, ht⟩ := (h.ok u (.head _)).pt
  exact ⟨t, _, u, .head _, ht, rfl⟩
/-- The normal form is determined by what it says. -/
theorem NF.uniq : ∀ {l l' : List (GU T F)}, NF l → NF l' → (∀ t v, Has l t v ↔ Has l' t v) → l = l'
  | [], [], _, _, _ => rfl
  | [], u :: l, _, h', H => by
    obtain ⟨t, v, h⟩ := h'.pts
    exact absurd ((H t v).2 h) has_nil
  | u :: l, [], h, _, H => by
    obtain ⟨t, v, h⟩ := h.pts
    exact absurd ((H t v).1 h) has_nil
  | u :: l, u' :: l', h, h', H => by
    have e := hd_eq h h' H
    subst e
    have no : ∀ {l : List (GU T F)} (h : NF (u :: l)) {t : T} {v : V}, u.mem t → ¬ Has l t v := fun h t v hm ⟨w, hw, h1, _⟩ => ((List.pairwise_cons.1 h.pw).1 w hw).bf.dis hm h1
    rw [NF.uniq h.tail h'.tail fun t v => ?_]
    constructor
    · intro h1
      rcases has_cons.1 ((H t v).1 (has_cons.2 (.inr h1))) with h2 | h2
      · exact absurd h1 (no h h2.1)
      · exact h2
    · intro h1
      rcases has_cons.1 ((H t v).2 (has_cons.2 (.inr h1))) with h2 | h2
      · exact absurd h1 (no h' h2.1)
      · exact h2
def Held (xs : List (GU T F)) (t : T) : Prop := ∃ ys u, xs = ys ++ [u] ∧ u.b = t ∧ u.ob = false
def NoExt (xs : List (GU T F)) (x : GU T F) : Prop := ∀ ys u, xs = ys ++ [u] → u.b = x.a → u.a ≠ u.b → u.ob = false → u.f ≠ x.f
def NoClo (xs : List (GU T F)) (x : GU T F) : Prop := ∀ ys u, xs = ys ++ [u] → u.b = x.a → u.a ≠ u.b → va u.f x.a ≠ va x.f x.a
def PvI (pv : Option (GU T F)) (x : GU T F) : Prop := ∃ q, pv = some q ∧ q.a = q.b ∧ q.a = x.a
def NxI (nx : Option (GU T F)) (x : GU T F) : Prop := ∃ n, nx = some n ∧ n.a = x.a ∧ va n.f x.a = va x.f x.a
inductive Stp (pv nx : Option (GU T F)) : List (GU T F) → GU T F → List (GU T F) → Prop where
  | ext {ys u x} : x.a ≠ x.b → u.b = x.a → u.a ≠ u.b → u.ob = false → u.f = x.f → Stp pv nx (ys ++ [u]) x (ys ++ [⟨u.a, x.b, u.oa, true, u.f⟩])
  | appO {xs x} : x.a ≠ x.b → NoExt xs x → PvI pv x → ¬ Held xs x.a → Stp pv nx xs x (xs ++ [⟨x.a, x.b, false, x.ob, x.f⟩])
  | appN {xs x} : x.a ≠ x.b → NoExt xs x → ¬ (PvI pv x ∧ ¬ Held xs x.a) → Stp pv nx xs x (xs ++ [x])
  | clo {ys u x} : x.a = x.b → u.b = x.a → u.a ≠ u.b → va u.f x.a = va x.f x.a → Stp pv nx (ys ++ [u]) x (ys ++ [⟨u.a, u.b, u.oa, false, u.f⟩])
  | lft {xs x} : x.a = x.b → NoClo xs x → NxI nx x → Stp pv nx xs x xs
  | rdc {xs x} : x.a = x.b → NoClo xs x → ¬ NxI nx x → Stp pv nx xs x (xs ++ [⟨x.a, x.b, x.oa, x.ob, red x.f x.a⟩])
inductive Mk : Option (GU T F) → List (GU T F) → List (GU T F) → List (GU T F) → Prop where
  | nil {pv xs} : Mk pv xs [] xs
  | cons {pv xs x xs' rest out} : Stp pv rest.head? xs x xs' → Mk (some x) xs' rest out → Mk pv xs (x :: rest) out
/-- A single instant, or an interval without its ends. -/
def GU.atom (x : GU T F) : Prop := (x.a = x.b ∧ x.oa = false ∧ x.ob = false) ∨ (x.a < x.b ∧ x.oa = true ∧ x.ob = true)
theorem GU.atom.ok {x : GU T F} (h : x.atom) : x.ok := by
  unfold GU.atom GU.ok at *
  grind
/-- What is known between two parts. 'S': what all parts say. -/
structure Inv (pv : Option (GU T F)) (xs rem : List (GU T F)) (S : T → V → Prop) : Prop where
  nf : NF xs
  at_ : ∀ x ∈ rem, x.atom
  ch : rem.Pairwise GU.bfr
  sep : ∀ u ∈ xs, ∀ x ∈ rem, u.bfr x
  st : (∃ q x rest, pv = some q ∧ q.a = q.b ∧ q.oa = false ∧ q.ob = false ∧ rem = x :: rest ∧ x.a = q.a ∧ x.oa = true ∧ va x.f q.a = va q.f q.a ∧ (∀ u ∈ xs, u.bfr q) ∧ NoClo xs q ∧ ∀ t v, S t v ↔ Has xs t v ∨ (t = q.a ∧ va q.f t = v) ∨ Has rem t v)
    ∨ ((∀ q, pv = some q → q.a = q.b → Held xs q.a) ∧ (∀ ys u x rest, xs = ys ++ [u] → u.a = u.b → rem = x :: rest → x.a = u.b → va u.f x.a ≠ va x.f x.a) ∧ ∀ t v, S t v ↔ Has xs t v ∨ Has rem t v)
theorem NF.snoc {ys : List (GU T F)} {u x : GU T F} (h : NF (ys ++ [u])) (hx : x.ok) (hr : x.a = x.b → x.f = red x.f x.a) (ha : Adj u x) : NF (ys ++ [u] ++ [x]) := by
  refine ⟨fun w hw => ?_, fun w hw => ?_, ?_⟩
  · rcases List.mem_append.1 hw with h1 | h1
    · exact h.ok w h1
    · rw [List.mem_singleton] at h1; subst h1; exact hx
  · rcases List.mem_append.1 hw with h1 | h1
    · exact h.rd w h1
    · rw [List.mem_singleton] at h1; subst h1; exact hr
  · refine List.pairwise_append.2 ⟨h.pw, List.pairwise_singleton _ _, fun y hy w hw => ?_⟩
    rw [List.mem_singleton] at hw
    subst hw
    rcases List.mem_append.1 hy with h1 | h1
    · have hyu := (List.pairwise_append.1 h.pw).2.2 y h1 u (List.mem_singleton.2 rfl)
      have hu := h.ok u (by simp)
      have hyo := h.ok y (by simp [h1])
      have b1 := hyu.bf
      have b2 := ha.bf
      unfold GU.ok GU.bfr at *
      refine ⟨?_, fun h2 h3 => ?_, fun h2 h3 => ?_, fun h2 h3 => ?_⟩
      · unfold GU.bfr; grind
      · exfalso; grind
      · exfalso; grind
      · exfalso; grind
    · rw [List.mem_singleton] at h1; subst h1; exact ha
theorem NF.one {x : GU T F} (hx : x.ok) (hr : x.a = x.b → x.f = red x.f x.a) : NF [x] :=
  ⟨fun w hw => by rw [List.mem_singleton] at hw; subst hw; exact hx, fun w hw => by rw [List.mem_singleton] at hw; subst hw; exact hr, List.pairwise_singleton _ _⟩
theorem NF.last {ys : List (GU T F)} {u u' : GU T F} (h : NF (ys ++ [u])) (ha : u'.a = u.a) (ho : u'.oa = u.oa) (hf : u'.f = u.f) (hl : u'.a < u'.b) : NF (ys ++ [u']) := by
  have hp := List.pairwise_append.1 h.pw
  refine ⟨fun w hw => ?_, fun w hw => ?_, ?_⟩
  · rcases List.mem_append.1 hw with h1 | h1
    · exact h.ok w (List.mem_append_left _ h1)
    · rw [List.mem_singleton] at h1; subst h1; exact .inl hl
  · rcases List.mem_append.1 hw with h1 | h1
    · exact h.rd w (List.mem_append_left _ h1)
    · rw [List.mem_singleton] at h1; subst h1; intro h2; grind
  · refine List.pairwise_append.2 ⟨hp.1, List.pairwise_singleton _ _, fun y hy w hw => ?_⟩
    rw [List.mem_singleton] at hw
    subst hw
    have h1 := hp.2.2 y hy u (List.mem_singleton.2 rfl)
    have h2 := h1.bf
    refine ⟨?_, ?_, ?_, ?_⟩
    · unfold GU.bfr at *; rw [ha, ho]; exact h2
    · rw [ha, hf]; exact h1.n1
    · rw [ha, ho, hf]; exact h1.n2
    · rw [ha, hf]; exact h1.n3
theorem snoc_inj {α : Type} {ys zs : List α} {u w : α} (h : ys ++ [u] = zs ++ [w]) : ys = zs ∧ u = w := by
  have := List.append_inj' h rfl
  exact ⟨this.1, by simpa using this.2⟩
theorem nil_or_snoc {α : Type} (xs : List α) : xs = [] ∨ ∃ ys u, xs = ys ++ [u] := by
  rcases List.eq_nil_or_concat xs with h | ⟨ys, u, h⟩
  · exact .inl h
  · exact .inr ⟨ys, u, by simpa using h⟩
/-- A part is taken. -/
theorem NF.app {xs : List (GU T F)} {x : GU T F} (h : NF xs) (hx : x.ok) (hr : x.a = x.b → x.f = red x.f x.a) (ha : ∀ ys u, xs = ys ++ [u] → Adj u x) : NF (xs ++ [x]) := by
  rcases nil_or_snoc xs with rfl | ⟨ys, u, rfl⟩
  · exact NF.one hx hr
  · exact h.snoc hx hr (ha ys u rfl)
theorem has_last {ys : List (GU T F)} {u : GU T F} {t : T} {v : V} : Has (ys ++ [u]) t v ↔ Has ys t v ∨ (u.mem t ∧ va u.f t = v) := by rw [has_app, has_one]
theorem Inv.step {pv : Option (GU T F)} {xs xs' rest : List (GU T F)} {x : GU T F} {S : T → V → Prop} (h : Inv pv xs (x :: rest) S) (hs : Stp pv rest.head? xs x xs') : Inv (some x) xs' rest S := by
  have hx := h.at_ x (.head _)
  have hat : ∀ y ∈ rest, y.atom := fun y hy => h.at_ y (.tail _ hy)
  obtain ⟨hxr, hch⟩ := List.pairwise_cons.1 h.ch
  have sx : ∀ u ∈ xs, u.bfr x := fun u hu => h.sep u hu x (.head _)
  have sr : ∀ u ∈ xs, ∀ y ∈ rest, u.bfr y := fun u hu y hy => h.sep u hu y (.tail _ hy)
  have hst := h.st
  have hnf := h.nf
  have inst : x.a = x.b → x.oa = false ∧ x.ob = false := fun e => by unfold GU.atom at hx; grind
  have long : x.a ≠ x.b → x.a < x.b ∧ x.oa = true ∧ x.ob = true := fun e => by unfold GU.atom at hx; grind
  -- a part that is a single instant is not awaited
  have noP : x.a = x.b → (∀ ys u y r, xs = ys ++ [u] → u.a = u.b → x :: rest = y :: r → y.a = u.b → va u.f y.a ≠ va y.f y.a) ∧ ∀ t v, S t v ↔ Has xs t v ∨ Has (x :: rest) t v := fun e => by
    rcases hst with ⟨q, y, r, -, -, -, -, h1, -, h2, -⟩ | ⟨-, h2, h3⟩
    · injection h1 with h1 _
      subst h1
      have := (inst e).1
      rw [h2] at this
      cases this
    · exact ⟨h2, h3⟩
  cases hs with
  | @ext ys u _ hl hb hu ho hf =>
    obtain ⟨hl1, hl2, hl3⟩ := long hl
    have hub := sx u (by simp)
    have huo := hnf.ok u (by simp)
    have hua : u.a < u.b := by unfold GU.ok at huo; grind
    have hS : ∀ t v, S t v ↔ Has (ys ++ [u]) t v ∨ Has (x :: rest) t v := by
      rcases hst with ⟨q, y, r, -, -, q1, -, h1, h2, -, -, h3, -⟩ | ⟨-, -, h3⟩
      · injection h1 with h1 _
        subst h1
        have h4 := h3 u (by simp)
        unfold GU.bfr at h4
        grind
      · exact h3
    refine ⟨hnf.last (u := u) rfl rfl rfl (by show u.a < x.b; grind), hat, hch, fun w hw y hy => ?_, .inr ⟨fun q hq e => ?_, fun zs w y r hz e _ _ => ?_, fun t v => ?_⟩⟩
    · rcases List.mem_append.1 hw with h1 | h1
      · exact sr w (List.mem_append_left _ h1) y hy
      · rw [List.mem_singleton] at h1
        subst h1
        have := hxr y hy
        unfold GU.bfr at *
        grind
    · injection hq with hq
      subst hq
      exact absurd e hl
    · obtain ⟨-, rfl⟩ := snoc_inj hz
      simp only at e
      grind
    · rw [hS, has_last, has_last, has_cons]
      have hm : (⟨u.a, x.b, u.oa, true, u.f⟩ : GU T F).mem t ↔ u.mem t ∨ x.mem t := by
        unfold GU.mem
        simp only [Bool.true_eq_false, and_false, or_false]
        grind
      rw [hm]
      simp only [hf]
      grind
  | @appO _ _ hl hne hp hh =>
    obtain ⟨hl1, hl2, hl3⟩ := long hl
    rcases hst with ⟨q, y, r, hpv, q0, q1, q2, h1, h2, -, h4, h5, h6, hS⟩ | ⟨hq, -, -⟩
    · injection h1 with h1 h1'
      subst h1
      subst h1'
      refine ⟨hnf.app (.inl hl1) (fun e => absurd e hl) (fun ys u hxs => ?_), hat, hch, fun w hw y hy => ?_, .inr ⟨fun q hq e => ?_, fun zs w y r hz e _ _ => ?_, fun t v => ?_⟩⟩
      · subst hxs
        have hub := h5 u (by simp)
        have huo := hnf.ok u (by simp)
        have h7 := h6 ys u rfl
        unfold GU.bfr GU.ok at *
        refine ⟨?_, fun e1 e2 => ?_, fun e1 e2 => ?_, fun e1 e2 => ?_⟩
        · unfold GU.bfr; grind
        · exfalso; simp only at *; grind
        · simp only at *; rw [h2, h4]; refine h7 ?_ ?_ <;> grind
        · exfalso; simp only at *; grind
      · rcases List.mem_append.1 hw with h1 | h1
        · exact sr w h1 y hy
        · rw [List.mem_singleton] at h1
          subst h1
          have := hxr y hy
          unfold GU.bfr at *
          exact this
      · injection hq with hq
        subst hq
        exact absurd e hl
      · obtain ⟨-, rfl⟩ := snoc_inj hz
        exact absurd e hl
      · rw [hS, has_last, has_cons]
        have hm : (⟨x.a, x.b, false, x.ob, x.f⟩ : GU T F).mem t ↔ t = q.a ∨ x.mem t := by
          unfold GU.mem
          simp only [and_true]
          grind
        rw [hm]
        have hv : t = q.a → va q.f t = va x.f t := fun e => by rw [e, h4]
        simp only
        grind
    · obtain ⟨q, e1, e2, e3⟩ := hp
      exact absurd (e3 ▸ hq q e1 e2) hh
  | @appN _ _ hl hne hp =>
    obtain ⟨hl1, hl2, hl3⟩ := long hl
    rcases hst with ⟨q, y, r, hpv, q0, q1, q2, h1, h2, -, h4, h5, h6, hS⟩ | ⟨-, hI, hS⟩
    · injection h1 with h1 h1'
      subst h1
      refine absurd ⟨⟨q, hpv, q0, h2.symm⟩, ?_⟩ hp
      rintro ⟨ys, u, rfl, e1, e2⟩
      have := h5 u (by simp)
      unfold GU.bfr at this
      grind
    · refine ⟨hnf.app (.inl hl1) (fun e => absurd e hl) (fun ys u hxs => ?_), hat, hch, fun w hw y hy => ?_, .inr ⟨fun q hq e => ?_, fun zs w y r hz e _ _ => ?_, fun t v => ?_⟩⟩
      · subst hxs
        have hub := sx u (by simp)
        refine ⟨hub, fun e1 e2 e3 => hne ys u rfl e1 (by grind) e2, fun e1 e2 => by grind, fun e1 e2 => hI ys u x rest rfl e2 rfl e1.symm⟩
      · rcases List.mem_append.1 hw with h1 | h1
        · exact sr w h1 y hy
        · rw [List.mem_singleton] at h1
          subst h1
          exact hxr y hy
      · injection hq with hq
        subst hq
        exact absurd e hl
      · obtain ⟨-, rfl⟩ := snoc_inj hz
        exact absurd e hl
      · rw [hS, has_last, has_cons]
        grind
  | @clo ys u _ hi hb hu hv =>
    obtain ⟨i1, i2⟩ := inst hi
    obtain ⟨-, hS⟩ := noP hi
    have hub := sx u (by simp)
    have huo := hnf.ok u (by simp)
    have hua : u.a < u.b := by unfold GU.ok at huo; grind
    refine ⟨hnf.last (u := u) rfl rfl rfl hua, hat, hch, fun w hw y hy => ?_, .inr ⟨fun q hq e => ?_, fun zs w y r hz e _ _ => ?_, fun t v => ?_⟩⟩
    · rcases List.mem_append.1 hw with h1 | h1
      · exact sr w (List.mem_append_left _ h1) y hy
      · rw [List.mem_singleton] at h1
        subst h1
        have := hxr y hy
        unfold GU.bfr at *
        grind
    · injection hq with hq
      subst hq
      exact ⟨ys, _, rfl, hb, rfl⟩
    · obtain ⟨-, rfl⟩ := snoc_inj hz
      exact absurd e hu
    · rw [hS, has_last, has_last, has_cons]
      have hm : (⟨u.a, u.b, u.oa, false, u.f⟩ : GU T F).mem t ↔ u.mem t ∨ t = x.a := by
        unfold GU.mem GU.bfr at *
        simp only [and_true]
        grind
      have hmx : x.mem t ↔ t = x.a := by
        unfold GU.mem
        grind
      have hvt : t = x.a → va u.f t = va x.f t := fun e => by rw [e, hv]
      rw [hm, hmx]
      simp only
      grind
  | @lft _ _ hi hc hn =>
    obtain ⟨i1, i2⟩ := inst hi
    obtain ⟨-, hS⟩ := noP hi
    obtain ⟨n, e1, e2, e3⟩ := hn
    cases rest with
    | nil => cases e1
    | cons m r =>
      simp only [List.head?_cons, Option.some.injEq] at e1
      subst e1
      have hxm := hxr m (.head _)
      refine ⟨hnf, hat, hch, sr, .inl ⟨x, m, r, rfl, hi, i1, i2, rfl, e2, ?_, e3, sx, hc, fun t v => ?_⟩⟩
      · unfold GU.bfr at hxm; grind
      · rw [hS, has_cons (u := x)]
        have hmx : x.mem t ↔ t = x.a := by
          unfold GU.mem
          grind
        rw [hmx]
  | @rdc _ _ hi hc hn =>
    obtain ⟨i1, i2⟩ := inst hi
    obtain ⟨-, hS⟩ := noP hi
    refine ⟨hnf.app (.inr ⟨hi, i1, i2⟩) (fun _ => (Fv.red_eq _ _ _ (Fv.va_red _ _)).symm) (fun ys u hxs => ?_), hat, hch, fun w hw y hy => ?_, .inr ⟨fun q hq e => ?_, fun zs w y r hz e hr hy => ?_, fun t v => ?_⟩⟩
    · subst hxs
      have hub := sx u (by simp)
      have huo := hnf.ok u (by simp)
      have h7 := hc ys u rfl
      refine ⟨hub, fun e1 e2 => ?_, fun e1 e2 => ?_, fun e1 e2 => ?_⟩
      · unfold GU.bfr at hub; simp only at *; grind
      · simp only [Fv.va_red] at *
        refine h7 e1 ?_
        unfold GU.bfr GU.ok at *
        grind
      · unfold GU.bfr GU.ok at *; simp only at *; grind
    · rcases List.mem_append.1 hw with h1 | h1
      · exact sr w h1 y hy
      · rw [List.mem_singleton] at h1
        subst h1
        have := hxr y hy
        unfold GU.bfr at *
        exact this
    · injection hq with hq
      subst hq
      exact ⟨xs, _, rfl, hi.symm, i2⟩
    · obtain ⟨-, rfl⟩ := snoc_inj hz
      subst hr
      simp only at e hy ⊢
      rw [hy, ← hi, Fv.va_red]
      intro e4
      exact hn ⟨y, rfl, by rw [hy, hi], e4.symm⟩
    · rw [hS, has_last, has_cons]
      have hmx : x.mem t ↔ t = x.a := by
        unfold GU.mem
        grind
      have hmy : (⟨x.a, x.b, x.oa, x.ob, red x.f x.a⟩ : GU T F).mem t ↔ t = x.a := by
        unfold GU.mem
        simp only
        grind
      have hvt : t = x.a → va (red x.f x.a) t = va x.f t := fun e => by rw [e, Fv.va_red]
      rw [hmx, hmy]
      simp only
      grind
/-- What is made is a normal form, and says what the parts say. -/
theorem Mk.nf {pv : Option (GU T F)} {xs rem out : List (GU T F)} {S : T → V → Prop} (h : Mk pv xs rem out) : Inv pv xs rem S → NF out ∧ ∀ t v, Has out t v ↔ S t v := by
  induction h with
  | nil =>
    intro hi
    refine ⟨hi.nf, fun t v => ?_⟩
    rcases hi.st with ⟨q, x, r, -, -, -, -, h1, -⟩ | ⟨-, -, h3⟩
    · cases h1
    · rw [h3]
      exact ⟨.inl, fun h => h.resolve_right has_nil⟩
  | cons hs _ ih => exact fun hi => ih (hi.step hs)
theorem Inv.start {al : List (GU T F)} (ha : ∀ x ∈ al, x.atom) (hc : al.Pairwise GU.bfr) : Inv none [] al (Has al) :=
  ⟨NF.nil, ha, hc, (fun u hu => by cases hu), .inr ⟨(fun q h => by cases h), (fun ys u x r h => by simp at h), fun t v => ⟨.inr, fun h => h.resolve_left has_nil⟩⟩⟩
variable [DecidableEq T]
def GU.parts (u : GU T F) : List (GU T F) := (if u.oa = true then [] else [⟨u.a, u.a, false, false, u.f⟩]) ++ (if u.a = u.b then [] else ⟨u.a, u.b, true, true, u.f⟩ :: if u.ob = true then [] else [⟨u.b, u.b, false, false, u.f⟩])
theorem parts_mem {u x : GU T F} (h : x ∈ u.parts) : (x = ⟨u.a, u.a, false, false, u.f⟩ ∧ u.oa = false) ∨ (x = ⟨u.a, u.b, true, true, u.f⟩ ∧ u.a ≠ u.b) ∨ (x = ⟨u.b, u.b, false, false, u.f⟩ ∧ u.a ≠ u.b ∧ u.ob = false) := by
  unfold GU.parts at h
  rcases List.mem_append.1 h with h1 | h1
  · split at h1
    · cases h1
    · rename_i ho
      rw [List.mem_singleton] at h1
      exact .inl ⟨h1, by simpa using ho⟩
  · split at h1
    · cases h1
    · rename_i hi
      rcases List.mem_cons.1 h1 with h2 | h2
      · exact .inr (.inl ⟨h2, hi⟩)
      · split at h2
        · cases h2
        · rename_i ho
          rw [List.mem_singleton] at h2
          exact .inr (.inr ⟨h2, hi, by simpa using ho⟩)
theorem parts_atom {u x : GU T F} (hu : u.ok) (h : x ∈ u.parts) : x.atom := by
  unfold GU.atom GU.ok at *
  rcases parts_mem h with ⟨rfl, h1⟩ | ⟨rfl, h1⟩ | ⟨rfl, h1, h2⟩
  · exact .inl ⟨rfl, rfl, rfl⟩
  · exact .inr ⟨by simp only; grind, rfl, rfl⟩
  · exact .inl ⟨rfl, rfl, rfl⟩
theorem parts_bfr {u w x y : GU T F} (hu : u.ok) (hw : w.ok) (h : u.bfr w) (hx : x ∈ u.parts) (hy : y ∈ w.parts) : x.bfr y := by
  unfold GU.bfr GU.ok at *
  rcases parts_mem hx with ⟨rfl, h1⟩ | ⟨rfl, h1⟩ | ⟨rfl, h1, h2⟩ <;> rcases parts_mem hy with ⟨rfl, h3⟩ | ⟨rfl, h3⟩ | ⟨rfl, h3, h4⟩ <;> simp only <;> grind
theorem parts_pw {u : GU T F} (hu : u.ok) : u.parts.Pairwise GU.bfr := by
  unfold GU.parts
  refine List.pairwise_append.2 ⟨?_, ?_, fun x hx y hy => ?_⟩
  · split <;> simp
  · split
    · simp
    · refine List.pairwise_cons.2 ⟨fun y hy => ?_, ?_⟩
      · split at hy
        · cases hy
        · rw [List.mem_singleton] at hy
          subst hy
          exact .inr ⟨rfl, .inl rfl⟩
      · split <;> simp
  · split at hx
    · cases hx
    · rename_i ho
      rw [List.mem_singleton] at hx
      subst hx
      split at hy
      · cases hy
      · rename_i hi
        unfold GU.ok at hu
        rcases List.mem_cons.1 hy with h2 | h2
        · subst h2
          exact .inr ⟨rfl, .inr rfl⟩
        · split at h2
          · cases h2
          · rw [List.mem_singleton] at h2
            subst h2
            exact .inl (by simp only; grind)
theorem parts_has {u : GU T F} (hu : u.ok) {t : T} {v : V} : Has u.parts t v ↔ u.mem t ∧ va u.f t = v := by
  constructor
  · rintro ⟨x, hx, h1, h2⟩
    unfold GU.mem GU.ok at *
    rcases parts_mem hx with ⟨rfl, h3⟩ | ⟨rfl, h3⟩ | ⟨rfl, h3, h4⟩ <;> simp only at h1 h2 <;> refine ⟨?_, h2⟩ <;> grind
  · rintro ⟨h1, h2⟩
    unfold GU.parts
    rw [has_app]
    by_cases ha : u.a = t
    · have hoa : u.oa = false := by unfold GU.mem at h1; grind
      refine .inl ?_
      rw [hoa, if_neg (by decide), has_one]
      exact ⟨⟨.inr ⟨ha, rfl⟩, .inr ⟨ha.symm, rfl⟩⟩, h2⟩
    · refine .inr ?_
      have hne : u.a ≠ u.b := by unfold GU.mem GU.ok at *; grind
      rw [if_neg hne, has_cons]
      by_cases hb : t = u.b
      · have hob : u.ob = false := by unfold GU.mem at h1; grind
        refine .inr ?_
        rw [hob, if_neg (by decide), has_one]
        exact ⟨⟨.inr ⟨hb.symm, rfl⟩, .inr ⟨hb, rfl⟩⟩, h2⟩
      · refine .inl ⟨?_, h2⟩
        unfold GU.mem at *
        simp only
        grind
def partsL (us : List (GU T F)) : List (GU T F) := us.flatMap GU.parts
theorem partsL_cons (u : GU T F) (us : List (GU T F)) : partsL (u :: us) = u.parts ++ partsL us := by simp [partsL]
theorem partsL_at {us : List (GU T F)} (h : ∀ u ∈ us, u.ok) : ∀ x ∈ partsL us, x.atom := fun x hx => by
  obtain ⟨u, hu, h1⟩ := List.mem_flatMap.1 hx
  exact parts_atom (h u hu) h1
theorem partsL_pw : ∀ {us : List (GU T F)}, (∀ u ∈ us, u.ok) → us.Pairwise GU.bfr → (partsL us).Pairwise GU.bfr
  | [], _, _ => by simp [partsL]
  | u :: us, h, hp => by
    obtain ⟨h1, h2⟩ := List.pairwise_cons.1 hp
    rw [partsL_cons]
    refine List.pairwise_append.2 ⟨parts_pw (h u (.head _)), partsL_pw (fun w hw => h w (.tail _ hw)) h2, fun x hx y hy => ?_⟩
    obtain ⟨w, hw, hy⟩ := List.mem_flatMap.1 hy
    exact parts_bfr (h u (.head _)) (h w (.tail _ hw)) (h1 w hw) hx hy
theorem partsL_has : ∀ {us : List (GU T F)}, (∀ u ∈ us, u.ok) → ∀ {t : T} {v : V}, Has (partsL us) t v ↔ Has us t v
  | [], _, t, v => by simp [partsL]
  | u :: us, h, t, v => by rw [partsL_cons, has_app, parts_has (h u (.head _)), has_cons, partsL_has fun w hw => h w (.tail _ hw)]
/-- Units that lie one behind another. -/
theorem pw_of_next : ∀ {l : List (GU T F)}, (∀ u ∈ l, u.ok) → (∀ i (h : i + 1 < l.length), (l[i]).bfr l[i + 1]) → l.Pairwise GU.bfr
  | [], _, _ => .nil
  | [u], _, _ => List.pairwise_singleton _ _
  | u :: w :: l, hok, h => by
    have h1 : u.bfr w := h 0 (by simp)
    have h2 : (w :: l).Pairwise GU.bfr := pw_of_next (fun x hx => hok x (.tail _ hx)) fun i hi => h (i + 1) (by simpa using hi)
    refine List.pairwise_cons.2 ⟨fun y hy => ?_, h2⟩
    rcases List.mem_cons.1 hy with rfl | hy
    · exact h1
    · exact h1.tr (hok w (.tail _ (.head _))) ((List.pairwise_cons.1 h2).1 y hy)
def Dis (u w : GU T F) : Prop := ∀ t, ¬ (u.mem t ∧ w.mem t)
theorem Dis.symm {u w : GU T F} (h : Dis u w) : Dis w u := fun t ⟨h1, h2⟩ => h t ⟨h2, h1⟩
theorem GU.bfr.Dis {u w : GU T F} (h : u.bfr w) : Go.Vt.Dis u w := fun _ ⟨h1, h2⟩ => h.dis h1 h2
theorem bfr_of_dis {u w : GU T F} (hu : u.ok) (hw : w.ok) (hle : u.a < w.a ∨ (u.a = w.a ∧ (u.oa = true → w.oa = true))) (h : Dis u w) : u.bfr w := by
  rcases Classical.em (u.bfr w) with h0 | h0
  · exact h0
  · exfalso
    rcases Classical.em (w.a < u.b) with h1 | h1
    · rcases hw with h2 | ⟨h2, h3, h4⟩
      · obtain ⟨t, h3, h4, h5⟩ := dens2 h1 h2
        refine h t ⟨⟨.inl (by grind), .inl h4⟩, ⟨.inl h3, .inl h5⟩⟩
      · refine h w.a ⟨⟨?_, .inl h1⟩, ⟨.inr ⟨rfl, h3⟩, .inr ⟨h2, h4⟩⟩⟩
        rcases hle with h5 | ⟨h5, h6⟩
        · exact .inl h5
        · refine .inr ⟨h5, ?_⟩
          rcases ho : u.oa with _ | _
          · rfl
          · rw [h6 ho] at h3; cases h3
    · unfold GU.bfr at h0
      have h2 : u.b = w.a := by unfold GU.ok at *; grind
      have h3 : u.ob = false ∧ w.oa = false := by grind
      refine h w.a ⟨⟨?_, .inr ⟨h2.symm, h3.1⟩⟩, ⟨.inr ⟨rfl, h3.2⟩, ?_⟩⟩
      · unfold GU.ok at hu; grind
      · unfold GU.ok at hw; grind
theorem dis_perm {l m : List (GU T F)} (h : l.Perm m) : l.Pairwise Dis ↔ m.Pairwise Dis := h.pairwise_iff fun h => h.symm
theorem has_perm {l m : List (GU T F)} (h : l.Perm m) {t : T} {v : V} : Has l t v ↔ Has m t v := by
  unfold Has
  exact ⟨fun ⟨u, hu, k⟩ => ⟨u, h.mem_iff.1 hu, k⟩, fun ⟨u, hu, k⟩ => ⟨u, h.mem_iff.2 hu, k⟩⟩
end
end Go.Vt
/- The normal form of units of lines: what it says, and that it is determined by that. Conditions: those that each statement names. -/
set_option linter.unusedSimpArgs false
set_option linter.unusedVariables false
set_option maxHeartbeats 2000000
set_option maxRecDepth 100000
namespace Go.Vt
open Go.RowKit Go.Proofs
open Fv (va red)
section
variable {α : Type} [Inhabited α]
/-- Two neighbours change places. -/
def swpG (xs : List α) (j : Nat) : List α := (xs.set (j + 1) (gi xs (j : Int))).set j (gi xs ((j + 1 : Nat) : Int))
def dwnG (c : α → α → Int) (xs : List α) : Nat → List α
  | 0 => xs
  | j + 1 => if c (gi xs ((j + 1 : Nat) : Int)) (gi xs (j : Int)) < 0 then dwnG c (swpG xs j) j else xs
def srtG (c : α → α → Int) (xs : List α) : Nat → List α
  | 0 => xs
  | i + 1 => dwnG c (srtG c xs i) (i + 1)
theorem swpG_len (xs : List α) (j : Nat) : (swpG xs j).length = xs.length := by simp [swpG]
theorem swpG_gi {xs : List α} {j p : Nat} (h : j + 1 < xs.length) (hp : p < xs.length) : gi (swpG xs j) (p : Int) = if p = j then gi xs ((j + 1 : Nat) : Int) else if p = j + 1 then gi xs (j : Int) else gi xs (p : Int) := by
  rw [gi_nat (by rw [swpG_len]; exact hp)]
  unfold swpG
  rw [List.getElem_set, List.getElem_set]
  by_cases h1 : p = j
  · subst h1; simp
  · rw [if_neg (fun h => h1 h.symm), if_neg h1]
    by_cases h2 : p = j + 1
    · subst h2; simp
    · rw [if_neg (fun h => h2 h.symm), if_neg h2, gi_nat hp]
theorem swpG_perm {xs : List α} {j : Nat} (h : j + 1 < xs.length) : (swpG xs j).Perm xs := by
  have e : xs = xs.take j ++ xs[j] :: xs[j + 1] :: xs.drop (j + 2) := by
    rw [← List.drop_eq_getElem_cons h, ← List.drop_eq_getElem_cons (by omega), List.take_append_drop]
  have e2 : swpG xs j = xs.take j ++ xs[j + 1] :: xs[j] :: xs.drop (j + 2) := by
    apply List.ext_getElem
    · rw [swpG_len]
      simp only [List.length_append, List.length_take, List.length_cons, List.length_drop]
      omega
    · intro p h1 h2
      have hp : p < xs.length := by rw [swpG_len] at h1; exact h1
      have h3 := swpG_gi h hp
      rw [gi_nat h1, gi_nat h, gi_nat (show j < xs.length by omega), gi_nat hp] at h3
      rw [h3, List.getElem_append]
      simp only [List.length_take, Nat.min_eq_left (show j ≤ xs.length by omega)]
      by_cases h4 : p < j
      · rw [dif_pos h4, if_neg (by omega), if_neg (by omega)]
        simp
      · rw [dif_neg h4]
        by_cases h5 : p = j
        · subst h5; simp
        · rw [if_neg h5]
          by_cases h6 : p = j + 1
          · subst h6; simp
          · rw [if_neg h6]
            obtain ⟨q, rfl⟩ : ∃ q, p = j + 2 + q := ⟨p - (j + 2), by omega⟩
            simp only [show j + 2 + q - j = q + 1 + 1 by omega, List.getElem_cons_succ, List.getElem_drop]
  have h7 : (xs.take j ++ xs[j + 1] :: xs[j] :: xs.drop (j + 2)).Perm (xs.take j ++ xs[j] :: xs[j + 1] :: xs.drop (j + 2)) := (List.Perm.swap _ _ _).append_left _
  rw [e2]
  exact h7.trans (by rw [← e])
theorem dwnG_perm (c : α → α → Int) : ∀ (j : Nat) (xs : List α), j < xs.length → (dwnG c xs j).Perm xs
  | 0, _, _ => .refl _
  | j + 1, xs, h => by
    rw [dwnG]
    split
    · exact (dwnG_perm c j _ (by rw [swpG_len]; omega)).trans (swpG_perm h)
    · exact .refl _
theorem srtG_perm (c : α → α → Int) (xs : List α) : ∀ i, i < xs.length → (srtG c xs i).Perm xs
  | 0, _ => .refl _
  | i + 1, h => by
    have h1 := srtG_perm c xs i (by omega)
    rw [srtG]
    exact (dwnG_perm c _ _ (by rw [h1.length_eq]; exact h)).trans h1
section
variable {c : α → α → Int} {le : α → α → Prop} (h1 : ∀ x y, c x y < 0 → le x y) (h2 : ∀ x y, ¬ c x y < 0 → le y x) (h3 : ∀ x y z, le x y → le y z → le x z)
include h1 h2 h3
theorem dwnG_ord : ∀ (j n : Nat) (xs : List α), j < n → n ≤ xs.length → (∀ p q : Nat, p < q → q < n → q ≠ j → le (gi xs (p : Int)) (gi xs (q : Int))) → ∀ p q : Nat, p < q → q < n → le (gi (dwnG c xs j) (p : Int)) (gi (dwnG c xs j) (q : Int))
  | 0, n, xs, _, _, H, p, q, hpq, hq => H p q hpq hq (by omega)
  | j + 1, n, xs, hj, hn, H, p, q, hpq, hq => by
    rw [dwnG]
    split
    · rename_i hc
      refine dwnG_ord j n (swpG xs j) (by omega) (by rw [swpG_len]; exact hn) (fun p q hpq hq hqj => ?_) p q hpq hq
      rw [swpG_gi (by omega) (by omega), swpG_gi (by omega) (by omega), if_neg hqj]
      by_cases e1 : q = j + 1
      · rw [if_pos e1]
        by_cases e2 : p = j
        · rw [if_pos e2]; exact h1 _ _ hc
        · rw [if_neg e2, if_neg (by omega)]; exact H p j (by omega) (by omega) (by omega)
      · rw [if_neg e1]
        by_cases e2 : p = j
        · rw [if_pos e2]; exact H (j + 1) q (by omega) hq e1
        · rw [if_neg e2]
          by_cases e3 : p = j + 1
          · rw [if_pos e3]; exact H j q (by omega) hq e1
          · rw [if_neg e3]; exact H p q hpq hq e1
    · rename_i hc
      have h4 := h2 _ _ hc
      by_cases e1 : q = j + 1
      · subst e1
        by_cases e2 : p = j
        · subst e2; exact h4
        · exact h3 _ _ _ (H p j (by omega) (by omega) (by omega)) h4
      · exact H p q hpq hq e1
theorem srtG_ord (xs : List α) : ∀ i, i < xs.length → ∀ p q : Nat, p < q → q < i + 1 → le (gi (srtG c xs i) (p : Int)) (gi (srtG c xs i) (q : Int))
  | 0, _, p, q, _, _ => by omega
  | i + 1, h, p, q, hpq, hq => by
    have hl := (srtG_perm c xs i (by omega)).length_eq
    rw [srtG]
    exact dwnG_ord h1 h2 h3 (i + 1) (i + 2) _ (by omega) (by omega) (fun p q hpq hq hne => srtG_ord xs i (by omega) p q hpq (by omega)) p q hpq hq
end
end
theorem mul_eq0 {a b : Rat} (h : a * b = 0) (ha : a ≠ 0) : b = 0 := by
  rcases Rat.mul_eq_zero.1 h with h1 | h1
  · exact absurd h1 ha
  · exact h1
theorem lin_eq {x0 x1 y0 y1 c d : Rat} (hcd : c < d) (h1 : x0 + c * (x1 + c * 0) = y0 + c * (y1 + c * 0)) (h2 : x0 + d * (x1 + d * 0) = y0 + d * (y1 + d * 0)) : x0 = y0 ∧ x1 = y1 := by
  have h3 : (d - c) * (x1 - y1) = 0 := by grind
  have h4 := mul_eq0 h3 (by grind)
  have h5 : x1 = y1 := by grind
  exact ⟨by grind, h5⟩
instance : Dns Rat := ⟨fun a b h => ⟨(a + b) / 2, by grind, by grind⟩⟩
instance : Fv R_api_Line Rat R_api_Point where
  va := pos
  red := lred
  va_red f t := by
    unfold lred pos
    simp only
    congr 1 <;> grind
  red_eq f g t h := by
    unfold pos at h
    injection h with h1 h2
    unfold lred
    rw [h1, h2]
  agree f g a b h hv := by
    obtain ⟨c, h1, h2⟩ := Dns.out a b h
    obtain ⟨d, h3, h4⟩ := Dns.out c b h2
    have e1 := hv c h1 h2
    have e2 := hv d (by grind) h4
    unfold pos at e1 e2
    injection e1 with p1 p2
    injection e2 with p3 p4
    have q1 := lin_eq h3 p1 p3
    have q2 := lin_eq h3 p2 p4
    cases f
    cases g
    simp_all
theorem va_pos (f : R_api_Line) (t : Rat) : va f t = pos f t := rfl
theorem smL_iff {f g : R_api_Line} {t : Rat} : smL f g t = true ↔ va f t = va g t := by
  unfold smL
  rw [Bool.and_eq_true, qsame_iff, qsame_iff, va_pos, va_pos]
  unfold lnX lnY pos
  simp only [R_api_Point.mk.injEq]
  constructor
  · rintro ⟨h1, h2⟩; constructor <;> grind
  · rintro ⟨h1, h2⟩; constructor <;> grind
/-- A unit, plain. -/
def absU (u : UL) : GU Rat R_api_Line := ⟨u.In.From.P, u.In.To.P, u.In.OpenFrom, u.In.OpenTo, u.F⟩
structure RtOk (x : R_api_Real) : Prop where
  r : x.R = 0
  n : x.Neg = false
theorem rt_eq {x y : R_api_Real} (hx : RtOk x) (hy : RtOk y) : x = y ↔ x.P = y.P := by
  obtain ⟨p, r, n⟩ := x
  obtain ⟨p', r', n'⟩ := y
  obtain ⟨h1, h2⟩ := hx
  obtain ⟨h3, h4⟩ := hy
  simp only at h1 h2 h3 h4
  subst h1
  subst h2
  subst h3
  subst h4
  simp
theorem IvOk.rf {K : Nat} {I : R_api_Interval} (h : IvOk K I) : RtOk I.From := ⟨h.r1, h.n1⟩
theorem IvOk.rt {K : Nat} {I : R_api_Interval} (h : IvOk K I) : RtOk I.To := ⟨h.r2, h.n2⟩
theorem absU_inj {K K' : Nat} {u w : UL} (hu : IvOk K u.In) (hw : IvOk K' w.In) (h : absU u = absU w) : u = w := by
  obtain ⟨⟨f, t, o, c⟩, F⟩ := u
  obtain ⟨⟨f', t', o', c'⟩, F'⟩ := w
  unfold absU at h
  injection h with h1 h2 h3 h4 h5
  simp only at h1 h2 h3 h4 h5
  have e1 := (rt_eq hu.rf hw.rf).2 h1
  have e2 := (rt_eq hu.rt hw.rt).2 h2
  simp only at e1 e2
  subst e1
  subst e2
  subst h3
  subst h4
  subst h5
  rfl
theorem absL_inj {K K' : Nat} : ∀ {l m : List UL}, (∀ u ∈ l, IvOk K u.In) → (∀ u ∈ m, IvOk K' u.In) → l.map absU = m.map absU → l = m
  | [], [], _, _, _ => rfl
  | [], _ :: _, _, _, h => by simp at h
  | _ :: _, [], _, _, h => by simp at h
  | u :: l, w :: m, hl, hm, h => by
    simp only [List.map_cons, List.cons.injEq] at h
    rw [absU_inj (hl u (.head _)) (hm w (.head _)) h.1, absL_inj (fun x hx => hl x (.tail _ hx)) (fun x hx => hm x (.tail _ hx)) h.2]
theorem aprt_iff {u w : UL} : aprt u.In w.In = true ↔ (absU u).bfr (absU w) := by
  unfold aprt GU.bfr absU
  simp
theorem swp_G (xs : List UL) (j : Nat) : swp xs j = swpG xs j := rfl
theorem dwn_G : ∀ (j : Nat) (xs : List UL), dwn xs j = dwnG cmpU xs j
  | 0, _ => rfl
  | j + 1, xs => by rw [dwn, dwnG, dwn_G j, swp_G]
theorem srt_G (xs : List UL) : ∀ i, srt xs i = srtG cmpU xs i
  | 0 => rfl
  | i + 1 => by rw [srt, srtG, dwn_G, srt_G xs i]
theorem sor_perm (us : List UL) : (sor us).Perm us := by
  rcases us with _ | ⟨u, us⟩
  · exact .refl _
  · unfold sor
    rw [srt_G]
    exact srtG_perm _ _ _ (by simp)
def leU (u w : UL) : Prop := u.In.From.P < w.In.From.P ∨ (u.In.From.P = w.In.From.P ∧ opn u.In ≤ opn w.In)
theorem cmpInt_lt {a b : Int} : Lib.compareInt a b < 0 ↔ a < b := by
  unfold Lib.compareInt
  split
  · omega
  · split <;> omega
theorem cmpInt_0 {a b : Int} : Lib.compareInt a b = 0 ↔ a = b := by
  unfold Lib.compareInt
  split
  · omega
  · split <;> omega
theorem cmpU_lt {u w : UL} (h : cmpU u w < 0) : leU u w := by
  unfold cmpU orL at h
  split at h
  · rename_i h1
    have h1 := cq_eq.1 h1
    refine .inr ⟨h1, ?_⟩
    unfold orL at h
    split at h
    · rename_i h2
      have := cmpInt_0.1 h2
      omega
    · have := cmpInt_lt.1 h
      omega
  · exact .inl (cq_lt.1 h)
theorem cmpU_ge {u w : UL} (h : ¬ cmpU u w < 0) : leU w u := by
  unfold cmpU orL at h
  split at h
  · rename_i h1
    have h1 := cq_eq.1 h1
    refine .inr ⟨h1.symm, ?_⟩
    unfold orL at h
    split at h
    · rename_i h2
      have := cmpInt_0.1 h2
      omega
    · have : ¬ opn u.In < opn w.In := fun k => h (cmpInt_lt.2 k)
      omega
  · rename_i h1
    refine .inl ?_
    have h2 : ¬ u.In.From.P < w.In.From.P := fun k => h (cq_lt.2 k)
    have h3 : ¬ u.In.From.P = w.In.From.P := fun k => h1 (cq_eq.2 k)
    grind
theorem leU_tr {u v w : UL} (h : leU u v) (k : leU v w) : leU u w := by
  unfold leU at *
  rcases h with h | ⟨h1, h2⟩ <;> rcases k with k | ⟨k1, k2⟩
  · exact .inl (by grind)
  · exact .inl (by grind)
  · exact .inl (by grind)
  · exact .inr ⟨by grind, by omega⟩
theorem sor_ord (us : List UL) (p q : Nat) (hpq : p < q) (hq : q < us.length) : leU (gi (sor us) (p : Int)) (gi (sor us) (q : Int)) := by
  unfold sor
  rw [srt_G]
  exact srtG_ord (c := cmpU) (le := leU) (fun _ _ => cmpU_lt) (fun _ _ => cmpU_ge) (fun _ _ _ => leU_tr) us (us.length - 1) (by omega) p q hpq (by omega)
theorem parts_abs {u : UL} {K : Nat} (h : IvOk K u.In) : (atU u).map absU = (absU u).parts := by
  have e : (u.In.From = u.In.To) ↔ (absU u).a = (absU u).b := rt_eq h.rf h.rt
  unfold atU GU.parts
  rw [List.map_append]
  congr 1
  · show List.map absU (if u.In.OpenFrom = true then [] else _) = if u.In.OpenFrom = true then [] else _
    split <;> rfl
  · by_cases hi : u.In.From = u.In.To
    · rw [if_pos hi, if_pos (e.1 hi)]
      rfl
    · rw [if_neg hi, if_neg (fun k => hi (e.2 k))]
      show List.map absU (_ :: if u.In.OpenTo = true then [] else _) = _ :: if u.In.OpenTo = true then [] else _
      split <;> rfl
theorem atm_abs {us : List UL} {K : Nat} (h : ∀ u ∈ us, IvOk K u.In) : ∀ m, m ≤ us.length → (atm us m).map absU = partsL ((us.take m).map absU)
  | 0, _ => rfl
  | m + 1, hm => by
    have hg := gi_nat (xs := us) (i := m) (by omega)
    rw [atm, List.map_append, atm_abs h m (by omega), parts_abs (h _ (gi_mem (by omega))), List.take_succ_eq_append_getElem (by omega), List.map_append, partsL, partsL, List.flatMap_append, hg]
    simp
theorem lstU_snoc (ys : List UL) (u : UL) : lstU (ys ++ [u]) = u := by
  unfold lstU
  rw [gi_eq (by simp only [List.length_append, List.length_singleton]; omega)]
  simp only [List.length_append, List.length_singleton]
  rw [List.getElem_append_right (by omega)]
  simp
theorem turn_snoc (ys : List UL) (u w : UL) : turn (ys ++ [u]) w = ys ++ [w] := by
  unfold turn
  simp
theorem isI_iff {u : UL} {K : Nat} (h : IvOk K u.In) : isI u = true ↔ (absU u).a = (absU u).b := by
  unfold isI
  rw [decide_eq_true_iff]
  exact rt_eq h.rf h.rt
theorem map_snoc_inv {ys' : List UL} {u' : UL} {ys : List (GU Rat R_api_Line)} {u : GU Rat R_api_Line} (h : (ys' ++ [u']).map absU = ys ++ [u]) : u = absU u' := by
  rw [List.map_append] at h
  exact (snoc_inj h).2.symm
theorem bef_snoc (zs : List UL) (w : UL) (t : R_api_Real) : bef (zs ++ [w]) t = (decide (w.In.To = t) && !decide (w.In.From = w.In.To)) := by
  unfold bef
  rw [lstU_snoc, decide_eq_true (by simp : 0 < (zs ++ [w]).length), Bool.true_and]
theorem hld_snoc (zs : List UL) (w : UL) (t : R_api_Real) : hld (zs ++ [w]) t = (decide (w.In.To = t) && !w.In.OpenTo) := by
  unfold hld
  rw [lstU_snoc, decide_eq_true (by simp : 0 < (zs ++ [w]).length), Bool.true_and]
def pvO (al : List UL) (i : Nat) : Option (GU Rat R_api_Line) := if i = 0 then none else some (absU (gi al ((i : Int) - 1)))
def nxO (al : List UL) (i : Nat) : Option (GU Rat R_api_Line) := if i + 1 < al.length then some (absU (gi al ((i : Int) + 1))) else none
theorem held_iff {xs : List UL} (hxs : ∀ v ∈ xs, UOk v) {t : R_api_Real} (ht : RtOk t) : hld xs t = true ↔ Held (xs.map absU) t.P := by
  rcases nil_or_snoc xs with rfl | ⟨zs, w, rfl⟩
  · unfold hld Held
    simp
  · rw [hld_snoc]
    have hw := hxs w (by simp)
    simp only [Bool.and_eq_true, decide_eq_true_eq, Bool.not_eq_true']
    rw [rt_eq hw.i.rt ht]
    constructor
    · rintro ⟨h1, h2⟩
      exact ⟨zs.map absU, absU w, by simp, h1, h2⟩
    · rintro ⟨ys, u, h1, h2, h3⟩
      have := map_snoc_inv h1
      subst this
      exact ⟨h2, h3⟩
theorem stp_nrm {al xs : List UL} {i : Nat} {x : UL} (hi : i < al.length) (hal : ∀ u ∈ al, UIn u) (hx : UIn x) (hxs : ∀ v ∈ xs, UOk v) : Stp (pvO al i) (nxO al i) (xs.map absU) (absU x) ((nstp al i xs x).map absU) := by
  have hprev : ∀ q, pvO al i = some q → 0 < i ∧ q = absU (gi al ((i : Int) - 1)) ∧ UIn (gi al ((i : Int) - 1)) := fun q hq => by
    unfold pvO at hq
    split at hq
    · cases hq
    · injection hq with hq
      exact ⟨by omega, hq.symm, hal _ (gi_mem (by omega))⟩
  have hI := isI_iff hx.i
  unfold nstp
  by_cases hi0 : isI x = true
  · have hie := hI.1 hi0
    rw [if_neg (by rw [hi0]; decide)]
    have noClo : cC xs x = false → NoClo (xs.map absU) (absU x) := fun hC ys u h e1 e2 e3 => by
      rcases nil_or_snoc xs with rfl | ⟨zs, w, rfl⟩
      · simp at h
      · have := map_snoc_inv h
        subst this
        have hw := hxs w (by simp)
        have h2 : cC (zs ++ [w]) x = true := by
          unfold cC
          rw [bef_snoc, lstU_snoc, (smL_iff.2 e3 : smL w.F x.F x.In.From.P = true), decide_eq_true ((rt_eq hw.i.rt hx.i.rf).2 e1), decide_eq_false (fun k => e2 ((rt_eq hw.i.rf hw.i.rt).1 k))]
          rfl
        rw [hC] at h2
        cases h2
    by_cases hC : cC xs x = true
    · rw [if_pos hC]
      rcases nil_or_snoc xs with rfl | ⟨zs, w, rfl⟩
      · cases hC
      · have hw := hxs w (by simp)
        unfold cC at hC
        rw [bef_snoc, lstU_snoc] at hC
        simp only [Bool.and_eq_true, decide_eq_true_eq, Bool.not_eq_true', decide_eq_false_iff_not] at hC
        rw [turn_snoc, lstU_snoc, List.map_append, List.map_append]
        exact .clo hie ((rt_eq hw.i.rt hx.i.rf).1 hC.1.1) (fun k => hC.1.2 ((rt_eq hw.i.rf hw.i.rt).2 k)) (smL_iff.1 hC.2)
    · rw [if_neg hC]
      have hno := noClo (by simpa using hC)
      have hnx : cD al i x = true ↔ NxI (nxO al i) (absU x) := by
        unfold cD NxI nxO
        by_cases h1 : i + 1 < al.length
        · rw [decide_eq_true h1, if_pos h1, Bool.true_and]
          have hn := hal _ (gi_mem (i := (i : Int) + 1) (xs := al) (by omega))
          simp only [Bool.and_eq_true, decide_eq_true_eq, Option.some.injEq]
          rw [rt_eq hn.i.rf hx.i.rf, smL_iff]
          constructor
          · rintro ⟨h2, h3⟩
            exact ⟨_, rfl, h2, h3⟩
          · rintro ⟨n, rfl, h2, h3⟩
            exact ⟨h2, h3⟩
        · rw [decide_eq_false h1, if_neg h1]
          simp
      by_cases hD : cD al i x = true
      · rw [if_pos hD]
        exact .lft hie hno (hnx.1 hD)
      · rw [if_neg hD, List.map_append]
        exact .rdc hie hno (fun k => hD (hnx.2 k))
  · have hie : (absU x).a ≠ (absU x).b := fun k => hi0 (hI.2 k)
    rw [if_pos (by simpa using hi0)]
    by_cases hA : cA xs x = true
    · rw [if_pos hA]
      rcases nil_or_snoc xs with rfl | ⟨zs, w, rfl⟩
      · cases hA
      · have hw := hxs w (by simp)
        unfold cA at hA
        rw [bef_snoc, lstU_snoc] at hA
        simp only [Bool.and_eq_true, decide_eq_true_eq, Bool.not_eq_true', decide_eq_false_iff_not] at hA
        rw [turn_snoc, lstU_snoc, List.map_append, List.map_append]
        exact .ext hie ((rt_eq hw.i.rt hx.i.rf).1 hA.1.1) (fun k => hA.1.2 ((rt_eq hw.i.rf hw.i.rt).2 k)) hA.2.1 hA.2.2
    · rw [if_neg hA]
      have hno : NoExt (xs.map absU) (absU x) := fun ys u h e1 e2 e3 e4 => by
        rcases nil_or_snoc xs with rfl | ⟨zs, w, rfl⟩
        · simp at h
        · have := map_snoc_inv h
          subst this
          have hw := hxs w (by simp)
          refine hA ?_
          unfold cA
          rw [bef_snoc, lstU_snoc, decide_eq_true ((rt_eq hw.i.rt hx.i.rf).2 e1), decide_eq_false (fun k => e2 ((rt_eq hw.i.rf hw.i.rt).1 k)), show w.In.OpenTo = false from e3, decide_eq_true (show w.F = x.F from e4)]
          rfl
      have hpv : cB al i xs x = true ↔ PvI (pvO al i) (absU x) ∧ ¬ Held (xs.map absU) (absU x).a := by
        have hh := held_iff hxs hx.i.rf
        unfold cB
        by_cases h1 : 0 < i
        · rw [decide_eq_true h1, Bool.true_and]
          have hn := hal _ (gi_mem (i := (i : Int) - 1) (xs := al) (by omega))
          simp only [Bool.and_eq_true, decide_eq_true_eq, Bool.not_eq_true']
          rw [isI_iff hn.i, rt_eq hn.i.rf hx.i.rf]
          unfold PvI pvO
          rw [if_neg (by omega)]
          constructor
          · rintro ⟨h2, h3, h4⟩
            refine ⟨⟨_, rfl, h2, h3⟩, fun k => ?_⟩
            rw [hh.2 k] at h4
            cases h4
          · rintro ⟨⟨q, h2, h3, h4⟩, h5⟩
            injection h2 with h2
            subst h2
            refine ⟨h3, h4, ?_⟩
            rcases h6 : hld xs x.In.From with _ | _
            · rfl
            · exact absurd (hh.1 h6) h5
        · rw [decide_eq_false h1, Bool.false_and]
          unfold PvI pvO
          rw [if_pos (by omega)]
          simp
      by_cases hB : cB al i xs x = true
      · rw [if_pos hB, List.map_append]
        have := hpv.1 hB
        exact .appO hie hno this.1 this.2
      · rw [if_neg hB, List.map_append]
        exact .appN hie hno (fun k => hB (hpv.2 k))
theorem mk_nrm {al : List UL} (hal : ∀ u ∈ al, UIn u) : ∀ d i, i + d = al.length → Mk (pvO al i) ((nrm al i).map absU) ((al.drop i).map absU) ((nrm al al.length).map absU)
  | 0, i, h => by
    rw [Nat.add_zero] at h
    subst h
    rw [List.drop_length]
    exact .nil
  | d + 1, i, h => by
    have hi : i < al.length := by omega
    have ih := mk_nrm hal d (i + 1) (by omega)
    have hg := gi_nat hi
    have hx := hal _ (gi_mem (i := (i : Int)) (xs := al) (by omega))
    rw [List.drop_eq_getElem_cons hi, List.map_cons, ← hg]
    have e1 : pvO al (i + 1) = some (absU (gi al (i : Int))) := by
      unfold pvO
      rw [if_neg (by omega), show ((i + 1 : Nat) : Int) - 1 = (i : Int) by omega]
    have e2 : ((al.drop (i + 1)).map absU).head? = nxO al i := by
      unfold nxO
      by_cases h1 : i + 1 < al.length
      · rw [if_pos h1, List.drop_eq_getElem_cons h1, List.map_cons, List.head?_cons, ← gi_nat h1]
        rfl
      · rw [if_neg h1, List.drop_eq_nil_of_le (by omega)]
        rfl
    refine .cons ?_ (e1 ▸ ih)
    rw [e2, nrm]
    exact stp_nrm hi hal hx (nrm_ok hal i (by omega))
theorem next_of_aprN {l : List UL} : ∀ m, m ≤ l.length → aprN l m = true → ∀ i (h : i + 1 < m), aprt (gi l (i : Int)).In (gi l ((i + 1 : Nat) : Int)).In = true
  | 0, _, _, i, h => by omega
  | m + 1, hm, ha, i, h => by
    rw [aprN, Bool.and_eq_true] at ha
    rcases (by omega : i + 1 < m ∨ i + 1 = m) with h1 | h1
    · exact next_of_aprN m (by omega) ha.1 i h1
    · subst h1
      have h2 := ha.2
      rw [decide_eq_true (by omega : 0 < i + 1), show ((i + 1 : Nat) : Int) - 1 = (i : Int) by omega, Bool.true_and, Bool.not_not] at h2
      exact h2
theorem aprN_of_next {l : List UL} (H : ∀ i, i + 1 < l.length → aprt (gi l (i : Int)).In (gi l ((i + 1 : Nat) : Int)).In = true) : ∀ m, m ≤ l.length → aprN l m = true
  | 0, _ => rfl
  | m + 1, hm => by
    rw [aprN, aprN_of_next H m (by omega), Bool.true_and]
    rcases m with _ | m
    · rfl
    · rw [decide_eq_true (by omega : 0 < m + 1), show ((m + 1 : Nat) : Int) - 1 = (m : Int) by omega, H m (by omega)]
      rfl
/-- Units whose intervals are not empty. -/
structure UVal (us : List UL) : Prop where
  i : ∀ u ∈ us, UIn u
  v : ∀ u ∈ us, (absU u).ok
theorem UVal.sor {us : List UL} (h : UVal us) : UVal (sor us) := ⟨fun u hu => h.i u (sor_mem hu), fun u hu => h.v u (sor_mem hu)⟩
theorem sor_pw {us : List UL} (h : UVal us) (ha : aprN (sor us) (sor us).length = true) : ((sor us).map absU).Pairwise GU.bfr := by
  have hs := h.sor
  refine pw_of_next (fun u hu => ?_) (fun i hi => ?_)
  · obtain ⟨w, hw, rfl⟩ := List.mem_map.1 hu
    exact hs.v w hw
  · rw [List.length_map] at hi
    have := next_of_aprN _ (Nat.le_refl _) ha i hi
    rw [aprt_iff, gi_nat (by omega), gi_nat hi] at this
    simpa using this
theorem dis_of_apr {us : List UL} (h : UVal us) (ha : aprN (sor us) (sor us).length = true) : (us.map absU).Pairwise Dis :=
  (dis_perm ((sor_perm us).map absU)).1 ((sor_pw h ha).imp fun h => h.Dis)
theorem apr_of_dis {us : List UL} (h : UVal us) (hd : (us.map absU).Pairwise Dis) : aprN (sor us) (sor us).length = true := by
  have hs := h.sor
  have hp := (dis_perm ((sor_perm us).map absU)).2 hd
  refine aprN_of_next (fun i hi => ?_) _ (Nat.le_refl _)
  have hl := sor_len us
  have ho := sor_ord us i (i + 1) (by omega) (by omega)
  have hdi := List.pairwise_iff_getElem.1 hp i (i + 1) (by rw [List.length_map]; omega) (by rw [List.length_map]; omega) (by omega)
  rw [List.getElem_map, List.getElem_map, ← gi_nat (by omega), ← gi_nat hi] at hdi
  rw [aprt_iff]
  refine bfr_of_dis (hs.v _ (gi_mem (by omega))) (hs.v _ (gi_mem (by omega))) ?_ hdi
  rcases ho with h1 | ⟨h1, h2⟩
  · exact .inl h1
  · refine .inr ⟨h1, fun k => ?_⟩
    have k' : (gi (Go.Vt.sor us) (i : Int)).In.OpenFrom = true := k
    show (gi (Go.Vt.sor us) ((i + 1 : Nat) : Int)).In.OpenFrom = true
    unfold opn at h2
    rw [if_pos k'] at h2
    split at h2
    · assumption
    · omega
theorem nrmE_0 {us : List UL} (h : UVal us) : nrmE us = 0 ↔ (us.map absU).Pairwise Dis := by
  unfold nrmE
  constructor
  · intro k
    split at k
    · exact dis_of_apr h (by assumption)
    · cases k
  · intro k
    rw [if_pos (apr_of_dis h k)]
/-- The normal form, and what it says. -/
theorem nrm_nf {us : List UL} (h : UVal us) (hd : (us.map absU).Pairwise Dis) : NF ((nrmR us).map absU) ∧ ∀ t v, Has ((nrmR us).map absU) t v ↔ Has (us.map absU) t v := by
  have hs := h.sor
  have ha := apr_of_dis h hd
  have hp := sor_pw h ha
  have hok : ∀ u ∈ (Go.Vt.sor us).map absU, u.ok := fun u hu => by
    obtain ⟨w, hw, rfl⟩ := List.mem_map.1 hu
    exact hs.v w hw
  have hall := atm_ok hs.i (Go.Vt.sor us).length (Nat.le_refl _)
  have hmk := mk_nrm hall _ 0 (Nat.zero_add _)
  have hparts : (atm (Go.Vt.sor us) (Go.Vt.sor us).length).map absU = partsL ((Go.Vt.sor us).map absU) := by
    have := atm_abs (fun u hu => (hs.i u hu).i) (Go.Vt.sor us).length (Nat.le_refl _)
    rw [List.take_length] at this
    exact this
  rw [List.drop_zero, hparts] at hmk
  have hinv := Inv.start (partsL_at hok) (partsL_pw hok hp)
  have e : nrmR us = nrm (atm (Go.Vt.sor us) (Go.Vt.sor us).length) (atm (Go.Vt.sor us) (Go.Vt.sor us).length).length := by
    unfold nrmR allU
    rw [if_pos ha]
  rw [e]
  obtain ⟨h1, h2⟩ := hmk.nf hinv
  refine ⟨h1, fun t v => ?_⟩
  rw [h2, partsL_has hok]
  exact has_perm ((sor_perm us).map absU)
theorem nrmR_ok {us : List UL} (h : ∀ u ∈ us, UIn u) : ∀ v ∈ nrmR us, UOk v := by
  unfold nrmR
  split
  · exact nrm_ok (atm_ok (fun u hu => h u (sor_mem hu)) _ (Nat.le_refl _)) _ (Nat.le_refl _)
  · intro v hv
    cases hv
end Go.Vt
/- The reports of an intake, in order. Conditions: those that each statement names. -/
set_option linter.unusedSimpArgs false
set_option linter.unusedVariables false
set_option maxHeartbeats 2000000
set_option maxRecDepth 100000
namespace Go.Vt
open Go.RowKit Go.Proofs
theorem swp_GRp (xs : List api_Report) (j : Nat) : swpRp xs j = swpG xs j := rfl
theorem dwn_GRp : ∀ (j : Nat) (xs : List api_Report), dwnRp xs j = dwnG cmpRp xs j
  | 0, _ => rfl
  | j + 1, xs => by rw [dwnRp, dwnG, dwn_GRp j, swp_GRp]
theorem srt_GRp (xs : List api_Report) : ∀ i, srtRp xs i = srtG cmpRp xs i
  | 0 => rfl
  | i + 1 => by rw [srtRp, srtG, dwn_GRp, srt_GRp xs i]
theorem fldR_inj {a b : api_Report} (h : fldR a = fldR b) : a = b := by
  obtain ⟨a1, a2, a3, a4, a5, a6, a7, a8⟩ := a
  obtain ⟨b1, b2, b3, b4, b5, b6, b7, b8⟩ := b
  simp only [fldR, List.cons.injEq, and_true] at h
  obtain ⟨rfl, rfl, rfl, rfl, rfl, rfl, rfl, h8⟩ := h
  cases a8 <;> cases b8 <;> simp at h8 ⊢
def leRp (a b : api_Report) : Prop := cmpRp a b ≤ 0
theorem leRp_tr {a b c : api_Report} (h : leRp a b) (k : leRp b c) : leRp a c := lexC_tr h k
theorem leRp_anti {a b : api_Report} (h : leRp a b) (k : leRp b a) : a = b := by
  unfold leRp cmpRp at *
  rw [lexC_anti] at k
  exact fldR_inj (lexC_eq (by omega))
/-- The list in order. -/
def sorted (xs : List api_Report) : List api_Report := srtRp xs (xs.length - 1)
theorem sorted_len (xs : List api_Report) : (sorted xs).length = xs.length := srt_lenRp _ _
theorem sorted_perm (xs : List api_Report) : (sorted xs).Perm xs := by
  unfold sorted
  rw [srt_GRp]
  rcases Nat.eq_zero_or_pos xs.length with h | h
  · rw [List.length_eq_zero_iff.1 h]
    exact .refl _
  · exact srtG_perm _ _ _ (by omega)
theorem sorted_ord (xs : List api_Report) : (sorted xs).Pairwise leRp := by
  refine List.pairwise_iff_getElem.2 fun p q hp hq hpq => ?_
  have hl := sorted_len xs
  rw [← gi_nat hp, ← gi_nat hq]
  unfold sorted
  rw [srt_GRp]
  refine srtG_ord (c := cmpRp) (le := leRp) (fun a b h => by unfold leRp; omega) (fun a b h => ?_) (fun _ _ _ => leRp_tr) xs (xs.length - 1) (by omega) p q hpq (by omega)
  unfold leRp cmpRp at *
  rw [lexC_anti]
  omega
theorem sorted_of_perm {xs ys : List api_Report} (h : xs.Perm ys) : sorted xs = sorted ys :=
  sorted_uniq (fun _ _ => leRp_anti) ((sorted_perm xs).trans (h.trans (sorted_perm ys).symm)) (sorted_ord xs) (sorted_ord ys)
theorem sorted_same {xs : List api_Report} (h : xs.Pairwise leRp) : sorted xs = xs := sorted_uniq (fun _ _ => leRp_anti) (sorted_perm xs) (sorted_ord xs) h
abbrev vKs (bm : Nat) : Value := .func (.func 128) #[] [.pointer (some ⟨bm, 0, none⟩)].toArray
instance sr_keysRp (w0 : World) (L : List Blk) (b : Nat) : SpecR Tryz.prog w0 L 91 [.map (some b)] Nat (fun bm => vKs bm) (fun bm => [⟨bm, #[Value.map (some b)], 113⟩]) True := ⟨fun _ w _ => by
  refine fn_intro Tryz.func91 rfl Tryz.ntmps91 rfl ?_
  repeat (first | (refine wkB ?_; try intro _) | (refine sC rfl rfl ?_ ?_; focus (first | exact trivial | assumption | constructor <;> assumption | exact mb2 rfl rfl | exact mb4 rfl rfl rfl rfl)) | (refine sN rfl rfl ?_ ?_; (focus (first | exact trivial | assumption | constructor <;> assumption | exact mb2 rfl rfl | exact mb4 rfl rfl rfl rfl)); intro _; (try simp only [List.cons_append, List.nil_append, List.append_nil])) | refine sMu rfl ?_ | (refine sMm rfl rfl ?_; intro _) | (refine sRg rfl rfl ?_; intro _))
  rename_i bm
  exact jx_ret_tmp rfl rfl (fun w hw => ⟨bm, rfl, hw⟩)⟩
abbrev SqRp (l : List (api_Report × Bool)) : Type := (ys : { ys : List api_Report // ys.Perm (pKR l) }) × SlS e_api_Report 8 ys.1
instance sr_seqRp (w0 : World) (L : List Blk) (bm b : Nat) (TB : TypeId) (l : List (api_Report × Bool)) [k1 : AtC w0 L bm #[.map (some b)] TB] [k2 : AtO w0 L b (mRp l)] : SpecR Tryz.prog w0 L 154 [.slice none 0 0, vKs bm] (SqRp l) (fun s => vSl s.2) (fun s => mS 34 s.2) (l.length ≤ 1048576) :=
  ⟨fun hl w hw => seqRp_spec bm b TB l w hl (k1.out w hw) (k2.out w hw)⟩
instance sr_colRp (w0 : World) (L : List Blk) (bm b : Nat) (TB : TypeId) (l : List (api_Report × Bool)) [k1 : AtC w0 L bm #[.map (some b)] TB] [k2 : AtO w0 L b (mRp l)] : SpecR Tryz.prog w0 L 126 [vKs bm] (SqRp l) (fun s => vSl s.2) (fun s => mS 34 s.2) (l.length ≤ 1048576) := ⟨fun hl w hw => by
  have f1 := FoC.mk (k1.out w hw)
  have f2 := FoO.mk (k2.out w hw)
  refine fn_intro Tryz.func126 rfl Tryz.ntmps126 rfl ?_
  repeat (first | (refine wkB ?_; try intro _) | (refine sC rfl rfl ?_ ?_; focus (exact hl)) | (refine sN rfl rfl ?_ ?_; (focus (exact hl)); intro _; (try simp only [List.cons_append, List.nil_append, List.append_nil])) | refine sMu rfl ?_ | (refine sMm rfl rfl ?_; intro _) | (refine sRg rfl rfl ?_; intro _))
  rename_i s
  exact jx_ret_tmp rfl rfl (fun w hw => ⟨s, rfl, hw.sub suB⟩)⟩
instance sr_sfnRp (w0 : World) (L : List Blk) (bm b : Nat) (TB : TypeId) (l : List (api_Report × Bool)) [k1 : AtC w0 L bm #[.map (some b)] TB] [k2 : AtO w0 L b (mRp l)] : SpecR Tryz.prog w0 L 90 [vKs bm, vFn 92] (SlS e_api_Report 8 (sorted (pKR l))) (fun s => vSl s) (fun s => mS 34 s) (l.length ≤ 12) := ⟨fun hl w hw => by
  have f1 := FoC.mk (k1.out w hw)
  have f2 := FoO.mk (k2.out w hw)
  refine fn_intro Tryz.func90 rfl Tryz.ntmps90 rfl ?_
  repeat (first | (refine wkB ?_; try intro _) | (refine sC rfl rfl ?_ ?_; focus (exact Nat.le_trans hl (by decide))) | (refine sN rfl rfl ?_ ?_; (focus (exact Nat.le_trans hl (by decide))); intro _; (try simp only [List.cons_append, List.nil_append, List.append_nil])) | refine sMu rfl ?_ | (refine sMm rfl rfl ?_; intro _) | (refine sRg rfl rfl ?_; intro _))
  rename_i s
  obtain ⟨⟨ys, hp⟩, s⟩ := s
  simp only
  have hlen : ys.length ≤ 12 := by
    have := hp.length_eq
    rw [List.length_map] at this
    omega
  refine sZ rfl rfl ⟨hlen, fun _ _ => trivial⟩ ?_
  intro s'
  repeat (first | (refine wkB ?_; try intro _) | (refine sC rfl rfl ?_ ?_; focus (first | exact trivial | assumption | constructor <;> assumption | exact mb2 rfl rfl | exact mb4 rfl rfl rfl rfl)) | (refine sN rfl rfl ?_ ?_; (focus (first | exact trivial | assumption | constructor <;> assumption | exact mb2 rfl rfl | exact mb4 rfl rfl rfl rfl)); intro _; (try simp only [List.cons_append, List.nil_append, List.append_nil])) | refine sMu rfl ?_ | (refine sMm rfl rfl ?_; intro _) | (refine sRg rfl rfl ?_; intro _))
  obtain ⟨s2, e1, e2⟩ := s'.1.like (sorted_of_perm hp).symm
  refine jx_ret_tmp rfl rfl (fun w hw => ⟨s2, ?_, ?_⟩)
  · show Ending.returned (vSl s) = Ending.returned (vSl s2)
    rw [e1, s'.2]
  · show Own _ (mS 34 s2) w
    rw [e2]
    exact hw.sub suB⟩
/-- An intake as it lies: its reports. -/
structure InkC (w0 : World) (L : List Blk) (px : Nat) (l : outParam (List (api_Report × Bool))) : Prop where
  out : ∃ m1 m2 Tx, AtC w0 L px (vIn m1 m2) Tx ∧ AtO w0 L m1 (mRp l) ∧ AtO w0 L m2 (mEx [])
attribute [class] InkC
theorem InkC.to {w0 w : World} {L : List Blk} {px : Nat} {l : List (api_Report × Bool)} (h : InkC w0 L px l) (hw : Own w0 L w) : InkC w [] px l := by
  obtain ⟨m1, m2, Tx, h1, h2, h3⟩ := h.out
  have f1 := FoC.mk (h1.out w hw)
  have f2 := FoO.mk (h2.out w hw)
  have f3 := FoO.mk (h3.out w hw)
  exact ⟨m1, m2, Tx, inferInstance, inferInstance, inferInstance⟩
instance sr_reports (w0 : World) (L : List Blk) (px : Nat) (l : List (api_Report × Bool)) [h : InkC w0 L px l] : SpecR Tryz.prog w0 L 60 [.pointer (some ⟨px, 0, none⟩)] (SlS e_api_Report 8 (sorted (pKR l))) (fun s => vSl s) (fun s => mS 34 s) (l.length ≤ 12) := ⟨fun hl w hw => by
  obtain ⟨m1, m2, Tx, h1, h2, h3⟩ := (h.to hw).out
  refine fn_intro Tryz.func60 rfl Tryz.ntmps60 rfl ?_
  have g1 := FoC.mk (h1.out w (Own.start w))
  have g2 := FoO.mk (h2.out w (Own.start w))
  repeat (first | (refine wkB ?_; try intro _) | (refine sC rfl rfl ?_ ?_; focus (exact hl)) | (refine sN rfl rfl ?_ ?_; (focus (exact hl)); intro _; (try simp only [List.cons_append, List.nil_append, List.append_nil])) | refine sMu rfl ?_ | (refine sMm rfl rfl ?_; intro _) | (refine sRg rfl rfl ?_; intro _))
  rename_i bm s
  exact jx_ret_tmp rfl rfl (fun w hw => ⟨s, rfl, hw.sub suB⟩)⟩
end Go.Vt
/- The exchanges of an intake, in order. Conditions: those that each statement names. -/
set_option linter.unusedSimpArgs false
set_option linter.unusedVariables false
set_option maxHeartbeats 2000000
set_option maxRecDepth 100000
namespace Go.Vt
open Go.RowKit Go.Proofs
theorem swp_GEx (xs : List api_Exchange) (j : Nat) : swpEx xs j = swpG xs j := rfl
theorem dwn_GEx : ∀ (j : Nat) (xs : List api_Exchange), dwnEx xs j = dwnG cmpEx xs j
  | 0, _ => rfl
  | j + 1, xs => by rw [dwnEx, dwnG, dwn_GEx j, swp_GEx]
theorem srt_GEx (xs : List api_Exchange) : ∀ i, srtEx xs i = srtG cmpEx xs i
  | 0 => rfl
  | i + 1 => by rw [srtEx, srtG, dwn_GEx, srt_GEx xs i]
def leEx (a b : api_Exchange) : Prop := cmpEx a b ≤ 0
theorem leEx_tr {a b c : api_Exchange} (h : leEx a b) (k : leEx b c) : leEx a c := lexC_tr h k
theorem leEx_anti {a b : api_Exchange} (h : leEx a b) (k : leEx b a) : a = b := by
  unfold leEx cmpEx at *
  rw [lexC_anti] at k
  exact fldE_inj (lexC_eq (by omega))
/-- The list in order. -/
def sortedE (xs : List api_Exchange) : List api_Exchange := srtEx xs (xs.length - 1)
theorem sortedE_len (xs : List api_Exchange) : (sortedE xs).length = xs.length := srt_lenEx _ _
theorem sortedE_perm (xs : List api_Exchange) : (sortedE xs).Perm xs := by
  unfold sortedE
  rw [srt_GEx]
  rcases Nat.eq_zero_or_pos xs.length with h | h
  · rw [List.length_eq_zero_iff.1 h]
    exact .refl _
  · exact srtG_perm _ _ _ (by omega)
theorem sortedE_ord (xs : List api_Exchange) : (sortedE xs).Pairwise leEx := by
  refine List.pairwise_iff_getElem.2 fun p q hp hq hpq => ?_
  have hl := sortedE_len xs
  rw [← gi_nat hp, ← gi_nat hq]
  unfold sortedE
  rw [srt_GEx]
  refine srtG_ord (c := cmpEx) (le := leEx) (fun a b h => by unfold leEx; omega) (fun a b h => ?_) (fun _ _ _ => leEx_tr) xs (xs.length - 1) (by omega) p q hpq (by omega)
  unfold leEx cmpEx at *
  rw [lexC_anti]
  omega
theorem sortedE_of_perm {xs ys : List api_Exchange} (h : xs.Perm ys) : sortedE xs = sortedE ys :=
  sorted_uniq (fun _ _ => leEx_anti) ((sortedE_perm xs).trans (h.trans (sortedE_perm ys).symm)) (sortedE_ord xs) (sortedE_ord ys)
abbrev vKsE (bm : Nat) : Value := .func (.func 184) #[] [.pointer (some ⟨bm, 0, none⟩)].toArray
instance sr_keysEx (w0 : World) (L : List Blk) (b : Nat) : SpecR Tryz.prog w0 L 158 [.map (some b)] Nat (fun bm => vKsE bm) (fun bm => [⟨bm, #[Value.map (some b)], 114⟩]) True := ⟨fun _ w _ => by
  refine fn_intro Tryz.func158 rfl Tryz.ntmps158 rfl ?_
  repeat (first | (refine wkB ?_; try intro _) | (refine sC rfl rfl ?_ ?_; focus (first | exact trivial | assumption | constructor <;> assumption | exact mb2 rfl rfl | exact mb4 rfl rfl rfl rfl)) | (refine sN rfl rfl ?_ ?_; (focus (first | exact trivial | assumption | constructor <;> assumption | exact mb2 rfl rfl | exact mb4 rfl rfl rfl rfl)); intro _; (try simp only [List.cons_append, List.nil_append, List.append_nil])) | refine sMu rfl ?_ | (refine sMm rfl rfl ?_; intro _) | (refine sRg rfl rfl ?_; intro _))
  rename_i bm
  exact jx_ret_tmp rfl rfl (fun w hw => ⟨bm, rfl, hw⟩)⟩
abbrev SqEx (l : List (api_Exchange × Bool)) : Type := (ys : { ys : List api_Exchange // ys.Perm (pKE l) }) × SlS e_api_Exchange 5 ys.1
instance sr_seqEx (w0 : World) (L : List Blk) (bm b : Nat) (TB : TypeId) (l : List (api_Exchange × Bool)) [k1 : AtC w0 L bm #[.map (some b)] TB] [k2 : AtO w0 L b (mEx l)] : SpecR Tryz.prog w0 L 202 [.slice none 0 0, vKsE bm] (SqEx l) (fun s => vSl s.2) (fun s => mS 119 s.2) (l.length ≤ 1048576) :=
  ⟨fun hl w hw => seqEx_spec bm b TB l w hl (k1.out w hw) (k2.out w hw)⟩
instance sr_colEx (w0 : World) (L : List Blk) (bm b : Nat) (TB : TypeId) (l : List (api_Exchange × Bool)) [k1 : AtC w0 L bm #[.map (some b)] TB] [k2 : AtO w0 L b (mEx l)] : SpecR Tryz.prog w0 L 182 [vKsE bm] (SqEx l) (fun s => vSl s.2) (fun s => mS 119 s.2) (l.length ≤ 1048576) := ⟨fun hl w hw => by
  have f1 := FoC.mk (k1.out w hw)
  have f2 := FoO.mk (k2.out w hw)
  refine fn_intro Tryz.func182 rfl Tryz.ntmps182 rfl ?_
  repeat (first | (refine wkB ?_; try intro _) | (refine sC rfl rfl ?_ ?_; focus (exact hl)) | (refine sN rfl rfl ?_ ?_; (focus (exact hl)); intro _; (try simp only [List.cons_append, List.nil_append, List.append_nil])) | refine sMu rfl ?_ | (refine sMm rfl rfl ?_; intro _) | (refine sRg rfl rfl ?_; intro _))
  rename_i s
  exact jx_ret_tmp rfl rfl (fun w hw => ⟨s, rfl, hw.sub suB⟩)⟩
instance sr_sfnEx (w0 : World) (L : List Blk) (bm b : Nat) (TB : TypeId) (l : List (api_Exchange × Bool)) [k1 : AtC w0 L bm #[.map (some b)] TB] [k2 : AtO w0 L b (mEx l)] : SpecR Tryz.prog w0 L 157 [vKsE bm, vFn 159] (SlS e_api_Exchange 5 (sortedE (pKE l))) (fun s => vSl s) (fun s => mS 119 s) (l.length ≤ 12) := ⟨fun hl w hw => by
  have f1 := FoC.mk (k1.out w hw)
  have f2 := FoO.mk (k2.out w hw)
  refine fn_intro Tryz.func157 rfl Tryz.ntmps157 rfl ?_
  repeat (first | (refine wkB ?_; try intro _) | (refine sC rfl rfl ?_ ?_; focus (exact Nat.le_trans hl (by decide))) | (refine sN rfl rfl ?_ ?_; (focus (exact Nat.le_trans hl (by decide))); intro _; (try simp only [List.cons_append, List.nil_append, List.append_nil])) | refine sMu rfl ?_ | (refine sMm rfl rfl ?_; intro _) | (refine sRg rfl rfl ?_; intro _))
  rename_i s
  obtain ⟨⟨ys, hp⟩, s⟩ := s
  simp only
  have hlen : ys.length ≤ 12 := by
    have := hp.length_eq
    rw [List.length_map] at this
    omega
  refine sZ rfl rfl ⟨hlen, fun _ _ => trivial⟩ ?_
  intro s'
  repeat (first | (refine wkB ?_; try intro _) | (refine sC rfl rfl ?_ ?_; focus (first | exact trivial | assumption | constructor <;> assumption | exact mb2 rfl rfl | exact mb4 rfl rfl rfl rfl)) | (refine sN rfl rfl ?_ ?_; (focus (first | exact trivial | assumption | constructor <;> assumption | exact mb2 rfl rfl | exact mb4 rfl rfl rfl rfl)); intro _; (try simp only [List.cons_append, List.nil_append, List.append_nil])) | refine sMu rfl ?_ | (refine sMm rfl rfl ?_; intro _) | (refine sRg rfl rfl ?_; intro _))
  obtain ⟨s2, e1, e2⟩ := s'.1.like (sortedE_of_perm hp).symm
  refine jx_ret_tmp rfl rfl (fun w hw => ⟨s2, ?_, ?_⟩)
  · show Ending.returned (vSl s) = Ending.returned (vSl s2)
    rw [e1, s'.2]
  · show Own _ (mS 119 s2) w
    rw [e2]
    exact hw.sub suB⟩
instance sr_exch (w0 : World) (L : List Blk) (px : Nat) (l : List (api_Report × Bool)) [h : InkC w0 L px l] : SpecM Tryz.prog w0 L 131 [.pointer (some ⟨px, 0, none⟩)] (.slice none 0 0) True := ⟨fun _ w hw => by
  obtain ⟨m1, m2, Tx, h1, h2, h3⟩ := (h.to hw).out
  refine fn_intro Tryz.func131 rfl Tryz.ntmps131 rfl ?_
  have g1 := FoC.mk (h1.out w (Own.start w))
  have g2 := FoO.mk (h3.out w (Own.start w))
  repeat (first | (refine wkB ?_; try intro _) | (refine sC rfl rfl ?_ ?_; focus (exact Nat.zero_le _)) | (refine sN rfl rfl ?_ ?_; (focus (exact Nat.zero_le _)); intro _; (try simp only [List.cons_append, List.nil_append, List.append_nil])) | refine sMu rfl ?_ | (refine sMm rfl rfl ?_; intro _) | (refine sRg rfl rfl ?_; intro _))
  rename_i bm s
  obtain ⟨s, hn, hk⟩ := s
  obtain rfl : s = none := hn.2 rfl
  exact jx_ret_tmp rfl rfl (fun w hw => ret_ok hw)⟩
end Go.Vt
/- The greatest report of each identity. Conditions: those that each statement names. -/
set_option linter.unusedSimpArgs false
set_option linter.unusedVariables false
set_option maxHeartbeats 2000000
set_option maxRecDepth 100000
namespace Go.Vt
open Go.RowKit Go.Proofs
instance keyId : KeyC Tryz.prog 161 (kA e_report_identity) where
  chk e x w := by kernel_rfl
  same := same_flat (fun x => rfl)
  find ev l x w := by
    obtain ⟨fs, hf⟩ : ∃ fs, Tryz.prog.underlying 161 = some (.struct fs) := ⟨_, Tryz.underlying161⟩
    exact find_struct hf (run_eql_of fun x y w => (inferInstance : BinC Tryz.prog .eql 161 (.agg (e_report_identity x)) (.agg (e_report_identity y)) (.bool (decide (x = y)))).run w) ev l x w
abbrev mWn (l : List (report_identity × api_Report)) : Obj := mapO (kA e_report_identity) (kA e_api_Report) l
instance mapT_Wn : MapT Tryz.prog 158 (kA e_report_identity) (kA e_api_Report) := ⟨trivial⟩
instance und_mWn : UndC Tryz.prog 158 (.map 161 34) := ⟨by kernel_rfl⟩
instance zeV_Rp : ZeV Tryz.prog 34 (kA e_api_Report) z_api_Report := zeV_of (inferInstance : ZeroC Tryz.prog 34 (.agg (e_api_Report z_api_Report)) (e_api_Report z_api_Report)).out
instance inh_Wn : Inhabited (report_identity × api_Report) := ⟨(z_report_identity, z_api_Report)⟩
def idR (r : api_Report) : report_identity := ⟨r.Object, r.Seq⟩
instance sp_identify (r : api_Report) : SpecC Tryz.prog 88 [.agg (e_api_Report r)] (.agg (e_report_identity (idR r))) True := ⟨fun _ w => by
  refine fn_intro Tryz.func88 rfl Tryz.ntmps88 rfl ?_
  repeat (first | (refine wkB ?_; try intro _) | (refine sC rfl rfl ?_ ?_; focus (first | exact trivial | assumption | constructor <;> assumption | exact mb2 rfl rfl | exact mb4 rfl rfl rfl rfl)) | (refine sN rfl rfl ?_ ?_; (focus (first | exact trivial | assumption | constructor <;> assumption | exact mb2 rfl rfl | exact mb4 rfl rfl rfl rfl)); intro _; (try simp only [List.cons_append, List.nil_append, List.append_nil])) | refine sMu rfl ?_ | (refine sMm rfl rfl ?_; intro _) | (refine sRg rfl rfl ?_; intro _))
  exact wx_cell rfl rfl (fun w hw => ret_ok hw)⟩
def winS (m : List (report_identity × api_Report)) (r : api_Report) : List (report_identity × api_Report) :=
  match mget m (idR r) with
  | none => mput m (idR r) r
  | some w => if 0 < cmpRp r w then mput m (idR r) r else m
def winR (rs : List api_Report) : List (report_identity × api_Report) := rs.foldl winS []
theorem winR_take {rs : List api_Report} {m : Nat} (h : m < rs.length) : winR (rs.take (m + 1)) = winS (winR (rs.take m)) (gi rs (m : Int)) := by
  rw [List.take_succ_eq_append_getElem h, winR, List.foldl_append, gi_nat h]
  rfl
set_option maxHeartbeats 4000000 in
theorem win_spec (v : Value) (rs : List api_Report) (w : World) (hv : ArgS w v e_api_Report rs) (hl : rs.length ≤ 1048576) :
    Calls Tryz.prog 87 [v].toArray w (RetM Nat (fun b => .map (some b)) (fun b => [⟨b, .obj (mWn (winR rs)), 158⟩]) w) := by
  obtain ⟨p, cp, rfl⟩ := hv.form
  refine fn_intro Tryz.func87 rfl Tryz.ntmps87 rfl ?_
  repeat (first | (refine wkB ?_; try intro _) | (refine sC rfl rfl ?_ ?_; focus (first | exact trivial | assumption | constructor <;> assumption | exact mb2 rfl rfl | exact mb4 rfl rfl rfl rfl)) | (refine sN rfl rfl ?_ ?_; (focus (first | exact trivial | assumption | constructor <;> assumption | exact mb2 rfl rfl | exact mb4 rfl rfl rfl rfl)); intro _; (try simp only [List.cons_append, List.nil_append, List.append_nil])) | refine sMu rfl ?_ | (refine sMm rfl rfl ?_; intro _) | (refine sRg rfl rfl ?_; intro _))
  rename_i b
  refine j_loop (S := Nat) (fun m => m ≤ rs.length) (fun m => [(3, .map (some b)), (9, .slice p rs.length cp), (10, .int .i64 rs.length), (11, .int .i64 (m : Nat))]) (fun m => [⟨b, .obj (mWn (winR (rs.take m))), 158⟩]) (fun m => rs.length - m) 0 (Nat.zero_le _) sbB slB (fun m hm => ?_)
  repeat (first | (refine wkB ?_; try intro _) | (refine sC rfl rfl ?_ ?_; focus (first | exact trivial | assumption | constructor <;> assumption | exact mb2 rfl rfl | exact mb4 rfl rfl rfl rfl)) | (refine sN rfl rfl ?_ ?_; (focus (first | exact trivial | assumption | constructor <;> assumption | exact mb2 rfl rfl | exact mb4 rfl rfl rfl rfl)); intro _; (try simp only [List.cons_append, List.nil_append, List.append_nil])) | refine sMu rfl ?_ | (refine sMm rfl rfl ?_; intro _) | (refine sRg rfl rfl ?_; intro _))
  refine j_cond rfl (fun h => ?_) (fun h => ?_)
  · have hlt : m < rs.length := by have := of_decide_eq_true h; omega
    have hne : rs ≠ [] := fun h0 => by rw [h0] at hlt; simp at hlt
    obtain ⟨bw, ow, cw, hvw, hcw, hrow⟩ := hv.blk (k := 7) hne []
    injection hvw with e1 e2 e3
    subst e1
    subst e3
    have hrow' : ∀ L, RowC w L bw ow api_Report e_api_Report rs := fun L => ⟨fun w' hw' => hrow.out w' (hw'.sub (List.nil_sublist _))⟩
    have hnx := winR_take hlt
    unfold winS at hnx
    repeat (first | (refine wkB ?_; try intro _) | (refine sC rfl rfl ?_ ?_; focus (first | exact trivial | assumption | constructor <;> assumption | exact mb2 rfl rfl | exact mb4 rfl rfl rfl rfl)) | (refine sN rfl rfl ?_ ?_; (focus (first | exact trivial | assumption | constructor <;> assumption | exact mb2 rfl rfl | exact mb4 rfl rfl rfl rfl)); intro _; (try simp only [List.cons_append, List.nil_append, List.append_nil])) | refine sMu rfl ?_ | (refine sMm rfl rfl ?_; intro _) | (refine sRg rfl rfl ?_; intro _))
    cases hk : mget (winR (rs.take m)) (idR (gi rs (m : Int))) with
    | none =>
      rw [hk] at hnx
      simp only [hk, Option.isSome_none, Bool.not_false]
      repeat (first | (refine wkB ?_; try intro _) | (refine sC rfl rfl ?_ ?_; focus (first | exact trivial | assumption | constructor <;> assumption | exact mb2 rfl rfl | exact mb4 rfl rfl rfl rfl)) | (refine sN rfl rfl ?_ ?_; (focus (first | exact trivial | assumption | constructor <;> assumption | exact mb2 rfl rfl | exact mb4 rfl rfl rfl rfl)); intro _; (try simp only [List.cons_append, List.nil_append, List.append_nil])) | refine sMu rfl ?_ | (refine sMm rfl rfl ?_; intro _) | (refine sRg rfl rfl ?_; intro _))
      refine jD 4 4 (h := ?_)
      (repeat (refine wkH ?_))
      refine jh_nil ?_
      refine jn_nil ?_
      repeat (first | (refine wkB ?_; try intro _) | (refine sC rfl rfl ?_ ?_; focus (first | exact trivial | assumption | constructor <;> assumption | exact mb2 rfl rfl | exact mb4 rfl rfl rfl rfl)) | (refine sN rfl rfl ?_ ?_; (focus (first | exact trivial | assumption | constructor <;> assumption | exact mb2 rfl rfl | exact mb4 rfl rfl rfl rfl)); intro _; (try simp only [List.cons_append, List.nil_append, List.append_nil])) | refine sMu rfl ?_ | (refine sMm rfl rfl ?_; intro _) | (refine sRg rfl rfl ?_; intro _))
      exact jx_loop (m + 1) hlt sbB (by rw [hnx]; exact .cons _ (.cons _ (.refl _))) (by omega)
    | some wv =>
      rw [hk] at hnx
      simp only [hk, Option.isSome_some, Bool.not_true, Option.getD_some]
      repeat (first | (refine wkB ?_; try intro _) | (refine sC rfl rfl ?_ ?_; focus (exact ⟨trivial, trivial⟩)) | (refine sN rfl rfl ?_ ?_; (focus (exact ⟨trivial, trivial⟩)); intro _; (try simp only [List.cons_append, List.nil_append, List.append_nil])) | refine sMu rfl ?_ | (refine sMm rfl rfl ?_; intro _) | (refine sRg rfl rfl ?_; intro _))
      by_cases hc : 0 < cmpRp (gi rs (m : Int)) wv
      · simp only [if_pos hc] at hnx
        simp only [decide_eq_true hc]
        repeat (first | (refine wkB ?_; try intro _) | (refine sC rfl rfl ?_ ?_; focus (first | exact trivial | assumption | constructor <;> assumption | exact mb2 rfl rfl | exact mb4 rfl rfl rfl rfl)) | (refine sN rfl rfl ?_ ?_; (focus (first | exact trivial | assumption | constructor <;> assumption | exact mb2 rfl rfl | exact mb4 rfl rfl rfl rfl)); intro _; (try simp only [List.cons_append, List.nil_append, List.append_nil])) | refine sMu rfl ?_ | (refine sMm rfl rfl ?_; intro _) | (refine sRg rfl rfl ?_; intro _))
        refine jD 4 4 (h := ?_)
        (repeat (refine wkH ?_))
        refine jh_nil ?_
        refine jn_nil ?_
        repeat (first | (refine wkB ?_; try intro _) | (refine sC rfl rfl ?_ ?_; focus (first | exact trivial | assumption | constructor <;> assumption | exact mb2 rfl rfl | exact mb4 rfl rfl rfl rfl)) | (refine sN rfl rfl ?_ ?_; (focus (first | exact trivial | assumption | constructor <;> assumption | exact mb2 rfl rfl | exact mb4 rfl rfl rfl rfl)); intro _; (try simp only [List.cons_append, List.nil_append, List.append_nil])) | refine sMu rfl ?_ | (refine sMm rfl rfl ?_; intro _) | (refine sRg rfl rfl ?_; intro _))
        exact jx_loop (m + 1) hlt sbB (by rw [hnx]; exact .cons _ (.cons _ (.refl _))) (by omega)
      · simp only [if_neg hc] at hnx
        simp only [decide_eq_false hc]
        repeat (first | (refine wkB ?_; try intro _) | (refine sC rfl rfl ?_ ?_; focus (first | exact trivial | assumption | constructor <;> assumption | exact mb2 rfl rfl | exact mb4 rfl rfl rfl rfl)) | (refine sN rfl rfl ?_ ?_; (focus (first | exact trivial | assumption | constructor <;> assumption | exact mb2 rfl rfl | exact mb4 rfl rfl rfl rfl)); intro _; (try simp only [List.cons_append, List.nil_append, List.append_nil])) | refine sMu rfl ?_ | (refine sMm rfl rfl ?_; intro _) | (refine sRg rfl rfl ?_; intro _))
        exact jx_loop (m + 1) hlt sbB (by rw [hnx]; exact .cons _ (.cons _ (.refl _))) (by omega)
  · have hge : m = rs.length := by have := of_decide_eq_false h; omega
    subst hge
    rw [List.take_length]
    repeat (first | (refine wkB ?_; try intro _) | (refine sC rfl rfl ?_ ?_; focus (first | exact trivial | assumption | constructor <;> assumption | exact mb2 rfl rfl | exact mb4 rfl rfl rfl rfl)) | (refine sN rfl rfl ?_ ?_; (focus (first | exact trivial | assumption | constructor <;> assumption | exact mb2 rfl rfl | exact mb4 rfl rfl rfl rfl)); intro _; (try simp only [List.cons_append, List.nil_append, List.append_nil])) | refine sMu rfl ?_ | (refine sMm rfl rfl ?_; intro _) | (refine sRg rfl rfl ?_; intro _))
    exact jx_ret_tmp rfl rfl (fun w hw => ⟨b, rfl, hw⟩)
instance sr_win (w0 : World) (L : List Blk) (v : Value) (rs : List api_Report) [h : LstC w0 L v api_Report e_api_Report rs] : SpecR Tryz.prog w0 L 87 [v] Nat (fun b => .map (some b)) (fun b => [⟨b, .obj (mWn (winR rs)), 158⟩]) (rs.length ≤ 1048576) := ⟨fun hl w hw => win_spec v rs w (h.out w hw) hl⟩
end Go.Vt
/- The reports that count. Conditions: those that each statement names. -/
set_option linter.unusedSimpArgs false
set_option linter.unusedVariables false
set_option maxHeartbeats 2000000
set_option maxRecDepth 100000
namespace Go.Vt
open Go.RowKit Go.Proofs
instance bs_Rp0 : BsC Tryz.prog 72 0 [] (row e_api_Report [] []) 34 := ⟨fun w => by kernel_rfl⟩
theorem cloneRp_spec (v : Value) (us : List api_Report) (w : World) (hv : ArgS w v e_api_Report us) (hn : us = [] → v = .slice none 0 0) (hl : us.length ≤ 1048576) :
    Calls Tryz.prog 204 [v].toArray w (RetM (SlS e_api_Report 8 us) (fun s => vSl s) (fun s => mS 34 s) w) := by
  by_cases h0 : us = []
  · obtain rfl := hn h0
    subst h0
    refine fn_intro Tryz.func204 rfl Tryz.ntmps204 rfl ?_
    repeat (first | (refine wkB ?_; try intro _) | (refine sC rfl rfl ?_ ?_; focus (first | exact trivial | assumption | constructor <;> assumption | exact mb2 rfl rfl | exact mb4 rfl rfl rfl rfl)) | (refine sN rfl rfl ?_ ?_; (focus (first | exact trivial | assumption | constructor <;> assumption | exact mb2 rfl rfl | exact mb4 rfl rfl rfl rfl)); intro _; (try simp only [List.cons_append, List.nil_append, List.append_nil])) | refine sMu rfl ?_ | (refine sMm rfl rfl ?_; intro _) | (refine sRg rfl rfl ?_; intro _))
    exact jx_ret_tmp rfl rfl (fun w hw => ⟨SlS.no, rfl, hw⟩)
  · obtain ⟨bw, ow, cw, rfl, hcw, hrow⟩ := hv.blk (k := 7) h0 []
    have hrow' : ∀ L, RowC w L bw ow api_Report e_api_Report us := fun L => ⟨fun w' hw' => hrow.out w' (hw'.sub (List.nil_sublist _))⟩
    refine fn_intro Tryz.func204 rfl Tryz.ntmps204 rfl ?_
    repeat (first | (refine wkB ?_; try intro _) | (refine sC rfl rfl ?_ ?_; focus (first | exact trivial | assumption | constructor <;> assumption | exact mb2 rfl rfl | exact mb4 rfl rfl rfl rfl)) | (refine sN rfl rfl ?_ ?_; (focus (first | exact trivial | assumption | constructor <;> assumption | exact mb2 rfl rfl | exact mb4 rfl rfl rfl rfl)); intro _; (try simp only [List.cons_append, List.nil_append, List.append_nil])) | refine sMu rfl ?_ | (refine sMm rfl rfl ?_; intro _) | (refine sRg rfl rfl ?_; intro _))
    refine sG rfl rfl ?_ h0 ?_ ?_ ?_ ?_ ?_
    · rfl
    · rfl
    · rfl
    · decide
    · exact ⟨by omega, by omega⟩
    intro s'
    repeat (first | (refine wkB ?_; try intro _) | (refine sC rfl rfl ?_ ?_; focus (first | exact trivial | assumption | constructor <;> assumption | exact mb2 rfl rfl | exact mb4 rfl rfl rfl rfl)) | (refine sN rfl rfl ?_ ?_; (focus (first | exact trivial | assumption | constructor <;> assumption | exact mb2 rfl rfl | exact mb4 rfl rfl rfl rfl)); intro _; (try simp only [List.cons_append, List.nil_append, List.append_nil])) | refine sMu rfl ?_ | (refine sMm rfl rfl ?_; intro _) | (refine sRg rfl rfl ?_; intro _))
    exact jx_ret_tmp rfl rfl (fun w hw => ⟨s', rfl, hw.sub suB⟩)
instance sr_cloneRp (w0 : World) (L : List Blk) (v : Value) (us : List api_Report) [h : LstN w0 L v api_Report e_api_Report us] : SpecR Tryz.prog w0 L 204 [v] (SlS e_api_Report 8 us) (fun s => vSl s) (fun s => mS 34 s) (us.length ≤ 1048576) := ⟨fun hl w hw => cloneRp_spec v us w (h.out w hw) h.nil hl⟩
/-- No two neighbours are equal. -/
def Apart (xs : List api_Report) : Prop := ∀ i : Nat, i + 1 < xs.length → gi xs ((i + 1 : Nat) : Int) ≠ gi xs (i : Int)
theorem compactRp_spec (v : Value) (us : List api_Report) (w : World) (hv : ArgS w v e_api_Report us) (ha : Apart us) (hl : us.length ≤ 1048576) :
    Calls Tryz.prog 205 [v].toArray w (Ret v w) := by
  obtain ⟨p, cp, rfl⟩ := hv.form
  refine fn_intro Tryz.func205 rfl Tryz.ntmps205 rfl ?_
  repeat (first | (refine wkB ?_; try intro _) | (refine sC rfl rfl ?_ ?_; focus (first | exact trivial | assumption | constructor <;> assumption | exact mb2 rfl rfl | exact mb4 rfl rfl rfl rfl)) | (refine sN rfl rfl ?_ ?_; (focus (first | exact trivial | assumption | constructor <;> assumption | exact mb2 rfl rfl | exact mb4 rfl rfl rfl rfl)); intro _; (try simp only [List.cons_append, List.nil_append, List.append_nil])) | refine sMu rfl ?_ | (refine sMm rfl rfl ?_; intro _) | (refine sRg rfl rfl ?_; intro _))
  by_cases h2 : us.length < 2
  · simp only [decide_eq_true (show (us.length : Int) < 2 by omega)]
    repeat (first | (refine wkB ?_; try intro _) | (refine sC rfl rfl ?_ ?_; focus (first | exact trivial | assumption | constructor <;> assumption | exact mb2 rfl rfl | exact mb4 rfl rfl rfl rfl)) | (refine sN rfl rfl ?_ ?_; (focus (first | exact trivial | assumption | constructor <;> assumption | exact mb2 rfl rfl | exact mb4 rfl rfl rfl rfl)); intro _; (try simp only [List.cons_append, List.nil_append, List.append_nil])) | refine sMu rfl ?_ | (refine sMm rfl rfl ?_; intro _) | (refine sRg rfl rfl ?_; intro _))
    exact jx_ret_tmp rfl rfl (fun w hw => ret_ok hw)
  · simp only [decide_eq_false (show ¬ (us.length : Int) < 2 by omega)]
    repeat (first | (refine wkB ?_; try intro _) | (refine sC rfl rfl ?_ ?_; focus (first | exact trivial | assumption | constructor <;> assumption | exact mb2 rfl rfl | exact mb4 rfl rfl rfl rfl)) | (refine sN rfl rfl ?_ ?_; (focus (first | exact trivial | assumption | constructor <;> assumption | exact mb2 rfl rfl | exact mb4 rfl rfl rfl rfl)); intro _; (try simp only [List.cons_append, List.nil_append, List.append_nil])) | refine sMu rfl ?_ | (refine sMm rfl rfl ?_; intro _) | (refine sRg rfl rfl ?_; intro _))
    refine j_loop (S := Nat) (fun m => m + 1 ≤ us.length) (fun m => [(0, .slice p us.length cp), (3, .int .i64 ((m + 1 : Nat)))]) (fun _ => []) (fun m => us.length - m) 0 (by omega) sbB slB (fun m hm => ?_)
    repeat (first | (refine wkB ?_; try intro _) | (refine sC rfl rfl ?_ ?_; focus (first | exact trivial | assumption | constructor <;> assumption | exact mb2 rfl rfl | exact mb4 rfl rfl rfl rfl)) | (refine sN rfl rfl ?_ ?_; (focus (first | exact trivial | assumption | constructor <;> assumption | exact mb2 rfl rfl | exact mb4 rfl rfl rfl rfl)); intro _; (try simp only [List.cons_append, List.nil_append, List.append_nil])) | refine sMu rfl ?_ | (refine sMm rfl rfl ?_; intro _) | (refine sRg rfl rfl ?_; intro _))
    refine j_cond rfl (fun h => ?_) (fun h => ?_)
    · have hlt : m + 1 < us.length := by have := of_decide_eq_true h; omega
      have hne : us ≠ [] := fun h0 => by rw [h0] at hlt; simp at hlt
      obtain ⟨bw, ow, cw, hvw, hcw, hrow⟩ := hv.blk (k := 7) hne []
      injection hvw with e1 e2 e3
      subst e1
      subst e3
      have hrow' : ∀ L, RowC w L bw ow api_Report e_api_Report us := fun L => ⟨fun w' hw' => hrow.out w' (hw'.sub (List.nil_sublist _))⟩
      have hap := ha m hlt
      have e1 : ((m + 1 : Nat) : Int) - 1 = (m : Int) := by omega
      repeat (first | (refine wkB ?_; try intro _) | (refine sC rfl rfl ?_ ?_; focus (first | exact trivial | assumption | constructor <;> assumption | exact mb2 rfl rfl | exact mb4 rfl rfl rfl rfl)) | (refine sN rfl rfl ?_ ?_; (focus (first | exact trivial | assumption | constructor <;> assumption | exact mb2 rfl rfl | exact mb4 rfl rfl rfl rfl)); intro _; (try simp only [List.cons_append, List.nil_append, List.append_nil])) | refine sMu rfl ?_ | (refine sMm rfl rfl ?_; intro _) | (refine sRg rfl rfl ?_; intro _))
      refine jD 10 10 (h := ?_)
      (repeat (refine wkH ?_))
      simp only [e1]
      (repeat (refine wkH ?_))
      refine jh_nil ?_
      refine jn_nil ?_
      simp only [decide_eq_false hap]
      repeat (first | (refine wkB ?_; try intro _) | (refine sC rfl rfl ?_ ?_; focus (exact ⟨by omega, by omega⟩)) | (refine sN rfl rfl ?_ ?_; (focus (exact ⟨by omega, by omega⟩)); intro _; (try simp only [List.cons_append, List.nil_append, List.append_nil])) | refine sMu rfl ?_ | (refine sMm rfl rfl ?_; intro _) | (refine sRg rfl rfl ?_; intro _))
      exact jx_loop (m + 1) (by omega) sbB slB (by omega)
    · repeat (first | (refine wkB ?_; try intro _) | (refine sC rfl rfl ?_ ?_; focus (first | exact trivial | assumption | constructor <;> assumption | exact mb2 rfl rfl | exact mb4 rfl rfl rfl rfl)) | (refine sN rfl rfl ?_ ?_; (focus (first | exact trivial | assumption | constructor <;> assumption | exact mb2 rfl rfl | exact mb4 rfl rfl rfl rfl)); intro _; (try simp only [List.cons_append, List.nil_append, List.append_nil])) | refine sMu rfl ?_ | (refine sMm rfl rfl ?_; intro _) | (refine sRg rfl rfl ?_; intro _))
      exact jx_ret_tmp rfl rfl (fun w hw => ret_ok hw)
instance sm_compactRp (w0 : World) (L : List Blk) (v : Value) (us : List api_Report) [h : LstC w0 L v api_Report e_api_Report us] : SpecM Tryz.prog w0 L 205 [v] v (Apart us ∧ us.length ≤ 1048576) := ⟨fun hp w hw => compactRp_spec v us w (h.out w hw) hp.1 hp.2⟩
theorem apart_sorted {xs : List api_Report} (h : xs.Nodup) : Apart (sorted xs) := fun i hi e => by
  have hn : (sorted xs).Nodup := (sorted_perm xs).nodup_iff.2 h
  rw [gi_nat hi, gi_nat (by omega)] at e
  have := (List.getElem_inj hn).1 e
  omega
instance sr_set (w0 : World) (L : List Blk) (v : Value) (us : List api_Report) [h : LstN w0 L v api_Report e_api_Report us] : SpecR Tryz.prog w0 L 186 [v] (SlS e_api_Report 8 (sorted us)) (fun s => vSl s) (fun s => mS 34 s) (us.length ≤ 12 ∧ us.Nodup) := ⟨fun hp w hw => by
  have := LstN.mk (w0 := w) (L := []) (fun w' hw' => (h.out w hw).to hw'.ext) h.nil
  have hsl := sorted_len us
  have hp12 := hp.1
  refine fn_intro Tryz.func186 rfl Tryz.ntmps186 rfl ?_
  repeat (first | (refine wkB ?_; try intro _) | (refine sC rfl rfl ?_ ?_; focus (exact Nat.le_trans hp.1 (by decide))) | (refine sN rfl rfl ?_ ?_; (focus (exact Nat.le_trans hp.1 (by decide))); intro _; (try simp only [List.cons_append, List.nil_append, List.append_nil])) | refine sMu rfl ?_ | (refine sMm rfl rfl ?_; intro _) | (refine sRg rfl rfl ?_; intro _))
  rename_i s
  refine sZ rfl rfl ⟨hp.1, fun _ _ => trivial⟩ ?_
  intro s'
  obtain ⟨s', e⟩ := s'
  simp only
  have e0 : sorted us = srtRp us (us.length - 1) := rfl
  rw [← e]
  repeat (first | (refine wkB ?_; try intro _) | (refine sC rfl rfl ?_ ?_; focus (exact ⟨by rw [← e0]; exact apart_sorted hp.2, by rw [← e0]; omega⟩)) | (refine sN rfl rfl ?_ ?_; (focus (exact ⟨by rw [← e0]; exact apart_sorted hp.2, by rw [← e0]; omega⟩)); intro _; (try simp only [List.cons_append, List.nil_append, List.append_nil])) | refine sMu rfl ?_ | (refine sMm rfl rfl ?_; intro _) | (refine sRg rfl rfl ?_; intro _))
  exact jx_ret_tmp rfl rfl (fun w hw => ⟨s', rfl, hw.sub suB⟩)⟩
end Go.Vt
/- The reports of an object that count. Conditions: those that each statement names. -/
set_option linter.unusedSimpArgs false
set_option linter.unusedVariables false
set_option maxHeartbeats 2000000
set_option maxRecDepth 100000
namespace Go.Vt
open Go.RowKit Go.Proofs
theorem mput_mem {κ α : Type} [DecidableEq κ] {x : κ} {v : α} : ∀ {l : List (κ × α)} {p : κ × α}, p ∈ mput l x v → p ∈ l ∨ p = (x, v)
  | [], p, h => by
    simp only [mput, List.mem_singleton] at h
    exact .inr h
  | q :: l, p, h => by
    simp only [mput] at h
    split at h
    · rcases List.mem_cons.1 h with h | h
      · exact .inr h
      · exact .inl (.tail _ h)
    · rcases List.mem_cons.1 h with h | h
      · exact .inl (by rw [h]; exact .head _)
      · rcases mput_mem h with h | h
        · exact .inl (.tail _ h)
        · exact .inr h
theorem mput_keys {κ α : Type} [DecidableEq κ] {x : κ} {v : α} : ∀ (l : List (κ × α)), (mput l x v).map (·.1) = l.map (·.1) ∨ (x ∉ l.map (·.1) ∧ (mput l x v).map (·.1) = l.map (·.1) ++ [x])
  | [] => .inr ⟨by simp, rfl⟩
  | q :: l => by
    simp only [mput]
    split
    · rename_i h
      exact .inl (by simp [h])
    · rename_i h
      rcases mput_keys (x := x) (v := v) l with h1 | ⟨h1, h2⟩
      · exact .inl (by simp only [List.map_cons, h1])
      · exact .inr ⟨by simp only [List.map_cons, List.mem_cons, not_or]; exact ⟨h, h1⟩, by simp only [List.map_cons, h2, List.cons_append]⟩
structure WinOk (n : Nat) (m : List (report_identity × api_Report)) : Prop where
  nd : (m.map (·.1)).Nodup
  id : ∀ p ∈ m, idR p.2 = p.1
  len : m.length ≤ n
theorem mput_ok {n : Nat} {m : List (report_identity × api_Report)} (h : WinOk n m) (r : api_Report) : WinOk (n + 1) (mput m (idR r) r) := by
  refine ⟨?_, fun p hp => ?_, ?_⟩
  · rcases mput_keys (x := idR r) (v := r) m with h1 | ⟨h1, h2⟩
    · rw [h1]; exact h.nd
    · rw [h2]
      exact List.nodup_append.2 ⟨h.nd, by simp, fun a ha b hb => by rw [List.mem_singleton] at hb; rintro rfl; exact h1 (hb ▸ ha)⟩
  · rcases mput_mem hp with h1 | rfl
    · exact h.id p h1
    · rfl
  · have := mput_len m (idR r) r
    have := h.len
    omega
theorem winR_ok (rs : List api_Report) : WinOk rs.length (winR rs) := by
  have key : ∀ (rs : List api_Report) (n : Nat) (m : List (report_identity × api_Report)), WinOk n m → WinOk (n + rs.length) (rs.foldl winS m) := by
    intro rs
    induction rs with
    | nil => intro n m h; exact h
    | cons r rs ih =>
      intro n m h
      rw [List.foldl_cons, List.length_cons, show n + (rs.length + 1) = n + 1 + rs.length by omega]
      refine ih _ _ ?_
      have hw : WinOk (n + 1) m := ⟨h.nd, h.id, Nat.le_succ_of_le h.len⟩
      unfold winS
      split
      · exact mput_ok h r
      · split
        · exact mput_ok h r
        · exact hw
  have := key rs 0 [] ⟨List.nodup_nil, (fun p h => by cases h), Nat.le_refl _⟩
  rwa [Nat.zero_add] at this
def cntL (q : List (report_identity × api_Report)) : List api_Report := (q.map (·.2)).filter fun r => !r.Cancel
theorem cntL_snoc (q : List (report_identity × api_Report)) (p : report_identity × api_Report) : cntL (q ++ [p]) = if p.2.Cancel then cntL q else cntL q ++ [p.2] := by
  unfold cntL
  rw [List.map_append, List.filter_append]
  cases h : p.2.Cancel <;> simp [h]
theorem cntL_len (q : List (report_identity × api_Report)) : (cntL q).length ≤ q.length := by
  have := List.length_filter_le (fun r : api_Report => !r.Cancel) (q.map (·.2))
  rw [List.length_map] at this
  exact this
theorem cntL_perm {q q' : List (report_identity × api_Report)} (h : q.Perm q') : (cntL q).Perm (cntL q') := (h.map _).filter _
theorem cntL_nodup {n : Nat} {q : List (report_identity × api_Report)} (h : WinOk n q) : (cntL q).Nodup := by
  refine List.Pairwise.filter _ ?_
  have e : (q.map (·.2)).map idR = q.map (·.1) := by
    rw [List.map_map]
    exact List.map_congr_left fun p hp => h.id p hp
  have := h.nd
  rw [← e] at this
  exact List.Pairwise.of_map idR (fun a b hab he => hab (congrArg idR he)) this
/-- The reports that count, in order. -/
def cntR (rs : List api_Report) : List api_Report := sorted (cntL (winR rs))
set_option maxHeartbeats 4000000 in
theorem counting_spec (v : Value) (rs : List api_Report) (w : World) (hv : ArgS w v e_api_Report rs) (hl : rs.length ≤ 12) :
    Calls Tryz.prog 161 [v].toArray w (RetM (SlS e_api_Report 8 (cntR rs)) (fun s => vSl s) (fun s => mS 34 s) w) := by
  have := ArgC.mk hv
  have hW := winR_ok rs
  have hwl := hW.len
  refine fn_intro Tryz.func161 rfl Tryz.ntmps161 rfl ?_
  repeat (first | (refine wkB ?_; try intro _) | (refine sC rfl rfl ?_ ?_; focus (exact Nat.le_trans hl (by decide))) | (refine sN rfl rfl ?_ ?_; (focus (exact Nat.le_trans hl (by decide))); intro _; (try simp only [List.cons_append, List.nil_append, List.append_nil])) | refine sMu rfl ?_ | (refine sMm rfl rfl ?_; intro _) | (refine sRg rfl rfl ?_; intro _))
  rename_i b r
  have hcr : cntR rs = sorted (cntL (winR rs)) := rfl
  generalize winR rs = W at *
  refine j_loop (S := (s : List Nat) × SlS e_api_Report 8 (cntL (seenL W s))) (fun q => SeenOk W.length q.1) (fun q => [(3, vSl q.2), (8, .pointer (some ⟨r, 0, none⟩))]) (fun q => mS 34 q.2 ++ [⟨r, .obj (itO b W.length q.1), 158⟩, ⟨b, .obj (mWn W), 158⟩]) (fun q => W.length - q.1.length) ⟨[], SlS.no⟩ ⟨List.nodup_nil, fun i hi => by cases hi⟩ sbB slB (fun q hs => ?_)
  obtain ⟨s, o⟩ := q
  simp only at hs ⊢
  have hlen := seen_len hs.nd hs.lt
  have hcl := cntL_len (seenL W s)
  rw [seenL_len W hs.lt] at hcl
  refine cX ?_
  refine cX ?_
  refine sNx rfl rfl rfl (fun hall => ?h0) (fun i hi hni => ?h1)
  case h0 =>
    have hp : (cntL (seenL W s)).Perm (cntL W) := cntL_perm (seenL_perm hs.nd hs.lt hall)
    repeat (first | (refine wkB ?_; try intro _) | (refine sC rfl rfl ?_ ?_; focus (exact ⟨by omega, hp.nodup_iff.2 (cntL_nodup hW)⟩)) | (refine sN rfl rfl ?_ ?_; (focus (exact ⟨by omega, hp.nodup_iff.2 (cntL_nodup hW)⟩)); intro _; (try simp only [List.cons_append, List.nil_append, List.append_nil])) | refine sMu rfl ?_ | (refine sMm rfl rfl ?_; intro _) | (refine sRg rfl rfl ?_; intro _))
    rename_i s2
    obtain ⟨s3, e1, e2⟩ := s2.like (hcr.trans (sorted_of_perm hp).symm)
    refine jx_ret_tmp rfl rfl (fun w hw => ⟨s3, ?_, ?_⟩)
    · show Ending.returned (vSl s2) = Ending.returned (vSl s3)
      rw [e1]
    · show Own _ (mS 34 s3) w
      rw [e2]
      exact hw.sub suB
  case h1 =>
    have hs' := hs.snoc hi hni
    have hlen' := seen_len hs'.nd hs'.lt
    rw [List.length_append, List.length_singleton] at hlen'
    have hnx : cntL (seenL W (s ++ [i])) = if (gi W (i : Int)).2.Cancel then cntL (seenL W s) else cntL (seenL W s) ++ [(gi W (i : Int)).2] := by
      rw [seenL_snoc _ _ _ hi, cntL_snoc, gi_nat hi]
    repeat (first | (refine wkB ?_; try intro _) | (refine sC rfl rfl ?_ ?_; focus (first | exact trivial | assumption | constructor <;> assumption | exact mb2 rfl rfl | exact mb4 rfl rfl rfl rfl)) | (refine sN rfl rfl ?_ ?_; (focus (first | exact trivial | assumption | constructor <;> assumption | exact mb2 rfl rfl | exact mb4 rfl rfl rfl rfl)); intro _; (try simp only [List.cons_append, List.nil_append, List.append_nil])) | refine sMu rfl ?_ | (refine sMm rfl rfl ?_; intro _) | (refine sRg rfl rfl ?_; intro _))
    cases hc : (gi W (i : Int)).2.Cancel
    · simp only [hc, Bool.not_false]
      rw [if_neg (by rw [hc]; decide)] at hnx
      repeat (first | (refine wkB ?_; try intro _) | (refine sC rfl rfl ?_ ?_; focus (first | exact trivial | assumption | constructor <;> assumption | exact mb2 rfl rfl | exact mb4 rfl rfl rfl rfl)) | (refine sN rfl rfl ?_ ?_; (focus (first | exact trivial | assumption | constructor <;> assumption | exact mb2 rfl rfl | exact mb4 rfl rfl rfl rfl)); intro _; (try simp only [List.cons_append, List.nil_append, List.append_nil])) | refine sMu rfl ?_ | (refine sMm rfl rfl ?_; intro _) | (refine sRg rfl rfl ?_; intro _))
      refine sU rfl rfl ?_ ?_ ?_ ?_
      · rfl
      · rfl
      · exact ⟨by decide, by omega, by omega⟩
      intro s'
      repeat (first | (refine wkB ?_; try intro _) | (refine sC rfl rfl ?_ ?_; focus (first | exact trivial | assumption | constructor <;> assumption | exact mb2 rfl rfl | exact mb4 rfl rfl rfl rfl)) | (refine sN rfl rfl ?_ ?_; (focus (first | exact trivial | assumption | constructor <;> assumption | exact mb2 rfl rfl | exact mb4 rfl rfl rfl rfl)); intro _; (try simp only [List.cons_append, List.nil_append, List.append_nil])) | refine sMu rfl ?_ | (refine sMm rfl rfl ?_; intro _) | (refine sRg rfl rfl ?_; intro _))
      obtain ⟨s3, e1, e2⟩ := SlS.turn 34 hnx.symm s'
      exact jx_loop ⟨s ++ [i], s3⟩ hs' (by simp only [e1]; exact sbB) (by simp only [e2]; exact suB) (by simp only [List.length_append, List.length_singleton]; omega)
    · simp only [hc, Bool.not_true]
      rw [if_pos hc] at hnx
      repeat (first | (refine wkB ?_; try intro _) | (refine sC rfl rfl ?_ ?_; focus (first | exact trivial | assumption | constructor <;> assumption | exact mb2 rfl rfl | exact mb4 rfl rfl rfl rfl)) | (refine sN rfl rfl ?_ ?_; (focus (first | exact trivial | assumption | constructor <;> assumption | exact mb2 rfl rfl | exact mb4 rfl rfl rfl rfl)); intro _; (try simp only [List.cons_append, List.nil_append, List.append_nil])) | refine sMu rfl ?_ | (refine sMm rfl rfl ?_; intro _) | (refine sRg rfl rfl ?_; intro _))
      obtain ⟨s3, e1, e2⟩ := SlS.turn 34 hnx.symm o
      exact jx_loop ⟨s ++ [i], s3⟩ hs' (by simp only [e1]; exact sbB) (by simp only [e2]; exact suB) (by simp only [List.length_append, List.length_singleton]; omega)
instance sr_counting (w0 : World) (L : List Blk) (v : Value) (rs : List api_Report) [h : LstC w0 L v api_Report e_api_Report rs] : SpecR Tryz.prog w0 L 161 [v] (SlS e_api_Report 8 (cntR rs)) (fun s => vSl s) (fun s => mS 34 s) (rs.length ≤ 12) := ⟨fun hl w hw => counting_spec v rs w (h.out w hw) hl⟩
instance sm_of1 (w0 : World) (L : List Blk) (b : Nat) (r : api_Report) (o : Int) (T : TypeId) [k : AtC w0 L b #[.int .i64 o] T] : SpecM Tryz.prog w0 L 162 [.agg (e_api_Report r), .pointer (some ⟨b, 0, none⟩)] (.bool false) (r.Object = o) := ⟨fun hp w hw => by
  have f := FoC.mk (k.out w hw)
  refine fn_intro Tryz.func162 rfl Tryz.ntmps162 rfl ?_
  repeat (first | (refine wkB ?_; try intro _) | (refine sC rfl rfl ?_ ?_; focus (first | exact trivial | assumption | constructor <;> assumption | exact mb2 rfl rfl | exact mb4 rfl rfl rfl rfl)) | (refine sN rfl rfl ?_ ?_; (focus (first | exact trivial | assumption | constructor <;> assumption | exact mb2 rfl rfl | exact mb4 rfl rfl rfl rfl)); intro _; (try simp only [List.cons_append, List.nil_append, List.append_nil])) | refine sMu rfl ?_ | (refine sMm rfl rfl ?_; intro _) | (refine sRg rfl rfl ?_; intro _))
  simp only [decide_eq_true hp, Bool.not_true]
  repeat (first | (refine wkB ?_; try intro _) | (refine sC rfl rfl ?_ ?_; focus (first | exact trivial | assumption | constructor <;> assumption | exact mb2 rfl rfl | exact mb4 rfl rfl rfl rfl)) | (refine sN rfl rfl ?_ ?_; (focus (first | exact trivial | assumption | constructor <;> assumption | exact mb2 rfl rfl | exact mb4 rfl rfl rfl rfl)); intro _; (try simp only [List.cons_append, List.nil_append, List.append_nil])) | refine sMu rfl ?_ | (refine sMm rfl rfl ?_; intro _) | (refine sRg rfl rfl ?_; intro _))
  exact jx_ret_tmp rfl rfl (fun w hw => ret_ok hw)⟩
abbrev vOf (b : Nat) : Value := .func (.func 162) #[] [.pointer (some ⟨b, 0, none⟩)].toArray
theorem ofIdx_spec (v : Value) (rs : List api_Report) (b : Nat) (o : Int) (T : TypeId) (w : World) (hv : ArgS w v e_api_Report rs) (hl : rs.length ≤ 1048576) (ho : ∀ r ∈ rs, r.Object = o) (hb : ∃ fz, w.heap[b]? = some (.cells #[.int .i64 o] T fz)) :
    Calls Tryz.prog 185 [v, vOf b].toArray w (Ret (.int .i64 (-1)) w) := by
  have f := FoC.mk hb
  obtain ⟨p, cp, rfl⟩ := hv.form
  refine fn_intro Tryz.func185 rfl Tryz.ntmps185 rfl ?_
  repeat (first | (refine wkB ?_; try intro _) | (refine sC rfl rfl ?_ ?_; focus (first | exact trivial | assumption | constructor <;> assumption | exact mb2 rfl rfl | exact mb4 rfl rfl rfl rfl)) | (refine sN rfl rfl ?_ ?_; (focus (first | exact trivial | assumption | constructor <;> assumption | exact mb2 rfl rfl | exact mb4 rfl rfl rfl rfl)); intro _; (try simp only [List.cons_append, List.nil_append, List.append_nil])) | refine sMu rfl ?_ | (refine sMm rfl rfl ?_; intro _) | (refine sRg rfl rfl ?_; intro _))
  refine j_loop (S := Nat) (fun m => m ≤ rs.length) (fun m => [(0, .slice p rs.length cp), (1, vOf b), (7, .int .i64 rs.length), (8, .int .i64 (m : Nat))]) (fun _ => []) (fun m => rs.length - m) 0 (Nat.zero_le _) sbB slB (fun m hm => ?_)
  repeat (first | (refine wkB ?_; try intro _) | (refine sC rfl rfl ?_ ?_; focus (first | exact trivial | assumption | constructor <;> assumption | exact mb2 rfl rfl | exact mb4 rfl rfl rfl rfl)) | (refine sN rfl rfl ?_ ?_; (focus (first | exact trivial | assumption | constructor <;> assumption | exact mb2 rfl rfl | exact mb4 rfl rfl rfl rfl)); intro _; (try simp only [List.cons_append, List.nil_append, List.append_nil])) | refine sMu rfl ?_ | (refine sMm rfl rfl ?_; intro _) | (refine sRg rfl rfl ?_; intro _))
  refine j_cond rfl (fun h => ?_) (fun h => ?_)
  · have hlt : m < rs.length := by have := of_decide_eq_true h; omega
    have hne : rs ≠ [] := fun h0 => by rw [h0] at hlt; simp at hlt
    obtain ⟨bw, ow, cw, hvw, hcw, hrow⟩ := hv.blk (k := 7) hne []
    injection hvw with e1 e2 e3
    subst e1
    subst e3
    have hrow' : ∀ L, RowC w L bw ow api_Report e_api_Report rs := fun L => ⟨fun w' hw' => hrow.out w' (hw'.sub (List.nil_sublist _))⟩
    have hz := ho (gi rs (m : Int)) (gi_mem (by omega))
    repeat (first | (refine wkB ?_; try intro _) | (refine sC rfl rfl ?_ ?_; focus (exact hz)) | (refine sN rfl rfl ?_ ?_; (focus (exact hz)); intro _; (try simp only [List.cons_append, List.nil_append, List.append_nil])) | refine sMu rfl ?_ | (refine sMm rfl rfl ?_; intro _) | (refine sRg rfl rfl ?_; intro _))
    exact jx_loop (m + 1) hlt sbB slB (by omega)
  · repeat (first | (refine wkB ?_; try intro _) | (refine sC rfl rfl ?_ ?_; focus (first | exact trivial | assumption | constructor <;> assumption | exact mb2 rfl rfl | exact mb4 rfl rfl rfl rfl)) | (refine sN rfl rfl ?_ ?_; (focus (first | exact trivial | assumption | constructor <;> assumption | exact mb2 rfl rfl | exact mb4 rfl rfl rfl rfl)); intro _; (try simp only [List.cons_append, List.nil_append, List.append_nil])) | refine sMu rfl ?_ | (refine sMm rfl rfl ?_; intro _) | (refine sRg rfl rfl ?_; intro _))
    exact jx_ret_tmp rfl rfl (fun w hw => ret_ok hw)
instance sm_ofIdx (w0 : World) (L : List Blk) (v : Value) (rs : List api_Report) (b : Nat) (o : Int) (T : TypeId) [h : LstC w0 L v api_Report e_api_Report rs] [k : AtC w0 L b #[.int .i64 o] T] : SpecM Tryz.prog w0 L 185 [v, vOf b] (.int .i64 (-1)) (rs.length ≤ 1048576 ∧ ∀ r ∈ rs, r.Object = o) := ⟨fun hp w hw => ofIdx_spec v rs b o T w (h.out w hw) hp.1 hp.2 (k.out w hw)⟩
instance sm_ofDel (w0 : World) (L : List Blk) (v : Value) (rs : List api_Report) (b : Nat) (o : Int) (T : TypeId) [h : LstC w0 L v api_Report e_api_Report rs] [k : AtC w0 L b #[.int .i64 o] T] : SpecM Tryz.prog w0 L 160 [v, vOf b] v (rs.length ≤ 1048576 ∧ ∀ r ∈ rs, r.Object = o) := ⟨fun hp w hw => by
  have hv := h.out w hw
  have f := FoC.mk (k.out w hw)
  have := ArgC.mk hv
  refine fn_intro Tryz.func160 rfl Tryz.ntmps160 rfl ?_
  repeat (first | (refine wkB ?_; try intro _) | (refine sC rfl rfl ?_ ?_; focus (exact hp)) | (refine sN rfl rfl ?_ ?_; (focus (exact hp)); intro _; (try simp only [List.cons_append, List.nil_append, List.append_nil])) | refine sMu rfl ?_ | (refine sMm rfl rfl ?_; intro _) | (refine sRg rfl rfl ?_; intro _))
  exact jx_ret_tmp rfl rfl (fun w hw => ret_ok hw)⟩
instance sr_of (w0 : World) (L : List Blk) (v : Value) (rs : List api_Report) (o : Int) [h : LstC w0 L v api_Report e_api_Report rs] : SpecR Tryz.prog w0 L 132 [v, .int .i64 o] (SlS e_api_Report 8 (cntR rs)) (fun s => vSl s) (fun s => mS 34 s) (rs.length ≤ 12 ∧ ∀ r ∈ cntR rs, r.Object = o) := ⟨fun hp w hw => by
  have hv := h.out w hw
  have := ArgC.mk hv
  have hcl : (cntR rs).length ≤ 1048576 := by
    have h1 := (winR_ok rs).len
    have h2 := cntL_len (winR rs)
    unfold cntR
    rw [sorted_len]
    omega
  have hp1 := hp.1
  refine fn_intro Tryz.func132 rfl Tryz.ntmps132 rfl ?_
  repeat (first | (refine wkB ?_; try intro _) | (refine sC rfl rfl ?_ ?_; focus (first | exact hp1 | exact ⟨hcl, hp.2⟩)) | (refine sN rfl rfl ?_ ?_; (focus (first | exact hp1 | exact ⟨hcl, hp.2⟩)); intro _; (try simp only [List.cons_append, List.nil_append, List.append_nil])) | refine sMu rfl ?_ | (refine sMm rfl rfl ?_; intro _) | (refine sRg rfl rfl ?_; intro _))
  rename_i b s
  exact jx_ret_tmp rfl rfl (fun w hw => ⟨s, rfl, hw.sub suB⟩)⟩
end Go.Vt
