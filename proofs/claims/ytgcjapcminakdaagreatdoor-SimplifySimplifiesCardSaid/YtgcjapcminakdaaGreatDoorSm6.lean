/- SimplifySimplifies holds for every input that the card takes. Conditions: none. (part 6 of 6.) Conditions: those that each statement names. -/
import Derived.RangeFuncBox
import Derived.Test.YtgcjapcminakdaaGreatDoorSm5
/- The instants at which units meet at a turn, walked. Conditions: those that each statement names. -/
set_option linter.unusedSimpArgs false
set_option linter.unusedVariables false
set_option maxHeartbeats 2000000
set_option maxRecDepth 100000
namespace Go.Vt
open Go.RowKit Go.Proofs
section
variable {P : Program} {w0 : World} {n : Nat} {ops : Array Oper} {L : List Blk} {E : Env} {Q : Exit → Act → World → Prop} {rest : List Oper} {r : Option Nat} {N : Nat}
variable {ty : TypeId} {pos : String} {aft : Array Edge} {gd : Option (Nat × Bool)} {t : Tmp} {x y : Operand}
instance al_boxS {T : TypeId} {x : Operand} {p : Option Addr} {m c : Nat} [h : IsC (evl E x) (.slice p m c)] : AlC P E (.box T x) #[.slice p m c] T := ⟨fun hg hd h => jo_box isE hg hd h⟩
instance al_boxB {T : TypeId} {x : Operand} {b : Bool} [h : IsC (evl E x) (.bool b)] : AlC P E (.box T x) #[.bool b] T := ⟨fun hg hd h => jo_box isE hg hd h⟩
/-- The same behind a loop over an iterator, where the frame has a deferred call. -/
theorem listI_q {o : Oper} {v : Value} {a : Act} {ds : List Deferred} {w : World} (hy : Yl P w0 n L E o v) (ha : Rep n E a) (hw : Own w0 L w) (hg : guardB ops E o.guard = some true) (hn : noDef o = true)
    (h : ∀ w', Ext w w' → wpListIn (Fr r) N P ops Q rest { a.put o.dst v with defers := ds } w') : wpListIn (Fr r) N P ops Q (o :: rest) { a with defers := ds } w := by
  refine wpListIn_step fun K hK => ?_
  rw [if_pos (guardB_spec (a := a) ha hg)]
  refine wpI_of hn (wp_of_calm (a := { a with defers := ds }) (hy.out a w ha hw) fun w' hx => hK _ _ ?_)
  have e : ({ a with defers := ds } : Act).put o.dst v = { a.put o.dst v with defers := ds } := by
    cases o.dst <;> rfl
  rw [e]
  exact h w' hx
theorem upon_mid {Q' : Exit → Act → World → Prop} {o : Oper} {a : Act} {K : Act → World → Prop} {res : Result Next} (hQQ : ∀ e a w, e ≠ .normal → Q' e a w → Q e a w) (h : o.upon P a K Q' res) : o.uponIn (Fr r) N P a K Q res := by
  cases res with
  | ok x w' =>
    cases x <;> simp only [Oper.upon] at h <;> simp only [Oper.uponIn]
    case value => exact h
    case skip => exact h
    case defer => exact h
    case enter =>
      refine ⟨(fun hd => by cases hd), callsI (h.mono fun e w'' he => ?_)⟩
      cases e with
      | returned v => exact he
      | panicked ch => exact hQQ _ _ _ (fun h => by cases h) he
      | outgrown => obtain ⟨a0, w0, h0⟩ := he; exact ⟨a0, w0, hQQ _ _ _ (fun h => by cases h) h0⟩
    case row => exact ⟨(fun hd => by cases hd), fun c cs _ => let ⟨v, w', r, s⟩ := h c cs; ⟨v, w', r, stepsIn_wide.2 s⟩⟩
  | halt x w' =>
    cases x <;> simp only [Oper.upon] at h <;> simp only [Oper.uponIn]
    all_goals first | exact h | exact hQQ _ _ _ (fun h => by cases h) h
/-- What the first operations come to, walked as everywhere. -/
def MidL (r : Option Nat) (N : Nat) (P : Program) (ops : Array Oper) (Q : Exit → Act → World → Prop) (l2 : List Oper) : Exit → Act → World → Prop := fun e a w => e = .normal ∧ wpListIn (Fr r) N P ops Q l2 a w
theorem listI_split {l2 : List Oper} : ∀ (l1 : List Oper) (a : Act) (w : World), l1.all noDef = true → wpList P ops (MidL r N P ops Q l2) l1 a w → wpListIn (Fr r) N P ops Q (l1 ++ l2) a w
  | [], _, _, _, h => h.2
  | o :: l, a, w, hd, h => by
    simp only [List.all_cons, Bool.and_eq_true] at hd
    simp only [wpList] at h
    simp only [List.cons_append, wpListIn]
    split at h
    · rename_i hw
      rw [if_pos hw]
      rcases h with h | ⟨_, a0, w0, h, _⟩
      · refine ⟨fun f _ => trivial, ?_⟩
        rw [Oper.semAt_eq _ _ _ (noDef_ne hd.1)]
        have h2 : o.wpIn (Fr r) N P a w (wpListIn (Fr r) N P ops Q (l ++ l2)) Q := Oper.wpIn_mono (fun a w h => listI_split l a w hd.2 h) ⟨fun f _ => trivial, by
          rw [Oper.semAt_eq _ _ _ (noDef_ne hd.1)]
          exact upon_mid (fun e a w he hq => absurd hq.1 he) h⟩
        have h3 := h2.2
        rw [Oper.semAt_eq _ _ _ (noDef_ne hd.1)] at h3
        exact h3
      · cases h
    · rename_i hw
      rw [if_neg hw]
      exact ⟨fun f _ => trivial, listI_split l _ _ hd.2 h⟩
theorem jx_midL {l2 : List Oper} (h : ∀ a w, Rep n E a → Own w0 L w → wpListIn (Fr r) N P ops Q l2 a w) : JX w0 n .normal (MidL r N P ops Q l2) E L := ⟨fun a w ha hw => ⟨rfl, h a w ha hw⟩⟩
/-- An append onto a slice that owns its row: what else changes is said. -/
theorem listI_app {S T : TypeId} {a : Act} {w : World} {v : Value} {b2 m c2 k size bytes base : Nat} {xs news : List Value} {z : Value} {zc : Array Value} [hT : UndC P S (.slice T)] [hz : ZeroC P T z zc] [hk : SizeC P T size] [hB : BytesC P T bytes] (ha : Rep n E a) (hx : Env.ev E x = some v) (hy : Env.ev E y = some (.slice (some ⟨b2, 0, none⟩) m c2))
    (h6 : zc.size = size) (h7 : 0 < size) (hown : w.ownsRow base T size v k xs) (hn : news.length = m * size) (hc : ∀ j u, news[j]? = some u → w.cell? ((⟨b2, 0, none⟩ : Addr).add j) = some u) (h1 : ∀ u ∈ news, u.oneCell' = true) (hm : k + m ≤ maxLen) (hb : (k + m) * bytes ≤ 140737488355328) (hbs : base ≤ w.heap.size)
    (h : ∀ v' w', w'.ownsRow base T size v' (k + m) (xs ++ news) → w.grownBy w' v.ownBlock → wpListIn (Fr r) N P ops Q rest (a.put (some t) v') w') : wpListIn (Fr r) N P ops Q (⟨some t, .call ⟨.builtin .append, #[x, y], #[S, S]⟩, ty, pos, aft, none⟩ :: rest) a w := by
  obtain ⟨i, hi, h4⟩ := info_some hk.out
  obtain ⟨i', hi', h5⟩ := info_some hB.out
  obtain rfl : i' = i := Option.some.inj (hi'.symm.trans hi)
  have hz' : i'.zero = some z := by simpa [hi] using hz.out
  obtain ⟨v', w', hr, h8, h9, _⟩ := run_append_own (P := P) w base S ty T i' z size bytes hT.out hi hz' h4 h5 (by rw [hz.cells]; exact h6) h7 v k xs hown ⟨b2, 0, none⟩ m c2 news hn hc h1 hm hb hbs
  refine wpListIn_step fun K hK => ?_
  rw [if_pos (show Region.wanted _ _ = true from rfl)]
  refine ⟨fun f _ => trivial, ?_⟩
  rw [Oper.semAt_eq _ _ _ (fun c e => by cases e), run_appop ha hx hy hr]
  exact hK _ _ (h v' w' h8 h9)
theorem listI_store {T T0 : TypeId} {a : Act} {w : World} {b : Nat} {u u0 : Value} (ha : Rep n E a) (hx : Env.ev E x = some (.pointer (some ⟨b, 0, none⟩))) (hy : Env.ev E y = some u) (hb : w.heap[b]? = some (.cells #[u0] T0 (0, 0))) (hk : (P.info? T).map (·.size) = some 1) (hu : u.cells = #[u]) (h1 : u.oneCell' = true)
    (h : wpListIn (Fr r) N P ops Q rest (a.put none undef) (w.setCell ⟨b, 0, none⟩ u)) : wpListIn (Fr r) N P ops Q (⟨none, .store T x y, ty, pos, aft, none⟩ :: rest) a w := by
  refine wpListIn_step fun K hK => ?_
  rw [if_pos (show Region.wanted _ _ = true from rfl)]
  refine ⟨fun f _ => trivial, ?_⟩
  have hc : w.cell? ⟨b, 0, none⟩ = some u0 := by rw [cell_block hb]; rfl
  have hf : w.frozen? ⟨b, 0, none⟩ = false := frozen_of_row _ _ _ _ _ hb
  have hr : (execOp a.eval ⟨none, .store T x y, ty, pos, aft, none⟩).run P w = .ok .skip (w.setCell ⟨b, 0, none⟩ u) := by
    simp [execOp, ha.ev hx, ha.ev hy, Instr.storeAt, Instr.sureAddr, storeVar, run_sizeOf hk, hu, storeCells, Sem.run_bind, addr_add, run_store P w _ u _ h1, hc, hf, Result.andThen]
  rw [Oper.semAt_eq _ _ _ (fun c e => by cases e), hr]
  exact hK _ _ h
end
theorem meetings_spec (p : Option Addr) (n c : Nat) (w : World) :
    Calls Tryz.prog 155 [.slice p n c].toArray w (RetM Nat (fun b => .func (.func 178) #[] [.pointer (some ⟨b, 0, none⟩)].toArray) (fun b => [⟨b, #[.slice p n c], 41⟩]) w) := by
  refine fn_intro Tryz.func155 rfl Tryz.ntmps155 rfl ?_
  repeat (refine wkB ?_; try intro _)
  rename_i b
  exact jx_ret_tmp rfl rfl (fun w hw => ⟨b, rfl, hw⟩)
instance sr_meetings (w0 : World) (L : List Blk) (p : Option Addr) (n c : Nat) : SpecR Tryz.prog w0 L 155 [.slice p n c] Nat (fun b => .func (.func 178) #[] [.pointer (some ⟨b, 0, none⟩)].toArray) (fun b => [⟨b, #[.slice p n c], 41⟩]) True := ⟨fun _ w _ => meetings_spec p n c w⟩
/-- The instants of the meetings that are turns, or that are not, each once. -/
def insF (tu : Bool) (pre : List (R_api_Real × Bool)) : List R_api_Real := pre.foldl (fun out x => if x.2 = tu ∧ ¬ out.getLast? = some x.1 then out ++ [x.1] else out) []
theorem insF_snoc (tu : Bool) (pre : List (R_api_Real × Bool)) (x : R_api_Real × Bool) : insF tu (pre ++ [x]) = if x.2 = tu ∧ ¬ (insF tu pre).getLast? = some x.1 then insF tu pre ++ [x.1] else insF tu pre := by
  unfold insF
  rw [List.foldl_append]
  rfl
theorem insF_len (tu : Bool) (l : List (R_api_Real × Bool)) : (insF tu l).length ≤ l.length := by
  have : ∀ (l : List (R_api_Real × Bool)) (a : List R_api_Real), (l.foldl (fun out x => if x.2 = tu ∧ ¬ out.getLast? = some x.1 then out ++ [x.1] else out) a).length ≤ a.length + l.length := by
    intro l
    induction l with
    | nil => intro a; simp
    | cons x l ih =>
      intro a
      rw [List.foldl_cons]
      refine Nat.le_trans (ih _) ?_
      split <;> simp <;> omega
  have h := this l []
  rw [List.length_nil, Nat.zero_add] at h
  exact h
theorem insF_tns (us : List PU) : ∀ m, insF true (mtg us m) = tns us m
  | 0 => rfl
  | m + 1 => by
    have ih := insF_tns us m
    rw [mtg, tns]
    have e1 : ((m : Int) - 1) = ((m - 1 : Nat) : Int) ∨ m = 0 := by omega
    rcases e1 with e1 | e1
    · rw [e1]
      have et : trn (gi us ((m - 1 : Nat) : Int)) (gi us (m : Int)) = (decide ((gi us ((m - 1 : Nat) : Int)).In.To = (gi us (m : Int)).In.From) && mtgB (gi us ((m - 1 : Nat) : Int)) (gi us (m : Int))) := rfl
      rw [et]
      by_cases h0 : 0 < m ∧ (gi us ((m - 1 : Nat) : Int)).In.To = (gi us (m : Int)).In.From
      · rw [if_pos h0, insF_snoc, ih, decide_eq_true h0.2, Bool.true_and]
        simp only [h0.1, true_and]
      · rw [if_neg h0, ih, if_neg]
        rintro ⟨h1, h2, -⟩
        simp only [Bool.and_eq_true, decide_eq_true_eq] at h2
        exact h0 ⟨h1, h2.1⟩
    · subst e1
      simp [ih]
/-- A slice that owns its row, as a slice of the call's own. -/
theorem sls_of {α : Type} {enc : α → Array Value} {k base : Nat} {T : TypeId} {W : World} {v : Value} {xs : List α} (hnil : xs = [] → v = .slice none 0 0) (h : W.ownsRow base T k v xs.length (rowL enc xs)) :
    ∃ s : SlS enc k xs, v = vSl s ∧ ((mS T s).map (·.b)).Nodup ∧ ∀ e ∈ mS T s, base ≤ e.b ∧ W.heap[e.b]? = some (.cells e.cs e.T (0, 0)) := by
  obtain ⟨hl, h⟩ := h
  rcases h with ⟨rfl, h0⟩ | ⟨g, cap, cur, rfl, hb, hg, hn, hm, hs, ht⟩
  · have : xs = [] := List.length_eq_zero_iff.1 h0
    subst this
    exact ⟨SlS.no, rfl, List.nodup_nil, fun e he => (by cases he)⟩
  · by_cases h0 : xs = []
    · subst h0
      cases hnil rfl
    · refine ⟨SlS.at_ g cap (cur.toList.drop (xs.length * k)) ⟨hn, by rw [List.length_drop, Array.length_toList, hs, Nat.sub_mul]⟩ h0, rfl, by simp [mS, mO, SlS.at_], fun e he => ?_⟩
      have e1 : e = ⟨g, row enc xs (cur.toList.drop (xs.length * k)), T⟩ := by
        simpa [mS, mO, SlS.at_] using he
      subst e1
      refine ⟨hb, ?_⟩
      rw [hg]
      have : cur = row enc xs (cur.toList.drop (xs.length * k)) := by
        unfold row
        apply Array.ext'
        rw [List.toList_toArray, ← ht, List.take_append_drop]
      rw [← this]
abbrev rRe := r_api_Real
/-- The instants so far, the boxes that the loop reads. -/
def InsI (w : World) (b3 b5 bm : Nat) (tu : Bool) (v : Value) (pre : List (R_api_Real × Bool)) (W : World) : Prop :=
  ((∃ v', Boxed W b5 128 v' ∧ W.ownsRow w.heap.size 30 9 v' (insF tu pre).length (rowL rRe (insF tu pre)) ∧ (insF tu pre = [] → v' = .slice none 0 0)) ∧ Below w.heap.size w W) ∧ (Boxed W b3 4 (.bool tu) ∧ Boxed W bm 41 v)
theorem insI_own {w : World} {b3 b5 bm : Nat} {tu : Bool} {v : Value} {B : Nat} (hB : w.heap.size ≤ B) : OwnFrom B (InsI w b3 b5 bm tu v) :=
  OwnFrom.and (OwnFrom.and (Own.from (holdsRow_own w.heap.size b5 128 30 9 (fun pre => (insF tu pre).length) (fun pre => rowL rRe (insF tu pre)) (fun pre v' => insF tu pre = [] → v' = .slice none 0 0)) _) (ownFrom_below (Nat.le_refl _) hB)) (OwnFrom.and (Own.from (boxed_own b3 4 (fun _ => .bool tu)) _) (Own.from (boxed_own bm 41 (fun _ => v)) _))
def InsA (b3 b5 : Nat) (x : R_api_Real × Bool) (a' : Act) (W : World) : Prop :=
  ∃ bx, W.heap[bx]? = some (.cells (e_api_Real (q_api_Real x.1)) 30 (0, 0)) ∧ Rep 35 [(3, .pointer (some ⟨b3, 0, none⟩)), (5, .pointer (some ⟨b5, 0, none⟩)), (6, .pointer (some ⟨bx, 0, none⟩)), (7, .bool x.2)] a'
theorem boxed_to {W W' : World} {B : Nat} {t : TypeId} {v : Value} (h : Boxed W B t v) (hx : Ext W W') : Boxed W' B t v := (hx.block B (lt_of_block h)).trans h
/-- One instant more. -/
theorem ins_step {w W w3 w4 : World} {b3 b5 bm B : Nat} {tu : Bool} {v v' v2 : Value} {pre : List (R_api_Real × Bool)} {x : R_api_Real × Bool} (hw : w.heap.size ≤ W.heap.size) (hi : InsI w b3 b5 bm tu v pre W) (h5 : Boxed W b5 128 v') (hrow : W.ownsRow w.heap.size 30 9 v' (insF tu pre).length (rowL rRe (insF tu pre)))
    (hx : Ext W w3) (hown : w4.ownsRow w.heap.size 30 9 v2 ((insF tu pre).length + 1) (rowL rRe (insF tu pre) ++ rowL rRe [x.1])) (hg : w3.grownBy w4 v'.ownBlock) (hn : insF tu (pre ++ [x]) = insF tu pre ++ [x.1]) (hb5 : w.heap.size ≤ b5) (h35 : b3 ≠ b5) (hm5 : bm ≠ b5) :
    Boxed w4 b5 128 v' ∧ KeepsFrom B W (w4.setCell ⟨b5, 0, none⟩ v2) ∧ KpM w bm W (w4.setCell ⟨b5, 0, none⟩ v2) ∧ InsI w b3 b5 bm tu v (pre ++ [x]) (w4.setCell ⟨b5, 0, none⟩ v2) := by
  obtain ⟨⟨-, hBe⟩, h3, hm⟩ := hi
  have hrow3 : w3.ownsRow w.heap.size 30 9 v' (insF tu pre).length (rowL rRe (insF tu pre)) := hrow.kept (grown_of hx) (by cases v' with
    | slice p n c => cases p with
      | none => exact .inl rfl
      | some p => exact .inr (fun h => by cases h)
    | _ => exact .inl rfl)
  have q5 := Boxed.kept (boxed_to h5 hx) hg (Boxed.not_row (boxed_to h5 hx) (by decide) hrow3)
  have q3 := Boxed.kept (boxed_to h3 hx) hg (Boxed.not_row (boxed_to h3 hx) (by decide) hrow3)
  have qm := Boxed.kept (boxed_to hm hx) hg (Boxed.not_row (boxed_to hm hx) (by decide) hrow3)
  have own : ∀ j, v'.ownBlock = some j → w.heap.size ≤ j ∧ ∃ cs T, w3.heap[j]? = some (.cells cs T (0, 0)) := fun j hj => by
    rcases hrow3.2 with ⟨rfl, _⟩ | ⟨g, cap, cur, rfl, hb, hgb, _⟩
    · cases hj
    · obtain rfl : g = j := by simpa [Value.ownBlock] using hj
      exact ⟨hb, _, _, hgb⟩
  have qmb := Boxed.other qm hm5 v2
  refine ⟨q5, ⟨Nat.le_trans hx.size (Nat.le_trans hg.size (grownBy_setCell' w4 b5 v2).size), fun k o _ hk ho => ?_⟩, ⟨?_, fun o ho => ?_⟩, ⟨⟨⟨v2, Boxed.set v2 q5, ?_, fun h => ?_⟩, ?_⟩, Boxed.other q3 h35 v2, qmb⟩⟩
  · have e3 : w3.heap[k]? = some o := (hx.block k (lt_of_block hk)).trans hk
    have e4 : w4.heap[k]? = some o := (hg.block k (lt_of_block e3) (fun e => by obtain ⟨-, cs, T, hc⟩ := own k e.symm; rw [e3] at hc; cases hc; cases ho)).trans e3
    refine ((grownBy_setCell' w4 b5 v2).block k (lt_of_block e4) (fun e => ?_)).trans e4
    obtain rfl : k = b5 := by simpa using e
    rw [show w4.heap[k]? = _ from q5] at e4
    cases e4
    cases ho
  · exact ((hx.bel.mono hw).grown hg (Nat.le_trans hw hx.size) (fun j e => (own j e).1)).setCell (p := ⟨b5, 0, none⟩) hb5 v2
  · rw [show W.heap[bm]? = _ from hm] at ho
    cases ho
    exact qmb
  · have e := hown.kept (grownBy_setCell' w4 b5 v2) (.inr (Boxed.not_row q5 (by decide) hown).symm)
    rw [hn, List.length_append, List.length_singleton, rowL_append]
    exact e
  · rw [hn] at h
    simp at h
  · exact hBe.trans (((hx.bel.mono hw).grown hg (Nat.le_trans hw hx.size) (fun j e => (own j e).1)).setCell (p := ⟨b5, 0, none⟩) hb5 v2)
set_option maxHeartbeats 4000000 in
theorem instants_spec (v : Value) (us : List PU) (tu : Bool) (w : World) (hv : ArgS w v rP us) (hok : MtOk us) :
    Calls Tryz.prog 115 [v, .bool tu].toArray w (RetM (SlS rRe 9 (insF tu (mtg us us.length))) (fun s => vSl s) (fun s => mS 30 s) w) := by
  have hul := hok.l
  obtain ⟨p, cp, rfl⟩ := hv.form
  have hgo := fnM_intro (N := 5) (P := Tryz.prog) (l := [Value.slice p us.length cp, Value.bool tu]) (w := w) (R := RetM (SlS rRe 9 (insF tu (mtg us us.length))) (fun s => vSl s) (fun s => mS 30 s) w) Tryz.func115 rfl Tryz.ntmps115 rfl
  refine hgo ?_
  clear hgo
  refine ji_seq ?_
  refine ji_of ?_
  repeat (refine wkB ?_; try intro _)
  refine jxi_then ?_
  refine ji_seq ?_
  refine ji_of ?_
  repeat (refine wkB ?_; try intro _)
  refine jxi_then ?_
  refine ji_seq ?_
  refine ji_seq ?_
  refine ji_of ?_
  repeat (refine wkB ?_; try intro _)
  refine jxi_then ?_
  refine ji_block ?_
  rename_i b3 b5 bm
  refine ⟨fun a w1 ha hw1 => ?_⟩
  have hbm := hw1.mem _ (.head _)
  have hb5 := hw1.mem _ (.tail _ (.head _))
  have hb3 := hw1.mem _ (.tail _ (.tail _ (.head _)))
  have hnd := hw1.nd
  simp only [List.map_cons, List.map_nil, List.nodup_cons, List.mem_cons, List.not_mem_nil, or_false, not_or] at hnd
  have hwd := hw1.ext.size
  have hbl : bm < w1.heap.size := lt_of_block hbm.2
  refine wpIn_rangeFunc_ownH (F := Fr none) (n := 5) (P := Tryz.prog) (w0 := w1) (N := us.length + 1) (α := R_api_Real × Bool) (encs := fun x => #[vR x.1, .bool x.2]) (S := fun ys => ys = mtg us us.length) (Sp := fun _ => True) (Kp := KpM w bm) rfl (by omega) (gf := 178) (lb := #[.pointer (some ⟨bm, 0, none⟩)]) (ha.ev (x := .tmp 9) rfl) trivial (fun args w => run_callFunc (by kernel_rfl) args w)
    (meet_stops (.slice p us.length cp) us w w1 bm 4 hw1.ext.bel hbm.2 hv hok) (fun h k => ⟨h.1.trans k.1, fun o ho => k.2 o (h.2 o ho)⟩) (fun W l o o' hl h hc hk => ⟨belowK_b (w := w1) hwd W l o o' hl h hc hk, fun o2 h2 => (World.putObj_heap_other (by omega)).trans h2⟩) (Below.refl _ _) (fun _ => rfl)
    (InsI w b3 b5 bm tu (.slice p us.length cp)) (fun _ _ _ => False) (insI_own hwd) (fun _ _ _ _ _ hs _ _ => hs) ⟨⟨⟨_, hb5.2, World.ownsRow_nil _ _ _ _, fun _ => rfl⟩, hw1.ext.bel⟩, hb3.2, hbm.2⟩
    (InsA b3 b5) (fun x a' s X Y row ⟨bx, hc, hr⟩ hg hrow => ⟨bx, (hg.block bx (lt_of_block hc) (fun e => by obtain ⟨-, o, ho, hn⟩ := hrow bx e.symm; rw [hc] at ho; cases ho; cases hn)).trans hc, hr⟩) ?assign ?body ?done ?stop
  case stop =>
    rintro D c pre W _ _ h _
    exact h.elim
  case assign =>
    intro l pre x W K hi hK
    have hact : ∀ a0 : Act, a0.defers = [] → ({ tmps := ((#[10, 11] : Array Tmp).zip #[vR x.1, .bool x.2]).foldl (fun t (p, v) => t.setIfInBounds p v) a0.tmps, defers := [] } : Act) = (a0.put (some 10) (vR x.1)).put (some 11) (.bool x.2) := fun a0 h => by
      cases a0
      simp only at h
      subst h
      simp [Act.put]
    rw [hact a ha.defers]
    have hrep := (ha.put (some 10) (vR x.1) rfl).put (some 11) (.bool x.2) rfl
    refine JI.out (r := some l) (N := 3) (P := Tryz.prog) (w0 := W) (n := 35) (E := [(11, .bool x.2), (10, vR x.1), (3, .pointer (some ⟨b3, 0, none⟩)), (5, .pointer (some ⟨b5, 0, none⟩))]) (L := []) ?_ _ W (hrep.sub sbB) (Own.start W)
    refine ji_seq ?_
    refine ji_region ?_
    refine joi_of (fun _ _ h => h) rfl ?_
    repeat (refine wkB ?_; try intro _)
    refine jxi_then ?_
    refine ji_region ?_
    refine joi_of (fun _ _ h => h) rfl ?_
    repeat (refine wkB ?_; try intro _)
    rename_i b6
    refine ⟨fun a' W' ha' hw' => hK a' W' ⟨hw'.ext.size, fun k o _ hk _ => (hw'.ext.block k (lt_of_block hk)).trans hk⟩ ⟨hw'.ext.bel.mono hi.1.2.size, fun o ho => (hw'.ext.block _ (lt_of_block ho)).trans ho⟩ (insI_own (Nat.le_refl _) _ W W' none hi (grown_of hw'.ext) (fun r e => by cases e)) ⟨b6, (hw'.mem _ (.head _)).2, ha'.sub sbB⟩⟩
  case body =>
    rintro l pre ⟨t, q⟩ a' W hlw hr hi ⟨bx, hbx, hra⟩ hlt
    have hi0 := hi
    obtain ⟨⟨⟨v', hv', hrow, hnil⟩, hBe⟩, hb3', hbm'⟩ := hi
    have f3 := FoC.mk ⟨(0, 0), hb3'⟩
    have f5 := FoC.mk ⟨(0, 0), hv'⟩
    have fx := FoC.mk ⟨(0, 0), hbx⟩
    have keep : ∀ w2, Ext W w2 → KeepsFrom w1.heap.size W w2 ∧ KpM w bm W w2 ∧ InsI w b3 b5 bm tu (.slice p us.length cp) pre w2 := fun w2 hx => ⟨⟨hx.size, fun k o _ hk _ => (hx.block k (lt_of_block hk)).trans hk⟩, ⟨hx.bel.mono hBe.size, fun o ho => (hx.block _ (lt_of_block ho)).trans ho⟩, insI_own (Nat.le_refl _) _ W w2 none hi0 (grown_of hx) (fun r e => by cases e)⟩
    have stay : ∀ w2, Ext W w2 → insF tu (pre ++ [(t, q)]) = insF tu pre → KeepsFrom w1.heap.size W w2 ∧ KpM w bm W w2 ∧ InsI w b3 b5 bm tu (.slice p us.length cp) (pre ++ [(t, q)]) w2 := fun w2 hx he => by
      obtain ⟨k1, k2, k3⟩ := keep w2 hx
      refine ⟨k1, k2, ?_⟩
      unfold InsI at k3 ⊢
      rw [he]
      exact k3
    have hsn := insF_snoc tu pre (t, q)
    refine JI.out (r := some l) (N := 3) (P := Tryz.prog) (w0 := W) (n := 35) (E := [(3, .pointer (some ⟨b3, 0, none⟩)), (5, .pointer (some ⟨b5, 0, none⟩)), (6, .pointer (some ⟨bx, 0, none⟩)), (7, .bool q)]) (L := []) ?_ _ W hra (Own.start W)
    refine ji_block ?_
    refine ji_seq ?_
    obtain ⟨s, hs1, hs2, hs3⟩ := sls_of hnil hrow
    by_cases hq : q = tu
    · subst hq
      have hbq : (q == q) = true := by cases q <;> rfl
      rcases s.cases 30 with ⟨x0, x1, x2⟩ | ⟨bs, cs, sp, hc1, x1, x2, xne⟩
      · rw [x1] at hs1
        subst hs1
        rw [if_pos ⟨rfl, by rw [x0]; simp⟩] at hsn
        have hll : (insF q pre).length ≤ 1048577 := by rw [x0]; simp
        refine ji_draw 18 (by kernel_rfl) (by kernel_rfl) (by kernel_rfl) ?_
        (repeat (refine wkH ?_))
        simp only [hbq]
        (repeat (refine wkH ?_))
        simp only [decide_eq_true (show (0 : Int) = 0 from rfl)]
        (repeat (refine wkH ?_))
        refine jh_nil ?_
        refine joi_nil ?_
        refine jxi_then ?_
        refine ji_cond rfl (fun _ => ?_) (fun h => by cases h)
        refine ji_region ?_
        refine ⟨fun a2 w2 ha2 hw2 => ?_⟩
        refine listI_split [_, _, _] a2 w2 rfl (JO.out (w0 := W) (n := 35) (L := []) ?_ a2 w2 ha2 hw2)
        repeat (refine wkB ?_; try intro _)
        refine jx_midL (fun a3 w3 ha3 hw3 => ?_)
        have hbn := (hw3.mem _ (.head _)).2
        refine listI_app (size := 9) (k := (insF q pre).length) (m := 1) (base := w.heap.size) (xs := rowL rRe (insF q pre)) (news := rowL rRe [t]) ha3 rfl rfl rfl (by decide) (hrow.kept (grown_of hw3.ext) (by first | exact .inl rfl | exact .inr (fun h => by cases h))) (rowL_len (k := 9) [t]) (fun j u hu => by rw [addr_add, cell_block hbn, Nat.zero_add]; simpa [row] using hu) (row_one [t]) (by simp only [maxLen]; omega) ?_ (Nat.le_trans hBe.size hw3.ext.size) (fun v2 w4 hown hgrow => ?_)
        · omega
        · obtain ⟨g', cap', hv2⟩ := ownsRow_succ hown
          subst hv2
          obtain ⟨q5, k1, k2, k3⟩ := ins_step (x := (t, q)) (B := w1.heap.size) hBe.size hi0 hv' hrow hw3.ext hown hgrow hsn hb5.1 (fun e => hnd.2.1 e.symm) hnd.1.1
          refine listI_store (b := b5) (ha3.put (some 33) _ rfl) rfl rfl q5 (by kernel_rfl) rfl rfl ?_
          exact wpListIn_nil ⟨k1, k2, k3⟩
      · rw [x1] at hs1
        subst hs1
        have hmem := hs3 ⟨bs, row rRe (insF q pre) sp, 30⟩ (by rw [x2]; exact .head _)
        have fr := FoC.mk ⟨(0, 0), hmem.2⟩
        have hlp : 0 < (insF q pre).length := List.length_pos_iff.2 xne
        have hll : (insF q pre).length ≤ 1048577 := by
          have := insF_len q pre
          omega
        refine ji_draw 18 (by kernel_rfl) (by kernel_rfl) (by kernel_rfl) ?_
        (repeat (refine wkH ?_))
        simp only [hbq]
        (repeat (refine wkH ?_))
        simp only [decide_eq_false (show ¬ ((insF q pre).length : Int) = 0 by omega)]
        (repeat (refine wkH ?_))
        have hgl : (insF q pre).getLast? = some (gi (insF q pre) (((insF q pre).length : Int) - 1)) := by
          rw [List.getLast?_eq_getElem?, show ((insF q pre).length : Int) - 1 = (((insF q pre).length - 1 : Nat) : Int) by omega, gi_nat (by omega)]
          exact List.getElem?_eq_getElem (by omega)
        rw [hgl] at hsn
        by_cases hl : gi (insF q pre) (((insF q pre).length : Int) - 1) = t
        · rw [if_neg (fun h => h.2 (by rw [hl]))] at hsn
          simp only [decide_eq_true hl, Bool.not_true]
          refine jh_nil ?_
          refine joi_nil ?_
          refine jxi_then ?_
          refine ji_cond rfl (fun h => by cases h) (fun _ => ?_)
          refine ji_skip ?_
          refine jx_block ?_
          exact ⟨fun a2 w2 ha2 hw2 => stay w2 hw2.ext hsn⟩
        · rw [if_pos ⟨rfl, fun h => hl (Option.some.inj h)⟩] at hsn
          simp only [decide_eq_false hl, Bool.not_false]
          refine jh_nil ?_
          refine joi_nil ?_
          refine jxi_then ?_
          refine ji_cond rfl (fun _ => ?_) (fun h => by cases h)
          refine ji_region ?_
          refine ⟨fun a2 w2 ha2 hw2 => ?_⟩
          refine listI_split [_, _, _] a2 w2 rfl (JO.out (w0 := W) (n := 35) (L := []) ?_ a2 w2 ha2 hw2)
          repeat (refine wkB ?_; try intro _)
          refine jx_midL (fun a3 w3 ha3 hw3 => ?_)
          have hbn := (hw3.mem _ (.head _)).2
          refine listI_app (size := 9) (k := (insF q pre).length) (m := 1) (base := w.heap.size) (xs := rowL rRe (insF q pre)) (news := rowL rRe [t]) ha3 rfl rfl rfl (by decide) (hrow.kept (grown_of hw3.ext) (by first | exact .inl rfl | exact .inr (fun h => by cases h))) (rowL_len (k := 9) [t]) (fun j u hu => by rw [addr_add, cell_block hbn, Nat.zero_add]; simpa [row] using hu) (row_one [t]) (by simp only [maxLen]; omega) ?_ (Nat.le_trans hBe.size hw3.ext.size) (fun v2 w4 hown hgrow => ?_)
          · omega
          · obtain ⟨g', cap', hv2⟩ := ownsRow_succ hown
            subst hv2
            obtain ⟨q5, k1, k2, k3⟩ := ins_step (x := (t, q)) (B := w1.heap.size) hBe.size hi0 hv' hrow hw3.ext hown hgrow hsn hb5.1 (fun e => hnd.2.1 e.symm) hnd.1.1
            refine listI_store (b := b5) (ha3.put (some 33) _ rfl) rfl rfl q5 (by kernel_rfl) rfl rfl ?_
            exact wpListIn_nil ⟨k1, k2, k3⟩
    · rw [if_neg (fun h => hq h.1)] at hsn
      have hbq : (q == tu) = false := by cases q <;> cases tu <;> first | rfl | exact absurd rfl hq
      refine ji_draw 18 (by kernel_rfl) (by kernel_rfl) (by kernel_rfl) ?_
      (repeat (refine wkH ?_))
      simp only [hbq]
      (repeat (refine wkH ?_))
      refine jh_nil ?_
      refine joi_nil ?_
      refine jxi_then ?_
      refine ji_cond rfl (fun h => by cases h) (fun _ => ?_)
      refine ji_skip ?_
      refine jx_block ?_
      exact ⟨fun a2 w2 ha2 hw2 => stay w2 hw2.ext hsn⟩
  case done =>
    rintro D ys W hD rfl hi hK
    obtain ⟨⟨⟨v', hv', hrow, hnil⟩, hBe⟩, hb3', hbm'⟩ := hi
    obtain ⟨s, hs1, hs2, hs3⟩ := sls_of hnil hrow
    obtain ⟨o, m, c, hvs⟩ : ∃ o m c, v' = .slice o m c := by
      rcases hrow.2 with ⟨h, _⟩ | ⟨g, cap, _, h, _⟩
      · exact ⟨_, _, _, h⟩
      · exact ⟨_, _, _, h⟩
    have f5 := FoC.mk ⟨(0, 0), hv'⟩
    rw [hvs] at f5 hs1
    have hra : Rep 35 [(5, .pointer (some ⟨b5, 0, none⟩))] a := ha.sub sbB
    have hl : YlC Tryz.prog W 35 [] [(5, .pointer (some ⟨b5, 0, none⟩))] (.load 128 (.tmp 5)) (.slice o m c) := inferInstance
    show Code.wpIn (Fr none) 5 _ _ _ _ W
    refine wpIn_seq (wpIn_region_lit ?_)
    refine listI_q (a := a) (L := []) (w0 := W) (hl.out _ _ _ _ _) hra (Own.start W) rfl rfl (fun W2 hx2 => ?_)
    refine listI_q (a := a.put (some 34) (.slice o m c)) (L := []) (w0 := W2) (E := Env.put [(5, .pointer (some ⟨b5, 0, none⟩))] (some 34) (.slice o m c)) (yl_assign rfl) (hra.put (some 34) _ rfl) (Own.start W2) rfl rfl (fun W3 hx3 => ?_)
    refine wpListIn_nil ?_
    have hx := hx2.tr hx3
    have hK3 : W3.heap[D]? = some (.deferred (some [])) := (hx.block D (lt_of_block hK)).trans hK
    have hr4 : ((a.put (some 34) (.slice o m c)).put (some 4) (.slice o m c)).tmps[4]? = some (.slice o m c) := ((hra.put (some 34) _ rfl).put (some 4) (.slice o m c) rfl).val 4 _ rfl
    refine wpIn_ret ?_
    refine ⟨by simp, .inl ⟨_, _, rfl, run_takeDeferred hK3, ?_⟩⟩
    rw [ha.defers]
    refine ⟨.slice o m c, ?_, s, by rw [hs1], ⟨⟨?_, trivial⟩, fun e he => ?_, hs2⟩⟩
    · rw [results_tmp rfl]
      show Result.ok (Array.getD _ 4 undef) _ = _
      rw [Array.getD_eq_getD_getElem?, hr4]
      rfl
    · exact (hBe.trans (hx.bel.mono hBe.size)).trans (belowK_b (w := w1) hwd W3 D _ _ hD hK3 rfl rfl)
    · obtain ⟨h1, h2⟩ := hs3 e he
      have h3 := (hx.block _ (lt_of_block h2)).trans h2
      refine ⟨h1, (World.putObj_heap_other (fun hd => ?_)).trans h3⟩
      rw [hd, hK3] at h3
      cases h3
instance sr_instants (w0 : World) (L : List Blk) (v : Value) (us : List PU) (tu : Bool) [h : LstC w0 L v PU rP us] : SpecR Tryz.prog w0 L 115 [v, .bool tu] (SlS rRe 9 (insF tu (mtg us us.length))) (fun s => vSl s) (fun s => mS 30 s) (MtOk us) := ⟨fun hp w hw => instants_spec v us tu w (h.out w hw) hp⟩
theorem turns_spec (v : Value) (us : List PU) (w : World) (hv : ArgS w v rP us) (hok : MtOk us) :
    Calls Tryz.prog 75 [v].toArray w (RetM (SlS rRe 9 (tns us us.length)) (fun s => vSl s) (fun s => mS 30 s) w) := by
  have := ArgC.mk hv
  rw [← insF_tns]
  refine fn_intro Tryz.func75 rfl Tryz.ntmps75 rfl ?_
  repeat (first | (refine wkB ?_; try intro _) | (refine sC rfl rfl ?_ ?_; focus (exact hok)) | (refine sN rfl rfl ?_ ?_; (focus (exact hok)); intro _; (try simp only [List.cons_append, List.nil_append, List.append_nil])))
  rename_i s
  exact jx_ret_tmp rfl rfl (fun w hw => ⟨s, rfl, hw.sub suB⟩)
instance sr_turns (w0 : World) (L : List Blk) (v : Value) (us : List PU) [h : LstC w0 L v PU rP us] : SpecR Tryz.prog w0 L 75 [v] (SlS rRe 9 (tns us us.length)) (fun s => vSl s) (fun s => mS 30 s) (MtOk us) := ⟨fun hp w hw => turns_spec v us w (h.out w hw) hp⟩
end Go.Vt
/- A map from instants: what it holds, how it is read and written. Conditions: those that each statement names. -/
set_option linter.unusedSimpArgs false
set_option linter.unusedVariables false
set_option maxHeartbeats 2000000
set_option maxRecDepth 100000
namespace Go.Vt
open Go.RowKit Go.Proofs
/-- The entries are 'true' at these instants. -/
def EnR (l : List MapEntry) (ys : List R_api_Real) : Prop := l.map (fun e => (e.key, e.val)) = ys.map (fun y => (vR y, Value.bool true))
/-- The map holds 'true' at these instants, and nothing else. -/
def MapR (w : World) (b : Nat) (S : List R_api_Real) : Prop := ∃ es clock ys, w.heap[b]? = some (.map es clock) ∧ EnR es.toList ys ∧ ∀ x, x ∈ ys ↔ x ∈ S
theorem MapR.lt {w : World} {b : Nat} {S : List R_api_Real} (h : MapR w b S) : b < w.heap.size := by
  obtain ⟨es, c, ys, h, _⟩ := h
  exact lt_of_block h
theorem MapR.to {w w' : World} {b : Nat} {S : List R_api_Real} (h : MapR w b S) (hx : Ext w w') : MapR w' b S := by
  have hl := h.lt
  obtain ⟨es, c, ys, h1, h2, h3⟩ := h
  exact ⟨es, c, ys, (hx.block b hl).trans h1, h2, h3⟩
theorem MapR.new (w : World) : MapR (w.alloc (.map #[] 0)) w.heap.size [] := ⟨#[], 0, [], World.alloc_heap_new w _, rfl, fun x => Iff.rfl⟩
theorem run_checkKey (e : Bool) (x : R_api_Real) (w : World) : (Instr.checkKey e 10000 30 (vR x)).run Tryz.prog w = .ok () w := by
  kernel_rfl
theorem run_eqR (x y : R_api_Real) (w : World) : (Op.equal 30 (vR x) (vR y)).run Tryz.prog w = .ok (decide (x = y)) w := by
  have h := (inferInstance : BinC Tryz.prog .eql 30 (.agg (e_api_Real (q_api_Real x))) (.agg (e_api_Real (q_api_Real y))) (.bool (decide (x = y)))).run w
  simp only [binOp, Sem.run_bind] at h
  cases hq : (Op.equal 30 (vR x) (vR y)).run Tryz.prog w with
  | ok r w' =>
    rw [hq] at h
    simp only [Result.andThen, Sem.run_pure, Result.ok.injEq, Value.bool.injEq] at h
    rw [h.1, h.2]
  | halt e w' =>
    rw [hq] at h
    cases h
theorem run_und {T : TypeId} {d : TypeDesc} (h : Tryz.prog.underlying T = some d) (w : World) : (underlying T).run Tryz.prog w = .ok d w := by
  simp [underlying, Sem.run, h]
theorem und_R : ∃ fs, Tryz.prog.underlying 30 = some (.struct fs) := ⟨_, Tryz.underlying30⟩
theorem und_M : Tryz.prog.underlying 127 = some (.map 30 4) := by kernel_rfl
/-- The key is found where it is first, or nowhere. -/
theorem run_ask (x : R_api_Real) (w : World) : ∀ (l : List MapEntry) (ys : List R_api_Real) (i : Nat), EnR l ys →
    (∃ j, j < l.length ∧ ys[j]? = some x ∧ (Instr.findAsking 30 (vR x) l i).run Tryz.prog w = .ok (some (i + j, .bool true)) w) ∨ (x ∉ ys ∧ (Instr.findAsking 30 (vR x) l i).run Tryz.prog w = .ok none w)
  | [], [], i, _ => .inr ⟨by simp, by simp [Instr.findAsking]⟩
  | [], _ :: _, _, h => by simp [EnR] at h
  | _ :: _, [], _, h => by simp [EnR] at h
  | e :: l, y :: ys, i, h => by
    simp only [EnR, List.map_cons, List.cons.injEq, Prod.mk.injEq] at h
    obtain ⟨⟨h1, h2⟩, h3⟩ := h
    by_cases hy : x = y
    · refine .inl ⟨0, by simp, by simp [hy], ?_⟩
      simp only [Instr.findAsking, h1, h2, Sem.run_bind, run_eqR, Result.andThen, decide_eq_true hy, if_true, Sem.run_pure, Nat.add_zero]
    · have e1 : (Instr.findAsking 30 (vR x) (e :: l) i).run Tryz.prog w = (Instr.findAsking 30 (vR x) l (i + 1)).run Tryz.prog w := by
        simp only [Instr.findAsking, h1, Sem.run_bind, run_eqR, Result.andThen, decide_eq_false hy, Bool.false_eq_true, if_false]
      rw [e1]
      rcases run_ask x w l ys (i + 1) h3 with ⟨j, j1, j2, j3⟩ | ⟨j1, j2⟩
      · exact .inl ⟨j + 1, by simp; omega, by simpa using j2, by rw [j3, show i + 1 + j = i + (j + 1) by omega]⟩
      · exact .inr ⟨by simp [hy, j1], j2⟩
theorem run_findKey (x : R_api_Real) (w : World) (l : List MapEntry) : (Instr.findKey 30 (vR x) l).run Tryz.prog w = (Instr.findAsking 30 (vR x) l 0).run Tryz.prog w := by
  obtain ⟨fs, hf⟩ := und_R
  unfold Instr.findKey
  simp only [Sem.run_bind, run_und hf, Result.andThen]
  cases l with
  | nil => simp [Instr.findNow, Instr.findAsking]
  | cons e l => rfl
theorem run_lookR {w : World} {b : Nat} {S : List R_api_Real} (h : MapR w b S) (x : R_api_Real) : (Instr.lookup 127 (.map (some b)) (vR x) false).run Tryz.prog w = .ok (.bool (decide (x ∈ S))) w := by
  obtain ⟨es, c, ys, h1, h2, h3⟩ := h
  have hg : (getObj b).run Tryz.prog w = .ok (.map es c) w := by simp [getObj, Sem.run, h1]
  unfold Instr.lookup
  simp only [Sem.run_bind, run_und und_M, Result.andThen, hg, Sem.run_pure, run_checkKey, run_findKey]
  rcases run_ask x w es.toList ys 0 h2 with ⟨j, j1, j2, j3⟩ | ⟨j1, j2⟩
  · rw [j3]
    have hm : x ∈ S := (h3 x).1 (List.mem_of_getElem? j2)
    simp [hm]
  · rw [j2]
    have hm : ¬ x ∈ S := fun hm => j1 ((h3 x).2 hm)
    have hz : (zeroValue 4).run Tryz.prog w = .ok (.bool false) w := by kernel_rfl
    simp [hm, hz, Sem.run_bind, Result.andThen]
theorem zip_same (n : Nat) : ∀ l : List Value, (∀ v ∈ l, Instr.sameBits n v v = true) → (l.zip l).all (fun p => Instr.sameBits n p.1 p.2) = true
  | [], _ => rfl
  | v :: l, h => by
    rw [List.zip_cons_cons, List.all_cons, h v (.head _), zip_same n l fun u hu => h u (.tail _ hu)]
    rfl
theorem same_R (x : R_api_Real) : Instr.sameBits 10000 (vR x) (vR x) = true := by
  have h : ∀ v ∈ (e_api_Real (q_api_Real x)).toList, Instr.sameBits 9999 v v = true := fun v hv => by
    have hv' : v ∈ [Value.bool (I x.P.num).Neg, .string (I x.P.num).Mag, .bool (I (dn x.P)).Neg, .string (I (dn x.P)).Mag, .bool (I x.R.num).Neg, .string (I x.R.num).Mag, .bool (I (dn x.R)).Neg, .string (I (dn x.R)).Mag, .bool x.Neg] := hv
    simp only [List.mem_cons, List.not_mem_nil, or_false] at hv'
    rcases hv' with rfl | rfl | rfl | rfl | rfl | rfl | rfl | rfl | rfl <;> simp [Instr.sameBits, beq_decB]
  show ((e_api_Real (q_api_Real x)).size == (e_api_Real (q_api_Real x)).size && ((e_api_Real (q_api_Real x)).toList.zip (e_api_Real (q_api_Real x)).toList).all (fun p => Instr.sameBits 9999 p.1 p.2)) = true
  rw [zip_same 9999 _ h]
  rfl
theorem run_updR {w : World} {b : Nat} {S : List R_api_Real} (h : MapR w b S) (x : R_api_Real) : ∃ w', (Instr.mapUpdate 127 (.map (some b)) (vR x) (.bool true)).run Tryz.prog w = .ok () w' ∧ MapR w' b (S ++ [x]) ∧ w.grownBy w' (some b) := by
  have hlt := h.lt
  obtain ⟨es, c, ys, h1, h2, h3⟩ := h
  have hg : (getObj b).run Tryz.prog w = .ok (.map es c) w := by simp [getObj, Sem.run, h1]
  have hs : ∀ es' c', (setObj b (.map es' c')).run Tryz.prog w = .ok () { w with heap := w.heap.setIfInBounds b (.map es' c') } := fun es' c' => by simp [setObj, Sem.run, h1]
  have hgr : ∀ o, w.grownBy { w with heap := w.heap.setIfInBounds b o } (some b) := fun o => ⟨rfl, rfl, rfl, by simp, fun k _ hk => Array.getElem?_setIfInBounds_ne (fun e => hk (by rw [e]))⟩
  have hnw : ∀ o, ({ w with heap := w.heap.setIfInBounds b o } : World).heap[b]? = some o := fun o => by simp [hlt]
  unfold Instr.mapUpdate
  simp only [Sem.run_bind, run_und und_M, Result.andThen, hg, run_checkKey, run_findKey]
  rcases run_ask x w es.toList ys 0 h2 with ⟨j, j1, j2, j3⟩ | ⟨j1, j2⟩
  · rw [j3]
    have hj : j < es.size := by simpa using j1
    have hkey : es[j].key = vR x := by
      have := congrArg (fun l => l[j]?) h2
      simp only [List.getElem?_map, j2] at this
      simp [hj] at this
      exact this.1
    have hk : (Instr.keyThatStays (vR x) (vR x)).run Tryz.prog w = .ok (vR x) w := by
      unfold Instr.keyThatStays
      rw [if_pos (same_R x)]
      rfl
    simp only [Nat.zero_add]
    refine ⟨{ w with heap := w.heap.setIfInBounds b (.map (es.modify j fun e => { e with key := vR x, val := .bool true }) c) }, ?_, ⟨_, _, ys, hnw _, ?_, fun y => ?_⟩, hgr _⟩
    · simp [hj, hkey, hk, hs, Sem.run_bind, Result.andThen]
    · have e1 : (es.modify j fun e => { e with key := vR x, val := .bool true }).toList.map (fun e => (e.key, e.val)) = es.toList.map (fun e => (e.key, e.val)) := by
        apply List.ext_getElem
        · simp
        · intro i i1 i2
          have hi : i < es.size := by simpa using i2
          have hv : es[j].val = .bool true := by
            have := congrArg (fun l => l[j]?) h2
            simp only [List.getElem?_map, j2] at this
            simp [hj] at this
            exact this.2
          simp only [List.getElem_map, Array.getElem_toList, Array.getElem_modify]
          split
          · rename_i e
            subst e
            rw [hkey, hv]
          · rfl
      exact e1.trans h2
    · rw [h3 y, List.mem_append, List.mem_singleton]
      have hm : x ∈ S := (h3 x).1 (List.mem_of_getElem? j2)
      exact ⟨.inl, fun h => h.elim id (fun e => e ▸ hm)⟩
  · rw [j2]
    refine ⟨_, hs _ _, ⟨_, _, ys ++ [x], hnw _, ?_, fun y => ?_⟩, hgr _⟩
    · simp only [EnR, Array.toList_push, List.map_append, List.map_cons, List.map_nil]
      rw [show es.toList.map (fun e => (e.key, e.val)) = _ from h2]
    · rw [List.mem_append, List.mem_append, h3 y]
end Go.Vt
/- The runs of a moving point, walked. Conditions: those that each statement names. -/
set_option linter.unusedSimpArgs false
set_option linter.unusedVariables false
set_option maxHeartbeats 2000000
set_option maxRecDepth 100000
namespace Go.Vt
open Go.RowKit Go.Proofs
section
variable {P : Program} {w0 : World} {n : Nat} {ops : Array Oper} {L : List Blk} {E : Env} {Q : Exit → Act → World → Prop} {rest : List Oper} {N : Nat}
variable {ty : TypeId} {pos : String} {aft : Array Edge} {gd : Option (Nat × Bool)} {t : Tmp} {x y z : Operand}
/-- A map is made: what comes behind it begins in a world of its own. -/
theorem joi_make {T : TypeId} {r : Option Nat} (hg : guardB ops E gd = some true) (hd : Nat.blt t n = true) (h : ∀ w, Own w0 L w → JOI r N P (w.alloc (.map #[] 0)) n ops Q rest ((t, .map (some w.heap.size)) :: E) []) : JOI r N P w0 n ops Q (⟨some t, .makeMap T none, ty, pos, aft, gd⟩ :: rest) E L := by
  refine ⟨fun a w ha hw => ?_⟩
  refine wpListIn_step fun K hK => ?_
  rw [if_pos (guardB_spec ha hg)]
  refine ⟨fun f _ => trivial, ?_⟩
  rw [Oper.semAt_eq _ _ _ (fun c e => by cases e)]
  exact hK _ _ ((h w hw).out _ _ (ha.put (some t) _ hd) (Own.start _))
end
/-- The map is written. -/
theorem joi_upd {w0 : World} {n : Nat} {ops : Array Oper} {L : List Blk} {E : Env} {Q : Exit → Act → World → Prop} {rest : List Oper} {N : Nat} {ty : TypeId} {pos : String} {aft : Array Edge} {gd : Option (Nat × Bool)} {x y z : Operand} {r : Option Nat} {b : Nat} {S : List R_api_Real} {k : R_api_Real} (hg : guardB ops E gd = some true) (hx : Env.ev E x = some (.map (some b))) (hy : Env.ev E y = some (vR k)) (hz : Env.ev E z = some (.bool true)) (hm : MapR w0 b S)
    (h : ∀ w w', Own w0 L w → MapR w' b (S ++ [k]) → w.grownBy w' (some b) → JOI r N Tryz.prog w' n ops Q rest E []) : JOI r N Tryz.prog w0 n ops Q (⟨none, .mapUpdate 127 x y z, ty, pos, aft, gd⟩ :: rest) E L := by
  refine ⟨fun a w ha hw => ?_⟩
  obtain ⟨w', h1, h2, h3⟩ := run_updR (hm.to hw.ext) k
  refine wpListIn_step fun K hK => ?_
  rw [if_pos (guardB_spec ha hg)]
  refine ⟨fun f _ => trivial, ?_⟩
  rw [Oper.semAt_eq _ _ _ (fun c e => by cases e)]
  have hr : (execOp a.eval ⟨none, .mapUpdate 127 x y z, ty, pos, aft, gd⟩).run Tryz.prog w = .ok .skip w' := by
    simp only [execOp, ha.ev hx, ha.ev hy, ha.ev hz, Sem.run_bind, h1, Result.andThen, Sem.run_pure]
  rw [hr]
  exact hK _ _ ((h w w' hw h2 h3).out _ _ ha (Own.start _))
class MapC (w0 : World) (b : Nat) (S : outParam (List R_api_Real)) : Prop where
  out : MapR w0 b S
instance yl_lookR {w0 : World} {n : Nat} {L : List Blk} {E : Env} {x y : Operand} {b : Nat} {S : List R_api_Real} {k : R_api_Real} [hm : MapC w0 b S] [hx : IsC (evl E x) (.map (some b))] [hy : IsC (evl E y) (vR k)] : YlC Tryz.prog w0 n L E (.lookup 127 x y false) (.bool (decide (k ∈ S))) := ⟨fun d ty pos aft gd =>
  ⟨fun a w ha hw => by
    have h1 := run_lookR (hm.out.to hw.ext) k
    exact calm_run (s := Instr.lookup 127 (.map (some b)) (vR k) false) (by simp only [execOp, ha.ev (isE (x := x)), ha.ev (isE (x := y))]) h1 (Ext.refl _)⟩⟩
/-- Where the condition of the program holds. -/
def cP (us : List PU) (i : Nat) : Bool := decide (i = 0) || (!decide ((gi us ((i - 1 : Nat) : Int)).In.To = (gi us (i : Int)).In.From) || !decide ((gi us (i : Int)).In.From ∈ tns us us.length))
/-- The run that has ended goes to the others. -/
theorem ended {D : List (R_api_Interval × List SS)} {I : R_api_Interval} {P : List SS} {dn : List RD} (h : dn.map (fun r => (r.I, r.pts)) = D) (hk : ∀ r ∈ dn, r.pts.length ≤ r.c) (s : SlS rS 12 P) : ∃ dn' : List RD, dn'.map (fun r => (r.I, r.pts)) = rnD ⟨D, I, P⟩ ∧ endL (dn.map RD.hd) I s = dn'.map RD.hd ∧ (mS 47 s ++ dnB dn).Perm (dnB dn') ∧ ∀ r ∈ dn', r.pts.length ≤ r.c := by
  rcases s.cases 47 with ⟨x0, x1, x2⟩ | ⟨b, c, sp, hc, x1, x2, xne⟩
  · refine ⟨dn, by rw [h]; exact (if_pos x0).symm, if_pos x0, ?_, hk⟩
    rw [x2]
    exact .refl _
  · refine ⟨dn ++ [⟨I, b, c, P, sp⟩], ?_, ?_, ?_, fun r hr => ?_⟩
    · rw [List.map_append, h]
      exact (if_neg xne).symm
    · rw [List.map_append]
      unfold endL
      rw [if_neg xne, hS_eq x1]
      rfl
    · rw [x2]
      unfold dnB
      rw [List.map_append]
      exact List.perm_append_comm
    · rcases List.mem_append.1 hr with k | k
      · exact hk r k
      · rw [List.mem_singleton] at k
        subst k
        exact hc.1
set_option maxHeartbeats 4000000 in
theorem runs_spec (v : Value) (us : List PU) (w : World) (hv : ArgS w v rP us) (h : PFine us) :
    Calls Tryz.prog 28 [v].toArray w (RetM (RunsO (rns (cP us) us)) (fun s => .tuple #[vSl s.o, .int .i64 0]) (fun s => s.mem) w) := by
  have hul := h.l
  have hok : MtOk us := ⟨by omega, fun u hu => ⟨(h.k u hu).i.mono (by decide), (h.k u hu).f.mono (by decide)⟩⟩
  have hav := ArgC.mk hv
  obtain ⟨p, cp, rfl⟩ := hv.form
  have hgo := fnI_intro (N := 5) (P := Tryz.prog) (l := [Value.slice p us.length cp]) (w := w) (R := RetM (RunsO (rns (cP us) us)) (fun s => .tuple #[vSl s.o, .int .i64 0]) (fun s => s.mem) w) Tryz.func28 rfl Tryz.ntmps28 rfl
  refine callsO (hgo ?_)
  clear hgo
  refine ji_seq ?_
  refine ji_of ?_
  repeat (refine wkB ?_; try intro _)
  refine jxi_then ?_
  refine ji_seq ?_
  refine ji_seq ?_
  refine ji_of ?_
  repeat (first | (refine wkB ?_; try intro _) | (refine sC rfl rfl ?_ ?_; focus (exact h)) | (refine sN rfl rfl ?_ ?_; (focus (exact h)); intro _; (try simp only [List.cons_append, List.nil_append, List.append_nil])))
  refine jxi_then ?_
  refine ji_seq ?_
  refine ji_of ?_
  repeat (refine wkB ?_; try intro _)
  refine jxi_then ?_
  refine ji_cond rfl (fun h => by cases h) (fun _ => ?_)
  refine ji_skip ?_
  refine jxi_then ?_
  refine ji_seq ?_
  refine ji_region ?_
  refine joi_make rfl rfl (fun w1 hw1 => ?_)
  have hM0 := MapR.new w1
  have hB0 : Below w.heap.size w (w1.alloc (.map #[] 0)) := hw1.ext.bel.trans ((Ext.alloc w1 (.map #[] 0)).bel.mono hw1.ext.size)
  have hbw : w.heap.size ≤ w1.heap.size := hw1.ext.size
  generalize w1.alloc (.map #[] 0) = W0 at *
  generalize w1.heap.size = b at *
  have hav0 := ArgC.mk (hv.to ⟨hB0, trivial⟩)
  refine joi_of (fun _ _ h => by obtain ⟨s, h, _⟩ := h; cases h) rfl ?_
  repeat (refine wkB ?_; try intro _)
  refine jxi_then ?_
  refine ji_seq ?_
  refine ji_seq ?_
  refine ji_of ?_
  repeat (first | (refine wkB ?_; try intro _) | (refine sC rfl rfl ?_ ?_; focus (exact hok)) | (refine sN rfl rfl ?_ ?_; (focus (exact hok)); intro _; (try simp only [List.cons_append, List.nil_append, List.append_nil])))
  rename_i s
  refine jxi_then ?_
  refine ji_block ?_
  have htl := tns_len us us.length
  have hcP : ∀ i, cP us i = (decide (i = 0) || (!decide ((gi us ((i - 1 : Nat) : Int)).In.To = (gi us (i : Int)).In.From) || !decide ((gi us (i : Int)).In.From ∈ tns us us.length))) := fun i => rfl
  generalize tns us us.length = T at *
  refine ji_loop (S := Nat) (fun k W1 => k ≤ T.length ∧ MapR W1 b (T.take k) ∧ Below w.heap.size w W1 ∧ ∀ e ∈ mS 30 s, W1.heap[e.b]? = some (.cells e.cs e.T (0, 0))) (fun k => [(0, .slice p us.length cp), (5, .map (some b)), (20, vSl s), (21, .int .i64 T.length), (22, .int .i64 (k : Nat))]) (fun k => T.length - k) 0 (fun w2 hw2 => ?_) sbB (fun k W1 hI => ?_)
  · refine ⟨Nat.zero_le _, hM0.to hw2.ext, hB0.trans (hw2.ext.bel.mono hB0.size), fun e he => (hw2.mem e ?_).2⟩
    first | exact he | exact List.mem_append_left _ he
  obtain ⟨hk, hM, hB1, hS⟩ := hI
  have hx : Ext w W1 := ⟨hB1, trivial⟩
  refine ji_seq ?_
  refine ji_of ?_
  repeat (refine wkB ?_; try intro _)
  refine jxi_then ?_
  refine ji_seq ?_
  refine ji_cond rfl (fun hc => ?_) (fun hc => ?_)
  · have hlt : k < T.length := by have := of_decide_eq_true hc; omega
    refine ji_skip ?_
    refine jxi_then ?_
    rcases s.cases 30 with ⟨x0, x1, x2⟩ | ⟨bt, ct, sp, hc1, x1, x2, xne⟩
    · rw [x0] at hlt
      simp at hlt
    have hbt : W1.heap[bt]? = some (.cells (row rRe T sp) 30 (0, 0)) := hS _ (by rw [x2]; exact .head _)
    have fT := FoC.mk ⟨(0, 0), hbt⟩
    simp only [x1]
    refine ji_seq ?_
    refine ji_block ?_
    refine ji_seq ?_
    refine ji_of ?_
    repeat (refine wkB ?_; try intro _)
    refine jxi_then ?_
    refine ji_region ?_
    refine ⟨fun a2 w2 ha2 hw2 => listI_split [_, _] a2 w2 rfl (JO.out ?_ a2 w2 ha2 hw2)⟩
    repeat (refine wkB ?_; try intro _)
    refine jx_midL (fun a3 w3 ha3 hw3 => (joi_upd rfl rfl rfl rfl hM (fun w4 w5 hw4 hM5 hg => ?_)).out a3 w3 ha3 hw3)
    refine joi_nil ?_
    refine jx_block ?_
    refine jxi_then ?_
    refine ji_of ?_
    repeat (refine wkB ?_; try intro _)
    have hbb : w.heap.size ≤ b := hbw
    refine jxi_loop (k + 1) (fun w6 hw6 => ⟨hlt, ?_, ?_, fun e he => ?_⟩) sbB (by omega)
    · rw [take_snoc hlt]
      exact hM5.to hw6.ext
    · exact ((hB1.trans (hw4.ext.bel.mono hB1.size)).grown hg (Nat.le_trans hB1.size hw4.ext.size) (fun j e => by cases e; exact hbb)).trans (hw6.ext.bel.mono (Nat.le_trans hB1.size (Nat.le_trans hw4.ext.size hg.size)))
    · have e0 := hS e he
      have e1 := (hw4.ext.block _ (lt_of_block e0)).trans e0
      have e2 : w5.heap[e.b]? = some (.cells e.cs e.T (0, 0)) := (hg.block _ (lt_of_block e1) (fun hbe => by
        obtain ⟨es, c, ys, hmb, _⟩ := hM
        have hmb' := (hw4.ext.block _ (lt_of_block hmb)).trans hmb
        rw [show e.b = b by simpa using hbe, hmb'] at e1
        cases e1)).trans e1
      exact (hw6.ext.block _ (lt_of_block e2)).trans e2
  · have hge : k = T.length := by have := of_decide_eq_false hc; omega
    rw [hge, List.take_length] at hM
    refine ji_exit ?_
    refine jxi_then_exit ?_
    refine jxi_loop_exit ?_
    refine jx_block_here ?_
    refine jxi_then ?_
    have hmap : MapC W1 b T := ⟨hM⟩
    have hav1 := ArgC.mk (hv.to hx)
    have hv1 := hv.to hx
    refine ji_of ?_
    repeat (refine wkB ?_; try intro _)
    rename_i b8 b9
    clear hM0 hB0 hav0 hS hc
    refine j_loop (S := (m : Nat) × (dn : List RD) × SlS rR 21 (dn.map RD.hd) × SlS rS 12 (rn (cP us) us m).P) (fun q => q.1 ≤ us.length ∧ q.2.1.map (fun r => (r.I, r.pts)) = (rn (cP us) us q.1).dn ∧ ∀ r ∈ q.2.1, r.pts.length ≤ r.c) (fun q => [(0, .slice p us.length cp), (5, .map (some b)), (8, .pointer (some ⟨b8, 0, none⟩)), (9, .pointer (some ⟨b9, 0, none⟩)), (10, .func (.func 76) #[] [.pointer (some ⟨b9, 0, none⟩), .pointer (some ⟨b8, 0, none⟩)].toArray), (30, .slice p us.length cp), (31, .int .i64 us.length), (32, .int .i64 (q.1 : Nat))])
      (fun q => mS 35 q.2.2.1 ++ (⟨b9, cRn (rn (cP us) us q.1).I (hS q.2.2.2), 35⟩ :: ⟨b8, #[vSl q.2.2.1], 62⟩ :: (mS 47 q.2.2.2 ++ dnB q.2.1))) (fun q => us.length - q.1) ⟨0, [], SlS.no, SlS.no⟩ ⟨Nat.zero_le _, rfl, fun r hr => by cases hr⟩ sbB suB (fun q hq => ?_)
    obtain ⟨m, dn, o, s2⟩ := q
    obtain ⟨hm, hdn, hkk⟩ := hq
    simp only at hm hdn hkk o s2 ⊢
    have hrl := rn_len (cP us) us m
    have hdl : dn.length ≤ m := by
      have := congrArg List.length hdn
      rw [List.length_map] at this
      omega
    repeat (refine wkB ?_; try intro _)
    refine j_cond rfl (fun hc => ?_) (fun hc => ?_)
    · have hlt : m < us.length := by have := of_decide_eq_true hc; omega
      have hne : us ≠ [] := fun h0 => by rw [h0] at hlt; simp at hlt
      obtain ⟨bw, ow, cw, hvw, hcw, hrow⟩ := hv1.blk (k := 35) hne []
      injection hvw with e1 e2 e3
      subst e1
      subst e3
      have hrow' : ∀ L, RowC W1 L bw ow PU rP us := fun L => ⟨fun w' hw' => hrow.out w' (hw'.sub (List.nil_sublist _))⟩
      have hA := h.k _ (gi_mem (i := (m : Int)) (xs := us) (by omega))
      have hrn : rn (cP us) us (m + 1) = if cP us m = true then ⟨rnD (rn (cP us) us m), rnI (gi us (m : Int)) (gi us (m : Int)).In, rnP (gi us (m : Int)) [smq (gi us (m : Int)).F (gi us (m : Int)).In.From]⟩ else ⟨(rn (cP us) us m).dn, rnI (gi us (m : Int)) (rn (cP us) us m).I, rnP (gi us (m : Int)) (rn (cP us) us m).P⟩ := rfl
      have hcm := hcP m
      repeat (refine wkB ?_; try intro _)
      rename_i b12
      generalize gi us (m : Int) = A at *
      have p1 : A.In.From.R = 0 ∧ M A.In.From.P ≤ 34359738368 ∧ M A.F.X0 ≤ 34359738368 ∧ M A.F.X1 ≤ 34359738368 ∧ M A.F.Y0 ≤ 34359738368 ∧ M A.F.Y1 ≤ 34359738368 := ⟨hA.i.r1, Nat.le_trans hA.i.m1 (by decide), Nat.le_trans hA.f.x0 (by decide), Nat.le_trans hA.f.x1 (by decide), Nat.le_trans hA.f.y0 (by decide), Nat.le_trans hA.f.y1 (by decide)⟩
      have p2 : A.In.To.R = 0 ∧ M A.In.To.P ≤ 34359738368 ∧ M A.F.X0 ≤ 34359738368 ∧ M A.F.X1 ≤ 34359738368 ∧ M A.F.Y0 ≤ 34359738368 ∧ M A.F.Y1 ≤ 34359738368 := ⟨hA.i.r2, Nat.le_trans hA.i.m2 (by decide), Nat.le_trans hA.f.x0 (by decide), Nat.le_trans hA.f.x1 (by decide), Nat.le_trans hA.f.y0 (by decide), Nat.le_trans hA.f.y1 (by decide)⟩
      refine j_cut (S := Bool) (fun f => f = cP us m) (fun f => [(0, .slice (some ⟨bw, ow, none⟩) us.length cp), (5, .map (some b)), (8, .pointer (some ⟨b8, 0, none⟩)), (9, .pointer (some ⟨b9, 0, none⟩)), (10, .func (.func 76) #[] [.pointer (some ⟨b9, 0, none⟩), .pointer (some ⟨b8, 0, none⟩)].toArray), (12, .pointer (some ⟨b12, 0, none⟩)), (30, .slice (some ⟨bw, ow, none⟩) us.length cp), (31, .int .i64 us.length), (32, .int .i64 (m : Nat)), (59, .bool f)]) (fun _ => ⟨b12, e_api_PointUnit (q_api_PointUnit A), 68⟩ :: (mS 35 o ++ (⟨b9, cRn (rn (cP us) us m).I (hS s2), 35⟩ :: ⟨b8, #[vSl o], 62⟩ :: (mS 47 s2 ++ dnB dn)))) ?_ (fun f hf => ?_)
      · rcases Nat.eq_zero_or_pos m with h0 | h0
        · subst h0
          refine jD 23 23 (h := ?_)
          (repeat (refine wkH ?_))
          simp only [decide_eq_true (show ((0 : Nat) : Int) = 0 from rfl)]
          (repeat (refine wkH ?_))
          refine jh_nil ?_
          refine jn_nil ?_
          repeat (refine wkB ?_; try intro _)
          exact jx_mid true (by rw [hcm]; rfl) sbB suB
        · have e0 : decide (m = 0) = false := decide_eq_false (by omega)
          rw [show ((m - 1 : Nat) : Int) = (m : Int) - 1 by omega, e0, Bool.false_or] at hcm
          refine jD 23 23 (h := ?_)
          (repeat (refine wkH ?_))
          simp only [decide_eq_false (show ¬ (m : Int) = 0 by omega)]
          (repeat (first | refine wkH ?_ | (refine tC rfl rfl ?_ ?_; focus (exact ⟨by omega, by omega⟩))))
          by_cases h1 : (gi us ((m : Int) - 1)).In.To = A.In.From
          · rw [decide_eq_true h1, Bool.not_true, Bool.false_or] at hcm
            simp only [decide_eq_true h1, Bool.not_true]
            (repeat (refine wkH ?_))
            refine jh_nil ?_
            refine jn_nil ?_
            repeat (refine wkB ?_; try intro _)
            exact jx_mid (!decide (A.In.From ∈ T)) hcm.symm sbB suB
          · rw [decide_eq_false h1, Bool.not_false, Bool.true_or] at hcm
            simp only [decide_eq_false h1, Bool.not_false]
            (repeat (refine wkH ?_))
            refine jh_nil ?_
            refine jn_nil ?_
            repeat (refine wkB ?_; try intro _)
            exact jx_mid true hcm.symm sbB suB
      refine j_cut (S := (dn' : List RD) × (_ : R_api_Interval) × (P' : List SS) × SlS rR 21 (dn'.map RD.hd) × SlS rS 12 P') (fun q => q.1.map (fun r => (r.I, r.pts)) = (if f = true then rnD (rn (cP us) us m) else (rn (cP us) us m).dn) ∧ q.2.1 = (if f = true then A.In else (rn (cP us) us m).I) ∧ q.2.2.1 = (if f = true then [smq A.F A.In.From] else (rn (cP us) us m).P) ∧ ∀ r ∈ q.1, r.pts.length ≤ r.c) (fun _ => [(0, .slice (some ⟨bw, ow, none⟩) us.length cp), (5, .map (some b)), (8, .pointer (some ⟨b8, 0, none⟩)), (9, .pointer (some ⟨b9, 0, none⟩)), (10, .func (.func 76) #[] [.pointer (some ⟨b9, 0, none⟩), .pointer (some ⟨b8, 0, none⟩)].toArray), (12, .pointer (some ⟨b12, 0, none⟩)), (30, .slice (some ⟨bw, ow, none⟩) us.length cp), (31, .int .i64 us.length), (32, .int .i64 (m : Nat))])
        (fun q => ⟨b12, e_api_PointUnit (q_api_PointUnit A), 68⟩ :: (mS 35 q.2.2.2.1 ++ (⟨b9, cRn q.2.1 (hS q.2.2.2.2), 35⟩ :: ⟨b8, #[vSl q.2.2.2.1], 62⟩ :: (mS 47 q.2.2.2.2 ++ dnB q.1)))) ?_ (fun q hq => ?_)
      · rcases f with _ | _
        · refine j_cond rfl (fun h => by cases h) (fun _ => ?_)
          refine j_skip ?_
          exact jx_mid ⟨dn, _, _, o, s2⟩ ⟨hdn, rfl, rfl, hkk⟩ sbB suB
        · refine j_cond rfl (fun _ => ?_) (fun h => by cases h)
          obtain ⟨dn', hdn', hmap', hblk, hkk'⟩ := ended hdn hkk s2
          refine j_permL (⟨b12, e_api_PointUnit (q_api_PointUnit A), 68⟩ :: (mS 35 o ++ (⟨b9, cRn (rn (cP us) us m).I (hS s2), 35⟩ :: ⟨b8, #[vSl o], 62⟩ :: dnB dn'))) ((((hblk.cons _).cons _).append_left _).cons _) ?_
          repeat (refine wkB ?_; try intro _)
          refine sY rfl rfl ?_ ?_
          · exact ⟨by rw [List.length_map]; omega, by omega⟩
          intro o1
          obtain ⟨o', e1, e2⟩ := SlS.turn 35 hmap' o1
          simp only [← e1, ← e2]
          repeat (refine wkB ?_; try intro _)
          (refine j_tree (.v [0, 1, 2, 3, 4, 5, 6, 7] (.e1 8 (.v [9] (.e1 10 (.fin))))) ([⟨b12, e_api_PointUnit (q_api_PointUnit A), 68⟩]) (h := ?_); refine wkX ?_)
          (repeat (first | refine wkH ?_ | (refine tC rfl rfl ?_ ?_; focus (exact p1))))
          repeat (first | (refine wkT ?_; try intro _) | (refine tC rfl rfl ?_ ?_; focus (exact p1)) | (refine uC rfl rfl ?_ ?_; focus (exact p1)) | (refine eN rfl rfl ?_ ?_; (focus (exact p1)); intro _; (try simp only [List.cons_append, List.nil_append, List.append_nil])))
          rename_i bN
          obtain ⟨s', hv', hm'⟩ := SlS.put (enc := rS) (k := 12) (b := bN) (sp := []) (c := 1) (ys := [smq A.F A.In.From]) 47 rfl ⟨Nat.le_refl _, rfl⟩ Nat.zero_lt_one
          have hh := hS_eq hv'
          refine jx_midP ⟨dn', A.In, [smq A.F A.In.From], o', s'⟩ ⟨hdn'.trans (if_pos trivial).symm, (if_pos trivial).symm, (if_pos trivial).symm, hkk'⟩ sbB ?_
          simp only [hh, hm', List.cons_append, List.nil_append]
          simp only [smq]
          infer_instance
      · obtain ⟨dn2, I2, P2, o2, s3⟩ := q
        obtain ⟨q1, q2, q3, q4⟩ := hq
        simp only at q1 q2 q3 q4 o2 s3 ⊢
        have hr2 : rn (cP us) us (m + 1) = ⟨dn2.map (fun r => (r.I, r.pts)), rnI A I2, rnP A P2⟩ := by
          rw [hrn, q1, q2, q3, ← hf]
          cases f <;> rfl
        have hP2 : P2.length ≤ 64 := by
          rw [q3]
          split
          · simp
          · omega
        repeat (refine wkB ?_; try intro _)
        (refine j_tree (.v [0, 1, 2, 3, 4, 5, 6, 7] (.e1 8 (.v [9, 10] (.e1 11 (.fin))))) ([⟨b12, e_api_PointUnit (q_api_PointUnit A), 68⟩]) (h := ?_); refine wkX ?_)
        repeat' (first | (with_reducible refine And.intro ?_ ?_) | (with_reducible exact True.intro) | (refine wkT ?_; try intro _) | fail)
        refine jx_then ?_
        refine j_forget (E' := [(0, .slice (some ⟨bw, ow, none⟩) us.length cp), (5, .map (some b)), (8, .pointer (some ⟨b8, 0, none⟩)), (9, .pointer (some ⟨b9, 0, none⟩)), (10, .func (.func 76) #[] [.pointer (some ⟨b9, 0, none⟩), .pointer (some ⟨b8, 0, none⟩)].toArray), (12, .pointer (some ⟨b12, 0, none⟩)), (30, .slice (some ⟨bw, ow, none⟩) us.length cp), (31, .int .i64 us.length), (32, .int .i64 (m : Nat))]) (L' := ⟨b12, e_api_PointUnit (q_api_PointUnit A), 68⟩ :: (mS 35 o2 ++ (⟨b9, cRn (rnI A I2) (hS s3), 35⟩ :: ⟨b8, #[vSl o2], 62⟩ :: (mS 47 s3 ++ dnB dn2)))) sbB (List.Sublist.refl _) ?_
        have hI1 : (rn (cP us) us (m + 1)).I = rnI A I2 := by rw [hr2]
        have hD1 : dn2.map (fun r => (r.I, r.pts)) = (rn (cP us) us (m + 1)).dn := by rw [hr2]
        repeat (refine wkB ?_; try intro _)
        by_cases heq : A.In.From = A.In.To
        · simp only [decide_eq_true heq, Bool.not_true]
          repeat (refine wkB ?_; try intro _)
          have hP1 : P2 = (rn (cP us) us (m + 1)).P := by rw [hr2]; exact (if_pos heq).symm
          obtain ⟨s4, e1, e2⟩ := SlS.turn 47 hP1 s3
          have e3 : hS s4 = hS s3 := hS_eq (e1.trans (hS_v s3).symm)
          exact jx_loop ⟨m + 1, dn2, o2, s4⟩ ⟨hlt, hD1, q4⟩ sbB (by
            show List.Sublist (mS 35 o2 ++ (⟨b9, cRn (rn (cP us) us (m + 1)).I (hS s4), 35⟩ :: ⟨b8, #[vSl o2], 62⟩ :: (mS 47 s4 ++ dnB dn2))) _
            rw [hI1, e3, e2]
            exact List.Sublist.cons _ (List.Sublist.refl _)) (by show us.length - (m + 1) < us.length - m; omega)
        · simp only [decide_eq_false heq, Bool.not_false]
          repeat (refine wkB ?_; try intro _)
          (refine j_tree (.v [0, 2, 3, 4, 5, 6, 7] (.e2 1 (.e1 8 (.e1 9 (.v [10] (.e1 11 (.fin))))) 8 (.e1 1 (.e1 9 (.v [10] (.e1 11 (.fin))))))) ([⟨b12, e_api_PointUnit (q_api_PointUnit A), 68⟩]) (h := ?_); refine wkX ?_)
          (repeat (first | refine wkH ?_ | (refine tC rfl rfl ?_ ?_; focus (exact p2))))
          repeat (first | (refine wkT ?_; try intro _) | (refine tC rfl rfl ?_ ?_; focus (exact p2)) | (refine uC rfl rfl ?_ ?_; focus (exact p2)) | (refine eN rfl rfl ?_ ?_; (focus (exact p2)); intro _; (try simp only [List.cons_append, List.nil_append, List.append_nil])))
          have hP1 : P2 ++ [(⟨A.In.To.P, pos A.F A.In.To.P⟩ : SS)] = (rn (cP us) us (m + 1)).P := by rw [hr2]; exact (if_neg heq).symm
          refine And.intro ?_ ?_
          all_goals
            repeat (refine wkT ?_; try intro _)
            refine eU rfl rfl ?_ ?_ ?_ ?_
            · rfl
            · rfl
            · exact ⟨by decide, by omega, by omega⟩
            intro s4
            repeat (refine wkT ?_; try intro _)
            obtain ⟨s5, e1, e2⟩ := SlS.turn 47 hP1 s4
            have e3 : hS s5 = hS s4 := hS_eq (e1.trans (hS_v s4).symm)
            repeat (refine wkB ?_; try intro _)
            refine jx_loopP ⟨m + 1, dn2, o2, s5⟩ ⟨hlt, hD1, q4⟩ sbB ?_ (by show us.length - (m + 1) < us.length - m; omega)
            simp only [hI1, e3, e2]
            infer_instance
    · have hge : m = us.length := by have := of_decide_eq_false hc; omega
      obtain ⟨dn', hdn', hmap', hblk, hkk'⟩ := ended (I := (rn (cP us) us m).I) hdn hkk s2
      have hps : dn'.map (fun r => (r.I, r.pts)) = rns (cP us) us := by rw [hdn', hge]; rfl
      refine j_permL (mS 35 o ++ (⟨b9, cRn (rn (cP us) us m).I (hS s2), 35⟩ :: ⟨b8, #[vSl o], 62⟩ :: dnB dn')) ((((hblk.cons _).cons _).append_left _)) ?_
      repeat (refine wkB ?_; try intro _)
      refine sY rfl rfl ?_ ?_
      · exact ⟨by rw [List.length_map]; omega, by omega⟩
      intro o1
      obtain ⟨o', e1, e2⟩ := SlS.turn 35 hmap' o1
      simp only [← e1, ← e2]
      repeat (refine wkB ?_; try intro _)
      exact jx_ret_two rfl (resv_tmp rfl) (resv_tmp rfl) (fun w' hw' => ⟨⟨dn', o', hps, hkk'⟩, rfl, (hw'.sub suB).rebase hB1⟩)
end Go.Vt
/- The reference's runs, walked. Conditions: those that each statement names. -/
set_option linter.unusedSimpArgs false
set_option linter.unusedVariables false
set_option maxHeartbeats 2000000
set_option maxRecDepth 100000
namespace Go.Vt
open Go.RowKit Go.Proofs
/-- A run in memory has room for what its header says. -/
def RdC (r : RD) : Prop := r.pts.length ≤ r.c ∧ r.sp.length = (r.c - r.pts.length) * 12 ∧ r.pts ≠ []
theorem fst_zero {us : List PU} : fstU us 0 = true := rfl
theorem fst_pos {us : List PU} {m : Nat} (h : 0 < m) : fstU us m = !trn (gi us ((m - 1 : Nat) : Int)) (gi us (m : Int)) := by
  unfold fstU
  rw [decide_eq_false (by omega), Bool.false_or]
/-- What one more unit does to the runs. -/
theorem rn_step {us : List PU} {m : Nat} (hn : PNf us) (hm : m ≤ us.length) {all : List (R_api_Interval × List SS)} (h : all = if fstU us m = true then rnD (rn (fstU us) us m) ++ [((gi us (m : Int)).In, [smq (gi us (m : Int)).F (gi us (m : Int)).In.From])] else rnD (rn (fstU us) us m)) :
    ∃ D I P, all = D ++ [(I, P)] ∧ P ≠ [] ∧ P.length ≤ m + 2 ∧ rnD (rn (fstU us) us (m + 1)) = D ++ [(rnI (gi us (m : Int)) I, rnP (gi us (m : Int)) P)] := by
  have hr : rn (fstU us) us (m + 1) = if fstU us m = true then ⟨rnD (rn (fstU us) us m), rnI (gi us (m : Int)) (gi us (m : Int)).In, rnP (gi us (m : Int)) [smq (gi us (m : Int)).F (gi us (m : Int)).In.From]⟩ else ⟨(rn (fstU us) us m).dn, rnI (gi us (m : Int)) (rn (fstU us) us m).I, rnP (gi us (m : Int)) (rn (fstU us) us m).P⟩ := rfl
  rcases hf : fstU us m with _ | _
  · rw [hf] at h hr
    simp only [Bool.false_eq_true, if_false] at h hr
    have h0 : 0 < m := by
      rcases Nat.eq_zero_or_pos m with h0 | h0
      · subst h0; rw [fst_zero] at hf; cases hf
      · exact h0
    have hp := (rn_inv hn m hm).p h0
    have hl := rnP_len (gi us (m : Int)) (rn (fstU us) us m).P
    have hq := (rn_len (fstU us) us m).2.2.1
    refine ⟨(rn (fstU us) us m).dn, (rn (fstU us) us m).I, (rn (fstU us) us m).P, ?_, ?_, by omega, ?_⟩
    · rw [h]; exact rnD_ne hp
    · intro h1; rw [h1] at hp; simp at hp
    · rw [hr]; exact rnD_ne (s := ⟨(rn (fstU us) us m).dn, rnI (gi us (m : Int)) (rn (fstU us) us m).I, rnP (gi us (m : Int)) (rn (fstU us) us m).P⟩) (by show 1 ≤ (rnP _ _).length; omega)
  · rw [hf] at h hr
    simp only [if_true] at h hr
    have hl := rnP_len (gi us (m : Int)) [smq (gi us (m : Int)).F (gi us (m : Int)).In.From]
    refine ⟨_, _, _, h, by simp, by simp, ?_⟩
    rw [hr]
    exact rnD_ne (s := ⟨rnD (rn (fstU us) us m), rnI (gi us (m : Int)) (gi us (m : Int)).In, rnP (gi us (m : Int)) [smq (gi us (m : Int)).F (gi us (m : Int)).In.From]⟩) hl.1
theorem snoc_of {α β : Type} {f : α → β} {xs : List α} {D : List β} {p : β} (h : xs.map f = D ++ [p]) : ∃ ys y, xs = ys ++ [y] ∧ ys.map f = D ∧ f y = p := by
  have hne : xs ≠ [] := fun h0 => by rw [h0] at h; simp at h
  refine ⟨xs.dropLast, xs.getLast hne, (List.dropLast_concat_getLast hne).symm, ?_⟩
  rw [← List.dropLast_concat_getLast hne, List.map_append] at h
  have := List.append_inj' h rfl
  exact ⟨this.1, by simpa using this.2⟩
set_option maxHeartbeats 4000000 in
theorem rruns_spec (v : Value) (us : List PU) (w : World) (hv : ArgS w v rP us) (h : PFine us) :
    Calls Tryz.prog 35 [v].toArray w (RetM (RunsO (rns (fstU us) us)) (fun s => vSl s.o) (fun s => s.mem) w) := by
  have hul := h.l
  have hK : ∀ u ∈ us, UK BQ (toU u) := fun u hu => ⟨(h.k u hu).i.mono (by decide), (h.k u hu).f.mono (by decide)⟩
  have hnf : PNf us := ⟨h.nf, fun u hu => ⟨⟨(h.k u hu).i.r1, (h.k u hu).i.n1⟩, ⟨(h.k u hu).i.r2, (h.k u hu).i.n2⟩⟩⟩
  have hav := ArgC.mk hv
  obtain ⟨p, cp, rfl⟩ := hv.form
  refine fn_intro Tryz.func35 rfl Tryz.ntmps35 rfl ?_
  repeat (refine wkB ?_; try intro _)
  refine j_loop (S := (m : Nat) × (dn : List RD) × SlS rR 21 (dn.map RD.hd)) (fun q => q.1 ≤ us.length ∧ q.2.1.map (fun r => (r.I, r.pts)) = rnD (rn (fstU us) us q.1) ∧ ∀ r ∈ q.2.1, RdC r) (fun q => [(0, .slice p us.length cp), (3, vSl q.2.2), (4, .int .i64 (q.1 : Nat))])
    (fun q => mS 35 q.2.2 ++ dnB q.2.1) (fun q => us.length - q.1) ⟨0, [], SlS.no⟩ ⟨Nat.zero_le _, rfl, fun r hr => by cases hr⟩ sbB suB (fun q hq => ?_)
  obtain ⟨m, dn, o⟩ := q
  obtain ⟨hm, hdn, hrd⟩ := hq
  simp only at hm hdn hrd o ⊢
  have hrl := rn_len (fstU us) us m
  have hdl : dn.length ≤ m := by
    have := congrArg List.length hdn
    rw [List.length_map] at this
    omega
  repeat (refine wkB ?_; try intro _)
  refine j_cond rfl (fun hc => ?_) (fun hc => ?_)
  · have hlt : m < us.length := by have := of_decide_eq_true hc; omega
    have hne : us ≠ [] := fun h0 => by rw [h0] at hlt; simp at hlt
    obtain ⟨bw, ow, cw, hvw, hcw, hrow⟩ := hv.blk (k := 35) hne []
    injection hvw with e1 e2 e3
    subst e1
    subst e3
    have hrow' : ∀ L, RowC w L bw ow PU rP us := fun L => ⟨fun w' hw' => hrow.out w' (hw'.sub (List.nil_sublist _))⟩
    have hA := hK _ (gi_mem (i := (m : Int)) (xs := us) (by omega))
    repeat (refine wkB ?_; try intro _)
    refine j_cut (S := Bool) (fun f => f = fstU us m) (fun f => [(0, .slice (some ⟨bw, ow, none⟩) us.length cp), (3, vSl o), (4, .int .i64 (m : Nat)), (5, .bool f)]) (fun _ => mS 35 o ++ dnB dn) ?_ (fun f hf => ?_)
    · rcases Nat.eq_zero_or_pos m with h0 | h0
      · subst h0
        refine jD 16 16 (h := ?_)
        (repeat (refine wkH ?_))
        simp only [decide_eq_true (show ((0 : Nat) : Int) = 0 from rfl)]
        (repeat (refine wkH ?_))
        refine jh_nil ?_
        refine jn_nil ?_
        repeat (refine wkB ?_; try intro _)
        exact jx_mid true rfl sbB suB
      · have hB := hK _ (gi_mem (i := (m : Int) - 1) (xs := us) (by omega))
        have hfp := fst_pos (us := us) h0
        rw [show ((m - 1 : Nat) : Int) = (m : Int) - 1 by omega] at hfp
        refine jD 16 16 (h := ?_)
        (repeat (refine wkH ?_))
        simp only [decide_eq_false (show ¬ (m : Int) = 0 by omega)]
        (repeat (first | refine wkH ?_ | (refine tC rfl rfl ?_ ?_; focus (first | exact ⟨by omega, by omega⟩ | exact ⟨hB, hA⟩))))
        rw [← hfp]
        refine jh_nil ?_
        refine jn_nil ?_
        repeat (refine wkB ?_; try intro _)
        exact jx_mid (fstU us m) rfl sbB suB
    have hp1 : ∀ t : R_api_Real, t = (gi us (m : Int)).In.From ∨ t = (gi us (m : Int)).In.To → SmOk (gi us (m : Int)).F t := fun t ht => by
      rcases ht with rfl | rfl
      · exact ⟨hA.i.m1, hA.f⟩
      · exact ⟨hA.i.m2, hA.f⟩
    have q1 := hp1 _ (.inl rfl)
    have q2 := hp1 _ (.inr rfl)
    repeat (refine wkB ?_; try intro _)
    refine j_cut (S := (all : List RD) × SlS rR 21 (all.map RD.hd)) (fun q => q.1.map (fun r => (r.I, r.pts)) = (if f = true then rnD (rn (fstU us) us m) ++ [((gi us (m : Int)).In, [smq (gi us (m : Int)).F (gi us (m : Int)).In.From])] else rnD (rn (fstU us) us m)) ∧ ∀ r ∈ q.1, RdC r) (fun q => [(0, .slice (some ⟨bw, ow, none⟩) us.length cp), (3, vSl q.2), (4, .int .i64 (m : Nat))]) (fun q => mS 35 q.2 ++ dnB q.1) ?_ (fun q hq => ?_)
    · rcases f with _ | _
      · refine j_cond rfl (fun h => by cases h) (fun _ => ?_)
        refine j_skip ?_
        exact jx_mid ⟨dn, o⟩ ⟨hdn, hrd⟩ sbB suB
      · refine j_cond rfl (fun _ => ?_) (fun h => by cases h)
        clear hp1 hrl hc hav
        (refine j_tree (.v [0, 1, 2, 3, 4, 5, 6, 7, 8, 9, 10, 11, 12, 13, 14, 15, 16, 17] (.e1 18 (.v [19] (.e1 20 (.e1 21 (.e1 22 (.fin))))))) ([]) (h := ?_); refine wkX ?_)
        (repeat (first | refine wkH ?_ | (refine tC rfl rfl ?_ ?_; focus (exact q1))))
        repeat (first | (refine wkT ?_; try intro _) | (refine tC rfl rfl ?_ ?_; focus (exact q1)) | (refine uC rfl rfl ?_ ?_; focus (exact q1)) | (refine eN rfl rfl ?_ ?_; (focus (exact q1)); intro _; (try simp only [List.cons_append, List.nil_append, List.append_nil])))
        rename_i bN bL
        refine eU rfl rfl ?_ ?_ ?_ ?_
        · rfl
        · rfl
        · exact ⟨by decide, by rw [List.length_map]; omega, by rw [List.length_map]; omega⟩
        intro o1
        obtain ⟨o', e1, e2⟩ := SlS.turn 35 (show dn.map RD.hd ++ [⟨(gi us (m : Int)).In, ⟨some ⟨bN, 0, none⟩, 1, 1⟩⟩] = (dn ++ [(⟨(gi us (m : Int)).In, bN, 1, [smq (gi us (m : Int)).F (gi us (m : Int)).In.From], []⟩ : RD)]).map RD.hd by rw [List.map_append]; rfl) o1
        simp only [← e1, ← e2]
        repeat (refine wkT ?_; try intro _)
        refine jx_midP ⟨dn ++ [⟨(gi us (m : Int)).In, bN, 1, [smq (gi us (m : Int)).F (gi us (m : Int)).In.From], []⟩], o'⟩ ⟨?_, ?_⟩ sbB ?_
        · rw [List.map_append, hdn]
          exact (if_pos trivial).symm
        · intro r hr
          rcases List.mem_append.1 hr with k | k
          · exact hrd r k
          · rw [List.mem_singleton] at k
            subst k
            exact ⟨Nat.le_refl _, rfl, by simp⟩
        · exact sbp_of ((dnB_perm dn _).append_left _)
    · obtain ⟨all, o2⟩ := q
      obtain ⟨hall, hrd2⟩ := hq
      simp only at hall hrd2 o2 ⊢
      rw [hf] at hall
      obtain ⟨D, I0, P0, e4, e5, hpl, e6⟩ := rn_step hnf hm hall
      obtain ⟨ys, r, rfl, e7, e8⟩ := snoc_of e4
      obtain ⟨I, b, c, pts, sp⟩ := r
      injection e8 with e9 e10
      simp only at e9 e10
      subst e9
      subst e10
      have hr := hrd2 _ (List.mem_append_right _ (.head _))
      have hys : ys.length ≤ m := by
        have h1 := congrArg List.length e7
        have h2 := congrArg List.length e6
        have h3 := (rn_len (fstU us) us (m + 1)).1
        rw [List.length_map] at h1
        rw [List.length_append, List.length_singleton] at h2
        omega
      rcases o2.cases 35 with ⟨x0, x1, x2⟩ | ⟨bo, co, spo, hco, x1, x2, xne⟩
      · exact absurd x0 (by simp)
      rw [x1, x2]
      clear x1 x2 xne o2 hp1 hall hdn hrl
      have hmap : (ys ++ [(⟨I, b, c, pts, sp⟩ : RD)]).map RD.hd = ys.map RD.hd ++ [⟨I, ⟨some ⟨b, 0, none⟩, pts.length, c⟩⟩] := by rw [List.map_append]; rfl
      simp only [hmap] at hco ⊢
      have hhl : (ys.map RD.hd).length ≤ m := by rw [List.length_map]; exact hys
      have hback : ∀ (r' : RD) (sx : List Value) (hx : (ys.map RD.hd ++ [r'.hd]).length ≤ co ∧ sx.length = (co - (ys.map RD.hd ++ [r'.hd]).length) * 21), ∃ o' : SlS rR 21 ((ys ++ [r']).map RD.hd), vSl o' = .slice (some ⟨bo, 0, none⟩) ((ys.map RD.hd).length + 1) co ∧ mS 35 o' = [⟨bo, row rR (ys.map RD.hd ++ [r'.hd]) sx, 35⟩] := fun r' sx hx => by
        have hm2 : (ys ++ [r']).map RD.hd = ys.map RD.hd ++ [r'.hd] := by rw [List.map_append]; rfl
        rw [hm2]
        refine ⟨SlS.at_ bo co sx hx (by simp), ?_, rfl⟩
        show Value.slice _ (ys.map RD.hd ++ [r'.hd]).length co = _
        rw [List.length_append, List.length_singleton]
      rw [List.length_append, List.length_singleton] at hco
      simp only [List.length_append, List.length_singleton]
      refine j_permL ([⟨bo, row rR (ys.map RD.hd ++ [⟨I, ⟨some ⟨b, 0, none⟩, pts.length, c⟩⟩]) spo, 35⟩] ++ ⟨b, row rS pts sp, 47⟩ :: dnB ys) ((dnB_perm ys ⟨I, b, c, pts, sp⟩).append_left _) ?_
      rw [List.cons_append, List.nil_append]
      generalize ys.map RD.hd = hs at *
      have hgi := fun x : R_simplify_Run => gi_lastI hs x
      have hset := fun x y : R_simplify_Run => set_lastI hs x y
      have hsl : ∀ x : R_simplify_Run, (((hs.length + 1 : Nat) : Int) - 1).toNat < (hs ++ [x]).length := fun x => by rw [List.length_append, List.length_singleton]; omega
      repeat (refine wkB ?_; try intro _)
      (refine j_tree (.v [0, 1, 2, 3, 4, 5, 6, 7, 8, 9, 10, 11, 12, 13, 14, 15, 16] (.e1 17 (.v [18, 19, 20] (.e1 21 (.fin))))) ([]) (h := ?_); refine wkX ?_)
      (repeat (refine wkH ?_))
      repeat (refine wkT ?_; try intro _)
      refine eRF (i := ((hs.length + 1 : Nat) : Int) - 1) (f := 9) (⟨⟨I.From, (gi us (m : Int)).In.To, I.OpenFrom, I.OpenTo⟩, ⟨some ⟨b, 0, none⟩, pts.length, c⟩⟩ : R_simplify_Run) ?_ rfl ?_ ?_
      · first | (rw [hgi]; done) | (rw [hgi]; rfl)
      · exact hsl _
      rw [hset]
      repeat (refine wkT ?_; try intro _)
      refine eRF (i := ((hs.length + 1 : Nat) : Int) - 1) (f := 19) (⟨rnI (gi us (m : Int)) I, ⟨some ⟨b, 0, none⟩, pts.length, c⟩⟩ : R_simplify_Run) ?_ rfl ?_ ?_
      · first | (rw [hgi]; done) | (rw [hgi]; rfl)
      · exact hsl _
      rw [hset]
      repeat (refine wkT ?_; try intro _)
      refine jx_then ?_
      refine j_forget (E' := [(0, .slice (some ⟨bw, ow, none⟩) us.length cp), (3, .slice (some ⟨bo, 0, none⟩) (hs.length + 1) co), (4, .int .i64 (m : Nat)), (6, .pointer (some ⟨bo, 0 + (((hs.length + 1 : Nat) : Int) - 1).toNat * 21, none⟩))]) (L' := ⟨bo, row rR (hs ++ [⟨rnI (gi us (m : Int)) I, ⟨some ⟨b, 0, none⟩, pts.length, c⟩⟩]) spo, 35⟩ :: ⟨b, row rS pts sp, 47⟩ :: dnB ys) sbB (List.Sublist.refl _) ?_
      refine j_seq ?_
      (refine j_tree (.v [0, 1, 2, 3, 4, 5, 6, 7, 8, 9, 10, 11, 12] (.fin)) ([]) (h := ?_); refine wkX ?_)
      (repeat (refine wkH ?_))
      repeat (refine wkT ?_; try intro _)
      by_cases heq : (gi us (m : Int)).In.From = (gi us (m : Int)).In.To
      · simp only [decide_eq_true heq, Bool.not_true]
        repeat (refine wkB ?_; try intro _)
        obtain ⟨o3, v3, b3⟩ := hback ⟨rnI (gi us (m : Int)) I, b, c, pts, sp⟩ spo (by rw [List.length_append, List.length_singleton]; exact hco)
        refine jx_loopP ⟨m + 1, ys ++ [⟨rnI (gi us (m : Int)) I, b, c, pts, sp⟩], o3⟩ ⟨hlt, ?_, ?_⟩ ?_ ?_ (by show us.length - (m + 1) < us.length - m; omega)
        · rw [List.map_append, e7, e6]
          have : rnP (gi us (m : Int)) pts = pts := if_pos heq
          rw [this]
          rfl
        · intro r' hr'
          rcases List.mem_append.1 hr' with k | k
          · exact hrd2 _ (List.mem_append_left _ k)
          · rw [List.mem_singleton] at k
            subst k
            exact hr
        · simp only [v3]
          exact sbB
        · simp only [b3]
          exact sbp_of (A' := ⟨bo, row rR (hs ++ [⟨rnI (gi us (m : Int)) I, ⟨some ⟨b, 0, none⟩, pts.length, c⟩⟩]) spo, 35⟩ :: ⟨b, row rS pts sp, 47⟩ :: dnB ys) ((dnB_perm ys _).append_left [_])
      · simp only [decide_eq_false heq, Bool.not_false]
        repeat (refine wkB ?_; try intro _)
        (refine j_tree (.v [0, 1, 2, 3, 5, 6, 7, 8, 9, 10, 11, 12, 13, 14, 15, 16] (.e2 4 (.e1 17 (.e1 18 (.v [19, 20] (.e1 21 (.fin))))) 17 (.e1 4 (.e1 18 (.v [19, 20] (.e1 21 (.fin))))))) ([]) (h := ?_); refine wkX ?_)
        (repeat (first | refine wkH ?_ | (refine tC rfl rfl ?_ ?_; focus (exact q2))))
        refine And.intro ?_ ?_
        all_goals
          repeat (first | (refine wkT ?_; try intro _) | (refine tC rfl rfl ?_ ?_; focus (exact q2)) | (refine uC rfl rfl ?_ ?_; focus (exact q2)) | (refine eN rfl rfl ?_ ?_; (focus (exact q2)); intro _; (try simp only [List.cons_append, List.nil_append, List.append_nil])))
          refine uS rfl rfl (hsl _) ?_
          simp only [hgi]
          repeat (first | (refine wkT ?_; try intro _) | (refine tC rfl rfl ?_ ?_; focus (exact q2)) | (refine uC rfl rfl ?_ ?_; focus (exact q2)) | (refine eN rfl rfl ?_ ?_; (focus (exact q2)); intro _; (try simp only [List.cons_append, List.nil_append, List.append_nil])))
          refine eP rfl rfl ?_ ?_ ?_ ?_ ?_
          · rfl
          · exact ⟨hr.1, hr.2.1⟩
          · rfl
          · exact ⟨by omega, by omega⟩
          intro b' c' sp' g1 g2
          repeat (refine wkT ?_; try intro _)
          refine eRF (i := ((hs.length + 1 : Nat) : Int) - 1) (f := 20) (⟨rnI (gi us (m : Int)) I, ⟨some ⟨b', 0, none⟩, pts.length + 1, c'⟩⟩ : R_simplify_Run) ?_ rfl ?_ ?_
          · first | (rw [hgi]; done) | (rw [hgi]; rfl)
          · exact hsl _
          rw [hset]
          repeat (refine wkT ?_; try intro _)
          repeat (refine wkB ?_; try intro _)
          have hp3 : (pts ++ [smq (gi us (m : Int)).F (gi us (m : Int)).In.To]).length = pts.length + 1 := by simp
          obtain ⟨o3, v3, b3⟩ := hback ⟨rnI (gi us (m : Int)) I, b', c', pts ++ [smq (gi us (m : Int)).F (gi us (m : Int)).In.To], sp'⟩ spo (by rw [List.length_append, List.length_singleton]; exact hco)
          refine jx_loopP ⟨m + 1, ys ++ [⟨rnI (gi us (m : Int)) I, b', c', pts ++ [smq (gi us (m : Int)).F (gi us (m : Int)).In.To], sp'⟩], o3⟩ ⟨hlt, ?_, ?_⟩ ?_ ?_ (by show us.length - (m + 1) < us.length - m; omega)
          · rw [List.map_append, e7, e6]
            have : rnP (gi us (m : Int)) pts = pts ++ [smq (gi us (m : Int)).F (gi us (m : Int)).In.To] := if_neg heq
            rw [this]
            rfl
          · intro r' hr'
            rcases List.mem_append.1 hr' with k | k
            · exact hrd2 _ (List.mem_append_left _ k)
            · rw [List.mem_singleton] at k
              subst k
              exact ⟨by rw [hp3]; exact g1, by rw [hp3]; exact g2, by simp⟩
          · simp only [v3]
            exact sbB
          · simp only [b3]
            unfold RD.hd
            simp only [hp3]
            exact sbp_of (A' := ⟨bo, row rR (hs ++ [⟨rnI (gi us (m : Int)) I, ⟨some ⟨b', 0, none⟩, pts.length + 1, c'⟩⟩]) spo, 35⟩ :: ⟨b', row rS (pts ++ [smq (gi us (m : Int)).F (gi us (m : Int)).In.To]) sp', 47⟩ :: dnB ys) ((dnB_perm ys _).append_left [_])
  · have hge : m = us.length := by have := of_decide_eq_false hc; omega
    repeat (refine wkB ?_; try intro _)
    exact jx_ret_tmp rfl rfl (fun w' hw' => ⟨⟨dn, o, by rw [hdn, hge]; rfl, fun r hr => (hrd r hr).1⟩, rfl, hw'.sub suB⟩)
end Go.Vt
/- SimplifyRuns, walked. Conditions: those that each statement names. -/
set_option linter.unusedSimpArgs false
set_option linter.unusedVariables false
set_option maxHeartbeats 2000000
set_option maxRecDepth 100000
namespace Go.Vt
open Go.RowKit Go.Proofs
open Fv (va red)
structure RunA (w : World) (v : Value) (ps : List (R_api_Interval × List SS)) : Prop where
  ex : ∃ rs : List RD, rs.map (fun r => (r.I, r.pts)) = ps ∧ ArgS w v rR (rs.map RD.hd) ∧ ∀ r ∈ rs, ∃ T fz, w.heap[r.b]? = some (.cells (row rS r.pts r.sp) T fz)
class RunC (w0 : World) (L : List Blk) (v : Value) (ps : outParam (List (R_api_Interval × List SS))) : Prop where
  out : ∀ w, Own w0 L w → RunA w v ps
section
variable {ps : List (R_api_Interval × List SS)} {s : RunsO ps}
end
structure BOk (ps : List (R_api_Interval × List SS)) : Prop where
  l : ps.length ≤ 64
  p : ∀ p ∈ ps, p.2.length ≤ 1024 ∧ Bnd p.2
  n : (b1s ps).length ≤ 19
  u : ∀ u ∈ (b1s ps).map toU, UIn u
theorem buildR_spec (v : Value) (ps : List (R_api_Interval × List SS)) (w : World) (h : RunA w v ps) (hp : BOk ps) :
    Calls Tryz.prog 24 [v].toArray w (RetM (SlS rP 36 (mNorm (b1s ps))) (fun s => .tuple #[vSl s, .int .i64 (nrmE ((b1s ps).map toU))]) (fun s => mS 68 s) w) := by
  obtain ⟨rs, e1, a1, m1⟩ := h.ex
  have hb : bA rs rs.length = b1s ps := by rw [bA_b1s rs.length (Nat.le_refl _), List.take_length, e1]
  have hr : rs.length = ps.length := by rw [← e1, List.length_map]
  have key := build_spec v rs w a1 (by have := hp.l; omega) (fun r hr => by
    have hm : (r.I, r.pts) ∈ ps := by rw [← e1]; exact List.mem_map.2 ⟨r, hr, rfl⟩
    exact ⟨(hp.p _ hm).1, (hp.p _ hm).2, m1 r hr⟩) (by rw [hb]; exact hp.n) (by rw [hb, mpN_map]; exact hp.u)
  rw [hb, mpN_map toU] at key
  exact key
instance sr_buildR (w0 : World) (L : List Blk) (v : Value) (ps : List (R_api_Interval × List SS)) [h : RunC w0 L v ps] : SpecR Tryz.prog w0 L 24 [v] (SlS rP 36 (mNorm (b1s ps))) (fun s => .tuple #[vSl s, .int .i64 (nrmE ((b1s ps).map toU))]) (fun s => mS 68 s) (BOk ps) := ⟨fun hp w hw => buildR_spec v ps w (h.out w hw) hp⟩
theorem rns_same {us : List PU} (h : PNf us) : rns (cP us) us = rns (fstU us) us := by
  unfold rns
  rw [rn_congr (c := cP us) (d := fstU us) us.length (fun j hj => first_iff h hj)]
theorem PFine.pn {us : List PU} (h : PFine us) : PNf us := ⟨h.nf, fun u hu => ⟨⟨(h.k u hu).i.r1, (h.k u hu).i.n1⟩, ⟨(h.k u hu).i.r2, (h.k u hu).i.n2⟩⟩⟩
instance sr_runs (w0 : World) (L : List Blk) (v : Value) (us : List PU) [h : LstC w0 L v PU rP us] : SpecR Tryz.prog w0 L 28 [v] (RunsO (rns (fstU us) us)) (fun s => .tuple #[vSl s.o, .int .i64 0]) (fun s => s.mem) (PFine us) := ⟨fun hp w hw => by
  have key := runs_spec v us w (h.out w hw) hp
  rw [rns_same hp.pn] at key
  exact key⟩
instance sr_rruns (w0 : World) (L : List Blk) (v : Value) (us : List PU) [h : LstC w0 L v PU rP us] : SpecR Tryz.prog w0 L 35 [v] (RunsO (rns (fstU us) us)) (fun s => vSl s.o) (fun s => s.mem) (PFine us) := ⟨fun hp w hw => rruns_spec v us w (h.out w hw) hp⟩
/-- Each breakpoint of a run is the place of a unit at one of its ends. -/
def OfU (l : List PU) (s : SS) : Prop := ∃ u ∈ l, s = smq u.F u.In.From ∨ s = smq u.F u.In.To
theorem rn_of {c : Nat → Bool} {l : List PU} : ∀ m, m ≤ l.length → ((∀ p ∈ (rn c l m).dn, ∀ s ∈ p.2, OfU l s) ∧ ∀ s ∈ (rn c l m).P, OfU l s)
  | 0, _ => ⟨(fun p hp => by cases hp), (fun s hs => by cases hs)⟩
  | m + 1, hm => by
    obtain ⟨h1, h2⟩ := rn_of (c := c) (l := l) m (by omega)
    have hu : gi l (m : Int) ∈ l := gi_mem (by omega)
    have hP : ∀ P : List SS, (∀ s ∈ P, OfU l s) → ∀ s ∈ rnP (gi l (m : Int)) P, OfU l s := fun P hP s hs => by
      unfold rnP at hs
      split at hs
      · exact hP s hs
      · rcases List.mem_append.1 hs with k | k
        · exact hP s k
        · exact ⟨_, hu, .inr (List.mem_singleton.1 k)⟩
    have hD : ∀ p ∈ rnD (rn c l m), ∀ s ∈ p.2, OfU l s := fun p hp => by
      unfold rnD at hp
      split at hp
      · exact h1 p hp
      · rcases List.mem_append.1 hp with k | k
        · exact h1 p k
        · rw [List.mem_singleton.1 k]
          exact h2
    rw [rn]
    split
    · exact ⟨hD, hP _ fun s hs => ⟨_, hu, .inl (List.mem_singleton.1 hs)⟩⟩
    · exact ⟨h1, hP _ h2⟩
theorem rns_of {c : Nat → Bool} {l : List PU} : ∀ p ∈ rns c l, ∀ s ∈ p.2, OfU l s := fun p hp => by
  obtain ⟨h1, h2⟩ := rn_of (c := c) (l := l) l.length (Nat.le_refl _)
  unfold rns rnD at hp
  split at hp
  · exact h1 p hp
  · rcases List.mem_append.1 hp with k | k
    · exact h1 p k
    · rw [List.mem_singleton.1 k]
      exact h2
theorem rns_len (c : Nat → Bool) (l : List PU) : (rns c l).length ≤ l.length ∧ ∀ p ∈ rns c l, p.2.length ≤ l.length + 1 := by
  obtain ⟨h1, h2, h3, h4⟩ := rn_len c l l.length
  refine ⟨h1, fun p hp => ?_⟩
  unfold rns rnD at hp
  split at hp
  · exact h4 p hp
  · rcases List.mem_append.1 hp with k | k
    · exact h4 p k
    · rw [List.mem_singleton.1 k]
      exact h3
theorem good_fine {n : Nat} {us : List PU} (h : PGood 276 n us) (hn : n ≤ 19) : PFine us := ⟨h.nf.nf, fun u hu => (h.k u hu).uin (by decide), Nat.le_trans h.n hn⟩
theorem smq_K {u : PU} (h : UK 276 (toU u)) {t : R_api_Real} (ht : M t.P ≤ 276) : M (smq u.F t).T ≤ PB ∧ M (smq u.F t).P.X ≤ PB ∧ M (smq u.F t).P.Y ≤ PB := by
  have h1 := lred_K h.f ht
  exact ⟨Nat.le_trans ht (by decide), Nat.le_trans h1.x0 (by decide), Nat.le_trans h1.y0 (by decide)⟩
theorem rns_ok {us : List PU} (h : PGood 276 12 us) : BOk (rns (fstU us) us) := by
  have hl := rns_len (fstU us) us
  have hn := h.n
  have hf := good_fine h (by decide)
  refine ⟨by omega, fun p hp => ⟨by have := hl.2 p hp; omega, bnd_of fun s hs => ?_⟩, by rw [rns_law h.nf]; omega, fun u hu => ?_⟩
  · obtain ⟨u, hu, k | k⟩ := rns_of p hp s hs
    · rw [k]; exact smq_K (h.k u hu) (h.k u hu).i.m1
    · rw [k]; exact smq_K (h.k u hu) (h.k u hu).i.m2
  · rw [rns_law h.nf] at hu
    obtain ⟨x, hx, rfl⟩ := List.mem_map.1 hu
    exact hf.k x hx
instance ld_e2C (a b : Int) : LdC Tryz.prog 58 (e2C a b) 0 (.agg (e2C a b)) := ⟨ldv_agg 2 (by kernel_rfl) (by kernel_rfl) (by kernel_rfl)⟩
end Go.Vt
/- Which lists of indices can be kept; a run with some of its breakpoints: walked. Conditions: those that each statement names. -/
set_option linter.unusedSimpArgs false
set_option linter.unusedVariables false
set_option maxHeartbeats 2000000
set_option maxRecDepth 100000
namespace Go.Vt
open Go.RowKit Go.Proofs
def ir (ks : List Int) : Nat → Bool
  | 0 => true
  | m + 1 => ir ks m && decide (gi ks (m : Int) < gi ks ((m + 1 : Nat) : Int))
def rgt (n : Nat) (ks : List Int) : Bool := decide (ks ≠ []) && decide (gi ks 0 = 0) && decide (gi ks ((ks.length : Int) - 1) = (n : Int) - 1) && ir ks (ks.length - 1)
theorem right_spec (I : R_api_Interval) (b n c : Nat) (ks : List Int) (v : Value) (hn : 1 ≤ n ∧ n ≤ 1099511627776) (hks : ks.length ≤ 9223372036854775807) (w : World) (hv : ArgS w v (eI .i64) ks) :
    Calls Tryz.prog 116 [vRun I b n c, v].toArray w (Ret (.bool (rgt n ks)) w) := by
  obtain ⟨p, cp, rfl⟩ := hv.form
  refine fn_intro Tryz.func116 rfl Tryz.ntmps116 rfl ?_
  repeat (refine wkB ?_; try intro _)
  rename_i b2
  (refine j_phases [([0, 1, 2, 3, 4, 5, 6, 7, 8, 9, 10, 11, 12, 13, 14, 15, 16, 17, 18, 19, 20, 21], [])] ([⟨b2, cRun I b n c, 35⟩]) (h := ?_); refine wkP ?_)
  (repeat (refine wkH ?_))
  by_cases hne : ks = []
  · subst hne
    simp only [List.length_nil, decide_eq_true (show ((0 : Nat) : Int) = 0 from rfl)]
    (repeat (refine wkH ?_))
    repeat (refine wkT ?_; try intro _)
    repeat (refine wkB ?_; try intro _)
    exact jx_ret_tmp rfl rfl (fun w hw => ret_ok hw)
  have hlp : 0 < ks.length := List.length_pos_iff.2 hne
  simp only [decide_eq_false (show ¬ ((ks.length : Nat) : Int) = 0 by omega)]
  obtain ⟨bw, ow, cw, hvw, hcw, hrow⟩ := hv.blk (k := 0) hne []
  injection hvw with e1 e2 e3
  subst e1
  subst e3
  have hrow' : ∀ L, RowC w L bw ow Int (eI .i64) ks := fun L => ⟨fun w' hw' => hrow.out w' (hw'.sub (List.nil_sublist _))⟩
  (repeat (first | refine wkH ?_ | (refine tC rfl rfl ?_ ?_; focus (exact ⟨by omega, by omega⟩))))
  by_cases h0 : gi ks 0 = 0
  · simp only [decide_eq_true h0, Bool.not_true]
    (repeat (first | refine wkH ?_ | (refine tC rfl rfl ?_ ?_; focus (exact ⟨by omega, by omega⟩))))
    repeat (refine wkT ?_; try intro _)
    by_cases h1 : gi ks ((ks.length : Int) - 1) = (n : Int) - 1
    · simp only [decide_eq_true h1, Bool.not_true]
      repeat (refine wkB ?_; try intro _)
      refine j_loop (S := Nat) (fun m => m + 1 ≤ ks.length ∧ ir ks m = true) (fun m => [(1, .slice (some ⟨bw, ow, none⟩) ks.length cp), (5, .int .i64 ((m + 1 : Nat) : Int))]) (fun _ => []) (fun m => ks.length - m) 0 ⟨by omega, rfl⟩ sbB slB (fun m hm => ?_)
      obtain ⟨hm1, hm2⟩ := hm
      repeat (refine wkB ?_; try intro _)
      refine j_cond rfl (fun h => ?_) (fun h => ?_)
      · have hlt : m + 1 < ks.length := by have := of_decide_eq_true h; omega
        have e4 : ((m + 1 : Nat) : Int) - 1 = (m : Int) := by omega
        repeat (first | (refine wkB ?_; try intro _) | (refine sC rfl rfl ?_ ?_; focus (exact ⟨by omega, by omega⟩)) | (refine sN rfl rfl ?_ ?_; (focus (exact ⟨by omega, by omega⟩)); intro _; (try simp only [List.cons_append, List.nil_append, List.append_nil])))
        (refine j_phases [([0, 1, 2, 3, 4, 5, 6, 7, 8, 9], [])] ([]) (h := ?_); refine wkP ?_)
        (repeat (first | refine wkH ?_ | (refine tC rfl rfl ?_ ?_; focus (exact ⟨by omega, by omega⟩))))
        simp only [e4]
        (repeat (first | refine wkH ?_ | (refine tC rfl rfl ?_ ?_; focus (exact ⟨by omega, by omega⟩))))
        repeat (refine wkT ?_; try intro _)
        by_cases hle : gi ks ((m + 1 : Nat) : Int) ≤ gi ks (m : Int)
        · have hir : ∀ d, ir ks (m + 1 + d) = false := fun d => by
            induction d with
            | zero => rw [Nat.add_zero, ir, decide_eq_false (by omega), Bool.and_false]
            | succ d ih => rw [← Nat.add_assoc, ir, ih, Bool.false_and]
          have hr : rgt n ks = false := by
            unfold rgt
            rw [show ks.length - 1 = m + 1 + (ks.length - 1 - (m + 1)) by omega, hir, Bool.and_false]
          rw [hr]
          simp only [decide_eq_true hle]
          repeat (refine wkB ?_; try intro _)
          exact jx_ret_tmp rfl rfl (fun w hw => ret_ok hw)
        · simp only [decide_eq_false hle]
          repeat (refine wkB ?_; try intro _)
          exact jx_loop (m + 1) ⟨by omega, by rw [ir, hm2, decide_eq_true (by omega)]; rfl⟩ sbB slB (by omega)
      · have hge : ks.length - 1 = m := by have := of_decide_eq_false h; omega
        have hr : rgt n ks = true := by
          unfold rgt
          rw [decide_eq_true h0, decide_eq_true h1, hge, hm2, decide_eq_true hne]
          rfl
        rw [hr]
        repeat (refine wkB ?_; try intro _)
        exact jx_ret_tmp rfl rfl (fun w hw => ret_ok hw)
    · have hr : rgt n ks = false := by
        unfold rgt
        rw [decide_eq_false h1, Bool.and_false, Bool.false_and]
      rw [hr]
      simp only [decide_eq_false h1, Bool.not_false]
      repeat (refine wkB ?_; try intro _)
      exact jx_ret_tmp rfl rfl (fun w hw => ret_ok hw)
  · have hr : rgt n ks = false := by
      unfold rgt
      rw [decide_eq_false h0, Bool.and_false, Bool.false_and, Bool.false_and]
    rw [hr]
    simp only [decide_eq_false h0, Bool.not_false]
    (repeat (first | refine wkH ?_ | (refine tC rfl rfl ?_ ?_; focus (exact ⟨by omega, by omega⟩))))
    repeat (refine wkT ?_; try intro _)
    repeat (refine wkB ?_; try intro _)
    exact jx_ret_tmp rfl rfl (fun w hw => ret_ok hw)
theorem ArgS.own {w0 w : World} {L : List Blk} {b c : Nat} {ks : List Int} {sp : List Value} {T : TypeId} (h : AtC w0 L b (row (eI .i64) ks sp) T) (hw : Own w0 L w) (hc : ks.length ≤ c) : ArgS w (vL b ks c) (eI .i64) ks := by
  obtain ⟨fz, hb⟩ := h.out w hw
  refine ⟨.inr ⟨⟨b, 0, none⟩, c, rfl, hc, fun i f k u hi hk hu => ?_⟩⟩
  rw [addr_add, cell_block hb]
  obtain rfl : k = 1 := by rw [← hk ks[i]]; rfl
  have hf : f < 1 := by
    rcases Nat.lt_or_ge f 1 with h1 | h1
    · exact h1
    · rw [Array.getElem?_eq_none (by rw [hk]; exact h1)] at hu
      cases hu
  rw [Nat.zero_add, row_get ks sp i f hi hf]
  exact hu
instance sm_right (w0 : World) (L : List Blk) (I : R_api_Interval) (b n c : Nat) (ks : List Int) (v : Value) [h : ArgC w0 v Int (eI .i64) ks] : SpecM Tryz.prog w0 L 116 [vRun I b n c, v] (.bool (rgt n ks)) ((1 ≤ n ∧ n ≤ 1099511627776) ∧ ks.length ≤ 9223372036854775807) := ⟨fun hp w hw => right_spec I b n c ks v hp.1 hp.2 w (h.out.to hw.ext)⟩
theorem ir_lt {ks : List Int} : ∀ d, ir ks d = true → ∀ m, m < d → gi ks (m : Int) < gi ks ((m + 1 : Nat) : Int)
  | 0, _, m, hm => by omega
  | d + 1, h, m, hm => by
    rw [ir, Bool.and_eq_true, decide_eq_true_eq] at h
    rcases (by omega : m < d ∨ m = d) with h1 | rfl
    · exact ir_lt d h.1 m h1
    · exact h.2
theorem ir_mono {ks : List Int} {d : Nat} (h : ir ks d = true) : ∀ e m, m + e ≤ d → gi ks (m : Int) ≤ gi ks ((m + e : Nat) : Int)
  | 0, m, _ => Int.le_refl _
  | e + 1, m, hm => by
    have h1 := ir_mono h e m (by omega)
    have h2 := ir_lt d h (m + e) (by omega)
    rw [← Nat.add_assoc]
    omega
theorem rgt_spec {n : Nat} {ks : List Int} (h : rgt n ks = true) : ks ≠ [] ∧ gi ks 0 = 0 ∧ gi ks ((ks.length : Int) - 1) = (n : Int) - 1 ∧ ∀ m, m + 1 < ks.length → 0 ≤ gi ks (m : Int) ∧ gi ks (m : Int) < gi ks ((m + 1 : Nat) : Int) ∧ gi ks ((m + 1 : Nat) : Int) < n := by
  unfold rgt at h
  simp only [Bool.and_eq_true, decide_eq_true_eq] at h
  obtain ⟨⟨⟨h1, h2⟩, h3⟩, h4⟩ := h
  refine ⟨h1, h2, h3, fun m hm => ?_⟩
  have g1 := ir_mono h4 m 0 (by omega)
  have g2 := ir_lt _ h4 m (by omega)
  have g3 := ir_mono h4 (ks.length - 1 - (m + 1)) (m + 1) (by omega)
  rw [show (m + 1 + (ks.length - 1 - (m + 1)) : Nat) = ks.length - 1 by omega, show ((ks.length - 1 : Nat) : Int) = (ks.length : Int) - 1 by omega, h3] at g3
  rw [Nat.zero_add] at g1
  have h2' : gi ks ((0 : Nat) : Int) = 0 := h2
  omega
def kp (pts : List R_movingpoint_Sample) (ks : List Int) : Nat → List R_movingpoint_Sample
  | 0 => []
  | m + 1 => kp pts ks m ++ [gi pts (gi ks (m : Int))]
theorem kp_len (pts : List R_movingpoint_Sample) (ks : List Int) : ∀ m, (kp pts ks m).length = m
  | 0 => rfl
  | m + 1 => by rw [kp, List.length_append, kp_len pts ks m]; rfl
theorem keep_spec (I : R_api_Interval) (b n c : Nat) (pts : List R_movingpoint_Sample) (sp : List Value) (T : TypeId) (ks : List Int) (v : Value) (hr : RunOk pts n c) (hn : 1 ≤ n) (hks : ks.length ≤ 1048576) (hrg : rgt n ks = true) (w : World) (hw : ∃ fz, w.heap[b]? = some (.cells (row rS pts sp) T fz)) (hv : ArgS w v (eI .i64) ks) :
    Calls Tryz.prog 79 [vRun I b n c, v].toArray w (RetM { s : Nat × Nat × List Value // ks.length ≤ s.2.1 } (fun s => .tuple #[vRun I s.1.1 ks.length s.1.2.1, .int .i64 0]) (fun s => [⟨s.1.1, row rS (kp pts ks ks.length) s.1.2.2, 47⟩]) w) := by
  have := FoC.mk hw
  have := ArgC.mk hv
  have hr2 := hr.2.2.1
  obtain ⟨hne, h0, hl1, hinc⟩ := rgt_spec hrg
  have hlp : 0 < ks.length := List.length_pos_iff.2 hne
  obtain ⟨bw, ow, cw, hvw, hcw, hrow⟩ := hv.blk (k := 0) hne []
  subst hvw
  have hrow' : ∀ L, RowC w L bw ow Int (eI .i64) ks := fun L => ⟨fun w' hw' => hrow.out w' (hw'.sub (List.nil_sublist _))⟩
  refine fn_intro Tryz.func79 rfl Tryz.ntmps79 rfl ?_
  repeat (first | (refine wkB ?_; try intro _) | (refine sC rfl rfl ?_ ?_; focus (exact ⟨⟨hn, hr2⟩, by omega⟩)) | (refine sN rfl rfl ?_ ?_; (focus (exact ⟨⟨hn, hr2⟩, by omega⟩)); intro _; (try simp only [List.cons_append, List.nil_append, List.append_nil])))
  simp only [hrg, Bool.not_true]
  repeat (refine wkB ?_; try intro _)
  rename_i b2 b4 b6
  refine j_loop (S := Nat × Option (Nat × Nat × List Value)) (fun s => s.1 ≤ ks.length ∧ (s.2 = none ↔ s.1 = 0) ∧ ∀ t, s.2 = some t → s.1 ≤ t.2.1 ∧ t.2.2.length = (t.2.1 - s.1) * 12) (fun s => [(17, .slice (some ⟨bw, ow, none⟩) ks.length cw), (18, .int .i64 (ks.length : Nat)), (19, .int .i64 (s.1 : Nat)), (2, .pointer (some ⟨b2, 0, none⟩)), (4, .pointer (some ⟨b4, 0, none⟩)), (6, .pointer (some ⟨b6, 0, none⟩))])
    (fun s => mSl 47 (kp pts ks s.1) s.2 ++ [⟨b6, e_simplify_Run (q_simplify_Run ⟨I, hSl (kp pts ks s.1).length s.2⟩), 35⟩, ⟨b4, e_simplify_Run (q_simplify_Run zR_simplify_Run), 35⟩, ⟨b2, cRun I b n c, 35⟩]) (fun s => ks.length - s.1) (0, none)
    ⟨Nat.zero_le _, by simp, by simp⟩ sbB slB (fun s hs => ?_)
  obtain ⟨m, og⟩ := s
  obtain ⟨hm1, hog, hogs⟩ := hs
  simp only at hm1 hog hogs ⊢
  repeat (refine wkB ?_; try intro _)
  refine j_cond rfl (fun h => ?_) (fun h => ?_)
  · have hlt : m < ks.length := by have := of_decide_eq_true h; omega
    have hk : 0 ≤ gi ks (m : Int) ∧ gi ks (m : Int) < n := by
      cases m with
      | zero => exact ⟨by rw [show gi ks ((0 : Nat) : Int) = 0 from h0]; exact Int.le_refl _, by rw [show gi ks ((0 : Nat) : Int) = 0 from h0]; omega⟩
      | succ m => have := hinc m hlt; omega
    have hkl : (gi ks (m : Int)).toNat < pts.length := by rw [hr.1]; omega
    have elen : (kp pts ks m).length + 1 = (kp pts ks (m + 1)).length := by rw [kp_len, kp_len]
    have hpl := kp_len pts ks m
    rcases og with _ | ⟨bo, co, so⟩
    · have hm0 := hog.1 rfl
      subst hm0
      simp only [mSl, hSl, List.nil_append]
      repeat (first | (refine wkB ?_; try intro _) | (refine sC rfl rfl ?_ ?_; focus (exact ⟨by omega, by omega⟩)) | (refine sN rfl rfl ?_ ?_; (focus (exact ⟨by omega, by omega⟩)); intro _; (try simp only [List.cons_append, List.nil_append, List.append_nil])))
      (refine j_late2 [0, 1, 2, 3, 4, 5, 6] [7, 8] [9, 10] ([⟨b6, e_simplify_Run (q_simplify_Run ⟨I, ⟨none, 0, 0⟩⟩), 35⟩, ⟨b2, cRun I b n c, 35⟩]) (h := ?_); refine wkI ?_)
      (repeat (first | refine wkH ?_ | (refine tC rfl rfl ?_ ?_; focus (exact ⟨by omega, by omega⟩))))
      refine jh_nil ?_
      refine eB rfl rfl ?_
      intro bN
      refine eP0 rfl rfl ?_ rfl ?_ ?_
      · rfl
      · exact ⟨by omega, by omega, by omega⟩
      intro b' c' sp' h1 h2
      refine eX rfl rfl ?_
      refine eF rfl ?_
      refine je_nil ?_
      repeat (first | (refine wkB ?_; try intro _) | (refine sC rfl rfl ?_ ?_; focus (exact ⟨by omega, by omega⟩)) | (refine sN rfl rfl ?_ ?_; (focus (exact ⟨by omega, by omega⟩)); intro _; (try simp only [List.cons_append, List.nil_append, List.append_nil])))
      exact jx_loop (1, some (b', c', sp')) ⟨by omega, by simp, fun t ht => by injection ht with ht; subst ht; exact ⟨h1, h2⟩⟩ sbB (by simp only [mSl, hSl, List.cons_append, List.nil_append]; exact slB) (by simp only; omega)
    · have hsp := hogs _ rfl
      simp only [mSl, hSl, List.cons_append, List.nil_append] at hsp ⊢
      repeat (first | (refine wkB ?_; try intro _) | (refine sC rfl rfl ?_ ?_; focus (exact ⟨by omega, by omega⟩)) | (refine sN rfl rfl ?_ ?_; (focus (exact ⟨by omega, by omega⟩)); intro _; (try simp only [List.cons_append, List.nil_append, List.append_nil])))
      (refine j_late2 [0, 1, 2, 3, 4, 5, 6] [7, 8] [9, 10] ([⟨b6, e_simplify_Run (q_simplify_Run ⟨I, ⟨some ⟨bo, 0, none⟩, (kp pts ks m).length, co⟩⟩), 35⟩, ⟨b2, cRun I b n c, 35⟩]) (h := ?_); refine wkI ?_)
      (repeat (first | refine wkH ?_ | (refine tC rfl rfl ?_ ?_; focus (exact ⟨by omega, by omega⟩))))
      refine jh_nil ?_
      refine eB rfl rfl ?_
      intro bN
      refine eP rfl rfl ?_ ?_ ?_ ?_ ?_
      · rfl
      · rw [hpl]; exact hsp
      · rfl
      · exact ⟨by omega, by omega⟩
      intro b' c' sp' h1 h2
      rw [elen]
      refine eX rfl rfl ?_
      refine eF rfl ?_
      refine je_nil ?_
      repeat (first | (refine wkB ?_; try intro _) | (refine sC rfl rfl ?_ ?_; focus (exact ⟨by omega, by omega⟩)) | (refine sN rfl rfl ?_ ?_; (focus (exact ⟨by omega, by omega⟩)); intro _; (try simp only [List.cons_append, List.nil_append, List.append_nil])))
      exact jx_loop (m + 1, some (b', c', sp')) ⟨by omega, by simp, fun t ht => by injection ht with ht; subst ht; rw [hpl] at h1 h2; exact ⟨h1, h2⟩⟩ sbB (by simp only [mSl, hSl, List.cons_append, List.nil_append]; exact slB) (by simp only; omega)
  · have hge : m = ks.length := by have := of_decide_eq_false h; omega
    subst hge
    rcases og with _ | ⟨bo, co, so⟩
    · have := hog.1 rfl
      omega
    · have hsp := hogs _ rfl
      simp only [mSl, hSl, List.cons_append, List.nil_append] at hsp ⊢
      repeat (refine wkB ?_; try intro _)
      exact jx_ret_two rfl (wr_cell rfl) (resv_tmp rfl) (fun w hw => ⟨⟨(bo, co, so), hsp.1⟩, by rw [kp_len], hw.sub slB⟩)
theorem rkeep_spec (I : R_api_Interval) (b n c : Nat) (pts : List R_movingpoint_Sample) (sp : List Value) (T : TypeId) (ks : List Int) (bk ck : Nat) (spk : List Value) (Tk : TypeId) (hr : RunOk pts n c) (hn : 1 ≤ n) (hks : ks.length ≤ 1048576) (hrg : rgt n ks = true) (w : World) (hw : ∃ fz, w.heap[b]? = some (.cells (row rS pts sp) T fz)) (hv : ∃ fz, w.heap[bk]? = some (.cells (row (eI .i64) ks spk) Tk fz)) :
    Calls Tryz.prog 86 [vRun I b n c, vL bk ks ck].toArray w (RetM { s : Nat × Nat × List Value // ks.length ≤ s.2.1 } (fun s => vRun I s.1.1 ks.length s.1.2.1) (fun s => [⟨s.1.1, row rS (kp pts ks ks.length) s.1.2.2, 47⟩]) w) := by
  have := FoC.mk hw
  have := FoC.mk hv
  have hr2 := hr.2.2.1
  obtain ⟨hne, h0, hl1, hinc⟩ := rgt_spec hrg
  have hlp : 0 < ks.length := List.length_pos_iff.2 hne
  refine fn_intro Tryz.func86 rfl Tryz.ntmps86 rfl ?_
  repeat (refine wkB ?_; try intro _)
  rename_i b2 b4 b6
  refine j_loop (S := Nat × Option (Nat × Nat × List Value)) (fun s => s.1 ≤ ks.length ∧ (s.2 = none ↔ s.1 = 0) ∧ ∀ t, s.2 = some t → s.1 ≤ t.2.1 ∧ t.2.2.length = (t.2.1 - s.1) * 12) (fun s => [(1, .slice (some ⟨bk, 0, none⟩) ks.length ck), (6, .int .i64 (s.1 : Nat)), (2, .pointer (some ⟨b2, 0, none⟩)), (4, .pointer (some ⟨b4, 0, none⟩)), (5, .pointer (some ⟨b6, 0, none⟩))])
    (fun s => mSl 47 (kp pts ks s.1) s.2 ++ [⟨b6, e_simplify_Run (q_simplify_Run ⟨I, hSl (kp pts ks s.1).length s.2⟩), 35⟩, ⟨b4, e_simplify_Run (q_simplify_Run zR_simplify_Run), 35⟩, ⟨b2, cRun I b n c, 35⟩]) (fun s => ks.length - s.1) (0, none)
    ⟨Nat.zero_le _, by simp, by simp⟩ sbB slB (fun s hs => ?_)
  obtain ⟨m, og⟩ := s
  obtain ⟨hm1, hog, hogs⟩ := hs
  simp only at hm1 hog hogs ⊢
  repeat (refine wkB ?_; try intro _)
  refine j_cond rfl (fun h => ?_) (fun h => ?_)
  · have hlt : m < ks.length := by have := of_decide_eq_true h; omega
    have hk : 0 ≤ gi ks (m : Int) ∧ gi ks (m : Int) < n := by
      cases m with
      | zero => exact ⟨by rw [show gi ks ((0 : Nat) : Int) = 0 from h0]; exact Int.le_refl _, by rw [show gi ks ((0 : Nat) : Int) = 0 from h0]; omega⟩
      | succ m => have := hinc m hlt; omega
    have hkl : (gi ks (m : Int)).toNat < pts.length := by rw [hr.1]; omega
    have elen : (kp pts ks m).length + 1 = (kp pts ks (m + 1)).length := by rw [kp_len, kp_len]
    have hpl := kp_len pts ks m
    rcases og with _ | ⟨bo, co, so⟩
    · have hm0 := hog.1 rfl
      subst hm0
      simp only [mSl, hSl, List.nil_append]
      repeat (first | (refine wkB ?_; try intro _) | (refine sC rfl rfl ?_ ?_; focus (exact ⟨by omega, by omega⟩)) | (refine sN rfl rfl ?_ ?_; (focus (exact ⟨by omega, by omega⟩)); intro _; (try simp only [List.cons_append, List.nil_append, List.append_nil])))
      (refine j_late2 [0, 1, 2, 3, 4, 5, 6, 7, 8, 9] [10, 11] [12, 13] ([⟨b6, e_simplify_Run (q_simplify_Run ⟨I, ⟨none, 0, 0⟩⟩), 35⟩, ⟨b2, cRun I b n c, 35⟩]) (h := ?_); refine wkI ?_)
      (repeat (first | refine wkH ?_ | (refine tC rfl rfl ?_ ?_; focus (exact ⟨by omega, by omega⟩))))
      refine jh_nil ?_
      refine eB rfl rfl ?_
      intro bN
      refine eP0 rfl rfl ?_ rfl ?_ ?_
      · rfl
      · exact ⟨by omega, by omega, by omega⟩
      intro b' c' sp' h1 h2
      refine eX rfl rfl ?_
      refine eF rfl ?_
      refine je_nil ?_
      repeat (first | (refine wkB ?_; try intro _) | (refine sC rfl rfl ?_ ?_; focus (exact ⟨by omega, by omega⟩)) | (refine sN rfl rfl ?_ ?_; (focus (exact ⟨by omega, by omega⟩)); intro _; (try simp only [List.cons_append, List.nil_append, List.append_nil])))
      exact jx_loop (1, some (b', c', sp')) ⟨by omega, by simp, fun t ht => by injection ht with ht; subst ht; exact ⟨h1, h2⟩⟩ sbB (by simp only [mSl, hSl, List.cons_append, List.nil_append]; exact slB) (by simp only; omega)
    · have hsp := hogs _ rfl
      simp only [mSl, hSl, List.cons_append, List.nil_append] at hsp ⊢
      repeat (first | (refine wkB ?_; try intro _) | (refine sC rfl rfl ?_ ?_; focus (exact ⟨by omega, by omega⟩)) | (refine sN rfl rfl ?_ ?_; (focus (exact ⟨by omega, by omega⟩)); intro _; (try simp only [List.cons_append, List.nil_append, List.append_nil])))
      (refine j_late2 [0, 1, 2, 3, 4, 5, 6, 7, 8, 9] [10, 11] [12, 13] ([⟨b6, e_simplify_Run (q_simplify_Run ⟨I, ⟨some ⟨bo, 0, none⟩, (kp pts ks m).length, co⟩⟩), 35⟩, ⟨b2, cRun I b n c, 35⟩]) (h := ?_); refine wkI ?_)
      (repeat (first | refine wkH ?_ | (refine tC rfl rfl ?_ ?_; focus (exact ⟨by omega, by omega⟩))))
      refine jh_nil ?_
      refine eB rfl rfl ?_
      intro bN
      refine eP rfl rfl ?_ ?_ ?_ ?_ ?_
      · rfl
      · rw [hpl]; exact hsp
      · rfl
      · exact ⟨by omega, by omega⟩
      intro b' c' sp' h1 h2
      rw [elen]
      refine eX rfl rfl ?_
      refine eF rfl ?_
      refine je_nil ?_
      repeat (first | (refine wkB ?_; try intro _) | (refine sC rfl rfl ?_ ?_; focus (exact ⟨by omega, by omega⟩)) | (refine sN rfl rfl ?_ ?_; (focus (exact ⟨by omega, by omega⟩)); intro _; (try simp only [List.cons_append, List.nil_append, List.append_nil])))
      exact jx_loop (m + 1, some (b', c', sp')) ⟨by omega, by simp, fun t ht => by injection ht with ht; subst ht; rw [hpl] at h1 h2; exact ⟨h1, h2⟩⟩ sbB (by simp only [mSl, hSl, List.cons_append, List.nil_append]; exact slB) (by simp only; omega)
  · have hge : m = ks.length := by have := of_decide_eq_false h; omega
    subst hge
    rcases og with _ | ⟨bo, co, so⟩
    · have := hog.1 rfl
      omega
    · have hsp := hogs _ rfl
      simp only [mSl, hSl, List.cons_append, List.nil_append] at hsp ⊢
      repeat (refine wkB ?_; try intro _)
      exact wx_cell rfl rfl (fun w hw => ⟨⟨(bo, co, so), hsp.1⟩, by rw [kp_len], hw.sub slB⟩)
abbrev SK3 (ks : List Int) := { s : Nat × Nat × List Value // ks.length ≤ s.2.1 }
/-- A list has room. -/
class CapC (ks : List Int) (c : Nat) : Prop where out : ks.length ≤ c
instance lstKs (w0 : World) (L : List Blk) (b c : Nat) (ks : List Int) (sp : List Value) (T : TypeId) [h : AtC w0 L b (row (eI .i64) ks sp) T] [hc : CapC ks c] : LstC w0 L (vL b ks c) Int (eI .i64) ks := ⟨fun w hw => ArgS.own h hw hc.out⟩
instance sr_Keep (w0 : World) (L : List Blk) (I : R_api_Interval) (b n c : Nat) (pts : List R_movingpoint_Sample) (sp : List Value) (T : TypeId) (ks : List Int) (v : Value) [h : AtC w0 L b (row rS pts sp) T] [hv : LstC w0 L v Int (eI .i64) ks] : SpecR Tryz.prog w0 L 79 [vRun I b n c, v] (SK3 ks) (fun s => .tuple #[vRun I s.1.1 ks.length s.1.2.1, .int .i64 0]) (fun s => [⟨s.1.1, row rS (kp pts ks ks.length) s.1.2.2, 47⟩]) (RunOk pts n c ∧ 1 ≤ n ∧ ks.length ≤ 1048576 ∧ rgt n ks = true) := ⟨fun hp w hw =>
  keep_spec I b n c pts sp T ks v hp.1 hp.2.1 hp.2.2.1 hp.2.2.2 w (h.out w hw) (hv.out w hw)⟩
instance sr_rkeep (w0 : World) (L : List Blk) (I : R_api_Interval) (b n c : Nat) (pts : List R_movingpoint_Sample) (sp : List Value) (T : TypeId) (ks : List Int) (bk ck : Nat) (spk : List Value) (Tk : TypeId) [h : AtC w0 L b (row rS pts sp) T] [hv : AtC w0 L bk (row (eI .i64) ks spk) Tk] : SpecR Tryz.prog w0 L 86 [vRun I b n c, .slice (some ⟨bk, 0, none⟩) ks.length ck] (SK3 ks) (fun s => vRun I s.1.1 ks.length s.1.2.1) (fun s => [⟨s.1.1, row rS (kp pts ks ks.length) s.1.2.2, 47⟩]) (RunOk pts n c ∧ 1 ≤ n ∧ ks.length ≤ 1048576 ∧ rgt n ks = true) := ⟨fun hp w hw =>
  rkeep_spec I b n c pts sp T ks bk ck spk Tk hp.1 hp.2.1 hp.2.2.1 hp.2.2.2 w (h.out w hw) (hv.out w hw)⟩
end Go.Vt
/- Runs with the kept breakpoints: plain. Conditions: those that each statement names. -/
set_option linter.unusedSimpArgs false
set_option linter.unusedVariables false
set_option maxHeartbeats 2000000
set_option maxRecDepth 100000
namespace Go.Vt
open Go.RowKit Go.Proofs
open Fv (va red)
structure RLp (I : R_api_Interval) (P : List SS) : Prop where
  fr : I.From = ⟨(gi P 0).T, 0, false⟩
  to : I.To = ⟨(gi P ((P.length - 1 : Nat) : Int)).T, 0, false⟩
  fl : P.length = 1 → I.OpenFrom = false ∧ I.OpenTo = false
  i : Inc P
  l1 : 1 ≤ P.length
theorem one_RLp {l : List PU} (h : PNf l) {m : Nat} (hm : m < l.length) : RLp (rnI (gi l (m : Int)) (gi l (m : Int)).In) (rnP (gi l (m : Int)) [smq (gi l (m : Int)).F (gi l (m : Int)).In.From]) := by
  have hg := h.g hm
  have hk := h.ok hm
  have h1 := rt_is hg.1
  have h2 := rt_is hg.2
  generalize gi l (m : Int) = u at *
  unfold GU.ok at hk
  simp only [absP, absU, toU] at hk
  unfold rnP
  by_cases he : u.In.From = u.In.To
  · rw [if_pos he]
    have he' : u.In.From.P = u.In.To.P := by rw [he]
    have hc : u.In.OpenFrom = false ∧ u.In.OpenTo = false := by
      rcases hk with k | k
      · rw [he'] at k; exact absurd k (by grind)
      · exact k.2
    refine ⟨h1, ?_, fun _ => hc, fun i hi => by simp at hi, Nat.le_refl _⟩
    show u.In.To = ⟨(smq u.F u.In.From).T, 0, false⟩
    rw [← he]
    exact h1
  · rw [if_neg he]
    have hlt : u.In.From.P < u.In.To.P := by
      rcases hk with k | k
      · exact k
      · exact absurd (rt_of hg.1 hg.2 k.1) he
    refine ⟨h1, h2, fun k => by simp at k, fun i hi => ?_, by simp⟩
    have hi' : i + 1 < 2 := by simpa using hi
    have : i = 0 := by omega
    subst this
    exact hlt
theorem rn_RLp {l : List PU} (h : PNf l) : ∀ m, m ≤ l.length → ((∀ p ∈ (rn (fstU l) l m).dn, RLp p.1 p.2) ∧ (0 < m → RLp (rn (fstU l) l m).I (rn (fstU l) l m).P))
  | 0, _ => ⟨(fun p hp => by cases hp), (fun k => absurd k (by omega))⟩
  | m + 1, hm => by
    obtain ⟨h1, h2⟩ := rn_RLp h m (by omega)
    have iv := rn_inv h m (by omega)
    have hD : ∀ p ∈ rnD (rn (fstU l) l m), RLp p.1 p.2 := fun p hp => by
      unfold rnD at hp
      split at hp
      · exact h1 p hp
      · rename_i hne
        rcases List.mem_append.1 hp with k | k
        · exact h1 p k
        · rw [List.mem_singleton.1 k]
          rcases Nat.eq_zero_or_pos m with h0 | h0
          · subst h0
            exact absurd rfl hne
          · exact h2 h0
    rw [rn]
    by_cases hc : fstU l m = true
    · rw [if_pos hc]
      exact ⟨hD, fun _ => one_RLp h (by omega)⟩
    · rw [if_neg hc]
      have hc' : 0 < m ∧ trn (gi l ((m - 1 : Nat) : Int)) (gi l (m : Int)) = true := by
        unfold fstU at hc
        simp only [Bool.or_eq_true, decide_eq_true_eq, Bool.not_eq_true', not_or] at hc
        exact ⟨by omega, by simpa using hc.2⟩
      obtain ⟨m0, ht⟩ := hc'
      obtain ⟨s1, s2, s3, s4, s5, s6⟩ := trn_spec h (i := m - 1) (j := m) (by omega) (by omega) ht
      have hg := h.g (i := m) (by omega)
      have p1 := iv.p m0
      have p3 := iv.la m0
      have q := h2 m0
      refine ⟨h1, fun _ => ?_⟩
      generalize rn (fstU l) l m = st at *
      have hne : ¬ (gi l (m : Int)).In.From = (gi l (m : Int)).In.To := fun k => by rw [k] at s5; exact absurd s5 (by grind)
      have hP : rnP (gi l (m : Int)) st.P = st.P ++ [smq (gi l (m : Int)).F (gi l (m : Int)).In.To] := if_neg hne
      show RLp (rnI (gi l (m : Int)) st.I) (rnP (gi l (m : Int)) st.P)
      rw [hP]
      have hlen : (st.P ++ [smq (gi l (m : Int)).F (gi l (m : Int)).In.To]).length = st.P.length + 1 := by simp
      have hg0 : gi (st.P ++ [smq (gi l (m : Int)).F (gi l (m : Int)).In.To]) ((0 : Nat) : Int) = gi st.P ((0 : Nat) : Int) := gi_app (by omega)
      refine ⟨?_, ?_, fun k => by rw [hlen] at k; omega, fun i hi => ?_, by rw [hlen]; omega⟩
      · show st.I.From = ⟨(gi (st.P ++ [smq (gi l (m : Int)).F (gi l (m : Int)).In.To]) ((0 : Nat) : Int)).T, 0, false⟩
        rw [hg0]
        exact q.fr
      · rw [hlen, Nat.add_sub_cancel, gi_snoc]
        exact rt_is hg.2
      · rw [hlen] at hi
        rcases (by omega : i + 1 < st.P.length ∨ i + 1 = st.P.length) with k | k
        · rw [gi_app (by omega), gi_app k]
          exact q.i i k
        · rw [gi_app (by omega), k, gi_snoc]
          rw [show i = st.P.length - 1 by omega, p3]
          show (gi l ((m - 1 : Nat) : Int)).In.To.P < (gi l (m : Int)).In.To.P
          rw [s1]
          exact s5
theorem rns_RLp {l : List PU} (h : PNf l) : ∀ p ∈ rns (fstU l) l, RLp p.1 p.2 := fun p hp => by
  obtain ⟨h1, h2⟩ := rn_RLp h l.length (Nat.le_refl _)
  unfold rns rnD at hp
  split at hp
  · exact h1 p hp
  · rename_i hne
    rcases List.mem_append.1 hp with k | k
    · exact h1 p k
    · rw [List.mem_singleton.1 k]
      rcases Nat.eq_zero_or_pos l.length with h0 | h0
      · rw [h0] at hne
        exact absurd rfl hne
      · exact h2 h0
/-- A run, wherever it lies. -/
abbrev rdO (p : R_api_Interval × List SS) : RD := ⟨p.1, 0, 0, p.2, []⟩
theorem RLp.ln {I : R_api_Interval} {P : List SS} (h : RLp I P) (hB : Bnd P) (hl : P.length ≤ 13) (b c : Nat) (sp : List Value) : RLn 13 ⟨I, b, c, P, sp⟩ := ⟨h.fr, h.to, h.fl, hB, h.i, h.l1, hl, Nat.le_refl _⟩
def Stpp (ok : Nat → Nat → Bool) (l : Nat) (a b : Int) : Prop := ∃ i k : Nat, a = i ∧ b = k ∧ i < k ∧ k ≤ l ∧ ok i k = true
structure KWay (ok : Nat → Nat → Bool) (l : Nat) (ks : List Int) : Prop where
  n : 1 ≤ ks.length ∧ ks.length ≤ l + 1
  h : gi ks 0 = 0
  t : gi ks ((ks.length - 1 : Nat) : Int) = l
  s : ∀ m : Nat, m + 1 < ks.length → Stpp ok l (gi ks (m : Int)) (gi ks ((m + 1 : Nat) : Int))
theorem gi_cons {α : Type} [Inhabited α] (x : α) (xs : List α) (m : Nat) : gi (x :: xs) ((m + 1 : Nat) : Int) = gi xs (m : Int) := by
  unfold gi
  rw [show ((m + 1 : Nat) : Int).toNat = m + 1 by omega, show ((m : Nat) : Int).toNat = m by omega]
  rfl
theorem chn_way {ok : Nat → Nat → Bool} {l : Nat} (hok : ∀ i, i < l → ok i (i + 1) = true) : ∀ (f i : Nat), i ≤ l → l - i ≤ f →
    ((i : Int) :: chn (ou ok l l).1 l f (i : Int)).length ≤ l - i + 1 ∧ gi ((i : Int) :: chn (ou ok l l).1 l f (i : Int)) ((((i : Int) :: chn (ou ok l l).1 l f (i : Int)).length - 1 : Nat) : Int) = l ∧ ∀ m : Nat, m + 1 < ((i : Int) :: chn (ou ok l l).1 l f (i : Int)).length → Stpp ok l (gi ((i : Int) :: chn (ou ok l l).1 l f (i : Int)) (m : Int)) (gi ((i : Int) :: chn (ou ok l l).1 l f (i : Int)) ((m + 1 : Nat) : Int))
  | 0, i, hi, hf => by
    have : i = l := by omega
    subst this
    exact ⟨by simp [chn], rfl, fun m hm => by simp [chn] at hm⟩
  | f + 1, i, hi, hf => by
    by_cases hl : (i : Int) < l
    · have hl' : i < l := by omega
      obtain ⟨k, k1, k2, k3, k4, k5, k6⟩ := ou_best (ok := ok) (l := l) hok hl'
      have hc : chn (ou ok l l).1 l (f + 1) (i : Int) = (k : Int) :: chn (ou ok l l).1 l f (k : Int) := by
        rw [chn, if_pos hl, k1]
      obtain ⟨g1, g2, g3⟩ := chn_way hok f k (by omega) (by omega)
      rw [hc]
      generalize hq : (k : Int) :: chn (ou ok l l).1 l f (k : Int) = q at *
      have hq0 : 0 < q.length := by rw [← hq]; simp
      refine ⟨by rw [List.length_cons]; omega, ?_, fun m hm => ?_⟩
      · rw [List.length_cons, show q.length + 1 - 1 = (q.length - 1) + 1 by omega, gi_cons]
        exact g2
      · rcases m with _ | m
        · rw [gi_cons]
          refine ⟨i, k, rfl, ?_, by omega, by omega, k5⟩
          rw [← hq]
          rfl
        · rw [gi_cons, gi_cons]
          rw [List.length_cons] at hm
          exact g3 m (by omega)
    · have : i = l := by omega
      subst this
      have hc : chn (ou ok i i).1 i (f + 1) (i : Int) = [] := by rw [chn, if_neg hl]
      rw [hc]
      exact ⟨by simp, rfl, fun m hm => by simp at hm⟩
theorem kept_way {ok : Nat → Nat → Bool} {l : Nat} (hok : ∀ i, i < l → ok i (i + 1) = true) : KWay ok l (keptL ok l) := by
  obtain ⟨h1, h2, h3⟩ := chn_way hok l 0 (Nat.zero_le _) (by omega)
  unfold keptL
  exact ⟨⟨by simp, by have : ((0 : Nat) : Int) = 0 := rfl; rw [this] at h1; omega⟩, rfl, h2, h3⟩
theorem KWay.rgt {ok : Nat → Nat → Bool} {l : Nat} {ks : List Int} (h : KWay ok l ks) : Go.Vt.rgt (l + 1) ks = true := by
  have h1 := h.n
  have hir : ∀ m, m ≤ ks.length - 1 → ir ks m = true := fun m => by
    induction m with
    | zero => exact fun _ => rfl
    | succ m ih =>
      intro hm
      obtain ⟨i, k, a, b, c, -⟩ := h.s m (by omega)
      rw [ir, ih (by omega), decide_eq_true (by omega)]
      rfl
  unfold Go.Vt.rgt
  have ht := h.t
  rw [show ((ks.length - 1 : Nat) : Int) = (ks.length : Int) - 1 by omega] at ht
  rw [decide_eq_true (show ks ≠ [] by intro k; rw [k] at h1; simp at h1), decide_eq_true h.h, decide_eq_true (by omega), hir _ (Nat.le_refl _)]
  rfl
theorem kp_gi (pts : List SS) (ks : List Int) : ∀ (m j : Nat), j < m → gi (kp pts ks m) (j : Int) = gi pts (gi ks (j : Int))
  | 0, j, h => absurd h (by omega)
  | m + 1, j, h => by
    rw [kp]
    rcases (by omega : j < m ∨ j = m) with k | k
    · rw [gi_app (by rw [kp_len]; exact k), kp_gi pts ks m j k]
    · subst k
      have := gi_snoc (kp pts ks j) (gi pts (gi ks (j : Int)))
      rw [kp_len] at this
      exact this
/-- The run with its kept breakpoints. -/
def kpP (mo : Rat) (P : List SS) : List SS := kp P (keptL (okd P mo) (P.length - 1)) (keptL (okd P mo) (P.length - 1)).length
def kpR (mo : Rat) (p : R_api_Interval × List SS) : R_api_Interval × List SS := (p.1, kpP mo p.2)
section
variable {I : R_api_Interval} {P : List SS} {d : Rat}
theorem kp_way : KWay (okd P (d * d)) (P.length - 1) (keptL (okd P (d * d)) (P.length - 1)) := kept_way fun i _ => okd_next i
theorem kpP_len : (kpP (d * d) P).length = (keptL (okd P (d * d)) (P.length - 1)).length := kp_len _ _ _
theorem RLp.kp (h : RLp I P) : RLp I (kpP (d * d) P) := by
  have hl1 := h.l1
  have hi := h.i
  have hw := kp_way (P := P) (d := d)
  have hn := hw.n
  have hkl := kpP_len (P := P) (d := d)
  have g : ∀ j : Nat, j < (keptL (okd P (d * d)) (P.length - 1)).length → gi (kpP (d * d) P) (j : Int) = gi P (gi (keptL (okd P (d * d)) (P.length - 1)) (j : Int)) := fun j hj => kp_gi _ _ _ _ hj
  refine ⟨?_, ?_, fun k => ?_, fun i hi' => ?_, by omega⟩
  · have := g 0 (by omega)
    rw [show ((0 : Nat) : Int) = 0 from rfl, hw.h] at this
    rw [this]
    exact h.fr
  · rw [hkl, g _ (by omega), hw.t]
    exact h.to
  · rw [hkl] at k
    have ht := hw.t
    rw [k] at ht
    have h0 := hw.h
    rw [show ((1 - 1 : Nat) : Int) = 0 from rfl, h0] at ht
    exact h.fl (by omega)
  · rw [hkl] at hi'
    obtain ⟨a, b, e1, e2, e3, e4, -⟩ := hw.s i hi'
    rw [g i (by omega), g (i + 1) hi', e1, e2]
    exact hi.lt e3 (by omega)
theorem kpP_of (h : RLp I P) : ∀ s ∈ kpP (d * d) P, s ∈ P := fun s hs => by
  have hw := kp_way (P := P) (d := d)
  have hl1 := h.l1
  have hn := hw.n
  have hkl := kpP_len (P := P) (d := d)
  obtain ⟨j, hj, rfl⟩ := List.getElem_of_mem hs
  have hj' : j < (keptL (okd P (d * d)) (P.length - 1)).length := by omega
  rw [← gi_nat hj]
  have : gi (kpP (d * d) P) (j : Int) = gi P (gi (keptL (okd P (d * d)) (P.length - 1)) (j : Int)) := kp_gi _ _ _ _ hj'
  rw [this]
  rcases j with _ | j
  · rw [show ((0 : Nat) : Int) = 0 from rfl, hw.h]
    exact gi_mem (i := ((0 : Nat) : Int)) (by omega)
  · obtain ⟨a, b, e1, e2, e3, e4, -⟩ := hw.s j hj'
    rw [e2]
    exact gi_mem (by omega)
end
section
variable {N : Nat} {r : RD}
theorem b1_at (h : RLn N r) {i : Nat} (hi : i + 1 < r.pts.length) {t : Rat} (h1 : (gi r.pts (i : Int)).T ≤ t) (h2 : t ≤ (gi r.pts ((i + 1 : Nat) : Int)).T) (hm : memI r.I t) : Has ((b1W r).map absU) t (pos (stl (gi r.pts (i : Int)) (gi r.pts ((i + 1 : Nat) : Int))) t) := by
  rw [b1_has h]
  obtain ⟨-, -, -, n4⟩ := frS_law h.B h.i (by omega)
  exact ⟨(n4 _ _).2 (sgW_has h.i (m := r.pts.length - 1) (by omega) (by omega) h1 h2), hm⟩
theorem b1_way (h : RLn N r) (h2 : 2 ≤ r.pts.length) {t : Rat} {v : R_api_Point} (hv : Has ((b1W r).map absU) t v) : ∃ i : Nat, i + 1 < r.pts.length ∧ (gi r.pts (i : Int)).T ≤ t ∧ t ≤ (gi r.pts ((i + 1 : Nat) : Int)).T ∧ v = pos (stl (gi r.pts (i : Int)) (gi r.pts ((i + 1 : Nat) : Int))) t := by
  rw [b1_has h] at hv
  obtain ⟨-, -, -, n4⟩ := frS_law h.B h.i h2
  have h3 := (n4 _ _).1 hv.1
  rw [has_map] at h3
  obtain ⟨u, hu, k1, k2⟩ := h3
  obtain ⟨i, hi, rfl⟩ := sgW_mem hu
  refine ⟨i, by omega, ?_, ?_, k2.symm⟩
  · have := k1.1
    unfold toU sgU at this
    simp only at this
    grind
  · have := k1.2
    unfold toU sgU at this
    simp only at this
    grind
theorem b1_one (h : RLn N r) (h1 : r.pts.length = 1) {t : Rat} {v : R_api_Point} : Has ((b1W r).map absU) t v ↔ memI r.I t ∧ v = (gi r.pts 0).P := by
  obtain ⟨e1, e2⟩ := h.one h1
  rw [e1, frW_one h1, has_map, e2]
  have hp : ∀ t, pos (one1 (gi r.pts 0)).F t = (gi r.pts 0).P := fun t => by
    unfold pos one1
    simp only [Rat.mul_zero, Rat.add_zero]
  constructor
  · rintro ⟨u, hu, k1, k2⟩
    rw [List.mem_singleton] at hu
    subst hu
    exact ⟨k1, k2.symm.trans (hp t)⟩
  · rintro ⟨k1, k2⟩
    exact ⟨_, .head _, k1, (hp t).trans k2.symm⟩
/-- It is somewhere just during its period. -/
theorem b1_dom (h : RLn N r) {t : Rat} : (∃ v, Has ((b1W r).map absU) t v) ↔ memI r.I t := by
  constructor
  · rintro ⟨v, hv⟩
    exact (b1_has h |>.1 hv).2
  · intro hm
    by_cases h1 : r.pts.length = 1
    · exact ⟨_, (b1_one h h1).2 ⟨hm, rfl⟩⟩
    · have hl := h.l1
      have f1 := h.fr
      have f2 := h.to
      obtain ⟨m1, m2⟩ := hm
      obtain ⟨i, a, b, c, e⟩ := way_at h.i (f := 0) (g := r.pts.length - 1) (by omega) (by omega) (t := t) (by
        have : r.I.From.P = (gi r.pts ((0 : Nat) : Int)).T := by rw [f1]; rfl
        grind) (by
        have : r.I.To.P = (gi r.pts ((r.pts.length - 1 : Nat) : Int)).T := by rw [f2]
        grind)
      exact ⟨_, b1_at h (by omega) c e ⟨m1, m2⟩⟩
end
theorem poly_uniq {pts : List SS} (hi : Inc pts) {i j : Nat} (h1 : i + 1 < pts.length) (h2 : j + 1 < pts.length) {t : Rat} (a1 : (gi pts (i : Int)).T ≤ t) (a2 : t ≤ (gi pts ((i + 1 : Nat) : Int)).T) (b1 : (gi pts (j : Int)).T ≤ t) (b2 : t ≤ (gi pts ((j + 1 : Nat) : Int)).T) :
    pos (stl (gi pts (i : Int)) (gi pts ((i + 1 : Nat) : Int))) t = pos (stl (gi pts (j : Int)) (gi pts ((j + 1 : Nat) : Int))) t := by
  have key : ∀ i j : Nat, i < j → j + 1 < pts.length → t ≤ (gi pts ((i + 1 : Nat) : Int)).T → (gi pts (j : Int)).T ≤ t → pos (stl (gi pts (i : Int)) (gi pts ((i + 1 : Nat) : Int))) t = pos (stl (gi pts (j : Int)) (gi pts ((j + 1 : Nat) : Int))) t := fun i j hij hj c1 c2 => by
    have hle := hi.le (show i + 1 ≤ j by omega) (by omega)
    have hji : j = i + 1 := by
      rcases (by omega : i + 1 < j ∨ j = i + 1) with k | k
      · have := hi.lt k (by omega)
        grind
      · exact k
    subst hji
    have ht : t = (gi pts ((i + 1 : Nat) : Int)).T := by grind
    rw [ht, stl_b (hi i (by omega)), stl_a (hi (i + 1) hj)]
  rcases Nat.lt_trichotomy i j with k | k | k
  · exact key i j k h2 a2 b1
  · subst k; rfl
  · exact (key j i k h1 b2 a1).symm
/-- The run with its kept breakpoints is near. -/
theorem near_run {I : R_api_Interval} {P : List SS} {d : Rat} (h : RLp I P) (hB : Bnd P) (hl : P.length ≤ 13) (hB' : Bnd (kpP (d * d) P)) {t : Rat} {v v' : R_api_Point} (hv : Has ((b1W (rdO (I, P))).map absU) t v) (hv' : Has ((b1W (rdO (I, kpP (d * d) P))).map absU) t v') : d2 v v' ≤ d * d := by
  have hk := h.kp (d := d)
  have hw := kp_way (P := P) (d := d)
  have hn := hw.n
  have hkl := kpP_len (P := P) (d := d)
  have hl1 := h.l1
  have r1 := h.ln hB hl 0 0 []
  have r2 := hk.ln hB' (by omega) 0 0 []
  have g : ∀ j : Nat, j < (keptL (okd P (d * d)) (P.length - 1)).length → gi (kpP (d * d) P) (j : Int) = gi P (gi (keptL (okd P (d * d)) (P.length - 1)) (j : Int)) := fun j hj => kp_gi _ _ _ _ hj
  by_cases h1 : P.length = 1
  · have hk1 : (kpP (d * d) P).length = 1 := by omega
    have e1 := ((b1_one r1 h1).1 hv).2
    have e2 := ((b1_one r2 hk1).1 hv').2
    have g0 := g 0 (by omega)
    rw [show ((0 : Nat) : Int) = 0 from rfl, hw.h] at g0
    simp only at e1 e2
    rw [e1, e2, g0, d2_self]
    exact sq0 d
  · have h2 : 2 ≤ (kpP (d * d) P).length := by
      rcases (by omega : (kpP (d * d) P).length = 1 ∨ 2 ≤ (kpP (d * d) P).length) with k | k
      · have ht := hw.t
        rw [show (keptL (okd P (d * d)) (P.length - 1)).length = 1 by omega, show ((1 - 1 : Nat) : Int) = 0 from rfl, hw.h] at ht
        omega
      · exact k
    obtain ⟨i, i1, i2, i3, i4⟩ := b1_way r1 (by show 2 ≤ P.length; omega) hv
    obtain ⟨j, j1, j2, j3, j4⟩ := b1_way r2 h2 hv'
    simp only at i1 i2 i3 i4 j1 j2 j3 j4
    obtain ⟨a, b, e1, e2, e3, e4, e5⟩ := hw.s j (by omega)
    rw [g j (by omega), g (j + 1) (by omega), e1, e2] at j4
    rw [g j (by omega), e1] at j2
    rw [g (j + 1) (by omega), e2] at j3
    obtain ⟨q, q1, q2, q3, q4⟩ := way_at h.i e3 (by omega) j2 j3
    have hd := dev_law h.i e3 (by omega) q1 q2 q3 q4
    rw [i4, j4, poly_uniq h.i i1 (by omega) i2 i3 q3 q4]
    unfold okd at e5
    exact Rat.le_trans hd (of_decide_eq_true e5)
theorem d2_zero {p q : R_api_Point} (h : d2 p q ≤ 0) : p = q := by
  obtain ⟨x, y⟩ := p
  obtain ⟨a, b⟩ := q
  unfold d2 at h
  simp only at h
  have h1 := sq0 (x - a)
  have h2 := sq0 (y - b)
  have h3 : (x - a) * (x - a) = 0 := by grind
  have h4 : (y - b) * (y - b) = 0 := by grind
  have h5 : x - a = 0 := by simpa using Rat.mul_eq_zero.1 h3
  have h6 : y - b = 0 := by simpa using Rat.mul_eq_zero.1 h4
  rw [show x = a by grind, show y = b by grind]
def b1sW (ps : List (R_api_Interval × List SS)) : List UL := (b1s ps).map toU
theorem b1sW_cons (p : R_api_Interval × List SS) (ps : List (R_api_Interval × List SS)) : b1sW (p :: ps) = b1W (rdO p) ++ b1sW ps := by
  unfold b1sW b1W b1s
  rw [List.flatMap_cons, List.map_append]
theorem has_app' {A B : List UL} {t : Rat} {v : R_api_Point} : Has ((A ++ B).map absU) t v ↔ Has (A.map absU) t v ∨ Has (B.map absU) t v := by
  rw [has_map, has_map, has_map]
  constructor
  · rintro ⟨u, hu, k⟩
    rcases List.mem_append.1 hu with h | h
    · exact .inl ⟨u, h, k⟩
    · exact .inr ⟨u, h, k⟩
  · rintro (⟨u, hu, k⟩ | ⟨u, hu, k⟩)
    · exact ⟨u, List.mem_append_left _ hu, k⟩
    · exact ⟨u, List.mem_append_right _ hu, k⟩
/-- What is asked of each run. -/
structure RGd (d : Rat) (p : R_api_Interval × List SS) : Prop where
  r : RLp p.1 p.2
  B : Bnd p.2
  l : p.2.length ≤ 13
theorem RGd.B' {d : Rat} {p : R_api_Interval × List SS} (h : RGd d p) : Bnd (kpP (d * d) p.2) := bnd_of fun s hs => by
  have hm := kpP_of h.r s hs
  obtain ⟨i, hi, rfl⟩ := List.getElem_of_mem hm
  have := h.B (i : Int)
  rw [gi_nat hi] at this
  exact this
theorem RGd.l' {d : Rat} {p : R_api_Interval × List SS} (h : RGd d p) : (kpP (d * d) p.2).length ≤ p.2.length := by
  have hw := kp_way (P := p.2) (d := d)
  have hn := hw.n
  have := h.r.l1
  rw [kpP_len]
  omega
theorem RGd.ln {d : Rat} {p : R_api_Interval × List SS} (h : RGd d p) : RLn 13 (rdO p) := h.r.ln h.B h.l 0 0 []
theorem RGd.ln' {d : Rat} {p : R_api_Interval × List SS} (h : RGd d p) : RLn 13 (rdO (kpR (d * d) p)) := h.r.kp.ln h.B' (by have := h.l'; have := h.l; omega) 0 0 []
/-- The kept runs are apart just as the runs are, as long at most, and near. -/
theorem kept_all {d : Rat} : ∀ ps : List (R_api_Interval × List SS), (∀ p ∈ ps, RGd d p) → ((b1sW ps).map absU).Pairwise Dis →
    ((b1sW (ps.map (kpR (d * d)))).map absU).Pairwise Dis ∧ (b1s (ps.map (kpR (d * d)))).length ≤ (b1s ps).length ∧ (∀ u ∈ b1sW (ps.map (kpR (d * d))), UK K0 u ∧ (absU u).ok) ∧
    (∀ t, (∃ v, Has ((b1sW (ps.map (kpR (d * d)))).map absU) t v) ↔ ∃ v, Has ((b1sW ps).map absU) t v) ∧
    ∀ t v v', Has ((b1sW ps).map absU) t v → Has ((b1sW (ps.map (kpR (d * d)))).map absU) t v' → d2 v v' ≤ d * d
  | [], _, _ => ⟨List.Pairwise.nil, Nat.le_refl _, (fun u hu => by cases hu), fun t => Iff.rfl, fun t v v' h => by
    rw [has_map] at h
    obtain ⟨u, hu, _⟩ := h
    cases hu⟩
  | p :: ps, hp, hd => by
    have h1 := hp p (.head _)
    rw [b1sW_cons, List.map_append, dis_app] at hd
    obtain ⟨d1, d2', d3⟩ := hd
    obtain ⟨i1, i2, i3, i4, i5⟩ := kept_all ps (fun q hq => hp q (.tail _ hq)) d2'
    have l1 := b1W_len h1.ln
    have l2 := b1W_len h1.ln'
    have f := b1_fit h1.ln'
    have hdom : ∀ t, (∃ v, Has ((b1W (rdO (kpR (d * d) p))).map absU) t v) ↔ ∃ v, Has ((b1W (rdO p)).map absU) t v := fun t => (b1_dom h1.ln').trans (b1_dom h1.ln).symm
    have hx : ∀ t, ¬ ((∃ v, Has ((b1W (rdO (kpR (d * d) p))).map absU) t v) ∧ ∃ v, Has ((b1sW (ps.map (kpR (d * d)))).map absU) t v) := fun t ht => d3 t ⟨(hdom t).1 ht.1, (i4 t).1 ht.2⟩
    rw [List.map_cons, b1sW_cons, b1sW_cons]
    refine ⟨?_, ?_, fun u hu => ?_, fun t => ?_, fun t v v' hv hv' => ?_⟩
    · rw [List.map_append, dis_app]
      exact ⟨f.p, i1, hx⟩
    · have e1 : ∀ (q : R_api_Interval × List SS) qs, (b1s (q :: qs)).length = (b1W (rdO q)).length + (b1s qs).length := fun q qs => by
        unfold b1s b1W
        rw [List.flatMap_cons, List.length_append, List.length_map]
      rw [e1, e1, l1.1, l2.1]
      have := h1.l' (d := d)
      have := h1.r.l1
      have := (h1.r.kp (d := d)).l1
      show (if (kpP (d * d) p.2).length = 1 then 1 else (kpP (d * d) p.2).length - 1) + _ ≤ (if p.2.length = 1 then 1 else p.2.length - 1) + _
      split <;> split <;> omega
    · rcases List.mem_append.1 hu with k | k
      · exact ⟨f.k u k, f.o u k⟩
      · exact i3 u k
    · simp only [has_app', exists_or]
      exact or_congr (hdom t) (i4 t)
    · rw [has_app'] at hv hv'
      rcases hv with hv | hv <;> rcases hv' with hv' | hv'
      · exact near_run h1.r h1.B h1.l h1.B' hv hv'
      · exact absurd ⟨(hdom t).2 ⟨_, hv⟩, _, hv'⟩ (hx t)
      · exact absurd ⟨⟨_, hv'⟩, (i4 t).2 ⟨_, hv⟩⟩ (hx t)
      · exact i5 t v v' hv hv'
end Go.Vt
/- Simplify and the reference's simplified moving point, walked. Conditions: those that each statement names. -/
set_option linter.unusedSimpArgs false
set_option linter.unusedVariables false
set_option maxHeartbeats 2000000
set_option maxRecDepth 100000
namespace Go.Vt
open Go.RowKit Go.Proofs
class OwnD (ds : List RD) (L : List Blk) (L1 : outParam (List Blk)) : Prop where
  out : L.Perm (dnB ds ++ L1)
section
variable {ds : List RD}
instance (priority := high) odHere (L : List Blk) : OwnD ds (dnB ds ++ L) L := ⟨.refl _⟩
instance (priority := low) odCons (e : Blk) (L L1 : List Blk) [h : OwnD ds L L1] : OwnD ds (e :: L) (e :: L1) := ⟨(h.out.cons e).trans List.perm_middle.symm⟩
instance (priority := low) odSkip (X L L1 : List Blk) [h : OwnD ds L L1] : OwnD ds (X ++ L) (X ++ L1) := ⟨by
  refine (h.out.append_left _).trans ?_
  rw [← List.append_assoc, ← List.append_assoc]
  exact List.perm_append_comm.append_right _⟩
instance sbpD (A L L1 : List Blk) [h : OwnD ds L L1] [g : SbpC A L1] : SbpC (dnB ds ++ A) L := ⟨by
  obtain ⟨L', hp⟩ := g.out
  exact ⟨L', h.out.trans (by rw [List.append_assoc]; exact hp.append_left _)⟩⟩
end
theorem dnB_cons (r : RD) (ds : List RD) : dnB (r :: ds) = ⟨r.b, row rS r.pts r.sp, 47⟩ :: dnB ds := rfl
/-- The element at a place is known. -/
class GiK {α : Type} [Inhabited α] (xs : List α) (i : Int) (z : outParam α) : Prop where out : gi xs i = z
instance (priority := high) ys_rowK {P : Program} {w0 : World} {n : Nat} {L : List Blk} {E : Env} {x : Operand} {T T0 : TypeId} {v : Value} {α : Type} [Inhabited α] {enc : α → Array Value} {k b : Nat} {xs : List α} {sp : List Value} {i : Int} {z : α} [hx : IsC (evl E x) (.pointer (some ⟨b, 0 + i.toNat * k, none⟩))] [h : AtC w0 L b (row enc xs sp) T0] [he : EncC enc k] [hg : GiK xs i z] [hv : LdC P T (enc z) 0 v] : YsC P w0 n L E (.load T x) v (i.toNat < xs.length) := by
  have hv' : LdC P T (enc (gi xs i)) 0 v := by rw [hg.out]; exact hv
  exact ys_row0
theorem gi_mid {α : Type} [Inhabited α] (A B : List α) (x : α) : gi (A ++ x :: B) (A.length : Int) = x := by
  rw [gi_nat (by rw [List.length_append, List.length_cons]; omega), List.getElem_append_right (Nat.le_refl _)]
  simp
theorem set_mid {α : Type} (A B : List α) (x z : α) : (A ++ x :: B).set (A.length : Int).toNat z = A ++ z :: B := by
  rw [show (A.length : Int).toNat = A.length by omega, List.set_append_right _ _ (Nat.le_refl _), Nat.sub_self]
  rfl
theorem runC_of {w0 : World} {A : List RD} (o : SlS rR 21 (A.map RD.hd)) {ps : List (R_api_Interval × List SS)} (e : A.map (fun r => (r.I, r.pts)) = ps) (L : List Blk) {L1 L2 : List Blk} [h1 : OwnS 35 o L L1] [h2 : OwnD A L L2] : RunC w0 L (vSl o) ps := ⟨fun w hw => ⟨A, e, (show LstC w0 L (vSl o) R_simplify_Run rR (A.map RD.hd) from inferInstance).out w hw, fun r hr => ⟨_, (0, 0), ((hw.perm h2.out).mem ⟨r.b, row rS r.pts r.sp, 47⟩ (List.mem_append_left _ (List.mem_map.2 ⟨r, hr, rfl⟩))).2⟩⟩⟩
theorem runs_gd {us : List PU} {d : Rat} (h : PGood 276 12 us) : ∀ p ∈ rns (fstU us) us, RGd d p := fun p hp => by
  have hl := rns_len (fstU us) us
  have hn := h.n
  refine ⟨rns_RLp h.nf p hp, (rns_ok h).p p hp |>.2, ?_⟩
  have := hl.2 p hp
  omega
/-- The runs with kept breakpoints. -/
def rnK (us : List PU) (d : Rat) : List (R_api_Interval × List SS) := (rns (fstU us) us).map (kpR (d * d))
theorem rnK_len (us : List PU) (d : Rat) : (rnK us d).length = (rns (fstU us) us).length := List.length_map _
theorem rnK_all {us : List PU} {d : Rat} (h : PGood 276 12 us) : ((b1sW (rnK us d)).map absU).Pairwise Dis ∧ (b1s (rnK us d)).length ≤ 12 ∧ (∀ u ∈ b1sW (rnK us d), UK K0 u ∧ (absU u).ok) ∧
    (∀ t, (∃ v, Has ((b1sW (rnK us d)).map absU) t v) ↔ ∃ v, Has (us.map absP) t v) ∧
    ∀ t v v', Has (us.map absP) t v → Has ((b1sW (rnK us d)).map absU) t v' → d2 v v' ≤ d * d := by
  have hn := h.n
  have hlaw := rns_law h.nf
  have e : (b1sW (rns (fstU us) us)).map absU = us.map absP := by
    unfold b1sW
    rw [hlaw, map_toU]
  obtain ⟨g1, g2, g3, g4, g5⟩ := kept_all (d := d) (rns (fstU us) us) (runs_gd h) (by rw [e]; exact h.nf.nf.pw.imp fun h => h.bf.Dis)
  rw [e] at g4 g5
  rw [hlaw] at g2
  exact ⟨g1, by unfold rnK; omega, g3, g4, g5⟩
theorem rnK_ok {us : List PU} {d : Rat} (h : PGood 276 12 us) : BOk (rnK us d) := by
  have hl := rns_len (fstU us) us
  have hn := h.n
  obtain ⟨g1, g2, g3, -⟩ := rnK_all (d := d) h
  refine ⟨by rw [rnK_len]; omega, fun p hp => ?_, by omega, fun u hu => ((g3 u hu).1).uin K_one.2.2.1⟩
  obtain ⟨q, hq, rfl⟩ := List.mem_map.1 hp
  have hg := runs_gd (d := d) h q hq
  exact ⟨by have := hg.l'; have := hg.l; show (kpP (d * d) q.2).length ≤ 1024; omega, hg.B'⟩
theorem rnK_err {us : List PU} {d : Rat} (h : PGood 276 12 us) : nrmE ((b1s (rnK us d)).map toU) = 0 := by
  obtain ⟨g1, g2, g3, -⟩ := rnK_all (d := d) h
  exact (nrmE_0 ⟨fun u hu => ((g3 u hu).1).uin K_one.2.2.1, fun u hu => (g3 u hu).2⟩).2 g1
section
variable {w0 : World} {L : List Blk} {v : Value}
theorem RGd.run {d : Rat} {I : R_api_Interval} {P : List SS} (h : RGd d (I, P)) {c : Nat} (hc : P.length ≤ c) : RunOk P P.length c := ⟨rfl, hc, by have := h.l; simp only at this; omega, h.B⟩
end
set_option maxHeartbeats 4000000 in
theorem simplify_spec (v : Value) (us : List PU) (d : Rat) (w : World) (hv : ArgS w v rP us) (h : PGood 276 12 us) (hd : 0 ≤ d) (hM : M d ≤ 1073741824) :
    Calls Tryz.prog 29 [v, vQ d].toArray w (RetM (SlS rP 36 (mNorm (b1s (rnK us d)))) (fun s => .tuple #[vSl s, .int .i64 0]) (fun s => mS 68 s) w) := by
  have hav := ArgC.mk hv
  have hfn := good_fine h (by decide)
  have hok := rnK_ok (d := d) h
  have hE := rnK_err (d := d) h
  have hgd := runs_gd (d := d) h
  have hrl := rns_len (fstU us) us
  have hun := h.n
  refine fn_intro Tryz.func29 rfl Tryz.ntmps29 rfl ?_
  repeat (first | (refine wkB ?_; try intro _) | (refine sC rfl rfl ?_ ?_; focus (exact hfn)) | (refine sN rfl rfl ?_ ?_; (focus (exact hfn)); intro _; (try simp only [List.cons_append, List.nil_append, List.append_nil])))
  rename_i b3 s
  simp only [decide_eq_false (sign_nonneg hd)]
  repeat (refine wkB ?_; try intro _)
  obtain ⟨dn, o, he, hk⟩ := s
  have hdl : (dn.map RD.hd).length = (rns (fstU us) us).length := by rw [List.length_map, ← he, List.length_map]
  rw [show (⟨dn, o, he, hk⟩ : RunsO (rns (fstU us) us)).mem ++ [⟨b3, e_api_Rat (Q d), 28⟩] = mS 35 o ++ (dnB dn ++ [⟨b3, e_api_Rat (Q d), 28⟩]) from List.append_assoc _ _ _]
  simp only [hdl]
  have hrk : rnK us d = (rns (fstU us) us).map (kpR (d * d)) := rfl
  have hlaw2 := rnK_len us d
  generalize rns (fstU us) us = ps at *
  generalize rnK us d = pk at *
  · refine j_loop (S := (A : List RD) × (B : List RD) × SlS rR 21 ((A ++ B).map RD.hd)) (fun q => q.1.map (fun r => (r.I, r.pts)) = (ps.take q.1.length).map (kpR (d * d)) ∧ q.2.1.map (fun r => (r.I, r.pts)) = ps.drop q.1.length ∧ q.1.length + q.2.1.length = ps.length ∧ ∀ r ∈ q.1 ++ q.2.1, r.pts.length ≤ r.c) (fun q => [(3, .pointer (some ⟨b3, 0, none⟩)), (6, vSl q.2.2), (25, vSl q.2.2), (26, .int .i64 ps.length), (27, .int .i64 (q.1.length : Nat))])
      (fun q => mS 35 q.2.2 ++ (dnB q.1 ++ (dnB q.2.1 ++ [⟨b3, e_api_Rat (Q d), 28⟩]))) (fun q => q.2.1.length) ⟨[], dn, o⟩ ⟨rfl, he, by rw [← he]; simp, hk⟩ sbB (List.Sublist.refl _) (fun q hq => ?_)
    obtain ⟨A, B, o⟩ := q
    obtain ⟨hA, hB, hn, hkk⟩ := hq
    simp only at hA hB hn hkk o ⊢
    repeat (refine wkB ?_; try intro _)
    refine j_cond rfl (fun hc => ?_) (fun hc => ?_)
    · have hlt : A.length < ps.length := by have := of_decide_eq_true hc; omega
      rcases B with _ | ⟨r, B'⟩
      · simp at hn; omega
      rcases o.cases 35 with ⟨x0, x1, x2⟩ | ⟨bo, co, spo, hco, x1, x2, xne⟩
      · exact absurd x0 (by simp)
      have hXm : (A ++ r :: B').map RD.hd = A.map RD.hd ++ r.hd :: B'.map RD.hd := by rw [List.map_append]; rfl
      have hXl : (A.map RD.hd ++ r.hd :: B'.map RD.hd).length = ps.length := by rw [← hXm, List.length_map, List.length_append]; exact hn
      rw [x1, x2, dnB_cons]
      simp only [List.cons_append, List.nil_append]
      clear x1 x2 xne
      rw [hXm] at hco
      simp only [hXm, hXl] at hco ⊢
      have hrp : (r.I, r.pts) = gi ps (A.length : Int) := by
        have h1 : gi ((r :: B').map (fun r => (r.I, r.pts))) 0 = gi (ps.drop A.length) 0 := by rw [hB]
        rw [show gi (ps.drop A.length) 0 = gi ps (A.length : Int) by unfold gi; simp [List.getD_eq_getElem?_getD]] at h1
        exact h1
      have hg := hgd _ (gi_mem (i := (A.length : Int)) (xs := ps) (by omega))
      rw [← hrp] at hg
      have hrc := hkk r (List.mem_append_right _ (.head _))
      have hB' : B'.map (fun r => (r.I, r.pts)) = ps.drop (A.length + 1) := by
        have h1 := congrArg List.tail hB
        rw [List.tail_drop] at h1
        exact h1
      have hAk : ∀ r' : RD, r'.I = r.I → r'.pts = kpP (d * d) r.pts → (A ++ [r']).map (fun r => (r.I, r.pts)) = (ps.take (A.length + 1)).map (kpR (d * d)) := fun r' e1 e2 => by
        rw [take_snoc hlt, List.map_append, List.map_append, hA, ← hrp]
        congr 1
        show [(r'.I, r'.pts)] = [kpR (d * d) (r.I, r.pts)]
        rw [e1, e2]
        rfl
      obtain ⟨I, b, c, pts, sp⟩ := r
      have hback : ∀ (r' : RD), ∃ o' : SlS rR 21 (((A ++ [r']) ++ B').map RD.hd), vSl o' = .slice (some ⟨bo, 0, none⟩) ps.length co ∧ mS 35 o' = [⟨bo, row rR (A.map RD.hd ++ r'.hd :: B'.map RD.hd) spo, 35⟩] := fun r' => by
        have hm2 : ((A ++ [r']) ++ B').map RD.hd = A.map RD.hd ++ r'.hd :: B'.map RD.hd := by rw [List.append_assoc, List.map_append]; rfl
        have hl2 : (A.map RD.hd ++ r'.hd :: B'.map RD.hd).length = ps.length := by
          rw [← hXl, List.length_append, List.length_append, List.length_cons, List.length_cons]
        rw [hm2]
        refine ⟨SlS.at_ bo co spo (by rw [hl2]; exact hco) (by simp), ?_, rfl⟩
        show Value.slice _ (A.map RD.hd ++ r'.hd :: B'.map RD.hd).length co = _
        rw [hl2]
      simp only at hg hrc hAk
      have hw := kp_way (P := pts) (d := d)
      have hr := hg.run hrc
      have hl1 := hg.r.l1
      have hl13 := hg.l
      simp only at hl1 hl13
      have hwn := hw.n
      have hrg := hw.rgt
      rw [show pts.length - 1 + 1 = pts.length by omega] at hrg
      have hs := set_mid (A.map RD.hd) (B'.map RD.hd) (⟨I, ⟨some ⟨b, 0, none⟩, pts.length, c⟩⟩ : R_simplify_Run)
      have hgk : GiK (A.map RD.hd ++ (⟨I, ⟨some ⟨b, 0, none⟩, pts.length, c⟩⟩ : R_simplify_Run) :: B'.map RD.hd) (A.length : Int) ⟨I, ⟨some ⟨b, 0, none⟩, pts.length, c⟩⟩ := ⟨by
        have := gi_mid (A.map RD.hd) (B'.map RD.hd) (⟨I, ⟨some ⟨b, 0, none⟩, pts.length, c⟩⟩ : R_simplify_Run)
        rw [List.length_map] at this
        exact this⟩
      rw [List.length_map] at hs
      have hhd : RD.hd ⟨I, b, c, pts, sp⟩ = ⟨I, ⟨some ⟨b, 0, none⟩, pts.length, c⟩⟩ := rfl
      simp only [hhd] at hXl ⊢
      generalize A.map RD.hd = hAs at *
      generalize B'.map RD.hd = hBs at *
      have hp1 : RunOk pts pts.length c ∧ (1 ≤ pts.length ∧ pts.length ≤ 1048576) ∧ M d ≤ 1073741824 ∧ 0 ≤ d := ⟨hr, ⟨hl1, by omega⟩, hM, hd⟩
      repeat (first | (refine wkB ?_; try intro _) | (refine sC rfl rfl ?_ ?_; focus (exact hp1)) | (refine sN rfl rfl ?_ ?_; (focus (exact hp1)); intro _; (try simp only [List.cons_append, List.nil_append, List.append_nil])))
      rename_i b9 sk
      obtain ⟨⟨bk, ck, spk⟩, hck⟩ := sk
      have hcap : CapC (keptL (okd pts (d * d)) (pts.length - 1)) ck := ⟨hck⟩
      have hp2 : RunOk pts pts.length c ∧ 1 ≤ pts.length ∧ (keptL (okd pts (d * d)) (pts.length - 1)).length ≤ 1048576 ∧ rgt pts.length (keptL (okd pts (d * d)) (pts.length - 1)) = true := ⟨hr, hl1, by omega, hrg⟩
      simp only
      repeat (first | (refine wkB ?_; try intro _) | (refine sC rfl rfl ?_ ?_; focus (exact hp2)) | (refine sN rfl rfl ?_ ?_; (focus (exact hp2)); intro _; (try simp only [List.cons_append, List.nil_append, List.append_nil])))
      rename_i sq
      obtain ⟨⟨bq, cq, spq⟩, hcq⟩ := sq
      rw [hs]
      repeat (refine wkB ?_; try intro _)
      obtain ⟨o', e1, e2⟩ := hback ⟨I, bq, cq, kpP (d * d) pts, spq⟩
      have hhd2 : RD.hd ⟨I, bq, cq, kpP (d * d) pts, spq⟩ = ⟨I, ⟨some ⟨bq, 0, none⟩, (keptL (okd pts (d * d)) (pts.length - 1)).length, cq⟩⟩ := by
        unfold RD.hd
        rw [kpP_len]
      rw [hhd2] at e2
      refine jx_loopP ⟨A ++ [⟨I, bq, cq, kpP (d * d) pts, spq⟩], B', o'⟩ ⟨?_, ?_, ?_, ?_⟩ ?_ ?_ (by show B'.length < B'.length + 1; omega)
      · rw [List.length_append]
        exact hAk _ rfl rfl
      · rw [List.length_append]
        exact hB'
      · rw [List.length_append]
        simp only [List.length_cons, List.length_nil] at hn ⊢
        omega
      · intro r' hr'
        simp only [List.append_assoc, List.cons_append, List.nil_append] at hr'
        rcases List.mem_append.1 hr' with k | k
        · exact hkk r' (List.mem_append_left _ k)
        · rcases List.mem_cons.1 k with k | k
          · subst k
            show (kpP (d * d) pts).length ≤ cq
            rw [kpP_len]
            exact hcq
          · exact hkk r' (List.mem_append_right _ (.tail _ k))
      · simp only [e1]
        rw [show ((A ++ [(⟨I, bq, cq, kpP (d * d) pts, spq⟩ : RD)]).length : Int) = (A.length : Int) + 1 by simp]
        exact sbB
      · simp only [e2]
        refine sbp_of (A' := ⟨bo, row rR (hAs ++ ⟨I, ⟨some ⟨bq, 0, none⟩, (keptL (okd pts (d * d)) (pts.length - 1)).length, cq⟩⟩ :: hBs) spo, 35⟩ :: ⟨bq, row rS (kp pts (keptL (okd pts (d * d)) (pts.length - 1)) (keptL (okd pts (d * d)) (pts.length - 1)).length) spq, 47⟩ :: (dnB A ++ (dnB B' ++ [⟨b3, e_api_Rat (Q d), 28⟩]))) ?_
        exact ((dnB_perm A ⟨I, bq, cq, kpP (d * d) pts, spq⟩).append_right _).cons _
    · have hB0 : B = [] := by
        have := of_decide_eq_false hc
        exact List.length_eq_zero_iff.1 (by omega)
      subst hB0
      obtain ⟨o', e1, e2⟩ := SlS.turn 35 (show (A ++ []).map RD.hd = A.map RD.hd by rw [List.append_nil]) o
      have hn' : A.length = ps.length := by simpa using hn
      have heA : A.map (fun r => (r.I, r.pts)) = pk := by rw [hA, hn', List.take_length, hrk]
      simp only [← e1, ← e2]
      clear e1 e2
      have hRC := runC_of (w0 := w) o' heA (mS 35 o' ++ (dnB A ++ (dnB [] ++ [⟨b3, e_api_Rat (Q d), 28⟩])))
      repeat (first | (refine wkB ?_; try intro _) | (refine sC rfl rfl ?_ ?_; focus (exact hok)) | (refine sN rfl rfl ?_ ?_; (focus (exact hok)); intro _; (try simp only [List.cons_append, List.nil_append, List.append_nil])))
      simp only [hE]
      exact jx_ret_two rfl (resv_tmp rfl) (resv_tmp rfl) (fun w' hw' => ⟨_, rfl, hw'.sub suB⟩)
end Go.Vt
/- The reference's simplified moving point, walked. Conditions: those that each statement names. -/
set_option linter.unusedSimpArgs false
set_option linter.unusedVariables false
set_option maxHeartbeats 2000000
set_option maxRecDepth 100000
namespace Go.Vt
open Go.RowKit Go.Proofs
theorem builtR_spec (v : Value) (ps : List (R_api_Interval × List SS)) (w : World) (h : RunA w v ps) (hp : BOk ps) (hr : ∀ p ∈ ps, RLp p.1 p.2 ∧ p.2.length ≤ 13) :
    Calls Tryz.prog 25 [v].toArray w (RetM (SlS rP 36 (mNorm (b1s ps))) (fun s => .tuple #[vSl s, .int .i64 (nrmE ((b1s ps).map toU))]) (fun s => mS 68 s) w) := by
  obtain ⟨rs, e1, a1, m1⟩ := h.ex
  have hb : bA rs rs.length = b1s ps := by rw [bA_b1s rs.length (Nat.le_refl _), List.take_length, e1]
  have hl : rs.length = ps.length := by rw [← e1, List.length_map]
  have hR : ∀ r ∈ rs, RLn 13 r := fun r hr' => by
    have hm : (r.I, r.pts) ∈ ps := by rw [← e1]; exact List.mem_map.2 ⟨r, hr', rfl⟩
    exact (hr _ hm).1.ln (hp.p _ hm).2 (hr _ hm).2 _ _ _
  have hm := roads_meet hR
  have hlen := buA_bA hR rs.length (Nat.le_refl _)
  rw [hb] at hlen
  have hpn := hp.n
  have key := built_spec v rs w a1 (by have := hp.l; omega) (fun r hr' => by
    have h13 := hR r hr'
    have h2 := h13.l2
    have h3 := bu_len h13
    have h4 := (b1W_len h13).2
    exact ⟨h13.l1, by omega, h13.B, h13.i, h13.res, by omega, m1 r hr'⟩) (by omega) hm.2.2.2
  rw [← hm.1, ← hm.2.1, hb, mpN_map toU] at key
  exact key
instance sr_builtR (w0 : World) (L : List Blk) (v : Value) (ps : List (R_api_Interval × List SS)) [h : RunC w0 L v ps] : SpecR Tryz.prog w0 L 25 [v] (SlS rP 36 (mNorm (b1s ps))) (fun s => .tuple #[vSl s, .int .i64 (nrmE ((b1s ps).map toU))]) (fun s => mS 68 s) (BOk ps ∧ ∀ p ∈ ps, RLp p.1 p.2 ∧ p.2.length ≤ 13) := ⟨fun hp w hw => builtR_spec v ps w (h.out w hw) hp.1 hp.2⟩
/-- The reference's list is the program's. -/
theorem kept_ref' {P : List SS} {d : Rat} (h : Inc P) : keptL (okd P (d * d)) (P.length - 1) = bst (okr P (d * d)) (P.length - 1) (P.length - 1) [0] := by
  rw [kept_best (fun i _ => okd_next i)]
  exact (bst_congr (fun i k h1 h2 => by
    rcases Nat.eq_zero_or_pos P.length with h0 | h0
    · omega
    · exact okr_okd (h.lt h1 (by omega))) _ _ (Nat.zero_le _)).symm
instance (priority := high) sr_rkeptK (w0 : World) (L : List Blk) (I : R_api_Interval) (b n c : Nat) (d : Rat) (pts : List R_movingpoint_Sample) (sp : List Value) (T : TypeId) [h : AtC w0 L b (row rS pts sp) T] : SpecR Tryz.prog w0 L 87 [vRun I b n c, vQ d] (Nat × Nat × List Value) (fun s => vL s.1 (keptL (okd pts (d * d)) (n - 1)) s.2.1) (fun s => [⟨s.1, row (eI .i64) (keptL (okd pts (d * d)) (n - 1)) s.2.2, 3⟩]) ((RunOk pts n c ∧ (1 ≤ n ∧ n ≤ 1048576) ∧ M d ≤ 1073741824) ∧ Inc pts) := ⟨fun hp w hw => by
  have hn := hp.1.1.1
  have := (sr_rkept w0 L I b n c d pts sp T).out hp.1 w hw
  rw [← hn, ← kept_ref' hp.2, hn] at this
  exact this⟩
theorem rnK_rl {us : List PU} {d : Rat} (h : PGood 276 12 us) : ∀ p ∈ rnK us d, RLp p.1 p.2 ∧ p.2.length ≤ 13 := fun p hp => by
  obtain ⟨q, hq, rfl⟩ := List.mem_map.1 hp
  have hg := runs_gd (d := d) h q hq
  exact ⟨hg.r.kp, by have := hg.l'; have := hg.l; show (kpP (d * d) q.2).length ≤ 13; omega⟩
set_option maxHeartbeats 4000000 in
theorem simplified_spec (v : Value) (us : List PU) (d : Rat) (w : World) (hv : ArgS w v rP us) (h : PGood 276 12 us) (hM : M d ≤ 1073741824) :
    Calls Tryz.prog 36 [v, vQ d].toArray w (RetM (SlS rP 36 (mNorm (b1s (rnK us d)))) (fun s => vSl s) (fun s => mS 68 s) w) := by
  have hav := ArgC.mk hv
  have hfn := good_fine h (by decide)
  have hok := rnK_ok (d := d) h
  have hrl' := rnK_rl (d := d) h
  have hE := rnK_err (d := d) h
  have hgd := runs_gd (d := d) h
  have hrl := rns_len (fstU us) us
  have hun := h.n
  refine fn_intro Tryz.func36 rfl Tryz.ntmps36 rfl ?_
  repeat (first | (refine wkB ?_; try intro _) | (refine sC rfl rfl ?_ ?_; focus (exact hfn)) | (refine sN rfl rfl ?_ ?_; (focus (exact hfn)); intro _; (try simp only [List.cons_append, List.nil_append, List.append_nil])))
  rename_i b3 s
  obtain ⟨dn, o, he, hk⟩ := s
  have hdl : (dn.map RD.hd).length = (rns (fstU us) us).length := by rw [List.length_map, ← he, List.length_map]
  rw [show (⟨dn, o, he, hk⟩ : RunsO (rns (fstU us) us)).mem ++ [⟨b3, e_api_Rat (Q d), 28⟩] = mS 35 o ++ (dnB dn ++ [⟨b3, e_api_Rat (Q d), 28⟩]) from List.append_assoc _ _ _]
  have hrk : rnK us d = (rns (fstU us) us).map (kpR (d * d)) := rfl
  have hlaw2 := rnK_len us d
  generalize rns (fstU us) us = ps at *
  generalize rnK us d = pk at *
  · refine j_loop (S := (A : List RD) × (B : List RD) × SlS rR 21 ((A ++ B).map RD.hd)) (fun q => q.1.map (fun r => (r.I, r.pts)) = (ps.take q.1.length).map (kpR (d * d)) ∧ q.2.1.map (fun r => (r.I, r.pts)) = ps.drop q.1.length ∧ q.1.length + q.2.1.length = ps.length ∧ ∀ r ∈ q.1 ++ q.2.1, r.pts.length ≤ r.c) (fun q => [(3, .pointer (some ⟨b3, 0, none⟩)), (5, vSl q.2.2), (6, .int .i64 (q.1.length : Nat))])
      (fun q => mS 35 q.2.2 ++ (dnB q.1 ++ (dnB q.2.1 ++ [⟨b3, e_api_Rat (Q d), 28⟩]))) (fun q => q.2.1.length) ⟨[], dn, o⟩ ⟨rfl, he, by rw [← he]; simp, hk⟩ sbB (List.Sublist.refl _) (fun q hq => ?_)
    obtain ⟨A, B, o⟩ := q
    obtain ⟨hA, hB, hn, hkk⟩ := hq
    simp only at hA hB hn hkk o ⊢
    have hXn : ((A ++ B).map RD.hd).length = ps.length := by rw [List.length_map, List.length_append]; exact hn
    repeat (refine wkB ?_; try intro _)
    simp only [hXn]
    refine j_cond rfl (fun hc => ?_) (fun hc => ?_)
    · have hlt : A.length < ps.length := by have := of_decide_eq_true hc; omega
      rcases B with _ | ⟨r, B'⟩
      · simp at hn; omega
      rcases o.cases 35 with ⟨x0, x1, x2⟩ | ⟨bo, co, spo, hco, x1, x2, xne⟩
      · exact absurd x0 (by simp)
      have hXm : (A ++ r :: B').map RD.hd = A.map RD.hd ++ r.hd :: B'.map RD.hd := by rw [List.map_append]; rfl
      have hXl : (A.map RD.hd ++ r.hd :: B'.map RD.hd).length = ps.length := by rw [← hXm, List.length_map, List.length_append]; exact hn
      rw [x1, x2, dnB_cons]
      simp only [List.cons_append, List.nil_append]
      clear x1 x2 xne
      rw [hXm] at hco
      simp only [hXm, hXl] at hco ⊢
      have hrp : (r.I, r.pts) = gi ps (A.length : Int) := by
        have h1 : gi ((r :: B').map (fun r => (r.I, r.pts))) 0 = gi (ps.drop A.length) 0 := by rw [hB]
        rw [show gi (ps.drop A.length) 0 = gi ps (A.length : Int) by unfold gi; simp [List.getD_eq_getElem?_getD]] at h1
        exact h1
      have hg := hgd _ (gi_mem (i := (A.length : Int)) (xs := ps) (by omega))
      rw [← hrp] at hg
      have hrc := hkk r (List.mem_append_right _ (.head _))
      have hB' : B'.map (fun r => (r.I, r.pts)) = ps.drop (A.length + 1) := by
        have h1 := congrArg List.tail hB
        rw [List.tail_drop] at h1
        exact h1
      have hAk : ∀ r' : RD, r'.I = r.I → r'.pts = kpP (d * d) r.pts → (A ++ [r']).map (fun r => (r.I, r.pts)) = (ps.take (A.length + 1)).map (kpR (d * d)) := fun r' e1 e2 => by
        rw [take_snoc hlt, List.map_append, List.map_append, hA, ← hrp]
        congr 1
        show [(r'.I, r'.pts)] = [kpR (d * d) (r.I, r.pts)]
        rw [e1, e2]
        rfl
      obtain ⟨I, b, c, pts, sp⟩ := r
      have hback : ∀ (r' : RD), ∃ o' : SlS rR 21 (((A ++ [r']) ++ B').map RD.hd), vSl o' = .slice (some ⟨bo, 0, none⟩) ps.length co ∧ mS 35 o' = [⟨bo, row rR (A.map RD.hd ++ r'.hd :: B'.map RD.hd) spo, 35⟩] := fun r' => by
        have hm2 : ((A ++ [r']) ++ B').map RD.hd = A.map RD.hd ++ r'.hd :: B'.map RD.hd := by rw [List.append_assoc, List.map_append]; rfl
        have hl2 : (A.map RD.hd ++ r'.hd :: B'.map RD.hd).length = ps.length := by
          rw [← hXl, List.length_append, List.length_append, List.length_cons, List.length_cons]
        rw [hm2]
        refine ⟨SlS.at_ bo co spo (by rw [hl2]; exact hco) (by simp), ?_, rfl⟩
        show Value.slice _ (A.map RD.hd ++ r'.hd :: B'.map RD.hd).length co = _
        rw [hl2]
      simp only at hg hrc hAk
      have hw := kp_way (P := pts) (d := d)
      have hr := hg.run hrc
      have hl1 := hg.r.l1
      have hl13 := hg.l
      simp only at hl1 hl13
      have hwn := hw.n
      have hrg := hw.rgt
      rw [show pts.length - 1 + 1 = pts.length by omega] at hrg
      have hs := set_mid (A.map RD.hd) (B'.map RD.hd) (⟨I, ⟨some ⟨b, 0, none⟩, pts.length, c⟩⟩ : R_simplify_Run)
      have hgk : GiK (A.map RD.hd ++ (⟨I, ⟨some ⟨b, 0, none⟩, pts.length, c⟩⟩ : R_simplify_Run) :: B'.map RD.hd) (A.length : Int) ⟨I, ⟨some ⟨b, 0, none⟩, pts.length, c⟩⟩ := ⟨by
        have := gi_mid (A.map RD.hd) (B'.map RD.hd) (⟨I, ⟨some ⟨b, 0, none⟩, pts.length, c⟩⟩ : R_simplify_Run)
        rw [List.length_map] at this
        exact this⟩
      rw [List.length_map] at hs
      have hhd : RD.hd ⟨I, b, c, pts, sp⟩ = ⟨I, ⟨some ⟨b, 0, none⟩, pts.length, c⟩⟩ := rfl
      simp only [hhd] at hXl ⊢
      generalize A.map RD.hd = hAs at *
      generalize B'.map RD.hd = hBs at *
      have hp1 : (RunOk pts pts.length c ∧ (1 ≤ pts.length ∧ pts.length ≤ 1048576) ∧ M d ≤ 1073741824) ∧ Inc pts := ⟨⟨hr, ⟨hl1, by omega⟩, hM⟩, hg.r.i⟩
      have hp2 : RunOk pts pts.length c ∧ 1 ≤ pts.length ∧ (keptL (okd pts (d * d)) (pts.length - 1)).length ≤ 1048576 ∧ rgt pts.length (keptL (okd pts (d * d)) (pts.length - 1)) = true := ⟨hr, hl1, by omega, hrg⟩
      repeat (refine wkB ?_; try intro _)
      (refine j_tree (.v [0, 1, 2, 3, 4, 6, 7, 8, 10] (.e2 5 (.e1 9 (.e1 11 (.e1 12 (.v [13] (.e1 14 (.fin)))))) 9 (.e2 5 (.e1 11 (.e1 12 (.v [13] (.e1 14 (.fin))))) 11 (.e1 5 (.e1 12 (.v [13] (.e1 14 (.fin)))))))) ([⟨b3, e_api_Rat (Q d), 28⟩]) (h := ?_); refine wkX ?_)
      repeat' (first | (with_reducible refine And.intro ?_ ?_) | (with_reducible exact True.intro) | (refine wkT ?_; try intro _) | (refine tC rfl rfl ?_ ?_; focus (first | exact hp1 | exact hp2)) | (refine uC rfl rfl ?_ ?_; focus (first | exact hp1 | exact hp2)) | (refine eN rfl rfl ?_ ?_; (focus (first | exact hp1 | exact hp2)); intro _; (try simp only [List.cons_append, List.nil_append, List.append_nil])) | fail)
      all_goals
        rename_i sk sq
        obtain ⟨⟨bq, cq, spq⟩, hcq⟩ := sq
        refine eR rfl ?_ ?_
        · rw [hXl]; omega
        rw [hs]
        repeat (refine wkT ?_; try intro _)
        repeat (refine wkB ?_; try intro _)
        obtain ⟨o', e1, e2⟩ := hback ⟨I, bq, cq, kpP (d * d) pts, spq⟩
        have hhd2 : RD.hd ⟨I, bq, cq, kpP (d * d) pts, spq⟩ = ⟨I, ⟨some ⟨bq, 0, none⟩, (keptL (okd pts (d * d)) (pts.length - 1)).length, cq⟩⟩ := by
          unfold RD.hd
          rw [kpP_len]
        rw [hhd2] at e2
        refine jx_loopP ⟨A ++ [⟨I, bq, cq, kpP (d * d) pts, spq⟩], B', o'⟩ ⟨?_, ?_, ?_, ?_⟩ ?_ ?_ (by show B'.length < B'.length + 1; omega)
        · rw [List.length_append]
          exact hAk _ rfl rfl
        · rw [List.length_append]
          exact hB'
        · rw [List.length_append]
          simp only [List.length_cons, List.length_nil] at hn ⊢
          omega
        · intro r' hr'
          simp only [List.append_assoc, List.cons_append, List.nil_append] at hr'
          rcases List.mem_append.1 hr' with k | k
          · exact hkk r' (List.mem_append_left _ k)
          · rcases List.mem_cons.1 k with k | k
            · subst k
              show (kpP (d * d) pts).length ≤ cq
              rw [kpP_len]
              exact hcq
            · exact hkk r' (List.mem_append_right _ (.tail _ k))
        · simp only [e1]
          rw [show ((A ++ [(⟨I, bq, cq, kpP (d * d) pts, spq⟩ : RD)]).length : Int) = (A.length : Int) + 1 by simp]
          exact sbB
        · simp only [e2]
          refine sbp_of (A' := ⟨bo, row rR (hAs ++ ⟨I, ⟨some ⟨bq, 0, none⟩, (keptL (okd pts (d * d)) (pts.length - 1)).length, cq⟩⟩ :: hBs) spo, 35⟩ :: ⟨bq, row rS (kp pts (keptL (okd pts (d * d)) (pts.length - 1)) (keptL (okd pts (d * d)) (pts.length - 1)).length) spq, 47⟩ :: (dnB A ++ (dnB B' ++ [⟨b3, e_api_Rat (Q d), 28⟩]))) ?_
          exact ((dnB_perm A ⟨I, bq, cq, kpP (d * d) pts, spq⟩).append_right _).cons _
    · have hB0 : B = [] := by
        have := of_decide_eq_false hc
        exact List.length_eq_zero_iff.1 (by omega)
      subst hB0
      obtain ⟨o', e1, e2⟩ := SlS.turn 35 (show (A ++ []).map RD.hd = A.map RD.hd by rw [List.append_nil]) o
      have hn' : A.length = ps.length := by simpa using hn
      have heA : A.map (fun r => (r.I, r.pts)) = pk := by rw [hA, hn', List.take_length, hrk]
      simp only [← e1, ← e2]
      clear e1 e2
      have hRC := runC_of (w0 := w) o' heA (mS 35 o' ++ (dnB A ++ (dnB [] ++ [⟨b3, e_api_Rat (Q d), 28⟩])))
      repeat (first | (refine wkB ?_; try intro _) | (refine sC rfl rfl ?_ ?_; focus (exact ⟨hok, hrl'⟩)) | (refine sN rfl rfl ?_ ?_; (focus (exact ⟨hok, hrl'⟩)); intro _; (try simp only [List.cons_append, List.nil_append, List.append_nil])))
      exact jx_ret_tmp rfl rfl (fun w' hw' => ⟨_, rfl, hw'.sub suB⟩)
/-- What Simplify asks. -/
structure SmpOk (us : List PU) (d : Rat) : Prop where
  g : PGood 276 12 us
  p : 0 ≤ d
  m : M d ≤ 1073741824
instance sr_simplify (w0 : World) (L : List Blk) (v : Value) (us : List PU) (d : Rat) [h : LstC w0 L v PU rP us] : SpecR Tryz.prog w0 L 29 [v, vQ d] (SlS rP 36 (mNorm (b1s (rnK us d)))) (fun s => .tuple #[vSl s, .int .i64 0]) (fun s => mS 68 s) (SmpOk us d) := ⟨fun hp w hw => simplify_spec v us d w (h.out w hw) hp.g hp.p hp.m⟩
instance sr_simplified (w0 : World) (L : List Blk) (v : Value) (us : List PU) (d : Rat) [h : LstC w0 L v PU rP us] : SpecR Tryz.prog w0 L 36 [v, vQ d] (SlS rP 36 (mNorm (b1s (rnK us d)))) (fun s => vSl s) (fun s => mS 68 s) (SmpOk us d) := ⟨fun hp w hw => simplified_spec v us d w (h.out w hw) hp.g hp.m⟩
end Go.Vt
/- SimplifySimplifies, walked. Conditions: those that each statement names. -/
set_option linter.unusedSimpArgs false
set_option linter.unusedVariables false
set_option maxHeartbeats 2000000
set_option maxRecDepth 100000
namespace Go.Vt
open Go.RowKit Go.Proofs
open Fv (va red)
/-- For the distance 0 the moving point is the same. -/
theorem rnK_zero {us : List PU} (h : PGood 276 12 us) : mNorm (b1s (rnK us 0)) = us := by
  obtain ⟨g1, g2, g3, g4, g5⟩ := rnK_all (d := 0) h
  have hv : UVal (b1sW (rnK us 0)) := ⟨fun u hu => ((g3 u hu).1).uin K_one.2.2.1, fun u hu => (g3 u hu).2⟩
  obtain ⟨n1, n2⟩ := nrm_nf hv g1
  have hfn := good_fine h (by decide)
  have hH : ∀ t v, Has ((b1sW (rnK us 0)).map absU) t v ↔ Has (us.map absP) t v := fun t v => by
    constructor
    · intro hx
      obtain ⟨v', hv'⟩ := (g4 t).1 ⟨v, hx⟩
      have := d2_zero (by have := g5 t v' v hv' hx; rw [Rat.mul_zero] at this; exact this)
      rw [← this]
      exact hv'
    · intro hx
      obtain ⟨v', hv'⟩ := (g4 t).2 ⟨v, hx⟩
      have := d2_zero (by have := g5 t v v' hx hv'; rw [Rat.mul_zero] at this; exact this)
      rw [this]
      exact hv'
  have hu := NF.uniq n1 (show NF (us.map absP) from hfn.nf) fun t v => (n2 t v).trans (hH t v)
  rw [← map_toU] at hu
  have hok := nrmR_ok hv.1
  have e : nrmR (b1sW (rnK us 0)) = us.map toU := absL_inj (fun u hu => (hok u hu).i) (fun u hu => by
    obtain ⟨x, hx, rfl⟩ := List.mem_map.1 hu
    exact (hfn.k x hx).i) hu
  unfold mNorm
  rw [mpN_map toU, show (b1s (rnK us 0)).map toU = b1sW (rnK us 0) from rfl, e, mpN_map ofU, List.map_map]
  exact List.map_id'' (fun _ => rfl) us
set_option maxHeartbeats 4000000 in
theorem simplifySimplifies_spec (c : viatorlaw15_Car) (ss : List Stp15) (a1 a2 d : Int) (w : World) (g1 : 0 ≤ a1 ∧ a1 ≤ 255) (g2 : 0 ≤ a2 ∧ a2 ≤ 255) (g3 : 0 ≤ d ∧ d ≤ 255) (hc : CarIn w c ss) :
    Calls Tryz.prog 7 [.agg (e_viatorlaw15_Car c), .agg (e2C a1 a2), .int .u8 d].toArray w (Ret (.bool true) w) := by
  have : CarC w c ss := ⟨hc⟩
  have hcl := hc.l
  refine fn_intro Tryz.func7 rfl Tryz.ntmps7 rfl ?_
  repeat (refine wkB ?_; try intro _)
  rename_i b2 b3
  by_cases h6 : (c.Steps.len : Int) ≤ 6
  · simp only [decide_eq_true h6, Bool.not_true]
    have hg := mvL_good (c := c) (ss := ss) (a1 := a1) (a2 := a2) (hc.ok (by omega)) g1 g2
    have hz := rnK_zero hg
    have hn := hg.n
    have hM : M (dst d) ≤ 1073741824 := Nat.le_trans (dst_M d) (by decide)
    have hd := dst_nonneg d
    have hpre : (0 ≤ a1 ∧ a1 ≤ 255) ∧ (0 ≤ a2 ∧ a2 ≤ 255) ∧ ss.length ≤ 6 := ⟨g1, g2, by omega⟩
    have hp1 : True → SmpOk (mvL c ss a1 a2) (dst d) := fun _ => ⟨hg, hd, hM⟩
    have hp2 : True → SmpOk (mvL c ss a1 a2) 0 := fun _ => ⟨hg, Rat.le_refl, by decide⟩
    have hl1 : (mNorm (b1s (rnK (mvL c ss a1 a2) (dst d)))).length ≤ 1048576 := by
      obtain ⟨-, k2, -⟩ := rnK_all (d := dst d) hg
      have := nrmR_len (mpN toU (b1s (rnK (mvL c ss a1 a2) (dst d))) (b1s (rnK (mvL c ss a1 a2) (dst d))).length)
      rw [mpN_len] at this
      unfold mNorm
      rw [mpN_len]
      omega
    have hl2 : (mNorm (b1s (rnK (mvL c ss a1 a2) 0))).length ≤ 1048576 ∧ (mvL c ss a1 a2).length ≤ 1048576 := ⟨by rw [hz]; omega, by omega⟩
    have hS : decide (mNorm (b1s (rnK (mvL c ss a1 a2) 0)) = mvL c ss a1 a2) = true := decide_eq_true hz
    repeat (first | (refine wkB ?_; try intro _) | (refine sC rfl rfl ?_ ?_; focus (with_reducible exact hpre)) | (refine sN rfl rfl ?_ ?_; (focus (with_reducible exact hpre)); intro _; (try simp only [List.cons_append, List.nil_append, List.append_nil])))
    clear hM hd
    have hp3 : (mNorm (b1s (rnK (mvL c ss a1 a2) (dst d)))).length ≤ 1048576 ∧ (mNorm (b1s (rnK (mvL c ss a1 a2) (dst d)))).length ≤ 1048576 := ⟨hl1, hl1⟩
    generalize mvL c ss a1 a2 = us at *
    clear hc this
    repeat (first | (refine wkB ?_; try intro _) | (refine sC rfl rfl ?_ ?_; focus (first | with_reducible exact g3 | with_reducible exact hp1 trivial | with_reducible exact hp2 trivial | with_reducible exact hp3 | with_reducible exact hl2)) | (refine sN rfl rfl ?_ ?_; (focus (first | with_reducible exact g3 | with_reducible exact hp1 trivial | with_reducible exact hp2 trivial | with_reducible exact hp3 | with_reducible exact hl2)); intro _; (try simp only [List.cons_append, List.nil_append, List.append_nil])))
    simp only [eq_self, decide_true]
    repeat (first | (refine wkB ?_; try intro _) | (refine sC rfl rfl ?_ ?_; focus (with_reducible exact hl2)) | (refine sN rfl rfl ?_ ?_; (focus (with_reducible exact hl2)); intro _; (try simp only [List.cons_append, List.nil_append, List.append_nil])))
    simp only [hS]
    repeat (refine wkB ?_; try intro _)
    exact jx_ret_tmp rfl rfl (fun w hw => ret_ok hw)
  · simp only [decide_eq_false h6, Bool.not_false]
    repeat (refine wkB ?_; try intro _)
    exact jx_ret_tmp rfl rfl (fun w hw => ret_ok hw)
end Go.Vt
/- The card of SimplifySimplifies. Conditions: none. -/
set_option linter.unusedSimpArgs false
set_option linter.unusedVariables false
set_option maxHeartbeats 2000000
namespace Go.Proofs.YtgcjapcminakdaaGreatDoor
open Go.ChangeShapes Go.WideShapes Go.ChangeAt Go.RowKit Go.Deep
set_option maxRecDepth 100000
def sArgs : Array Value := #[.agg #[.int .u8 0, .int .u8 0, .int .u8 0, .slice none 0 0], .agg #[.int .u8 0, .int .u8 0], .int .u8 0]
theorem simpl_reads (os : Os) {H : Type} (enc : TypeId × Value → H) : ∃ places, DataW.whole enc Tryz.prog ((laidWorld os).forCall (fun _ _ => 0) ⟨#[], sArgs, []⟩).memory Tryz.f7.params.toList Rows.simplifySimplifiesSpec.vars false sArgs.toList 8 = some ([.agg [.lit (.int .u8 0), .lit (.int .u8 0), .lit (.int .u8 0), .nil], .agg [.lit (.int .u8 0), .lit (.int .u8 0)], .lit (.int .u8 0)], [], places) :=
  ⟨[], by kernel_rfl⟩
theorem simpl_contract (H : Type) (enc : TypeId × Value → H) (W : World) (base : Nat) (args : Array Value) (ds gs : List (DataW H)) (before : List MemPlace)
    (hval : ∀ (j : Nat) t v, Tryz.f7.params[j]? = some t → args[j]? = some v → Value.okWide Tryz.prog W .any base t v)
    (hW : DataW.Whole enc Tryz.prog Tryz.f7.params.toList Rows.simplifySimplifiesSpec.vars false W args.toList ds gs before) :
    Calls Tryz.prog 7 args W fun e W' => ∃ v, e = .returned v ∧ Rows.simplifySimplifiesSpec.post enc Tryz.prog Tryz.f7 false true false false W args v W' := by
  have hW' := hW
  obtain ⟨p, q, hA0, hV, rfl, hfz, hnd⟩ := hW
  have hA : DataW.TrodAll enc Tryz.prog W 0 (fun _ => true) true Tryz.f7.params.toList args.toList ds p := hA0
  rw [Tryz.params7] at hA hval
  obtain ⟨v0, vs0, d0, ds0, p0, q0, hargs, rfl, rfl, h0, r0⟩ := trodAll_cons hA
  obtain ⟨v1, vs1, d1, ds1, p1, q1, hargs1, rfl, rfl, h1, r1⟩ := trodAll_cons r0
  obtain ⟨v2, vs2, d2, ds2, p2, q2, hargs2, rfl, rfl, h2, r2⟩ := trodAll_cons r1
  subst hargs2
  subst hargs1
  obtain ⟨rfl, rfl, rfl⟩ := trodAll_nil r2
  obtain rfl : args = #[v0, v1, v2] := by cases args; simp_all
  obtain ⟨rfl, rfl⟩ := trodVars_none hV
  clear hA0
  simp only [List.append_nil] at hW'
  have hlt : ∀ x ∈ p0 ++ (p1 ++ p2), x.block < W.heap.size := fun x hx => by simpa using hW'.lt x hx
  have h0k := h0
  have h1k := h1
  obtain ⟨d, rfl, rfl, rfl, hwf⟩ := open_int Tryz.underlying5 (hval 2 5 v2 rfl rfl) h2
  have hd := u8_wf hwf
  obtain ⟨a1, a2, rfl, g1, g2⟩ := open_two (hval 1 58 v1 rfl rfl) h1
  obtain ⟨c, ss, rfl, hc⟩ := open_car (hval 0 78 v0 rfl rfl) h0
  refine (Go.Vt.simplifySimplifies_spec c ss a1 a2 d W g1 g2 hd hc).mono fun e' W' ⟨he', ⟨hb, _⟩⟩ => ?_
  subst he'
  simp only [List.append_nil] at hlt hW'
  exact ⟨_, rfl, ⟨_, _, _, [], _, [], hW', trodAll_mk1 (shut_bool Tryz.underlying4 _), trodAll_mk3 (Below.trod rlaidOut (by kernel_rfl) (of_decide_eq_true (by kernel_rfl)) h0k hb (fun x hx => hlt x (List.mem_append_left _ hx))) (Below.trod rlaidOut (by kernel_rfl) (of_decide_eq_true (by kernel_rfl)) h1k hb (fun x hx => hlt x (List.mem_append_right _ hx))) (shut_int Tryz.underlying5 hwf), (by first | rfl | (simp; done)), hb.frame _, fun h => by cases h⟩⟩
theorem simpl_lifted (os : Os) (started : os.Started) (H : Type) (enc : TypeId × Value → H) (F : Stop.Interp) :
    ReturnsInHanded {} Tryz.checked os 7 .any ((OpenSpec.ofChange Rows.simplifySimplifiesSpec).preRow enc Tryz.prog Tryz.f7 Rows.simplifySimplifiesRow.domain false Rows.simplifySimplifiesRow.laid) (((OpenSpec.ofChange Rows.simplifySimplifiesSpec).at F).post enc Tryz.prog Tryz.f7 false true false false) := by
  obtain ⟨places, hx⟩ := simpl_reads os enc
  refine returnsInHanded_of_row (C := Tryz.checked) (s := OpenSpec.ofChange Rows.simplifySimplifiesSpec) rown started (by kernel_rfl) Tryz.func7
    (witness_row_at (enc := enc) (C := Tryz.checked) false (laidWorld os) sArgs rfl (by kernel_rfl) (by kernel_rfl) (by kernel_rfl)
      (OpenSpec.preRow_of_cond 8 hx (by kernel_rfl) (fun k hk => by cases hk) (by kernel_rfl) (laid_met os _))) ?_
  intro W base args ds gs before hval hW _ _ _ _ _ _
  exact simpl_contract H enc W base args ds gs before hval hW
theorem simpl_said : Rows.SimplifySimplifiesSaid :=
  OpenClaim.holds_of_cond 7 Tryz.f7 rfl rfl rfl rfl rfl rfl rfl ⟨rfl, rfl, rfl, rfl, rfl⟩ rfl rfl rfl rfl rfl (by kernel_rfl) Tryz.func7 (by kernel_rfl)
    (of_decide_eq_true (by kernel_rfl)) (by unfold Func.isWrapper; first | (rw [if_pos (by decide +kernel)]; kernel_rfl) | (rw [if_neg (by decide +kernel)]; exact ⟨rfl, rfl⟩))
    (fun os started H enc _ F => by rw [OpenClaim.pre_eq_preRow]; exact simpl_lifted os started H enc F)
theorem simpl_plain (f : FuncId) (fn : Func) (hf : Tryz.pinned.checked.prog.funcNamed "viator/viatorlaw31.SimplifySimplifies" = some f) (hfn : Tryz.pinned.checked.prog.funcs[f]? = some fn) :
    false = Tryz.pinned.checked.prog.looks [] ∧ ∀ (j : Nat) t, fn.params[j]? = some t → Tryz.pinned.checked.prog.wantsStandIn t = false := by
  obtain rfl : f = 7 := Option.some.inj ((show Tryz.prog.funcNamed "viator/viatorlaw31.SimplifySimplifies" = some 7 by kernel_rfl).symm.trans hf) |>.symm
  obtain rfl : fn = Tryz.f7 := (Option.some.inj (Tryz.func7.symm.trans hfn)).symm
  refine ⟨by kernel_rfl, fun j t ht => ?_⟩
  rw [Tryz.params7] at ht
  have := Array.mem_of_getElem? ht
  simp at this
  rcases this with rfl | rfl | rfl
  · exact (show Tryz.prog.wantsStandIn 78 = false by kernel_rfl)
  · exact (show Tryz.prog.wantsStandIn 58 = false by kernel_rfl)
  · exact (show Tryz.prog.wantsStandIn 5 = false by kernel_rfl)
/-- The card. -/
theorem simplifySimplifies_card : Rows.SimplifySimplifiesCardSaid :=
  Claim7.holds_tied_plain_at .later [] _ _ _ _ simpl_said (fun _ h => by cases h) (by kernel_rfl) (fun _ h => by cases h) simplifySimplifies_row_tie rfl ⟨rfl, rfl⟩ (by kernel_rfl) rfl simpl_plain (by kernel_rfl)
end Go.Proofs.YtgcjapcminakdaaGreatDoor
