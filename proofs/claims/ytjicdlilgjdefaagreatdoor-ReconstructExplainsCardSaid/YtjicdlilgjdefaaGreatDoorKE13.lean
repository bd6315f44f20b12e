/- Proof that reconstructed trajectories are explained by their reports (part 13 of 27.) Conditions: those that each statement names. -/
import Derived.RangeFuncBox
import Derived.RangeFuncNested
import Derived.Test.YtjicdlilgjdefaaGreatDoorKE10
import Derived.Test.YtjicdlilgjdefaaGreatDoorKE11
import Derived.Test.YtjicdlilgjdefaaGreatDoorKE12
/- Loops over iterators under the program logic: codes in a round cut in two, appends onto slices that own their rows, boxes. Conditions: those that each rule names. -/
set_option linter.unusedSimpArgs false
set_option linter.unusedVariables false
set_option maxHeartbeats 2000000
set_option maxRecDepth 100000
set_option linter.unusedSectionVars false
namespace Go.Vt
open Go.RowKit
section
variable {P : Program} {w0 : World} {n : Nat} {ops : Array Oper} {L : List Blk} {E : Env} {Q : Exit → Act → World → Prop} {rest : List Oper} {r : Option Nat} {N : Nat}
variable {ty : TypeId} {pos : String} {aft : Array Edge} {gd : Option (Nat × Bool)} {t : Tmp} {x y : Operand}
theorem Zdg {o : Oper} {v : Value} {a : Act} {ds : List Deferred} {w : World} (hy : Yl P w0 n L E o v) (ha : Rep n E a) (hw : Own w0 L w) (hg : guardB ops E o.guard = some true) (hn : noDef o = true)
  (h : ∀ w', Ext w w' → wpListIn (Fr r) N P ops Q rest { a.put o.dst v with defers := ds } w') : wpListIn (Fr r) N P ops Q (o :: rest) { a with defers := ds } w := by
 refine wpListIn_step fun K hK => ?_
 rw [if_pos (ZaI (a := a) ha hg)]
 refine ZmZ hn (ZcC (a := { a with defers := ds }) (hy.out a w ha hw) fun w' hx => hK _ _ ?_)
 have e : ({ a with defers := ds } : Act).put o.dst v = { a.put o.dst v with defers := ds } := by
  cases o.dst <;> rfl
 rw [e]
 exact h w' hx
theorem Zpv {Q' : Exit → Act → World → Prop} {o : Oper} {a : Act} {K : Act → World → Prop} {res : Result Next} (hQQ : ∀ e a w, e ≠ .normal → Q' e a w → Q e a w) (h : o.upon P a K Q' res) : o.uponIn (Fr r) N P a K Q res := by
 cases res with
 | ok x w' =>
  cases x <;> simp only [Oper.upon] at h <;> simp only [Oper.uponIn]
  case value => exact h
  case skip => exact h
  case defer => exact h
  case enter =>
   refine ⟨(fun hd => by cases hd), callsI (h.mono fun e w'' he => ?_)⟩
   cases e with
   | returned v => exact he
   | panicked ch => exact hQQ _ _ _ (fun h => by cases h) he
   | outgrown => obtain ⟨a0, w0, h0⟩ := he; exact ⟨a0, w0, hQQ _ _ _ (fun h => by cases h) h0⟩
  case row => exact ⟨(fun hd => by cases hd), fun c cs _ => let ⟨v, w', r, s⟩ := h c cs; ⟨v, w', r, stepsIn_wide.2 s⟩⟩
 | halt x w' =>
  cases x <;> simp only [Oper.upon] at h <;> simp only [Oper.uponIn]
  all_goals first | exact h | exact hQQ _ _ _ (fun h => by cases h) h
def MidL (r : Option Nat) (N : Nat) (P : Program) (ops : Array Oper) (Q : Exit → Act → World → Prop) (l2 : List Oper) : Exit → Act → World → Prop := fun e a w => e = .normal ∧ wpListIn (Fr r) N P ops Q l2 a w
theorem Za7 {l2 : List Oper} : ∀ (l1 : List Oper) (a : Act) (w : World), l1.all noDef = true → wpList P ops (MidL r N P ops Q l2) l1 a w → wpListIn (Fr r) N P ops Q (l1 ++ l2) a w
 | [], _, _, _, h => h.2
 | o :: l, a, w, hd, h => by
  simp only [List.all_cons, Bool.and_eq_true] at hd
  simp only [wpList] at h
  simp only [List.cons_append, wpListIn]
  split at h
  ·rename_i hw
   rw [if_pos hw]
   rcases h with h | ⟨_, a0, w0, h, _⟩
   ·refine ⟨fun f _ => trivial, ?_⟩
    rw [Oper.semAt_eq _ _ _ (ZdE hd.1)]
    have h2 : o.wpIn (Fr r) N P a w (wpListIn (Fr r) N P ops Q (l ++ l2)) Q := Oper.wpIn_mono (fun a w h => Za7 l a w hd.2 h) ⟨fun f _ => trivial, by
     rw [Oper.semAt_eq _ _ _ (ZdE hd.1)]
     exact Zpv (fun e a w he hq => absurd hq.1 he) h⟩
    have h3 := h2.2
    rw [Oper.semAt_eq _ _ _ (ZdE hd.1)] at h3
    exact h3
   ·cases h
  ·rename_i hw
   rw [if_neg hw]
   exact ⟨fun f _ => trivial, Za7 l _ _ hd.2 h⟩
theorem Zde {l2 : List Oper} (h : ∀ a w, Rep n E a → Own w0 L w → wpListIn (Fr r) N P ops Q l2 a w) : JX w0 n .normal (MidL r N P ops Q l2) E L := ⟨fun a w ha hw => ⟨rfl, h a w ha hw⟩⟩
theorem Ze7 {S T : TypeId} {a : Act} {w : World} {v : Value} {b2 m c2 k size bytes base : Nat} {xs news : List Value} {z : Value} {zc : Array Value} [hT : UndC P S (.slice T)] [hz : ZeroC P T z zc] [hk : SizeC P T size] [hB : BytesC P T bytes] (ha : Rep n E a) (hx : Env.ev E x = some v) (hy : Env.ev E y = some (.slice (some ⟨b2, 0, none⟩) m c2))
  (h6 : zc.size = size) (h7 : 0 < size) (hown : w.ownsRow base T size v k xs) (hn : news.length = m * size) (hc : ∀ j u, news[j]? = some u → w.cell? ((⟨b2, 0, none⟩ : Addr).add j) = some u) (h1 : ∀ u ∈ news, u.oneCell' = true) (hm : k + m ≤ maxLen) (hb : (k + m) * bytes ≤ 140737488355328) (hbs : base ≤ w.heap.size)
  (h : ∀ v' w', w'.ownsRow base T size v' (k + m) (xs ++ news) → w.grownBy w' v.ownBlock → wpListIn (Fr r) N P ops Q rest (a.put (some t) v') w') : wpListIn (Fr r) N P ops Q (⟨some t, .call ⟨.builtin .append, #[x, y], #[S, S]⟩, ty, pos, aft, none⟩ :: rest) a w := by
 obtain ⟨i, hi, h4⟩ := Zbk hk.out
 obtain ⟨i', hi', h5⟩ := Zbk hB.out
 obtain rfl : i' = i := Option.some.inj (hi'.symm.trans hi)
 have hz' : i'.zero = some z := by simpa [hi] using hz.out
 obtain ⟨v', w', hr, h8, h9, _⟩ := run_append_own (P := P) w base S ty T i' z size bytes hT.out hi hz' h4 h5 (by rw [hz.cells]; exact h6) h7 v k xs hown ⟨b2, 0, none⟩ m c2 news hn hc h1 hm hb hbs
 refine wpListIn_step fun K hK => ?_
 rw [if_pos (show Region.wanted _ _ = true from rfl)]
 refine ⟨fun f _ => trivial, ?_⟩
 rw [Oper.semAt_eq _ _ _ (fun c e => by cases e), ZaD ha hx hy hr]
 exact hK _ _ (h v' w' h8 h9)
theorem ZdU {T T0 : TypeId} {a : Act} {w : World} {b : Nat} {u u0 : Value} (ha : Rep n E a) (hx : Env.ev E x = some (.pointer (some ⟨b, 0, none⟩))) (hy : Env.ev E y = some u) (hb : w.heap[b]? = some (.cells #[u0] T0 (0, 0))) (hk : (P.info? T).map (·.size) = some 1) (hu : u.cells = #[u]) (h1 : u.oneCell' = true)
  (h : wpListIn (Fr r) N P ops Q rest (a.put none undef) (w.setCell ⟨b, 0, none⟩ u)) : wpListIn (Fr r) N P ops Q (⟨none, .store T x y, ty, pos, aft, none⟩ :: rest) a w := by
 refine wpListIn_step fun K hK => ?_
 rw [if_pos (show Region.wanted _ _ = true from rfl)]
 refine ⟨fun f _ => trivial, ?_⟩
 have hc : w.cell? ⟨b, 0, none⟩ = some u0 := by rw [Zaq hb]; rfl
 have hf : w.frozen? ⟨b, 0, none⟩ = false := frozen_of_row _ _ _ _ _ hb
 have hr : (execOp a.eval ⟨none, .store T x y, ty, pos, aft, none⟩).run P w = .ok .skip (w.setCell ⟨b, 0, none⟩ u) := by
  simp [execOp, ha.ev hx, ha.ev hy, Instr.storeAt, Instr.sureAddr, storeVar, Zaz hk, hu, storeCells, Sem.run_bind, ZaA, run_store P w _ u _ h1, hc, hf, Result.andThen]
 rw [Oper.semAt_eq _ _ _ (fun c e => by cases e), hr]
 exact hK _ _ h
end
theorem Zje {α : Type} {enc : α → Array Value} {k base : Nat} {T : TypeId} {W : World} {v : Value} {xs : List α} (hnil : xs = [] → v = .slice none 0 0) (h : W.ownsRow base T k v xs.length (rowL enc xs)) :
  ∃ s : SlS enc k xs, v = vSl s ∧ ((mS T s).map (·.b)).Nodup ∧ ∀ e ∈ mS T s, base ≤ e.b ∧ W.heap[e.b]? = some e.obj := by
 obtain ⟨hl, h⟩ := h
 rcases h with ⟨rfl, h0⟩ | ⟨g, cap, cur, rfl, hb, hg, hn, hm, hs, ht⟩
 ·have : xs = [] := List.length_eq_zero_iff.1 h0
  subst this
  exact ⟨SlS.no, rfl, List.nodup_nil, fun e he => (by cases he)⟩
 ·by_cases h0 : xs = []
  ·subst h0
   cases hnil rfl
  ·refine ⟨SlS.at_ g cap (cur.toList.drop (xs.length * k)) ⟨hn, by rw [List.length_drop, Array.length_toList, hs, Nat.sub_mul]⟩ h0, rfl, by simp [mS, mO, SlS.at_], fun e he => ?_⟩
   have e1 : e = ⟨g, row enc xs (cur.toList.drop (xs.length * k)), T⟩ := by
    simpa [mS, mO, SlS.at_] using he
   subst e1
   refine ⟨hb, ?_⟩
   rw [hg]
   have : cur = row enc xs (cur.toList.drop (xs.length * k)) := by
    unfold row
    apply Array.ext'
    rw [List.toList_toArray, ← ht, List.take_append_drop]
   rw [← this]
theorem ZcH {W W' : World} {B : Nat} {t : TypeId} {v : Value} (h : Boxed W B t v) (hx : Ext W W') : Boxed W' B t v := (hx.block B (Zm h)).trans h
end Go.Vt
/- The keys of a map, one after another in any order. Conditions: those that each statement names. -/
namespace Go.Vt
open Go.RowKit Go.Proofs
open Go.ChangeMaps (setBlock)
theorem Z3 {w w' : World} (h : Ext w w') : w.grownBy w' none := ⟨h.bel.os, h.bel.tape, h.bel.output, h.bel.size, fun k hk _ => h.bel.block k hk⟩
def KpK (wc A A' : World) : Prop := Below wc.heap.size A A' ∧ ∀ (k : Nat) (o : Obj), A.heap[k]? = some o → o.isWalk = true → A'.heap[k]? = some o
instance ZEW {P : Program} {E : Env} {T : TypeId} {x : Operand} {m : Option Nat} [h : IsC (evl E x) (.map m)] : AlC P E (.box T x) #[.map m] T := ⟨fun hg hd h => Zgu isE hg hd h⟩
instance ZzF (m : Option Nat) : LdC Tryz.prog 177 #[.map m] 0 (.map m) := ⟨Zy (by kernel_rfl) (by kernel_rfl)⟩
abbrev pKR (l : List (Zb × Bool)) : List Zb := l.map (·.1)
theorem ZoH {l : List (Zb × Bool)} {s : List Nat} {i : Nat} (h : i < l.length) : seenL (pKR l) (s ++ [i]) = seenL (pKR l) s ++ [(gi l (i : Int)).1] := by
 rw [ZbC _ _ _ (by rw [List.length_map]; exact h), List.getElem_map, Zl h]
set_option maxHeartbeats 4000000 in
theorem ZiE (wc w0 : World) (Bm b N : Nat) (TB : TypeId) (l : List (Zb × Bool)) (hwc : Below wc.heap.size wc w0) (hB : ∃ fz, wc.heap[Bm]? = some (.cells #[.map (some b)] TB fz)) (hb : wc.heap[b]? = some (mRp l)) :
  SeqStopsK (Fr none) N Tryz.prog 152 #[.pointer (some ⟨Bm, 0, none⟩)] (fun x : Zb => #[.agg (Zc x)]) (KpK wc) (fun ys => ys.Perm (pKR l)) (fun _ => True) (l.length + 1) w0 := by
 intro lp Jp Jx W hW hJ hJx hY h0
 have hBW : Below wc.heap.size wc W := hwc.trans (hW.mono hwc.size)
 have hB1 : ∃ fz, W.heap[Bm]? = some (.cells #[.map (some b)] TB fz) := by
  obtain ⟨fz, h⟩ := hB
  exact ⟨fz, (hBW.block Bm (Zm h)).trans h⟩
 have hb1 : W.heap[b]? = some (mRp l) := (hBW.block b (Zm hb)).trans hb
 have fB := FoC.mk (w0 := W) hB1
 have fb := FoO.mk hb1
 have hgo := ZeK (N := N) (P := Tryz.prog) (l := [Value.func (.yield lp) #[] #[], Value.pointer (some ⟨Bm, 0, none⟩)]) (w := W) (R := fun e W' => (∃ v, e = Ending.returned v) ∧ ((∃ xs, xs.Perm (pKR l) ∧ Jp xs W') ∨ ∃ pre, True ∧ Jx pre W')) Tryz.func152 rfl Tryz.ntmps152 rfl
 refine hgo ?_
 clear hgo
 refine Zas ?_
 refine Zce ?_
 repeat (refine wkM ?_; try intro _)
 refine Z9 ?_
 rename_i r
 refine ZaZ ?_
 refine Zhd (S := List Nat) (fun s W1 => SeenOk l.length s ∧ Jp (seenL (pKR l) s) W1 ∧ Below wc.heap.size wc W1 ∧ W1.heap[r]? = some (itO b l.length s) ∧ W.heap.size ≤ r) (fun _ => [(0, .func (.yield lp) #[] #[]), (5, .pointer (some ⟨r, 0, none⟩))]) (fun s => l.length - s.length) [] (fun w hw => ⟨⟨List.nodup_nil, fun i hi => by cases hi⟩, hJ _ W w none h0 (Z3 hw.ext) (fun _ e => by cases e), hBW.trans (hw.ext.bel.mono hBW.size), (hw.mem _ (.head _)).2, (hw.mem _ (.head _)).1⟩) sbB (fun s W1 hI => ?_)
 obtain ⟨hs, hJp, hB0, hr1, hrW⟩ := hI
 have hbb : W1.heap[b]? = some (mRp l) := (hB0.block b (Zm hb)).trans hb
 have hlen := ZaM hs.nd hs.lt
 refine Zas ?_
 refine ZaQ ?_
 refine Zf1 rfl rfl (fun w hw => (hw.ext.block _ (Zm hr1)).trans hr1) (fun w hw => (hw.ext.block _ (Zm hbb)).trans hbb) (fun hall => ?h0) (fun w w1 hw hw1 i hi hni => ?h1)
 case h0 =>
  refine Zbg (fun _ _ h => by obtain ⟨⟨v, h⟩, _⟩ := h; cases h) rfl ?_
  repeat (refine wkM ?_; try intro _)
  refine Z9 ?_
  refine Zas ?_
  refine Zbj rfl (fun h => by cases h) (fun _ => ?_)
  refine Zhe ?_
  refine Zc6 ?_
  refine Zc3 ?_
  refine Zcf ?_
  exact Zam rfl (fun w hw => ⟨⟨_, rfl⟩, .inl ⟨_, Zb4 hs.nd (by rw [List.length_map]; exact hs.lt) (by rw [List.length_map]; exact hall), hJ _ W1 w none hJp (Z3 hw.ext) (fun _ e => by cases e)⟩⟩)
 case h1 =>
  have hs' := hs.snoc hi hni
  have hlen' := ZaM hs'.nd hs'.lt
  rw [List.length_append, List.length_singleton] at hlen'
  have hrw : w.heap[r]? = some (itO b l.length s) := (hw.ext.block _ (Zm hr1)).trans hr1
  have hg := Zep (r := r) (o := itO b l.length (s ++ [i])) hw1
  have hJ2 := hJ _ w _ (some r) (hJ _ W1 w none hJp (Z3 hw.ext) (fun _ e => by cases e)) hg (fun r' e => by cases e; exact ⟨hrW, _, hrw, ZcR _ _ _⟩)
  have hB2 := (hB0.trans (hw.ext.bel.mono hB0.size)).grown hg (Nat.le_trans hB0.size hw.ext.size) (fun j e => by cases e; exact Nat.le_trans hBW.size hrW)
  have hr2 := Zfj (o := itO b l.length (s ++ [i])) hw1 hrw
  generalize setBlock w1 r (itO b l.length (s ++ [i])) = W2 at *
  have hb2 : W2.heap[b]? = some (mRp l) := (hB2.block b (Zm hb)).trans hb
  have f2 := FoO.mk hr2
  have f3 := FoO.mk hb2
  refine Zbg (fun _ _ h => by obtain ⟨⟨v, h⟩, _⟩ := h; cases h) rfl ?_
  repeat (refine wkM ?_; try intro _)
  refine Z9 ?_
  refine Zas ?_
  refine Zbj rfl (fun _ => ?_) (fun h => by cases h)
  refine Zdc ?_
  refine Z9 ?_
  refine ZaZ ?_
  refine Zas ?_
  refine Zce ?_
  repeat (refine wkM ?_; try intro _)
  refine Z9 ?_
  refine Zas ?_
  refine ZaQ ?_
  refine ⟨fun a2 w2 ha2 hw2 => Za7 [_, _] a2 w2 rfl (JO.out ?_ a2 w2 ha2 hw2)⟩
  repeat (refine wkM ?_; try intro _)
  refine Zde (fun a3 w3 ha3 hw3 => (Zfe (l := lp) (args := #[.agg (Zc (gi l (i : Int)).1)]) (R := fun e W' => (e = .returned (.bool true) ∧ Jp (seenL (pKR l) (s ++ [i])) W' ∧ KpK wc W2 W') ∨ (e = .returned (.bool false) ∧ Jx (seenL (pKR l) (s ++ [i])) W')) rfl rfl rfl (fun a w ha => ZeN ha rfl rfl) (fun w hw => ?_) ?_).out a3 w3 ha3 hw3)
  ·obtain ⟨fn, tmps, asg, bd, y1, y2⟩ := hY (seenL (pKR l) s) (gi l (i : Int)).1 w (hJ _ W2 w none hJ2 (Z3 hw.ext) (fun _ e => by cases e)) (by rw [ZdP _ (by rw [List.length_map]; exact hs.lt)]; omega)
   refine ⟨fn, tmps, asg, bd, y1, y2.mono fun e W' h => ?_⟩
   rw [ZoH hi]
   rcases h with ⟨e1, e2, e3⟩ | ⟨e1, e2⟩
   ·exact .inl ⟨e1, e2, (hw.ext.bel.mono hB2.size).trans e3.1, fun k o hk hwk => e3.2 k o ((hw.ext.block k (Zm hk)).trans hk) hwk⟩
   ·exact .inr ⟨e1, e2⟩
  ·rintro e W' (⟨rfl, hJ', hk⟩ | ⟨rfl, hx'⟩)
   ·refine ⟨_, rfl, ?_⟩
    refine Zbg (E := (12, .bool true) :: _) (fun _ _ h => by obtain ⟨⟨v, h⟩, _⟩ := h; cases h) rfl ?_
    repeat (refine wkM ?_; try intro _)
    refine Z9 ?_
    refine Zbj rfl (fun h => by cases h) (fun _ => ?_)
    refine Zdc ?_
    refine ZeG ?_
    refine ZfX (s ++ [i]) (fun w hw => ⟨hs', hJ _ W' w none hJ' (Z3 hw.ext) (fun _ e => by cases e), hB2.trans ((hk.1.mono (Nat.le_refl _)).trans (hw.ext.bel.mono (Nat.le_trans hB2.size hk.1.size))), ?_, hrW⟩) sbB (by simp only [List.length_append, List.length_singleton]; omega)
    have h3 := hk.2 r _ hr2 (ZcR _ _ _)
    exact (hw.ext.block _ (Zm h3)).trans h3
   ·refine ⟨_, rfl, ?_⟩
    refine Zbg (E := (12, .bool false) :: _) (fun _ _ h => by obtain ⟨⟨v, h⟩, _⟩ := h; cases h) rfl ?_
    repeat (refine wkM ?_; try intro _)
    refine Z9 ?_
    refine Zbj rfl (fun _ => ?_) (fun h => by cases h)
    refine Zju ?_
    refine Zbe ?_
    refine Zdm ?_
    refine Zbe ?_
    exact Zdf rfl (fun w hw => ⟨⟨_, rfl⟩, .inr ⟨_, trivial, hJx _ W' w none hx' (Z3 hw.ext) (fun _ e => by cases e)⟩⟩)
end Go.Vt
/- The keys of a map, one after another in any order. Conditions: those that each statement names. -/
namespace Go.Vt
open Go.RowKit Go.Proofs
open Go.ChangeMaps (setBlock)
instance ZzE (m : Option Nat) : LdC Tryz.prog 178 #[.map m] 0 (.map m) := ⟨Zy (by kernel_rfl) (by kernel_rfl)⟩
abbrev pKE (l : List (Za × Bool)) : List Za := l.map (·.1)
theorem ZpS {l : List (Za × Bool)} {s : List Nat} {i : Nat} (h : i < l.length) : seenL (pKE l) (s ++ [i]) = seenL (pKE l) s ++ [(gi l (i : Int)).1] := by
 rw [ZbC _ _ _ (by rw [List.length_map]; exact h), List.getElem_map, Zl h]
set_option maxHeartbeats 4000000 in
theorem ZjD (wc w0 : World) (Bm b N : Nat) (TB : TypeId) (l : List (Za × Bool)) (hwc : Below wc.heap.size wc w0) (hB : ∃ fz, wc.heap[Bm]? = some (.cells #[.map (some b)] TB fz)) (hb : wc.heap[b]? = some (mEx l)) :
  SeqStopsK (Fr none) N Tryz.prog 259 #[.pointer (some ⟨Bm, 0, none⟩)] (fun x : Za => #[.agg (Ze x)]) (KpK wc) (fun ys => ys.Perm (pKE l)) (fun _ => True) (l.length + 1) w0 := by
 intro lp Jp Jx W hW hJ hJx hY h0
 have hBW : Below wc.heap.size wc W := hwc.trans (hW.mono hwc.size)
 have hB1 : ∃ fz, W.heap[Bm]? = some (.cells #[.map (some b)] TB fz) := by
  obtain ⟨fz, h⟩ := hB
  exact ⟨fz, (hBW.block Bm (Zm h)).trans h⟩
 have hb1 : W.heap[b]? = some (mEx l) := (hBW.block b (Zm hb)).trans hb
 have fB := FoC.mk (w0 := W) hB1
 have fb := FoO.mk hb1
 have hgo := ZeK (N := N) (P := Tryz.prog) (l := [Value.func (.yield lp) #[] #[], Value.pointer (some ⟨Bm, 0, none⟩)]) (w := W) (R := fun e W' => (∃ v, e = Ending.returned v) ∧ ((∃ xs, xs.Perm (pKE l) ∧ Jp xs W') ∨ ∃ pre, True ∧ Jx pre W')) Tryz.func259 rfl Tryz.ntmps259 rfl
 refine hgo ?_
 clear hgo
 refine Zas ?_
 refine Zce ?_
 repeat (refine wkM ?_; try intro _)
 refine Z9 ?_
 rename_i r
 refine ZaZ ?_
 refine Zhd (S := List Nat) (fun s W1 => SeenOk l.length s ∧ Jp (seenL (pKE l) s) W1 ∧ Below wc.heap.size wc W1 ∧ W1.heap[r]? = some (itO b l.length s) ∧ W.heap.size ≤ r) (fun _ => [(0, .func (.yield lp) #[] #[]), (5, .pointer (some ⟨r, 0, none⟩))]) (fun s => l.length - s.length) [] (fun w hw => ⟨⟨List.nodup_nil, fun i hi => by cases hi⟩, hJ _ W w none h0 (Z3 hw.ext) (fun _ e => by cases e), hBW.trans (hw.ext.bel.mono hBW.size), (hw.mem _ (.head _)).2, (hw.mem _ (.head _)).1⟩) sbB (fun s W1 hI => ?_)
 obtain ⟨hs, hJp, hB0, hr1, hrW⟩ := hI
 have hbb : W1.heap[b]? = some (mEx l) := (hB0.block b (Zm hb)).trans hb
 have hlen := ZaM hs.nd hs.lt
 refine Zas ?_
 refine ZaQ ?_
 refine Zf1 rfl rfl (fun w hw => (hw.ext.block _ (Zm hr1)).trans hr1) (fun w hw => (hw.ext.block _ (Zm hbb)).trans hbb) (fun hall => ?h0) (fun w w1 hw hw1 i hi hni => ?h1)
 case h0 =>
  refine Zbg (fun _ _ h => by obtain ⟨⟨v, h⟩, _⟩ := h; cases h) rfl ?_
  repeat (refine wkM ?_; try intro _)
  refine Z9 ?_
  refine Zas ?_
  refine Zbj rfl (fun h => by cases h) (fun _ => ?_)
  refine Zhe ?_
  refine Zc6 ?_
  refine Zc3 ?_
  refine Zcf ?_
  exact Zam rfl (fun w hw => ⟨⟨_, rfl⟩, .inl ⟨_, Zb4 hs.nd (by rw [List.length_map]; exact hs.lt) (by rw [List.length_map]; exact hall), hJ _ W1 w none hJp (Z3 hw.ext) (fun _ e => by cases e)⟩⟩)
 case h1 =>
  have hs' := hs.snoc hi hni
  have hlen' := ZaM hs'.nd hs'.lt
  rw [List.length_append, List.length_singleton] at hlen'
  have hrw : w.heap[r]? = some (itO b l.length s) := (hw.ext.block _ (Zm hr1)).trans hr1
  have hg := Zep (r := r) (o := itO b l.length (s ++ [i])) hw1
  have hJ2 := hJ _ w _ (some r) (hJ _ W1 w none hJp (Z3 hw.ext) (fun _ e => by cases e)) hg (fun r' e => by cases e; exact ⟨hrW, _, hrw, ZcR _ _ _⟩)
  have hB2 := (hB0.trans (hw.ext.bel.mono hB0.size)).grown hg (Nat.le_trans hB0.size hw.ext.size) (fun j e => by cases e; exact Nat.le_trans hBW.size hrW)
  have hr2 := Zfj (o := itO b l.length (s ++ [i])) hw1 hrw
  generalize setBlock w1 r (itO b l.length (s ++ [i])) = W2 at *
  have hb2 : W2.heap[b]? = some (mEx l) := (hB2.block b (Zm hb)).trans hb
  have f2 := FoO.mk hr2
  have f3 := FoO.mk hb2
  refine Zbg (fun _ _ h => by obtain ⟨⟨v, h⟩, _⟩ := h; cases h) rfl ?_
  repeat (refine wkM ?_; try intro _)
  refine Z9 ?_
  refine Zas ?_
  refine Zbj rfl (fun _ => ?_) (fun h => by cases h)
  refine Zdc ?_
  refine Z9 ?_
  refine ZaZ ?_
  refine Zas ?_
  refine Zce ?_
  repeat (refine wkM ?_; try intro _)
  refine Z9 ?_
  refine Zas ?_
  refine ZaQ ?_
  refine ⟨fun a2 w2 ha2 hw2 => Za7 [_, _] a2 w2 rfl (JO.out ?_ a2 w2 ha2 hw2)⟩
  repeat (refine wkM ?_; try intro _)
  refine Zde (fun a3 w3 ha3 hw3 => (Zfe (l := lp) (args := #[.agg (Ze (gi l (i : Int)).1)]) (R := fun e W' => (e = .returned (.bool true) ∧ Jp (seenL (pKE l) (s ++ [i])) W' ∧ KpK wc W2 W') ∨ (e = .returned (.bool false) ∧ Jx (seenL (pKE l) (s ++ [i])) W')) rfl rfl rfl (fun a w ha => ZeN ha rfl rfl) (fun w hw => ?_) ?_).out a3 w3 ha3 hw3)
  ·obtain ⟨fn, tmps, asg, bd, y1, y2⟩ := hY (seenL (pKE l) s) (gi l (i : Int)).1 w (hJ _ W2 w none hJ2 (Z3 hw.ext) (fun _ e => by cases e)) (by rw [ZdP _ (by rw [List.length_map]; exact hs.lt)]; omega)
   refine ⟨fn, tmps, asg, bd, y1, y2.mono fun e W' h => ?_⟩
   rw [ZpS hi]
   rcases h with ⟨e1, e2, e3⟩ | ⟨e1, e2⟩
   ·exact .inl ⟨e1, e2, (hw.ext.bel.mono hB2.size).trans e3.1, fun k o hk hwk => e3.2 k o ((hw.ext.block k (Zm hk)).trans hk) hwk⟩
   ·exact .inr ⟨e1, e2⟩
  ·rintro e W' (⟨rfl, hJ', hk⟩ | ⟨rfl, hx'⟩)
   ·refine ⟨_, rfl, ?_⟩
    refine Zbg (E := (12, .bool true) :: _) (fun _ _ h => by obtain ⟨⟨v, h⟩, _⟩ := h; cases h) rfl ?_
    repeat (refine wkM ?_; try intro _)
    refine Z9 ?_
    refine Zbj rfl (fun h => by cases h) (fun _ => ?_)
    refine Zdc ?_
    refine ZeG ?_
    refine ZfX (s ++ [i]) (fun w hw => ⟨hs', hJ _ W' w none hJ' (Z3 hw.ext) (fun _ e => by cases e), hB2.trans ((hk.1.mono (Nat.le_refl _)).trans (hw.ext.bel.mono (Nat.le_trans hB2.size hk.1.size))), ?_, hrW⟩) sbB (by simp only [List.length_append, List.length_singleton]; omega)
    have h3 := hk.2 r _ hr2 (ZcR _ _ _)
    exact (hw.ext.block _ (Zm h3)).trans h3
   ·refine ⟨_, rfl, ?_⟩
    refine Zbg (E := (12, .bool false) :: _) (fun _ _ h => by obtain ⟨⟨v, h⟩, _⟩ := h; cases h) rfl ?_
    repeat (refine wkM ?_; try intro _)
    refine Z9 ?_
    refine Zbj rfl (fun _ => ?_) (fun h => by cases h)
    refine Zju ?_
    refine Zbe ?_
    refine Zdm ?_
    refine Zbe ?_
    exact Zdf rfl (fun w hw => ⟨⟨_, rfl⟩, .inr ⟨_, trivial, hJx _ W' w none hx' (Z3 hw.ext) (fun _ e => by cases e)⟩⟩)
end Go.Vt
/- The keys of a map, collected. Conditions: those that each statement names. -/
namespace Go.Vt
open Go.RowKit Go.Proofs
def SeqI (w : World) (b2 : Nat) (pre : List Zb) (W : World) : Prop :=
 (∃ v', Boxed W b2 37 v' ∧ W.ownsRow w.heap.size 35 8 v' pre.length (rowL Zc pre) ∧ (pre = [] → v' = .slice none 0 0)) ∧ Below w.heap.size w W
theorem ZiP {w : World} {b2 B : Nat} (hB : w.heap.size ≤ B) : OwnFrom B (SeqI w b2) :=
 OwnFrom.and (Own.from (holdsRow_own w.heap.size b2 37 35 8 (fun pre => pre.length) (fun pre => rowL Zc pre) (fun pre v' => pre = [] → v' = .slice none 0 0)) _) (ownFrom_below (Nat.le_refl _) hB)
def SeqA (b2 : Nat) (x : Zb) (a' : Act) (W : World) : Prop :=
 ∃ bx, W.heap[bx]? = some (.cells (Zc x) 35 (0, 0)) ∧ Rep 13 [(2, .pointer (some ⟨b2, 0, none⟩)), (5, .pointer (some ⟨bx, 0, none⟩))] a'
theorem ZpI {w W w3 w4 : World} {b2 B : Nat} {v' v2 : Value} {pre : List Zb} {x : Zb} (hw : w.heap.size ≤ W.heap.size) (hBe : Below w.heap.size w W) (h5 : Boxed W b2 37 v') (hrow : W.ownsRow w.heap.size 35 8 v' pre.length (rowL Zc pre))
  (hx : Ext W w3) (hown : w4.ownsRow w.heap.size 35 8 v2 (pre.length + 1) (rowL Zc pre ++ rowL Zc [x])) (hg : w3.grownBy w4 v'.ownBlock) (hb2 : w.heap.size ≤ b2) :
  Boxed w4 b2 37 v' ∧ KeepsFrom B W (w4.setCell ⟨b2, 0, none⟩ v2) ∧ KpK w W (w4.setCell ⟨b2, 0, none⟩ v2) ∧ SeqI w b2 (pre ++ [x]) (w4.setCell ⟨b2, 0, none⟩ v2) := by
 have hrow3 : w3.ownsRow w.heap.size 35 8 v' pre.length (rowL Zc pre) := hrow.kept (Z3 hx) (by cases v' with
  | slice p n c => cases p with
   | none => exact .inl rfl
   | some p => exact .inr (fun h => by cases h)
  | _ => exact .inl rfl)
 have q5 := Boxed.kept (ZcH h5 hx) hg (Boxed.not_row (ZcH h5 hx) (by decide) hrow3)
 have own : ∀ j, v'.ownBlock = some j → w.heap.size ≤ j ∧ ∃ cs T, w3.heap[j]? = some (.cells cs T (0, 0)) := fun j hj => by
  rcases hrow3.2 with ⟨rfl, _⟩ | ⟨g, cap, cur, rfl, hb, hgb, _⟩
  ·cases hj
  ·obtain rfl : g = j := by simpa [Value.ownBlock] using hj
   exact ⟨hb, _, _, hgb⟩
 have keep : ∀ (k : Nat) (o : Obj), W.heap[k]? = some o → o.isCells = false → (w4.setCell ⟨b2, 0, none⟩ v2).heap[k]? = some o := fun k o hk ho => by
  have e3 : w3.heap[k]? = some o := (hx.block k (Zm hk)).trans hk
  have e4 : w4.heap[k]? = some o := (hg.block k (Zm e3) (fun e => by obtain ⟨-, cs, T, hc⟩ := own k e.symm; rw [e3] at hc; cases hc; cases ho)).trans e3
  refine ((grownBy_setCell' w4 b2 v2).block k (Zm e4) (fun e => ?_)).trans e4
  obtain rfl : k = b2 := by simpa using e
  rw [show w4.heap[k]? = _ from q5] at e4
  cases e4
  cases ho
 have hbel := ((hx.bel.mono hw).grown hg (Nat.le_trans hw hx.size) (fun j e => (own j e).1)).setCell (p := ⟨b2, 0, none⟩) hb2 v2
 refine ⟨q5, ⟨Nat.le_trans hx.size (Nat.le_trans hg.size (grownBy_setCell' w4 b2 v2).size), fun k o _ hk ho => keep k o hk ho⟩, ⟨hbel, fun k o hk ho => keep k o hk (Obj.not_cells_of_walk ho)⟩, ⟨⟨v2, Boxed.set v2 q5, ?_, fun h => ?_⟩, hBe.trans hbel⟩⟩
 ·have e := hown.kept (grownBy_setCell' w4 b2 v2) (.inr (Boxed.not_row q5 (by decide) hown).symm)
  rw [List.length_append, List.length_singleton, Za6]
  exact e
 ·simp at h
instance ZBt {P : Program} {E : Env} {T : TypeId} {x : Operand} [h : IsC (evl E x) (.slice none 0 0)] : AlC P E (.box T x) #[.slice none 0 0] T := ⟨fun hg hd h => Zgu isE hg hd h⟩
set_option maxHeartbeats 4000000 in
theorem Zlz (Bm b : Nat) (TB : TypeId) (l : List (Zb × Bool)) (w : World) (hl : l.length ≤ 1048576) (hB : ∃ fz, w.heap[Bm]? = some (.cells #[.map (some b)] TB fz)) (hb : w.heap[b]? = some (mRp l)) :
  Calls Tryz.prog 202 [.slice none 0 0, .func (.func 152) #[] [.pointer (some ⟨Bm, 0, none⟩)].toArray].toArray w (RetM ((ys : { ys : List Zb // ys.Perm (pKR l) }) × SlS Zc 8 ys.1) (fun s => vSl s.2) (fun s => mS 35 s.2) w) := by
 have hgo := ZeZ (N := 5) (P := Tryz.prog) (l := [Value.slice none 0 0, .func (.func 152) #[] [.pointer (some ⟨Bm, 0, none⟩)].toArray]) (w := w) (R := RetM ((ys : { ys : List Zb // ys.Perm (pKR l) }) × SlS Zc 8 ys.1) (fun s => vSl s.2) (fun s => mS 35 s.2) w) Tryz.func202 rfl Tryz.ntmps202 rfl
 refine hgo ?_
 clear hgo
 refine Zas ?_
 refine Zce ?_
 repeat (refine wkM ?_; try intro _)
 refine Z9 ?_
 refine Zas ?_
 refine Zas ?_
 refine Zce ?_
 repeat (refine wkM ?_; try intro _)
 refine Z9 ?_
 refine ZaZ ?_
 rename_i b2
 refine ⟨fun a w1 ha hw1 => ?_⟩
 have hb2 := hw1.mem _ (.head _)
 have hwd := hw1.ext.size
 refine wpIn_rangeFunc_ownH (F := Fr none) (n := 5) (P := Tryz.prog) (w0 := w1) (N := l.length + 1) (α := Zb) (encs := fun x => #[.agg (Zc x)]) (S := fun ys => ys.Perm (pKR l)) (Sp := fun _ => True) (Kp := KpK w) rfl (by omega) (gf := 152) (lb := #[.pointer (some ⟨Bm, 0, none⟩)]) (ha.ev (x := .tmp 6) rfl) trivial (fun args w => Zbu (by kernel_rfl) args w)
  (ZiE w w1 Bm b 4 TB l hw1.ext.bel hB hb) (fun h k => ⟨h.1.trans k.1, fun i o ho hw => k.2 i o (h.2 i o ho hw) hw⟩) (fun W lo o o' hl h hc hk => ⟨belowK_b (w := w1) hwd W lo o o' hl h hc hk, fun k o2 h2 hw2 => (World.putObj_heap_other (fun e => by rw [e, h] at h2; cases h2; rw [hk] at hw2; cases hw2)).trans h2⟩) (Below.refl _ _) (fun _ => rfl)
  (SeqI w b2) (fun _ _ _ => False) (ZiP hwd) (fun _ _ _ _ _ hs _ _ => hs) ⟨⟨_, hb2.2, World.ownsRow_nil _ _ _ _, fun _ => rfl⟩, hw1.ext.bel⟩
  (SeqA b2) (fun x a' s X Y row ⟨bx, hc, hr⟩ hg hrow => ⟨bx, (hg.block bx (Zm hc) (fun e => by obtain ⟨-, o, ho, hn⟩ := hrow bx e.symm; rw [hc] at ho; cases ho; cases hn)).trans hc, hr⟩) ?assign ?body ?done ?stop
 case stop =>
  rintro D c pre W _ _ h _
  exact h.elim
 case assign =>
  intro lo pre x W K hi hK
  have hact : ∀ a0 : Act, a0.defers = [] → ({ tmps := ((#[7] : Array Tmp).zip #[Value.agg (Zc x)]).foldl (fun t (p, v) => t.setIfInBounds p v) a0.tmps, defers := [] } : Act) = a0.put (some 7) (.agg (Zc x)) := fun a0 h => by
   cases a0
   simp only at h
   subst h
   simp [Act.put]
  rw [hact a ha.defers]
  have hrep := ha.put (some 7) (.agg (Zc x)) rfl
  refine JI.out (r := some lo) (N := 3) (P := Tryz.prog) (w0 := W) (n := 13) (E := [(7, .agg (Zc x)), (2, .pointer (some ⟨b2, 0, none⟩))]) (L := []) ?_ _ W (hrep.sub sbB) (Own.start W)
  refine ZaQ ?_
  refine Zbg (fun _ _ h => h) rfl ?_
  repeat (refine wkM ?_; try intro _)
  rename_i bx
  refine ⟨fun a' W' ha' hw' => hK a' W' ⟨hw'.ext.size, fun k o _ hk _ => (hw'.ext.block k (Zm hk)).trans hk⟩ ⟨hw'.ext.bel.mono hi.2.size, fun k o ho _ => (hw'.ext.block _ (Zm ho)).trans ho⟩ (ZiP (Nat.le_refl _) _ W W' none hi (Z3 hw'.ext) (fun r e => by cases e)) ⟨bx, (hw'.mem _ (.head _)).2, ha'.sub sbB⟩⟩
 case body =>
  rintro lo pre x a' W hlw hr hi ⟨bx, hbx, hra⟩ hlt
  obtain ⟨⟨v', hv', hrow, hnil⟩, hBe⟩ := hi
  obtain ⟨o, m, c, hvs⟩ : ∃ o m c, v' = .slice o m c := by
   rcases hrow.2 with ⟨h, _⟩ | ⟨g, cap, _, h, _⟩
   ·exact ⟨_, _, _, h⟩
   ·exact ⟨_, _, _, h⟩
  have f2 := FoC.mk ⟨(0, 0), hv'⟩
  have fx := FoC.mk ⟨(0, 0), hbx⟩
  rw [hvs] at f2
  refine JI.out (r := some lo) (N := 3) (P := Tryz.prog) (w0 := W) (n := 13) (E := [(2, .pointer (some ⟨b2, 0, none⟩)), (5, .pointer (some ⟨bx, 0, none⟩))]) (L := []) ?_ _ W hra (Own.start W)
  refine ZaZ ?_
  refine ZaQ ?_
  refine ⟨fun a2 w2 ha2 hw2 => ?_⟩
  refine Za7 [_, _, _] a2 w2 rfl (JO.out (w0 := W) (n := 13) (L := []) ?_ a2 w2 ha2 hw2)
  repeat (refine wkM ?_; try intro _)
  refine Zde (fun a3 w3 ha3 hw3 => ?_)
  have hbn := (hw3.mem _ (.head _)).2
  refine Ze7 (size := 8) (k := pre.length) (m := 1) (base := w.heap.size) (v := v') (xs := rowL Zc pre) (news := rowL Zc [x]) ha3 (by rw [hvs]; rfl) rfl rfl (by decide) (hrow.kept (Z3 hw3.ext) (by rw [hvs]; cases o with | none => exact .inl rfl | some p => exact .inr (fun h => by cases h))) (Z6 (k := 8) [x]) (fun j u hu => by rw [ZaA, Zaq hbn, Nat.zero_add]; simpa [row] using hu) (Zcn [x]) (by simp only [maxLen]; omega) ?_ (Nat.le_trans hBe.size hw3.ext.size) (fun v2 w4 hown hgrow => ?_)
  ·omega
  ·obtain ⟨g', cap', hv2⟩ := ownsRow_succ hown
   subst hv2
   obtain ⟨q5, k1, k2, k3⟩ := ZpI (x := x) (B := w1.heap.size) hBe.size hBe hv' hrow hw3.ext hown hgrow hb2.1
   refine ZdU (b := b2) (ha3.put (some 11) _ rfl) rfl rfl q5 (by kernel_rfl) rfl rfl ?_
   exact wpListIn_nil ⟨k1, k2, k3⟩
 case done =>
  rintro D ys W hD hp hi hK
  obtain ⟨⟨v', hv', hrow, hnil⟩, hBe⟩ := hi
  obtain ⟨s, hs1, hs2, hs3⟩ := Zje hnil hrow
  obtain ⟨o, m, c, hvs⟩ : ∃ o m c, v' = .slice o m c := by
   rcases hrow.2 with ⟨h, _⟩ | ⟨g, cap, _, h, _⟩
   ·exact ⟨_, _, _, h⟩
   ·exact ⟨_, _, _, h⟩
  have f5 := FoC.mk ⟨(0, 0), hv'⟩
  rw [hvs] at f5 hs1
  have hra : Rep 13 [(2, .pointer (some ⟨b2, 0, none⟩))] a := ha.sub sbB
  have hl : YlC Tryz.prog W 13 [] [(2, .pointer (some ⟨b2, 0, none⟩))] (.load 37 (.tmp 2)) (.slice o m c) := inferInstance
  show Code.wpIn (Fr none) 5 _ _ _ _ W
  refine wpIn_seq (wpIn_region_lit ?_)
  refine Zdg (a := a) (L := []) (w0 := W) (hl.out _ _ _ _ _) hra (Own.start W) rfl rfl (fun W2 hx2 => ?_)
  refine Zdg (a := a.put (some 12) (.slice o m c)) (L := []) (w0 := W2) (E := Env.put [(2, .pointer (some ⟨b2, 0, none⟩))] (some 12) (.slice o m c)) (ZdI rfl) (hra.put (some 12) _ rfl) (Own.start W2) rfl rfl (fun W3 hx3 => ?_)
  refine wpListIn_nil ?_
  have hx := hx2.tr hx3
  have hK3 : W3.heap[D]? = some (.deferred (some [])) := (hx.block D (Zm hK)).trans hK
  have hr4 : ((a.put (some 12) (.slice o m c)).put (some 4) (.slice o m c)).tmps[4]? = some (.slice o m c) := ((hra.put (some 12) _ rfl).put (some 4) (.slice o m c) rfl).val 4 _ rfl
  refine wpIn_ret ?_
  refine ⟨by simp, .inl ⟨_, _, rfl, run_takeDeferred hK3, ?_⟩⟩
  rw [ha.defers]
  refine ⟨.slice o m c, ?_, ⟨⟨ys, hp⟩, s⟩, by rw [hs1], ⟨⟨?_, trivial⟩, fun e he => ?_, hs2⟩⟩
  ·rw [results_tmp rfl]
   show Result.ok (Array.getD _ 4 undef) _ = _
   rw [Array.getD_eq_getD_getElem?, hr4]
   rfl
  ·exact (hBe.trans (hx.bel.mono hBe.size)).trans (belowK_b (w := w1) hwd W3 D _ _ hD hK3 rfl rfl)
  ·obtain ⟨h1, h2⟩ := hs3 e he
   have h3 := (hx.block _ (Zm h2)).trans h2
   refine ⟨h1, (World.putObj_heap_other (fun hd => ?_)).trans h3⟩
   rw [hd, hK3] at h3
   simp only at he
   rcases s.cases 35 with ⟨-, -, x2⟩ | ⟨bs, cs, sp, -, -, x2, -⟩
   ·rw [x2] at he
    cases he
   ·rw [x2, List.mem_singleton] at he
    subst he
    cases h3
end Go.Vt
/- The keys of a map, collected. Conditions: those that each statement names. -/
namespace Go.Vt
open Go.RowKit Go.Proofs
def SeqIE (w : World) (b2 : Nat) (pre : List Za) (W : World) : Prop :=
 (∃ v', Boxed W b2 38 v' ∧ W.ownsRow w.heap.size 122 5 v' pre.length (rowL Ze pre) ∧ (pre = [] → v' = .slice none 0 0)) ∧ Below w.heap.size w W
theorem Zh5 {w : World} {b2 B : Nat} (hB : w.heap.size ≤ B) : OwnFrom B (SeqIE w b2) :=
 OwnFrom.and (Own.from (holdsRow_own w.heap.size b2 38 122 5 (fun pre => pre.length) (fun pre => rowL Ze pre) (fun pre v' => pre = [] → v' = .slice none 0 0)) _) (ownFrom_below (Nat.le_refl _) hB)
def SeqAE (b2 : Nat) (x : Za) (a' : Act) (W : World) : Prop :=
 ∃ bx, W.heap[bx]? = some (.cells (Ze x) 122 (0, 0)) ∧ Rep 13 [(2, .pointer (some ⟨b2, 0, none⟩)), (5, .pointer (some ⟨bx, 0, none⟩))] a'
theorem Znu {w W w3 w4 : World} {b2 B : Nat} {v' v2 : Value} {pre : List Za} {x : Za} (hw : w.heap.size ≤ W.heap.size) (hBe : Below w.heap.size w W) (h5 : Boxed W b2 38 v') (hrow : W.ownsRow w.heap.size 122 5 v' pre.length (rowL Ze pre))
  (hx : Ext W w3) (hown : w4.ownsRow w.heap.size 122 5 v2 (pre.length + 1) (rowL Ze pre ++ rowL Ze [x])) (hg : w3.grownBy w4 v'.ownBlock) (hb2 : w.heap.size ≤ b2) :
  Boxed w4 b2 38 v' ∧ KeepsFrom B W (w4.setCell ⟨b2, 0, none⟩ v2) ∧ KpK w W (w4.setCell ⟨b2, 0, none⟩ v2) ∧ SeqIE w b2 (pre ++ [x]) (w4.setCell ⟨b2, 0, none⟩ v2) := by
 have hrow3 : w3.ownsRow w.heap.size 122 5 v' pre.length (rowL Ze pre) := hrow.kept (Z3 hx) (by cases v' with
  | slice p n c => cases p with
   | none => exact .inl rfl
   | some p => exact .inr (fun h => by cases h)
  | _ => exact .inl rfl)
 have q5 := Boxed.kept (ZcH h5 hx) hg (Boxed.not_row (ZcH h5 hx) (by decide) hrow3)
 have own : ∀ j, v'.ownBlock = some j → w.heap.size ≤ j ∧ ∃ cs T, w3.heap[j]? = some (.cells cs T (0, 0)) := fun j hj => by
  rcases hrow3.2 with ⟨rfl, _⟩ | ⟨g, cap, cur, rfl, hb, hgb, _⟩
  ·cases hj
  ·obtain rfl : g = j := by simpa [Value.ownBlock] using hj
   exact ⟨hb, _, _, hgb⟩
 have keep : ∀ (k : Nat) (o : Obj), W.heap[k]? = some o → o.isCells = false → (w4.setCell ⟨b2, 0, none⟩ v2).heap[k]? = some o := fun k o hk ho => by
  have e3 : w3.heap[k]? = some o := (hx.block k (Zm hk)).trans hk
  have e4 : w4.heap[k]? = some o := (hg.block k (Zm e3) (fun e => by obtain ⟨-, cs, T, hc⟩ := own k e.symm; rw [e3] at hc; cases hc; cases ho)).trans e3
  refine ((grownBy_setCell' w4 b2 v2).block k (Zm e4) (fun e => ?_)).trans e4
  obtain rfl : k = b2 := by simpa using e
  rw [show w4.heap[k]? = _ from q5] at e4
  cases e4
  cases ho
 have hbel := ((hx.bel.mono hw).grown hg (Nat.le_trans hw hx.size) (fun j e => (own j e).1)).setCell (p := ⟨b2, 0, none⟩) hb2 v2
 refine ⟨q5, ⟨Nat.le_trans hx.size (Nat.le_trans hg.size (grownBy_setCell' w4 b2 v2).size), fun k o _ hk ho => keep k o hk ho⟩, ⟨hbel, fun k o hk ho => keep k o hk (Obj.not_cells_of_walk ho)⟩, ⟨⟨v2, Boxed.set v2 q5, ?_, fun h => ?_⟩, hBe.trans hbel⟩⟩
 ·have e := hown.kept (grownBy_setCell' w4 b2 v2) (.inr (Boxed.not_row q5 (by decide) hown).symm)
  rw [List.length_append, List.length_singleton, Za6]
  exact e
 ·simp at h
set_option maxHeartbeats 4000000 in
theorem ZlM (Bm b : Nat) (TB : TypeId) (l : List (Za × Bool)) (w : World) (hl : l.length ≤ 1048576) (hB : ∃ fz, w.heap[Bm]? = some (.cells #[.map (some b)] TB fz)) (hb : w.heap[b]? = some (mEx l)) :
  Calls Tryz.prog 302 [.slice none 0 0, .func (.func 259) #[] [.pointer (some ⟨Bm, 0, none⟩)].toArray].toArray w (RetM ((ys : { ys : List Za // ys.Perm (pKE l) }) × SlS Ze 5 ys.1) (fun s => vSl s.2) (fun s => mS 122 s.2) w) := by
 have hgo := ZeZ (N := 5) (P := Tryz.prog) (l := [Value.slice none 0 0, .func (.func 259) #[] [.pointer (some ⟨Bm, 0, none⟩)].toArray]) (w := w) (R := RetM ((ys : { ys : List Za // ys.Perm (pKE l) }) × SlS Ze 5 ys.1) (fun s => vSl s.2) (fun s => mS 122 s.2) w) Tryz.func302 rfl Tryz.ntmps302 rfl
 refine hgo ?_
 clear hgo
 refine Zas ?_
 refine Zce ?_
 repeat (refine wkM ?_; try intro _)
 refine Z9 ?_
 refine Zas ?_
 refine Zas ?_
 refine Zce ?_
 repeat (refine wkM ?_; try intro _)
 refine Z9 ?_
 refine ZaZ ?_
 rename_i b2
 refine ⟨fun a w1 ha hw1 => ?_⟩
 have hb2 := hw1.mem _ (.head _)
 have hwd := hw1.ext.size
 refine wpIn_rangeFunc_ownH (F := Fr none) (n := 5) (P := Tryz.prog) (w0 := w1) (N := l.length + 1) (α := Za) (encs := fun x => #[.agg (Ze x)]) (S := fun ys => ys.Perm (pKE l)) (Sp := fun _ => True) (Kp := KpK w) rfl (by omega) (gf := 259) (lb := #[.pointer (some ⟨Bm, 0, none⟩)]) (ha.ev (x := .tmp 6) rfl) trivial (fun args w => Zbu (by kernel_rfl) args w)
  (ZjD w w1 Bm b 4 TB l hw1.ext.bel hB hb) (fun h k => ⟨h.1.trans k.1, fun i o ho hw => k.2 i o (h.2 i o ho hw) hw⟩) (fun W lo o o' hl h hc hk => ⟨belowK_b (w := w1) hwd W lo o o' hl h hc hk, fun k o2 h2 hw2 => (World.putObj_heap_other (fun e => by rw [e, h] at h2; cases h2; rw [hk] at hw2; cases hw2)).trans h2⟩) (Below.refl _ _) (fun _ => rfl)
  (SeqIE w b2) (fun _ _ _ => False) (Zh5 hwd) (fun _ _ _ _ _ hs _ _ => hs) ⟨⟨_, hb2.2, World.ownsRow_nil _ _ _ _, fun _ => rfl⟩, hw1.ext.bel⟩
  (SeqAE b2) (fun x a' s X Y row ⟨bx, hc, hr⟩ hg hrow => ⟨bx, (hg.block bx (Zm hc) (fun e => by obtain ⟨-, o, ho, hn⟩ := hrow bx e.symm; rw [hc] at ho; cases ho; cases hn)).trans hc, hr⟩) ?assign ?body ?done ?stop
 case stop =>
  rintro D c pre W _ _ h _
  exact h.elim
 case assign =>
  intro lo pre x W K hi hK
  have hact : ∀ a0 : Act, a0.defers = [] → ({ tmps := ((#[7] : Array Tmp).zip #[Value.agg (Ze x)]).foldl (fun t (p, v) => t.setIfInBounds p v) a0.tmps, defers := [] } : Act) = a0.put (some 7) (.agg (Ze x)) := fun a0 h => by
   cases a0
   simp only at h
   subst h
   simp [Act.put]
  rw [hact a ha.defers]
  have hrep := ha.put (some 7) (.agg (Ze x)) rfl
  refine JI.out (r := some lo) (N := 3) (P := Tryz.prog) (w0 := W) (n := 13) (E := [(7, .agg (Ze x)), (2, .pointer (some ⟨b2, 0, none⟩))]) (L := []) ?_ _ W (hrep.sub sbB) (Own.start W)
  refine ZaQ ?_
  refine Zbg (fun _ _ h => h) rfl ?_
  repeat (refine wkM ?_; try intro _)
  rename_i bx
  refine ⟨fun a' W' ha' hw' => hK a' W' ⟨hw'.ext.size, fun k o _ hk _ => (hw'.ext.block k (Zm hk)).trans hk⟩ ⟨hw'.ext.bel.mono hi.2.size, fun k o ho _ => (hw'.ext.block _ (Zm ho)).trans ho⟩ (Zh5 (Nat.le_refl _) _ W W' none hi (Z3 hw'.ext) (fun r e => by cases e)) ⟨bx, (hw'.mem _ (.head _)).2, ha'.sub sbB⟩⟩
 case body =>
  rintro lo pre x a' W hlw hr hi ⟨bx, hbx, hra⟩ hlt
  obtain ⟨⟨v', hv', hrow, hnil⟩, hBe⟩ := hi
  obtain ⟨o, m, c, hvs⟩ : ∃ o m c, v' = .slice o m c := by
   rcases hrow.2 with ⟨h, _⟩ | ⟨g, cap, _, h, _⟩
   ·exact ⟨_, _, _, h⟩
   ·exact ⟨_, _, _, h⟩
  have f2 := FoC.mk ⟨(0, 0), hv'⟩
  have fx := FoC.mk ⟨(0, 0), hbx⟩
  rw [hvs] at f2
  refine JI.out (r := some lo) (N := 3) (P := Tryz.prog) (w0 := W) (n := 13) (E := [(2, .pointer (some ⟨b2, 0, none⟩)), (5, .pointer (some ⟨bx, 0, none⟩))]) (L := []) ?_ _ W hra (Own.start W)
  refine ZaZ ?_
  refine ZaQ ?_
  refine ⟨fun a2 w2 ha2 hw2 => ?_⟩
  refine Za7 [_, _, _] a2 w2 rfl (JO.out (w0 := W) (n := 13) (L := []) ?_ a2 w2 ha2 hw2)
  repeat (refine wkM ?_; try intro _)
  refine Zde (fun a3 w3 ha3 hw3 => ?_)
  have hbn := (hw3.mem _ (.head _)).2
  refine Ze7 (size := 5) (k := pre.length) (m := 1) (base := w.heap.size) (v := v') (xs := rowL Ze pre) (news := rowL Ze [x]) ha3 (by rw [hvs]; rfl) rfl rfl (by decide) (hrow.kept (Z3 hw3.ext) (by rw [hvs]; cases o with | none => exact .inl rfl | some p => exact .inr (fun h => by cases h))) (Z6 (k := 5) [x]) (fun j u hu => by rw [ZaA, Zaq hbn, Nat.zero_add]; simpa [row] using hu) (Zcn [x]) (by simp only [maxLen]; omega) ?_ (Nat.le_trans hBe.size hw3.ext.size) (fun v2 w4 hown hgrow => ?_)
  ·omega
  ·obtain ⟨g', cap', hv2⟩ := ownsRow_succ hown
   subst hv2
   obtain ⟨q5, k1, k2, k3⟩ := Znu (x := x) (B := w1.heap.size) hBe.size hBe hv' hrow hw3.ext hown hgrow hb2.1
   refine ZdU (b := b2) (ha3.put (some 11) _ rfl) rfl rfl q5 (by kernel_rfl) rfl rfl ?_
   exact wpListIn_nil ⟨k1, k2, k3⟩
 case done =>
  rintro D ys W hD hp hi hK
  obtain ⟨⟨v', hv', hrow, hnil⟩, hBe⟩ := hi
  obtain ⟨s, hs1, hs2, hs3⟩ := Zje hnil hrow
  obtain ⟨o, m, c, hvs⟩ : ∃ o m c, v' = .slice o m c := by
   rcases hrow.2 with ⟨h, _⟩ | ⟨g, cap, _, h, _⟩
   ·exact ⟨_, _, _, h⟩
   ·exact ⟨_, _, _, h⟩
  have f5 := FoC.mk ⟨(0, 0), hv'⟩
  rw [hvs] at f5 hs1
  have hra : Rep 13 [(2, .pointer (some ⟨b2, 0, none⟩))] a := ha.sub sbB
  have hl : YlC Tryz.prog W 13 [] [(2, .pointer (some ⟨b2, 0, none⟩))] (.load 38 (.tmp 2)) (.slice o m c) := inferInstance
  show Code.wpIn (Fr none) 5 _ _ _ _ W
  refine wpIn_seq (wpIn_region_lit ?_)
  refine Zdg (a := a) (L := []) (w0 := W) (hl.out _ _ _ _ _) hra (Own.start W) rfl rfl (fun W2 hx2 => ?_)
  refine Zdg (a := a.put (some 12) (.slice o m c)) (L := []) (w0 := W2) (E := Env.put [(2, .pointer (some ⟨b2, 0, none⟩))] (some 12) (.slice o m c)) (ZdI rfl) (hra.put (some 12) _ rfl) (Own.start W2) rfl rfl (fun W3 hx3 => ?_)
  refine wpListIn_nil ?_
  have hx := hx2.tr hx3
  have hK3 : W3.heap[D]? = some (.deferred (some [])) := (hx.block D (Zm hK)).trans hK
  have hr4 : ((a.put (some 12) (.slice o m c)).put (some 4) (.slice o m c)).tmps[4]? = some (.slice o m c) := ((hra.put (some 12) _ rfl).put (some 4) (.slice o m c) rfl).val 4 _ rfl
  refine wpIn_ret ?_
  refine ⟨by simp, .inl ⟨_, _, rfl, run_takeDeferred hK3, ?_⟩⟩
  rw [ha.defers]
  refine ⟨.slice o m c, ?_, ⟨⟨ys, hp⟩, s⟩, by rw [hs1], ⟨⟨?_, trivial⟩, fun e he => ?_, hs2⟩⟩
  ·rw [results_tmp rfl]
   show Result.ok (Array.getD _ 4 undef) _ = _
   rw [Array.getD_eq_getD_getElem?, hr4]
   rfl
  ·exact (hBe.trans (hx.bel.mono hBe.size)).trans (belowK_b (w := w1) hwd W3 D _ _ hD hK3 rfl rfl)
  ·obtain ⟨h1, h2⟩ := hs3 e he
   have h3 := (hx.block _ (Zm h2)).trans h2
   refine ⟨h1, (World.putObj_heap_other (fun hd => ?_)).trans h3⟩
   rw [hd, hK3] at h3
   simp only at he
   rcases s.cases 122 with ⟨-, -, x2⟩ | ⟨bs, cs, sp, -, -, x2, -⟩
   ·rw [x2] at he
    cases he
   ·rw [x2, List.mem_singleton] at he
    subst he
    cases h3
end Go.Vt
/- The order of units and their sorting, walked. Conditions: those that each statement names. -/
namespace Go.Vt
open Go.RowKit Go.Proofs
def orL : List Int → Int
 | [] => 0
 | x :: r => if x = 0 then orL r else x
theorem Zox (xs : List Int) (m : Nat) (hm : m < xs.length) : orL (xs.drop m) = if gi xs (m : Int) = 0 then orL (xs.drop (m + 1)) else gi xs (m : Int) := by
 rw [List.drop_eq_getElem_cons hm, orL, Zl hm]
theorem Zl9 (b c n : Nat) (xs : List Int) (sp : List Value) (T : TypeId) (hn : n = xs.length) (hl : n ≤ 1099511627776) (w : World) (hw : ∃ fz, w.heap[b]? = some (.cells (row (eI .i64) xs sp) T fz)) :
  Calls Tryz.prog 158 [.slice (some ⟨b, 0, none⟩) n c].toArray w (Ret (.int .i64 (orL xs)) w) := by
 have := FoC.mk hw
 refine Zg Tryz.func158 rfl Tryz.ntmps158 rfl ?_
 repeat (refine wkB ?_; try intro _)
 refine Zp (S := Nat) (fun m => m ≤ n ∧ orL xs = orL (xs.drop m)) (fun m => [(3, .int .i64 0), (6, .slice (some ⟨b, 0, none⟩) n c), (7, .int .i64 n), (8, .int .i64 (m : Nat))]) (fun _ => []) (fun m => n - m) 0 ⟨Nat.zero_le _, by rw [List.drop_zero]⟩ sbB slB (fun m hm => ?_)
 obtain ⟨hm, ho⟩ := hm
 repeat (refine wkB ?_; try intro _)
 refine Zn rfl (fun h => ?_) (fun h => ?_)
 ·have hlt : m < n := by have := of_decide_eq_true h; omega
  have hlp : (m : Int).toNat < xs.length := by omega
  rw [Zox xs m (by omega)] at ho
  repeat (refine wkB ?_; try intro _)
  by_cases h0 : gi xs (m : Int) = 0
  ·rw [if_pos h0] at ho
   simp only [decide_eq_true h0, Bool.not_true]
   repeat (first | (refine wkB ?_; try intro _) | (refine sC rfl rfl ?_ ?_; focus (exact ⟨by omega, by omega⟩)) | (refine sN rfl rfl ?_ ?_; (focus (exact ⟨by omega, by omega⟩)); intro _; (try simp only [List.cons_append, List.nil_append, List.append_nil])))
   exact Zj (m + 1) ⟨hlt, ho⟩ sbB slB (by omega)
  ·rw [if_neg h0] at ho
   simp only [decide_eq_false h0, Bool.not_false]
   repeat (refine wkB ?_; try intro _)
   rw [ho]
   exact Zf rfl rfl (fun w hw => Zh hw)
 ·have hge : m = n := by have := of_decide_eq_false h; omega
  subst hge
  rw [hn, List.drop_length] at ho
  repeat (refine wkB ?_; try intro _)
  rw [ho]
  exact Zf rfl rfl (fun w hw => Zh hw)
instance ZCf (w0 : World) (L : List Blk) (b c n : Nat) (xs : List Int) (sp : List Value) (T : TypeId) [h : AtC w0 L b (row (eI .i64) xs sp) T] : SpecM Tryz.prog w0 L 158 [.slice (some ⟨b, 0, none⟩) n c] (.int .i64 (orL xs)) (n = xs.length ∧ n ≤ 1099511627776) := ⟨fun hp w hw => Zl9 b c n xs sp T hp.1 hp.2 w (h.out w hw)⟩
def opn (I : ZD) : Int := if I.OpenFrom then 1 else 0
instance ZF7 (I : ZD) : SpecC Tryz.prog 226 [vIv I] (.int .i64 (opn I)) True := ⟨fun _ w => by
 refine Zg Tryz.func226 rfl Tryz.ntmps226 rfl ?_
 obtain ⟨f, t, o, c⟩ := I
 cases o
 ·repeat (refine wkB ?_; try intro _)
  exact Zf rfl rfl (fun w hw => Zh hw)
 ·repeat (refine wkB ?_; try intro _)
  exact Zf rfl rfl (fun w hw => Zh hw)⟩
structure IvOk (K : Nat) (I : ZD) : Prop where
 r1 : I.From.R = 0
 r2 : I.To.R = 0
 n1 : I.From.Neg = false
 n2 : I.To.Neg = false
 m1 : M I.From.P ≤ K
 m2 : M I.To.P ≤ K
theorem IvOk.mono {K K' : Nat} {I : ZD} (h : IvOk K I) (hk : K ≤ K') : IvOk K' I := ⟨h.r1, h.r2, h.n1, h.n2, Nat.le_trans h.m1 hk, Nat.le_trans h.m2 hk⟩
abbrev BQ : Nat := 8589934592
def cmpU (a b : UL) : Int := orL [cq a.In.From.P b.In.From.P, Lib.compareInt (opn a.In) (opn b.In), cq a.In.To.P b.In.To.P]
instance ZFs (a b : UL) : SpecC Tryz.prog 225 [vUL a, vUL b] (.int .i64 (cmpU a b)) (IvOk BQ a.In ∧ IvOk BQ b.In) := ⟨fun hp w => by
 obtain ⟨h1, h2⟩ := hp
 refine Zg Tryz.func225 rfl Tryz.ntmps225 rfl ?_
 repeat (refine wkB ?_; try intro _)
 rename_i b2 b3
 (refine Zf2 [([0, 1, 2, 3, 4, 5, 6, 7, 8, 9, 10, 11, 12, 13, 14, 15, 16, 17, 18, 19, 20, 21, 22], [23, 24, 25])] ([⟨b3, rU b, 224⟩, ⟨b2, rU a, 224⟩]) (h := ?_); refine wkP ?_)
 (repeat (first | refine wkH ?_ | (refine tC rfl rfl ?_ ?_; focus (first | exact trivial | exact ⟨⟨h1.r1, h2.r1⟩, Nat.le_trans h1.m1 (by decide), Nat.le_trans h2.m1 (by decide)⟩ | exact ⟨⟨h1.r2, h2.r2⟩, Nat.le_trans h1.m2 (by decide), Nat.le_trans h2.m2 (by decide)⟩))))
 repeat (first | (refine wkT ?_; try intro _) | (refine tC rfl rfl ?_ ?_; focus (exact ⟨rfl, by decide⟩)) | (refine uC rfl rfl ?_ ?_; focus (exact ⟨rfl, by decide⟩)) | (refine eN rfl rfl ?_ ?_; (focus (exact ⟨rfl, by decide⟩)); intro _; (try simp only [List.cons_append, List.nil_append, List.append_nil])))
 repeat (refine wkB ?_; try intro _)
 exact Zf rfl rfl (fun w hw => Zh hw)⟩
def swp (xs : List UL) (j : Nat) : List UL := (xs.set (j + 1) (gi xs (j : Int))).set j (gi xs ((j + 1 : Nat) : Int))
def dwn (xs : List UL) : Nat → List UL
 | 0 => xs
 | j + 1 => if cmpU (gi xs ((j + 1 : Nat) : Int)) (gi xs (j : Int)) < 0 then dwn (swp xs j) j else xs
def srt (xs : List UL) : Nat → List UL
 | 0 => xs
 | i + 1 => dwn (srt xs i) (i + 1)
theorem Zhl (xs : List UL) (j : Nat) : (swp xs j).length = xs.length := by simp [swp]
theorem Zlq {xs : List UL} {j : Nat} (h : j + 1 < xs.length) {u : UL} (hu : u ∈ swp xs j) : u ∈ xs := by
 unfold swp at hu
 rcases List.mem_or_eq_of_mem_set hu with h1 | h1
 ·rcases List.mem_or_eq_of_mem_set h1 with h2 | h2
  ·exact h2
  ·rw [h2, Zl (by omega)]
   exact List.getElem_mem _
 ·rw [h1, Zl h]
  exact List.getElem_mem _
theorem Zkz : ∀ (j : Nat) (xs : List UL), (dwn xs j).length = xs.length
 | 0, _ => rfl
 | j + 1, xs => by
  rw [dwn]
  split
  ·rw [Zkz j, Zhl]
  ·rfl
theorem Zkv : ∀ (j : Nat) (xs : List UL), j < xs.length → ∀ u ∈ dwn xs j, u ∈ xs
 | 0, _, _, _, h => h
 | j + 1, xs, hj, u, h => by
  rw [dwn] at h
  split at h
  ·exact Zlq hj (Zkv j _ (by rw [Zhl]; omega) u h)
  ·exact h
theorem Zec (xs : List UL) : ∀ i, (srt xs i).length = xs.length
 | 0 => rfl
 | i + 1 => by rw [srt, Zkz, Zec xs i]
theorem Zhn (xs : List UL) : ∀ i, i < xs.length → ∀ u ∈ srt xs i, u ∈ xs
 | 0, _, _, h => h
 | i + 1, hi, u, h => by
  rw [srt] at h
  exact Zhn xs i (by omega) u (Zkv _ _ (by rw [Zec]; exact hi) u h)
theorem ZpC (w0 w : World) (L1 : List Blk) (b c n : Nat) (xs : List UL) (sp : List Value) (T : TypeId) (hn : xs.length = n) (hl : n ≤ 1048576) (hok : ∀ u ∈ xs, IvOk BQ u.In) (hw : Own w0 (⟨b, row rU xs sp, T⟩ :: L1) w) :
  Calls Tryz.prog 309 [.slice (some ⟨b, 0, none⟩) n c, .int .i64 0, .int .i64 n, vFn 225].toArray w (RetX w0 Unit (fun _ => .tuple #[]) (fun _ => ⟨b, row rU (srt xs (n - 1)) sp, T⟩ :: L1)) := by
 refine ZY Tryz.func309 rfl Tryz.ntmps309 rfl hw ?_
 repeat (refine wkB ?_; try intro _)
 refine Zp (S := Nat) (fun m => m ≤ n - 1) (fun m => [(0, .slice (some ⟨b, 0, none⟩) n c), (1, .int .i64 0), (2, .int .i64 n), (3, vFn 225), (8, .int .i64 ((m + 1 : Nat)))]) (fun m => ⟨b, row rU (srt xs m) sp, T⟩ :: L1) (fun m => n - 1 - m) 0 (Nat.zero_le _) sbB slB (fun m hm => ?_)
 have hsl := Zec xs m
 repeat (refine wkB ?_; try intro _)
 refine Zn rfl (fun h => ?_) (fun h => ?_)
 ·have hlt : m + 1 < n := by have := of_decide_eq_true h; omega
  have hmem := Zhn xs m (by omega)
  repeat (refine wkB ?_; try intro _)
  refine Zp (S := Nat × List UL) (fun s => dwn s.2 s.1 = srt xs (m + 1) ∧ s.2.length = n ∧ s.1 ≤ m + 1 ∧ ∀ u ∈ s.2, IvOk BQ u.In) (fun s => [(0, .slice (some ⟨b, 0, none⟩) n c), (1, .int .i64 0), (2, .int .i64 n), (3, vFn 225), (8, .int .i64 ((m + 1 : Nat))), (9, .int .i64 ((s.1 : Nat)))]) (fun s => ⟨b, row rU s.2 sp, T⟩ :: L1) (fun s => s.1) (m + 1, srt xs m)
   ⟨rfl, by show (srt xs m).length = n; omega, Nat.le_refl _, fun u hu => hok u (hmem u hu)⟩ sbB slB (fun s hs => ?_)
  obtain ⟨j, ys⟩ := s
  obtain ⟨g1, g2, g3, g4⟩ := hs
  simp only at g1 g2 g3 g4 ⊢
  repeat (refine wkB ?_; try intro _)
  rcases j with _ | j
  ·(refine jD 17 17 (h := ?_); (repeat (refine wkH ?_)); refine Zo ?_; (repeat (refine Z4 ?_; intro _)); refine Zr ?_)
   repeat (refine wkB ?_; try intro _)
   exact Zj (m + 1) (by omega) sbB (by rw [← g1]; exact List.Sublist.refl _) (by omega)
  ·have hj1 : ((j : Int)).toNat < ys.length := by omega
   have hj2 : (((j + 1 : Nat) : Int)).toNat < ys.length := by omega
   have e1 : ((j + 1 : Nat) : Int) - 1 = (j : Int) := by omega
   have o1 := g4 _ (by rw [Zl (show j < ys.length by omega)]; exact List.getElem_mem _ : gi ys (j : Int) ∈ ys)
   have o2 := g4 _ (by rw [Zl (show j + 1 < ys.length by omega)]; exact List.getElem_mem _ : gi ys ((j + 1 : Nat) : Int) ∈ ys)
   rw [dwn] at g1
   refine jD 17 17 (h := ?_)
   (repeat (refine wkH ?_))
   simp only [decide_eq_true (show (0 : Int) < ((j + 1 : Nat) : Int) by omega), e1]
   (repeat (refine wkH ?_))
   simp only [e1]
   (repeat (first | refine wkH ?_ | (refine tC rfl rfl ?_ ?_; focus (exact ⟨o2, o1⟩))))
   refine Zo ?_
   refine Zr ?_
   repeat (refine wkB ?_; try intro _)
   by_cases hc : cmpU (gi ys ((j + 1 : Nat) : Int)) (gi ys (j : Int)) < 0
   ·rw [if_pos hc] at g1
    simp only [decide_eq_true hc]
    repeat (refine wkB ?_; try intro _)
    (refine ZfI [(true, [0, 1, 2, 3, 4, 5, 6, 7, 8]), (false, [9]), (true, [10, 11, 12]), (false, [13]), (true, [14])] [15, 16, 17] (h := ?_); refine wkS ?_)
    (repeat (refine wkH ?_))
    simp only [e1]
    refine Zo ?_
    refine eR rfl ?_ ?_
    ·omega
    refine uS rfl rfl ?_ ?_
    ·omega
    refine eR rfl ?_ ?_
    ·rw [List.length_set]; omega
    refine Zbc ?_
    simp only [Int.toNat_natCast]
    repeat (first | (refine wkB ?_; try intro _) | (refine sC rfl rfl ?_ ?_; focus (exact ⟨by omega, by omega⟩)) | (refine sN rfl rfl ?_ ?_; (focus (exact ⟨by omega, by omega⟩)); intro _; (try simp only [List.cons_append, List.nil_append, List.append_nil])))
    simp only [e1]
    exact Zj (j, swp ys j) ⟨g1, by rw [Zhl]; exact g2, by omega, fun u hu => g4 u (Zlq (by omega) hu)⟩ sbB slB (by show j < j + 1; omega)
   ·rw [if_neg hc] at g1
    simp only [decide_eq_false hc]
    repeat (first | (refine wkB ?_; try intro _) | (refine sC rfl rfl ?_ ?_; focus (exact ⟨by omega, by omega⟩)) | (refine sN rfl rfl ?_ ?_; (focus (exact ⟨by omega, by omega⟩)); intro _; (try simp only [List.cons_append, List.nil_append, List.append_nil])))
    exact Zj (m + 1) (by omega) sbB (by rw [← g1]; exact List.Sublist.refl _) (by omega)
 ·have hge : m = n - 1 := by have := of_decide_eq_false h; omega
  subst hge
  repeat (refine wkB ?_; try intro _)
  exact Zam rfl (fun w hw => ⟨(), rfl, hw⟩)
abbrev SrtS (xs : List UL) (s : SlS rU 36 xs) : Type := { s' : SlS rU 36 (srt xs (xs.length - 1)) // vSl s' = vSl s }
theorem Zno (w0 w : World) (L L1 : List Blk) (xs : List UL) (s : SlS rU 36 xs) (T : TypeId) [hd : OwnS T s L L1] (hl : xs.length ≤ 1048576) (hok : ∀ u ∈ xs, IvOk BQ u.In) (hw : Own w0 L w) :
  Calls Tryz.prog 309 [vSl s, .int .i64 0, .int .i64 xs.length, vFn 225].toArray w (RetX w0 (SrtS xs s) (fun _ => .tuple #[]) (fun s' => mS T s'.1 ++ L1)) := by
 have hw1 := hw.perm hd.out
 rcases s.cases T with ⟨rfl, hv, hm⟩ | ⟨b, c, sp, h1, hv, hm, hne⟩
 ·suffices h : Calls Tryz.prog 309 [.slice none 0 0, .int .i64 0, .int .i64 (([] : List UL).length : Nat), vFn 225].toArray w (RetX w0 (SrtS [] s) (fun _ => .tuple #[]) (fun s' => mS T s'.1 ++ L1)) by
   rw [← hv] at h
   exact h
  refine ZY Tryz.func309 rfl Tryz.ntmps309 rfl hw1 ?_
  repeat (refine wkB ?_; try intro _)
  refine Zp (S := Unit) (fun _ => True) (fun _ => [(2, .int .i64 (([] : List UL).length : Nat)), (8, .int .i64 1)]) (fun _ => mS T s ++ L1) (fun _ => 0) () trivial sbB slB (fun _ _ => ?_)
  repeat (refine wkB ?_; try intro _)
  simp only [decide_eq_false (show ¬ (1 : Int) < ((([] : List UL).length : Nat) : Int) by simp)]
  repeat (refine wkB ?_; try intro _)
  exact Zam rfl (fun w hw => ⟨⟨s, rfl⟩, rfl, hw⟩)
 ·suffices h : Calls Tryz.prog 309 [.slice (some ⟨b, 0, none⟩) xs.length c, .int .i64 0, .int .i64 xs.length, vFn 225].toArray w (RetX w0 (SrtS xs s) (fun _ => .tuple #[]) (fun s' => mS T s'.1 ++ L1)) by
   rw [← hv] at h
   exact h
  rw [hm] at hw1
  have hsl := Zec xs (xs.length - 1)
  refine (ZpC w0 w L1 b c xs.length xs sp T rfl hl hok hw1).mono fun e w' ⟨_, he, hw'⟩ => ?_
  exact ⟨⟨SlS.at_ b c sp (by rw [hsl]; exact h1) (fun h0 => hne (List.length_eq_zero_iff.1 (by rw [h0, List.length_nil] at hsl; exact hsl.symm))), by rw [hv]; show Value.slice _ (srt xs (xs.length - 1)).length c = _; rw [hsl]⟩, he, hw'⟩
instance ZGA (w0 : World) (L L1 : List Blk) (xs : List UL) (s : SlS rU 36 xs) (T : TypeId) [hd : OwnS T s L L1] : SpecX Tryz.prog w0 L 309 [vSl s, .int .i64 0, .int .i64 xs.length, vFn 225] (SrtS xs s) (fun _ => .tuple #[]) (fun s' => mS T s'.1 ++ L1) (xs.length ≤ 1048576 ∧ ∀ u ∈ xs, IvOk BQ u.In) := ⟨fun hp w hw => Zno w0 w L L1 xs s T hp.1 hp.2 hw⟩
theorem Zj6 (w0 w : World) (L L1 : List Blk) (xs : List UL) (s : SlS rU 36 xs) (T : TypeId) [hd : OwnS T s L L1] (hl : xs.length ≤ 19) (hok : ∀ u ∈ xs, IvOk BQ u.In) (hw : Own w0 L w) :
  Calls Tryz.prog 273 [vSl s, .int .i64 xs.length, vFn 225].toArray w (RetX w0 (SrtS xs s) (fun _ => .tuple #[]) (fun s' => mS T s'.1 ++ L1)) := by
 refine ZY Tryz.func273 rfl Tryz.ntmps273 rfl hw ?_
 repeat (refine wkB ?_; try intro _)
 refine Zp (S := Unit) (fun _ => True) (fun _ => [(0, vSl s), (1, .int .i64 xs.length), (2, vFn 225), (6, .int .i64 20), (7, .int .i64 0), (8, .int .i64 20)]) (fun _ => L) (fun _ => 0) () trivial sbB slB (fun _ _ => ?_)
 repeat (refine wkB ?_; try intro _)
 simp only [decide_eq_false (show ¬ (20 : Int) ≤ (xs.length : Int) by omega)]
 repeat (refine wkB ?_; try intro _)
 refine sZ rfl rfl ?_ ?_
 ·exact ⟨by omega, hok⟩
 intro s'
 repeat (refine wkB ?_; try intro _)
 refine Zp (S := Unit) (fun _ => True) (fun _ => [(1, .int .i64 xs.length), (6, .int .i64 20)]) (fun _ => mS T s'.1 ++ L1) (fun _ => 0) () trivial sbB slB (fun _ _ => ?_)
 repeat (refine wkB ?_; try intro _)
 simp only [decide_eq_false (show ¬ (20 : Int) < (xs.length : Int) by omega)]
 repeat (refine wkB ?_; try intro _)
 exact Zam rfl (fun w hw => ⟨s', rfl, hw⟩)
instance ZwC (w0 : World) (L L1 : List Blk) (xs : List UL) (s : SlS rU 36 xs) (T : TypeId) [hd : OwnS T s L L1] : SpecX Tryz.prog w0 L 273 [vSl s, .int .i64 xs.length, vFn 225] (SrtS xs s) (fun _ => .tuple #[]) (fun s' => mS T s'.1 ++ L1) (xs.length ≤ 19 ∧ ∀ u ∈ xs, IvOk BQ u.In) := ⟨fun hp w hw => Zj6 w0 w L L1 xs s T hp.1 hp.2 hw⟩
theorem Zgr (w0 w : World) (L L1 : List Blk) (xs : List UL) (s : SlS rU 36 xs) (T : TypeId) [hd : OwnS T s L L1] (hl : xs.length ≤ 19) (hok : ∀ u ∈ xs, IvOk BQ u.In) (hw : Own w0 L w) :
  Calls Tryz.prog 224 [vSl s, vFn 225].toArray w (RetX w0 (SrtS xs s) (fun _ => .tuple #[]) (fun s' => mS T s'.1 ++ L1)) := by
 refine ZY Tryz.func224 rfl Tryz.ntmps224 rfl hw ?_
 repeat (refine wkB ?_; try intro _)
 refine sZ rfl rfl ?_ ?_
 ·exact ⟨hl, hok⟩
 intro s'
 repeat (refine wkB ?_; try intro _)
 exact Zam rfl (fun w hw => ⟨s', rfl, hw⟩)
instance ZrY (w0 : World) (L L1 : List Blk) (xs : List UL) (s : SlS rU 36 xs) (T : TypeId) [hd : OwnS T s L L1] : SpecX Tryz.prog w0 L 224 [vSl s, vFn 225] (SrtS xs s) (fun _ => .tuple #[]) (fun s' => mS T s'.1 ++ L1) (xs.length ≤ 19 ∧ ∀ u ∈ xs, IvOk BQ u.In) := ⟨fun hp w hw => Zgr w0 w L L1 xs s T hp.1 hp.2 hw⟩
end Go.Vt
/- The order of exchanges. Conditions: those that each statement names. -/
namespace Go.Vt
open Go.RowKit Go.Proofs
def fldE (x : Za) : List Int := [x.From, x.To, x.Sent, x.Received, x.Least]
theorem Zqa {a b : Za} (h : fldE a = fldE b) : a = b := by
 obtain ⟨a1, a2, a3, a4, a5⟩ := a
 obtain ⟨b1, b2, b3, b4, b5⟩ := b
 simp only [fldE, List.cons.injEq, and_true] at h
 obtain ⟨rfl, rfl, rfl, rfl, rfl⟩ := h
 rfl
def cmpEx (a b : Za) : Int := lexC (fldE a) (fldE b)
abbrev ExOk (_ : Za) : Prop := True
theorem ZqT (a1 a2 a3 a4 a5 b1 b2 b3 b4 b5 : Int) : orL [Lib.compareInt a1 b1, Lib.compareInt a2 b2, Lib.compareInt a3 b3, Lib.compareInt a4 b4, Lib.compareInt a5 b5] = lexC [a1, a2, a3, a4, a5] [b1, b2, b3, b4, b5] := by
 simp only [orL, Zh3]
 have e : lexC [] [] = 0 := rfl
 rw [e]
 repeat' split
 all_goals first | rfl | omega
instance ZAg (a b : Za) : SpecC Tryz.prog 207 [.agg (Ze a), .agg (Ze b)] (.int .i64 (cmpEx a b)) (ExOk a ∧ ExOk b) := ⟨fun _ w => by
 have he : cmpEx a b = orL [Lib.compareInt a.From b.From, Lib.compareInt a.To b.To, Lib.compareInt a.Sent b.Sent, Lib.compareInt a.Received b.Received, Lib.compareInt a.Least b.Least] := (ZqT _ _ _ _ _ _ _ _ _ _).symm
 rw [he]
 refine Zg Tryz.func207 rfl Tryz.ntmps207 rfl ?_
 repeat (refine wkB ?_; try intro _)
 rename_i b2 b3
 (refine Zf2 [([0, 1, 2, 3, 4, 5, 6, 7, 8, 9, 10, 11, 12, 13, 14, 15, 16, 17, 18, 19, 20, 21, 22, 23, 24], [25, 26, 27])] ([⟨b3, Ze b, 122⟩, ⟨b2, Ze a, 122⟩]) (h := ?_); refine wkP ?_)
 (repeat (refine wkH ?_))
 repeat (first | (refine wkT ?_; try intro _) | (refine tC rfl rfl ?_ ?_; focus (exact ⟨rfl, by decide⟩)) | (refine uC rfl rfl ?_ ?_; focus (exact ⟨rfl, by decide⟩)) | (refine eN rfl rfl ?_ ?_; (focus (exact ⟨rfl, by decide⟩)); intro _; (try simp only [List.cons_append, List.nil_append, List.append_nil])))
 repeat (refine wkB ?_; try intro _)
 exact Zf rfl rfl (fun w hw => Zh hw)⟩
end Go.Vt
