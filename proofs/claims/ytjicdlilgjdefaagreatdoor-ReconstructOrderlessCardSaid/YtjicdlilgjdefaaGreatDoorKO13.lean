/- that the order in which batches arrive does not matter (part 13 of 27.) Conditions: those that each statement names. -/
import Derived.Test.YtjicdlilgjdefaaGreatDoorKO10
import Derived.Test.YtjicdlilgjdefaaGreatDoorKO11
import Derived.Test.YtjicdlilgjdefaaGreatDoorKO12
/- The keys of a map, one after another in any order. Conditions: those that each statement names. -/
set_option linter.unusedSimpArgs false
set_option linter.unusedVariables false
set_option maxHeartbeats 2000000
set_option maxRecDepth 100000
namespace Go.Vt
open Go.RowKit Go.Proofs
open Go.ChangeMaps (setBlock)
theorem Z4 {w w' : World} (h : Ext w w') : w.grownBy w' none := ⟨h.bel.os, h.bel.tape, h.bel.output, h.bel.size, fun k hk _ => h.bel.block k hk⟩
def KpK (wc A A' : World) : Prop := Below wc.heap.size A A' ∧ ∀ (k : Nat) (o : Obj), A.heap[k]? = some o → o.isWalk = true → A'.heap[k]? = some o
instance ZEq {P : Program} {E : Env} {T : TypeId} {x : Operand} {m : Option Nat} [h : IsC (evl E x) (.map m)] : AlC P E (.box T x) #[.map m] T := ⟨fun hg hd h => Zgy isE hg hd h⟩
instance ZAn (m : Option Nat) : LdC Tryz.prog 177 #[.map m] 0 (.map m) := ⟨Zy (by kernel_rfl) (by kernel_rfl)⟩
abbrev pKR (l : List (Zb × Bool)) : List Zb := l.map (·.1)
theorem Zpo {l : List (Zb × Bool)} {s : List Nat} {i : Nat} (h : i < l.length) : seenL (pKR l) (s ++ [i]) = seenL (pKR l) s ++ [(gi l (i : Int)).1] := by
 rw [ZbK _ _ _ (by rw [List.length_map]; exact h), List.getElem_map, Zi h]
set_option maxHeartbeats 4000000 in
theorem ZjT (wc w0 : World) (Bm b N : Nat) (TB : TypeId) (l : List (Zb × Bool)) (hwc : Below wc.heap.size wc w0) (hB : ∃ fz, wc.heap[Bm]? = some (.cells #[.map (some b)] TB fz)) (hb : wc.heap[b]? = some (mRp l)) :
  SeqStopsK (Fr none) N Tryz.prog 152 #[.pointer (some ⟨Bm, 0, none⟩)] (fun x : Zb => #[.agg (Zc x)]) (KpK wc) (fun ys => ys.Perm (pKR l)) (fun _ => True) (l.length + 1) w0 := by
 intro lp Jp Jx W hW hJ hJx hY h0
 have hBW : Below wc.heap.size wc W := hwc.trans (hW.mono hwc.size)
 have hB1 : ∃ fz, W.heap[Bm]? = some (.cells #[.map (some b)] TB fz) := by
  obtain ⟨fz, h⟩ := hB
  exact ⟨fz, (hBW.block Bm (Zm h)).trans h⟩
 have hb1 : W.heap[b]? = some (mRp l) := (hBW.block b (Zm hb)).trans hb
 have fB := FoC.mk (w0 := W) hB1
 have fb := FoO.mk hb1
 have hgo := Zfh (N := N) (P := Tryz.prog) (l := [Value.func (.yield lp) #[] #[], Value.pointer (some ⟨Bm, 0, none⟩)]) (w := W) (R := fun e W' => (∃ v, e = Ending.returned v) ∧ ((∃ xs, xs.Perm (pKR l) ∧ Jp xs W') ∨ ∃ pre, True ∧ Jx pre W')) Tryz.func152 rfl Tryz.ntmps152 rfl
 refine hgo ?_
 clear hgo
 refine Zat ?_
 refine Zce ?_
 repeat (refine wkM ?_; try intro _)
 refine Zae ?_
 rename_i r
 refine Za0 ?_
 refine Zhw (S := List Nat) (fun s W1 => SeenOk l.length s ∧ Jp (seenL (pKR l) s) W1 ∧ Below wc.heap.size wc W1 ∧ W1.heap[r]? = some (itO b l.length s) ∧ W.heap.size ≤ r) (fun _ => [(0, .func (.yield lp) #[] #[]), (5, .pointer (some ⟨r, 0, none⟩))]) (fun s => l.length - s.length) [] (fun w hw => ⟨⟨List.nodup_nil, fun i hi => by cases hi⟩, hJ _ W w none h0 (Z4 hw.ext) (fun _ e => by cases e), hBW.trans (hw.ext.bel.mono hBW.size), (hw.mem _ (.head _)).2, (hw.mem _ (.head _)).1⟩) sbB (fun s W1 hI => ?_)
 obtain ⟨hs, hJp, hB0, hr1, hrW⟩ := hI
 have hbb : W1.heap[b]? = some (mRp l) := (hB0.block b (Zm hb)).trans hb
 have hlen := ZaJ hs.nd hs.lt
 refine Zat ?_
 refine ZaQ ?_
 refine Zge rfl rfl (fun w hw => (hw.ext.block _ (Zm hr1)).trans hr1) (fun w hw => (hw.ext.block _ (Zm hbb)).trans hbb) (fun hall => ?h0) (fun w w1 hw hw1 i hi hni => ?h1)
 case h0 =>
  refine Zbj (fun _ _ h => by obtain ⟨⟨v, h⟩, _⟩ := h; cases h) rfl ?_
  repeat (refine wkM ?_; try intro _)
  refine Zae ?_
  refine Zat ?_
  refine Zbl rfl (fun h => by cases h) (fun _ => ?_)
  refine Zhf ?_
  refine Zc7 ?_
  refine Zc8 ?_
  refine Zcd ?_
  exact Zam rfl (fun w hw => ⟨⟨_, rfl⟩, .inl ⟨_, Zb6 hs.nd (by rw [List.length_map]; exact hs.lt) (by rw [List.length_map]; exact hall), hJ _ W1 w none hJp (Z4 hw.ext) (fun _ e => by cases e)⟩⟩)
 case h1 =>
  have hs' := hs.snoc hi hni
  have hlen' := ZaJ hs'.nd hs'.lt
  rw [List.length_append, List.length_singleton] at hlen'
  have hrw : w.heap[r]? = some (itO b l.length s) := (hw.ext.block _ (Zm hr1)).trans hr1
  have hg := ZeC (r := r) (o := itO b l.length (s ++ [i])) hw1
  have hJ2 := hJ _ w _ (some r) (hJ _ W1 w none hJp (Z4 hw.ext) (fun _ e => by cases e)) hg (fun r' e => by cases e; exact ⟨hrW, _, hrw, ZcI _ _ _⟩)
  have hB2 := (hB0.trans (hw.ext.bel.mono hB0.size)).grown hg (Nat.le_trans hB0.size hw.ext.size) (fun j e => by cases e; exact Nat.le_trans hBW.size hrW)
  have hr2 := ZeP (o := itO b l.length (s ++ [i])) hw1 hrw
  generalize setBlock w1 r (itO b l.length (s ++ [i])) = W2 at *
  have hb2 : W2.heap[b]? = some (mRp l) := (hB2.block b (Zm hb)).trans hb
  have f2 := FoO.mk hr2
  have f3 := FoO.mk hb2
  refine Zbj (fun _ _ h => by obtain ⟨⟨v, h⟩, _⟩ := h; cases h) rfl ?_
  repeat (refine wkM ?_; try intro _)
  refine Zae ?_
  refine Zat ?_
  refine Zbl rfl (fun _ => ?_) (fun h => by cases h)
  refine Zdl ?_
  refine Zae ?_
  refine Za0 ?_
  refine Zat ?_
  refine Zce ?_
  repeat (refine wkM ?_; try intro _)
  refine Zae ?_
  refine Zat ?_
  refine ZaQ ?_
  refine ⟨fun a2 w2 ha2 hw2 => Za7 [_, _] a2 w2 rfl (JO.out ?_ a2 w2 ha2 hw2)⟩
  repeat (refine wkM ?_; try intro _)
  refine Zdj (fun a3 w3 ha3 hw3 => (ZeW (l := lp) (args := #[.agg (Zc (gi l (i : Int)).1)]) (R := fun e W' => (e = .returned (.bool true) ∧ Jp (seenL (pKR l) (s ++ [i])) W' ∧ KpK wc W2 W') ∨ (e = .returned (.bool false) ∧ Jx (seenL (pKR l) (s ++ [i])) W')) rfl rfl rfl (fun a w ha => Ze9 ha rfl rfl) (fun w hw => ?_) ?_).out a3 w3 ha3 hw3)
  ·obtain ⟨fn, tmps, asg, bd, y1, y2⟩ := hY (seenL (pKR l) s) (gi l (i : Int)).1 w (hJ _ W2 w none hJ2 (Z4 hw.ext) (fun _ e => by cases e)) (by rw [ZdU _ (by rw [List.length_map]; exact hs.lt)]; omega)
   refine ⟨fn, tmps, asg, bd, y1, y2.mono fun e W' h => ?_⟩
   rw [Zpo hi]
   rcases h with ⟨e1, e2, e3⟩ | ⟨e1, e2⟩
   ·exact .inl ⟨e1, e2, (hw.ext.bel.mono hB2.size).trans e3.1, fun k o hk hwk => e3.2 k o ((hw.ext.block k (Zm hk)).trans hk) hwk⟩
   ·exact .inr ⟨e1, e2⟩
  ·rintro e W' (⟨rfl, hJ', hk⟩ | ⟨rfl, hx'⟩)
   ·refine ⟨_, rfl, ?_⟩
    refine Zbj (E := (12, .bool true) :: _) (fun _ _ h => by obtain ⟨⟨v, h⟩, _⟩ := h; cases h) rfl ?_
    repeat (refine wkM ?_; try intro _)
    refine Zae ?_
    refine Zbl rfl (fun h => by cases h) (fun _ => ?_)
    refine Zdl ?_
    refine Zet ?_
    refine Zgn (s ++ [i]) (fun w hw => ⟨hs', hJ _ W' w none hJ' (Z4 hw.ext) (fun _ e => by cases e), hB2.trans ((hk.1.mono (Nat.le_refl _)).trans (hw.ext.bel.mono (Nat.le_trans hB2.size hk.1.size))), ?_, hrW⟩) sbB (by simp only [List.length_append, List.length_singleton]; omega)
    have h3 := hk.2 r _ hr2 (ZcI _ _ _)
    exact (hw.ext.block _ (Zm h3)).trans h3
   ·refine ⟨_, rfl, ?_⟩
    refine Zbj (E := (12, .bool false) :: _) (fun _ _ h => by obtain ⟨⟨v, h⟩, _⟩ := h; cases h) rfl ?_
    repeat (refine wkM ?_; try intro _)
    refine Zae ?_
    refine Zbl rfl (fun _ => ?_) (fun h => by cases h)
    refine ZjM ?_
    refine Zbi ?_
    refine Zdw ?_
    refine Zbi ?_
    exact Zdi rfl (fun w hw => ⟨⟨_, rfl⟩, .inr ⟨_, trivial, hJx _ W' w none hx' (Z4 hw.ext) (fun _ e => by cases e)⟩⟩)
end Go.Vt
/- The keys of a map, one after another in any order. Conditions: those that each statement names. -/
namespace Go.Vt
open Go.RowKit Go.Proofs
open Go.ChangeMaps (setBlock)
instance ZB9 (m : Option Nat) : LdC Tryz.prog 178 #[.map m] 0 (.map m) := ⟨Zy (by kernel_rfl) (by kernel_rfl)⟩
abbrev pKE (l : List (Za × Bool)) : List Za := l.map (·.1)
theorem Zoz {l : List (Za × Bool)} {s : List Nat} {i : Nat} (h : i < l.length) : seenL (pKE l) (s ++ [i]) = seenL (pKE l) s ++ [(gi l (i : Int)).1] := by
 rw [ZbK _ _ _ (by rw [List.length_map]; exact h), List.getElem_map, Zi h]
set_option maxHeartbeats 4000000 in
theorem Zjt (wc w0 : World) (Bm b N : Nat) (TB : TypeId) (l : List (Za × Bool)) (hwc : Below wc.heap.size wc w0) (hB : ∃ fz, wc.heap[Bm]? = some (.cells #[.map (some b)] TB fz)) (hb : wc.heap[b]? = some (mEx l)) :
  SeqStopsK (Fr none) N Tryz.prog 259 #[.pointer (some ⟨Bm, 0, none⟩)] (fun x : Za => #[.agg (Zd x)]) (KpK wc) (fun ys => ys.Perm (pKE l)) (fun _ => True) (l.length + 1) w0 := by
 intro lp Jp Jx W hW hJ hJx hY h0
 have hBW : Below wc.heap.size wc W := hwc.trans (hW.mono hwc.size)
 have hB1 : ∃ fz, W.heap[Bm]? = some (.cells #[.map (some b)] TB fz) := by
  obtain ⟨fz, h⟩ := hB
  exact ⟨fz, (hBW.block Bm (Zm h)).trans h⟩
 have hb1 : W.heap[b]? = some (mEx l) := (hBW.block b (Zm hb)).trans hb
 have fB := FoC.mk (w0 := W) hB1
 have fb := FoO.mk hb1
 have hgo := Zfh (N := N) (P := Tryz.prog) (l := [Value.func (.yield lp) #[] #[], Value.pointer (some ⟨Bm, 0, none⟩)]) (w := W) (R := fun e W' => (∃ v, e = Ending.returned v) ∧ ((∃ xs, xs.Perm (pKE l) ∧ Jp xs W') ∨ ∃ pre, True ∧ Jx pre W')) Tryz.func259 rfl Tryz.ntmps259 rfl
 refine hgo ?_
 clear hgo
 refine Zat ?_
 refine Zce ?_
 repeat (refine wkM ?_; try intro _)
 refine Zae ?_
 rename_i r
 refine Za0 ?_
 refine Zhw (S := List Nat) (fun s W1 => SeenOk l.length s ∧ Jp (seenL (pKE l) s) W1 ∧ Below wc.heap.size wc W1 ∧ W1.heap[r]? = some (itO b l.length s) ∧ W.heap.size ≤ r) (fun _ => [(0, .func (.yield lp) #[] #[]), (5, .pointer (some ⟨r, 0, none⟩))]) (fun s => l.length - s.length) [] (fun w hw => ⟨⟨List.nodup_nil, fun i hi => by cases hi⟩, hJ _ W w none h0 (Z4 hw.ext) (fun _ e => by cases e), hBW.trans (hw.ext.bel.mono hBW.size), (hw.mem _ (.head _)).2, (hw.mem _ (.head _)).1⟩) sbB (fun s W1 hI => ?_)
 obtain ⟨hs, hJp, hB0, hr1, hrW⟩ := hI
 have hbb : W1.heap[b]? = some (mEx l) := (hB0.block b (Zm hb)).trans hb
 have hlen := ZaJ hs.nd hs.lt
 refine Zat ?_
 refine ZaQ ?_
 refine Zge rfl rfl (fun w hw => (hw.ext.block _ (Zm hr1)).trans hr1) (fun w hw => (hw.ext.block _ (Zm hbb)).trans hbb) (fun hall => ?h0) (fun w w1 hw hw1 i hi hni => ?h1)
 case h0 =>
  refine Zbj (fun _ _ h => by obtain ⟨⟨v, h⟩, _⟩ := h; cases h) rfl ?_
  repeat (refine wkM ?_; try intro _)
  refine Zae ?_
  refine Zat ?_
  refine Zbl rfl (fun h => by cases h) (fun _ => ?_)
  refine Zhf ?_
  refine Zc7 ?_
  refine Zc8 ?_
  refine Zcd ?_
  exact Zam rfl (fun w hw => ⟨⟨_, rfl⟩, .inl ⟨_, Zb6 hs.nd (by rw [List.length_map]; exact hs.lt) (by rw [List.length_map]; exact hall), hJ _ W1 w none hJp (Z4 hw.ext) (fun _ e => by cases e)⟩⟩)
 case h1 =>
  have hs' := hs.snoc hi hni
  have hlen' := ZaJ hs'.nd hs'.lt
  rw [List.length_append, List.length_singleton] at hlen'
  have hrw : w.heap[r]? = some (itO b l.length s) := (hw.ext.block _ (Zm hr1)).trans hr1
  have hg := ZeC (r := r) (o := itO b l.length (s ++ [i])) hw1
  have hJ2 := hJ _ w _ (some r) (hJ _ W1 w none hJp (Z4 hw.ext) (fun _ e => by cases e)) hg (fun r' e => by cases e; exact ⟨hrW, _, hrw, ZcI _ _ _⟩)
  have hB2 := (hB0.trans (hw.ext.bel.mono hB0.size)).grown hg (Nat.le_trans hB0.size hw.ext.size) (fun j e => by cases e; exact Nat.le_trans hBW.size hrW)
  have hr2 := ZeP (o := itO b l.length (s ++ [i])) hw1 hrw
  generalize setBlock w1 r (itO b l.length (s ++ [i])) = W2 at *
  have hb2 : W2.heap[b]? = some (mEx l) := (hB2.block b (Zm hb)).trans hb
  have f2 := FoO.mk hr2
  have f3 := FoO.mk hb2
  refine Zbj (fun _ _ h => by obtain ⟨⟨v, h⟩, _⟩ := h; cases h) rfl ?_
  repeat (refine wkM ?_; try intro _)
  refine Zae ?_
  refine Zat ?_
  refine Zbl rfl (fun _ => ?_) (fun h => by cases h)
  refine Zdl ?_
  refine Zae ?_
  refine Za0 ?_
  refine Zat ?_
  refine Zce ?_
  repeat (refine wkM ?_; try intro _)
  refine Zae ?_
  refine Zat ?_
  refine ZaQ ?_
  refine ⟨fun a2 w2 ha2 hw2 => Za7 [_, _] a2 w2 rfl (JO.out ?_ a2 w2 ha2 hw2)⟩
  repeat (refine wkM ?_; try intro _)
  refine Zdj (fun a3 w3 ha3 hw3 => (ZeW (l := lp) (args := #[.agg (Zd (gi l (i : Int)).1)]) (R := fun e W' => (e = .returned (.bool true) ∧ Jp (seenL (pKE l) (s ++ [i])) W' ∧ KpK wc W2 W') ∨ (e = .returned (.bool false) ∧ Jx (seenL (pKE l) (s ++ [i])) W')) rfl rfl rfl (fun a w ha => Ze9 ha rfl rfl) (fun w hw => ?_) ?_).out a3 w3 ha3 hw3)
  ·obtain ⟨fn, tmps, asg, bd, y1, y2⟩ := hY (seenL (pKE l) s) (gi l (i : Int)).1 w (hJ _ W2 w none hJ2 (Z4 hw.ext) (fun _ e => by cases e)) (by rw [ZdU _ (by rw [List.length_map]; exact hs.lt)]; omega)
   refine ⟨fn, tmps, asg, bd, y1, y2.mono fun e W' h => ?_⟩
   rw [Zoz hi]
   rcases h with ⟨e1, e2, e3⟩ | ⟨e1, e2⟩
   ·exact .inl ⟨e1, e2, (hw.ext.bel.mono hB2.size).trans e3.1, fun k o hk hwk => e3.2 k o ((hw.ext.block k (Zm hk)).trans hk) hwk⟩
   ·exact .inr ⟨e1, e2⟩
  ·rintro e W' (⟨rfl, hJ', hk⟩ | ⟨rfl, hx'⟩)
   ·refine ⟨_, rfl, ?_⟩
    refine Zbj (E := (12, .bool true) :: _) (fun _ _ h => by obtain ⟨⟨v, h⟩, _⟩ := h; cases h) rfl ?_
    repeat (refine wkM ?_; try intro _)
    refine Zae ?_
    refine Zbl rfl (fun h => by cases h) (fun _ => ?_)
    refine Zdl ?_
    refine Zet ?_
    refine Zgn (s ++ [i]) (fun w hw => ⟨hs', hJ _ W' w none hJ' (Z4 hw.ext) (fun _ e => by cases e), hB2.trans ((hk.1.mono (Nat.le_refl _)).trans (hw.ext.bel.mono (Nat.le_trans hB2.size hk.1.size))), ?_, hrW⟩) sbB (by simp only [List.length_append, List.length_singleton]; omega)
    have h3 := hk.2 r _ hr2 (ZcI _ _ _)
    exact (hw.ext.block _ (Zm h3)).trans h3
   ·refine ⟨_, rfl, ?_⟩
    refine Zbj (E := (12, .bool false) :: _) (fun _ _ h => by obtain ⟨⟨v, h⟩, _⟩ := h; cases h) rfl ?_
    repeat (refine wkM ?_; try intro _)
    refine Zae ?_
    refine Zbl rfl (fun _ => ?_) (fun h => by cases h)
    refine ZjM ?_
    refine Zbi ?_
    refine Zdw ?_
    refine Zbi ?_
    exact Zdi rfl (fun w hw => ⟨⟨_, rfl⟩, .inr ⟨_, trivial, hJx _ W' w none hx' (Z4 hw.ext) (fun _ e => by cases e)⟩⟩)
end Go.Vt
/- The keys of a map, collected. Conditions: those that each statement names. -/
namespace Go.Vt
open Go.RowKit Go.Proofs
def SeqI (w : World) (b2 : Nat) (pre : List Zb) (W : World) : Prop :=
 (∃ v', Boxed W b2 37 v' ∧ W.ownsRow w.heap.size 35 8 v' pre.length (rowL Zc pre) ∧ (pre = [] → v' = .slice none 0 0)) ∧ Below w.heap.size w W
theorem Zje {w : World} {b2 B : Nat} (hB : w.heap.size ≤ B) : OwnFrom B (SeqI w b2) :=
 OwnFrom.and (Own.from (holdsRow_own w.heap.size b2 37 35 8 (fun pre => pre.length) (fun pre => rowL Zc pre) (fun pre v' => pre = [] → v' = .slice none 0 0)) _) (ownFrom_below (Nat.le_refl _) hB)
def SeqA (b2 : Nat) (x : Zb) (a' : Act) (W : World) : Prop :=
 ∃ bx, W.heap[bx]? = some (.cells (Zc x) 35 (0, 0)) ∧ Rep 13 [(2, .pointer (some ⟨b2, 0, none⟩)), (5, .pointer (some ⟨bx, 0, none⟩))] a'
theorem Zp2 {w W w3 w4 : World} {b2 B : Nat} {v' v2 : Value} {pre : List Zb} {x : Zb} (hw : w.heap.size ≤ W.heap.size) (hBe : Below w.heap.size w W) (h5 : Boxed W b2 37 v') (hrow : W.ownsRow w.heap.size 35 8 v' pre.length (rowL Zc pre))
  (hx : Ext W w3) (hown : w4.ownsRow w.heap.size 35 8 v2 (pre.length + 1) (rowL Zc pre ++ rowL Zc [x])) (hg : w3.grownBy w4 v'.ownBlock) (hb2 : w.heap.size ≤ b2) :
  Boxed w4 b2 37 v' ∧ KeepsFrom B W (w4.setCell ⟨b2, 0, none⟩ v2) ∧ KpK w W (w4.setCell ⟨b2, 0, none⟩ v2) ∧ SeqI w b2 (pre ++ [x]) (w4.setCell ⟨b2, 0, none⟩ v2) := by
 have hrow3 : w3.ownsRow w.heap.size 35 8 v' pre.length (rowL Zc pre) := hrow.kept (Z4 hx) (by cases v' with
  | slice p n c => cases p with
   | none => exact .inl rfl
   | some p => exact .inr (fun h => by cases h)
  | _ => exact .inl rfl)
 have q5 := Boxed.kept (ZcG h5 hx) hg (Boxed.not_row (ZcG h5 hx) (by decide) hrow3)
 have own : ∀ j, v'.ownBlock = some j → w.heap.size ≤ j ∧ ∃ cs T, w3.heap[j]? = some (.cells cs T (0, 0)) := fun j hj => by
  rcases hrow3.2 with ⟨rfl, _⟩ | ⟨g, cap, cur, rfl, hb, hgb, _⟩
  ·cases hj
  ·obtain rfl : g = j := by simpa [Value.ownBlock] using hj
   exact ⟨hb, _, _, hgb⟩
 have keep : ∀ (k : Nat) (o : Obj), W.heap[k]? = some o → o.isCells = false → (w4.setCell ⟨b2, 0, none⟩ v2).heap[k]? = some o := fun k o hk ho => by
  have e3 : w3.heap[k]? = some o := (hx.block k (Zm hk)).trans hk
  have e4 : w4.heap[k]? = some o := (hg.block k (Zm e3) (fun e => by obtain ⟨-, cs, T, hc⟩ := own k e.symm; rw [e3] at hc; cases hc; cases ho)).trans e3
  refine ((grownBy_setCell' w4 b2 v2).block k (Zm e4) (fun e => ?_)).trans e4
  obtain rfl : k = b2 := by simpa using e
  rw [show w4.heap[k]? = _ from q5] at e4
  cases e4
  cases ho
 have hbel := ((hx.bel.mono hw).grown hg (Nat.le_trans hw hx.size) (fun j e => (own j e).1)).setCell (p := ⟨b2, 0, none⟩) hb2 v2
 refine ⟨q5, ⟨Nat.le_trans hx.size (Nat.le_trans hg.size (grownBy_setCell' w4 b2 v2).size), fun k o _ hk ho => keep k o hk ho⟩, ⟨hbel, fun k o hk ho => keep k o hk (Obj.not_cells_of_walk ho)⟩, ⟨⟨v2, Boxed.set v2 q5, ?_, fun h => ?_⟩, hBe.trans hbel⟩⟩
 ·have e := hown.kept (grownBy_setCell' w4 b2 v2) (.inr (Boxed.not_row q5 (by decide) hown).symm)
  rw [List.length_append, List.length_singleton, Zbp]
  exact e
 ·simp at h
instance ZAt {P : Program} {E : Env} {T : TypeId} {x : Operand} [h : IsC (evl E x) (.slice none 0 0)] : AlC P E (.box T x) #[.slice none 0 0] T := ⟨fun hg hd h => Zgy isE hg hd h⟩
set_option maxHeartbeats 4000000 in
theorem ZlY (Bm b : Nat) (TB : TypeId) (l : List (Zb × Bool)) (w : World) (hl : l.length ≤ 1048576) (hB : ∃ fz, w.heap[Bm]? = some (.cells #[.map (some b)] TB fz)) (hb : w.heap[b]? = some (mRp l)) :
  Calls Tryz.prog 202 [.slice none 0 0, .func (.func 152) #[] [.pointer (some ⟨Bm, 0, none⟩)].toArray].toArray w (RetM ((ys : { ys : List Zb // ys.Perm (pKR l) }) × SlS Zc 8 ys.1) (fun s => vSl s.2) (fun s => mS 35 s.2) w) := by
 have hgo := ZeT (N := 5) (P := Tryz.prog) (l := [Value.slice none 0 0, .func (.func 152) #[] [.pointer (some ⟨Bm, 0, none⟩)].toArray]) (w := w) (R := RetM ((ys : { ys : List Zb // ys.Perm (pKR l) }) × SlS Zc 8 ys.1) (fun s => vSl s.2) (fun s => mS 35 s.2) w) Tryz.func202 rfl Tryz.ntmps202 rfl
 refine hgo ?_
 clear hgo
 refine Zat ?_
 refine Zce ?_
 repeat (refine wkM ?_; try intro _)
 refine Zae ?_
 refine Zat ?_
 refine Zat ?_
 refine Zce ?_
 repeat (refine wkM ?_; try intro _)
 refine Zae ?_
 refine Za0 ?_
 rename_i b2
 refine ⟨fun a w1 ha hw1 => ?_⟩
 have hb2 := hw1.mem _ (.head _)
 have hwd := hw1.ext.size
 refine wpIn_rangeFunc_ownH (F := Fr none) (n := 5) (P := Tryz.prog) (w0 := w1) (N := l.length + 1) (α := Zb) (encs := fun x => #[.agg (Zc x)]) (S := fun ys => ys.Perm (pKR l)) (Sp := fun _ => True) (Kp := KpK w) rfl (by omega) (gf := 152) (lb := #[.pointer (some ⟨Bm, 0, none⟩)]) (ha.ev (x := .tmp 6) rfl) trivial (fun args w => Zbu (by kernel_rfl) args w)
  (ZjT w w1 Bm b 4 TB l hw1.ext.bel hB hb) (fun h k => ⟨h.1.trans k.1, fun i o ho hw => k.2 i o (h.2 i o ho hw) hw⟩) (fun W lo o o' hl h hc hk => ⟨belowK_b (w := w1) hwd W lo o o' hl h hc hk, fun k o2 h2 hw2 => (World.putObj_heap_other (fun e => by rw [e, h] at h2; cases h2; rw [hk] at hw2; cases hw2)).trans h2⟩) (Below.refl _ _) (fun _ => rfl)
  (SeqI w b2) (fun _ _ _ => False) (Zje hwd) (fun _ _ _ _ _ hs _ _ => hs) ⟨⟨_, hb2.2, World.ownsRow_nil _ _ _ _, fun _ => rfl⟩, hw1.ext.bel⟩
  (SeqA b2) (fun x a' s X Y row ⟨bx, hc, hr⟩ hg hrow => ⟨bx, (hg.block bx (Zm hc) (fun e => by obtain ⟨-, o, ho, hn⟩ := hrow bx e.symm; rw [hc] at ho; cases ho; cases hn)).trans hc, hr⟩) ?assign ?body ?done ?stop
 case stop =>
  rintro D c pre W _ _ h _
  exact h.elim
 case assign =>
  intro lo pre x W K hi hK
  have hact : ∀ a0 : Act, a0.defers = [] → ({ tmps := ((#[7] : Array Tmp).zip #[Value.agg (Zc x)]).foldl (fun t (p, v) => t.setIfInBounds p v) a0.tmps, defers := [] } : Act) = a0.put (some 7) (.agg (Zc x)) := fun a0 h => by
   cases a0
   simp only at h
   subst h
   simp [Act.put]
  rw [hact a ha.defers]
  have hrep := ha.put (some 7) (.agg (Zc x)) rfl
  refine JI.out (r := some lo) (N := 3) (P := Tryz.prog) (w0 := W) (n := 13) (E := [(7, .agg (Zc x)), (2, .pointer (some ⟨b2, 0, none⟩))]) (L := []) ?_ _ W (hrep.sub sbB) (Own.start W)
  refine ZaQ ?_
  refine Zbj (fun _ _ h => h) rfl ?_
  repeat (refine wkM ?_; try intro _)
  rename_i bx
  refine ⟨fun a' W' ha' hw' => hK a' W' ⟨hw'.ext.size, fun k o _ hk _ => (hw'.ext.block k (Zm hk)).trans hk⟩ ⟨hw'.ext.bel.mono hi.2.size, fun k o ho _ => (hw'.ext.block _ (Zm ho)).trans ho⟩ (Zje (Nat.le_refl _) _ W W' none hi (Z4 hw'.ext) (fun r e => by cases e)) ⟨bx, (hw'.mem _ (.head _)).2, ha'.sub sbB⟩⟩
 case body =>
  rintro lo pre x a' W hlw hr hi ⟨bx, hbx, hra⟩ hlt
  obtain ⟨⟨v', hv', hrow, hnil⟩, hBe⟩ := hi
  obtain ⟨o, m, c, hvs⟩ : ∃ o m c, v' = .slice o m c := by
   rcases hrow.2 with ⟨h, _⟩ | ⟨g, cap, _, h, _⟩
   ·exact ⟨_, _, _, h⟩
   ·exact ⟨_, _, _, h⟩
  have f2 := FoC.mk ⟨(0, 0), hv'⟩
  have fx := FoC.mk ⟨(0, 0), hbx⟩
  rw [hvs] at f2
  refine JI.out (r := some lo) (N := 3) (P := Tryz.prog) (w0 := W) (n := 13) (E := [(2, .pointer (some ⟨b2, 0, none⟩)), (5, .pointer (some ⟨bx, 0, none⟩))]) (L := []) ?_ _ W hra (Own.start W)
  refine Za0 ?_
  refine ZaQ ?_
  refine ⟨fun a2 w2 ha2 hw2 => ?_⟩
  refine Za7 [_, _, _] a2 w2 rfl (JO.out (w0 := W) (n := 13) (L := []) ?_ a2 w2 ha2 hw2)
  repeat (refine wkM ?_; try intro _)
  refine Zdj (fun a3 w3 ha3 hw3 => ?_)
  have hbn := (hw3.mem _ (.head _)).2
  refine Zfc (size := 8) (k := pre.length) (m := 1) (base := w.heap.size) (v := v') (xs := rowL Zc pre) (news := rowL Zc [x]) ha3 (by rw [hvs]; rfl) rfl rfl (by decide) (hrow.kept (Z4 hw3.ext) (by rw [hvs]; cases o with | none => exact .inl rfl | some p => exact .inr (fun h => by cases h))) (Zah (k := 8) [x]) (fun j u hu => by rw [ZaA, Zas hbn, Nat.zero_add]; simpa [row] using hu) (ZcJ [x]) (by simp only [maxLen]; omega) ?_ (Nat.le_trans hBe.size hw3.ext.size) (fun v2 w4 hown hgrow => ?_)
  ·omega
  ·obtain ⟨g', cap', hv2⟩ := ownsRow_succ hown
   subst hv2
   obtain ⟨q5, k1, k2, k3⟩ := Zp2 (x := x) (B := w1.heap.size) hBe.size hBe hv' hrow hw3.ext hown hgrow hb2.1
   refine Zd0 (b := b2) (ha3.put (some 11) _ rfl) rfl rfl q5 (by kernel_rfl) rfl rfl ?_
   exact wpListIn_nil ⟨k1, k2, k3⟩
 case done =>
  rintro D ys W hD hp hi hK
  obtain ⟨⟨v', hv', hrow, hnil⟩, hBe⟩ := hi
  obtain ⟨s, hs1, hs2, hs3⟩ := ZiF hnil hrow
  obtain ⟨o, m, c, hvs⟩ : ∃ o m c, v' = .slice o m c := by
   rcases hrow.2 with ⟨h, _⟩ | ⟨g, cap, _, h, _⟩
   ·exact ⟨_, _, _, h⟩
   ·exact ⟨_, _, _, h⟩
  have f5 := FoC.mk ⟨(0, 0), hv'⟩
  rw [hvs] at f5 hs1
  have hra : Rep 13 [(2, .pointer (some ⟨b2, 0, none⟩))] a := ha.sub sbB
  have hl : YlC Tryz.prog W 13 [] [(2, .pointer (some ⟨b2, 0, none⟩))] (.load 37 (.tmp 2)) (.slice o m c) := inferInstance
  show Code.wpIn (Fr none) 5 _ _ _ _ W
  refine wpIn_seq (wpIn_region_lit ?_)
  refine Zdk (a := a) (L := []) (w0 := W) (hl.out _ _ _ _ _) hra (Own.start W) rfl rfl (fun W2 hx2 => ?_)
  refine Zdk (a := a.put (some 12) (.slice o m c)) (L := []) (w0 := W2) (E := Env.put [(2, .pointer (some ⟨b2, 0, none⟩))] (some 12) (.slice o m c)) (ZdR rfl) (hra.put (some 12) _ rfl) (Own.start W2) rfl rfl (fun W3 hx3 => ?_)
  refine wpListIn_nil ?_
  have hx := hx2.tr hx3
  have hK3 : W3.heap[D]? = some (.deferred (some [])) := (hx.block D (Zm hK)).trans hK
  have hr4 : ((a.put (some 12) (.slice o m c)).put (some 4) (.slice o m c)).tmps[4]? = some (.slice o m c) := ((hra.put (some 12) _ rfl).put (some 4) (.slice o m c) rfl).val 4 _ rfl
  refine wpIn_ret ?_
  refine ⟨by simp, .inl ⟨_, _, rfl, run_takeDeferred hK3, ?_⟩⟩
  rw [ha.defers]
  refine ⟨.slice o m c, ?_, ⟨⟨ys, hp⟩, s⟩, by rw [hs1], ⟨⟨?_, trivial⟩, fun e he => ?_, hs2⟩⟩
  ·rw [results_tmp rfl]
   show Result.ok (Array.getD _ 4 undef) _ = _
   rw [Array.getD_eq_getD_getElem?, hr4]
   rfl
  ·exact (hBe.trans (hx.bel.mono hBe.size)).trans (belowK_b (w := w1) hwd W3 D _ _ hD hK3 rfl rfl)
  ·obtain ⟨h1, h2⟩ := hs3 e he
   have h3 := (hx.block _ (Zm h2)).trans h2
   refine ⟨h1, (World.putObj_heap_other (fun hd => ?_)).trans h3⟩
   rw [hd, hK3] at h3
   simp only at he
   rcases s.cases 35 with ⟨-, -, x2⟩ | ⟨bs, cs, sp, -, -, x2, -⟩
   ·rw [x2] at he
    cases he
   ·rw [x2, List.mem_singleton] at he
    subst he
    cases h3
end Go.Vt
/- The keys of a map, collected. Conditions: those that each statement names. -/
namespace Go.Vt
open Go.RowKit Go.Proofs
def SeqIE (w : World) (b2 : Nat) (pre : List Za) (W : World) : Prop :=
 (∃ v', Boxed W b2 38 v' ∧ W.ownsRow w.heap.size 122 5 v' pre.length (rowL Zd pre) ∧ (pre = [] → v' = .slice none 0 0)) ∧ Below w.heap.size w W
theorem ZhF {w : World} {b2 B : Nat} (hB : w.heap.size ≤ B) : OwnFrom B (SeqIE w b2) :=
 OwnFrom.and (Own.from (holdsRow_own w.heap.size b2 38 122 5 (fun pre => pre.length) (fun pre => rowL Zd pre) (fun pre v' => pre = [] → v' = .slice none 0 0)) _) (ownFrom_below (Nat.le_refl _) hB)
def SeqAE (b2 : Nat) (x : Za) (a' : Act) (W : World) : Prop :=
 ∃ bx, W.heap[bx]? = some (.cells (Zd x) 122 (0, 0)) ∧ Rep 13 [(2, .pointer (some ⟨b2, 0, none⟩)), (5, .pointer (some ⟨bx, 0, none⟩))] a'
theorem Znz {w W w3 w4 : World} {b2 B : Nat} {v' v2 : Value} {pre : List Za} {x : Za} (hw : w.heap.size ≤ W.heap.size) (hBe : Below w.heap.size w W) (h5 : Boxed W b2 38 v') (hrow : W.ownsRow w.heap.size 122 5 v' pre.length (rowL Zd pre))
  (hx : Ext W w3) (hown : w4.ownsRow w.heap.size 122 5 v2 (pre.length + 1) (rowL Zd pre ++ rowL Zd [x])) (hg : w3.grownBy w4 v'.ownBlock) (hb2 : w.heap.size ≤ b2) :
  Boxed w4 b2 38 v' ∧ KeepsFrom B W (w4.setCell ⟨b2, 0, none⟩ v2) ∧ KpK w W (w4.setCell ⟨b2, 0, none⟩ v2) ∧ SeqIE w b2 (pre ++ [x]) (w4.setCell ⟨b2, 0, none⟩ v2) := by
 have hrow3 : w3.ownsRow w.heap.size 122 5 v' pre.length (rowL Zd pre) := hrow.kept (Z4 hx) (by cases v' with
  | slice p n c => cases p with
   | none => exact .inl rfl
   | some p => exact .inr (fun h => by cases h)
  | _ => exact .inl rfl)
 have q5 := Boxed.kept (ZcG h5 hx) hg (Boxed.not_row (ZcG h5 hx) (by decide) hrow3)
 have own : ∀ j, v'.ownBlock = some j → w.heap.size ≤ j ∧ ∃ cs T, w3.heap[j]? = some (.cells cs T (0, 0)) := fun j hj => by
  rcases hrow3.2 with ⟨rfl, _⟩ | ⟨g, cap, cur, rfl, hb, hgb, _⟩
  ·cases hj
  ·obtain rfl : g = j := by simpa [Value.ownBlock] using hj
   exact ⟨hb, _, _, hgb⟩
 have keep : ∀ (k : Nat) (o : Obj), W.heap[k]? = some o → o.isCells = false → (w4.setCell ⟨b2, 0, none⟩ v2).heap[k]? = some o := fun k o hk ho => by
  have e3 : w3.heap[k]? = some o := (hx.block k (Zm hk)).trans hk
  have e4 : w4.heap[k]? = some o := (hg.block k (Zm e3) (fun e => by obtain ⟨-, cs, T, hc⟩ := own k e.symm; rw [e3] at hc; cases hc; cases ho)).trans e3
  refine ((grownBy_setCell' w4 b2 v2).block k (Zm e4) (fun e => ?_)).trans e4
  obtain rfl : k = b2 := by simpa using e
  rw [show w4.heap[k]? = _ from q5] at e4
  cases e4
  cases ho
 have hbel := ((hx.bel.mono hw).grown hg (Nat.le_trans hw hx.size) (fun j e => (own j e).1)).setCell (p := ⟨b2, 0, none⟩) hb2 v2
 refine ⟨q5, ⟨Nat.le_trans hx.size (Nat.le_trans hg.size (grownBy_setCell' w4 b2 v2).size), fun k o _ hk ho => keep k o hk ho⟩, ⟨hbel, fun k o hk ho => keep k o hk (Obj.not_cells_of_walk ho)⟩, ⟨⟨v2, Boxed.set v2 q5, ?_, fun h => ?_⟩, hBe.trans hbel⟩⟩
 ·have e := hown.kept (grownBy_setCell' w4 b2 v2) (.inr (Boxed.not_row q5 (by decide) hown).symm)
  rw [List.length_append, List.length_singleton, Zbp]
  exact e
 ·simp at h
set_option maxHeartbeats 4000000 in
theorem ZlR (Bm b : Nat) (TB : TypeId) (l : List (Za × Bool)) (w : World) (hl : l.length ≤ 1048576) (hB : ∃ fz, w.heap[Bm]? = some (.cells #[.map (some b)] TB fz)) (hb : w.heap[b]? = some (mEx l)) :
  Calls Tryz.prog 302 [.slice none 0 0, .func (.func 259) #[] [.pointer (some ⟨Bm, 0, none⟩)].toArray].toArray w (RetM ((ys : { ys : List Za // ys.Perm (pKE l) }) × SlS Zd 5 ys.1) (fun s => vSl s.2) (fun s => mS 122 s.2) w) := by
 have hgo := ZeT (N := 5) (P := Tryz.prog) (l := [Value.slice none 0 0, .func (.func 259) #[] [.pointer (some ⟨Bm, 0, none⟩)].toArray]) (w := w) (R := RetM ((ys : { ys : List Za // ys.Perm (pKE l) }) × SlS Zd 5 ys.1) (fun s => vSl s.2) (fun s => mS 122 s.2) w) Tryz.func302 rfl Tryz.ntmps302 rfl
 refine hgo ?_
 clear hgo
 refine Zat ?_
 refine Zce ?_
 repeat (refine wkM ?_; try intro _)
 refine Zae ?_
 refine Zat ?_
 refine Zat ?_
 refine Zce ?_
 repeat (refine wkM ?_; try intro _)
 refine Zae ?_
 refine Za0 ?_
 rename_i b2
 refine ⟨fun a w1 ha hw1 => ?_⟩
 have hb2 := hw1.mem _ (.head _)
 have hwd := hw1.ext.size
 refine wpIn_rangeFunc_ownH (F := Fr none) (n := 5) (P := Tryz.prog) (w0 := w1) (N := l.length + 1) (α := Za) (encs := fun x => #[.agg (Zd x)]) (S := fun ys => ys.Perm (pKE l)) (Sp := fun _ => True) (Kp := KpK w) rfl (by omega) (gf := 259) (lb := #[.pointer (some ⟨Bm, 0, none⟩)]) (ha.ev (x := .tmp 6) rfl) trivial (fun args w => Zbu (by kernel_rfl) args w)
  (Zjt w w1 Bm b 4 TB l hw1.ext.bel hB hb) (fun h k => ⟨h.1.trans k.1, fun i o ho hw => k.2 i o (h.2 i o ho hw) hw⟩) (fun W lo o o' hl h hc hk => ⟨belowK_b (w := w1) hwd W lo o o' hl h hc hk, fun k o2 h2 hw2 => (World.putObj_heap_other (fun e => by rw [e, h] at h2; cases h2; rw [hk] at hw2; cases hw2)).trans h2⟩) (Below.refl _ _) (fun _ => rfl)
  (SeqIE w b2) (fun _ _ _ => False) (ZhF hwd) (fun _ _ _ _ _ hs _ _ => hs) ⟨⟨_, hb2.2, World.ownsRow_nil _ _ _ _, fun _ => rfl⟩, hw1.ext.bel⟩
  (SeqAE b2) (fun x a' s X Y row ⟨bx, hc, hr⟩ hg hrow => ⟨bx, (hg.block bx (Zm hc) (fun e => by obtain ⟨-, o, ho, hn⟩ := hrow bx e.symm; rw [hc] at ho; cases ho; cases hn)).trans hc, hr⟩) ?assign ?body ?done ?stop
 case stop =>
  rintro D c pre W _ _ h _
  exact h.elim
 case assign =>
  intro lo pre x W K hi hK
  have hact : ∀ a0 : Act, a0.defers = [] → ({ tmps := ((#[7] : Array Tmp).zip #[Value.agg (Zd x)]).foldl (fun t (p, v) => t.setIfInBounds p v) a0.tmps, defers := [] } : Act) = a0.put (some 7) (.agg (Zd x)) := fun a0 h => by
   cases a0
   simp only at h
   subst h
   simp [Act.put]
  rw [hact a ha.defers]
  have hrep := ha.put (some 7) (.agg (Zd x)) rfl
  refine JI.out (r := some lo) (N := 3) (P := Tryz.prog) (w0 := W) (n := 13) (E := [(7, .agg (Zd x)), (2, .pointer (some ⟨b2, 0, none⟩))]) (L := []) ?_ _ W (hrep.sub sbB) (Own.start W)
  refine ZaQ ?_
  refine Zbj (fun _ _ h => h) rfl ?_
  repeat (refine wkM ?_; try intro _)
  rename_i bx
  refine ⟨fun a' W' ha' hw' => hK a' W' ⟨hw'.ext.size, fun k o _ hk _ => (hw'.ext.block k (Zm hk)).trans hk⟩ ⟨hw'.ext.bel.mono hi.2.size, fun k o ho _ => (hw'.ext.block _ (Zm ho)).trans ho⟩ (ZhF (Nat.le_refl _) _ W W' none hi (Z4 hw'.ext) (fun r e => by cases e)) ⟨bx, (hw'.mem _ (.head _)).2, ha'.sub sbB⟩⟩
 case body =>
  rintro lo pre x a' W hlw hr hi ⟨bx, hbx, hra⟩ hlt
  obtain ⟨⟨v', hv', hrow, hnil⟩, hBe⟩ := hi
  obtain ⟨o, m, c, hvs⟩ : ∃ o m c, v' = .slice o m c := by
   rcases hrow.2 with ⟨h, _⟩ | ⟨g, cap, _, h, _⟩
   ·exact ⟨_, _, _, h⟩
   ·exact ⟨_, _, _, h⟩
  have f2 := FoC.mk ⟨(0, 0), hv'⟩
  have fx := FoC.mk ⟨(0, 0), hbx⟩
  rw [hvs] at f2
  refine JI.out (r := some lo) (N := 3) (P := Tryz.prog) (w0 := W) (n := 13) (E := [(2, .pointer (some ⟨b2, 0, none⟩)), (5, .pointer (some ⟨bx, 0, none⟩))]) (L := []) ?_ _ W hra (Own.start W)
  refine Za0 ?_
  refine ZaQ ?_
  refine ⟨fun a2 w2 ha2 hw2 => ?_⟩
  refine Za7 [_, _, _] a2 w2 rfl (JO.out (w0 := W) (n := 13) (L := []) ?_ a2 w2 ha2 hw2)
  repeat (refine wkM ?_; try intro _)
  refine Zdj (fun a3 w3 ha3 hw3 => ?_)
  have hbn := (hw3.mem _ (.head _)).2
  refine Zfc (size := 5) (k := pre.length) (m := 1) (base := w.heap.size) (v := v') (xs := rowL Zd pre) (news := rowL Zd [x]) ha3 (by rw [hvs]; rfl) rfl rfl (by decide) (hrow.kept (Z4 hw3.ext) (by rw [hvs]; cases o with | none => exact .inl rfl | some p => exact .inr (fun h => by cases h))) (Zah (k := 5) [x]) (fun j u hu => by rw [ZaA, Zas hbn, Nat.zero_add]; simpa [row] using hu) (ZcJ [x]) (by simp only [maxLen]; omega) ?_ (Nat.le_trans hBe.size hw3.ext.size) (fun v2 w4 hown hgrow => ?_)
  ·omega
  ·obtain ⟨g', cap', hv2⟩ := ownsRow_succ hown
   subst hv2
   obtain ⟨q5, k1, k2, k3⟩ := Znz (x := x) (B := w1.heap.size) hBe.size hBe hv' hrow hw3.ext hown hgrow hb2.1
   refine Zd0 (b := b2) (ha3.put (some 11) _ rfl) rfl rfl q5 (by kernel_rfl) rfl rfl ?_
   exact wpListIn_nil ⟨k1, k2, k3⟩
 case done =>
  rintro D ys W hD hp hi hK
  obtain ⟨⟨v', hv', hrow, hnil⟩, hBe⟩ := hi
  obtain ⟨s, hs1, hs2, hs3⟩ := ZiF hnil hrow
  obtain ⟨o, m, c, hvs⟩ : ∃ o m c, v' = .slice o m c := by
   rcases hrow.2 with ⟨h, _⟩ | ⟨g, cap, _, h, _⟩
   ·exact ⟨_, _, _, h⟩
   ·exact ⟨_, _, _, h⟩
  have f5 := FoC.mk ⟨(0, 0), hv'⟩
  rw [hvs] at f5 hs1
  have hra : Rep 13 [(2, .pointer (some ⟨b2, 0, none⟩))] a := ha.sub sbB
  have hl : YlC Tryz.prog W 13 [] [(2, .pointer (some ⟨b2, 0, none⟩))] (.load 38 (.tmp 2)) (.slice o m c) := inferInstance
  show Code.wpIn (Fr none) 5 _ _ _ _ W
  refine wpIn_seq (wpIn_region_lit ?_)
  refine Zdk (a := a) (L := []) (w0 := W) (hl.out _ _ _ _ _) hra (Own.start W) rfl rfl (fun W2 hx2 => ?_)
  refine Zdk (a := a.put (some 12) (.slice o m c)) (L := []) (w0 := W2) (E := Env.put [(2, .pointer (some ⟨b2, 0, none⟩))] (some 12) (.slice o m c)) (ZdR rfl) (hra.put (some 12) _ rfl) (Own.start W2) rfl rfl (fun W3 hx3 => ?_)
  refine wpListIn_nil ?_
  have hx := hx2.tr hx3
  have hK3 : W3.heap[D]? = some (.deferred (some [])) := (hx.block D (Zm hK)).trans hK
  have hr4 : ((a.put (some 12) (.slice o m c)).put (some 4) (.slice o m c)).tmps[4]? = some (.slice o m c) := ((hra.put (some 12) _ rfl).put (some 4) (.slice o m c) rfl).val 4 _ rfl
  refine wpIn_ret ?_
  refine ⟨by simp, .inl ⟨_, _, rfl, run_takeDeferred hK3, ?_⟩⟩
  rw [ha.defers]
  refine ⟨.slice o m c, ?_, ⟨⟨ys, hp⟩, s⟩, by rw [hs1], ⟨⟨?_, trivial⟩, fun e he => ?_, hs2⟩⟩
  ·rw [results_tmp rfl]
   show Result.ok (Array.getD _ 4 undef) _ = _
   rw [Array.getD_eq_getD_getElem?, hr4]
   rfl
  ·exact (hBe.trans (hx.bel.mono hBe.size)).trans (belowK_b (w := w1) hwd W3 D _ _ hD hK3 rfl rfl)
  ·obtain ⟨h1, h2⟩ := hs3 e he
   have h3 := (hx.block _ (Zm h2)).trans h2
   refine ⟨h1, (World.putObj_heap_other (fun hd => ?_)).trans h3⟩
   rw [hd, hK3] at h3
   simp only at he
   rcases s.cases 122 with ⟨-, -, x2⟩ | ⟨bs, cs, sp, -, -, x2, -⟩
   ·rw [x2] at he
    cases he
   ·rw [x2, List.mem_singleton] at he
    subst he
    cases h3
end Go.Vt
/- The order of units and their sorting, walked. Conditions: those that each statement names. -/
namespace Go.Vt
open Go.RowKit Go.Proofs
def orL : List Int → Int
 | [] => 0
 | x :: r => if x = 0 then orL r else x
theorem ZoK (xs : List Int) (m : Nat) (hm : m < xs.length) : orL (xs.drop m) = if gi xs (m : Int) = 0 then orL (xs.drop (m + 1)) else gi xs (m : Int) := by
 rw [List.drop_eq_getElem_cons hm, orL, Zi hm]
theorem Zmq (b c n : Nat) (xs : List Int) (sp : List Value) (T : TypeId) (hn : n = xs.length) (hl : n ≤ 1099511627776) (w : World) (hw : ∃ fz, w.heap[b]? = some (.cells (row (eI .i64) xs sp) T fz)) :
  Calls Tryz.prog 158 [.slice (some ⟨b, 0, none⟩) n c].toArray w (Ret (.int .i64 (orL xs)) w) := by
 have := FoC.mk hw
 refine Zg Tryz.func158 rfl Tryz.ntmps158 rfl ?_
 repeat (refine wkB ?_; try intro _)
 refine Zq (S := Nat) (fun m => m ≤ n ∧ orL xs = orL (xs.drop m)) (fun m => [(3, .int .i64 0), (6, .slice (some ⟨b, 0, none⟩) n c), (7, .int .i64 n), (8, .int .i64 (m : Nat))]) (fun _ => []) (fun m => n - m) 0 ⟨Nat.zero_le _, by rw [List.drop_zero]⟩ sbB slB (fun m hm => ?_)
 obtain ⟨hm, ho⟩ := hm
 repeat (refine wkB ?_; try intro _)
 refine Zl rfl (fun h => ?_) (fun h => ?_)
 ·have hlt : m < n := by have := of_decide_eq_true h; omega
  have hlp : (m : Int).toNat < xs.length := by omega
  rw [ZoK xs m (by omega)] at ho
  repeat (refine wkB ?_; try intro _)
  by_cases h0 : gi xs (m : Int) = 0
  ·rw [if_pos h0] at ho
   simp only [decide_eq_true h0, Bool.not_true]
   repeat (first | (refine wkB ?_; try intro _) | (refine sC rfl rfl ?_ ?_; focus (exact ⟨by omega, by omega⟩)) | (refine sN rfl rfl ?_ ?_; (focus (exact ⟨by omega, by omega⟩)); intro _; (try simp only [List.cons_append, List.nil_append, List.append_nil])))
   exact Zj (m + 1) ⟨hlt, ho⟩ sbB slB (by omega)
  ·rw [if_neg h0] at ho
   simp only [decide_eq_false h0, Bool.not_false]
   repeat (refine wkB ?_; try intro _)
   rw [ho]
   exact Zf rfl rfl (fun w hw => Zh hw)
 ·have hge : m = n := by have := of_decide_eq_false h; omega
  subst hge
  rw [hn, List.drop_length] at ho
  repeat (refine wkB ?_; try intro _)
  rw [ho]
  exact Zf rfl rfl (fun w hw => Zh hw)
instance ZzU (w0 : World) (L : List Blk) (b c n : Nat) (xs : List Int) (sp : List Value) (T : TypeId) [h : AtC w0 L b (row (eI .i64) xs sp) T] : SpecM Tryz.prog w0 L 158 [.slice (some ⟨b, 0, none⟩) n c] (.int .i64 (orL xs)) (n = xs.length ∧ n ≤ 1099511627776) := ⟨fun hp w hw => Zmq b c n xs sp T hp.1 hp.2 w (h.out w hw)⟩
def opn (I : ZB) : Int := if I.OpenFrom then 1 else 0
instance ZGF (I : ZB) : SpecC Tryz.prog 226 [vIv I] (.int .i64 (opn I)) True := ⟨fun _ w => by
 refine Zg Tryz.func226 rfl Tryz.ntmps226 rfl ?_
 obtain ⟨f, t, o, c⟩ := I
 cases o
 ·repeat (refine wkB ?_; try intro _)
  exact Zf rfl rfl (fun w hw => Zh hw)
 ·repeat (refine wkB ?_; try intro _)
  exact Zf rfl rfl (fun w hw => Zh hw)⟩
structure IvOk (K : Nat) (I : ZB) : Prop where
 r1 : I.From.R = 0
 r2 : I.To.R = 0
 n1 : I.From.Neg = false
 n2 : I.To.Neg = false
 m1 : M I.From.P ≤ K
 m2 : M I.To.P ≤ K
theorem IvOk.mono {K K' : Nat} {I : ZB} (h : IvOk K I) (hk : K ≤ K') : IvOk K' I := ⟨h.r1, h.r2, h.n1, h.n2, Nat.le_trans h.m1 hk, Nat.le_trans h.m2 hk⟩
abbrev BQ : Nat := 8589934592
def cmpU (a b : UL) : Int := orL [cq a.In.From.P b.In.From.P, Lib.compareInt (opn a.In) (opn b.In), cq a.In.To.P b.In.To.P]
instance ZFZ (a b : UL) : SpecC Tryz.prog 225 [vUL a, vUL b] (.int .i64 (cmpU a b)) (IvOk BQ a.In ∧ IvOk BQ b.In) := ⟨fun hp w => by
 obtain ⟨h1, h2⟩ := hp
 refine Zg Tryz.func225 rfl Tryz.ntmps225 rfl ?_
 repeat (refine wkB ?_; try intro _)
 rename_i b2 b3
 (refine Zf8 [([0, 1, 2, 3, 4, 5, 6, 7, 8, 9, 10, 11, 12, 13, 14, 15, 16, 17, 18, 19, 20, 21, 22], [23, 24, 25])] ([⟨b3, rU b, 224⟩, ⟨b2, rU a, 224⟩]) (h := ?_); refine wkP ?_)
 (repeat (first | refine wkH ?_ | (refine tC rfl rfl ?_ ?_; focus (first | exact trivial | exact ⟨⟨h1.r1, h2.r1⟩, Nat.le_trans h1.m1 (by decide), Nat.le_trans h2.m1 (by decide)⟩ | exact ⟨⟨h1.r2, h2.r2⟩, Nat.le_trans h1.m2 (by decide), Nat.le_trans h2.m2 (by decide)⟩))))
 repeat (first | (refine wkT ?_; try intro _) | (refine tC rfl rfl ?_ ?_; focus (exact ⟨rfl, by decide⟩)) | (refine uC rfl rfl ?_ ?_; focus (exact ⟨rfl, by decide⟩)) | (refine eN rfl rfl ?_ ?_; (focus (exact ⟨rfl, by decide⟩)); intro _; (try simp only [List.cons_append, List.nil_append, List.append_nil])))
 repeat (refine wkB ?_; try intro _)
 exact Zf rfl rfl (fun w hw => Zh hw)⟩
def swp (xs : List UL) (j : Nat) : List UL := (xs.set (j + 1) (gi xs (j : Int))).set j (gi xs ((j + 1 : Nat) : Int))
def dwn (xs : List UL) : Nat → List UL
 | 0 => xs
 | j + 1 => if cmpU (gi xs ((j + 1 : Nat) : Int)) (gi xs (j : Int)) < 0 then dwn (swp xs j) j else xs
def srt (xs : List UL) : Nat → List UL
 | 0 => xs
 | i + 1 => dwn (srt xs i) (i + 1)
theorem Zg8 (xs : List UL) (j : Nat) : (swp xs j).length = xs.length := by simp [swp]
theorem Zlq {xs : List UL} {j : Nat} (h : j + 1 < xs.length) {u : UL} (hu : u ∈ swp xs j) : u ∈ xs := by
 unfold swp at hu
 rcases List.mem_or_eq_of_mem_set hu with h1 | h1
 ·rcases List.mem_or_eq_of_mem_set h1 with h2 | h2
  ·exact h2
  ·rw [h2, Zi (by omega)]
   exact List.getElem_mem _
 ·rw [h1, Zi h]
  exact List.getElem_mem _
theorem ZlI : ∀ (j : Nat) (xs : List UL), (dwn xs j).length = xs.length
 | 0, _ => rfl
 | j + 1, xs => by
  rw [dwn]
  split
  ·rw [ZlI j, Zg8]
  ·rfl
theorem ZlB : ∀ (j : Nat) (xs : List UL), j < xs.length → ∀ u ∈ dwn xs j, u ∈ xs
 | 0, _, _, _, h => h
 | j + 1, xs, hj, u, h => by
  rw [dwn] at h
  split at h
  ·exact Zlq hj (ZlB j _ (by rw [Zg8]; omega) u h)
  ·exact h
theorem Zef (xs : List UL) : ∀ i, (srt xs i).length = xs.length
 | 0 => rfl
 | i + 1 => by rw [srt, ZlI, Zef xs i]
theorem Zhu (xs : List UL) : ∀ i, i < xs.length → ∀ u ∈ srt xs i, u ∈ xs
 | 0, _, _, h => h
 | i + 1, hi, u, h => by
  rw [srt] at h
  exact Zhu xs i (by omega) u (ZlB _ _ (by rw [Zef]; exact hi) u h)
theorem ZoI (w0 w : World) (L1 : List Blk) (b c n : Nat) (xs : List UL) (sp : List Value) (T : TypeId) (hn : xs.length = n) (hl : n ≤ 1048576) (hok : ∀ u ∈ xs, IvOk BQ u.In) (hw : Own w0 (⟨b, row rU xs sp, T⟩ :: L1) w) :
  Calls Tryz.prog 309 [.slice (some ⟨b, 0, none⟩) n c, .int .i64 0, .int .i64 n, vFn 225].toArray w (RetX w0 Unit (fun _ => .tuple #[]) (fun _ => ⟨b, row rU (srt xs (n - 1)) sp, T⟩ :: L1)) := by
 refine Z1 Tryz.func309 rfl Tryz.ntmps309 rfl hw ?_
 repeat (refine wkB ?_; try intro _)
 refine Zq (S := Nat) (fun m => m ≤ n - 1) (fun m => [(0, .slice (some ⟨b, 0, none⟩) n c), (1, .int .i64 0), (2, .int .i64 n), (3, vFn 225), (8, .int .i64 ((m + 1 : Nat)))]) (fun m => ⟨b, row rU (srt xs m) sp, T⟩ :: L1) (fun m => n - 1 - m) 0 (Nat.zero_le _) sbB slB (fun m hm => ?_)
 have hsl := Zef xs m
 repeat (refine wkB ?_; try intro _)
 refine Zl rfl (fun h => ?_) (fun h => ?_)
 ·have hlt : m + 1 < n := by have := of_decide_eq_true h; omega
  have hmem := Zhu xs m (by omega)
  repeat (refine wkB ?_; try intro _)
  refine Zq (S := Nat × List UL) (fun s => dwn s.2 s.1 = srt xs (m + 1) ∧ s.2.length = n ∧ s.1 ≤ m + 1 ∧ ∀ u ∈ s.2, IvOk BQ u.In) (fun s => [(0, .slice (some ⟨b, 0, none⟩) n c), (1, .int .i64 0), (2, .int .i64 n), (3, vFn 225), (8, .int .i64 ((m + 1 : Nat))), (9, .int .i64 ((s.1 : Nat)))]) (fun s => ⟨b, row rU s.2 sp, T⟩ :: L1) (fun s => s.1) (m + 1, srt xs m)
   ⟨rfl, by show (srt xs m).length = n; omega, Nat.le_refl _, fun u hu => hok u (hmem u hu)⟩ sbB slB (fun s hs => ?_)
  obtain ⟨j, ys⟩ := s
  obtain ⟨g1, g2, g3, g4⟩ := hs
  simp only at g1 g2 g3 g4 ⊢
  repeat (refine wkB ?_; try intro _)
  rcases j with _ | j
  ·(refine jD 17 17 (h := ?_); (repeat (refine wkH ?_)); refine Zr ?_; (repeat (refine Z6 ?_; intro _)); refine Zt ?_)
   repeat (refine wkB ?_; try intro _)
   exact Zj (m + 1) (by omega) sbB (by rw [← g1]; exact List.Sublist.refl _) (by omega)
  ·have hj1 : ((j : Int)).toNat < ys.length := by omega
   have hj2 : (((j + 1 : Nat) : Int)).toNat < ys.length := by omega
   have e1 : ((j + 1 : Nat) : Int) - 1 = (j : Int) := by omega
   have o1 := g4 _ (by rw [Zi (show j < ys.length by omega)]; exact List.getElem_mem _ : gi ys (j : Int) ∈ ys)
   have o2 := g4 _ (by rw [Zi (show j + 1 < ys.length by omega)]; exact List.getElem_mem _ : gi ys ((j + 1 : Nat) : Int) ∈ ys)
   rw [dwn] at g1
   refine jD 17 17 (h := ?_)
   (repeat (refine wkH ?_))
   simp only [decide_eq_true (show (0 : Int) < ((j + 1 : Nat) : Int) by omega), e1]
   (repeat (refine wkH ?_))
   simp only [e1]
   (repeat (first | refine wkH ?_ | (refine tC rfl rfl ?_ ?_; focus (exact ⟨o2, o1⟩))))
   refine Zr ?_
   refine Zt ?_
   repeat (refine wkB ?_; try intro _)
   by_cases hc : cmpU (gi ys ((j + 1 : Nat) : Int)) (gi ys (j : Int)) < 0
   ·rw [if_pos hc] at g1
    simp only [decide_eq_true hc]
    repeat (refine wkB ?_; try intro _)
    (refine ZfF [(true, [0, 1, 2, 3, 4, 5, 6, 7, 8]), (false, [9]), (true, [10, 11, 12]), (false, [13]), (true, [14])] [15, 16, 17] (h := ?_); refine wkS ?_)
    (repeat (refine wkH ?_))
    simp only [e1]
    refine Zr ?_
    refine eR rfl ?_ ?_
    ·omega
    refine uS rfl rfl ?_ ?_
    ·omega
    refine eR rfl ?_ ?_
    ·rw [List.length_set]; omega
    refine Zbf ?_
    simp only [Int.toNat_natCast]
    repeat (first | (refine wkB ?_; try intro _) | (refine sC rfl rfl ?_ ?_; focus (exact ⟨by omega, by omega⟩)) | (refine sN rfl rfl ?_ ?_; (focus (exact ⟨by omega, by omega⟩)); intro _; (try simp only [List.cons_append, List.nil_append, List.append_nil])))
    simp only [e1]
    exact Zj (j, swp ys j) ⟨g1, by rw [Zg8]; exact g2, by omega, fun u hu => g4 u (Zlq (by omega) hu)⟩ sbB slB (by show j < j + 1; omega)
   ·rw [if_neg hc] at g1
    simp only [decide_eq_false hc]
    repeat (first | (refine wkB ?_; try intro _) | (refine sC rfl rfl ?_ ?_; focus (exact ⟨by omega, by omega⟩)) | (refine sN rfl rfl ?_ ?_; (focus (exact ⟨by omega, by omega⟩)); intro _; (try simp only [List.cons_append, List.nil_append, List.append_nil])))
    exact Zj (m + 1) (by omega) sbB (by rw [← g1]; exact List.Sublist.refl _) (by omega)
 ·have hge : m = n - 1 := by have := of_decide_eq_false h; omega
  subst hge
  repeat (refine wkB ?_; try intro _)
  exact Zam rfl (fun w hw => ⟨(), rfl, hw⟩)
abbrev SrtS (xs : List UL) (s : SlS rU 36 xs) : Type := { s' : SlS rU 36 (srt xs (xs.length - 1)) // vSl s' = vSl s }
theorem ZnR (w0 w : World) (L L1 : List Blk) (xs : List UL) (s : SlS rU 36 xs) (T : TypeId) [hd : OwnS T s L L1] (hl : xs.length ≤ 1048576) (hok : ∀ u ∈ xs, IvOk BQ u.In) (hw : Own w0 L w) :
  Calls Tryz.prog 309 [vSl s, .int .i64 0, .int .i64 xs.length, vFn 225].toArray w (RetX w0 (SrtS xs s) (fun _ => .tuple #[]) (fun s' => mS T s'.1 ++ L1)) := by
 have hw1 := hw.perm hd.out
 rcases s.cases T with ⟨rfl, hv, hm⟩ | ⟨b, c, sp, h1, hv, hm, hne⟩
 ·suffices h : Calls Tryz.prog 309 [.slice none 0 0, .int .i64 0, .int .i64 (([] : List UL).length : Nat), vFn 225].toArray w (RetX w0 (SrtS [] s) (fun _ => .tuple #[]) (fun s' => mS T s'.1 ++ L1)) by
   rw [← hv] at h
   exact h
  refine Z1 Tryz.func309 rfl Tryz.ntmps309 rfl hw1 ?_
  repeat (refine wkB ?_; try intro _)
  refine Zq (S := Unit) (fun _ => True) (fun _ => [(2, .int .i64 (([] : List UL).length : Nat)), (8, .int .i64 1)]) (fun _ => mS T s ++ L1) (fun _ => 0) () trivial sbB slB (fun _ _ => ?_)
  repeat (refine wkB ?_; try intro _)
  simp only [decide_eq_false (show ¬ (1 : Int) < ((([] : List UL).length : Nat) : Int) by simp)]
  repeat (refine wkB ?_; try intro _)
  exact Zam rfl (fun w hw => ⟨⟨s, rfl⟩, rfl, hw⟩)
 ·suffices h : Calls Tryz.prog 309 [.slice (some ⟨b, 0, none⟩) xs.length c, .int .i64 0, .int .i64 xs.length, vFn 225].toArray w (RetX w0 (SrtS xs s) (fun _ => .tuple #[]) (fun s' => mS T s'.1 ++ L1)) by
   rw [← hv] at h
   exact h
  rw [hm] at hw1
  have hsl := Zef xs (xs.length - 1)
  refine (ZoI w0 w L1 b c xs.length xs sp T rfl hl hok hw1).mono fun e w' ⟨_, he, hw'⟩ => ?_
  exact ⟨⟨SlS.at_ b c sp (by rw [hsl]; exact h1) (fun h0 => hne (List.length_eq_zero_iff.1 (by rw [h0, List.length_nil] at hsl; exact hsl.symm))), by rw [hv]; show Value.slice _ (srt xs (xs.length - 1)).length c = _; rw [hsl]⟩, he, hw'⟩
instance ZGL (w0 : World) (L L1 : List Blk) (xs : List UL) (s : SlS rU 36 xs) (T : TypeId) [hd : OwnS T s L L1] : SpecX Tryz.prog w0 L 309 [vSl s, .int .i64 0, .int .i64 xs.length, vFn 225] (SrtS xs s) (fun _ => .tuple #[]) (fun s' => mS T s'.1 ++ L1) (xs.length ≤ 1048576 ∧ ∀ u ∈ xs, IvOk BQ u.In) := ⟨fun hp w hw => ZnR w0 w L L1 xs s T hp.1 hp.2 hw⟩
theorem Zkl (w0 w : World) (L L1 : List Blk) (xs : List UL) (s : SlS rU 36 xs) (T : TypeId) [hd : OwnS T s L L1] (hl : xs.length ≤ 19) (hok : ∀ u ∈ xs, IvOk BQ u.In) (hw : Own w0 L w) :
  Calls Tryz.prog 273 [vSl s, .int .i64 xs.length, vFn 225].toArray w (RetX w0 (SrtS xs s) (fun _ => .tuple #[]) (fun s' => mS T s'.1 ++ L1)) := by
 refine Z1 Tryz.func273 rfl Tryz.ntmps273 rfl hw ?_
 repeat (refine wkB ?_; try intro _)
 refine Zq (S := Unit) (fun _ => True) (fun _ => [(0, vSl s), (1, .int .i64 xs.length), (2, vFn 225), (6, .int .i64 20), (7, .int .i64 0), (8, .int .i64 20)]) (fun _ => L) (fun _ => 0) () trivial sbB slB (fun _ _ => ?_)
 repeat (refine wkB ?_; try intro _)
 simp only [decide_eq_false (show ¬ (20 : Int) ≤ (xs.length : Int) by omega)]
 repeat (refine wkB ?_; try intro _)
 refine sZ rfl rfl ?_ ?_
 ·exact ⟨by omega, hok⟩
 intro s'
 repeat (refine wkB ?_; try intro _)
 refine Zq (S := Unit) (fun _ => True) (fun _ => [(1, .int .i64 xs.length), (6, .int .i64 20)]) (fun _ => mS T s'.1 ++ L1) (fun _ => 0) () trivial sbB slB (fun _ _ => ?_)
 repeat (refine wkB ?_; try intro _)
 simp only [decide_eq_false (show ¬ (20 : Int) < (xs.length : Int) by omega)]
 repeat (refine wkB ?_; try intro _)
 exact Zam rfl (fun w hw => ⟨s', rfl, hw⟩)
instance Zyc (w0 : World) (L L1 : List Blk) (xs : List UL) (s : SlS rU 36 xs) (T : TypeId) [hd : OwnS T s L L1] : SpecX Tryz.prog w0 L 273 [vSl s, .int .i64 xs.length, vFn 225] (SrtS xs s) (fun _ => .tuple #[]) (fun s' => mS T s'.1 ++ L1) (xs.length ≤ 19 ∧ ∀ u ∈ xs, IvOk BQ u.In) := ⟨fun hp w hw => Zkl w0 w L L1 xs s T hp.1 hp.2 hw⟩
theorem ZgA (w0 w : World) (L L1 : List Blk) (xs : List UL) (s : SlS rU 36 xs) (T : TypeId) [hd : OwnS T s L L1] (hl : xs.length ≤ 19) (hok : ∀ u ∈ xs, IvOk BQ u.In) (hw : Own w0 L w) :
  Calls Tryz.prog 224 [vSl s, vFn 225].toArray w (RetX w0 (SrtS xs s) (fun _ => .tuple #[]) (fun s' => mS T s'.1 ++ L1)) := by
 refine Z1 Tryz.func224 rfl Tryz.ntmps224 rfl hw ?_
 repeat (refine wkB ?_; try intro _)
 refine sZ rfl rfl ?_ ?_
 ·exact ⟨hl, hok⟩
 intro s'
 repeat (refine wkB ?_; try intro _)
 exact Zam rfl (fun w hw => ⟨s', rfl, hw⟩)
instance Zss (w0 : World) (L L1 : List Blk) (xs : List UL) (s : SlS rU 36 xs) (T : TypeId) [hd : OwnS T s L L1] : SpecX Tryz.prog w0 L 224 [vSl s, vFn 225] (SrtS xs s) (fun _ => .tuple #[]) (fun s' => mS T s'.1 ++ L1) (xs.length ≤ 19 ∧ ∀ u ∈ xs, IvOk BQ u.In) := ⟨fun hp w hw => ZgA w0 w L L1 xs s T hp.1 hp.2 hw⟩
end Go.Vt
/- The order of exchanges. Conditions: those that each statement names. -/
namespace Go.Vt
open Go.RowKit Go.Proofs
def fldE (x : Za) : List Int := [x.From, x.To, x.Sent, x.Received, x.Least]
theorem ZpE {a b : Za} (h : fldE a = fldE b) : a = b := by
 obtain ⟨a1, a2, a3, a4, a5⟩ := a
 obtain ⟨b1, b2, b3, b4, b5⟩ := b
 simp only [fldE, List.cons.injEq, and_true] at h
 obtain ⟨rfl, rfl, rfl, rfl, rfl⟩ := h
 rfl
def cmpEx (a b : Za) : Int := lexC (fldE a) (fldE b)
abbrev ExOk (_ : Za) : Prop := True
theorem Zrp (a1 a2 a3 a4 a5 b1 b2 b3 b4 b5 : Int) : orL [Lib.compareInt a1 b1, Lib.compareInt a2 b2, Lib.compareInt a3 b3, Lib.compareInt a4 b4, Lib.compareInt a5 b5] = lexC [a1, a2, a3, a4, a5] [b1, b2, b3, b4, b5] := by
 simp only [orL, Zh0]
 have e : lexC [] [] = 0 := rfl
 rw [e]
 repeat' split
 all_goals first | rfl | omega
instance ZAp (a b : Za) : SpecC Tryz.prog 207 [.agg (Zd a), .agg (Zd b)] (.int .i64 (cmpEx a b)) (ExOk a ∧ ExOk b) := ⟨fun _ w => by
 have he : cmpEx a b = orL [Lib.compareInt a.From b.From, Lib.compareInt a.To b.To, Lib.compareInt a.Sent b.Sent, Lib.compareInt a.Received b.Received, Lib.compareInt a.Least b.Least] := (Zrp _ _ _ _ _ _ _ _ _ _).symm
 rw [he]
 refine Zg Tryz.func207 rfl Tryz.ntmps207 rfl ?_
 repeat (refine wkB ?_; try intro _)
 rename_i b2 b3
 (refine Zf8 [([0, 1, 2, 3, 4, 5, 6, 7, 8, 9, 10, 11, 12, 13, 14, 15, 16, 17, 18, 19, 20, 21, 22, 23, 24], [25, 26, 27])] ([⟨b3, Zd b, 122⟩, ⟨b2, Zd a, 122⟩]) (h := ?_); refine wkP ?_)
 (repeat (refine wkH ?_))
 repeat (first | (refine wkT ?_; try intro _) | (refine tC rfl rfl ?_ ?_; focus (exact ⟨rfl, by decide⟩)) | (refine uC rfl rfl ?_ ?_; focus (exact ⟨rfl, by decide⟩)) | (refine eN rfl rfl ?_ ?_; (focus (exact ⟨rfl, by decide⟩)); intro _; (try simp only [List.cons_append, List.nil_append, List.append_nil])))
 repeat (refine wkB ?_; try intro _)
 exact Zf rfl rfl (fun w hw => Zh hw)⟩
end Go.Vt
/- Sorting, walked. Conditions: those that each statement names. -/
namespace Go.Vt
open Go.RowKit Go.Proofs
def swpEx (xs : List Za) (j : Nat) : List Za := (xs.set (j + 1) (gi xs (j : Int))).set j (gi xs ((j + 1 : Nat) : Int))
def dwnEx (xs : List Za) : Nat → List Za
 | 0 => xs
 | j + 1 => if cmpEx (gi xs ((j + 1 : Nat) : Int)) (gi xs (j : Int)) < 0 then dwnEx (swpEx xs j) j else xs
def srtEx (xs : List Za) : Nat → List Za
 | 0 => xs
 | i + 1 => dwnEx (srtEx xs i) (i + 1)
theorem Zfb (xs : List Za) (j : Nat) : (swpEx xs j).length = xs.length := by simp [swpEx]
theorem Zia {xs : List Za} {j : Nat} (h : j + 1 < xs.length) {u : Za} (hu : u ∈ swpEx xs j) : u ∈ xs := by
 unfold swpEx at hu
 rcases List.mem_or_eq_of_mem_set hu with h1 | h1
 ·rcases List.mem_or_eq_of_mem_set h1 with h2 | h2
  ·exact h2
  ·rw [h2, Zi (by omega)]
   exact List.getElem_mem _
 ·rw [h1, Zi h]
  exact List.getElem_mem _
theorem Zh8 : ∀ (j : Nat) (xs : List Za), (dwnEx xs j).length = xs.length
 | 0, _ => rfl
 | j + 1, xs => by
  rw [dwnEx]
  split
  ·rw [Zh8 j, Zfb]
  ·rfl
theorem ZhE : ∀ (j : Nat) (xs : List Za), j < xs.length → ∀ u ∈ dwnEx xs j, u ∈ xs
 | 0, _, _, _, h => h
 | j + 1, xs, hj, u, h => by
  rw [dwnEx] at h
  split at h
  ·exact Zia hj (ZhE j _ (by rw [Zfb]; omega) u h)
  ·exact h
theorem Zc3 (xs : List Za) : ∀ i, (srtEx xs i).length = xs.length
 | 0 => rfl
 | i + 1 => by rw [srtEx, Zh8, Zc3 xs i]
theorem ZhN (xs : List Za) : ∀ i, i < xs.length → ∀ u ∈ srtEx xs i, u ∈ xs
 | 0, _, _, h => h
 | i + 1, hi, u, h => by
  rw [srtEx] at h
  exact ZhN xs i (by omega) u (ZhE _ _ (by rw [Zc3]; exact hi) u h)
theorem ZmK (w0 w : World) (L1 : List Blk) (b c n : Nat) (xs : List Za) (sp : List Value) (T : TypeId) (hn : xs.length = n) (hl : n ≤ 1048576) (hok : ∀ u ∈ xs, ExOk u) (hw : Own w0 (⟨b, row Zd xs sp, T⟩ :: L1) w) :
  Calls Tryz.prog 324 [.slice (some ⟨b, 0, none⟩) n c, .int .i64 0, .int .i64 n, vFn 207].toArray w (RetX w0 Unit (fun _ => .tuple #[]) (fun _ => ⟨b, row Zd (srtEx xs (n - 1)) sp, T⟩ :: L1)) := by
 refine Z1 Tryz.func324 rfl Tryz.ntmps324 rfl hw ?_
 repeat (refine wkB ?_; try intro _)
 refine Zq (S := Nat) (fun m => m ≤ n - 1) (fun m => [(0, .slice (some ⟨b, 0, none⟩) n c), (1, .int .i64 0), (2, .int .i64 n), (3, vFn 207), (8, .int .i64 ((m + 1 : Nat)))]) (fun m => ⟨b, row Zd (srtEx xs m) sp, T⟩ :: L1) (fun m => n - 1 - m) 0 (Nat.zero_le _) sbB slB (fun m hm => ?_)
 have hsl := Zc3 xs m
 repeat (refine wkB ?_; try intro _)
 refine Zl rfl (fun h => ?_) (fun h => ?_)
 ·have hlt : m + 1 < n := by have := of_decide_eq_true h; omega
  have hmem := ZhN xs m (by omega)
  repeat (refine wkB ?_; try intro _)
  refine Zq (S := Nat × List Za) (fun s => dwnEx s.2 s.1 = srtEx xs (m + 1) ∧ s.2.length = n ∧ s.1 ≤ m + 1 ∧ ∀ u ∈ s.2, ExOk u) (fun s => [(0, .slice (some ⟨b, 0, none⟩) n c), (1, .int .i64 0), (2, .int .i64 n), (3, vFn 207), (8, .int .i64 ((m + 1 : Nat))), (9, .int .i64 ((s.1 : Nat)))]) (fun s => ⟨b, row Zd s.2 sp, T⟩ :: L1) (fun s => s.1) (m + 1, srtEx xs m)
   ⟨rfl, by show (srtEx xs m).length = n; omega, Nat.le_refl _, fun u hu => hok u (hmem u hu)⟩ sbB slB (fun s hs => ?_)
  obtain ⟨j, ys⟩ := s
  obtain ⟨g1, g2, g3, g4⟩ := hs
  simp only at g1 g2 g3 g4 ⊢
  repeat (refine wkB ?_; try intro _)
  rcases j with _ | j
  ·(refine jD 17 17 (h := ?_); (repeat (refine wkH ?_)); refine Zr ?_; (repeat (refine Z6 ?_; intro _)); refine Zt ?_)
   repeat (refine wkB ?_; try intro _)
   exact Zj (m + 1) (by omega) sbB (by rw [← g1]; exact List.Sublist.refl _) (by omega)
  ·have hj1 : ((j : Int)).toNat < ys.length := by omega
   have hj2 : (((j + 1 : Nat) : Int)).toNat < ys.length := by omega
   have e1 : ((j + 1 : Nat) : Int) - 1 = (j : Int) := by omega
   have o1 := g4 _ (by rw [Zi (show j < ys.length by omega)]; exact List.getElem_mem _ : gi ys (j : Int) ∈ ys)
   have o2 := g4 _ (by rw [Zi (show j + 1 < ys.length by omega)]; exact List.getElem_mem _ : gi ys ((j + 1 : Nat) : Int) ∈ ys)
   rw [dwnEx] at g1
   refine jD 17 17 (h := ?_)
   (repeat (refine wkH ?_))
   simp only [decide_eq_true (show (0 : Int) < ((j + 1 : Nat) : Int) by omega), e1]
   (repeat (refine wkH ?_))
   simp only [e1]
   (repeat (first | refine wkH ?_ | (refine tC rfl rfl ?_ ?_; focus (exact ⟨o2, o1⟩))))
   refine Zr ?_
   refine Zt ?_
   repeat (refine wkB ?_; try intro _)
   by_cases hc : cmpEx (gi ys ((j + 1 : Nat) : Int)) (gi ys (j : Int)) < 0
   ·rw [if_pos hc] at g1
    simp only [decide_eq_true hc]
    repeat (refine wkB ?_; try intro _)
    (refine ZfF [(true, [0, 1, 2, 3, 4, 5, 6, 7, 8]), (false, [9]), (true, [10, 11, 12]), (false, [13]), (true, [14])] [15, 16, 17] (h := ?_); refine wkS ?_)
    (repeat (refine wkH ?_))
    simp only [e1]
    refine Zr ?_
    refine eR rfl ?_ ?_
    ·omega
    refine uS rfl rfl ?_ ?_
    ·omega
    refine eR rfl ?_ ?_
    ·rw [List.length_set]; omega
    refine Zbf ?_
    simp only [Int.toNat_natCast]
    repeat (first | (refine wkB ?_; try intro _) | (refine sC rfl rfl ?_ ?_; focus (exact ⟨by omega, by omega⟩)) | (refine sN rfl rfl ?_ ?_; (focus (exact ⟨by omega, by omega⟩)); intro _; (try simp only [List.cons_append, List.nil_append, List.append_nil])))
    simp only [e1]
    exact Zj (j, swpEx ys j) ⟨g1, by rw [Zfb]; exact g2, by omega, fun u hu => g4 u (Zia (by omega) hu)⟩ sbB slB (by show j < j + 1; omega)
   ·rw [if_neg hc] at g1
    simp only [decide_eq_false hc]
    repeat (first | (refine wkB ?_; try intro _) | (refine sC rfl rfl ?_ ?_; focus (exact ⟨by omega, by omega⟩)) | (refine sN rfl rfl ?_ ?_; (focus (exact ⟨by omega, by omega⟩)); intro _; (try simp only [List.cons_append, List.nil_append, List.append_nil])))
    exact Zj (m + 1) (by omega) sbB (by rw [← g1]; exact List.Sublist.refl _) (by omega)
 ·have hge : m = n - 1 := by have := of_decide_eq_false h; omega
  subst hge
  repeat (refine wkB ?_; try intro _)
  exact Zam rfl (fun w hw => ⟨(), rfl, hw⟩)
abbrev SrtSEx (xs : List Za) (s : SlS Zd 5 xs) : Type := { s' : SlS Zd 5 (srtEx xs (xs.length - 1)) // vSl s' = vSl s }
theorem Zka (w0 w : World) (L L1 : List Blk) (xs : List Za) (s : SlS Zd 5 xs) (T : TypeId) [hd : OwnS T s L L1] (hl : xs.length ≤ 1048576) (hok : ∀ u ∈ xs, ExOk u) (hw : Own w0 L w) :
  Calls Tryz.prog 324 [vSl s, .int .i64 0, .int .i64 xs.length, vFn 207].toArray w (RetX w0 (SrtSEx xs s) (fun _ => .tuple #[]) (fun s' => mS T s'.1 ++ L1)) := by
 have hw1 := hw.perm hd.out
 rcases s.cases T with ⟨rfl, hv, hm⟩ | ⟨b, c, sp, h1, hv, hm, hne⟩
 ·suffices h : Calls Tryz.prog 324 [.slice none 0 0, .int .i64 0, .int .i64 (([] : List Za).length : Nat), vFn 207].toArray w (RetX w0 (SrtSEx [] s) (fun _ => .tuple #[]) (fun s' => mS T s'.1 ++ L1)) by
   rw [← hv] at h
   exact h
  refine Z1 Tryz.func324 rfl Tryz.ntmps324 rfl hw1 ?_
  repeat (refine wkB ?_; try intro _)
  refine Zq (S := Unit) (fun _ => True) (fun _ => [(2, .int .i64 (([] : List Za).length : Nat)), (8, .int .i64 1)]) (fun _ => mS T s ++ L1) (fun _ => 0) () trivial sbB slB (fun _ _ => ?_)
  repeat (refine wkB ?_; try intro _)
  simp only [decide_eq_false (show ¬ (1 : Int) < ((([] : List Za).length : Nat) : Int) by simp)]
  repeat (refine wkB ?_; try intro _)
  exact Zam rfl (fun w hw => ⟨⟨s, rfl⟩, rfl, hw⟩)
 ·suffices h : Calls Tryz.prog 324 [.slice (some ⟨b, 0, none⟩) xs.length c, .int .i64 0, .int .i64 xs.length, vFn 207].toArray w (RetX w0 (SrtSEx xs s) (fun _ => .tuple #[]) (fun s' => mS T s'.1 ++ L1)) by
   rw [← hv] at h
   exact h
  rw [hm] at hw1
  have hsl := Zc3 xs (xs.length - 1)
  refine (ZmK w0 w L1 b c xs.length xs sp T rfl hl hok hw1).mono fun e w' ⟨_, he, hw'⟩ => ?_
  exact ⟨⟨SlS.at_ b c sp (by rw [hsl]; exact h1) (fun h0 => hne (List.length_eq_zero_iff.1 (by rw [h0, List.length_nil] at hsl; exact hsl.symm))), by rw [hv]; show Value.slice _ (srtEx xs (xs.length - 1)).length c = _; rw [hsl]⟩, he, hw'⟩
instance ZAA (w0 : World) (L L1 : List Blk) (xs : List Za) (s : SlS Zd 5 xs) (T : TypeId) [hd : OwnS T s L L1] : SpecX Tryz.prog w0 L 324 [vSl s, .int .i64 0, .int .i64 xs.length, vFn 207] (SrtSEx xs s) (fun _ => .tuple #[]) (fun s' => mS T s'.1 ++ L1) (xs.length ≤ 1048576 ∧ ∀ u ∈ xs, ExOk u) := ⟨fun hp w hw => Zka w0 w L L1 xs s T hp.1 hp.2 hw⟩
end Go.Vt
