/- that objects are reconstructed from their reports (part 24 of 29.) Conditions: those that each statement names. -/
import Derived.Test.YtjicdlilgjdefaaGreatDoorKJ22
import Derived.Test.YtjicdlilgjdefaaGreatDoorKJ23
set_option linter.unusedSimpArgs false
set_option linter.unusedVariables false
set_option maxHeartbeats 2000000
set_option maxRecDepth 100000
namespace Go.Vt
open Go.RowKit Go.Proofs
open Go.Proofs.Tryz (prog)
section
abbrev vSlc (s : Sl) : Value := .slice s.a s.len s.cap
def tot {α : Type} : List (List α) → Nat
 | [] => 0
 | a :: l => a.length + tot l
theorem ZeS {α : Type} : ∀ (l m : List (List α)), tot (l ++ m) = tot l + tot m
 | [], _ => by simp [tot]
 | a :: l, m => by rw [Wf, tot, tot, ZeS l m, Nat.add_assoc]
structure WldIn (w : World) (sl : Sl) (ls : List ZU) (ps : List (List Png)) (cs : List (List Cll)) : Prop where
 a : ArgS w (vSlc sl) Zam ls
 np : ls.length = ps.length
 nc : ls.length = cs.length
 p : ∀ i : Nat, i < ls.length → ArgS w (vSlc (gi ls (i : Int)).Pings) ePng (gi ps (i : Int))
 c : ∀ i : Nat, i < ls.length → ArgS w (vSlc (gi ls (i : Int)).Calls) eCll (gi cs (i : Int))
 pk : ∀ l ∈ ps, ∀ x ∈ l, PngOk x
 ck : ∀ l ∈ cs, ∀ x ∈ l, CllOk x
 s : ps.length ≤ 140737488355328 ∧ (∀ l ∈ ps, l.length ≤ 140737488355328) ∧ ∀ l ∈ cs, l.length ≤ 140737488355328
theorem WldIn.to {w w' : World} {sl : Sl} {ls : List ZU} {ps : List (List Png)} {cs : List (List Cll)} (h : WldIn w sl ls ps cs) (he : Ext w w') : WldIn w' sl ls ps cs :=
 ⟨h.a.to he, h.np, h.nc, fun i hi => (h.p i hi).to he, fun i hi => (h.c i hi).to he, h.pk, h.ck, h.s⟩
class WldC (w0 : World) (sl : Sl) (ls : outParam (List ZU)) (ps : outParam (List (List Png))) (cs : outParam (List (List Cll))) : Prop where
 out : WldIn w0 sl ls ps cs
theorem ZdV {α : Type} {l : List (List α)} {i : Nat} (h : i < l.length) : tot (l.take (i + 1)) = tot (l.take i) + (gi l (i : Int)).length := by
 rw [Wn h, Zk h, ZeS]
 rfl
theorem Zco {α : Type} (l : List (List α)) (i : Nat) : tot (l.take i) ≤ tot l := by
 have h := ZeS (l.take i) (l.drop i)
 rw [List.take_append_drop] at h
 omega
theorem Zox {α : Type} {l : List (List α)} {i : Nat} (h : i < l.length) : (gi l (i : Int)).length ≤ tot l := by
 have h1 := ZdV h
 have h2 := Zco l (i + 1)
 omega
theorem ZhD {α : Type} {b : Nat} : ∀ {l : List (List α)}, (∀ x ∈ l, x.length ≤ b) → tot l ≤ l.length * b
 | [], _ => Wm _
 | a :: l, h => by
  have h1 := h a (.head _)
  have h2 := ZhD (l := l) (b := b) fun x hx => h x (.tail _ hx)
  rw [tot, Wu, Nat.add_mul]
  omega
def shB (ps : List (List Png)) (cs : List (List Cll)) : Bool := decide (ps.length ≤ 4) && decide (tot ps ≤ 12) && decide (tot cs ≤ 6)
set_option maxHeartbeats 8000000 in
theorem ZkA (sl : Sl) (a b : Int) (ls : List ZU) (ps : List (List Png)) (cs : List (List Cll)) (w : World) (h : WldIn w sl ls ps cs) :
  Calls prog 11 [.agg (ZK ⟨sl, a, b⟩)].toArray w (Ret (.bool (shB ps cs)) w) := by
 obtain ⟨sa, sn, sc⟩ := sl
 obtain ⟨p0, c0, hf1⟩ := h.a.form
 injection hf1 with f1 f2 f3
 dsimp only at f1 f2 f3
 subst f1 f2 f3
 have hav := ArgC.mk h.a
 have hn := h.np
 have hn2 := h.nc
 have hs := h.s
 have hs1 := hs.1
 by_cases hs4 : ls.length ≤ 4
 ·have m1 := ZhD hs.2.1
  have m2 := ZhD hs.2.2
  have m3 : tot ps ≤ 4 * 140737488355328 := Wi m1 (Nat.mul_le_mul_right _ (by omega))
  have m4 : tot cs ≤ 4 * 140737488355328 := Wi m2 (Nat.mul_le_mul_right _ (by omega))
  refine Zg Tryz.func11 rfl Tryz.ntmps11 rfl ?_
  repeat (refine wkM ?_; intros)
  rename_i b1
  refine Zq (S := Nat) (fun m => m ≤ ls.length) (fun m => [(1, .pointer (some ⟨b1, 0, none⟩)), (3, .int .i64 (tot (ps.take m) : Nat)), (4, .int .i64 (tot (cs.take m) : Nat)), (5, .int .i64 (m : Nat))]) (fun _ => [⟨b1, ZK ⟨⟨sa, ls.length, sc⟩, a, b⟩, 24⟩]) (fun m => ls.length - m) 0 (Wm _) sbB slB (fun m hm => ?_)
  have q1 := Zco ps m
  have q2 := Zco cs m
  repeat (refine wkM ?_; intros)
  refine Zn rfl (fun h1 => ?_) (fun h1 => ?_)
  ·try dsimp only at h1
   have hlt : m < ls.length := by have := Wa h1; omega
   have hne : ls ≠ [] := fun h0 => by rw [h0] at hlt; simp at hlt
   obtain ⟨bw, ow, cw, hvw, hcw, -⟩ := h.a.blk (k := 1) hne []
   injection hvw with x1 x2 x3
   subst x1
   have hrow' : ∀ L, RowC w L bw ow ZU Zam ls := fun L => by
    obtain ⟨bv, ov, cv, hvv, -, hrow⟩ := h.a.blk (k := 1) hne L
    injection hvv with y1 y2 y3
    injection y1 with y1
    injection y1 with y4 y5
    subst y4 y5
    exact hrow
   have t1 := ZdV (l := ps) (i := m) (by omega)
   have t2 := ZdV (l := cs) (i := m) (by omega)
   have t3 := Zco ps (m + 1)
   have t4 := Zco cs (m + 1)
   obtain ⟨pp, pc, hp⟩ := (h.p m hlt).form
   obtain ⟨cp, cc, hc⟩ := (h.c m hlt).form
   have hpl : (gi ls (m : Int)).Pings.len = (gi ps (m : Int)).length := by injection hp
   have hcl : (gi ls (m : Int)).Calls.len = (gi cs (m : Int)).length := by injection hc
   repeat (refine wkM ?_; intros)
   (refine Zao (.v [0, 1, 2, 3, 4, 5, 6, 7, 8, 9, 10, 11, 12, 13, 14, 15, 16, 17] (.e1 18 (.e1 19 (.fin)))) (_) (h := ?_); refine wkX ?_)
   (repeat (refine wkH ?_))
   dsimp only
   (repeat (refine wkH ?_))
   simp only [hpl]
   (repeat (first | refine wkH ?_ | (refine tC rfl rfl ?_ ?_; focus (exact ⟨by omega, by omega⟩))))
   try dsimp only
   (repeat (refine wkH ?_))
   simp only [hcl]
   (repeat (first | refine wkH ?_ | (refine tC rfl rfl ?_ ?_; focus (exact ⟨by omega, by omega⟩))))
   repeat (refine wkT ?_; intros)
   repeat (refine wkO ?_; intros)
   exact Zj (m + 1) hlt (by rw [t1, t2]; exact sbB) slB (by omega)
  ·try dsimp only at h1
   have hge : m = ls.length := by have := Wb h1; omega
   subst hge
   rw [List.take_of_length_le (by omega), List.take_of_length_le (by omega)]
   repeat (refine wkM ?_; intros)
   have c1 : (ls.length : Int) ≤ 4 := by omega
   by_cases c2 : ((tot ps : Nat) : Int) ≤ 12 <;> by_cases c3 : ((tot cs : Nat) : Int) ≤ 6
   all_goals
    simp only [Wc c1]
    repeat (refine wkM ?_; intros)
    try (first | simp only [We c2] | simp only [Wc c2])
    repeat (refine wkM ?_; intros)
    try (first | simp only [We c3] | simp only [Wc c3])
    repeat (refine wkM ?_; intros)
    have e : shB ps cs = (decide (ls.length ≤ 4) && decide (tot ps ≤ 12) && decide (tot cs ≤ 6)) := by unfold shB; rw [hn]
    rw [e]
    rw [Wc (show ls.length ≤ 4 by omega)]
    first | rw [Wc (show tot ps ≤ 12 by omega)] | rw [We (show ¬ tot ps ≤ 12 by omega)]
    first | rw [Wc (show tot cs ≤ 6 by omega)] | rw [We (show ¬ tot cs ≤ 6 by omega)]
    try simp only [Bool.and_true, Bool.true_and, Bool.and_false, Bool.false_and]
    exact Zf rfl rfl (fun w hw => Zi hw)
 ·refine Zg Tryz.func11 rfl Tryz.ntmps11 rfl ?_
  repeat (refine wkM ?_; intros)
  rename_i b1
  refine Zq (S := Nat × Int × Int) (fun q => q.1 ≤ ls.length) (fun q => [(1, .pointer (some ⟨b1, 0, none⟩)), (3, .int .i64 q.2.1), (4, .int .i64 q.2.2), (5, .int .i64 (q.1 : Nat))]) (fun _ => [⟨b1, ZK ⟨⟨sa, ls.length, sc⟩, a, b⟩, 24⟩]) (fun q => ls.length - q.1) (0, 0, 0) (Wm _) sbB slB (fun q hm => ?_)
  obtain ⟨m, x, y⟩ := q
  simp only at hm ⊢
  repeat (refine wkM ?_; intros)
  refine Zn rfl (fun h1 => ?_) (fun h1 => ?_)
  ·try dsimp only at h1
   have hlt : m < ls.length := by have := Wa h1; omega
   have hne : ls ≠ [] := fun h0 => by rw [h0] at hlt; simp at hlt
   obtain ⟨bw, ow, cw, hvw, hcw, -⟩ := h.a.blk (k := 1) hne []
   injection hvw with x1 x2 x3
   subst x1
   have hrow' : ∀ L, RowC w L bw ow ZU Zam ls := fun L => by
    obtain ⟨bv, ov, cv, hvv, -, hrow⟩ := h.a.blk (k := 1) hne L
    injection hvv with y1 y2 y3
    injection y1 with y1
    injection y1 with y4 y5
    subst y4 y5
    exact hrow
   repeat (refine wkM ?_; intros)
   (refine Zao (.v [0, 1, 2, 3, 4, 5, 6, 7, 8, 9, 10, 11, 12, 13, 14, 15, 16, 17] (.e1 18 (.e1 19 (.fin)))) (_) (h := ?_); refine wkX ?_)
   (repeat (refine wkH ?_))
   try dsimp only
   (repeat (refine wkH ?_))
   try dsimp only
   (repeat (refine wkH ?_))
   repeat (refine wkT ?_; intros)
   repeat (refine wkO ?_; intros)
   exact Zj (m + 1, _, _) hlt sbB slB (by show ls.length - (m + 1) < ls.length - m; omega)
  ·try dsimp only at h1
   repeat (refine wkM ?_; intros)
   simp only [We (show ¬ ((ls.length : Nat) : Int) ≤ 4 by omega)]
   repeat (refine wkM ?_; intros)
   have e : shB ps cs = false := by
    unfold shB
    rw [We (show ¬ ps.length ≤ 4 by omega), Bool.false_and, Bool.false_and]
   rw [e]
   exact Zf rfl rfl (fun w hw => Zi hw)
instance ZC0 (w0 : World) (L : List Blk) (sl : Sl) (a b : Int) (ls : List ZU) (ps : List (List Png)) (cs : List (List Cll)) [h : WldC w0 sl ls ps cs] : SpecM prog w0 L 11 [.agg (ZK ⟨sl, a, b⟩)] (.bool (shB ps cs)) True := ⟨fun _ w hw => ZkA sl a b ls ps cs w (h.out.to hw.ext)⟩
structure BD where
 rs : List Zb
 r : SlS Zd 8 rs
 es : List Za
 e : SlS Ze 5 es
def BD.hd (d : BD) : ZaC := ⟨slH d.r, slH d.e⟩
def BD.mm (d : BD) : List Blk := mS 35 d.r ++ mS 122 d.e
def bdM (ds : List BD) : List Blk := ds.flatMap BD.mm
structure BatO (bs : List (List Zb × List Za)) where
 dn : List BD
 o : SlS Zs 2 (dn.map BD.hd)
 e : dn.map (fun d => (d.rs, d.es)) = bs
def BatO.mem {bs : List (List Zb × List Za)} (s : BatO bs) : List Blk := mS 40 s.o ++ bdM s.dn
structure BatA (w : World) (v : Value) (bs : List (List Zb × List Za)) : Prop where
 ex : ∃ hs : List ZaC, ArgS w v Zs hs ∧ hs.length = bs.length ∧ (∀ i : Nat, i < hs.length → ArgS w (vSlc (gi hs (i : Int)).Reports) Zd (gi bs (i : Int)).1) ∧ ∀ i : Nat, i < hs.length → ArgS w (vSlc (gi hs (i : Int)).Exchanges) Ze (gi bs (i : Int)).2
class BatC (w0 : World) (L : List Blk) (v : Value) (bs : outParam (List (List Zb × List Za))) : Prop where
 out : ∀ w, Own w0 L w → BatA w v bs
theorem ZfT {α : Type} {enc : α → Array Value} {k : Nat} {xs : List α} (s : SlS enc k xs) : vSlc (slH s) = vSl s := (Za0 s).symm
theorem ZrU {ds : List BD} {d : BD} (h : d ∈ ds) : d.mm.Sublist (bdM ds) := by
 unfold bdM
 induction ds with
 | nil => cases h
 | cons a ds ih =>
  rw [List.flatMap_cons]
  rcases List.mem_cons.1 h with rfl | h
  ·exact List.sublist_append_left _ _
  ·exact (ih h).trans (List.sublist_append_right _ _)
theorem BatO.reads {w0 w : World} {bs : List (List Zb × List Za)} (s : BatO bs) (hw : Own w0 s.mem w) : BatA w (vSl s.o) bs := by
 have hL : LstC w0 s.mem (vSl s.o) ZaC Zs (s.dn.map BD.hd) := by
  unfold BatO.mem
  infer_instance
 obtain ⟨dn, o, rfl⟩ := s
 have hr : ∀ d ∈ dn, ArgS w (vSl d.r) Zd d.rs ∧ ArgS w (vSl d.e) Ze d.es := fun d hd => by
  have h1 : d.mm.Sublist (mS 40 o ++ bdM dn) := (ZrU hd).trans (List.sublist_append_right _ _)
  have h2 := hw.sub h1
  have i1 : LstC w0 d.mm (vSl d.r) Zb Zd d.rs := by unfold BD.mm; infer_instance
  have i2 : LstC w0 d.mm (vSl d.e) Za Ze d.es := by unfold BD.mm; infer_instance
  exact ⟨i1.out w h2, i2.out w h2⟩
 refine ⟨dn.map BD.hd, hL.out w hw, by rw [Ws, Ws], fun i hi => ?_, fun i hi => ?_⟩
 ·have hi' : i < dn.length := by rw [Ws] at hi; exact hi
  rw [Zk hi, Zk (by rw [Ws]; exact hi'), List.getElem_map, List.getElem_map]
  show ArgS w (vSlc (slH dn[i].r)) _ _
  rw [ZfT]
  exact (hr _ (List.getElem_mem hi')).1
 ·have hi' : i < dn.length := by rw [Ws] at hi; exact hi
  rw [Zk hi, Zk (by rw [Ws]; exact hi'), List.getElem_map, List.getElem_map]
  show ArgS w (vSlc (slH dn[i].e)) _ _
  rw [ZfT]
  exact (hr _ (List.getElem_mem hi')).2
end
section
instance (priority := 30000) ZD3 {rs : List Zb} (r : SlS Zd 8 rs) (h : Sl) : LdC prog 37 (Zs ⟨slH r, h⟩) 0 (vSl r) := by
 rw [Za0]
 have : ∀ a l c, LdC prog 37 (Zs ⟨⟨a, l, c⟩, h⟩) 0 (.slice a l c) := fun a l c => inferInstance
 exact this _ _ _
instance (priority := 30000) ZEo {es : List Za} (e : SlS Ze 5 es) (h : Sl) : LdC prog 38 (Zs ⟨h, slH e⟩) 1 (vSl e) := by
 rw [Za0]
 have : ∀ a l c, LdC prog 38 (Zs ⟨h, ⟨a, l, c⟩⟩) 1 (.slice a l c) := fun a l c => inferInstance
 exact this _ _ _
instance (priority := 30000) ZFO {rs : List Zb} (r : SlS Zd 8 rs) (h0 h : Sl) : StC prog 37 (Zs ⟨h0, h⟩) 0 (vSl r) (Zs ⟨slH r, h⟩) := by
 rw [Za0]
 have : ∀ a l c, StC prog 37 (Zs ⟨h0, h⟩) 0 (.slice a l c) (Zs ⟨⟨a, l, c⟩, h⟩) := fun a l c => inferInstance
 exact this _ _ _
instance (priority := 30000) ZEb {es : List Za} (e : SlS Ze 5 es) (h0 h : Sl) : StC prog 38 (Zs ⟨h, h0⟩) 1 (vSl e) (Zs ⟨h, slH e⟩) := by
 rw [Za0]
 have : ∀ a l c, StC prog 38 (Zs ⟨h, h0⟩) 1 (.slice a l c) (Zs ⟨h, ⟨a, l, c⟩⟩) := fun a l c => inferInstance
 exact this _ _ _
theorem Zru : Zcl = ⟨slH (SlS.no : SlS Zd 8 []), slH (SlS.no : SlS Ze 5 [])⟩ := rfl
def batL (ps : List (List Png)) (cs : List (List Cll)) : Nat → List (List Zb × List Za)
 | 0 => []
 | i + 1 => batL ps cs i ++ [((gi ps (i : Int)).map rptP, (gi cs (i : Int)).map excC)]
theorem Zgm (ps : List (List Png)) (cs : List (List Cll)) : ∀ i, (batL ps cs i).length = i
 | 0 => rfl
 | i + 1 => by rw [batL, Wp, Zgm ps cs i]; rfl
def BatO.no : BatO [] := ⟨[], SlS.no, rfl⟩
theorem Ze6 {α β : Type} [Inhabited α] (f : α → β) {l : List α} {i : Nat} (h : i < l.length) : (l.take (i + 1)).map f = (l.take i).map f ++ [f (gi l (i : Int))] := by
 rw [Wn h, List.map_append, Zk h]
 rfl
theorem Zrj (ds : List BD) (d : BD) : bdM (ds ++ [d]) = bdM ds ++ d.mm := by
 unfold bdM
 rw [List.flatMap_append]
 simp
theorem ZpS {α : Type} (A B X : List α) : (A ++ (B ++ X)).Perm (X ++ (B ++ A)) := by
 refine List.perm_append_comm.trans ?_
 rw [← List.append_assoc X B A]
 exact List.perm_append_comm.append_right A
set_option maxHeartbeats 8000000 in
theorem Zjf (sl : Sl) (a b : Int) (ls : List ZU) (ps : List (List Png)) (cs : List (List Cll)) (w : World) (h : WldIn w sl ls ps cs) (hs : ps.length ≤ 1048576 ∧ tot ps ≤ 1048576 ∧ tot cs ≤ 1048576) :
  Calls prog 12 [.agg (ZK ⟨sl, a, b⟩)].toArray w (RetM (BatO (batL ps cs ps.length)) (fun s => vSl s.o) (fun s => s.mem) w) := by
 obtain ⟨sa, sn, sc⟩ := sl
 obtain ⟨p0, c0, hf1⟩ := h.a.form
 injection hf1 with f1 f2 f3
 dsimp only at f1 f2 f3
 subst f1 f2 f3
 have hav := ArgC.mk h.a
 have hn := h.np
 have hn2 := h.nc
 refine Zg Tryz.func12 rfl Tryz.ntmps12 rfl ?_
 repeat (refine wkM ?_; intros)
 rename_i b1
 refine Zq (S := (m : Nat) × BatO (batL ps cs m)) (fun q => q.1 ≤ ls.length) (fun q => [(1, .pointer (some ⟨b1, 0, none⟩)), (3, vSl q.2.o), (4, .int .i64 (q.1 : Nat))]) (fun q => mS 40 q.2.o ++ (⟨b1, ZK ⟨⟨sa, ls.length, sc⟩, a, b⟩, 24⟩ :: bdM q.2.dn)) (fun q => ls.length - q.1) ⟨0, BatO.no⟩ (Wm _) sbB suB (fun q hm => ?_)
 obtain ⟨m, dn, o, hdn⟩ := q
 simp only at hm ⊢
 have hdl : (dn.map BD.hd).length = m := by
  have := congrArg List.length hdn
  rw [Zgm, Ws] at this
  rw [Ws, this]
 repeat (refine wkM ?_; intros)
 refine Zn rfl (fun h1 => ?_) (fun h1 => ?_)
 ·try dsimp only at h1
  have hlt : m < ls.length := by have := Wa h1; omega
  have hne : ls ≠ [] := fun h0 => by rw [h0] at hlt; simp at hlt
  obtain ⟨bw, ow, cw, hvw, hcw, -⟩ := h.a.blk (k := 1) hne []
  injection hvw with x1 x2 x3
  subst x1
  have hrow' : ∀ L, RowC w L bw ow ZU Zam ls := fun L => by
   obtain ⟨bv, ov, cv, hvv, -, hrow⟩ := h.a.blk (k := 1) hne L
   injection hvv with y1 y2 y3
   injection y1 with y1
   injection y1 with y4 y5
   subst y4 y5
   exact hrow
  have hpa := h.p m hlt
  have hca := h.c m hlt
  have hpk := h.pk _ (Z0 (i := (m : Int)) (xs := ps) (by omega))
  have hck := h.ck _ (Z0 (i := (m : Int)) (xs := cs) (by omega))
  have hpt := Zox (l := ps) (i := m) (by omega)
  have hct := Zox (l := cs) (i := m) (by omega)
  have hbn : batL ps cs (m + 1) = batL ps cs m ++ [((gi ps (m : Int)).map rptP, (gi cs (m : Int)).map excC)] := rfl
  generalize gi ps (m : Int) = P at *
  generalize gi cs (m : Int) = C at *
  rcases hx : gi ls (m : Int) with ⟨⟨pa, pl, pc⟩, ⟨ca, cl, cc⟩⟩
  rw [hx] at hpa hca
  dsimp only [vSlc] at hpa hca
  obtain ⟨pa', pc', hf2⟩ := hpa.form
  injection hf2 with g1 g2 g3
  subst g2
  obtain ⟨ca', cc', hf3⟩ := hca.form
  injection hf3 with i1 i2 i3
  subst i2
  have hPr : ∀ i : Nat, i < P.length → ∃ bv ov cv, pa = some ⟨bv, ov, none⟩ ∧ ∀ L, RowC w L bv ov Png ePng P := fun i hi => by
   have hne : P ≠ [] := fun h0 => by rw [h0] at hi; simp at hi
   obtain ⟨bv, ov, cv, hvv, -, -⟩ := hpa.blk (k := 7) hne []
   injection hvv with y1 y2 y3
   refine ⟨bv, ov, cv, y1, fun L => ?_⟩
   obtain ⟨bv', ov', cv', hvv', -, hrow⟩ := hpa.blk (k := 7) hne L
   injection hvv' with z1 z2 z3
   rw [y1] at z1
   injection z1 with z1
   injection z1 with z4 z5
   subst z4 z5
   exact hrow
  have hCr : ∀ i : Nat, i < C.length → ∃ bv ov cv, ca = some ⟨bv, ov, none⟩ ∧ ∀ L, RowC w L bv ov Cll eCll C := fun i hi => by
   have hne : C ≠ [] := fun h0 => by rw [h0] at hi; simp at hi
   obtain ⟨bv, ov, cv, hvv, -, -⟩ := hca.blk (k := 5) hne []
   injection hvv with y1 y2 y3
   refine ⟨bv, ov, cv, y1, fun L => ?_⟩
   obtain ⟨bv', ov', cv', hvv', -, hrow⟩ := hca.blk (k := 5) hne L
   injection hvv' with z1 z2 z3
   rw [y1] at z1
   injection z1 with z1
   injection z1 with z4 z5
   subst z4 z5
   exact hrow
  clear g1 g3 i1 i3
  repeat (refine wkM ?_; intros)
  rename_i b5
  dsimp only
  refine Zq (S := (k : Nat) × SlS Zd 8 ((P.take k).map rptP)) (fun q => q.1 ≤ P.length) (fun q => [(1, .pointer (some ⟨b1, 0, none⟩)), (3, vSl o), (4, .int .i64 (m : Nat)), (5, .pointer (some ⟨b5, 0, none⟩)), (6, .int .i64 (q.1 : Nat))]) (fun q => mS 35 q.2 ++ (⟨b5, Zs ⟨slH q.2, slH (SlS.no : SlS Ze 5 [])⟩, 40⟩ :: (mS 40 o ++ (⟨b1, ZK ⟨⟨some ⟨bw, ow, none⟩, ls.length, sc⟩, a, b⟩, 24⟩ :: bdM dn)))) (fun q => P.length - q.1) ⟨0, SlS.no⟩ (Wm _) sbB (by rw [Zru]; exact suB) (fun q hk => ?_)
  ·obtain ⟨k, r⟩ := q
   simp only at hk ⊢
   have hrl : ((P.take k).map rptP).length = k := by rw [Ws, Wt]; omega
   repeat (refine wkM ?_; intros)
   dsimp only
   repeat (refine wkM ?_; intros)
   simp only [hx]
   repeat (refine wkM ?_; intros)
   refine Zn rfl (fun h2 => ?_) (fun h2 => ?_)
   ·have hlt2 : k < P.length := by have := Wa h2; omega
    obtain ⟨bv, ov, cv, rfl, hPr⟩ := hPr k hlt2
    have hpo := hpk (gi P (k : Int)) (Z0 (by omega))
    have hnx := Ze6 rptP hlt2
    repeat (refine wkM ?_; intros)
    (refine Zao (.v [0, 2, 3, 4, 5, 6, 7, 8, 9, 10, 11] (.e2 1 (.e1 12 (.e1 13 (.v [14] (.e1 15 (.fin))))) 12 (.e1 1 (.e1 13 (.v [14] (.e1 15 (.fin))))))) ([⟨b1, ZK ⟨⟨some ⟨bw, ow, none⟩, ls.length, sc⟩, a, b⟩, 24⟩]) (h := ?_); refine wkX ?_)
    (repeat (refine wkH ?_))
    try dsimp only
    (repeat (refine wkH ?_))
    try simp only [hx]
    (repeat (first | refine wkH ?_ | (refine tC rfl rfl ?_ ?_; focus (exact hpo))))
    refine And.intro ?_ ?_
    all_goals
     repeat (refine wkT ?_; intros)
     refine eU rfl rfl ?_ ?_ ?_ ?_
     ·rfl
     ·rfl
     ·exact ⟨by decide, by omega, by omega⟩
     intro r'
     repeat (refine wkT ?_; intros)
     obtain ⟨r3, e1, e2⟩ := SlS.turn 35 hnx.symm r'
     have e3 := Zcm e1
     repeat (refine wkO ?_; intros)
     exact Zj ⟨k + 1, r3⟩ hlt2 sbB (by simp only [e2, e3]; exact suB) (by show P.length - (k + 1) < P.length - k; omega)
   ·have hge : k = P.length := by have := Wb h2; omega
    subst hge
    obtain ⟨r1, e1, e2⟩ := SlS.turn 35 (show (P.take P.length).map rptP = P.map rptP by rw [List.take_length]) r
    have e3 := Zcm e1
    rw [← e2, ← e3]
    clear e1 e2 e3
    repeat (refine wkM ?_; intros)
    refine Zq (S := (k : Nat) × SlS Ze 5 ((C.take k).map excC)) (fun q => q.1 ≤ C.length) (fun q => [(1, .pointer (some ⟨b1, 0, none⟩)), (3, vSl o), (4, .int .i64 (m : Nat)), (5, .pointer (some ⟨b5, 0, none⟩)), (7, .int .i64 (q.1 : Nat))]) (fun q => mS 122 q.2 ++ (mS 35 r1 ++ (⟨b5, Zs ⟨slH r1, slH q.2⟩, 40⟩ :: (mS 40 o ++ (⟨b1, ZK ⟨⟨some ⟨bw, ow, none⟩, ls.length, sc⟩, a, b⟩, 24⟩ :: bdM dn))))) (fun q => C.length - q.1) ⟨0, SlS.no⟩ (Wm _) sbB suB (fun q hk => ?_)
    obtain ⟨k, r⟩ := q
    simp only at hk ⊢
    have hrl : ((C.take k).map excC).length = k := by rw [Ws, Wt]; omega
    repeat (refine wkM ?_; intros)
    dsimp only
    repeat (refine wkM ?_; intros)
    simp only [hx]
    repeat (refine wkM ?_; intros)
    refine Zn rfl (fun h2 => ?_) (fun h2 => ?_)
    ·have hlt2 : k < C.length := by have := Wa h2; omega
     obtain ⟨bv, ov, cv, rfl, hCr⟩ := hCr k hlt2
     have hpo := hck (gi C (k : Int)) (Z0 (by omega))
     have hnx := Ze6 excC hlt2
     repeat (refine wkM ?_; intros)
     (refine Zao (.v [0, 2, 3, 4, 5, 6, 7, 8, 9, 10, 11] (.e2 1 (.e1 12 (.e1 13 (.v [14] (.e1 15 (.fin))))) 12 (.e1 1 (.e1 13 (.v [14] (.e1 15 (.fin))))))) ([⟨b1, ZK ⟨⟨some ⟨bw, ow, none⟩, ls.length, sc⟩, a, b⟩, 24⟩]) (h := ?_); refine wkX ?_)
     (repeat (refine wkH ?_))
     try dsimp only
     (repeat (refine wkH ?_))
     try simp only [hx]
     (repeat (first | refine wkH ?_ | (refine tC rfl rfl ?_ ?_; focus (exact hpo))))
     refine And.intro ?_ ?_
     all_goals
      repeat (refine wkT ?_; intros)
      refine eU rfl rfl ?_ ?_ ?_ ?_
      ·rfl
      ·rfl
      ·exact ⟨by decide, by omega, by omega⟩
      intro r'
      repeat (refine wkT ?_; intros)
      obtain ⟨r3, e1, e2⟩ := SlS.turn 122 hnx.symm r'
      have e3 := Zcm e1
      repeat (refine wkO ?_; intros)
      exact Zj ⟨k + 1, r3⟩ hlt2 sbB (by simp only [e2, e3]; exact suB) (by show C.length - (k + 1) < C.length - k; omega)
    ·have hge : k = C.length := by have := Wb h2; omega
     subst hge
     obtain ⟨r2, e1, e2⟩ := SlS.turn 122 (show (C.take C.length).map excC = C.map excC by rw [List.take_length]) r
     have e3 := Zcm e1
     rw [← e2, ← e3]
     clear e1 e2 e3
     repeat (refine wkM ?_; intros)
     refine sU rfl rfl ?_ ?_ ?_ ?_
     ·rfl
     ·rfl
     ·exact ⟨by decide, by omega, by omega⟩
     intro o'
     repeat (refine wkO ?_; intros)
     obtain ⟨D, hD1, hD2, hD3⟩ : ∃ D : BD, BD.hd D = ⟨slH r1, slH r2⟩ ∧ BD.mm D = mS 35 r1 ++ mS 122 r2 ∧ (D.rs, D.es) = (P.map rptP, C.map excC) := ⟨⟨P.map rptP, r1, C.map excC, r2⟩, rfl, rfl, rfl⟩
     have ho : dn.map BD.hd ++ [⟨slH r1, slH r2⟩] = (dn ++ [D]).map BD.hd := by rw [List.map_append, ← hD1]; rfl
     obtain ⟨o3, e1, e2⟩ := SlS.turn 40 ho o'
     refine Zmn (M := mS 40 o3 ++ (⟨b1, ZK ⟨⟨some ⟨bw, ow, none⟩, ls.length, sc⟩, a, b⟩, 24⟩ :: bdM (dn ++ [D]))) (L' := mS 40 o3 ++ (mS 122 r2 ++ (mS 35 r1 ++ (⟨b1, ZK ⟨⟨some ⟨bw, ow, none⟩, ls.length, sc⟩, a, b⟩, 24⟩ :: bdM dn)))) (by rw [e2]; exact suB) ?_ ?_
     ·refine List.Perm.append_left _ ?_
      rw [Zrj, hD2, ← Wf]
      exact ZpS _ _ _
     ·exact Zj ⟨m + 1, dn ++ [D], o3, by rw [List.map_append, hdn, hbn, ← hD3]; rfl⟩ hlt (by simp only [e1]; exact sbB) suB (by show ls.length - (m + 1) < ls.length - m; omega)
 ·try dsimp only at h1
  have hge : m = ls.length := by have := Wb h1; omega
  repeat (refine wkM ?_; intros)
  have e0 : batL ps cs m = batL ps cs ps.length := by rw [hge, hn]
  refine Zf rfl rfl (fun w hw => ⟨⟨dn, o, hdn.trans e0⟩, rfl, ?_⟩)
  show Own _ (mS _ o ++ bdM dn) w
  exact hw.sub suB
instance Zwc (w0 : World) (L : List Blk) (sl : Sl) (a b : Int) (ls : List ZU) (ps : List (List Png)) (cs : List (List Cll)) [h : WldC w0 sl ls ps cs] : SpecR prog w0 L 12 [.agg (ZK ⟨sl, a, b⟩)] (BatO (batL ps cs ps.length)) (fun s => vSl s.o) (fun s => s.mem) (ps.length ≤ 1048576 ∧ tot ps ≤ 1048576 ∧ tot cs ≤ 1048576) := ⟨fun hp w hw => Zjf sl a b ls ps cs w (h.out.to hw.ext) hp⟩
end
section
abbrev Bat := List Zb × List Za
def bR (bs : List Bat) : List Zb := bs.flatMap (·.1)
def bE (bs : List Bat) : List Za := bs.flatMap (·.2)
theorem Zil (l m : List Bat) : bR (l ++ m) = bR l ++ bR m := List.flatMap_append
theorem Zir (l m : List Bat) : bE (l ++ m) = bE l ++ bE m := List.flatMap_append
theorem Zo0 (x : Bat) : bR [x] = x.1 := by simp [bR]
theorem Zo1 (x : Bat) : bE [x] = x.2 := by simp [bE]
theorem ZlG {bs : List Bat} {i : Nat} (h : i < bs.length) : bR (bs.take (i + 1)) = bR (bs.take i) ++ (gi bs (i : Int)).1 := by
 rw [Wn h, Zk h, Zil, Zo0]
theorem ZlD {bs : List Bat} {i : Nat} (h : i < bs.length) : bE (bs.take (i + 1)) = bE (bs.take i) ++ (gi bs (i : Int)).2 := by
 rw [Wn h, Zk h, Zir, Zo1]
theorem Zg8 (bs : List Bat) (i : Nat) : (bR (bs.take i)).length ≤ (bR bs).length := by
 have h : bR bs = bR (bs.take i) ++ bR (bs.drop i) := by
  unfold bR
  rw [← List.flatMap_append, List.take_append_drop]
 rw [h, Wp]
 omega
theorem ZgM (bs : List Bat) (i : Nat) : (bE (bs.take i)).length ≤ (bE bs).length := by
 have h : bE bs = bE (bs.take i) ++ bE (bs.drop i) := by
  unfold bE
  rw [← List.flatMap_append, List.take_append_drop]
 rw [h, Wp]
 omega
abbrev AllO (bs : List Bat) : Type := SlS Zd 8 (bR bs) × SlS Ze 5 (bE bs)
set_option maxHeartbeats 8000000 in
theorem Zqn (v : Value) (bs : List Bat) (w : World) (hv : BatA w v bs) (hl : bs.length ≤ 1048576 ∧ (bR bs).length ≤ 1048576 ∧ (bE bs).length ≤ 1048576) :
  Calls prog 15 [v].toArray w (RetM (AllO bs) (fun s => .agg (Zs ⟨slH s.1, slH s.2⟩)) (fun s => mS 35 s.1 ++ mS 122 s.2) w) := by
 obtain ⟨hs, ha, hn, h3, h4⟩ := hv.ex
 have hav := ArgC.mk ha
 obtain ⟨p, cp, rfl⟩ := ha.form
 refine Zg Tryz.func15 rfl Tryz.ntmps15 rfl ?_
 repeat (refine wkM ?_; intros)
 rename_i b2 b3
 refine Zq (S := (m : Nat) × SlS Zd 8 (bR (bs.take m)) × SlS Ze 5 (bE (bs.take m))) (fun q => q.1 ≤ hs.length) (fun q => [(0, .slice p hs.length cp), (2, .pointer (some ⟨b2, 0, none⟩)), (3, .pointer (some ⟨b3, 0, none⟩)), (4, .int .i64 (q.1 : Nat))]) (fun q => mS 122 q.2.2 ++ (mS 35 q.2.1 ++ [⟨b3, Zs ⟨slH q.2.1, slH q.2.2⟩, 40⟩, ⟨b2, Zs Zcl, 40⟩])) (fun q => hs.length - q.1) ⟨0, SlS.no, SlS.no⟩ (Wm _) sbB (by rw [Zru]; exact suB) (fun q hm => ?_)
 obtain ⟨m, r, e⟩ := q
 simp only at hm ⊢
 repeat (refine wkM ?_; intros)
 refine Zn rfl (fun h1 => ?_) (fun h1 => ?_)
 ·have hlt : m < hs.length := by have := Wa h1; omega
  have hne : hs ≠ [] := fun h0 => by rw [h0] at hlt; simp at hlt
  obtain ⟨bw, ow, cw, hvw, hcw, hrow⟩ := ha.blk (k := 1) hne []
  injection hvw with x1 x2 x3
  subst x1 x3
  have hrow' : ∀ L, RowC w L bw ow ZaC Zs hs := fun L => ⟨fun w' hw' => hrow.out w' (hw'.sub (Wk _))⟩
  have hra := fun L => (h3 m hlt).lst L
  have hea := fun L => (h4 m hlt).lst L
  have t1 := ZlG (bs := bs) (i := m) (by omega)
  have t2 := ZlD (bs := bs) (i := m) (by omega)
  have t3 := Zg8 bs (m + 1)
  have t4 := ZgM bs (m + 1)
  have t5 := congrArg List.length t1
  have t6 := congrArg List.length t2
  rw [Wp] at t5 t6
  repeat (refine wkM ?_; intros)
  (refine Zao (.v [0, 2, 3, 4, 5, 6] (.e1 1 (.e1 7 (.v [8] (.e1 9 (.fin)))))) ([]) (h := ?_); refine wkX ?_)
  (repeat (refine wkH ?_))
  repeat (refine wkT ?_; intros)
  refine eVA rfl rfl ?_ ?_ ?_
  ·rfl
  ·exact ⟨by omega, by omega⟩
  intro r'
  repeat (refine wkT ?_; intros)
  repeat (refine wkM ?_; intros)
  (refine Zao (.v [0, 2, 3, 4, 5, 6] (.e1 1 (.e1 7 (.v [8] (.e1 9 (.fin)))))) ([]) (h := ?_); refine wkX ?_)
  (repeat (refine wkH ?_))
  repeat (refine wkT ?_; intros)
  refine eVA rfl rfl ?_ ?_ ?_
  ·rfl
  ·exact ⟨by omega, by omega⟩
  intro e'
  repeat (refine wkT ?_; intros)
  repeat (refine wkO ?_; intros)
  obtain ⟨r3, e1, e2⟩ := SlS.turn 35 t1.symm r'
  obtain ⟨u3, e3, e4⟩ := SlS.turn 122 t2.symm e'
  have e5 := Zcm e1
  have e6 := Zcm e3
  exact Zj ⟨m + 1, r3, u3⟩ hlt sbB (by simp only [e2, e4, e5, e6]; exact suB) (by show hs.length - (m + 1) < hs.length - m; omega)
 ·have hge : m = hs.length := by have := Wb h1; omega
  obtain ⟨r3, e1, e2⟩ := SlS.turn 35 (show bR (bs.take m) = bR bs by rw [List.take_of_length_le (by omega)]) r
  obtain ⟨u3, e3, e4⟩ := SlS.turn 122 (show bE (bs.take m) = bE bs by rw [List.take_of_length_le (by omega)]) e
  have e5 := Zcm e1
  have e6 := Zcm e3
  repeat (refine wkM ?_; intros)
  refine ZV rfl rfl (fun w hw => ⟨(r3, u3), ?_, ?_⟩)
  ·dsimp only
   rw [e5, e6]
  ·show Own _ (mS _ r3 ++ mS _ u3) w
   rw [e2, e4]
   refine (hw.sub (?_ : (mS _ e ++ mS _ r : List Blk).Sublist _)).perm List.perm_append_comm
   exact suB
instance ZHj (w0 : World) (L : List Blk) (v : Value) (bs : List Bat) [h : BatC w0 L v bs] : SpecR prog w0 L 15 [v] (AllO bs) (fun s => .agg (Zs ⟨slH s.1, slH s.2⟩)) (fun s => mS 35 s.1 ++ mS 122 s.2) (bs.length ≤ 1048576 ∧ (bR bs).length ≤ 1048576 ∧ (bE bs).length ≤ 1048576) := ⟨fun hp w hw => Zqn v bs w (h.out w hw) hp⟩
structure InkO (rs : List Zb) (es : List Za) where
 px : Nat
 m1 : Nat
 m2 : Nat
 R : List (Zb × Bool)
 X : List (Za × Bool)
 r : AddOk [] R rs
 e : AddOk [] X es
def InkO.mem {rs : List Zb} {es : List Za} (s : InkO rs es) : List Blk := [⟨s.m1, .obj (mRp s.R), 177⟩, ⟨s.m2, .obj (mEx s.X), 178⟩, ⟨s.px, vIn s.m1 s.m2, 180⟩]
theorem AddOk.nil {κ : Type} [DecidableEq κ] : AddOk ([] : List (κ × Bool)) [] [] := ⟨SetM.nil, fun k => by simp, Wl _⟩
theorem AddOk.then {κ : Type} [DecidableEq κ] {R R' R2 : List (κ × Bool)} {rs ks : List κ} (h : AddOk R R' rs) (k : AddOk R' R2 ks) : AddOk R R2 (rs ++ ks) := ⟨k.sm, fun z => by
 rw [k.mem, h.mem, Wv, or_assoc], by
 have h1 := h.len
 have h2 := k.len
 rw [Wp]
 omega⟩
set_option maxHeartbeats 8000000 in
theorem ZkT (v : Value) (bs : List Bat) (w : World) (hv : BatA w v bs) (hl : bs.length ≤ 1048576 ∧ (bR bs).length ≤ 4096 ∧ (bE bs).length ≤ 4096) (hr : ∀ r ∈ bR bs, RepV r) (he : ∀ y ∈ bE bs, ExV y) :
  Calls prog 17 [v].toArray w (RetM (InkO (bR bs) (bE bs)) (fun s => .pointer (some ⟨s.px, 0, none⟩)) (fun s => s.mem) w) := by
 obtain ⟨hs, ha, hn, h3, h4⟩ := hv.ex
 have hav := ArgC.mk ha
 obtain ⟨p, cp, rfl⟩ := ha.form
 refine Zg Tryz.func17 rfl Tryz.ntmps17 rfl ?_
 repeat (refine wkM ?_; intros)
 rename_i s0
 refine Zhi [⟨s0.2.1, .obj (mRp []), 177⟩, ⟨s0.2.2, .obj (mEx []), 178⟩, ⟨s0.1, vIn s0.2.1 s0.2.2, 180⟩] (List.reverse_perm _).symm ?_
 refine Zq (S := (m : Nat) × InkO (bR (bs.take m)) (bE (bs.take m))) (fun q => q.1 ≤ hs.length) (fun q => [(0, .slice p hs.length cp), (3, .pointer (some ⟨q.2.px, 0, none⟩)), (4, .int .i64 (q.1 : Nat))]) (fun q => q.2.mem) (fun q => hs.length - q.1) ⟨0, s0.1, s0.2.1, s0.2.2, [], [], AddOk.nil, AddOk.nil⟩ (Wm _) sbB (Wj _) (fun q hm => ?_)
 obtain ⟨m, px, m1, m2, R, X, okR, okX⟩ := q
 simp only [InkO.mem] at hm ⊢
 repeat (refine wkM ?_; intros)
 refine Zn rfl (fun h1 => ?_) (fun h1 => ?_)
 ·have hlt : m < hs.length := by have := Wa h1; omega
  have hne : hs ≠ [] := fun h0 => by rw [h0] at hlt; simp at hlt
  obtain ⟨bw, ow, cw, hvw, hcw, hrow⟩ := ha.blk (k := 1) hne []
  injection hvw with x1 x2 x3
  subst x1 x3
  have hrow' : ∀ L, RowC w L bw ow ZaC Zs hs := fun L => ⟨fun w' hw' => hrow.out w' (hw'.sub (Wk _))⟩
  have h3' := h3 m hlt
  have h4' := h4 m hlt
  obtain ⟨xr, xe, hx⟩ : ∃ xr xe, gi hs (m : Int) = ⟨xr, xe⟩ := ⟨_, _, rfl⟩
  rw [hx] at h3' h4'
  have hra := ArgC.mk h3'
  have hea := ArgC.mk h4'
  have t1 := ZlG (bs := bs) (i := m) (by omega)
  have t2 := ZlD (bs := bs) (i := m) (by omega)
  have t3 := Zg8 bs (m + 1)
  have t4 := ZgM bs (m + 1)
  have t5 := congrArg List.length t1
  have t6 := congrArg List.length t2
  rw [Wp] at t5 t6
  have k1 := okR.len
  have k2 := okX.len
  rw [Wx, Nat.zero_add] at k1 k2
  have hmr : gi bs (m : Int) ∈ bs := Z0 (by omega)
  have hpre : R.length + (gi bs (m : Int)).1.length ≤ 4096 ∧ X.length + (gi bs (m : Int)).2.length ≤ 4096 ∧ SetM R ∧ SetM X ∧ (∀ r ∈ (gi bs (m : Int)).1, RepV r) ∧ ∀ y ∈ (gi bs (m : Int)).2, ExV y := ⟨by omega, by omega, okR.sm, okX.sm, fun r h => hr r (List.mem_flatMap.2 ⟨_, hmr, h⟩), fun y h => he y (List.mem_flatMap.2 ⟨_, hmr, h⟩)⟩
  repeat (refine wkM ?_; intros)
  simp only [hx]
  repeat (refine wkM ?_; intros)
  refine sZ rfl rfl hpre ?_
  intro q
  repeat (refine wkO ?_; intros)
  exact Zj ⟨m + 1, px, m1, m2, q.1.1.1, q.1.1.2, by rw [t1]; exact okR.then q.2.1, by rw [t2]; exact okX.then q.2.2⟩ hlt sbB (Wj _) (by show hs.length - (m + 1) < hs.length - m; omega)
 ·have hge : m = hs.length := by have := Wb h1; omega
  have e1 : bs.take m = bs := List.take_of_length_le (by omega)
  repeat (refine wkM ?_; intros)
  rw [e1] at okR okX
  exact Zf rfl rfl (fun w hw => ⟨⟨px, m1, m2, R, X, okR, okX⟩, rfl, hw⟩)
instance Zzx (w0 : World) (L : List Blk) (v : Value) (bs : List Bat) [h : BatC w0 L v bs] : SpecR prog w0 L 17 [v] (InkO (bR bs) (bE bs)) (fun s => .pointer (some ⟨s.px, 0, none⟩)) (fun s => s.mem) ((bs.length ≤ 1048576 ∧ (bR bs).length ≤ 4096 ∧ (bE bs).length ≤ 4096) ∧ (∀ r ∈ bR bs, RepV r) ∧ ∀ y ∈ bE bs, ExV y) := ⟨fun hp w hw => ZkT v bs w (h.out w hw) hp.1 hp.2.1 hp.2.2⟩
end
section
theorem ZfE (a : Addr) (x y : Nat) : (a.add x).add y = a.add (x + y) := by
 simp only [Addr.add]
 by_cases h1 : x = 0
 ·subst h1
  simp
 ·by_cases h2 : y = 0
  ·subst h2
   simp [h1]
  ·have h3 : ¬ x + y = 0 := by omega
   simp [h1, h2, Nat.add_assoc]
def dropA (p : Option Addr) (c k s : Nat) : Option Addr := if c = k then p else p.map (·.add (k * s))
section
variable {P : Program} {w0 : World} {n : Nat} {L : List Blk} {E : Env} {x z1 : Operand} {T : TypeId}
instance (priority := low) ZDK {e s l c k : Nat} {p : Option Addr} [IsC (evl E x) (.slice p l c)] [hy : IsC (evl E z1) (.int .i64 (k : Nat))] [h : UndC P T (.slice e)] [hs : SizeC P e s] : YsC P w0 n L E (.slice T x none (some z1) none) (.slice p k c) (k ≤ c ∧ l ≤ c) := ⟨fun hi d ty pos aft gd =>
 Zay (fun _ => Instr.sliceAt T (.slice p l c) none (some (.int .i64 (k : Nat))) none) (fun a ha => by simp only [execOp, ha.ev (isE (x := x)), Option.map_none, Option.map_some, ha.ev (isE (x := z1))]) (fun a w _ _ => by
  have h3 : (if c = 0 then p else p.map (·.add (0 * s))) = p := by
   split
   ·rfl
   ·cases p
    ·rfl
    ·simp [Addr.add]
  simp only [Nat.zero_mul] at h3
  simp [Instr.sliceAt, Instr.slice, run_underlying h.out, Instr.sliceBounds, Instr.sliceBound, asIntOf, ZaD hs.out, hi.1, hi.2, h3])⟩
instance (priority := low) ZFA {e s l c k : Nat} {p : Option Addr} [IsC (evl E x) (.slice p l c)] [hy : IsC (evl E z1) (.int .i64 (k : Nat))] [h : UndC P T (.slice e)] [hs : SizeC P e s] : YsC P w0 n L E (.slice T x (some z1) none none) (.slice (dropA p c k s) (l - k) (c - k)) (k ≤ l ∧ l ≤ c) := ⟨fun hi d ty pos aft gd =>
 Zay (fun _ => Instr.sliceAt T (.slice p l c) (some (.int .i64 (k : Nat))) none none) (fun a ha => by simp only [execOp, ha.ev (isE (x := x)), Option.map_none, Option.map_some, ha.ev (isE (x := z1))]) (fun a w _ _ => by
  simp [Instr.sliceAt, Instr.slice, run_underlying h.out, Instr.sliceBounds, Instr.sliceBound, asIntOf, ZaD hs.out, hi.1, hi.2, dropA])⟩
end
theorem ArgS.take {α : Type} {enc : α → Array Value} {xs : List α} {w : World} {p : Option Addr} {n c : Nat} (h : ArgS w (.slice p n c) enc xs) (k : Nat) (hk : k ≤ xs.length) : ArgS w (.slice p k c) enc (xs.take k) := by
 have hl : (xs.take k).length = k := by rw [Wt]; omega
 rcases h.out with ⟨h1, h2⟩ | ⟨a, c', h1, h2, h3⟩
 ·subst h2
  injection h1 with e1 e2 e3
  subst e1 e3
  have : k = 0 := by simpa using hk
  subst this
  exact ⟨.inl ⟨rfl, rfl⟩⟩
 ·injection h1 with e1 e2 e3
  subst e1 e3
  refine ⟨.inr ⟨a, c, by rw [hl], by omega, fun i f k' u hi hs hu => ?_⟩⟩
  rw [List.getElem_take] at hu
  exact h3 i f k' u (by omega) hs hu
theorem ArgS.drop {α : Type} {enc : α → Array Value} {s : Nat} [he : EncC enc s] {xs : List α} {w : World} {p : Option Addr} {n c : Nat} (h : ArgS w (.slice p n c) enc xs) (k : Nat) (hk : k ≤ n) : ArgS w (.slice (dropA p c k s) (n - k) (c - k)) enc (xs.drop k) := by
 rcases h.out with ⟨h1, h2⟩ | ⟨a, c', h1, h2, h3⟩
 ·subst h2
  injection h1 with e1 e2 e3
  subst e1 e2 e3
  have : k = 0 := by omega
  subst this
  refine ⟨.inl ⟨?_, rfl⟩⟩
  unfold dropA
  rfl
 ·injection h1 with e1 e2 e3
  subst e1 e2 e3
  have hl : (xs.drop k).length = xs.length - k := List.length_drop
  by_cases hc : c = k
  ·have hd : xs.drop k = [] := List.drop_of_length_le (by omega)
   rw [hd]
   refine ⟨.inr ⟨a, c - k, ?_, by simp, fun i f k' u hi => absurd hi (by simp)⟩⟩
   unfold dropA
   rw [if_pos hc, show xs.length - k = 0 by omega]
   rfl
  ·refine ⟨.inr ⟨a.add (k * s), c - k, ?_, by omega, fun i f k' u hi hs hu => ?_⟩⟩
   ·unfold dropA
    rw [if_neg hc, hl]
    rfl
   ·rw [List.getElem_drop] at hu
    have hks : k' = s := by
     have hi' : k + i < xs.length := by omega
     rw [← hs xs[k + i], he.size xs[k + i]]
    subst hks
    have := h3 (k + i) f k' u (by omega) hs hu
    rw [Nat.add_mul, Nat.add_assoc] at this
    have e : (a.add (k * k')).add (i * k' + f) = a.add (k * k' + (i * k' + f)) := ZfE a _ _
    rw [e]
    exact this
class OwnF {α : Type} {enc : α → Array Value} {k : Nat} {xs : List α} (T : TypeId) (s : FlS enc k xs) (L : List Blk) (L1 : outParam (List Blk)) : Prop where
 out : L.Perm (mF T s ++ L1)
section
variable {α : Type} {enc : α → Array Value} {k : Nat} {xs : List α}
instance (priority := high) ofHere (T : TypeId) (s : FlS enc k xs) (L : List Blk) : OwnF T s (mF T s ++ L) L := ⟨.refl _⟩
instance (priority := low) ofThere (T : TypeId) (s : FlS enc k xs) (e : Blk) (L L1 : List Blk) [h : OwnF T s L L1] : OwnF T s (e :: L) (e :: L1) := ⟨(h.out.cons e).trans List.perm_middle.symm⟩
theorem FlS.like (s : FlS enc k xs) {ys : List α} (h : ys = xs) : ∃ s' : FlS enc k ys, vF s' = vF s ∧ ∀ T, mF T s' = mF T s := by
 subst h
 exact ⟨s, rfl, fun _ => rfl⟩
def FlS.em (b : Nat) : FlS enc k [] := ⟨some (b, 0, []), (fun h => by cases h), fun t ht => by injection ht with ht; subst ht; exact ⟨Wl _, by simp⟩⟩
instance (priority := low) ofDel (T : TypeId) (b : Nat) (L L1 : List Blk) [h : DelC b L (row enc [] []) T L1] : OwnF T (FlS.em b : FlS enc k []) L L1 := ⟨h.out⟩
theorem FlS.sl (s : FlS enc k xs) (h : xs ≠ []) : ∃ s' : SlS enc k xs, vSl s' = vF s ∧ ∀ T, mS T s' = mF T s := by
 rcases s.cases 0 with ⟨h0, -, -⟩ | ⟨b, c, sp, h1, h2, -⟩
 ·exact absurd h0 h
 ·obtain ⟨s, h3, h4⟩ := s
  cases s with
  | none => exact absurd (h3 rfl) h
  | some t => exact ⟨SlS.at_ t.1 t.2.1 t.2.2 (h4 t rfl) h, rfl, fun _ => rfl⟩
end
section
variable {P : Program} {w0 : World} {n : Nat} {ops : Array Oper} {L L1 : List Blk} {E : Env}
variable {Q : Exit → Act → World → Prop} {rest : List Oper}
variable {ty : TypeId} {pos : String} {aft : Array Edge} {gd : Option (Nat × Bool)} {t : Tmp} {x y : Operand}
variable {α : Type} {enc : α → Array Value} {S T : TypeId} {k B : Nat} {xs ys : List α} {v : Value} {z : Value} {zc : Array Value} {s : FlS enc (k + 1) xs}
variable [hx : IsC (evl E x) (vF s)] [hy : IsC (evl E y) v] [hl : LstC w0 L v α enc ys] [hd : OwnF T s L L1] [hT : UndC P S (.slice T)] [hz : ZeroC P T z zc] [he : EncC enc (k + 1)] [hk : SizeC P T (k + 1)] [hB : BytesC P T B]
include hx hy hd hl hT hz he hk hB
theorem Znq (hzk : zc.size = k + 1) (hb : (xs.length + ys.length) * B ≤ 140737488355328 ∧ xs.length + ys.length ≤ 9223372036854775807) (a : Act) (w : World) (ha : Rep n E a) (hw : Own w0 L w) :
  ∃ s' : FlS enc (k + 1) (xs ++ ys), ∃ w', (execOp a.eval ⟨some t, .call ⟨.builtin .append, #[x, y], #[S, S]⟩, ty, pos, aft, gd⟩).run P w = .ok (.value (vF s')) w' ∧ Own w0 (mF T s' ++ L1) w' := by
 have hp := hw.perm hd.out
 have hlen : (xs ++ ys).length = xs.length + ys.length := Wp
 have hv := hl.out w hw
 by_cases h0 : ys = []
 ·subst h0
  obtain ⟨s', e1, e2⟩ := s.like (Wh xs)
  obtain ⟨i, hi, -⟩ := Zbw hk.out
  refine ⟨s', w, ?_, by rw [e2]; exact hp⟩
  rw [e1]
  have hx' : Env.ev E x = some (vF s) := by rw [← ZaJ, hx.out]
  have hy' : Env.ev E y = some v := by rw [← ZaJ, hy.out]
  refine ZaH (d := some t) (pos := pos) (aft := aft) (gd := gd) ha hx' hy' ?_
  rcases hv.out with ⟨hv0, -⟩ | ⟨a2, c2, hv0, -, -⟩
  ·rw [hv0]
   rcases s.cases T with ⟨-, hv, -⟩ | ⟨b, c, sp, h1, hv, -⟩
   ·rw [hv]
    exact ZbX hT.out hi (.inl ⟨rfl, rfl, rfl⟩)
   ·rw [hv]
    exact ZbX hT.out hi (.inr ⟨b, rfl, h1.1⟩)
  ·rw [hv0]
   rcases s.cases T with ⟨-, hv, -⟩ | ⟨b, c, sp, h1, hv, -⟩
   ·rw [hv]
    exact ZcN hT.out hi (.inl ⟨rfl, rfl, rfl⟩)
   ·rw [hv]
    exact ZcN hT.out hi (.inr ⟨b, rfl, h1.1⟩)
 ·obtain ⟨b2, o2, c2, hv2, hc2, hrow⟩ := hv.blk (k := k) h0 []
  obtain ⟨cs2, T2, fz, hf, hcell⟩ := hrow.out w (Own.start w)
  have hm : 0 < ys.length := List.length_pos_iff.2 h0
  have hne : xs ++ ys ≠ [] := fun h0 => by rw [h0, Wx] at hlen; omega
  have hy' : Env.ev E y = some (.slice (some ⟨b2, o2, none⟩) ys.length c2) := by rw [← ZaJ, hy.out, hv2]
  have hcs : ∀ j v, (rowL enc ys)[j]? = some v → cs2[o2 + j]? = some v := fun j v hv => by
   have hj : j < ys.length * (k + 1) := by
    rw [← Z9 (enc := enc) (k := k + 1) ys]
    rcases Nat.lt_or_ge j (rowL enc ys).length with h | h
    ·exact h
    ·rw [List.getElem?_eq_none h] at hv; cases hv
   have hi : j / (k + 1) < ys.length := Nat.div_lt_of_lt_mul (by rw [Nat.mul_comm]; exact hj)
   have hf : j % (k + 1) < k + 1 := Nat.mod_lt _ (Nat.succ_pos _)
   have e : j / (k + 1) * (k + 1) + j % (k + 1) = j := by rw [Nat.mul_comm]; exact Nat.div_add_mod j (k + 1)
   have hg := ZeX (enc := enc) (k := k + 1) ys (j / (k + 1)) (j % (k + 1)) hi hf
   rw [e, hv] at hg
   have := (hcell _ _ (k + 1) v hi he.size hg.symm).1
   rw [Nat.add_assoc, e] at this
   exact this
  rcases s.cases T with ⟨rfl, hv, hm0⟩ | ⟨b, c, sp, h1, hv, hm1⟩
  ·have hx' : Env.ev E x = some (.slice none 0 0) := by rw [← ZaJ, hx.out, hv]
   rw [hm0, Wg] at hp
   obtain ⟨s, w', hr, ho⟩ := Zc9 (L := L1) (ty := ty) (b2 := b2) (off2 := o2) (m := ys.length) (c2 := c2) (news := rowL enc ys) hT.out hz.out hz.cells hk.out hB.out hzk hp ⟨T2, fz, hf⟩ (by rw [Z9 (k := k + 1)]) hcs hm (by simpa using hb.1) (by simpa using hb.2)
   refine ⟨⟨some s.1, (fun h => by cases h), fun t ht => by injection ht with ht; subst ht; rw [Wg]; exact s.2⟩, w', ?_, ho⟩
   have h3 := ZaH (d := some t) (pos := pos) (aft := aft) (gd := gd) ha hx' hy' hr
   rw [h3]
   rfl
  ·have hx' : Env.ev E x = some (.slice (some ⟨b, 0, none⟩) xs.length c) := by rw [← ZaJ, hx.out, hv]
   rw [hm1] at hp
   obtain ⟨s, w', hr, ho⟩ := Zeg (L1 := L1) (ty := ty) (b := b) (len := xs.length) (c := c) (b2 := b2) (off2 := o2) (m := ys.length) (c2 := c2) (xs := rowL enc xs) (sp := sp) (news := rowL enc ys) hT.out hz.out hz.cells hk.out hB.out hzk hp (.refl _) (Z9 xs) h1.2 h1.1 ⟨T2, fz, hf⟩ (by rw [Z9 (k := k + 1)]) hcs (Zcz ys) hb.1 hb.2
   refine ⟨⟨some s.1, (fun h => by cases h), fun t ht => by injection ht with ht; subst ht; rw [hlen]; exact s.2⟩, w', ?_, ?_⟩
   ·have h3 := ZaH (d := some t) (pos := pos) (aft := aft) (gd := gd) ha hx' hy' hr
    rw [h3]
    show _ = Result.ok (Next.value (Value.slice _ (xs ++ ys).length _)) w'
    rw [hlen]
   ·show Own w0 (⟨s.1.1, row enc (xs ++ ys) s.1.2.2, T⟩ :: L1) w'
    rw [row, Zbi]
    exact ho
theorem eVF {K : Env → List Blk → Prop} {Lw : List Blk} (hg : guardB ops E gd = some true) (hd' : Nat.blt t n = true) [hw : SblC Lw L1] (hzk : zc.size = k + 1) (hb : (xs.length + ys.length) * B ≤ 140737488355328 ∧ xs.length + ys.length ≤ 9223372036854775807)
  (h : ∀ s' : FlS enc (k + 1) (xs ++ ys), JE P w0 n ops Lw K rest ((t, vF s') :: E) (mF T s' ++ L1)) : JE P w0 n ops Lw K (⟨some t, .call ⟨.builtin .append, #[x, y], #[S, S]⟩, ty, pos, aft, gd⟩ :: rest) E L :=
 Zck (S := FlS enc (k + 1) (xs ++ ys)) (o := ⟨some t, .call ⟨.builtin .append, #[x, y], #[S, S]⟩, ty, pos, aft, gd⟩) hg hd' (fun s => vF s) (fun s => mF T s ++ L1)
  (fun a w ha hw => by
   obtain ⟨s, w', hr, ho⟩ := Znq (hx := hx) (hy := hy) (hl := hl) (hd := hd) (hT := hT) (hz := hz) (he := he) (hk := hk) (hB := hB) hzk hb a w ha hw
   exact ⟨s, w', .inl hr, ho⟩) (fun _ => Zap (hw.out.trans (List.sublist_append_right _ _))) h
end
end
section
theorem ZoM (a : Zb) : leRp a a := by
 unfold leRp cmpRp
 rw [Zh2]
 decide
theorem Zdl {α : Type} {le : α → α → Prop} : ∀ {l l' : List α}, (∀ x ∈ l, ∀ y ∈ l, le x y → le y x → x = y) → l.Nodup → l'.Nodup → l.Pairwise le → l'.Pairwise le → (∀ x, x ∈ l ↔ x ∈ l') → l = l'
 | [], [], _, _, _, _, _, _ => rfl
 | [], b :: l', _, _, _, _, _, h => absurd ((h b).2 (.head _)) (by simp)
 | a :: l, [], _, _, _, _, _, h => absurd ((h a).1 (.head _)) (by simp)
 | a :: l, b :: l', an, n1, n2, p1, p2, h => by
  have e : a = b := by
   rcases List.mem_cons.1 ((h a).1 (.head _)) with h1 | h1
   ·exact h1
   ·rcases List.mem_cons.1 ((h b).2 (.head _)) with h2 | h2
    ·exact h2.symm
    ·exact an a (.head _) b (.tail _ h2) ((List.pairwise_cons.1 p1).1 _ h2) ((List.pairwise_cons.1 p2).1 _ h1)
  subst e
  rw [Zdl (fun x hx y hy => an x (.tail _ hx) y (.tail _ hy)) (List.nodup_cons.1 n1).2 (List.nodup_cons.1 n2).2 (List.pairwise_cons.1 p1).2 (List.pairwise_cons.1 p2).2 fun x => ?_]
  have h3 := h x
  constructor
  ·intro hx
   rcases List.mem_cons.1 (h3.1 (.tail _ hx)) with h4 | h4
   ·subst h4; exact ((List.nodup_cons.1 n1).1 hx).elim
   ·exact h4
  ·intro hx
   rcases List.mem_cons.1 (h3.2 (.tail _ hx)) with h4 | h4
   ·subst h4; exact ((List.nodup_cons.1 n2).1 hx).elim
   ·exact h4
theorem Zgs {κ α : Type} [DecidableEq κ] {p : κ × α} : ∀ {l : List (κ × α)}, (l.map (·.1)).Nodup → (p ∈ l ↔ mget l p.1 = some p.2)
 | [], _ => by simp [mget]
 | q :: l, h => by
  obtain ⟨h1, h2⟩ := List.nodup_cons.1 h
  have ih := Zgs (p := p) h2
  rw [mget, Ww]
  split
  ·rename_i he
   constructor
   ·rintro (rfl | h3)
    ·rfl
    ·exact (h1 (List.mem_map.2 ⟨p, h3, he⟩)).elim
   ·intro h3
    injection h3 with h3
    exact .inl (Prod.ext he h3.symm)
  ·rename_i he
   rw [← ih]
   constructor
   ·rintro (rfl | h3)
    ·exact (he rfl).elim
    ·exact h3
   ·exact .inr
structure WinI (m : List (ZE × Zb)) (p : List Zb) : Prop where
 get : ∀ i w, mget m i = some w → w ∈ p ∧ idR w = i ∧ ∀ r ∈ p, idR r = i → leRp r w
 has : ∀ r ∈ p, ∃ w, mget m (idR r) = some w
theorem WinI.step {m : List (ZE × Zb)} {p : List Zb} (h : WinI m p) (r : Zb) : WinI (winS m r) (p ++ [r]) := by
 have hput : (∀ w, mget m (idR r) = some w → leRp w r) → WinI (mput m (idR r) r) (p ++ [r]) := fun hw => by
  refine ⟨fun i w hi => ?_, fun z hz => ?_⟩
  ·rw [ZaB] at hi
   split at hi
   ·rename_i he
    injection hi with hi
    subst hi he
    refine ⟨List.mem_append_right _ (.head _), rfl, fun z hz hi => ?_⟩
    rcases List.mem_append.1 hz with h1 | h1
    ·obtain ⟨w, h2⟩ := h.has z h1
     rw [hi] at h2
     exact Zl6 ((h.get _ _ h2).2.2 z h1 hi) (hw w h2)
    ·rw [Wo] at h1
     subst h1
     exact ZoM _
   ·rename_i he
    obtain ⟨h1, h2, h3⟩ := h.get i w hi
    refine ⟨List.mem_append_left _ h1, h2, fun z hz hi => ?_⟩
    rcases List.mem_append.1 hz with h4 | h4
    ·exact h3 z h4 hi
    ·rw [Wo] at h4
     subst h4
     exact (he hi.symm).elim
  ·rw [ZaB]
   split
   ·exact ⟨_, rfl⟩
   ·rename_i he
    rcases List.mem_append.1 hz with h4 | h4
    ·exact h.has z h4
    ·rw [Wo] at h4
     subst h4
     exact (he rfl).elim
 unfold winS
 split
 ·rename_i hn
  exact hput fun w hw => by rw [hn] at hw; cases hw
 ·rename_i w hs
  split
  ·rename_i hc
   refine hput fun w' hw => ?_
   rw [hs] at hw
   injection hw with hw
   subst hw
   unfold leRp cmpRp at *
   rw [Zcw]
   omega
  ·rename_i hc
   refine ⟨fun i w' hi => ?_, fun z hz => ?_⟩
   ·obtain ⟨h1, h2, h3⟩ := h.get i w' hi
    refine ⟨List.mem_append_left _ h1, h2, fun z hz hzi => ?_⟩
    rcases List.mem_append.1 hz with h4 | h4
    ·exact h3 z h4 hzi
    ·rw [Wo] at h4
     subst h4
     rw [hzi, hi] at hs
     injection hs with hs
     subst hs
     unfold leRp
     omega
   ·rcases List.mem_append.1 hz with h4 | h4
    ·exact h.has z h4
    ·rw [Wo] at h4
     subst h4
     exact ⟨w, hs⟩
theorem Zux (rs : List Zb) : WinI (winR rs) rs := by
 have key : ∀ (rs p : List Zb) (m : List (ZE × Zb)), WinI m p → WinI (rs.foldl winS m) (p ++ rs) := by
  intro rs
  induction rs with
  | nil => intro p m h; rw [Wh]; exact h
  | cons r rs ih =>
   intro p m h
   have := ih (p ++ [r]) _ (h.step r)
   rw [List.append_assoc] at this
   exact this
 exact key rs [] [] ⟨fun i w h => by simp [mget] at h, fun r h => by cases h⟩
theorem ZjA {rs : List Zb} {i : ZE} {w : Zb} : mget (winR rs) i = some w ↔ w ∈ rs ∧ idR w = i ∧ ∀ r ∈ rs, idR r = i → leRp r w := by
 have h := Zux rs
 constructor
 ·exact h.get i w
 ·rintro ⟨h1, h2, h3⟩
  obtain ⟨u, hu⟩ := h.has w h1
  rw [h2] at hu
  obtain ⟨g1, g2, g3⟩ := h.get i u hu
  rw [hu, Zd5 (h3 u g1 g2) (g3 w h1 h2)]
theorem Ze0 {rs ks : List Zb} {i : ZE} (h : ∀ r, idR r = i → (r ∈ rs ↔ r ∈ ks)) : mget (winR rs) i = mget (winR ks) i := by
 have h1 : ∀ w, mget (winR rs) i = some w ↔ mget (winR ks) i = some w := fun w => by
  rw [ZjA, ZjA]
  constructor
  ·rintro ⟨h1, h2, h3⟩
   exact ⟨(h w h2).1 h1, h2, fun r hr hi => h3 r ((h r hi).2 hr) hi⟩
  ·rintro ⟨h1, h2, h3⟩
   exact ⟨(h w h2).2 h1, h2, fun r hr hi => h3 r ((h r hi).1 hr) hi⟩
 cases hc : mget (winR rs) i with
 | some w => exact ((h1 w).1 hc).symm
 | none =>
  cases hd : mget (winR ks) i with
  | some w =>
   have := (h1 w).2 hd
   rw [hc] at this
   cases this
  | none => rfl
theorem Zc1 {rs : List Zb} {r : Zb} : r ∈ cntR rs ↔ r.Cancel = false ∧ mget (winR rs) (idR r) = some r := by
 have hW := ZfO rs
 unfold cntR cntL
 rw [(ZaM _).mem_iff, List.mem_filter, List.mem_map]
 constructor
 ·rintro ⟨⟨p, hp, rfl⟩, hc⟩
  refine ⟨by simpa using hc, ?_⟩
  rw [hW.id p hp]
  exact (Zgs hW.nd).1 hp
 ·rintro ⟨hc, hm⟩
  exact ⟨⟨(idR r, r), (Zgs hW.nd).2 hm, rfl⟩, by simp [hc]⟩
theorem ZcE (rs : List Zb) : (cntR rs).Nodup := (ZaM _).nodup_iff.2 (ZgU (ZfO rs))
theorem Zdy (rs : List Zb) : (cntR rs).Pairwise leRp := ZeF _
theorem ZlO {r z : Zb} (h : idR r = idR z) : r.Object = z.Object := by
 have := congrArg ZE.object h
 exact this
theorem ZsO {rs ks : List Zb} {o : Int} (h : ∀ r, r.Object = o → (r ∈ rs ↔ r ∈ ks)) : ofL rs o = ofL ks o := by
 refine Zdl (le := leRp) (fun x _ y _ => Zd5) ((ZcE rs).filter _) ((ZcE ks).filter _) ((Zdy rs).filter _) ((Zdy ks).filter _) fun r => ?_
 unfold ofL
 rw [List.mem_filter, List.mem_filter, Zc1, Zc1]
 constructor
 ·rintro ⟨⟨h1, h2⟩, h3⟩
  have ho : r.Object = o := Wa h3
  refine ⟨⟨h1, ?_⟩, h3⟩
  rw [← Ze0 fun z hz => h z ((ZlO hz).trans ho)]
  exact h2
 ·rintro ⟨⟨h1, h2⟩, h3⟩
  have ho : r.Object = o := Wa h3
  refine ⟨⟨h1, ?_⟩, h3⟩
  rw [Ze0 fun z hz => h z ((ZlO hz).trans ho)]
  exact h2
theorem Zrk {rs ks : List Zb} (h : ∀ r, r ∈ rs ↔ r ∈ ks) : cntR rs = cntR ks := by
 refine Zdl (le := leRp) (fun x _ y _ => Zd5) (ZcE rs) (ZcE ks) (Zdy rs) (Zdy ks) fun r => ?_
 rw [Zc1, Zc1, Ze0 fun z _ => h z]
theorem ZnH {rs ks : List Zb} {r : Zb} (h : ∀ r, r ∈ rs ↔ r ∈ ks) : statR rs r = statR ks r := by
 have h1 : (rs.any fun x => decide (r = x)) = (ks.any fun x => decide (r = x)) := by
  rw [Bool.eq_iff_iff, List.any_eq_true, List.any_eq_true]
  constructor
  ·rintro ⟨x, hx, he⟩; exact ⟨x, (h x).1 hx, he⟩
  ·rintro ⟨x, hx, he⟩; exact ⟨x, (h x).2 hx, he⟩
 unfold statR
 rw [h1, Ze0 fun z _ => h z]
end
section
def leTm (a b : Zc) : Prop := a.T < b.T ∨ (a.T = b.T ∧ a.Report.Seq ≤ b.Report.Seq)
instance (a b : Zc) : Decidable (leTm a b) := by unfold leTm; infer_instance
theorem ZhX {a b c : Zc} (h : leTm a b) (k : leTm b c) : leTm a c := by
 unfold leTm at *
 rcases h with h | ⟨h, h'⟩ <;> rcases k with k | ⟨k, k'⟩
 ·exact .inl (by grind)
 ·exact .inl (by rw [← k]; exact h)
 ·exact .inl (by rw [h]; exact k)
 ·exact .inr ⟨h.trans k, Int.le_trans h' k'⟩
theorem Zpm (a b : Zc) : leTm a b ∨ leTm b a := by
 unfold leTm
 by_cases h : a.T < b.T
 ·exact .inl (.inl h)
 ·by_cases k : b.T < a.T
  ·exact .inr (.inl k)
  ·have e : a.T = b.T := by grind
   rcases Int.le_total a.Report.Seq b.Report.Seq with h1 | h1
   ·exact .inl (.inr ⟨e, h1⟩)
   ·exact .inr (.inr ⟨e.symm, h1⟩)
theorem Zii (a b : Zc) : (a.T < b.T ∧ cmpTm a b = -1) ∨ (b.T < a.T ∧ cmpTm a b = 1) ∨ (a.T = b.T ∧ cmpTm a b = Lib.compareInt a.Report.Seq b.Report.Seq) := by
 unfold cmpTm
 simp only [orL]
 by_cases h : a.T < b.T
 ·refine .inl ⟨h, ?_⟩
  rw [show cq a.T b.T = -1 from if_pos h]
  rfl
 ·by_cases k : b.T < a.T
  ·refine .inr (.inl ⟨k, ?_⟩)
   rw [show cq a.T b.T = 1 by unfold cq; rw [if_neg h, if_pos k]]
   rfl
  ·refine .inr (.inr ⟨by grind, ?_⟩)
   rw [show cq a.T b.T = 0 by unfold cq; rw [if_neg h, if_neg k], if_pos rfl]
   split
   ·rename_i h0; exact h0.symm
   ·rfl
theorem Zqz {a b : Zc} (h : cmpTm a b < 0) : leTm a b := by
 rcases Zii a b with ⟨h1, -⟩ | ⟨-, h2⟩ | ⟨h1, h2⟩
 ·exact .inl h1
 ·omega
 ·refine .inr ⟨h1, ?_⟩
  rw [h2] at h
  unfold Lib.compareInt at h
  split at h
  ·omega
  ·split at h <;> omega
theorem ZqJ {a b : Zc} (h : ¬ cmpTm a b < 0) : leTm b a := by
 rcases Zii a b with ⟨-, h2⟩ | ⟨h1, -⟩ | ⟨h1, h2⟩
 ·omega
 ·exact .inl h1
 ·refine .inr ⟨h1.symm, ?_⟩
  rw [h2] at h
  unfold Lib.compareInt at h
  split at h
  ·omega
  ·split at h <;> omega
theorem Zr2 (xs : List Zc) (j : Nat) : swpTm xs j = swpG xs j := rfl
theorem ZlL : ∀ (j : Nat) (xs : List Zc), dwnTm xs j = dwnG cmpTm xs j
 | 0, _ => rfl
 | j + 1, xs => by rw [dwnTm, dwnG, ZlL j, Zr2]
theorem Zhx (xs : List Zc) : ∀ i, srtTm xs i = srtG cmpTm xs i
 | 0 => rfl
 | i + 1 => by rw [srtTm, srtG, ZlL, Zhx xs i]
theorem Zky (xs : List Zc) : (srtTm xs (xs.length - 1)).Perm xs := by
 rw [Zhx]
 rcases Nat.eq_zero_or_pos xs.length with h | h
 ·rw [List.length_eq_zero_iff.1 h]
  exact .refl _
 ·exact ZbL _ _ _ (by omega)
theorem Zmp (xs : List Zc) : (srtTm xs (xs.length - 1)).Pairwise leTm := by
 refine List.pairwise_iff_getElem.2 fun p q hp hq hpq => ?_
 have hl := ZcA xs (xs.length - 1)
 rw [← Zk hp, ← Zk hq]
 rw [Zhx]
 exact ZcW (c := cmpTm) (le := leTm) (fun a b h => Zqz h) (fun a b h => ZqJ h) (fun _ _ _ => ZhX) xs (xs.length - 1) (by omega) p q hpq (by omega)
def posT (l : List Zc) (x : Zc) : Nat → Nat
 | 0 => 0
 | k + 1 => if leTm (gi l (k : Int)) x then k + 1 else posT l x k
def putL (l : List Zc) (x : Zc) : List Zc := l.take (posT l x l.length) ++ x :: l.drop (posT l x l.length)
theorem Zk3 (l : List Zc) (x : Zc) : ∀ k, posT l x k ≤ k
 | 0 => Wl _
 | k + 1 => by
  have := Zk3 l x k
  rw [posT]
  split <;> omega
theorem Zl2 (l : List Zc) (x : Zc) : ∀ k j : Nat, posT l x k ≤ j → j < k → ¬ leTm (gi l (j : Int)) x
 | 0, j, _, h => absurd h (Nat.not_lt_zero _)
 | k + 1, j, h1, h2 => by
  rw [posT] at h1
  split at h1
  ·omega
  ·rename_i hk
   rcases Nat.lt_or_ge j k with h3 | h3
   ·exact Zl2 l x k j h1 h3
   ·rw [show j = k by omega]
    exact hk
theorem Zl7 (l : List Zc) (x : Zc) : ∀ k p : Nat, posT l x k = p + 1 → leTm (gi l (p : Int)) x
 | 0, p, h => by simp [posT] at h
 | k + 1, p, h => by
  rw [posT] at h
  split at h
  ·rename_i hk
   rw [show p = k by omega]
   exact hk
  ·exact Zl7 l x k p h
theorem Znn (l : List Zc) (x : Zc) : (putL l x).Perm (x :: l) := by
 unfold putL
 refine List.perm_middle.trans (List.Perm.cons _ ?_)
 rw [List.take_append_drop]
theorem ZqF {l : List Zc} {x : Zc} (h : l.Pairwise leTm) : (putL l x).Pairwise leTm := by
 have hp := Zk3 l x l.length
 unfold putL
 generalize hq : posT l x l.length = p at *
 have hlo : ∀ y ∈ l.take p, leTm y x := fun y hy => by
  obtain ⟨j, hj, rfl⟩ := List.getElem_of_mem hy
  rw [Wt] at hj
  cases p with
  | zero => omega
  | succ p =>
   have h1 := Zl7 l x l.length p hq
   rw [Zk (by omega)] at h1
   rw [List.getElem_take]
   rcases Nat.lt_or_ge j p with h2 | h2
   ·exact ZhX (List.pairwise_iff_getElem.1 h j p (by omega) (by omega) h2) h1
   ·have e : j = p := by omega
    subst e
    exact h1
 have hhi : ∀ y ∈ l.drop p, leTm x y := fun y hy => by
  obtain ⟨j, hj, rfl⟩ := List.getElem_of_mem hy
  rw [List.length_drop] at hj
  rw [List.getElem_drop]
  have h1 := Zl2 l x l.length (p + j) (by omega) (by omega)
  rw [Zk (by omega)] at h1
  exact (Zpm _ _).resolve_left h1
 refine List.pairwise_append.2 ⟨h.sublist (List.take_sublist _ _), List.pairwise_cons.2 ⟨hhi, h.sublist (List.drop_sublist _ _)⟩, fun a ha b hb => ?_⟩
 rcases List.mem_cons.1 hb with rfl | hb
 ·exact hlo a ha
 ·exact ZhX (hlo a ha) (hhi b hb)
def puts (l : List Zc) : List Zc := l.foldl putL []
theorem ZfN (l : List Zc) : (puts l).Perm l ∧ (puts l).Pairwise leTm := by
 have key : ∀ (l a : List Zc), a.Pairwise leTm → (l.foldl putL a).Perm (a ++ l) ∧ (l.foldl putL a).Pairwise leTm := by
  intro l
  induction l with
  | nil => intro a h; exact ⟨by rw [Wh]; exact .refl _, h⟩
  | cons x l ih =>
   intro a h
   obtain ⟨h1, h2⟩ := ih (putL a x) (ZqF h)
   refine ⟨h1.trans (((Znn a x).append_right l).trans ?_), h2⟩
   exact List.perm_middle.symm
 have := key l [] .nil
 rw [Wg] at this
 exact this
theorem Zn6 (l : List Zc) (x : Zc) : puts (l ++ [x]) = putL (puts l) x := by
 unfold puts
 rw [List.foldl_append]
 rfl
theorem ZjV (l : List Zc) : (puts l).length = l.length := (ZfN l).1.length_eq
noncomputable def repL (rs : List Zb) (es : List Za) (o : Int) : List Zc := puts (tmXL es (ofL rs o))
theorem Ztp {r z : Zb} (h : r.Object = z.Object) (k : r.Seq = z.Seq) : idR r = idR z := by unfold idR; rw [h, k]
theorem ZsB {rs : List Zb} {o : Int} {r z : Zb} (hr : r ∈ ofL rs o) (hz : z ∈ ofL rs o) (h : r.Seq = z.Seq) : r = z := by
 obtain ⟨h1, h2⟩ := List.mem_filter.1 hr
 obtain ⟨g1, g2⟩ := List.mem_filter.1 hz
 have e := Ztp ((Wa h2).trans (Wa g2).symm : r.Object = z.Object) h
 have k1 := (Zc1.1 h1).2
 have k2 := (Zc1.1 g1).2
 rw [e, k2] at k1
 exact (Option.some.inj k1).symm
theorem ZoH (rs : List Zb) (o : Int) : (ofL rs o).Nodup := (ZcE rs).filter _
theorem Zg1 {ex : List Za} : ∀ {cs : List Zb}, cs.Nodup → (tmXL ex cs).Nodup
 | [], _ => List.nodup_nil
 | r :: cs, h => by
  obtain ⟨h1, h2⟩ := List.nodup_cons.1 h
  have ih := Zg1 (ex := ex) h2
  unfold tmXL at *
  rw [List.filterMap_cons]
  split
  ·exact ih
  ·rename_i z hz
   refine List.nodup_cons.2 ⟨fun hm => h1 ?_, ih⟩
   have h3 := (ZeJ (ex := ex) (cs := cs) hm).1
   unfold tmF at hz
   split at hz
   ·injection hz with hz
    subst hz
    exact h3
   ·cases hz
theorem ZrT {ex : List Za} {rs : List Zb} {o : Int} : ∀ x ∈ tmXL ex (ofL rs o), ∀ y ∈ tmXL ex (ofL rs o), leTm x y → leTm y x → x = y := fun x hx y hy h k => by
 obtain ⟨h1, h2⟩ := ZeJ hx
 obtain ⟨g1, g2⟩ := ZeJ hy
 have e : x.Report.Seq = y.Report.Seq ∧ x.T = y.T := by
  unfold leTm at h k
  rcases h with h | ⟨h, h'⟩ <;> rcases k with k | ⟨k, k'⟩
  ·exact absurd h (by grind)
  ·exact absurd h (by rw [k]; grind)
  ·exact absurd k (by rw [h]; grind)
  ·exact ⟨Int.le_antisymm h' k', h⟩
 have e2 := ZsB h1 g1 e.1
 cases x; cases y
 simp only at e e2 ⊢
 rw [e2, e.2]
theorem ZnZ (rs : List Zb) (es : List Za) (o : Int) : repL rs es o = tmXS es (ofL rs o) := by
 have h1 := ZfN (tmXL es (ofL rs o))
 have h2 := Zky (tmXL es (ofL rs o))
 have h3 := Zmp (tmXL es (ofL rs o))
 have hn := Zg1 (ex := es) (ZoH rs o)
 unfold repL tmXS
 refine Zdl (le := leTm) (fun x hx y hy => ZrT x (h1.1.mem_iff.1 hx) y (h1.1.mem_iff.1 hy)) (h1.1.nodup_iff.2 hn) (h2.nodup_iff.2 hn) h1.2 h3 fun x => ?_
 rw [h1.1.mem_iff, h2.mem_iff]
theorem Zp8 {es ks : List Za} (h : ∀ y, y ∈ es ↔ y ∈ ks) (cs : List Zb) : tmXL es cs = tmXL ks cs := by
 unfold tmXL
 congr 1
 funext r
 unfold tmF
 rw [ZqD h]
theorem Zpd {es ks : List Za} (h : ∀ y, y ∈ es ↔ y ∈ ks) (cs : List Zb) : tmXS es cs = tmXS ks cs := by
 unfold tmXS
 rw [Zp8 h]
theorem ZjY {l : List (Zb × Bool)} {x : List (Za × Bool)} {rs : List Zb} {es : List Za} {o : Int} (hr : ∀ r, r.Object = o → (r ∈ pKR l ↔ r ∈ rs)) (he : ∀ y, y ∈ pKE x ↔ y ∈ es) : tmX l x o = repL rs es o := by
 rw [ZnZ]
 unfold tmX
 rw [ZsO (ks := rs) fun r ho => ((ZaM (pKR l)).mem_iff).trans (hr r ho)]
 exact Zpd (fun y => ((ZcO (pKE x)).mem_iff).trans (he y)) _
end
end Go.Vt
