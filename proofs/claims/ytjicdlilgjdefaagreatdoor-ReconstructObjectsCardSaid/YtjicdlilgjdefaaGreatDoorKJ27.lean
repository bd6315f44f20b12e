/- that objects are reconstructed from their reports (part 27 of 29.) Conditions: those that each statement names. -/
import Derived.Test.YtjicdlilgjdefaaGreatDoorKJ25
import Derived.Test.YtjicdlilgjdefaaGreatDoorKJ26
set_option linter.unusedSimpArgs false
set_option linter.unusedVariables false
set_option maxHeartbeats 2000000
set_option maxRecDepth 100000
namespace Go.Vt
open Go.RowKit Go.Proofs
open Go.Proofs.Tryz (prog)
section
structure OD where
 id : Int
 us : List PU
 u : SlS rP 36 us
def OD.hd (d : OD) : ZaS := ⟨d.id, slH d.u⟩
def OD.mm (d : OD) : List Blk := mS 115 d.u
def odM (ds : List OD) : List Blk := ds.flatMap OD.mm
abbrev Obt := Int × List PU
structure ObO (os : List Obt) where
 dn : List OD
 o : SlS Zaf 2 (dn.map OD.hd)
 e : dn.map (fun d => (d.id, d.us)) = os
def ObO.mem {os : List Obt} (s : ObO os) : List Blk := mS 82 s.o ++ odM s.dn
def ObO.no : ObO [] := ⟨[], SlS.no, rfl⟩
theorem Zse {ds : List OD} {d : OD} (h : d ∈ ds) : d.mm.Sublist (odM ds) := by
 unfold odM
 induction ds with
 | nil => cases h
 | cons a ds ih =>
  rw [List.flatMap_cons]
  rcases List.mem_cons.1 h with rfl | h
  ·exact List.sublist_append_left _ _
  ·exact (ih h).trans (List.sublist_append_right _ _)
theorem Zpk (ds : List OD) (d : OD) : odM (ds ++ [d]) = odM ds ++ d.mm := by
 unfold odM
 rw [List.flatMap_append]
 simp
instance (priority := 30000) ZHC {us : List PU} (i : Int) (u : SlS rP 36 us) : BdC prog 82 [(0, .int .i64 i), (1, vSl u)] (.agg (Zaf ⟨i, slH u⟩)) := by
 rw [Za0]
 have : ∀ a l c, BdC prog 82 [(0, .int .i64 i), (1, .slice a l c)] (.agg (Zaf ⟨i, ⟨a, l, c⟩⟩)) := fun a l c => inferInstance
 exact this _ _ _
def obT (f : Int → List PU) (ids : List Int) : List Obt := ids.filterMap fun o => if f o = [] then none else some (o, f o)
theorem ZlX {f : Int → List PU} {ids : List Int} : (obT f ids).length ≤ ids.length := List.length_filterMap_le _ _
theorem Zke {f : Int → List PU} {ids : List Int} {m : Nat} (h : m < ids.length) : obT f (ids.take (m + 1)) = if f (gi ids (m : Int)) = [] then obT f (ids.take m) else obT f (ids.take m) ++ [(gi ids (m : Int), f (gi ids (m : Int)))] := by
 unfold obT
 rw [Wn h, List.filterMap_append, Zk h]
 by_cases hc : f ids[m] = []
 ·simp [hc]
 ·simp [hc]
noncomputable def obX (s : ZC) (l : List (Zb × Bool)) (x : List (Za × Bool)) : List Obt := obT (fun o => trT s (tmX l x o)) (objL (sorted (pKR l)))
theorem Zua (xs : List Int) : (cmI' xs).length ≤ xs.length := ZlZ xs _
attribute [local irreducible] trT
set_option maxHeartbeats 2000000 in
theorem Zi3 (w0 w : World) (L : List Blk) (px : Nat) (l : List (Zb × Bool)) (x : List (Za × Bool)) (s : ZC) [h : InkX w0 L px l x] (hw : Own w0 L w) (hk : TrX s l x) :
  Calls prog 23 [.pointer (some ⟨px, 0, none⟩), .agg (Zm s)].toArray w (RetM (ObO (obX s l x)) (fun s => .tuple #[vSl s.o, .int .i64 0]) (fun s => s.mem) w) := by
 have hin := h.all hw
 have hl := hk.k.ok.n
 have hIl : (objL (sorted (pKR l))).length ≤ 12 := by
  refine Wi (Zua _) ?_
  rw [Ws]
  refine Wi ZfR ?_
  rw [ZbS, Ws]
  exact hl
 have hdf : obX s l x = obT (fun o => trT s (tmX l x o)) (objL (sorted (pKR l))) := rfl
 refine Zg Tryz.func23 rfl Tryz.ntmps23 rfl ?_
 repeat (first | (refine wkM ?_; intros) | (refine wnM ?_ ?_; (focus (exact hl)); intros))
 rename_i b3 s0
 generalize objL (sorted (pKR l)) = I at *
 refine Zq (S := (m : Nat) × ObO (obT (fun o => trT s (tmX l x o)) (I.take m))) (fun q => q.1 ≤ I.length) (fun q => [(0, .pointer (some ⟨px, 0, none⟩)), (3, .pointer (some ⟨b3, 0, none⟩)), (6, vSl q.2.o), (14, vSl s0), (15, .int .i64 (I.length : Nat)), (16, .int .i64 (q.1 : Nat))]) (fun q => mS 82 q.2.o ++ (mS 3 s0 ++ (⟨b3, Zm s, 32⟩ :: odM q.2.dn))) (fun q => I.length - q.1) ⟨0, ObO.no⟩ (Wm _) sbB suB (fun q hq => ?_)
 obtain ⟨m, dn, o, hdn⟩ := q
 simp only at hq ⊢
 have hol := ZlX (f := fun o => trT s (tmX l x o)) (ids := I.take m)
 have hdl : (dn.map OD.hd).length ≤ m := by
  have := congrArg List.length hdn
  rw [Ws] at this
  rw [Ws, this]
  rw [Wt] at hol
  omega
 repeat (refine wkM ?_; intros)
 refine Zn rfl (fun h1 => ?_) (fun h1 => ?_)
 ·have hlt : m < I.length := by have := Wa h1; omega
  have hnx := Zke (f := fun o => trT s (tmX l x o)) hlt
  rcases s0.cases 3 with ⟨x0, -, -⟩ | ⟨bs, cb, sp, hc1, x1, x2, xne⟩
  ·rw [x0] at hlt
   cases hlt
  simp only [x1, x2, Wf, Wg]
  repeat (first | (refine wkM ?_; intros) | (refine wnM ?_ ?_; (focus (exact hk)); intros))
  rename_i u
  generalize gi I (m : Int) = z at *
  refine Zn rfl (fun h2 => ?_) (fun h2 => ?_)
  ·have h3 := Wa h2
   have hne : trT s (tmX l x z) ≠ [] := fun h0 => by rw [h0] at h3; simp at h3
   rw [if_neg hne] at hnx
   generalize trT s (tmX l x z) = us at *
   repeat (refine wkM ?_; intros)
   refine sU rfl rfl ?_ ?_ ?_ ?_
   ·rfl
   ·rfl
   ·exact ⟨by decide, by omega, by omega⟩
   intro o'
   repeat (refine wkO ?_; intros)
   obtain ⟨D, hD1, hD2, hD3⟩ : ∃ D : OD, OD.hd D = ⟨z, slH u⟩ ∧ OD.mm D = mS 115 u ∧ (D.id, D.us) = (z, us) := ⟨⟨z, us, u⟩, rfl, rfl, rfl⟩
   have ho : dn.map OD.hd ++ [⟨z, slH u⟩] = (dn ++ [D]).map OD.hd := by rw [List.map_append, ← hD1]; rfl
   obtain ⟨o3, e1, e2⟩ := SlS.turn 82 ho o'
   refine Zmn (M := mS 82 o3 ++ (⟨bs, row (eI .i64) I sp, 3⟩ :: ⟨b3, Zm s, 32⟩ :: odM (dn ++ [D]))) (L' := mS 82 o3 ++ (mS 115 u ++ (⟨bs, row (eI .i64) I sp, 3⟩ :: ⟨b3, Zm s, 32⟩ :: odM dn))) (by rw [e2]; exact suB) ?_ ?_
   ·refine List.Perm.append_left _ ?_
    rw [Zpk, hD2, ← Wf, ← Wf]
    exact List.perm_append_comm
   ·exact Zj ⟨m + 1, dn ++ [D], o3, by rw [List.map_append, hdn, hnx, ← hD3]; rfl⟩ hlt (by simp only [e1, x1]; exact sbB) (by simp only [x2]; exact suB) (by show I.length - (m + 1) < I.length - m; omega)
  ·have h3 := Wb h2
   have hnil : trT s (tmX l x z) = [] := List.eq_nil_of_length_eq_zero (by omega)
   rw [if_pos hnil] at hnx
   repeat (refine wkO ?_; intros)
   exact Zj ⟨m + 1, dn, o, hdn.trans hnx.symm⟩ hlt (by simp only [x1]; exact sbB) (by simp only [x2]; exact suB) (by show I.length - (m + 1) < I.length - m; omega)
 ·have hge : m = I.length := by have := Wb h1; omega
  have e0 : obT (fun o => trT s (tmX l x o)) (I.take m) = obX s l x := by rw [hge, List.take_length, hdf]
  repeat (refine wkO ?_; intros)
  refine Zn rfl (fun h2 => ?_) (fun h2 => ?_)
  ·have h3 := Wa h2
   omega
  repeat (refine wkM ?_; intros)
  refine Zz rfl (Zl rfl) (Zl rfl) (fun w hw => ⟨⟨dn, o, hdn.trans e0⟩, rfl, ?_⟩)
  show Own _ (mS _ o ++ odM dn) w
  exact hw.sub suB
instance (priority := high) ZvR (w0 : World) (L : List Blk) (px : Nat) (l : List (Zb × Bool)) (x : List (Za × Bool)) (s : ZC) [h : InkX w0 L px l x] : SpecR prog w0 L 23 [.pointer (some ⟨px, 0, none⟩), .agg (Zm s)] (ObO (obX s l x)) (fun s => .tuple #[vSl s.o, .int .i64 0]) (fun s => s.mem) (TrX s l x) := ⟨fun hp w hw => Zi3 w0 w L px l x s hw hp⟩
end
section
theorem Zt9 {pts : List SS} (hB : Bnd pts) (hi : Inc pts) (hn : 0 < pts.length) : frS pts ≠ [] := by
 by_cases h1 : pts.length = 1
 ·unfold frS
  rw [if_pos h1]
  simp
 ·intro h0
  have h3 := ((ZlC hB hi (by omega)).2.2.2 (gi pts ((0 : Nat) : Int)).T _).2 (Zsv hi (m := pts.length - 1) (i := 0) (by omega) (by omega) Rat.le_refl (Rat.le_of_lt (hi 0 (by omega))))
  rw [h0] at h3
  obtain ⟨u, hu, -⟩ := h3
  cases hu
theorem Zsz {l : List SS} {g : Rat} (hB : Bnd l) (hi : Inc l) (hn : 0 < l.length) : (thrN l g l.length).1 ≠ [] := by
 obtain ⟨k, hk⟩ : ∃ k, l.length = k + 1 := ⟨l.length - 1, by omega⟩
 have ho := Zdz (g := g) hB hi k (by omega)
 rw [hk, thrN, if_neg]
 ·intro h0
  have h1 := (List.append_eq_nil_iff.1 h0).2
  have er : (thrN l g k).2 ++ [gi l (k : Int)] = (l.drop (k - (thrN l g k).2.length)).take ((thrN l g k).2.length + 1) := by
   have i1 := ho.r
   have i2 := ho.run
   rw [Wn (by rw [List.length_drop]; omega), ← i2, List.getElem_drop, Zk (by omega)]
   congr 2
   simp only [show k - (thrN l g k).2.length + (thrN l g k).2.length = k by omega]
  rw [er] at h1
  have i1 := ho.r
  obtain ⟨p1, p2, -⟩ := ZeD (a := k - (thrN l g k).2.length) (r := (thrN l g k).2.length + 1) hB hi (by omega)
  exact Zt9 p1 p2 (by rw [Wt, List.length_drop]; omega) h1
 ·unfold thrC
  rw [We (by omega)]
  simp
theorem ZrV {v : Int} : kpT v [] = [] := by
 have h1 := Zcy v []
 have h2 := ZbP (cCp v []) ([] : List Zc).length
 exact List.eq_nil_of_length_eq_zero (by simp only [Wx] at *; omega)
theorem Zli {s : ZC} {T : List Zc} (hT : ∀ z ∈ T, TkOk z) : trT s T = [] ↔ kpT s.MaxSpeed T = [] := by
 rw [Zeo]
 constructor
 ·intro h
  by_cases h0 : kpT s.MaxSpeed T = []
  ·exact h0
  ·exfalso
   have h1 := Zsz (g := (s.MaxGap : Rat)) (ZcR fun x hx => hT x (Zej hx)) (Zhj s.MaxSpeed T) (by rw [ZaZ]; exact List.length_pos_iff.2 h0)
   rw [ZaZ] at h1
   exact h1 h
 ·intro h
  rw [h]
  rfl
theorem Zot {a b : Int} {xs ys : List Int} (h : lexC (a :: xs) (b :: ys) ≤ 0) : a ≤ b := by
 rw [Zfe] at h
 unfold Lib.compareInt at h
 by_cases h1 : a < b
 ·omega
 ·by_cases h2 : b < a
  ·rw [if_neg h1, if_pos h2] at h
   simp at h
  ·omega
theorem Zpt {a b : Zb} (h : leRp a b) : a.Object ≤ b.Object := Zot h
theorem ZjS {rs : List Zb} {z : Int} : z ∈ objL rs ↔ ∃ r ∈ cntR rs, r.Object = z := by
 unfold objL cmI'
 rw [Zg9 _ (Wl _), List.take_length, List.mem_map]
theorem ZpR (rs : List Zb) : (objL rs).Pairwise (· < ·) := Zlz (List.pairwise_map.2 ((Zdy rs).imp fun h => Zpt h)) _ (Wl _)
theorem ZsH {rs : List Zb} {z : Int} (h : z ∉ objL rs) : ofL rs z = [] := by
 refine List.eq_nil_iff_forall_not_mem.2 fun r hr => h ?_
 obtain ⟨h1, h2⟩ := List.mem_filter.1 hr
 exact ZjS.2 ⟨r, h1, Wa h2⟩
theorem ZpU {rs : List Zb} {es : List Za} {o : Int} (h : ofL rs o = []) : repL rs es o = [] := by
 unfold repL
 rw [h]
 rfl
theorem ZsQ {l m : List Int} (h1 : l.Pairwise (· < ·)) (h2 : m.Pairwise (· < ·)) (h : ∀ z, z ∈ l ↔ z ∈ m) : l = m := by
 have n1 : l.Nodup := h1.imp fun h => by omega
 have n2 : m.Nodup := h2.imp fun h => by omega
 exact Zcj (fun _ _ => Int.le_antisymm) ((List.perm_ext_iff_of_nodup n1 n2).2 h) (h1.imp fun h => Int.le_of_lt h) (h2.imp fun h => Int.le_of_lt h)
theorem Zk9 (f : Int → List PU) (ids : List Int) : obT f ids = (ids.filter fun o => f o ≠ []).map fun o => (o, f o) := by
 unfold obT
 induction ids with
 | nil => rfl
 | cons a l ih =>
  by_cases h : f a = []
  ·rw [List.filterMap_cons, if_pos h, List.filter_cons_of_neg (by simpa using h)]
   exact ih
  ·rw [List.filterMap_cons, if_neg h, List.filter_cons_of_pos (by simpa using h), List.map_cons]
   exact congrArg _ ih
theorem Zpq {f : Int → List PU} {l m : List Int} (h1 : l.Pairwise (· < ·)) (h2 : m.Pairwise (· < ·)) (h : ∀ z, f z ≠ [] → (z ∈ l ↔ z ∈ m)) : obT f l = obT f m := by
 rw [Zk9, Zk9]
 congr 1
 refine ZsQ (h1.sublist List.filter_sublist) (h2.sublist List.filter_sublist) fun z => ?_
 rw [List.mem_filter, List.mem_filter]
 constructor
 ·rintro ⟨a, b⟩
  exact ⟨(h z (by simpa using b)).1 a, b⟩
 ·rintro ⟨a, b⟩
  exact ⟨(h z (by simpa using b)).2 a, b⟩
noncomputable def obW (s : ZC) (rs : List Zb) (es : List Za) (j : Nat) : List Obt := obT (fun o => trT s (repL rs es o)) ([1, 2, 3].take j)
theorem ZrP {s : ZC} {rs : List Zb} {es : List Za} (i : InkO rs es) (hk : ∀ r ∈ rs, 1 ≤ r.Object ∧ r.Object ≤ 3) : obX s i.R i.X = obW s rs es 3 := by
 unfold obX obW
 rw [show (fun o => trT s (tmX i.R i.X o)) = fun o => trT s (repL rs es o) from funext fun o => by rw [i.tm o]]
 have hc : objL (sorted (pKR i.R)) = objL rs := by
  unfold objL
  rw [Zrk fun r => ((ZaM (pKR i.R)).mem_iff).trans (i.memR r)]
 rw [hc]
 refine Zpq (ZpR rs) (by decide) fun z hz => ⟨fun h => ?_, fun h => ?_⟩
 ·obtain ⟨r, hr, rfl⟩ := ZjS.1 h
  have := hk r (Zka hr)
  simp only [List.take_succ_cons, List.take_zero, Ww, List.not_mem_nil, or_false]
  omega
 ·by_cases h1 : z ∈ objL rs
  ·exact h1
  ·exfalso
   refine hz ?_
   rw [ZpU (ZsH h1)]
   rw [Zeo, ZrV]
   rfl
theorem ZqK {s : ZC} {rs : List Zb} {es : List Za} (h : RsOk rs es) (w : World) {j : Nat} (hj : j < 3) : obW s rs es (j + 1) = if kpT s.MaxSpeed (repL rs es ((j : Int) + 1)) = [] then obW s rs es j else obW s rs es j ++ [((j : Int) + 1, trT s (repL rs es ((j : Int) + 1)))] := by
 unfold obW
 rw [Zke (by simpa using hj)]
 have hg : gi [1, 2, 3] (j : Int) = (j : Int) + 1 := by
  rcases j with _ | _ | _ | j
  ·rfl
  ·rfl
  ·rfl
  ·omega
 rw [hg]
 by_cases h0 : kpT s.MaxSpeed (repL rs es ((j : Int) + 1)) = []
 ·rw [if_pos ((Zli (h.rk w)).2 h0), if_pos h0]
 ·rw [if_neg (fun h1 => h0 ((Zli (h.rk w)).1 h1)), if_neg h0]
theorem Zr7 {f : Int → List PU} (l m : List Int) : obT f (l ++ m) = obT f l ++ obT f m := List.filterMap_append
theorem Ztu {s : ZC} {rs : List Zb} {es : List Za} {j : Nat} {x : Obt} (hj : j < 3) (h : obW s rs es (j + 1) = obW s rs es j ++ [x]) : (obW s rs es j).length < (obW s rs es 3).length ∧ gi (obW s rs es 3) (((obW s rs es j).length : Nat) : Int) = x := by
 have e : obW s rs es 3 = obW s rs es j ++ x :: obT (fun o => trT s (repL rs es o)) ([1, 2, 3].drop (j + 1)) := by
  have : obW s rs es 3 = obW s rs es (j + 1) ++ obT (fun o => trT s (repL rs es o)) ([1, 2, 3].drop (j + 1)) := by
   unfold obW
   rw [← Zr7, List.take_append_drop]
   rfl
  rw [this, h, List.append_assoc]
  rfl
 have hl : (obW s rs es j).length < (obW s rs es 3).length := by
  rw [e, Wp, Wu]
  omega
 refine ⟨hl, ?_⟩
 rw [Zk hl]
 simp only [e]
 rw [List.getElem_append_right (Wl _)]
 simp
end
section
instance ZCP : BsC prog 73 0 [] (row ZY [] []) 80 := ⟨fun w => by kernel_rfl⟩
theorem Zku (v : Value) (us : List Zav) (w : World) (hv : ArgS w v ZY us) (hn : us = [] → v = .slice none 0 0) (hl : us.length ≤ 1048576) :
  Calls prog 116 [v].toArray w (RetM (SlS ZY 2 us) (fun s => vSl s) (fun s => mS 80 s) w) := by
 by_cases h0 : us = []
 ·obtain rfl := hn h0
  subst h0
  refine Zg Tryz.func116 rfl Tryz.ntmps116 rfl ?_
  repeat (refine wkM ?_; intros)
  exact Zf rfl rfl (fun w hw => ⟨SlS.no, rfl, hw⟩)
 ·obtain ⟨bw, ow, cw, rfl, hcw, hrow⟩ := hv.blk (k := 1) h0 []
  have hrow' : ∀ L, RowC w L bw ow Zav ZY us := fun L => ⟨fun w' hw' => hrow.out w' (hw'.sub (Wk _))⟩
  refine Zg Tryz.func116 rfl Tryz.ntmps116 rfl ?_
  repeat (refine wkM ?_; intros)
  refine sG rfl rfl ?_ h0 ?_ ?_ ?_ ?_ ?_
  ·rfl
  ·rfl
  ·rfl
  ·decide
  ·exact ⟨by omega, by omega⟩
  intro s'
  repeat (refine wkM ?_; intros)
  exact Zf rfl rfl (fun w hw => ⟨s', rfl, hw.sub suB⟩)
instance ZAq (w0 : World) (L : List Blk) (v : Value) (us : List Zav) [h : LstN w0 L v Zav ZY us] : SpecR prog w0 L 116 [v] (SlS ZY 2 us) (fun s => vSl s) (fun s => mS 80 s) (us.length ≤ 1048576) := ⟨fun hl w hw => Zku v us w (h.out w hw) h.nil hl⟩
instance ZzX : SpecC prog 117 [.slice none 0 0] (.slice none 0 0) True := ⟨fun _ w => by
 refine Zg Tryz.func117 rfl Tryz.ntmps117 rfl ?_
 repeat (refine wkM ?_; intros)
 exact Zf rfl rfl (fun w hw => Zi hw)⟩
abbrev zn0 (nm : ByteArray) : Zav := ⟨nm, ⟨none, 0, 0⟩⟩
theorem ZkE (v : Value) (nm : ByteArray) (w : World) (hv : ArgS w v ZY [zn0 nm]) :
  Calls prog 64 [v].toArray w (RetM (SlS ZY 2 [zn0 nm]) (fun s => vSl s) (fun s => mS 80 s) w) := by
 have hvl : ∀ L, LstN w L v Zav ZY [zn0 nm] := fun L => ⟨fun w' hw' => hv.to hw'.ext, fun h => by cases h⟩
 have hlz : [zn0 nm].length = 1 := rfl
 have hz0 : gi [zn0 nm] (0 : Int) = ⟨nm, ⟨none, 0, 0⟩⟩ := rfl
 have hl1 : [zn0 nm].length ≤ 1048576 := Nat.le_of_ble_eq_true rfl
 refine Zg Tryz.func64 rfl Tryz.ntmps64 rfl ?_
 repeat (first | (refine wkM ?_; intros) | (refine wnM ?_ ?_; (focus (exact hl1)); intros))
 rename_i s
 rcases s.cases 80 with ⟨x0, -, -⟩ | ⟨bs, cb, sp, hc1, x1, x2, xne⟩
 ·cases x0
 simp only [x1, x2, Wf, Wg]
 repeat (refine wkM ?_; intros)
 have hg : gi [zn0 nm] ((0 : Nat) : Int) = zn0 nm := rfl
 refine Zq (S := Nat) (fun m => m ≤ 1) (fun m => [(3, .slice (some ⟨bs, 0, none⟩) 1 cb), (11, .int .i64 ((1 : Nat) : Int)), (12, .int .i64 (m : Nat))]) (fun _ => [⟨bs, row ZY [zn0 nm] sp, 80⟩]) (fun m => 1 - m) 0 (Wm _) sbB suB (fun m hm => ?_)
 repeat (refine wkM ?_; intros)
 refine Zn rfl (fun h1 => ?_) (fun h1 => ?_)
 ·obtain rfl : m = 0 := by have := Wa h1; omega
  simp only [Int.natCast_zero]
  repeat (refine wkM ?_; intros)
  simp only [hz0]
  repeat (refine wkM ?_; intros)
  refine sRF (i := 0) (f := 1) (zn0 nm) rfl rfl ?_ ?_
  ·rw [hlz]
   decide
  rw [show [zn0 nm].set (0 : Int).toNat (zn0 nm) = [zn0 nm] from rfl]
  repeat (refine wkM ?_; intros)
  simp only [hz0]
  repeat (refine wkM ?_; intros)
  refine Zq (S := Unit) (fun _ => True) (fun _ => [(3, .slice (some ⟨bs, 0, none⟩) 1 cb), (11, .int .i64 ((1 : Nat) : Int)), (12, .int .i64 ((0 : Nat) : Int)), (30, .int .i64 ((0 : Nat) : Int)), (31, .int .i64 0)]) (fun _ => [⟨bs, row ZY [zn0 nm] sp, 80⟩]) (fun _ => 0) () trivial sbB suB (fun _ _ => ?_)
  repeat (refine wkM ?_; intros)
  exact Zj 1 (Wl _) sbB suB (by omega)
 ·repeat (refine wkM ?_; intros)
  exact Zf rfl rfl (fun w hw => ⟨s, by show Ending.returned _ = Ending.returned (vSl s); rw [x1]; rfl, by show Own _ (mS 80 s) _; rw [x2]; exact hw.sub suB⟩)
instance ZyB (w0 : World) (L : List Blk) (v : Value) (nm : ByteArray) [h : LstC w0 L v Zav ZY [zn0 nm]] : SpecR prog w0 L 64 [v] (SlS ZY 2 [zn0 nm]) (fun s => vSl s) (fun s => mS 80 s) True := ⟨fun _ w hw => ZkE v nm w (h.out w hw)⟩
structure DbO (os : List Obt) (nm : ByteArray) where
 o : ObO os
 z : SlS ZY 2 [zn0 nm]
def DbO.mem {os : List Obt} {nm : ByteArray} (s : DbO os nm) : List Blk := mS 80 s.z ++ s.o.mem
instance (priority := 30000) ZHu {os : List ZaS} {zs : List Zav} (o : SlS Zaf 2 os) (z : SlS ZY 2 zs) : BdC prog 75 [(0, vSl o), (1, vSl z)] (.agg (Z4 ⟨slH o, slH z⟩)) := by
 rw [Za0, Za0]
 have : ∀ a l c a' l' c', BdC prog 75 [(0, .slice a l c), (1, .slice a' l' c')] (.agg (Z4 ⟨⟨a, l, c⟩, ⟨a', l', c'⟩⟩)) := fun a l c a' l' c' => inferInstance
 exact this _ _ _ _ _ _
instance (priority := 30000) ZHe {os : List ZaS} (o : SlS Zaf 2 os) (h : Sl) : LdC prog 62 (Z4 ⟨slH o, h⟩) 0 (vSl o) := by
 rw [Za0]
 have : ∀ a l c, LdC prog 62 (Z4 ⟨⟨a, l, c⟩, h⟩) 0 (.slice a l c) := fun a l c => inferInstance
 exact this _ _ _
instance (priority := 30000) ZGg {zs : List Zav} (z : SlS ZY 2 zs) (h : Sl) : LdC prog 73 (Z4 ⟨h, slH z⟩) 1 (vSl z) := by
 rw [Za0]
 have : ∀ a l c, LdC prog 73 (Z4 ⟨h, ⟨a, l, c⟩⟩) 1 (.slice a l c) := fun a l c => inferInstance
 exact this _ _ _
theorem ZiK (w0 w : World) (L : List Blk) (px : Nat) (l : List (Zb × Bool)) (x : List (Za × Bool)) (s : ZC) (v : Value) (nm : ByteArray) [h : InkX w0 L px l x] [hz : LstC w0 L v Zav ZY [zn0 nm]] (hw : Own w0 L w) (hk : TrX s l x) :
  Calls prog 29 [.pointer (some ⟨px, 0, none⟩), .agg (Zm s), v].toArray w (RetM (DbO (obX s l x) nm) (fun d => .tuple #[.agg (Z4 ⟨slH d.o.o, slH d.z⟩), .int .i64 0]) (fun d => d.mem) w) := by
 have hin := h.all hw
 have hzl : ∀ L, LstC w L v Zav ZY [zn0 nm] := fun L => (hz.out w hw).lst L
 refine Zg Tryz.func29 rfl Tryz.ntmps29 rfl ?_
 repeat (first | (refine wkM ?_; intros) | (refine wnM ?_ ?_; (focus (exact hk)); intros))
 refine Zz rfl (Zae rfl) (Zl rfl) (fun w hw => ⟨⟨_, _⟩, rfl, hw.sub suB⟩)
instance (priority := high) Zvd (w0 : World) (L : List Blk) (px : Nat) (l : List (Zb × Bool)) (x : List (Za × Bool)) (s : ZC) (v : Value) (nm : ByteArray) [h : InkX w0 L px l x] [hz : LstC w0 L v Zav ZY [zn0 nm]] : SpecR prog w0 L 29 [.pointer (some ⟨px, 0, none⟩), .agg (Zm s), v] (DbO (obX s l x) nm) (fun d => .tuple #[.agg (Z4 ⟨slH d.o.o, slH d.z⟩), .int .i64 0]) (fun d => d.mem) (TrX s l x) := ⟨fun hp w hw => ZiK w0 w L px l x s v nm hw hp⟩
end
end Go.Vt
namespace Go.Vt
open Go.RowKit Go.Proofs
open Go.Proofs.Tryz (prog)
theorem ZtF {w0 w : World} {L : List Blk} {dn : List OD} [h : SblC (odM dn) L] (hw : Own w0 L w) {d : OD} (hd : d ∈ dn) : ArgS w (vSl d.u) rP d.us := by
 have h2 := hw.sub ((Zse hd).trans h.out)
 have i1 : LstC w0 d.mm (vSl d.u) PU rP d.us := by unfold OD.mm; infer_instance
 exact i1.out w h2
theorem ZtZ {dn : List OD} {os : List Obt} (h : dn.map (fun d => (d.id, d.us)) = os) {k : Nat} (hk : k < os.length) : ∃ d ∈ dn, gi (dn.map OD.hd) ((k : Nat) : Int) = ⟨d.id, slH d.u⟩ ∧ gi os ((k : Nat) : Int) = (d.id, d.us) := by
 subst h
 rw [Ws] at hk
 refine ⟨dn[k], List.getElem_mem hk, ?_, ?_⟩
 ·rw [Zk (by rw [Ws]; exact hk), List.getElem_map]
  rfl
 ·rw [Zk (by rw [Ws]; exact hk), List.getElem_map]
theorem ZpQ {ps : List (List Png)} {cs : List (List Cll)} : ∀ r ∈ bR (batL ps cs ps.length), 1 ≤ r.Object ∧ r.Object ≤ 3 := fun r hr => by
 obtain ⟨x, rfl⟩ := (ZjC ps cs ps.length (Wl _)).2 r hr
 show 1 ≤ 1 + x.Object % 3 ∧ 1 + x.Object % 3 ≤ 3
 omega
attribute [local irreducible] trT
set_option maxHeartbeats 8000000 in
theorem lobj_spec (sl : Sl) (a b z : Int) (ls : List ZU) (ps : List (List Png)) (cs : List (List Cll)) (w : World) (h : WldIn w sl ls ps cs) (ha : Bt a) (hb : Bt b) (hz : Bt z) :
  Calls prog 7 [.agg (ZK ⟨sl, a, b⟩), .int .u8 z].toArray w (Ret (.bool true) w) := by
 have hwc := WldC.mk h
 have hn : ps.length = cs.length := by rw [← h.np, h.nc]
 refine Zg Tryz.func7 rfl Tryz.ntmps7 rfl ?_
 repeat (refine wkM ?_; intros)
 rename_i b2
 cases hsh : shB ps cs
 ·repeat (refine wkM ?_; intros)
  exact Zf rfl rfl (fun w hw => Zi hw)
 have hB := ZuJ hsh hn
 have hsm := Zue hsh
 have hob := ZpQ (ps := ps) (cs := cs)
 have hab : Bt a ∧ Bt b := ⟨ha, hb⟩
 have hsv := ZtV a b
 have hsg := ZuV a b
 simp only [Bool.not_true]
 repeat (refine wkM ?_; intros)
 refine ZaO (S := Nat × BatO (batL ps cs ps.length)) (fun _ => True) (fun q => [(1, .int .u8 z), (5, vSl q.2.o), (6, .pointer (some ⟨q.1, 0, none⟩))]) (fun q => q.2.mem ++ [⟨q.1, Zm (setT a b), 32⟩]) ?_ (fun q _ => ?_)
 ·(refine Zao (.v [0, 2] (.e2 1 (.v [3] (.e1 4 (.e1 5 (.e1 6 (.fin))))) 4 (.e1 1 (.v [3] (.e1 5 (.e1 6 (.fin))))))) ([⟨b2, ZK ⟨sl, a, b⟩, 24⟩]) (h := ?_); refine wkX ?_)
  repeat' (first | (with_reducible refine And.intro ?_ ?_) | (with_reducible exact True.intro) | (refine wkT ?_; intros) | (refine tC rfl rfl ?_ ?_; focus (first | exact trivial | exact hab | exact hsm)) | (refine uC rfl rfl ?_ ?_; focus (first | exact trivial | exact hab | exact hsm)) | (refine eN rfl rfl ?_ ?_; (focus (first | exact trivial | exact hab | exact hsm)); intro _; (try simp only [Wf, Wg, Wh])) | fail)
  all_goals exact ZfW ⟨_, _⟩ trivial sbB inferInstance
 obtain ⟨b6, s0⟩ := q
 simp only
 generalize batL ps cs ps.length = bs at *
 generalize hS : setT a b = s at *
 obtain ⟨hz0, hz1⟩ := hz
 have hall := hB.all
 have hink := hB.ink
 have hrs := hB.rs
 have hkx : ∀ i1 : InkO (bR bs) (bE bs), KtX s.MaxSpeed i1.R i1.X := fun i1 => ⟨i1.xok hrs, hsv⟩
 have hxo : ∀ i1 : InkO (bR bs) (bE bs), XOk i1.R i1.X := fun i1 => i1.xok hrs
 have htx : ∀ i1 : InkO (bR bs) (bE bs), TrX s i1.R i1.X := fun i1 => ⟨hkx i1, hsg⟩
 repeat (first | (refine wkM ?_; intros) | (refine wnM ?_ ?_; (focus (first | exact hall | exact hink | exact ⟨by omega, by omega⟩ | exact hkx _ | exact hxo _ | exact htx _)); intros))
 rename_i i1 s1 b8 rT kT uT
 obtain ⟨r1, e1⟩ := s1
 have htm := i1.tm (z % 5)
 have hTl := Zgp (rs := bR bs) (es := bE bs) (o := z % 5)
 have hTk := hrs.rk w (o := z % 5)
 generalize tmX i1.R i1.X (z % 5) = T at *
 subst htm
 dsimp only
 simp only [List.append_assoc]
 have hkk : RsOk (bR bs) (bE bs) ∧ (-1048576 ≤ s.MaxSpeed ∧ s.MaxSpeed ≤ 1048576) := ⟨hrs, hsv⟩
 have h12 := hB.r
 have hpt : ∀ o, (kpT s.MaxSpeed (repL (bR bs) (bE bs) o)).length ≤ 19 ∧ (∀ x ∈ kpT s.MaxSpeed (repL (bR bs) (bE bs) o), TkOk x) ∧ Inc (spL (kpT s.MaxSpeed (repL (bR bs) (bE bs) o))) ∧ (-2147483648 ≤ s.MaxGap ∧ s.MaxGap ≤ 2147483648) := fun o => by
  have h1 := Zgp (rs := bR bs) (es := bE bs) (o := o)
  have h2 := Zcy s.MaxSpeed (repL (bR bs) (bE bs) o)
  have h3 := ZbP (cCp s.MaxSpeed (repL (bR bs) (bE bs) o)) (repL (bR bs) (bE bs) o).length
  exact ⟨by omega, fun x hx => hrs.rk w x (Zej hx), Zhj _ _, hsg⟩
 have htl : ∀ o, (trT s (repL (bR bs) (bE bs) o)).length ≤ 1048576 := fun o => by
  have h1 := hpt o
  have h2 := (Zdz (g := (s.MaxGap : Rat)) (ZcR h1.2.1) h1.2.2.1 _ (Wl _)).n
  rw [ZaZ] at h2
  rw [Zeo]
  show (thrN _ _ _).1.length ≤ _
  omega
 have hTt : ∀ o, (thrT (kpT s.MaxSpeed (repL (bR bs) (bE bs) o)) s.MaxGap (kpT s.MaxSpeed (repL (bR bs) (bE bs) o)).length).1 = trT s (repL (bR bs) (bE bs) o) := fun o => (Zeo s _).symm
 have hp1 := hpt (z % 5)
 have hl1 := htl (z % 5)
 have hl2 : (trT s (repL (bR bs) (bE bs) (z % 5))).length ≤ 1048576 ∧ (trT s (repL (bR bs) (bE bs) (z % 5))).length ≤ 1048576 := ⟨hl1, hl1⟩
 have hT1 := hTt (z % 5)
 have hTl' : (repL (bR bs) (bE bs) (z % 5)).length ≤ 1048576 := by omega
 have hKl' : (kpT s.MaxSpeed (repL (bR bs) (bE bs) (z % 5))).length ≤ 1048576 := by omega
 repeat (refine wkM ?_; intros)
 (refine ZdR [([0, 1, 2, 3, 4, 5, 6, 7, 8, 9, 10, 11, 12, 13], [14, 15]), ([16, 17, 18, 19, 20, 21, 22], [23, 24]), ([25, 26, 27, 28, 29, 30, 31, 33], [32, 34, 35]), ([36, 37], [])] ([⟨b8, Zs ⟨slH r1, slH e1⟩, 40⟩, ⟨b6, Zm s, 32⟩]) (h := ?_); refine wkP ?_)
 (repeat (refine wkH ?_))
 have hl3 : (trT s (repL (bR bs) (bE bs) (z % 5))).length ≤ 1048576 ∧ (thrT (kpT s.MaxSpeed (repL (bR bs) (bE bs) (z % 5))) s.MaxGap (kpT s.MaxSpeed (repL (bR bs) (bE bs) (z % 5))).length).1.length ≤ 1048576 := ⟨hl1, by rw [hT1]; exact hl1⟩
 repeat (first | (refine wkT ?_; intros) | (refine tC rfl rfl ?_ ?_; focus (first | exact hrs | exact hTl' | exact hkk | exact hKl' | exact hp1 | exact hl3)) | (refine uC rfl rfl ?_ ?_; focus (first | exact hrs | exact hTl' | exact hkk | exact hKl' | exact hp1 | exact hl3)) | (refine eN rfl rfl ?_ ?_; (focus (first | exact hrs | exact hTl' | exact hkk | exact hKl' | exact hp1 | exact hl3)); intro _; (try simp only [Wf, Wg, Wh])))
 simp only [Wc hT1.symm, Bool.not_true]
 repeat (refine wkT ?_; intros)
 repeat (first | (refine wkM ?_; intros) | (refine wnM ?_ ?_; (focus (exact htx _)); intros))
 rename_i o1 bz d1 b18
 have e := ZrP (s := s) i1 hob
 generalize obX s i1.R i1.X = y at *
 subst e
 obtain ⟨dn1, oo1, he1⟩ := o1
 obtain ⟨⟨dn2, oo2, he2⟩, zz⟩ := d1
 have hl1' : (dn1.map OD.hd).length = (obW s (bR bs) (bE bs) 3).length := by rw [← he1, Ws, Ws]
 have hl2' : (dn2.map OD.hd).length = (obW s (bR bs) (bE bs) 3).length := by rw [← he2, Ws, Ws]
 have h33 : (obW s (bR bs) (bE bs) 3).length ≤ 3 := Wi ZlX (Wl 3)
 simp only [ObO.mem, DbO.mem, List.append_assoc]
 refine Zq (S := Nat) (fun j => j ≤ 3) (fun j => [(6, .pointer (some ⟨b6, 0, none⟩)), (8, .pointer (some ⟨b8, 0, none⟩)), (16, vSl oo1), (17, .int .i64 0), (18, .pointer (some ⟨b18, 0, none⟩)), (19, .int .i64 0), (20, .int .i64 ((obW s (bR bs) (bE bs) j).length : Nat)), (21, .int .i64 ((j : Int) + 1))]) (fun _ => ⟨b18, Z4 ⟨slH oo2, slH zz⟩, 75⟩ :: (mS 80 zz ++ (mS 82 oo2 ++ (odM dn2 ++ (mS 82 oo1 ++ (odM dn1 ++ (⟨b8, Zs ⟨slH r1, slH e1⟩, 40⟩ :: (mS 35 r1 ++ (mS 122 e1 ++ [⟨b6, Zm s, 32⟩]))))))))) (fun j => 3 - j) 0 (Wm _) sbB suB (fun j hj => ?_)
 repeat (refine wkM ?_; intros)
 refine Zn rfl (fun h1 => ?_) (fun h1 => ?_)
 ·have hlt : j < 3 := by have := Wa h1; omega
  have hst := ZqK (s := s) hrs w hlt
  have hp2 := hpt ((j : Int) + 1)
  have hl4 := htl ((j : Int) + 1)
  have hT2 := hTt ((j : Int) + 1)
  have e21 : (j : Int) + 1 + 1 = ((j + 1 : Nat) : Int) + 1 := by omega
  repeat (first | (refine wkM ?_; intros) | (refine wnM ?_ ?_; (focus (exact hkk)); intros))
  rename_i m
  refine Zn rfl (fun h2 => ?_) (fun h2 => ?_)
  ·have h0 := List.eq_nil_of_length_eq_zero (show (kpT s.MaxSpeed (repL (bR bs) (bE bs) ((j : Int) + 1))).length = 0 by have := Wa h2; omega)
   rw [if_pos h0] at hst
   repeat (refine wkM ?_; intros)
   simp only [e21]
   exact Zj (j + 1) hlt (by simp only [hst]; exact sbB) suB (by omega)
  ·have h0 : kpT s.MaxSpeed (repL (bR bs) (bE bs) ((j : Int) + 1)) ≠ [] := fun h0 => by
    rw [h0] at h2
    cases h2
   rw [if_neg h0] at hst
   obtain ⟨hnl, hng⟩ := Ztu hlt hst
   have hln : (obW s (bR bs) (bE bs) (j + 1)).length = (obW s (bR bs) (bE bs) j).length + 1 := by rw [hst, Wp]; rfl
   generalize (obW s (bR bs) (bE bs) j).length = n at *
   obtain ⟨⟨id1, us1, u1⟩, hd1, g1, g1'⟩ := ZtZ he1 hnl
   obtain ⟨⟨id2, us2, u2⟩, hd2, g2, g2'⟩ := ZtZ he2 hnl
   rw [hng] at g1' g2'
   injection g1' with q1 q2
   injection g2' with q3 q4
   dsimp only at q1 q2 q3 q4
   subst q1 q2 q3 q4
   rcases oo1.cases 82 with ⟨x0, -, -⟩ | ⟨bb1, cb1, sp1, hc1, x1, x2, xne⟩
   ·rw [x0] at hl1'
    rw [← hl1'] at hnl
    cases hnl
   rcases oo2.cases 82 with ⟨y0, -, -⟩ | ⟨bb2, cb2, sp2, hc2, y1, y2, yne⟩
   ·rw [y0] at hl2'
    rw [← hl2'] at hnl
    cases hnl
   have c1 : ∀ L, [SblC (odM dn1) L] → LstC w L (vSlc (gi (dn1.map OD.hd) ((n : Nat) : Int)).Units) PU rP (trT s (repL (bR bs) (bE bs) ((j : Int) + 1))) := fun L i => ⟨fun w' hw' => by rw [g1, ZfT]; exact ZtF (L := L) hw' hd1⟩
   have c2 : ∀ L, [SblC (odM dn2) L] → LstC w L (vSlc (gi (dn2.map OD.hd) ((n : Nat) : Int)).Units) PU rP (trT s (repL (bR bs) (bE bs) ((j : Int) + 1))) := fun L i => ⟨fun w' hw' => by rw [g2, ZfT]; exact ZtF (L := L) hw' hd2⟩
   dsimp only [vSlc] at c1 c2
   have k1 : (gi (dn1.map OD.hd) ((n : Nat) : Int)).Id = (j : Int) + 1 := by rw [g1]
   have k2 : (gi (dn2.map OD.hd) ((n : Nat) : Int)).Id = (j : Int) + 1 := by rw [g2]
   have hl5 : (trT s (repL (bR bs) (bE bs) ((j : Int) + 1))).length ≤ 1048576 ∧ (trT s (repL (bR bs) (bE bs) ((j : Int) + 1))).length ≤ 1048576 := ⟨hl4, hl4⟩
   have hl6 : (trT s (repL (bR bs) (bE bs) ((j : Int) + 1))).length ≤ 1048576 ∧ (thrT (kpT s.MaxSpeed (repL (bR bs) (bE bs) ((j : Int) + 1))) s.MaxGap (kpT s.MaxSpeed (repL (bR bs) (bE bs) ((j : Int) + 1))).length).1.length ≤ 1048576 := ⟨hl4, by rw [hT2]; exact hl4⟩
   simp only [x1, x2, y2, Wf, Wg]
   repeat (refine wkM ?_; intros)
   (refine ZdR [([0, 1, 2, 3, 4, 5, 6, 7, 8, 9, 10, 11, 12, 13, 14, 15, 16, 17, 18, 19, 20, 21, 22, 23, 24, 25, 26, 27, 28, 29, 30, 31, 32, 33, 34, 35, 36, 37], [38, 39]), ([40, 41, 42, 43, 44, 45, 46, 47, 48, 49, 50, 51, 52, 53, 54, 55, 56], [])] (⟨b18, Z4 ⟨slH oo2, slH zz⟩, 75⟩ :: ⟨bb2, row Zaf (dn2.map OD.hd) sp2, 82⟩ :: (odM dn2 ++ (⟨bb1, row Zaf (dn1.map OD.hd) sp1, 82⟩ :: (odM dn1 ++ [⟨b6, Zm s, 32⟩])))) (h := ?_); refine wkP ?_)
   (repeat (refine wkH ?_))
   simp only [We (show ¬ (((dn1.map OD.hd).length : Nat) : Int) ≤ (n : Nat) by omega)]
   (repeat (refine wkH ?_))
   simp only [We (show ¬ (((dn2.map OD.hd).length : Nat) : Int) ≤ (n : Nat) by omega)]
   (repeat (refine wkH ?_))
   simp only [Wc k1, Bool.not_true]
   (repeat (refine wkH ?_))
   simp only [y1]
   (repeat (refine wkH ?_))
   simp only [Wc k2, Bool.not_true]
   (repeat (refine wkH ?_))
   repeat (first | (refine wkT ?_; intros) | (refine tC rfl rfl ?_ ?_; focus (first | exact hp2 | exact hl6)) | (refine uC rfl rfl ?_ ?_; focus (first | exact hp2 | exact hl6)) | (refine eN rfl rfl ?_ ?_; (focus (first | exact hp2 | exact hl6)); intro _; (try simp only [Wf, Wg, Wh])))
   simp only [Wc hT2.symm, Bool.not_true]
   repeat (refine wkT ?_; intros)
   simp only [y1]
   repeat (first | (refine wkT ?_; intros) | (refine tC rfl rfl ?_ ?_; focus (first | exact hl5)) | (refine uC rfl rfl ?_ ?_; focus (first | exact hl5)) | (refine eN rfl rfl ?_ ?_; (focus (first | exact hl5)); intro _; (try simp only [Wf, Wg, Wh])))
   simp only [Wc (rfl : trT s (repL (bR bs) (bE bs) ((j : Int) + 1)) = trT s (repL (bR bs) (bE bs) ((j : Int) + 1))), Bool.not_true]
   repeat (refine wkT ?_; intros)
   repeat (refine wkO ?_; intros)
   have e20 : ((n : Nat) : Int) + 1 = ((n + 1 : Nat) : Int) := by omega
   simp only [e21, e20]
   exact Zj (j + 1) hlt (by rw [hln]; exact sbB) suB (by omega)
 ·obtain rfl : j = 3 := by have := Wb h1; omega
  repeat (refine wkM ?_; intros)
  simp only [Wc (show (((dn1.map OD.hd).length : Nat) : Int) = ((obW s (bR bs) (bE bs) 3).length : Nat) by omega)]
  repeat (refine wkM ?_; intros)
  simp only [Wc (show (((dn2.map OD.hd).length : Nat) : Int) = ((obW s (bR bs) (bE bs) 3).length : Nat) by omega)]
  repeat (refine wkM ?_; intros)
  exact Zf rfl rfl (fun w hw => Zi hw)
end Go.Vt
namespace Go.Proofs.YtjicdlilgjdefaaGreatDoor
open Go.ChangeShapes Go.WideShapes Go.ChangeAt Go.RowKit Go.Deep
def objArgs : Array Value := #[.agg #[.slice none 0 0, .int .u8 0, .int .u8 0], .int .u8 0]
theorem Zoz (os : Os) {H : Type} (enc : TypeId × Value → H) : ∃ places, DataW.whole enc Tryz.prog ((laidWorld os).forCall (fun _ _ => 0) ⟨#[], objArgs, []⟩).memory Tryz.f7.params.toList Rows.reconstructObjectsSpec.vars false objArgs.toList 8 = some ([.agg [.nil, .lit (.int .u8 0), .lit (.int .u8 0)], .lit (.int .u8 0)], [], places) :=
 ⟨[], by kernel_rfl⟩
theorem Zki (H : Type) (enc : TypeId × Value → H) (W : World) (base : Nat) (args : Array Value) (ds gs : List (DataW H)) (before : List MemPlace)
  (hval : ∀ (j : Nat) t v, Tryz.f7.params[j]? = some t → args[j]? = some v → Value.okWide Tryz.prog W .any base t v)
  (hW : DataW.Whole enc Tryz.prog Tryz.f7.params.toList Rows.reconstructObjectsSpec.vars false W args.toList ds gs before)
  (hwt : (DataW.weightsEach Tryz.prog (Tryz.f7.params.toList ++ (OpenSpec.ofChange Rows.reconstructObjectsSpec).bare.plain.varTypes Tryz.prog) (ds ++ gs)).all (· ≤ reachBytes) = true) :
  Calls Tryz.prog 7 args W fun e W' => ∃ v, e = .returned v ∧ Rows.reconstructObjectsSpec.post enc Tryz.prog Tryz.f7 false true false false W args v W' := by
 have hW' := hW
 obtain ⟨p, q, hA0, hV, rfl, hfz, hnd⟩ := hW
 have hA : DataW.TrodAll enc Tryz.prog W 0 (fun _ => true) true Tryz.f7.params.toList args.toList ds p := hA0
 rw [Tryz.params7] at hA hval hwt
 obtain ⟨v0, vs0, d0, ds0, p0, q0, hargs0, rfl, rfl, h0, r0⟩ := trodAll_cons hA
 obtain ⟨v1, vs1, d1, ds1, p1, q1, hargs1, rfl, rfl, h1, r1⟩ := trodAll_cons r0
 subst hargs1
 obtain ⟨rfl, rfl, rfl⟩ := trodAll_nil r1
 obtain rfl : args = #[v0, v1] := by cases args; simp_all
 obtain ⟨rfl, rfl⟩ := trodVars_none hV
 clear hA0
 simp only [List.append_nil] at hW'
 have hlt : ∀ x ∈ p0 ++ (p1), x.block < W.heap.size := fun x hx => by simpa using hW'.lt x hx
 have h0k := h0
 have hw0 := Zsw hwt (j := 0) (t := 24) (d := d0) rfl rfl
 obtain ⟨sl, a, b, ls, ps, cs, rfl, hwl, ha, hb'⟩ := ZmT (hval 0 24 v0 rfl rfl) h0 hw0
 obtain ⟨n1, rfl, rfl, rfl, hu1⟩ := open_int ru5 (hval 1 5 v1 rfl rfl) h1
 refine (Go.Vt.lobj_spec sl a b n1 ls ps cs W hwl ha hb' (ZbQ hu1)).mono fun e' W' ⟨he', ⟨hb, _⟩⟩ => ?_
 subst he'
 try simp only [List.append_nil] at hlt hW'
 exact ⟨_, rfl, ⟨_, _, _, [], _, [], hW', trodAll_mk1 (shut_bool Tryz.underlying4 _), trodAll_mk2 (Below.trod rlaidOut (by kernel_rfl) (of_decide_eq_true (by kernel_rfl)) h0k hb (fun x hx => hlt x (by simp [hx]))) (shut_int ru5 hu1), (by first | rfl | (simp; done)), hb.frame _, fun h => by cases h⟩⟩
theorem obj_lifted (os : Os) (started : os.Started) (H : Type) (enc : TypeId × Value → H) (F : Stop.Interp) :
  ReturnsInHanded {} Tryz.checked os 7 .any ((OpenSpec.ofChange Rows.reconstructObjectsSpec).preRow enc Tryz.prog Tryz.f7 Rows.reconstructObjectsRow.domain false Rows.reconstructObjectsRow.laid) (((OpenSpec.ofChange Rows.reconstructObjectsSpec).at F).post enc Tryz.prog Tryz.f7 false true false false) := by
 obtain ⟨places, hx⟩ := Zoz os enc
 refine returnsInHanded_of_row (C := Tryz.checked) (s := OpenSpec.ofChange Rows.reconstructObjectsSpec) rown started (by kernel_rfl) Tryz.func7
  (witness_row_at (enc := enc) (C := Tryz.checked) false (laidWorld os) objArgs rfl (by kernel_rfl) (by kernel_rfl) (by kernel_rfl)
   (OpenSpec.preRow_of_cond 8 hx (by kernel_rfl) (fun k hk => by cases hk) (by kernel_rfl) (Zqk os _))) ?_
 intro W base args ds gs before hval hW _ _ hwt _ _ _
 exact Zki H enc W base args ds gs before hval hW hwt
end Go.Proofs.YtjicdlilgjdefaaGreatDoor
