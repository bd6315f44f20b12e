/- that the order in which batches arrive does not matter (part 25 of 27.) Conditions: those that each statement names. -/
import Derived.Test.YtjicdlilgjdefaaGreatDoorKO23
import Derived.Test.YtjicdlilgjdefaaGreatDoorKO24
/- All objects with their trajectories. Conditions: those that each statement names. -/
set_option linter.unusedSimpArgs false
set_option linter.unusedVariables false
set_option maxHeartbeats 2000000
set_option maxRecDepth 100000
namespace Go.Vt
open Go.RowKit Go.Proofs
structure OD where
 id : Int
 us : List PU
 u : SlS rP 36 us
def OD.hd (d : OD) : ZaB := ⟨d.id, slH d.u⟩
def OD.mm (d : OD) : List Blk := mS 115 d.u
def odM (ds : List OD) : List Blk := ds.flatMap OD.mm
abbrev Obt := Int × List PU
structure ObO (os : List Obt) where
 dn : List OD
 o : SlS Zaa 2 (dn.map OD.hd)
 e : dn.map (fun d => (d.id, d.us)) = os
def ObO.mem {os : List Obt} (s : ObO os) : List Blk := mS 82 s.o ++ odM s.dn
def ObO.no : ObO [] := ⟨[], SlS.no, rfl⟩
structure ObA (w : World) (v : Value) (os : List Obt) : Prop where
 ex : ∃ hs : List ZaB, ArgS w v Zaa hs ∧ hs.length = os.length ∧ (∀ i : Nat, i < hs.length → (gi hs (i : Int)).Id = (gi os (i : Int)).1) ∧ ∀ i : Nat, i < hs.length → ArgS w (vSlc (gi hs (i : Int)).Units) rP (gi os (i : Int)).2
class ObC (w0 : World) (L : List Blk) (v : Value) (os : outParam (List Obt)) : Prop where
 out : ∀ w, Own w0 L w → ObA w v os
theorem Zq7 {ds : List OD} {d : OD} (h : d ∈ ds) : d.mm.Sublist (odM ds) := by
 unfold odM
 induction ds with
 | nil => cases h
 | cons a ds ih =>
  rw [List.flatMap_cons]
  rcases List.mem_cons.1 h with rfl | h
  ·exact List.sublist_append_left _ _
  ·exact (ih h).trans (List.sublist_append_right _ _)
theorem ZoS (ds : List OD) (d : OD) : odM (ds ++ [d]) = odM ds ++ d.mm := by
 unfold odM
 rw [List.flatMap_append]
 simp
theorem ObO.reads {w0 w : World} {os : List Obt} (s : ObO os) (hw : Own w0 s.mem w) : ObA w (vSl s.o) os := by
 have hL : LstC w0 s.mem (vSl s.o) ZaB Zaa (s.dn.map OD.hd) := by
  unfold ObO.mem
  infer_instance
 obtain ⟨dn, o, rfl⟩ := s
 have hr : ∀ d ∈ dn, ArgS w (vSl d.u) rP d.us := fun d hd => by
  have h2 := hw.sub ((Zq7 hd).trans (List.sublist_append_right (mS 82 o) _))
  have i1 : LstC w0 d.mm (vSl d.u) PU rP d.us := by unfold OD.mm; infer_instance
  exact i1.out w h2
 refine ⟨dn.map OD.hd, hL.out w hw, by rw [List.length_map, List.length_map], fun i hi => ?_, fun i hi => ?_⟩
 ·have hi' : i < dn.length := by rw [List.length_map] at hi; exact hi
  rw [Zi hi, Zi (by rw [List.length_map]; exact hi'), List.getElem_map, List.getElem_map]
  rfl
 ·have hi' : i < dn.length := by rw [List.length_map] at hi; exact hi
  rw [Zi hi, Zi (by rw [List.length_map]; exact hi'), List.getElem_map, List.getElem_map]
  show ArgS w (vSlc (slH dn[i].u)) _ _
  rw [ZcC]
  exact hr _ (List.getElem_mem hi')
instance (priority := low) obMem {os : List Obt} (w0 : World) (L : List Blk) (s : ObO os) [h : SblC s.mem L] : ObC w0 L (vSl s.o) os := ⟨fun w hw => s.reads (hw.sub h.out)⟩
instance (priority := 30000) ZH1 {us : List PU} (i : Int) (u : SlS rP 36 us) : BdC Tryz.prog 82 [(0, .int .i64 i), (1, vSl u)] (.agg (Zaa ⟨i, slH u⟩)) := by
 rw [ZbB]
 have : ∀ a l c, BdC Tryz.prog 82 [(0, .int .i64 i), (1, .slice a l c)] (.agg (Zaa ⟨i, ⟨a, l, c⟩⟩)) := fun a l c => inferInstance
 exact this _ _ _
def obT (f : Int → List PU) (ids : List Int) : List Obt := ids.filterMap fun o => if f o = [] then none else some (o, f o)
theorem Zlb {f : Int → List PU} {ids : List Int} : (obT f ids).length ≤ ids.length := List.length_filterMap_le _ _
theorem Zpn {f : Int → List PU} {ids : List Int} {m : Nat} (h : m < ids.length) : obT f (ids.take (m + 1)) = if f (gi ids (m : Int)) = [] then obT f (ids.take m) else obT f (ids.take m) ++ [(gi ids (m : Int), f (gi ids (m : Int)))] := by
 unfold obT
 rw [List.take_succ_eq_append_getElem h, List.filterMap_append, Zi h]
 by_cases hc : f ids[m] = []
 ·simp [hc]
 ·simp [hc]
noncomputable def obX (s : ZN) (l : List (Zb × Bool)) (x : List (Za × Bool)) : List Obt := obT (fun o => trT s (tmX l x o)) (objL (sorted (pKR l)))
theorem Zns (xs : List Int) : (cmI' xs).length ≤ xs.length := ZkX xs _
attribute [local irreducible] trT
set_option maxHeartbeats 2000000 in
theorem ZiR (w0 w : World) (L : List Blk) (px : Nat) (l : List (Zb × Bool)) (x : List (Za × Bool)) (s : ZN) [h : InkX w0 L px l x] (hw : Own w0 L w) (hk : TrX s l x) :
  Calls Tryz.prog 23 [.pointer (some ⟨px, 0, none⟩), .agg (Zn s)].toArray w (RetM (ObO (obX s l x)) (fun s => .tuple #[vSl s.o, .int .i64 0]) (fun s => s.mem) w) := by
 have hin := h.all hw
 have hl := hk.k.ok.n
 have hIl : (objL (sorted (pKR l))).length ≤ 12 := by
  refine Nat.le_trans (Zns _) ?_
  rw [List.length_map]
  refine Nat.le_trans Zd6 ?_
  rw [Zbn, List.length_map]
  exact hl
 have hdf : obX s l x = obT (fun o => trT s (tmX l x o)) (objL (sorted (pKR l))) := rfl
 refine Zg Tryz.func23 rfl Tryz.ntmps23 rfl ?_
 repeat (first | (refine wkM ?_; try intro _) | (refine sC rfl rfl ?_ ?_; focus (exact hl)) | (refine sN rfl rfl ?_ ?_; (focus (exact hl)); intro _; (try simp only [List.cons_append, List.nil_append, List.append_nil])))
 rename_i b3 s0
 generalize objL (sorted (pKR l)) = I at *
 refine Zq (S := (m : Nat) × ObO (obT (fun o => trT s (tmX l x o)) (I.take m))) (fun q => q.1 ≤ I.length) (fun q => [(0, .pointer (some ⟨px, 0, none⟩)), (3, .pointer (some ⟨b3, 0, none⟩)), (6, vSl q.2.o), (14, vSl s0), (15, .int .i64 (I.length : Nat)), (16, .int .i64 (q.1 : Nat))]) (fun q => mS 82 q.2.o ++ (mS 3 s0 ++ (⟨b3, Zn s, 32⟩ :: odM q.2.dn))) (fun q => I.length - q.1) ⟨0, ObO.no⟩ (Nat.zero_le _) sbB suB (fun q hq => ?_)
 obtain ⟨m, dn, o, hdn⟩ := q
 simp only at hq ⊢
 have hol := Zlb (f := fun o => trT s (tmX l x o)) (ids := I.take m)
 have hdl : (dn.map OD.hd).length ≤ m := by
  have := congrArg List.length hdn
  rw [List.length_map] at this
  rw [List.length_map, this]
  rw [List.length_take] at hol
  omega
 repeat (refine wkM ?_; try intro _)
 refine Zl rfl (fun h1 => ?_) (fun h1 => ?_)
 ·have hlt : m < I.length := by have := of_decide_eq_true h1; omega
  have hnx := Zpn (f := fun o => trT s (tmX l x o)) hlt
  rcases s0.cases 3 with ⟨x0, -, -⟩ | ⟨bs, cb, sp, hc1, x1, x2, xne⟩
  ·rw [x0] at hlt
   cases hlt
  simp only [x1, x2, List.cons_append, List.nil_append]
  repeat (first | (refine wkM ?_; try intro _) | (refine sC rfl rfl ?_ ?_; focus (exact hk)) | (refine sN rfl rfl ?_ ?_; (focus (exact hk)); intro _; (try simp only [List.cons_append, List.nil_append, List.append_nil])))
  rename_i u
  generalize gi I (m : Int) = z at *
  refine Zl rfl (fun h2 => ?_) (fun h2 => ?_)
  ·have h3 := of_decide_eq_true h2
   have hne : trT s (tmX l x z) ≠ [] := fun h0 => by rw [h0] at h3; simp at h3
   rw [if_neg hne] at hnx
   generalize trT s (tmX l x z) = us at *
   repeat (refine wkM ?_; try intro _)
   refine sU rfl rfl ?_ ?_ ?_ ?_
   ·rfl
   ·rfl
   ·exact ⟨by decide, by omega, by omega⟩
   intro o'
   repeat (refine wkO ?_; try intro _)
   obtain ⟨D, hD1, hD2, hD3⟩ : ∃ D : OD, OD.hd D = ⟨z, slH u⟩ ∧ OD.mm D = mS 115 u ∧ (D.id, D.us) = (z, us) := ⟨⟨z, us, u⟩, rfl, rfl, rfl⟩
   have ho : dn.map OD.hd ++ [⟨z, slH u⟩] = (dn ++ [D]).map OD.hd := by rw [List.map_append, ← hD1]; rfl
   obtain ⟨o3, e1, e2⟩ := SlS.turn 82 ho o'
   refine ZfE (M := mS 82 o3 ++ (⟨bs, row (eI .i64) I sp, 3⟩ :: ⟨b3, Zn s, 32⟩ :: odM (dn ++ [D]))) (L' := mS 82 o3 ++ (mS 115 u ++ (⟨bs, row (eI .i64) I sp, 3⟩ :: ⟨b3, Zn s, 32⟩ :: odM dn))) (by rw [e2]; exact suB) ?_ ?_
   ·refine List.Perm.append_left _ ?_
    rw [ZoS, hD2, ← List.cons_append, ← List.cons_append]
    exact List.perm_append_comm
   ·exact Zj ⟨m + 1, dn ++ [D], o3, by rw [List.map_append, hdn, hnx, ← hD3]; rfl⟩ hlt (by simp only [e1, x1]; exact sbB) (by simp only [x2]; exact suB) (by show I.length - (m + 1) < I.length - m; omega)
  ·have h3 := of_decide_eq_false h2
   have hnil : trT s (tmX l x z) = [] := List.eq_nil_of_length_eq_zero (by omega)
   rw [if_pos hnil] at hnx
   repeat (refine wkO ?_; try intro _)
   exact Zj ⟨m + 1, dn, o, hdn.trans hnx.symm⟩ hlt (by simp only [x1]; exact sbB) (by simp only [x2]; exact suB) (by show I.length - (m + 1) < I.length - m; omega)
 ·have hge : m = I.length := by have := of_decide_eq_false h1; omega
  have e0 : obT (fun o => trT s (tmX l x o)) (I.take m) = obX s l x := by rw [hge, List.take_length, hdf]
  repeat (refine wkO ?_; try intro _)
  refine Zl rfl (fun h2 => ?_) (fun h2 => ?_)
  ·have h3 := of_decide_eq_true h2
   omega
  repeat (refine wkM ?_; try intro _)
  refine Zv rfl (Zk rfl) (Zk rfl) (fun w hw => ⟨⟨dn, o, hdn.trans e0⟩, rfl, ?_⟩)
  show Own _ (mS _ o ++ odM dn) w
  exact hw.sub suB
instance (priority := high) Zuv (w0 : World) (L : List Blk) (px : Nat) (l : List (Zb × Bool)) (x : List (Za × Bool)) (s : ZN) [h : InkX w0 L px l x] : SpecR Tryz.prog w0 L 23 [.pointer (some ⟨px, 0, none⟩), .agg (Zn s)] (ObO (obX s l x)) (fun s => .tuple #[vSl s.o, .int .i64 0]) (fun s => s.mem) (TrX s l x) := ⟨fun hp w hw => ZiR w0 w L px l x s hw hp⟩
end Go.Vt
/- Equal lists of objects. Conditions: those that each statement names. -/
namespace Go.Vt
open Go.RowKit Go.Proofs
set_option maxHeartbeats 2000000 in
theorem Zj4 (v1 v2 : Value) (os : List Obt) (w : World) (h1 : ObA w v1 os) (h2 : ObA w v2 os) (hl : os.length ≤ 1048576 ∧ ∀ x ∈ os, x.2.length ≤ 1048576) :
  Calls Tryz.prog 25 [v1, v2].toArray w (Ret (.bool true) w) := by
 obtain ⟨hs, a1, a2, a3, a4⟩ := h1.ex
 obtain ⟨gs, b1, b2, b3, b4⟩ := h2.ex
 obtain ⟨p, cp, rfl⟩ := a1.form
 obtain ⟨q, cq, rfl⟩ := b1.form
 refine Zg Tryz.func25 rfl Tryz.ntmps25 rfl ?_
 repeat (refine wkM ?_; try intro _)
 simp only [decide_eq_true (show ((hs.length : Nat) : Int) = (gs.length : Nat) by omega), Bool.not_true]
 repeat (refine wkM ?_; try intro _)
 refine Zq (S := Nat) (fun m => m ≤ hs.length) (fun m => [(0, .slice p hs.length cp), (1, .slice q gs.length cq), (5, .int .i64 (m : Nat))]) (fun _ => []) (fun m => hs.length - m) 0 (Nat.zero_le _) sbB slB (fun m hm => ?_)
 repeat (refine wkM ?_; try intro _)
 refine Zl rfl (fun h => ?_) (fun h => ?_)
 ·have hlt : m < hs.length := by have := of_decide_eq_true h; omega
  have hne : hs ≠ [] := fun h0 => by rw [h0] at hlt; simp at hlt
  have hne2 : gs ≠ [] := fun h0 => by rw [h0] at b2; simp at b2; omega
  obtain ⟨bw, ow, cw, hvw, hcw, hrow⟩ := a1.blk (k := 1) hne []
  injection hvw with e1 e2 e3
  subst e1
  subst e3
  obtain ⟨bv, ov, cv, hvv, hcv, hrow2⟩ := b1.blk (k := 1) hne2 []
  injection hvv with e1 e2 e3
  subst e1
  subst e3
  have hr1 : ∀ L, RowC w L bw ow ZaB Zaa hs := fun L => ⟨fun w' hw' => hrow.out w' (hw'.sub (List.nil_sublist _))⟩
  have hr2 : ∀ L, RowC w L bv ov ZaB Zaa gs := fun L => ⟨fun w' hw' => hrow2.out w' (hw'.sub (List.nil_sublist _))⟩
  have k1 := a3 m hlt
  have k2 := b3 m (by omega)
  have c1 := fun L => (a4 m hlt).lst L
  have c2 := fun L => (b4 m (by omega)).lst L
  have hu := hl.2 _ (ZZ (xs := os) (i := (m : Int)) (by omega))
  have huu : (gi os (m : Int)).2.length ≤ 1048576 ∧ (gi os (m : Int)).2.length ≤ 1048576 := ⟨hu, hu⟩
  dsimp only [vSlc] at c1 c2
  have k3 : (gi hs (m : Int)).Id = (gi gs (m : Int)).Id := k1.trans k2.symm
  repeat (refine wkM ?_; try intro _)
  refine jD 25 25 (h := ?_)
  (repeat (refine wkH ?_))
  simp only [decide_eq_true k3, Bool.not_true]
  (repeat (first | refine wkH ?_ | (refine tC rfl rfl ?_ ?_; focus (exact huu))))
  refine Zr ?_
  refine Zt ?_
  simp only [decide_eq_true (rfl : (gi os (m : Int)).2 = (gi os (m : Int)).2), Bool.not_true]
  repeat (refine wkO ?_; try intro _)
  exact Zj (m + 1) hlt sbB slB (by omega)
 ·repeat (refine wkM ?_; try intro _)
  exact Zf rfl rfl (fun w hw => Zh hw)
instance ZxE (w0 : World) (L : List Blk) (v1 v2 : Value) (os : List Obt) [h1 : ObC w0 L v1 os] [h2 : ObC w0 L v2 os] : SpecM Tryz.prog w0 L 25 [v1, v2] (.bool true) (os.length ≤ 1048576 ∧ ∀ x ∈ os, x.2.length ≤ 1048576) := ⟨fun hp w hw => Zj4 v1 v2 os w (h1.out w hw) (h2.out w hw) hp⟩
end Go.Vt
/- The objects of two intakes of one set. Conditions: those that each statement names. -/
namespace Go.Vt
open Go.RowKit Go.Proofs
theorem Zsh {s : ZN} {l1 l2 : List (Zb × Bool)} {x1 x2 : List (Za × Bool)} (n1 : (pKR l1).Nodup) (n2 : (pKR l2).Nodup) (hm : ∀ r, r ∈ pKR l1 ↔ r ∈ pKR l2) (ht : ∀ o, tmX l1 x1 o = tmX l2 x2 o) : obX s l1 x1 = obX s l2 x2 := by
 have hp : sorted (pKR l1) = sorted (pKR l2) := ZcH ((List.perm_ext_iff_of_nodup n1 n2).2 hm)
 unfold obX
 rw [hp]
 simp only [ht]
theorem Zrn {s : ZN} {rs rs' : List Zb} {es es' : List Za} (s1 : InkO rs es) (s2 : InkO rs' es') (hr : ∀ r, r ∈ rs ↔ r ∈ rs') (he : ∀ y, y ∈ es ↔ y ∈ es') : obX s s1.R s1.X = obX s s2.R s2.X :=
 Zsh s1.r.sm.nd s2.r.sm.nd (fun r => (s1.memR r).trans ((hr r).trans (s2.memR r).symm)) fun o =>
  (s1.tm o).trans (Zgc (rs := rs) (es := es) (fun r _ => (s2.memR r).trans (hr r).symm) (fun y => (s2.memE y).trans (he y).symm)).symm
theorem ZmF {α : Type} [DecidableEq α] : ∀ {l m : List α}, l.Nodup → (∀ x ∈ l, x ∈ m) → l.length ≤ m.length
 | [], _, _, _ => Nat.zero_le _
 | a :: l, m, hn, hs => by
  have ha := hs a (.head _)
  have h1 := ZmF (l := l) (m := m.erase a) (List.nodup_cons.1 hn).2 (fun x hx => (List.mem_erase_of_ne (fun e : x = a => (List.nodup_cons.1 hn).1 (by rw [← e]; exact hx))).2 (hs x (.tail _ hx)))
  rw [List.length_erase_of_mem ha] at h1
  have := List.length_pos_of_mem ha
  simp only [List.length_cons]
  omega
theorem InkO.xokS {rs rs' : List Zb} {es es' : List Za} (s : InkO rs' es') (h : RsOk rs es) (hr : ∀ r, r ∈ rs ↔ r ∈ rs') (he : ∀ y, y ∈ es ↔ y ∈ es') : XOk s.R s.X := by
 have h1 : (pKR s.R).length ≤ rs.length := ZmF s.r.sm.nd (fun r hm => (hr r).2 ((s.memR r).1 hm))
 have h2 : (pKE s.X).length ≤ es.length := ZmF s.e.sm.nd (fun r hm => (he r).2 ((s.memE r).1 hm))
 rw [List.length_map] at h1 h2
 exact ⟨Nat.le_trans h1 h.n, Nat.le_trans h2 h.en, fun y hy => h.ee y ((he y).2 ((s.memE y).1 hy)), fun r hm => h.rr r ((hr r).2 ((s.memR r).1 hm))⟩
end Go.Vt
/- The batches in another order, turned round and one of them twice: which reports and exchanges they name. Conditions: those that each statement names. -/
namespace Go.Vt
open Go.RowKit Go.Proofs
def revB (b : Bat) : Bat := (b.1.reverse, b.2 ++ b.2)
def ordK (n f i : Nat) : Nat := (f + n - i) % n
def ordL (bs : List Bat) (f : Nat) : Nat → List Bat
 | 0 => []
 | i + 1 => ordL bs f i ++ [revB (gi bs ((ordK bs.length f i : Nat) : Int))]
theorem Zga (bs : List Bat) (f : Nat) : ∀ i, (ordL bs f i).length = i
 | 0 => rfl
 | i + 1 => by rw [ordL, List.length_append, Zga bs f i]; rfl
theorem ZcD {bs : List Bat} {f : Nat} {x : Bat} : ∀ {i}, x ∈ ordL bs f i ↔ ∃ j, j < i ∧ x = revB (gi bs ((ordK bs.length f j : Nat) : Int))
 | 0 => ⟨(fun h => by cases h), (fun ⟨j, h, _⟩ => by omega)⟩
 | i + 1 => by
  rw [ordL, List.mem_append, ZcD (i := i), List.mem_singleton]
  constructor
  ·rintro (⟨j, h1, h2⟩ | h)
   ·exact ⟨j, by omega, h2⟩
   ·exact ⟨i, by omega, h⟩
  ·rintro ⟨j, h1, h2⟩
   by_cases h : j = i
   ·subst h; exact .inr h2
   ·exact .inl ⟨j, by omega, h2⟩
theorem ZfN {n f i : Nat} (h : 0 < n) : ordK n f i < n := Nat.mod_lt _ h
theorem ZkI {n f k : Nat} (h : k < n) : ∃ j, j < n ∧ ordK n f j = k := by
 refine ⟨(f + n - k) % n, Nat.mod_lt _ (by omega), ?_⟩
 unfold ordK
 have h1 := Nat.mod_add_div (f + n - k) n
 have h2 := Nat.mod_lt (f + n - k) (show 0 < n by omega)
 rw [show f + n - (f + n - k) % n = k + n * ((f + n - k) / n) by omega, Nat.add_mul_mod_self_left, Nat.mod_eq_of_lt h]
theorem Zt2 {bs : List Bat} {f : Nat} (r : Zb) : r ∈ bR (ordL bs f bs.length) ↔ r ∈ bR bs := by
 unfold bR
 rw [List.mem_flatMap, List.mem_flatMap]
 constructor
 ·rintro ⟨x, hx, hr⟩
  obtain ⟨j, hj, rfl⟩ := ZcD.1 hx
  exact ⟨_, ZZ (by have := ZfN (f := f) (i := j) (show 0 < bs.length by omega); omega), List.mem_reverse.1 hr⟩
 ·rintro ⟨x, hx, hr⟩
  obtain ⟨k, hk, rfl⟩ := List.getElem_of_mem hx
  obtain ⟨j, hj, hjk⟩ := ZkI (f := f) hk
  exact ⟨_, ZcD.2 ⟨j, hj, rfl⟩, by rw [hjk, Zi hk]; exact List.mem_reverse.2 hr⟩
theorem ZtI {bs : List Bat} {f : Nat} (r : Za) : r ∈ bE (ordL bs f bs.length) ↔ r ∈ bE bs := by
 unfold bE
 rw [List.mem_flatMap, List.mem_flatMap]
 constructor
 ·rintro ⟨x, hx, hr⟩
  obtain ⟨j, hj, rfl⟩ := ZcD.1 hx
  refine ⟨gi bs ((ordK bs.length f j : Nat) : Int), ZZ (by have := ZfN (f := f) (i := j) (show 0 < bs.length by omega); omega), ?_⟩
  rcases List.mem_append.1 hr with h | h <;> exact h
 ·rintro ⟨x, hx, hr⟩
  obtain ⟨k, hk, rfl⟩ := List.getElem_of_mem hx
  obtain ⟨j, hj, hjk⟩ := ZkI (f := f) hk
  exact ⟨_, ZcD.2 ⟨j, hj, rfl⟩, by rw [hjk, Zi hk]; exact List.mem_append.2 (.inl hr)⟩
def ordT (bs : List Bat) (f t : Nat) : List Bat := if bs.length = 0 then [] else ordL bs f bs.length ++ [gi bs ((t % bs.length : Nat) : Int)]
theorem ZiL {bs : List Bat} {f t : Nat} (r : Zb) : r ∈ bR (ordT bs f t) ↔ r ∈ bR bs := by
 unfold ordT
 split
 ·rename_i h
  rw [List.eq_nil_of_length_eq_zero h]
 ·rename_i h
  rw [ZdO, List.mem_append, Zt2, Zjc]
  refine ⟨fun h1 => h1.elim id fun h2 => ?_, .inl⟩
  exact List.mem_flatMap.2 ⟨_, ZZ (by have := Nat.mod_lt t (show 0 < bs.length by omega); omega), h2⟩
theorem ZiU {bs : List Bat} {f t : Nat} (r : Za) : r ∈ bE (ordT bs f t) ↔ r ∈ bE bs := by
 unfold ordT
 split
 ·rename_i h
  rw [List.eq_nil_of_length_eq_zero h]
 ·rename_i h
  rw [ZdT, List.mem_append, ZtI, ZjO]
  refine ⟨fun h1 => h1.elim id fun h2 => ?_, .inl⟩
  exact List.mem_flatMap.2 ⟨_, ZZ (by have := Nat.mod_lt t (show 0 < bs.length by omega); omega), h2⟩
theorem Zoh {b : Nat} : ∀ {l : List Bat}, (∀ x ∈ l, x.1.length ≤ b) → (bR l).length ≤ l.length * b
 | [], _ => Nat.zero_le _
 | a :: l, h => by
  have h1 := h a (.head _)
  have h2 := Zoh (l := l) (b := b) fun x hx => h x (.tail _ hx)
  show (a.1 ++ bR l).length ≤ _
  rw [List.length_append, List.length_cons, Nat.add_mul]
  omega
theorem Zno {b : Nat} : ∀ {l : List Bat}, (∀ x ∈ l, x.2.length ≤ b) → (bE l).length ≤ l.length * b
 | [], _ => Nat.zero_le _
 | a :: l, h => by
  have h1 := h a (.head _)
  have h2 := Zno (l := l) (b := b) fun x hx => h x (.tail _ hx)
  show (a.2 ++ bE l).length ≤ _
  rw [List.length_append, List.length_cons, Nat.add_mul]
  omega
theorem ZqZ {bs : List Bat} {x : Bat} (h : x ∈ bs) : x.1.length ≤ (bR bs).length := by
 obtain ⟨s, t, rfl⟩ := List.append_of_mem h
 rw [ZdO]
 show _ ≤ (bR s ++ (x.1 ++ bR t)).length
 rw [List.length_append, List.length_append]
 omega
theorem ZqK {bs : List Bat} {x : Bat} (h : x ∈ bs) : x.2.length ≤ (bE bs).length := by
 obtain ⟨s, t, rfl⟩ := List.append_of_mem h
 rw [ZdT]
 show _ ≤ (bE s ++ (x.2 ++ bE t)).length
 rw [List.length_append, List.length_append]
 omega
theorem BsOk.ord {bs : List Bat} (h : BsOk bs) (f t : Nat) : ((ordT bs f t).length ≤ 1048576 ∧ (bR (ordT bs f t)).length ≤ 4096 ∧ (bE (ordT bs f t)).length ≤ 4096) ∧ (∀ r ∈ bR (ordT bs f t), RepV r) ∧ ∀ y ∈ bE (ordT bs f t), ExV y := by
 have hl : (ordT bs f t).length ≤ 5 := by
  unfold ordT
  split
  ·exact Nat.zero_le _
  ·rw [List.length_append, Zga]
   have := h.n
   show bs.length + 1 ≤ 5
   omega
 have hg : ∀ x ∈ ordT bs f t, x.1.length ≤ 12 ∧ x.2.length ≤ 12 := fun x hx => by
  have h12 := h.r
  have h6 := h.e
  unfold ordT at hx
  split at hx
  ·cases hx
  ·rename_i hn
   have hgm : ∀ k, k < bs.length → (gi bs ((k : Nat) : Int)).1.length ≤ 12 ∧ (gi bs ((k : Nat) : Int)).2.length ≤ 6 := fun k hk => by
    have hm := ZZ (xs := bs) (i := (k : Int)) (by omega)
    exact ⟨Nat.le_trans (ZqZ hm) h12, Nat.le_trans (ZqK hm) h6⟩
   rcases List.mem_append.1 hx with hx | hx
   ·obtain ⟨j, hj, rfl⟩ := ZcD.1 hx
    have := hgm _ (ZfN (f := f) (i := j) (show 0 < bs.length by omega))
    unfold revB
    dsimp only
    rw [List.length_reverse, List.length_append]
    omega
   ·rw [List.mem_singleton] at hx
    subst hx
    have := hgm _ (Nat.mod_lt t (show 0 < bs.length by omega))
    omega
 have h1 := Zoh fun x hx => (hg x hx).1
 have h2 := Zno fun x hx => (hg x hx).2
 exact ⟨⟨by omega, by omega, by omega⟩, fun r hr => h.rv r ((ZiL r).1 hr), fun y hy => h.ev y ((ZiU y).1 hy)⟩
structure CbO (cs : List Bat) (M0 : List Blk) where
 v : Value
 m : List Blk
 r : ∀ {w0 w : World}, Own w0 m w → Own w0 M0 w → BatA w v cs
instance (priority := low) cbMem {cs : List Bat} {M0 : List Blk} (w0 : World) (L : List Blk) (s : CbO cs M0) [h1 : SblC s.m L] [h2 : SblC M0 L] : BatC w0 L s.v cs := ⟨fun w hw => s.r (hw.sub h1.out) (hw.sub h2.out)⟩
instance (priority := high) osNoE (L : List Blk) : OwnS 122 (SlS.no : SlS Zd 5 []) L L := ⟨.refl _⟩
theorem LstC.row {α : Type} {enc : α → Array Value} {k : Nat} [he : EncC enc (k + 1)] {w0 : World} {L : List Blk} {b o n c : Nat} {xs : List α} (h : LstC w0 L (.slice (some ⟨b, o, none⟩) n c) α enc xs) (hne : xs ≠ []) : RowC w0 L b o α enc xs := ⟨fun w hw => by
 obtain ⟨b', o', c', hv, -, hr⟩ := (h.out w hw).blk (k := k) hne []
 injection hv with e1 e2 e3
 injection e1 with e1
 injection e1 with e4 e5
 subst e4 e5
 exact hr.out w (Own.start w)⟩
theorem Zox {w0 w : World} {cs : List Bat} (dn : List BD) (h : Zar) (x : Bat) (o : SlS Zp 2 (dn.map BD.hd ++ [h])) (hw : Own w0 (mS 40 o ++ bdM dn) w) (hcs : dn.map (fun d => (d.rs, d.es)) = cs) (hr : ArgS w (vSlc h.Reports) Zc x.1) (he : ArgS w (vSlc h.Exchanges) Zd x.2) : BatA w (vSl o) (cs ++ [x]) := by
 have hL : LstC w0 (mS 40 o ++ bdM dn) (vSl o) Zar Zp (dn.map BD.hd ++ [h]) := inferInstance
 subst hcs
 have hr : ∀ d ∈ dn, ArgS w (vSl d.r) Zc d.rs ∧ ArgS w (vSl d.e) Zd d.es := fun d hd => by
  have h2 := hw.sub ((Zfx hd).trans (List.sublist_append_right _ _))
  have i1 : LstC w0 d.mm (vSl d.r) Zb Zc d.rs := by unfold BD.mm; infer_instance
  have i2 : LstC w0 d.mm (vSl d.e) Za Zd d.es := by unfold BD.mm; infer_instance
  exact ⟨i1.out w h2, i2.out w h2⟩
 refine ⟨dn.map BD.hd ++ [h], hL.out w hw, by simp, fun i hi => ?_, fun i hi => ?_⟩
 ·rw [List.length_append, List.length_map] at hi
  change i < dn.length + 1 at hi
  by_cases hi' : i < dn.length
  ·rw [Zi (by simp; omega), Zi (by simp; omega), List.getElem_append_left (by simp; omega), List.getElem_append_left (by simp; omega), List.getElem_map, List.getElem_map]
   show ArgS w (vSlc (slH dn[i].r)) _ _
   rw [ZcC]
   exact (hr _ (List.getElem_mem hi')).1
  ·obtain rfl : i = dn.length := by omega
   rw [Zi (by simp), Zi (by simp), List.getElem_append_right (by simp), List.getElem_append_right (by simp)]
   simpa using ‹ArgS w (vSlc h.Reports) Zc x.1›
 ·rw [List.length_append, List.length_map] at hi
  change i < dn.length + 1 at hi
  by_cases hi' : i < dn.length
  ·rw [Zi (by simp; omega), Zi (by simp; omega), List.getElem_append_left (by simp; omega), List.getElem_append_left (by simp; omega), List.getElem_map, List.getElem_map]
   show ArgS w (vSlc (slH dn[i].e)) _ _
   rw [ZcC]
   exact (hr _ (List.getElem_mem hi')).2
  ·obtain rfl : i = dn.length := by omega
   rw [Zi (by simp), Zi (by simp), List.getElem_append_right (by simp), List.getElem_append_right (by simp)]
   simpa using he
end Go.Vt
/- ReconstructOrderless, walked. Conditions: those that each statement names. -/
namespace Go.Vt
open Go.RowKit Go.Proofs
theorem Ztj {w0 w : World} {L : List Blk} {dn : List BD} [h : SblC (bdM dn) L] (hw : Own w0 L w) {d : BD} (hd : d ∈ dn) : ArgS w (vSl d.r) Zc d.rs := by
 have h2 := hw.sub ((Zfx hd).trans h.out)
 have i1 : LstC w0 d.mm (vSl d.r) Zb Zc d.rs := by unfold BD.mm; infer_instance
 exact i1.out w h2
theorem ZtZ {w0 w : World} {L : List Blk} {dn : List BD} [h : SblC (bdM dn) L] (hw : Own w0 L w) {d : BD} (hd : d ∈ dn) : ArgS w (vSl d.e) Zd d.es := by
 have h2 := hw.sub ((Zfx hd).trans h.out)
 have i1 : LstC w0 d.mm (vSl d.e) Za Zd d.es := by unfold BD.mm; infer_instance
 exact i1.out w h2
theorem ZAN {dn : List BD} {k : Nat} (h : k < dn.length) : ∃ d ∈ dn, gi (dn.map BD.hd) ((k : Nat) : Int) = ⟨slH d.r, slH d.e⟩ ∧ gi (dn.map fun d => (d.rs, d.es)) ((k : Nat) : Int) = (d.rs, d.es) := by
 refine ⟨dn[k], List.getElem_mem h, ?_, ?_⟩
 ·rw [Zi (by rw [List.length_map]; exact h), List.getElem_map]
  rfl
 ·rw [Zi (by rw [List.length_map]; exact h), List.getElem_map]
theorem ZpR {n : Nat} {f : Int} {i : Nat} (hf : 0 ≤ f) (hi : i ≤ n) : (f + (n : Int) - (i : Int)) % (n : Int) = ((ordK n f.toNat i : Nat) : Int) := by
 unfold ordK
 rw [Int.natCast_emod]
 congr 1
 omega
theorem ZpH {α : Type} [Inhabited α] {l : List α} {k : Nat} (h : k < l.length) : l.reverse.take (k + 1) = l.reverse.take k ++ [gi l ((l.length : Int) - 1 - (k : Int))] := by
 rw [List.take_succ_eq_append_getElem (by rw [List.length_reverse]; exact h), List.getElem_reverse, show (l.length : Int) - 1 - (k : Int) = ((l.length - 1 - k : Nat) : Int) by omega, Zi (by omega)]
theorem ZmX {s : ZN} {l : List (Zb × Bool)} {x : List (Za × Bool)} (h : XOk l x) (w : World) : (obX s l x).length ≤ 1048576 ∧ ∀ y ∈ obX s l x, y.2.length ≤ 1048576 := by
 have hn := h.n
 unfold obX
 refine ⟨?_, fun y hy => ?_⟩
 ·refine Nat.le_trans Zlb ?_
  unfold objL
  refine Nat.le_trans (Zns _) ?_
  rw [List.length_map]
  refine Nat.le_trans Zd6 ?_
  rw [Zbn, List.length_map]
  omega
 ·obtain ⟨o, ho, hoy⟩ := List.mem_filterMap.1 hy
  split at hoy
  ·cases hoy
  ·injection hoy with e
   subst e
   show (trT s (tmX l x o)).length ≤ _
   rw [ZkH]
   have hl := h.len (o := o)
   have hkl := ZcO s.MaxSpeed (tmX l x o)
   have hcn := Zcz (cCp s.MaxSpeed (tmX l x o)) (tmX l x o).length
   have ho := ZiX (g := (s.MaxGap : Rat)) (Zhr fun z hz => h.tk w z (Zfy hz)) (Zlo s.MaxSpeed (tmX l x o)) _ (Nat.le_refl _)
   have h1 := ho.n
   rw [ZcE] at h1
   show (thrN _ _ _).1.length ≤ _
   omega
attribute [local irreducible] trT
set_option maxHeartbeats 8000000 in
theorem lord_spec (sl : Sl) (a b f t : Int) (ls : List ZU) (ps : List (List Png)) (cs : List (List Cll)) (w : World) (h : WldIn w sl ls ps cs) (ha : Bt a) (hb : Bt b) (hf : Bt f) (ht : Bt t) :
  Calls Tryz.prog 6 [.agg (ZI ⟨sl, a, b⟩), .int .u8 f, .int .u8 t].toArray w (Ret (.bool true) w) := by
 have hwc := WldC.mk h
 have hn : ps.length = cs.length := by rw [← h.np, h.nc]
 refine Zg Tryz.func6 rfl Tryz.ntmps6 rfl ?_
 repeat (refine wkM ?_; try intro _)
 rename_i b2
 cases hsh : shB ps cs
 ·repeat (refine wkM ?_; try intro _)
  exact Zf rfl rfl (fun w hw => Zh hw)
 have hB := Zs3 hsh hn
 have hsm := Ztv hsh
 have hab : Bt a ∧ Bt b := ⟨ha, hb⟩
 have hsv := ZsZ a b
 have hsg := ZsX a b
 simp only [Bool.not_true]
 repeat (refine wkM ?_; try intro _)
 refine ZaR (S := Nat × BatO (batL ps cs ps.length)) (fun _ => True) (fun q => [(1, .int .u8 f), (2, .int .u8 t), (7, vSl q.2.o), (8, .pointer (some ⟨q.1, 0, none⟩))]) (fun q => q.2.mem ++ [⟨q.1, Zn (setT a b), 32⟩]) ?_ (fun q _ => ?_)
 ·(refine Zao (.v [0, 2] (.e2 1 (.v [3] (.e1 4 (.e1 5 (.e1 6 (.fin))))) 4 (.e1 1 (.v [3] (.e1 5 (.e1 6 (.fin))))))) ([⟨b2, ZI ⟨sl, a, b⟩, 24⟩]) (h := ?_); refine wkX ?_)
  repeat' (first | (with_reducible refine And.intro ?_ ?_) | (with_reducible exact True.intro) | (refine wkT ?_; try intro _) | (refine tC rfl rfl ?_ ?_; focus (first | exact trivial | exact hab | exact hsm)) | (refine uC rfl rfl ?_ ?_; focus (first | exact trivial | exact hab | exact hsm)) | (refine eN rfl rfl ?_ ?_; (focus (first | exact trivial | exact hab | exact hsm)); intro _; (try simp only [List.cons_append, List.nil_append, List.append_nil])) | fail)
  all_goals exact ZfB ⟨_, _⟩ trivial sbB inferInstance
 obtain ⟨b8, s0⟩ := q
 simp only
 generalize batL ps cs ps.length = bs at *
 generalize hS : setT a b = s at *
 obtain ⟨dnb, ob, heb⟩ := s0
 have hN : bs.length = (dnb.map BD.hd).length := by rw [← heb, List.length_map, List.length_map]
 have hgi := fun k (hk : k < (dnb.map BD.hd).length) => ZAN (dn := dnb) (k := k) (by rw [List.length_map] at hk; exact hk)
 rw [heb] at hgi
 have hb4 := hB.n
 have hmb : ∀ d ∈ dnb, d.rs.length ≤ 12 ∧ d.es.length ≤ 6 := fun d hd => by
  have hm : (d.rs, d.es) ∈ bs := by rw [← heb]; exact List.mem_map.2 ⟨d, hd, rfl⟩
  exact ⟨Nat.le_trans (ZqZ hm) hB.r, Nat.le_trans (ZqK hm) hB.e⟩
 have hbc : ∀ L, [SblC (mS 40 ob ++ bdM dnb) L] → BatC w L (vSl ob) bs := fun L i => ⟨fun w' hw' => BatO.reads ⟨dnb, ob, heb⟩ (hw'.sub i.out)⟩
 simp only [BatO.mem, List.append_assoc]
 generalize hhs : dnb.map BD.hd = hs at *
 obtain ⟨hf0, hf1⟩ := hf
 obtain ⟨ht0, ht1⟩ := ht
 repeat (refine wkM ?_; try intro _)
 refine Zq (S := (m : Nat) × BatO (ordL bs f.toNat m)) (fun q => q.1 ≤ hs.length) (fun q => [(1, .int .u8 f), (2, .int .u8 t), (7, vSl ob), (8, .pointer (some ⟨b8, 0, none⟩)), (9, vSl q.2.o), (10, .int .i64 (q.1 : Nat))]) (fun q => mS 40 q.2.o ++ (mS 40 ob ++ (bdM dnb ++ (⟨b8, Zn s, 32⟩ :: bdM q.2.dn)))) (fun q => hs.length - q.1) ⟨0, BatO.no⟩ (Nat.zero_le _) sbB suB (fun q hm => ?_)
 obtain ⟨m, dn, o, hdn⟩ := q
 simp only at hm ⊢
 have hdl : (dn.map BD.hd).length = m := by
  have := congrArg List.length hdn
  rw [Zga, List.length_map] at this
  rw [List.length_map, this]
 repeat (refine wkM ?_; try intro _)
 refine Zl rfl (fun h1 => ?_) (fun h1 => ?_)
 ·have hlt : m < hs.length := by have := of_decide_eq_true h1; omega
  rcases ob.cases 40 with ⟨x0, -, -⟩ | ⟨bb, cb, sp, hc1, x1, x2, xne⟩
  ·rw [x0] at hlt
   cases hlt
  simp only [x1, x2, List.cons_append, List.nil_append]
  repeat (refine wkM ?_; try intro _)
  have hk := ZpR (n := hs.length) (f := f) (i := m) hf0 (by omega)
  have hkl := ZfN (n := hs.length) (f := f.toNat) (i := m) (by omega)
  obtain ⟨⟨rs, r, es, e⟩, hd, hg1, hg2⟩ := hgi _ hkl
  have hnx : ordL bs f.toNat (m + 1) = ordL bs f.toNat m ++ [revB (rs, es)] := by
   show ordL bs f.toNat m ++ [revB (gi bs ((ordK bs.length f.toNat m : Nat) : Int))] = _
   rw [hN, hg2]
  obtain ⟨hr12, he6⟩ := hmb _ hd
  dsimp only at hg1 hg2 hr12 he6
  have hrd : ∀ L w', [SblC (bdM dnb) L] → Own w L w' → ArgS w' (vSl r) Zc rs := fun L w' i hw' => Ztj (L := L) hw' hd
  have hee : ∀ L, [SblC (bdM dnb) L] → LstC w L (vSl e) Za Zd es := fun L i => ⟨fun w' hw' => ZtZ (L := L) hw' hd⟩
  simp only [hk]
  (first | refine sX rfl rfl ?_ | (refine sS rfl rfl ?_ ?_; focus omega) | (refine sC rfl rfl ?_ ?_; focus (first | exact trivial | assumption | constructor <;> assumption | exact mb2 rfl rfl | exact mb4 rfl rfl rfl rfl)) | refine cX ?_ | refine cY ?_ | (refine sA rfl rfl ?_; intro _) | refine sT rfl ?_ | refine sF rfl ?_ | (refine sR rfl ?_ ?_; focus omega) | (refine sB rfl rfl ?_; intro _) | (refine sN rfl rfl ?_ ?_; (focus (first | exact trivial | assumption | constructor <;> assumption | exact mb2 rfl rfl | exact mb4 rfl rfl rfl rfl)); intro _; (try simp only [List.cons_append, List.nil_append, List.append_nil])) | refine sW rfl rfl ?_ | refine sK rfl rfl ?_ | refine Zek rfl ?_ | refine Zb9 rfl ?_ | refine pkT rfl rfl rfl rfl ?_ | refine pkF rfl rfl rfl rfl ?_)
  (first | refine sX rfl rfl ?_ | (refine sS rfl rfl ?_ ?_; focus omega) | (refine sC rfl rfl ?_ ?_; focus (first | exact trivial | assumption | constructor <;> assumption | exact mb2 rfl rfl | exact mb4 rfl rfl rfl rfl)) | refine cX ?_ | refine cY ?_ | (refine sA rfl rfl ?_; intro _) | refine sT rfl ?_ | refine sF rfl ?_ | (refine sR rfl ?_ ?_; focus omega) | (refine sB rfl rfl ?_; intro _) | (refine sN rfl rfl ?_ ?_; (focus (first | exact trivial | assumption | constructor <;> assumption | exact mb2 rfl rfl | exact mb4 rfl rfl rfl rfl)); intro _; (try simp only [List.cons_append, List.nil_append, List.append_nil])) | refine sW rfl rfl ?_ | refine sK rfl rfl ?_ | refine Zek rfl ?_ | refine Zb9 rfl ?_ | refine pkT rfl rfl rfl rfl ?_ | refine pkF rfl rfl rfl rfl ?_)
  simp only [hg1]
  repeat (refine wkM ?_; try intro _)
  rename_i b11 b12
  rw [show (rs.length : Int) - 1 = (rs.length : Int) - 1 - ((0 : Nat) : Int) by omega]
  refine Zq (S := (k : Nat) × SlS Zc 8 (rs.reverse.take k)) (fun q => q.1 ≤ rs.length) (fun q => [(1, .int .u8 f), (2, .int .u8 t), (7, .slice (some ⟨bb, 0, none⟩) hs.length cb), (8, .pointer (some ⟨b8, 0, none⟩)), (9, vSl o), (10, .int .i64 (m : Nat)), (11, .pointer (some ⟨b11, 0, none⟩)), (12, .pointer (some ⟨b12, 0, none⟩)), (13, .int .i64 ((rs.length : Int) - 1 - (q.1 : Nat)))]) (fun q => mS 35 q.2 ++ (⟨b12, Zp ⟨slH q.2, slH (SlS.no : SlS Zd 5 [])⟩, 40⟩ :: ⟨b11, Zp ⟨slH r, slH e⟩, 40⟩ :: (mS 40 o ++ (⟨bb, row Zp hs sp, 40⟩ :: (bdM dnb ++ (⟨b8, Zn s, 32⟩ :: bdM dn)))))) (fun q => rs.length - q.1) ⟨0, SlS.no⟩ (Nat.zero_le _) sbB (by rw [ZmD]; exact suB) (fun q hk => ?_)
  obtain ⟨k, r'⟩ := q
  simp only at hk ⊢
  have hrl : (rs.reverse.take k).length = k := by rw [List.length_take, List.length_reverse]; omega
  repeat (refine wkM ?_; try intro _)
  refine Zl rfl (fun h2 => ?_) (fun h2 => ?_)
  ·have hlt2 : k < rs.length := by have := of_decide_eq_true h2; omega
   rcases r.cases 35 with ⟨y0, -, -⟩ | ⟨br, cr, sq, hc2, y1, y2, yne⟩
   ·rw [y0] at hlt2
    cases hlt2
   have hrr : ∀ L, [SblC (bdM dnb) L] → RowC w L br 0 Zb Zc rs := fun L i => LstC.row (k := 7) (n := rs.length) (c := cr) ⟨fun w' hw' => by rw [← y1]; exact hrd L w' hw'⟩ yne
   have hnx2 := ZpH hlt2
   have e13 : (rs.length : Int) - 1 - (k : Nat) - 1 = (rs.length : Int) - 1 - ((k + 1 : Nat) : Int) := by omega
   repeat (refine wkM ?_; try intro _)
   (refine Zao (.v [0, 2, 3, 4, 5, 6] (.e2 1 (.e1 7 (.e1 8 (.v [9] (.e1 10 (.fin))))) 7 (.e1 1 (.e1 8 (.v [9] (.e1 10 (.fin))))))) (⟨b11, Zp ⟨slH r, slH e⟩, 40⟩ :: bdM dnb) (h := ?_); refine wkX ?_)
   (repeat (refine wkH ?_))
   simp only [y1]
   (repeat (refine wkH ?_))
   refine And.intro ?_ ?_
   all_goals
    repeat (refine wkT ?_; try intro _)
    refine eU rfl rfl ?_ ?_ ?_ ?_
    ·rfl
    ·rfl
    ·exact ⟨by decide, by omega, by omega⟩
    intro r''
    repeat (refine wkT ?_; try intro _)
    obtain ⟨r3, e1, e2⟩ := SlS.turn 35 hnx2.symm r''
    have e3 := ZbM e1
    repeat (refine wkO ?_; try intro _)
    simp only [e13]
    exact Zj ⟨k + 1, r3⟩ hlt2 sbB (by simp only [e2, e3]; exact suB) (by show rs.length - (k + 1) < rs.length - k; omega)
  ·obtain rfl : k = rs.length := by have := of_decide_eq_false h2; omega
   obtain ⟨r1, e1, e2⟩ := SlS.turn 35 (show rs.reverse.take rs.length = rs.reverse by rw [List.take_of_length_le (by rw [List.length_reverse]; exact Nat.le_refl _)]) r'
   have e3 := ZbM e1
   rw [← e2, ← e3]
   clear e1 e2 e3
   repeat (refine wkM ?_; try intro _)
   (refine Zao (.v [0, 2, 3, 5, 6] (.e1 1 (.e1 4 (.e1 7 (.v [8] (.e1 9 (.fin))))))) ([⟨b11, Zp ⟨slH r, slH e⟩, 40⟩]) (h := ?_); refine wkX ?_)
   (repeat (refine wkH ?_))
   repeat (refine wkT ?_; try intro _)
   refine eVA rfl rfl ?_ ?_ ?_
   ·rfl
   ·refine ⟨?_, ?_⟩ <;> (first | omega | (simp only [List.length_append, List.length_nil]; omega))
   intro e'
   refine eVA rfl rfl ?_ ?_ ?_
   ·rfl
   ·refine ⟨?_, ?_⟩ <;> (first | omega | (simp only [List.length_append, List.length_nil]; omega))
   intro e''
   repeat (refine wkT ?_; try intro _)
   repeat (refine wkM ?_; try intro _)
   refine sU rfl rfl ?_ ?_ ?_ ?_
   ·rfl
   ·rfl
   ·exact ⟨by decide, by omega, by omega⟩
   intro o'
   repeat (refine wkO ?_; try intro _)
   obtain ⟨D, hD1, hD2, hD3⟩ : ∃ D : BD, BD.hd D = ⟨slH r1, slH e''⟩ ∧ BD.mm D = mS 35 r1 ++ mS 122 e'' ∧ (D.rs, D.es) = revB (rs, es) := ⟨⟨rs.reverse, r1, _, e''⟩, rfl, rfl, rfl⟩
   have ho : dn.map BD.hd ++ [⟨slH r1, slH e''⟩] = (dn ++ [D]).map BD.hd := by rw [List.map_append, ← hD1]; rfl
   obtain ⟨o3, e1, e2⟩ := SlS.turn 40 ho o'
   refine ZfE (M := mS 40 o3 ++ (⟨bb, row Zp hs sp, 40⟩ :: (bdM dnb ++ (⟨b8, Zn s, 32⟩ :: bdM (dn ++ [D]))))) (L' := mS 40 o3 ++ (mS 122 e'' ++ (mS 35 r1 ++ (⟨bb, row Zp hs sp, 40⟩ :: (bdM dnb ++ (⟨b8, Zn s, 32⟩ :: bdM dn)))))) (by rw [e2]; exact suB) ?_ ?_
   ·refine List.Perm.append_left _ ?_
    rw [Zjf, hD2]
    refine (Zi7 _ _ _).trans ?_
    simp only [List.append_assoc, List.cons_append]
    exact .refl _
   ·exact Zj ⟨m + 1, dn ++ [D], o3, by rw [List.map_append, hdn, hnx, ← hD3]; rfl⟩ hlt (by simp only [e1, x1]; exact sbB) (by simp only [x2]; exact suB) (by show hs.length - (m + 1) < hs.length - m; omega)
 ·obtain rfl : m = hs.length := by have := of_decide_eq_false h1; omega
  repeat (refine wkM ?_; try intro _)
  refine ZaR (S := CbO (ordT bs f.toNat t.toNat) (mS 40 ob ++ bdM dnb)) (fun _ => True) (fun q => [(7, vSl ob), (8, .pointer (some ⟨b8, 0, none⟩)), (9, q.v)]) (fun q => q.m ++ (mS 40 ob ++ (bdM dnb ++ [⟨b8, Zn s, 32⟩]))) ?_ (fun q _ => ?_)
  ·refine Zl rfl (fun h2 => ?_) (fun h2 => ?_)
   ·have h0 : 0 < hs.length := by have := of_decide_eq_true h2; omega
    have hk : t % (hs.length : Int) = ((t.toNat % hs.length : Nat) : Int) := by
     rw [Int.natCast_emod]
     congr 1
     omega
    obtain ⟨⟨rs, r, es, e⟩, hd, hg1, hg2⟩ := hgi _ (Nat.mod_lt t.toNat h0)
    dsimp only at hg1 hg2
    have hT : ordT bs f.toNat t.toNat = ordL bs f.toNat hs.length ++ [(rs, es)] := by
     unfold ordT
     rw [if_neg (by omega), hN, hg2]
    rcases ob.cases 40 with ⟨x0, -, -⟩ | ⟨bb, cb, sp, hc1, x1, x2, xne⟩
    ·rw [x0] at h0
     cases h0
    rw [x1, x2]
    simp only [List.cons_append, List.nil_append]
    repeat (refine wkM ?_; try intro _)
    have hkl := Nat.mod_lt t.toNat h0
    simp only [hk]
    (first | refine sX rfl rfl ?_ | (refine sS rfl rfl ?_ ?_; focus omega) | (refine sC rfl rfl ?_ ?_; focus (first | exact trivial | assumption | constructor <;> assumption | exact mb2 rfl rfl | exact mb4 rfl rfl rfl rfl)) | refine cX ?_ | refine cY ?_ | (refine sA rfl rfl ?_; intro _) | refine sT rfl ?_ | refine sF rfl ?_ | (refine sR rfl ?_ ?_; focus omega) | (refine sB rfl rfl ?_; intro _) | (refine sN rfl rfl ?_ ?_; (focus (first | exact trivial | assumption | constructor <;> assumption | exact mb2 rfl rfl | exact mb4 rfl rfl rfl rfl)); intro _; (try simp only [List.cons_append, List.nil_append, List.append_nil])) | refine sW rfl rfl ?_ | refine sK rfl rfl ?_ | refine Zek rfl ?_ | refine Zb9 rfl ?_ | refine pkT rfl rfl rfl rfl ?_ | refine pkF rfl rfl rfl rfl ?_)
    (first | refine sX rfl rfl ?_ | (refine sS rfl rfl ?_ ?_; focus omega) | (refine sC rfl rfl ?_ ?_; focus (first | exact trivial | assumption | constructor <;> assumption | exact mb2 rfl rfl | exact mb4 rfl rfl rfl rfl)) | refine cX ?_ | refine cY ?_ | (refine sA rfl rfl ?_; intro _) | refine sT rfl ?_ | refine sF rfl ?_ | (refine sR rfl ?_ ?_; focus omega) | (refine sB rfl rfl ?_; intro _) | (refine sN rfl rfl ?_ ?_; (focus (first | exact trivial | assumption | constructor <;> assumption | exact mb2 rfl rfl | exact mb4 rfl rfl rfl rfl)); intro _; (try simp only [List.cons_append, List.nil_append, List.append_nil])) | refine sW rfl rfl ?_ | refine sK rfl rfl ?_ | refine Zek rfl ?_ | refine Zb9 rfl ?_ | refine pkT rfl rfl rfl rfl ?_ | refine pkF rfl rfl rfl rfl ?_)
    simp only [hg1]
    repeat (refine wkM ?_; try intro _)
    refine sU rfl rfl ?_ ?_ ?_ ?_
    ·rfl
    ·rfl
    ·exact ⟨by decide, by omega, by omega⟩
    intro o'
    repeat (refine wkM ?_; try intro _)
    have hR : ∀ {w0 w' : World}, Own w0 (mS 40 o' ++ bdM dn) w' → Own w0 (⟨bb, row Zp hs sp, 40⟩ :: bdM dnb) w' → BatA w' (vSl o') (ordT bs f.toNat t.toNat) := fun {w0 w'} h3 h4 => by
     have g1 : ArgS w' (vSlc (slH r)) Zc rs := by
      rw [ZcC]
      exact Ztj (dn := dnb) h4 hd
     have g2 : ArgS w' (vSlc (slH e)) Zd es := by
      rw [ZcC]
      exact ZtZ (dn := dnb) h4 hd
     rw [hT]
     exact Zox dn _ (rs, es) o' h3 hdn g1 g2
    refine ZfE (M := (mS 40 o' ++ bdM dn) ++ (⟨bb, row Zp hs sp, 40⟩ :: (bdM dnb ++ [⟨b8, Zn s, 32⟩]))) (L' := mS 40 o' ++ ((⟨bb, row Zp hs sp, 40⟩ :: (bdM dnb ++ [⟨b8, Zn s, 32⟩])) ++ bdM dn)) (by simp only [List.append_assoc, List.cons_append, List.nil_append]; exact suB) ?_ ?_
    ·exact (List.Perm.append_left _ List.perm_append_comm).trans (.of_eq (List.append_assoc _ _ _).symm)
    ·exact ZT ⟨vSl o', mS 40 o' ++ bdM dn, hR⟩ trivial sbB (List.Sublist.refl _)
   ·have h0 : hs.length = 0 := by have := of_decide_eq_false h2; omega
    have hT : ordT bs f.toNat t.toNat = ordL bs f.toNat hs.length := by
     unfold ordT
     rw [if_pos (by omega), h0]
     rfl
    repeat (refine wkM ?_; try intro _)
    refine ZfE (M := (mS 40 o ++ bdM dn) ++ (mS 40 ob ++ (bdM dnb ++ [⟨b8, Zn s, 32⟩]))) (L' := mS 40 o ++ ((mS 40 ob ++ (bdM dnb ++ [⟨b8, Zn s, 32⟩])) ++ bdM dn)) (by simp only [List.append_assoc, List.cons_append, List.nil_append]; exact suB) ?_ ?_
    ·exact (List.Perm.append_left _ List.perm_append_comm).trans (.of_eq (List.append_assoc _ _ _).symm)
    ·exact ZT ⟨vSl o, mS 40 o ++ bdM dn, fun h3 _ => by rw [hT]; exact BatO.reads ⟨dn, o, hdn⟩ h3⟩ trivial sbB (List.Sublist.refl _)
  have hrs := hB.rs
  have hink := hB.ink
  have hink2 := hB.ord f.toNat t.toNat
  have hk1 : ∀ i1 : InkO (bR bs) (bE bs), TrX s i1.R i1.X := fun i1 => ⟨⟨i1.xok hrs, hsv⟩, hsg⟩
  have hk2 : ∀ i2 : InkO (bR (ordT bs f.toNat t.toNat)) (bE (ordT bs f.toNat t.toNat)), TrX s i2.R i2.X := fun i2 => ⟨⟨i2.xokS hrs (fun r => (ZiL r).symm) (fun y => (ZiU y).symm), hsv⟩, hsg⟩
  repeat (refine wkM ?_; try intro _)
  (refine Zao (.v [0, 2] (.e1 1 (.e1 3 (.v [4, 5, 6] (.e1 7 (.e1 8 (.fin))))))) ([⟨b8, Zn s, 32⟩]) (h := ?_); refine wkX ?_)
  (repeat (refine wkH ?_))
  repeat (first | (refine wkT ?_; try intro _) | (refine tC rfl rfl ?_ ?_; focus (first | exact hink | exact hk1 _)) | (refine uC rfl rfl ?_ ?_; focus (first | exact hink | exact hk1 _)) | (refine eN rfl rfl ?_ ?_; (focus (first | exact hink | exact hk1 _)); intro _; (try simp only [List.cons_append, List.nil_append, List.append_nil])))
  rename_i i1 o1
  repeat (refine wkM ?_; try intro _)
  (refine Zao (.v [0, 2] (.e1 1 (.e1 3 (.v [4, 5, 6] (.e1 7 (.e1 8 (.fin))))))) ([⟨b8, Zn s, 32⟩]) (h := ?_); refine wkX ?_)
  (repeat (refine wkH ?_))
  repeat (first | (refine wkT ?_; try intro _) | (refine tC rfl rfl ?_ ?_; focus (first | exact hink2 | exact hk2 _)) | (refine uC rfl rfl ?_ ?_; focus (first | exact hink2 | exact hk2 _)) | (refine eN rfl rfl ?_ ?_; (focus (first | exact hink2 | exact hk2 _)); intro _; (try simp only [List.cons_append, List.nil_append, List.append_nil])))
  rename_i i2 o2
  have e : obX s i2.R i2.X = obX s i1.R i1.X := Zrn i2 i1 (fun r => ZiL r) (fun y => ZiU y)
  have hsmall := ZmX (s := s) (i1.xok hrs) w
  generalize obX s i2.R i2.X = y2 at *
  subst e
  generalize obX s i1.R i1.X = y1 at *
  repeat (refine wkM ?_; try intro _)
  simp only [decide_eq_true (rfl : (0 : Int) = 0)]
  repeat (first | (refine wkM ?_; try intro _) | (refine sC rfl rfl ?_ ?_; focus (exact hsmall)) | (refine sN rfl rfl ?_ ?_; (focus (exact hsmall)); intro _; (try simp only [List.cons_append, List.nil_append, List.append_nil])))
  exact Zf rfl rfl (fun w hw => Zh hw)
end Go.Vt
/- The card of ReconstructOrderless. Conditions: none. -/
namespace Go.Proofs.YtjicdlilgjdefaaGreatDoor
open Go.ChangeShapes Go.WideShapes Go.ChangeAt Go.RowKit Go.Deep
def ordArgs : Array Value := #[.agg #[.slice none 0 0, .int .u8 0, .int .u8 0], .int .u8 0, .int .u8 0]
theorem Zm7 (os : Os) {H : Type} (enc : TypeId × Value → H) : ∃ places, DataW.whole enc Tryz.prog ((laidWorld os).forCall (fun _ _ => 0) ⟨#[], ordArgs, []⟩).memory Tryz.f6.params.toList Rows.reconstructOrderlessSpec.vars false ordArgs.toList 8 = some ([.agg [.nil, .lit (.int .u8 0), .lit (.int .u8 0)], .lit (.int .u8 0), .lit (.int .u8 0)], [], places) :=
 ⟨[], by kernel_rfl⟩
theorem ZiA (H : Type) (enc : TypeId × Value → H) (W : World) (base : Nat) (args : Array Value) (ds gs : List (DataW H)) (before : List MemPlace)
  (hval : ∀ (j : Nat) t v, Tryz.f6.params[j]? = some t → args[j]? = some v → Value.okWide Tryz.prog W .any base t v)
  (hW : DataW.Whole enc Tryz.prog Tryz.f6.params.toList Rows.reconstructOrderlessSpec.vars false W args.toList ds gs before)
  (hwt : (DataW.weightsEach Tryz.prog (Tryz.f6.params.toList ++ (OpenSpec.ofChange Rows.reconstructOrderlessSpec).bare.plain.varTypes Tryz.prog) (ds ++ gs)).all (· ≤ reachBytes) = true) :
  Calls Tryz.prog 6 args W fun e W' => ∃ v, e = .returned v ∧ Rows.reconstructOrderlessSpec.post enc Tryz.prog Tryz.f6 false true false false W args v W' := by
 have hW' := hW
 obtain ⟨p, q, hA0, hV, rfl, hfz, hnd⟩ := hW
 have hA : DataW.TrodAll enc Tryz.prog W 0 (fun _ => true) true Tryz.f6.params.toList args.toList ds p := hA0
 rw [Tryz.params6] at hA hval hwt
 obtain ⟨v0, vs0, d0, ds0, p0, q0, hargs0, rfl, rfl, h0, r0⟩ := trodAll_cons hA
 obtain ⟨v1, vs1, d1, ds1, p1, q1, hargs1, rfl, rfl, h1, r1⟩ := trodAll_cons r0
 obtain ⟨v2, vs2, d2, ds2, p2, q2, hargs2, rfl, rfl, h2, r2⟩ := trodAll_cons r1
 subst hargs2
 subst hargs1
 obtain ⟨rfl, rfl, rfl⟩ := trodAll_nil r2
 obtain rfl : args = #[v0, v1, v2] := by cases args; simp_all
 obtain ⟨rfl, rfl⟩ := trodVars_none hV
 clear hA0
 simp only [List.append_nil] at hW'
 have hlt : ∀ x ∈ p0 ++ (p1 ++ (p2)), x.block < W.heap.size := fun x hx => by simpa using hW'.lt x hx
 have h0k := h0
 have hw0 := ZrU hwt (j := 0) (t := 24) (d := d0) rfl rfl
 obtain ⟨sl, a, b, ls, ps, cs, rfl, hwl, ha, hb'⟩ := Zmh (hval 0 24 v0 rfl rfl) h0 hw0
 obtain ⟨n1, rfl, rfl, rfl, hu1⟩ := open_int ru5 (hval 1 5 v1 rfl rfl) h1
 obtain ⟨n2, rfl, rfl, rfl, hu2⟩ := open_int ru5 (hval 2 5 v2 rfl rfl) h2
 refine (Go.Vt.lord_spec sl a b n1 n2 ls ps cs W hwl ha hb' (Zbt hu1) (Zbt hu2)).mono fun e' W' ⟨he', ⟨hb, _⟩⟩ => ?_
 subst he'
 try simp only [List.append_nil] at hlt hW'
 exact ⟨_, rfl, ⟨_, _, _, [], _, [], hW', trodAll_mk1 (shut_bool Tryz.underlying4 _), trodAll_mk3 (Below.trod rlaidOut (by kernel_rfl) (of_decide_eq_true (by kernel_rfl)) h0k hb (fun x hx => hlt x (by simp [hx]))) (shut_int ru5 hu1) (shut_int ru5 hu2), (by first | rfl | (simp; done)), hb.frame _, fun h => by cases h⟩⟩
theorem ord_lifted (os : Os) (started : os.Started) (H : Type) (enc : TypeId × Value → H) (F : Stop.Interp) :
  ReturnsInHanded {} Tryz.checked os 6 .any ((OpenSpec.ofChange Rows.reconstructOrderlessSpec).preRow enc Tryz.prog Tryz.f6 Rows.reconstructOrderlessRow.domain false Rows.reconstructOrderlessRow.laid) (((OpenSpec.ofChange Rows.reconstructOrderlessSpec).at F).post enc Tryz.prog Tryz.f6 false true false false) := by
 obtain ⟨places, hx⟩ := Zm7 os enc
 refine returnsInHanded_of_row (C := Tryz.checked) (s := OpenSpec.ofChange Rows.reconstructOrderlessSpec) rown started (by kernel_rfl) Tryz.func6
  (witness_row_at (enc := enc) (C := Tryz.checked) false (laidWorld os) ordArgs rfl (by kernel_rfl) (by kernel_rfl) (by kernel_rfl)
   (OpenSpec.preRow_of_cond 8 hx (by kernel_rfl) (fun k hk => by cases hk) (by kernel_rfl) (Zpe os _))) ?_
 intro W base args ds gs before hval hW _ _ hwt _ _ _
 exact ZiA H enc W base args ds gs before hval hW hwt
end Go.Proofs.YtjicdlilgjdefaaGreatDoor
