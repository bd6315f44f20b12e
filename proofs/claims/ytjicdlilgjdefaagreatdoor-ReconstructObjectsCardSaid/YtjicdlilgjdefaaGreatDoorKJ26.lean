/- that objects are reconstructed from their reports (part 26 of 29.) Conditions: those that each statement names. -/
import Derived.Test.YtjicdlilgjdefaaGreatDoorCards
import Derived.Test.YtjicdlilgjdefaaGreatDoorTie
import Derived.WalkKit
import Derived.ProofKit
import Derived.OpenShut
import Derived.SizedLaws
import Derived.Deep.DeepHandedRow
import Derived.Deep.DeepLaidRun
import Derived.Deep.SlicePairs
import Derived.Carry
import Derived.Lib.LaidU8
import Derived.Test.YtjicdlilgjdefaaGreatDoorKJ19
import Derived.Test.YtjicdlilgjdefaaGreatDoorKJ21
import Derived.Test.YtjicdlilgjdefaaGreatDoorKJ22
import Derived.Test.YtjicdlilgjdefaaGreatDoorKJ24
import Derived.Test.YtjicdlilgjdefaaGreatDoorKJ25
set_option linter.unusedSimpArgs false
set_option linter.unusedVariables false
set_option maxHeartbeats 2000000
set_option maxRecDepth 100000
namespace Go.Vt
open Go.RowKit Go.Proofs
open Go.Proofs.Tryz (prog)
section
instance ZFZ (w0 : World) (L : List Blk) (v : Value) (l : List Zc) (x : Zc) [h : LstC w0 L v Zc Zh l] : SpecR prog w0 L 56 [v, vTm x] (SlS Zh 12 (putL l x)) (fun s => vSl s) (fun s => mS 56 s) (l.length ≤ 1048576 ∧ (∀ z ∈ l, TkOk z) ∧ TkOk x) := ⟨fun hp w hw => Zom v l x w (h.out w hw) hp.1 hp.2.1 hp.2.2⟩
structure RsOk (rs : List Zb) (es : List Za) : Prop where
 n : rs.length ≤ 12
 en : es.length ≤ 6
 ee : ∀ y ∈ es, ExB y
 rr : ∀ r ∈ rs, RepV r
theorem RsOk.tk {rs : List Zb} {es : List Za} {o : Int} (h : RsOk rs es) (w : World) : ∀ z ∈ tmXL es (ofL rs o), TkOk z := Zhd w h.en h.ee fun r hr => h.rr r (Zf1 hr)
theorem RsOk.rk {rs : List Zb} {es : List Za} {o : Int} (h : RsOk rs es) (w : World) : ∀ z ∈ repL rs es o, TkOk z := fun z hz => h.tk w z ((ZfN _).1.mem_iff.1 hz)
theorem Zgp {rs : List Zb} {es : List Za} {o : Int} : (repL rs es o).length ≤ rs.length := by
 unfold repL
 rw [ZjV]
 exact Wi ZdM ZgW
set_option maxHeartbeats 8000000 in
theorem ZiD (sr0 he : Sl) (rs : List Zb) (es : List Za) (o : Int) (w : World) (hv : ArgS w (vSlc sr0) Zd rs) (hu : ArgS w (vSlc he) Ze es) (hk : RsOk rs es) :
  Calls prog 19 [.agg (Zs ⟨sr0, he⟩), .int .i64 o].toArray w (RetM (SlS Zh 12 (repL rs es o)) (fun s => vSl s) (fun s => mS 56 s) w) := by
 have hvl := fun L => hv.lst L
 have hul := fun L => hu.lst L
 have hTk := hk.tk w (o := o)
 have hov : ∀ r ∈ ofL rs o, RepV r := fun r hr => hk.rr r (Zf1 hr)
 have hol := ZgW (rs := rs) (o := o)
 have hn := hk.n
 have hdf : repL rs es o = puts (tmXL es (ofL rs o)) := rfl
 refine Zg Tryz.func19 rfl Tryz.ntmps19 rfl ?_
 repeat (refine wkM ?_; intros)
 try dsimp only
 repeat (first | (refine wkM ?_; intros) | (refine wnM ?_ ?_; (focus (exact hn)); intros))
 rename_i b2 s0
 generalize ofL rs o = cs at *
 refine Zq (S := (m : Nat) × SlS Zh 12 (puts (tmXL es (cs.take m)))) (fun q => q.1 ≤ cs.length) (fun q => [(2, .pointer (some ⟨b2, 0, none⟩)), (5, vSl q.2), (6, vF s0), (7, .int .i64 (q.1 : Nat))]) (fun q => mS 56 q.2 ++ (mF 35 s0 ++ [⟨b2, Zs ⟨sr0, he⟩, 40⟩])) (fun q => cs.length - q.1) ⟨0, SlS.no⟩ (Wm _) sbB suB (fun q hq => ?_)
 obtain ⟨m, q⟩ := q
 simp only at hq ⊢
 have hql : (puts (tmXL es (cs.take m))).length ≤ m := by
  rw [ZjV]
  have := ZdM (ex := es) (cs := cs.take m)
  rw [Wt] at this
  omega
 have hqk : ∀ z ∈ puts (tmXL es (cs.take m)), TkOk z := fun z hz => by
  have h1 := (ZfN _).1.mem_iff.1 hz
  obtain ⟨r, h2, h3⟩ := List.mem_filterMap.1 h1
  exact hTk z (List.mem_filterMap.2 ⟨r, List.mem_of_mem_take h2, h3⟩)
 repeat (refine wkM ?_; intros)
 refine Zn rfl (fun h => ?_) (fun h => ?_)
 ·have hlt : m < cs.length := by have := Wa h; omega
  have hr := hov (gi cs (m : Int)) (Z0 (by omega))
  have hn1 := (ZjI (ex := es) hlt).1
  have hpr : es.length ≤ 6 ∧ (∀ x ∈ es, ExB x) ∧ (0 ≤ (gi cs (m : Int)).Device ∧ (gi cs (m : Int)).Device ≤ 1073741824) ∧ (0 ≤ (gi cs (m : Int)).Time ∧ (gi cs (m : Int)).Time ≤ 1073741824) := ⟨hk.en, hk.ee, hr.d, hr.t⟩
  rcases s0.cases 35 with ⟨x0, -, -⟩ | ⟨bs, cb, sp, hc1, x1, x2⟩
  ·rw [x0] at hlt
   cases hlt
  have hz : (corX es (gi cs (m : Int))).2 = 0 → TkOk ⟨(corX es (gi cs (m : Int))).1, gi cs (m : Int)⟩ := fun h0 => ⟨ZnI w hk.en hk.ee hr.d hr.t, hr.x, hr.y⟩
  unfold tmF at hn1
  simp only [x1, x2, Wf, Wg]
  repeat (refine wkM ?_; intros)
  (refine Zep [0, 1, 2, 3, 4, 5, 6, 7, 8, 9] [10] [11, 12] ([⟨bs, row Zd cs sp, 35⟩, ⟨b2, Zs ⟨_, he⟩, 40⟩]) (h := ?_); refine wkI ?_)
  (repeat (refine wkH ?_))
  try dsimp only
  (repeat (first | refine wkH ?_ | (refine tC rfl rfl ?_ ?_; focus (exact hpr))))
  repeat (refine wkT ?_; intros)
  rename_i b8
  repeat (refine wkM ?_; intros)
  by_cases e0 : (corX es (gi cs (m : Int))).2 = 0
  ·rw [if_pos e0, Option.toList_some] at hn1
   have hnx : puts (tmXL es (cs.take (m + 1))) = putL (puts (tmXL es (cs.take m))) ⟨(corX es (gi cs (m : Int))).1, gi cs (m : Int)⟩ := by rw [hn1, Zn6]
   have hpp : (puts (tmXL es (cs.take m))).length ≤ 1048576 ∧ (∀ z ∈ puts (tmXL es (cs.take m)), TkOk z) ∧ TkOk ⟨(corX es (gi cs (m : Int))).1, gi cs (m : Int)⟩ := ⟨by omega, hqk, hz e0⟩
   simp only [Wc e0, Bool.not_true]
   repeat (refine wkM ?_; intros)
   (refine Zao (.v [0, 1, 2, 3, 4, 5, 6] (.e1 7 (.e1 8 (.fin)))) ([⟨b8, Zx (Q (corX es (gi cs (m : Int))).1), 54⟩, ⟨bs, row Zd cs sp, 35⟩]) (h := ?_); refine wkX ?_)
   (repeat (refine wkH ?_))
   repeat (first | (refine wkT ?_; intros) | (refine tC rfl rfl ?_ ?_; focus (exact hpp)) | (refine uC rfl rfl ?_ ?_; focus (exact hpp)) | (refine eN rfl rfl ?_ ?_; (focus (exact hpp)); intro _; (try simp only [Wf, Wg, Wh])))
   rename_i q'
   repeat (refine wkO ?_; intros)
   obtain ⟨s3, e1, e2⟩ := SlS.turn 56 hnx.symm q'
   exact Zj ⟨m + 1, s3⟩ hlt (by simp only [e1, x1]; exact sbB) (by simp only [e2, x2]; exact suB) (by show cs.length - (m + 1) < cs.length - m; omega)
  ·rw [if_neg e0, Option.toList_none, Wh] at hn1
   simp only [We e0, Bool.not_false]
   repeat (refine wkO ?_; intros)
   obtain ⟨s3, e1, e2⟩ := SlS.turn 56 (show puts (tmXL es (cs.take m)) = puts (tmXL es (cs.take (m + 1))) by rw [hn1]) q
   exact Zj ⟨m + 1, s3⟩ hlt (by simp only [e1, x1]; exact sbB) (by simp only [e2, x2]; exact suB) (by show cs.length - (m + 1) < cs.length - m; omega)
 ·have hge : m = cs.length := by have := Wb h; omega
  obtain ⟨s3, e1, e2⟩ := SlS.turn 56 (show puts (tmXL es (cs.take m)) = repL rs es o by rw [hdf, List.take_of_length_le (by omega)]) q
  repeat (refine wkM ?_; intros)
  refine Zf rfl rfl (fun w hw => ⟨s3, ?_, ?_⟩)
  ·show Ending.returned (vSl q) = Ending.returned (vSl s3)
   rw [e1]
  ·show Own _ (mS _ s3) w
   rw [e2]
   exact hw.sub suB
instance ZvH (w0 : World) (L : List Blk) (sr0 he : Sl) (rs : List Zb) (es : List Za) (o : Int) [h1 : LstC w0 L (vSlc sr0) Zb Zd rs] [h2 : LstC w0 L (vSlc he) Za Ze es] : SpecR prog w0 L 19 [.agg (Zs ⟨sr0, he⟩), .int .i64 o] (SlS Zh 12 (repL rs es o)) (fun s => vSl s) (fun s => mS 56 s) (RsOk rs es) := ⟨fun hp w hw => ZiD sr0 he rs es o w (h1.out w hw) (h2.out w hw) hp⟩
set_option maxHeartbeats 8000000 in
theorem ZmF (sr0 he : Sl) (rs : List Zb) (es : List Za) (o : Int) (s : ZC) (w : World) (hv : ArgS w (vSlc sr0) Zd rs) (hu : ArgS w (vSlc he) Ze es) (hk : RsOk rs es) (hs : -1048576 ≤ s.MaxSpeed ∧ s.MaxSpeed ≤ 1048576) :
  Calls prog 20 [.agg (Zs ⟨sr0, he⟩), .int .i64 o, .agg (Zm s)].toArray w (RetM (SlS Zh 12 (kpT s.MaxSpeed (repL rs es o))) (fun s => vSl s) (fun s => mS 56 s) w) := by
 have hvl := fun L => hv.lst L
 have hul := fun L => hu.lst L
 have hn := hk.n
 have hl := Zgp (rs := rs) (es := es) (o := o)
 have hk2 : (repL rs es o).length ≤ 4096 ∧ (∀ z ∈ repL rs es o, TkOk z) ∧ (-1048576 ≤ s.MaxSpeed ∧ s.MaxSpeed ≤ 1048576) := ⟨by omega, hk.rk w, hs⟩
 refine Zg Tryz.func20 rfl Tryz.ntmps20 rfl ?_
 repeat (first | (refine wkM ?_; intros) | (refine wnM ?_ ?_; (focus (first | exact hk | exact hk2)); intros))
 rename_i b3 b5 s1 ch
 generalize hT : repL rs es o = T at *
 have hcn := ZbP (cCp s.MaxSpeed T) T.length
 have hcl := fun k (h : k ∈ chainL (cCp s.MaxSpeed T) T.length) => ZeW h
 have hkp : kpT s.MaxSpeed T = (chainL (cCp s.MaxSpeed T) T.length).map fun k : Nat => gi T (k : Int) := rfl
 generalize chainL (cCp s.MaxSpeed T) T.length = C at *
 have hCl := Zfd C
 refine Zq (S := (m : Nat) × SlS Zh 12 ((C.take m).map fun k : Nat => gi T (k : Int))) (fun q => q.1 ≤ C.length) (fun q => [(7, vSl s1), (8, vSl ch), (9, vSl q.2), (10, .int .i64 (q.1 : Nat))]) (fun q => mS 56 q.2 ++ (mS 3 ch ++ mS 56 s1)) (fun q => C.length - q.1) ⟨0, SlS.no⟩ (Wm _) sbB suB (fun q hq => ?_)
 obtain ⟨m, q⟩ := q
 simp only at hq ⊢
 have hml : ((C.take m).map fun k : Nat => gi T (k : Int)).length = m := by rw [Ws, Wt]; omega
 repeat (refine wkM ?_; intros)
 refine Zn rfl (fun h => ?_) (fun h => ?_)
 ·have hlt : m < C.length := by have := Wa h; omega
  have hcm : gi (cI C) (m : Int) = ((C[m] : Nat) : Int) := by
   rw [Zk (by omega)]
   simp only [cI, List.getElem_map]
  have hCm := hcl C[m] (List.getElem_mem _)
  have hnx : ((C.take (m + 1)).map fun k : Nat => gi T (k : Int)) = ((C.take m).map fun k : Nat => gi T (k : Int)) ++ [gi T ((C[m] : Nat) : Int)] := by
   rw [Wn hlt, List.map_append]
   rfl
  generalize C[m] = k at *
  rcases s1.cases 56 with ⟨x0, -, -⟩ | ⟨bs, cb, sp, hc1, x1, x2, xne⟩
  ·rw [x0] at hCm
   cases hCm
  rcases ch.cases 3 with ⟨y0, -, -⟩ | ⟨bc, cc, sq, hc2, y1, y2, yne⟩
  ·rw [y0, Wx] at hCl
   omega
  simp only [x1, x2, y1, y2, Wf, Wg]
  repeat (refine wkM ?_; intros)
  simp only [hcm]
  repeat (refine wkM ?_; intros)
  refine sU rfl rfl ?_ ?_ ?_ ?_
  ·rfl
  ·rfl
  ·exact ⟨by decide, by omega, by omega⟩
  intro s'
  repeat (refine wkO ?_; intros)
  obtain ⟨s3, e1, e2⟩ := SlS.turn 56 hnx.symm s'
  exact Zj ⟨m + 1, s3⟩ hlt (by simp only [e1, x1, y1]; exact sbB) (by simp only [e2, x2, y2]; exact suB) (by show C.length - (m + 1) < C.length - m; omega)
 ·have hge : m = C.length := by have := Wb h; omega
  subst hge
  repeat (refine wkM ?_; intros)
  obtain ⟨s3, e1, e2⟩ := SlS.turn 56 (show ((C.take C.length).map fun k : Nat => gi T (k : Int)) = kpT s.MaxSpeed T by rw [List.take_length, hkp]) q
  refine Zf rfl rfl (fun w hw => ⟨s3, ?_, ?_⟩)
  ·show Ending.returned (vSl q) = Ending.returned (vSl s3)
   rw [e1]
  ·show Own _ (mS _ s3) w
   rw [e2]
   exact hw.sub suB
instance ZBL (w0 : World) (L : List Blk) (sr0 he : Sl) (rs : List Zb) (es : List Za) (o : Int) (s : ZC) [h1 : LstC w0 L (vSlc sr0) Zb Zd rs] [h2 : LstC w0 L (vSlc he) Za Ze es] : SpecR prog w0 L 20 [.agg (Zs ⟨sr0, he⟩), .int .i64 o, .agg (Zm s)] (SlS Zh 12 (kpT s.MaxSpeed (repL rs es o))) (fun s => vSl s) (fun s => mS 56 s) (RsOk rs es ∧ (-1048576 ≤ s.MaxSpeed ∧ s.MaxSpeed ≤ 1048576)) := ⟨fun hp w hw => ZmF sr0 he rs es o s w (h1.out w hw) (h2.out w hw) hp.1 hp.2⟩
set_option maxHeartbeats 8000000 in
theorem Zms (v1 v2 : Value) (l : List Zc) (w : World) (h1 : ArgS w v1 Zh l) (h2 : ArgS w v2 Zh l) (hl : l.length ≤ 1048576) :
  Calls prog 27 [v1, v2].toArray w (Ret (.bool true) w) := by
 have hav1 := ArgC.mk h1
 have hav2 := ArgC.mk h2
 have A1 := h1
 have A2 := h2
 obtain ⟨p, cp, rfl⟩ := h1.form
 obtain ⟨q, cq', rfl⟩ := h2.form
 refine Zg Tryz.func27 rfl Tryz.ntmps27 rfl ?_
 repeat (refine wkM ?_; intros)
 simp only [Wc (rfl : ((l.length : Nat) : Int) = ((l.length : Nat) : Int)), Bool.not_true]
 repeat (refine wkM ?_; intros)
 refine Zq (S := Nat) (fun m => m ≤ l.length) (fun m => [(0, .slice p l.length cp), (1, .slice q l.length cq'), (5, .int .i64 (m : Nat))]) (fun _ => []) (fun m => l.length - m) 0 (Wm _) sbB slB (fun m hm => ?_)
 repeat (refine wkM ?_; intros)
 refine Zn rfl (fun h => ?_) (fun h => ?_)
 ·have hlt : m < l.length := by have := Wa h; omega
  have hne : l ≠ [] := fun h0 => by rw [h0] at hlt; simp at hlt
  obtain ⟨bw, ow, cw, hvw, hcw, hrow⟩ := A1.blk (k := 11) hne []
  obtain ⟨bw', ow', cw', hvw', hcw', hrow2⟩ := A2.blk (k := 11) hne []
  injection hvw with x1 x2 x3
  injection hvw' with y1 y2 y3
  subst x1 x3
  subst y1 y3
  have hr1 : ∀ L, RowC w L bw ow Zc Zh l := fun L => ⟨fun w' hw' => hrow.out w' (hw'.sub (Wk _))⟩
  have hr2 : ∀ L, RowC w L bw' ow' Zc Zh l := fun L => ⟨fun w' hw' => hrow2.out w' (hw'.sub (Wk _))⟩
  repeat (refine wkM ?_; intros)
  refine jD 9 9 (h := ?_)
  (repeat (refine wkH ?_))
  refine Zo ?_
  refine Zr ?_
  simp only [Wc (rfl : gi l (m : Int) = gi l (m : Int)), Bool.not_true]
  repeat (refine wkO ?_; intros)
  exact Zj (m + 1) hlt sbB slB (by omega)
 ·repeat (refine wkM ?_; intros)
  exact Zf rfl rfl (fun w hw => Zi hw)
instance ZC4 (w0 : World) (L : List Blk) (v1 v2 : Value) (l : List Zc) [h1 : LstC w0 L v1 Zc Zh l] [h2 : LstC w0 L v2 Zc Zh l] : SpecM prog w0 L 27 [v1, v2] (.bool true) (l.length ≤ 1048576) := ⟨fun hp w hw => Zms v1 v2 l w (h1.out w hw) (h2.out w hw) hp⟩
end
section
def exR : List Zb := exL.map (·.Report)
theorem Zoe : chainL (cCp 2 exL) exL.length = [0, 2, 3] := by decide +kernel
def exK : List Zc := [tmd 0 0 0 0, tmd 2 2 4 0, tmd 9 3 4 0]
theorem Zjg : kpT 2 exL = exK := by decide +kernel
theorem ZuG : (gpT 5 exK (exK.length - 1)).length = 1 := by decide +kernel
theorem Zo4 : ∀ x ∈ exL, TkOk x := fun x hx => by
 have h1 : M (0 : Rat) ≤ 8 ∧ M (1 : Rat) ≤ 8 ∧ M (2 : Rat) ≤ 8 ∧ M (9 : Rat) ≤ 8 := by decide +kernel
 simp only [exL, Ww, List.not_mem_nil, or_false] at hx
 rcases hx with rfl | rfl | rfl | rfl
 ·exact ⟨h1.1, by decide, by decide⟩
 ·exact ⟨h1.2.1, by decide, by decide⟩
 ·exact ⟨h1.2.2.1, by decide, by decide⟩
 ·exact ⟨h1.2.2.2, by decide, by decide⟩
theorem ZtL : ∀ x ∈ exK, TkOk x := fun x hx => Zo4 x (by
 rw [← Zjg] at hx
 exact Zej hx)
theorem Zr6 : Inc (spL exK) := fun i hi => by
 have h : i = 0 ∨ i = 1 := by
  have : (spL exK).length = 3 := rfl
  omega
 rcases h with rfl | rfl
 ·decide +kernel
 ·decide +kernel
def exU : List PU := (thrT exK 5 exK.length).1
theorem ZsK : exU.length = 2 ∧ (gi exU 0).In = ⟨⟨0, 0, false⟩, ⟨2, 0, false⟩, false, false⟩ ∧ (gi exU 0).F = ⟨0, 2, 0, 0⟩ ∧ (gi exU 1).In.From = ⟨9, 0, false⟩ := by decide +kernel
theorem ZqP (r : Zb) : corX [] r = ((r.Time : Rat), 0) := by
 have h : r.Device ∉ devL ([] : List Za) := fun h => by
  obtain ⟨x, hx, -⟩ := Zgq.1 h
  cases hx
 unfold corX
 rw [Zev (OffR.no (.inr h))]
 simp only [if_true]
 refine Prod.ext ?_ rfl
 show (r.Time : Rat) - Rat.divInt (0 + 0) 2 = (r.Time : Rat)
 rw [show Rat.divInt (0 + 0) 2 = 0 by decide +kernel]
 grind
theorem ZiY : ∀ cs : List Zb, tmXL [] cs = cs.map fun r => ⟨(r.Time : Rat), r⟩
 | [] => rfl
 | r :: cs => by
  have ih := ZiY cs
  unfold tmXL at *
  rw [List.filterMap_cons, List.map_cons, ← ih]
  unfold tmF
  rw [ZqP]
  rfl
theorem Ztt : ofL exR 1 = exR := by decide +kernel
theorem ZrQ : repL exR [] 1 = exL := by
 unfold repL
 rw [Ztt, ZiY]
 decide +kernel
theorem ZoI {κ : Type} [DecidableEq κ] {X : List (κ × Bool)} (h : AddOk [] X []) : X = [] := List.length_eq_zero_iff.1 (Nat.le_zero.1 h.len)
theorem ZoP {R : List (Zb × Bool)} (h : AddOk [] R exR) : tmX R [] 1 = exL := by
 rw [ZjY (rs := exR) (es := []) (fun r _ => by have := h.mem r; simpa using this) (fun y => Iff.rfl)]
 exact ZrQ
theorem ZlR : ∀ r ∈ exR, RepV r := fun r hr => by
 simp only [exR, exL, List.map_cons, List.map_nil, Ww, List.not_mem_nil, or_false] at hr
 rcases hr with rfl | rfl | rfl | rfl <;> (constructor <;> decide)
theorem Zu4 {R : List (Zb × Bool)} (h : AddOk [] R exR) : KtX 2 R [] := ⟨⟨Wi h.len (by decide), by decide, (fun y hy => by cases hy), fun r hr => ZlR r (by have := (h.mem r).1 hr; simpa using this)⟩, by decide⟩
theorem ZqS {R : List (Zb × Bool)} (h : AddOk [] R exR) : explX 2 R [] (tmd 1 1 9 0).Report = 4 := by
 have hs : statR (sorted (pKR R)) (tmd 1 1 9 0).Report = statR exR (tmd 1 1 9 0).Report := ZnH fun z => ((ZaM (pKR R)).mem_iff).trans (by have := h.mem z; simpa using this)
 unfold explX
 rw [hs, show (tmd 1 1 9 0).Report.Object = 1 from rfl, ZoP h, Zjg]
 decide +kernel
instance lst3K {α : Type} {enc : α → Array Value} {k : Nat} {x y z : α} {sp : List Value} [he : EncC enc k] (w0 : World) (L : List Blk) (b c : Nat) (T : TypeId) [h : AtC w0 L b (row enc [x, y, z] sp) T] : LstC w0 L (.slice (some ⟨b, 0, none⟩) 3 (c + 3)) α enc [x, y, z] := ⟨fun w hw => by
 obtain ⟨fz, hb⟩ := h.out w hw
 exact ZdN (c := c + 3) hb (Nat.le_add_left 3 c)⟩
instance lst4K {α : Type} {enc : α → Array Value} {k : Nat} {x y z u : α} {sp : List Value} [he : EncC enc k] (w0 : World) (L : List Blk) (b c : Nat) (T : TypeId) [h : AtC w0 L b (row enc [x, y, z, u] sp) T] : LstC w0 L (.slice (some ⟨b, 0, none⟩) 4 (c + 4)) α enc [x, y, z, u] := ⟨fun w hw => by
 obtain ⟨fz, hb⟩ := h.out w hw
 exact ZdN (c := c + 4) hb (Nat.le_add_left 4 c)⟩
abbrev sEx : ZC := ⟨2, 5⟩
set_option maxHeartbeats 8000000 in
theorem Znf (w : World) : Calls prog 10 ([] : List Value).toArray w (Ret (.bool true) w) := by
 refine Zg Tryz.func10 rfl Tryz.ntmps10 rfl ?_
 have hc : exL.length ≤ 4096 ∧ (∀ x ∈ exL, TkOk x) ∧ (-1048576 ≤ sEx.MaxSpeed ∧ sEx.MaxSpeed ≤ 1048576) := ⟨by decide, Zo4, by decide⟩
 have hcl : decide ((((cI (chainL (cCp 2 exL) exL.length)).length : Nat) : Int) = 3) = true := by rw [Zoe]; rfl
 repeat (first | (refine wkM ?_; intros) | (refine wnM ?_ ?_; (focus (first | exact trivial | exact hc)); intros))
 rename_i b1 s1 c1
 obtain ⟨c, e1, e2⟩ := SlS.turn 3 (show cI (chainL (cCp 2 exL) exL.length) = [0, 2, 3] by rw [Zoe]; rfl) c1
 rw [← e1]
 simp only [← e2, hcl, Bool.not_true]
 clear e1 e2 c1
 rcases c.cases 3 with ⟨y0, -, -⟩ | ⟨bc, cc, sq, hc2, y1, y2, yne⟩
 ·cases y0
 rcases s1.cases 56 with ⟨x0, -, -⟩ | ⟨bs, cb, sp, hc1, x1, x2, xne⟩
 ·cases x0
 simp only [x1, x2, y1, y2, Wf, Wg]
 have hl3 : ([0, 2, 3] : List Int).length = 3 := rfl
 have hl4 : exL.length = 4 := rfl
 repeat (refine wkM ?_; intros)
 simp only [Wc (show gi ([0, 2, 3] : List Int) 0 = 0 from rfl), Bool.not_true]
 repeat (refine wkM ?_; intros)
 simp only [Wc (show gi ([0, 2, 3] : List Int) 1 = 2 from rfl), Bool.not_true]
 repeat (refine wkM ?_; intros)
 simp only [Wc (show gi ([0, 2, 3] : List Int) 2 = 3 from rfl), Bool.not_true]
 repeat (refine wkM ?_; intros)
 have hth : exK.length ≤ 19 ∧ (∀ x ∈ exK, TkOk x) ∧ Inc (spL exK) ∧ (-2147483648 ≤ sEx.MaxGap ∧ sEx.MaxGap ≤ 2147483648) := ⟨by decide, ZtL, Zr6, by decide⟩
 refine ZaO (S := SlS rP 36 exU) (fun _ => True) (fun q => [(0, .bool false), (1, .pointer (some ⟨b1, 0, none⟩)), (2, .slice (some ⟨bs, 0, none⟩) exL.length cb), (4, vSl q)]) (fun q => mS 115 q ++ [⟨bs, row Zh exL sp, 56⟩, ⟨b1, Zm sEx, 32⟩]) ?_ (fun u _ => ?_)
 ·(refine Zao (.v [0, 1, 2, 3, 4, 5, 6, 7, 8, 10] (.e1 9 (.e1 11 (.e1 12 (.fin))))) (_) (h := ?_); refine wkX ?_)
  (repeat (refine wkH ?_))
  repeat (first | (refine wkT ?_; intros) | (refine tC rfl rfl ?_ ?_; focus (exact hth)) | (refine uC rfl rfl ?_ ?_; focus (exact hth)) | (refine eN rfl rfl ?_ ?_; (focus (exact hth)); intro _; (try simp only [Wf, Wg, Wh])))
  rename_i bq s9
  obtain ⟨u, e1, e2⟩ := SlS.turn 115 (show (thrT [gi exL 0, gi exL 2, gi exL 3] 5 [gi exL 0, gi exL 2, gi exL 3].length).1 = exU from rfl) s9
  exact ZL u trivial (by simp only [e1]; exact sbB) (by simp only [e2]; exact suB)
 clear y1 y2 yne hc2 hcl c x1 x2 s1
 repeat (first | (refine wkM ?_; intros) | (refine wnM ?_ ?_; (focus (exact trivial)); intros))
 rename_i pn
 obtain ⟨px, m1, m2⟩ := pn
 simp only [Wf, Wg]
 refine ZaO (S := { R : List (Zb × Bool) // AddOk [] R exR }) (fun _ => True) (fun q => [(0, .bool false), (1, .pointer (some ⟨b1, 0, none⟩)), (2, .slice (some ⟨bs, 0, none⟩) exL.length cb), (4, vSl u), (5, .pointer (some ⟨px, 0, none⟩)), (7, .int .i64 0)]) (fun q => ⟨m1, .obj (mRp q.1), 177⟩ :: ⟨m2, .obj (mEx []), 178⟩ :: ⟨px, vIn m1 m2, 180⟩ :: (mS 115 u ++ [⟨bs, row Zh exL sp, 56⟩, ⟨b1, Zm sEx, 32⟩])) ?_ (fun q _ => ?_)
 ·(refine Zao (.v [0, 1, 2, 3, 4, 5, 6, 7, 8, 9, 10, 11, 12, 13, 14, 15, 16] (.e1 17 (.v [18] (.e1 19 (.v [20, 21, 22] (.e1 23 (.e1 24 (.fin)))))))) ([⟨bs, row Zh exL sp, 56⟩]) (h := ?_); refine wkX ?_)
  (repeat (refine wkH ?_))
  repeat (refine wkT ?_; intros)
  rename_i bt
  have hadd : ([] : List (Zb × Bool)).length + exR.length ≤ 4096 ∧ ([] : List (Za × Bool)).length + ([] : List Za).length ≤ 4096 ∧ SetM ([] : List (Zb × Bool)) ∧ SetM ([] : List (Za × Bool)) ∧ (∀ r ∈ exR, RepV r) ∧ ∀ y ∈ ([] : List Za), ExV y := ⟨by decide, by decide, SetM.nil, SetM.nil, ZlR, (fun y hy => by cases hy)⟩
  refine eZ rfl rfl ?_ ?_ ?_
  ·intro q
   exact suB
  ·exact hadd
  intro q
  repeat (refine wkT ?_; intros)
  obtain ⟨⟨⟨R, X⟩, z⟩, k1, k2⟩ := q
  have hX := ZoI k2
  simp only at hX k1 ⊢
  subst hX
  exact ZL ⟨R, k1⟩ trivial sbB suB
 obtain ⟨R, hp⟩ := q
 have hk : KtX sEx.MaxSpeed R [] := Zu4 hp
 have hkg : KtX sEx.MaxSpeed R [] ∧ (-2147483648 ≤ sEx.MaxGap ∧ sEx.MaxGap ≤ 2147483648) := ⟨hk, by decide⟩
 have hlg : (gpT 5 (kpT 2 (tmX R [] 1)) ((kpT 2 (tmX R [] 1)).length - 1)).length = 1 := by
  rw [ZoP hp, Zjg]
  exact ZuG
 obtain ⟨v1, -, -, -⟩ := ZsK
 have w2 : decide ((gi exU 0).In = (⟨Zb1, ⟨((2 : Int) : Rat), 0, false⟩, false, false⟩ : Zt)) = true := by decide +kernel
 have w3 : decide ((gi exU 0).F = (⟨0, ((2 : Int) : Rat), 0, 0⟩ : ZF)) = true := by decide +kernel
 have w4 : decide ((gi exU 1).In.From = (⟨((9 : Int) : Rat), 0, false⟩ : ZJ)) = true := by decide +kernel
 generalize exU = U at *
 rcases u.cases 115 with ⟨z0, -, -⟩ | ⟨bu, cu, su, hc4, z1, z2, zne⟩
 ·rw [z0] at v1
  cases v1
 simp only [z1, z2, Wf, Wg]
 repeat (first | (refine wkM ?_; intros) | (refine wnM ?_ ?_; (focus (exact hkg)); intros))
 rename_i g
 refine ZaO (S := Unit) (fun _ => True) (fun _ => [(0, .bool false), (4, .slice (some ⟨bu, 0, none⟩) U.length cu), (7, .int .i64 0), (8, vSl g), (9, .int .i64 0), (10, .int .i64 4), (11, .int .i64 0)]) (fun _ => mS 111 g ++ [⟨bu, row rP U su, 115⟩]) ?_ (fun _ _ => ?_)
 ·(refine Zao (.v [0, 1, 2, 3, 4, 5, 6, 7, 8, 9] (.e1 10 (.e1 11 (.fin)))) (_) (h := ?_); refine wkX ?_)
  (repeat (first | refine wkH ?_ | (refine tC rfl rfl ?_ ?_; focus (exact hk))))
  rw [show explX 2 R [] (Zu (gi exL 1)).Report = 4 from ZqS hp]
  repeat (refine wkT ?_; intros)
  exact ZL () trivial sbB suB
 clear hc hth hk hkg
 generalize gpT 5 (kpT 2 (tmX R [] 1)) ((kpT 2 (tmX R [] 1)).length - 1) = G at *
 repeat (refine wkM ?_; intros)
 refine jD 51 51 (h := ?_)
 (repeat (refine wkH ?_))
 simp only [Wc (show ((U.length : Nat) : Int) = 2 by omega)]
 (repeat (first | refine wkH ?_ | (refine tC rfl rfl ?_ ?_; focus (exact ⟨by decide, by decide⟩))))
 simp only [w2]
 (repeat (first | refine wkH ?_ | (refine tC rfl rfl ?_ ?_; focus (exact ⟨by decide, by decide⟩))))
 simp only [w3]
 (repeat (first | refine wkH ?_ | (refine tC rfl rfl ?_ ?_; focus (exact ⟨by decide, by decide⟩))))
 simp only [w4]
 (repeat (refine wkH ?_))
 simp only [Wc (show (0 : Int) = 0 from rfl)]
 (repeat (refine wkH ?_))
 simp only [Wc (show ((G.length : Nat) : Int) = 1 by omega)]
 (repeat (refine wkH ?_))
 try simp only [Wc (show (0 : Int) = 0 from rfl)]
 (repeat (refine wkH ?_))
 try simp only [Wc (show (4 : Int) = 4 from rfl)]
 (repeat (refine wkH ?_))
 refine Zo ?_
 refine Zr ?_
 repeat (refine wkM ?_; intros)
 exact Zf rfl rfl (fun w hw => Zi hw)
instance ZDg : SpecC prog 10 [] (.bool true) True := ⟨fun _ w => Znf w⟩
end
end Go.Vt
namespace Go.Vt
open Go.RowKit Go.Proofs
open Go.Proofs.Tryz (prog)
instance (priority := low) batMem {bs : List Bat} (w0 : World) (L : List Blk) (s : BatO bs) [h : SblC s.mem L] : BatC w0 L (vSl s.o) bs := ⟨fun w hw => s.reads (hw.sub h.out)⟩
theorem InkO.ink {rs : List Zb} {es : List Za} (w0 : World) (s : InkO rs es) : InkX w0 s.mem s.px s.R s.X := by
 unfold InkO.mem
 exact inkXOwn w0 _ s.px s.m1 s.m2 s.R s.X 180
instance (priority := low) inkMem {rs : List Zb} {es : List Za} (w0 : World) (L : List Blk) (s : InkO rs es) [h : SblC s.mem L] : InkX w0 L s.px s.R s.X := by
 obtain ⟨m1, m2, Tx, h1, h2, h3⟩ := (s.ink w0).out
 exact ⟨m1, m2, Tx, ⟨fun w hw => h1.out w (hw.sub h.out)⟩, ⟨fun w hw => h2.out w (hw.sub h.out)⟩, ⟨fun w hw => h3.out w (hw.sub h.out)⟩⟩
instance (priority := 50) osAny {α : Type} {enc : α → Array Value} {k : Nat} {xs : List α} (T : TypeId) (s : SlS enc k xs) (A L L1 : List Blk) [h : OwnS T s L L1] : OwnS T s (A ++ L) (A ++ L1) := ⟨by
 refine (h.out.append_left A).trans ?_
 rw [← List.append_assoc, ← List.append_assoc]
 exact List.perm_append_comm.append_right _⟩
class BmC (M L : List Blk) (L1 : outParam (List Blk)) : Prop where
 out : L.Perm (M ++ L1)
instance (priority := high) bmHere (M L : List Blk) : BmC M (M ++ L) L := ⟨.refl _⟩
instance (priority := low) bmThere (M : List Blk) (e : Blk) (L L1 : List Blk) [h : BmC M L L1] : BmC M (e :: L) (e :: L1) := ⟨(h.out.cons e).trans List.perm_middle.symm⟩
instance (priority := low) sbpBat {bs : List Bat} (s : BatO bs) (A L L1 : List Blk) [h : BmC s.mem L L1] [g : SbpC A L1] : SbpC (s.mem ++ A) L := ⟨by
 obtain ⟨L', hp⟩ := g.out
 exact ⟨L', h.out.trans (by rw [List.append_assoc]; exact hp.append_left _)⟩⟩
theorem ZjC (ps : List (List Png)) (cs : List (List Cll)) : ∀ i, i ≤ ps.length → (bR (batL ps cs i)).length = tot (ps.take i) ∧ ∀ r ∈ bR (batL ps cs i), ∃ x, r = rptP x
 | 0, _ => ⟨rfl, (fun r h => by cases h)⟩
 | i + 1, h => by
  obtain ⟨h1, h2⟩ := ZjC ps cs i (by omega)
  rw [batL, Zil, Zo0]
  refine ⟨?_, fun r hr => ?_⟩
  ·rw [Wp, h1, Ws, ZdV h]
  ·rcases List.mem_append.1 hr with hr | hr
   ·exact h2 r hr
   ·obtain ⟨x, -, rfl⟩ := List.mem_map.1 hr
    exact ⟨x, rfl⟩
theorem ZoN (ps : List (List Png)) (cs : List (List Cll)) : ∀ i, i ≤ cs.length → (bE (batL ps cs i)).length = tot (cs.take i) ∧ ∀ r ∈ bE (batL ps cs i), ∃ x, r = excC x
 | 0, _ => ⟨rfl, (fun r h => by cases h)⟩
 | i + 1, h => by
  obtain ⟨h1, h2⟩ := ZoN ps cs i (by omega)
  rw [batL, Zir, Zo1]
  refine ⟨?_, fun r hr => ?_⟩
  ·rw [Wp, h1, Ws, ZdV h]
  ·rcases List.mem_append.1 hr with hr | hr
   ·exact h2 r hr
   ·obtain ⟨x, -, rfl⟩ := List.mem_map.1 hr
    exact ⟨x, rfl⟩
structure BsOk (bs : List Bat) : Prop where
 n : bs.length ≤ 4
 r : (bR bs).length ≤ 12
 e : (bE bs).length ≤ 6
 rv : ∀ r ∈ bR bs, RepV r
 ev : ∀ y ∈ bE bs, ExV y
theorem ZuJ {ps : List (List Png)} {cs : List (List Cll)} (h : shB ps cs = true) (hn : ps.length = cs.length) : BsOk (batL ps cs ps.length) := by
 unfold shB at h
 simp only [Wq, decide_eq_true_eq] at h
 obtain ⟨⟨h1, h2⟩, h3⟩ := h
 obtain ⟨a1, a2⟩ := ZjC ps cs ps.length (Wl _)
 obtain ⟨b1, b2⟩ := ZoN ps cs ps.length (by omega)
 rw [List.take_length] at a1
 rw [List.take_of_length_le (by omega)] at b1
 refine ⟨by rw [Zgm]; exact h1, by omega, by omega, fun r hr => ?_, fun y hy => ?_⟩
 ·obtain ⟨x, rfl⟩ := a2 r hr
  exact Zts x
 ·obtain ⟨x, rfl⟩ := b2 y hy
  exact Zug x
theorem Zue {ps : List (List Png)} {cs : List (List Cll)} (h : shB ps cs = true) : ps.length ≤ 1048576 ∧ tot ps ≤ 1048576 ∧ tot cs ≤ 1048576 := by
 unfold shB at h
 simp only [Wq, decide_eq_true_eq] at h
 omega
theorem BsOk.rs {bs : List Bat} (h : BsOk bs) : RsOk (bR bs) (bE bs) := ⟨h.r, h.e, fun y hy => (h.ev y hy).b, h.rv⟩
theorem BsOk.all {bs : List Bat} (h : BsOk bs) : bs.length ≤ 1048576 ∧ (bR bs).length ≤ 1048576 ∧ (bE bs).length ≤ 1048576 := by
 have := h.n; have := h.r; have := h.e; omega
theorem BsOk.ink {bs : List Bat} (h : BsOk bs) : (bs.length ≤ 1048576 ∧ (bR bs).length ≤ 4096 ∧ (bE bs).length ≤ 4096) ∧ (∀ r ∈ bR bs, RepV r) ∧ ∀ y ∈ bE bs, ExV y := by
 have := h.n; have := h.r; have := h.e
 exact ⟨by omega, h.rv, h.ev⟩
theorem InkO.memR {rs : List Zb} {es : List Za} (s : InkO rs es) (r : Zb) : r ∈ pKR s.R ↔ r ∈ rs := by
 have := s.r.mem r
 simpa using this
theorem InkO.memE {rs : List Zb} {es : List Za} (s : InkO rs es) (y : Za) : y ∈ pKE s.X ↔ y ∈ es := by
 have := s.e.mem y
 simpa using this
theorem InkO.xok {rs : List Zb} {es : List Za} (s : InkO rs es) (h : RsOk rs es) : XOk s.R s.X := by
 have h1 := s.r.len
 have h2 := s.e.len
 rw [Wx, Nat.zero_add] at h1 h2
 exact ⟨Wi h1 h.n, Wi h2 h.en, fun y hy => h.ee y ((s.memE y).1 hy), fun r hr => h.rr r ((s.memR r).1 hr)⟩
theorem InkO.tm {rs : List Zb} {es : List Za} (s : InkO rs es) (o : Int) : tmX s.R s.X o = repL rs es o := ZjY (fun r _ => s.memR r) s.memE
theorem ZtV (a b : Int) : -1048576 ≤ (setT a b).MaxSpeed ∧ (setT a b).MaxSpeed ≤ 1048576 := by
 show -1048576 ≤ 1 + a % 24 ∧ 1 + a % 24 ≤ 1048576
 omega
theorem ZuV (a b : Int) : -2147483648 ≤ (setT a b).MaxGap ∧ (setT a b).MaxGap ≤ 2147483648 := by
 show -2147483648 ≤ 1 + b % 30 ∧ 1 + b % 30 ≤ 2147483648
 omega
end Go.Vt
namespace Go.Proofs.YtjicdlilgjdefaaGreatDoor
open Go.ChangeShapes Go.WideShapes Go.ChangeAt Go.RowKit Go.Deep Go.Vt
theorem rown : ownKnob Tryz.prog.godebug = none := by kernel_rfl
theorem rlaidOut : laidOutB Tryz.prog = true := by kernel_rfl
theorem ru5 : Tryz.prog.underlying 5 = some (.int .u8) := by kernel_rfl
theorem ru4 : Tryz.prog.underlying 4 = some .bool := by kernel_rfl
theorem rc5 : Tryz.prog.cellsOf 5 = 1 := by kernel_rfl
theorem rc4 : Tryz.prog.cellsOf 4 = 1 := by kernel_rfl
theorem ZbQ {n : Int} (h : (Lit.int .u8 n).wf = true) : 0 ≤ n ∧ n ≤ 255 := by
 simp only [Lit.wf, Bool.and_eq_true, decide_eq_true_eq] at h
 exact ⟨h.1, h.2⟩
def LeW {H : Type} (P : Program) (t : TypeId) (d : DataW H) : Prop := ∀ n ∈ d.weights P t, n ≤ reachBytes
theorem Zsw {H : Type} {P : Program} {ts : List TypeId} {ds : List (DataW H)} (h : (DataW.weightsEach P ts ds).all (· ≤ reachBytes) = true) {j : Nat} {t : TypeId} {d : DataW H} (ht : ts[j]? = some t) (hd : ds[j]? = some d) : LeW P t d := fun n hn => by
 have := List.all_eq_true.1 h _ (DataW.weights_mem_each ht hd n hn)
 simpa using this
theorem Zd7 {H : Type} {P : Program} {e : TypeId} : ∀ {l : List (DataW H)} {d : DataW H}, d ∈ l → ∀ n ∈ d.weights P e, n ∈ DataW.weightsAll P e l
 | [], _, h, _, _ => by cases h
 | x :: l, d, h, n, hn => by
  simp only [DataW.weightsAll, List.mem_append]
  rcases List.mem_cons.1 h with rfl | h
  ·exact .inl hn
  ·exact .inr (Zd7 h n hn)
theorem Zoq {H : Type} {P : Program} {t e : TypeId} {elems spare : List (DataW H)} (hu : P.underlying t = some (.slice e)) (h : LeW P t (.slice elems spare)) : (elems.length + spare.length) * P.bytesOf e ≤ reachBytes ∧ ∀ d ∈ elems, LeW P e d := by
 have hw : (DataW.slice elems spare).weights P t = (elems.length + spare.length) * P.bytesOf e :: (DataW.weightsAll P e elems ++ DataW.weightsAll P e spare) := by simp [DataW.weights, hu]
 unfold LeW at h
 rw [hw] at h
 exact ⟨h _ (.head _), fun d hd n hn => h n (.tail _ (List.mem_append_left _ (Zd7 hd n hn)))⟩
theorem Zhy {H : Type} {P : Program} {t : TypeId} {fs : Array Field} {parts : List (DataW H)} (hu : P.underlying t = some (.struct fs)) (h : LeW P t (.agg parts)) {i : Nat} {f : Field} {d : DataW H} (hf : fs[i]? = some f) (hd : parts[i]? = some d) : LeW P f.type d := fun n hn => by
 have hw : (DataW.agg parts).weights P t = DataW.weightsEach P (fs.toList.map (·.type)) parts := by simp [DataW.weights, hu]
 unfold LeW at h
 rw [hw] at h
 exact h n (DataW.weights_mem_each (by simp [hf]) hd n hn)
theorem ZfA {H : Type} {eH : TypeId × Value → H} {P : Program} {W : World} {base : Nat} {sp : Nat → Bool} {held : Bool} {fuel : Nat} {v : Value} {x : DataW H × List MemPlace} {α : Type} [Inhabited α] {enc : α → Array Value} {k : Nat} [he : EncC enc k] {t e : TypeId} (ht : P.underlying t = some (.slice e)) (hc : P.cellsOf e = k) {Q : α → Prop}
  (hel : ∀ n (cs : List Value) y, DataW.trod eH P W base sp held n e cs = some y → LeW P e y.1 → ∃ x : α, cs = (enc x).toList ∧ Q x)
  (h : DataW.trod eH P W base sp held fuel t [v] = some x) (hw : LeW P t x.1) :
  ∃ (s : Sl) (xs : List α), v = vSlc s ∧ ArgS W (vSlc s) enc xs ∧ (∀ x ∈ xs, Q x) ∧ xs.length * P.bytesOf e ≤ reachBytes := by
 rcases open_slice ht h with ⟨h0, _⟩ | ⟨a, len, cap, m, n, D, Pl, hcs, hb, hl, hm, hmm, hx, hcl⟩
 ·simp at h0
  subst h0
  exact ⟨⟨none, 0, 0⟩, [], rfl, ⟨.inl ⟨rfl, rfl⟩⟩, (fun x hx => by cases hx), by simp⟩
 ·simp at hcs
  subst hcs
  have hlm : len ≤ m := by rw [hmm]; split <;> omega
  have hx1 : x.1 = .slice ((List.range len).map D) ((List.range (m - len)).map fun j => D (len + j)) := by rw [hx]
  rw [hx1] at hw
  obtain ⟨w1, w2⟩ := Zoq ht hw
  have each : ∀ i, i < len → ∃ z : α, (∃ cs', W.cells? base (a.add (i * k)) k = some cs' ∧ cs' = (enc z).toList) ∧ Q z := fun i hi => by
   obtain ⟨cs', c1, c2⟩ := hcl i (by omega)
   rw [hc] at c1
   obtain ⟨z, z1, z2⟩ := hel _ _ _ c2 (w2 _ (List.mem_map.2 ⟨i, List.mem_range.2 hi, rfl⟩))
   exact ⟨z, ⟨cs', c1, z1⟩, z2⟩
  obtain ⟨q, hq⟩ := choose_lt each
  refine ⟨⟨some a, len, cap⟩, (List.range len).map q, rfl, ⟨.inr ⟨a, cap, by simp [vSlc], by simpa using hl, fun i f k' u hi hk hu => ?_⟩⟩, fun z hz => ?_, ?_⟩
  ·simp only [List.length_map, List.length_range] at hi
   obtain rfl : k' = k := by rw [← hk default, he.size]
   simp only [List.getElem_map, List.getElem_range] at hu
   obtain ⟨cs', c1, c2⟩ := (hq i hi).1
   obtain ⟨_, hlen, hcell⟩ := World.cells?_some c1
   have hf : f < k' := by
    have := (Array.getElem?_eq_some_iff.1 hu).1
    rw [he.size] at this
    exact this
   have h1 := hcell f (by omega)
   rw [ZfE] at h1
   rw [h1]
   subst c2
   simpa using hu
  ·obtain ⟨i, hi, rfl⟩ := List.mem_map.1 hz
   exact (hq i (List.mem_range.1 hi)).2
  ·simp only [List.length_map, List.length_range] at w1 ⊢
   exact Nat.le_trans (Nat.mul_le_mul_right _ (Nat.le_add_right _ _)) w1
theorem ZrS : ∃ f0 f1 f2 f3 f4 f5 f6 f7, Tryz.prog.underlying 26 = some (.struct #[f0, f1, f2, f3, f4, f5, f6, f7]) ∧ f0.type = 5 ∧ f1.type = 5 ∧ f2.type = 5 ∧ f3.type = 5 ∧ f4.type = 5 ∧ f5.type = 5 ∧ f6.type = 5 ∧ f7.type = 4 ∧ f0.offset = 0 ∧ f1.offset = 1 ∧ f2.offset = 2 ∧ f3.offset = 3 ∧ f4.offset = 4 ∧ f5.offset = 5 ∧ f6.offset = 6 ∧ f7.offset = 7 := ⟨_, _, _, _, _, _, _, _, Tryz.underlying26, rfl, rfl, rfl, rfl, rfl, rfl, rfl, rfl, rfl, rfl, rfl, rfl, rfl, rfl, rfl, rfl⟩
theorem Zo3 {H : Type} {eH : TypeId × Value → H} {W : World} {base : Nat} {sp : Nat → Bool} {held : Bool} (n : Nat) (cs : List Value) (y : DataW H × List MemPlace) (h : DataW.trod eH Tryz.prog W base sp held n 26 cs = some y) : ∃ x : Png, cs = (ePng x).toList ∧ PngOk x := by
 obtain ⟨f0, f1, f2, f3, f4, f5, f6, f7, he, t0, t1, t2, t3, t4, t5, t6, t7, o0, o1, o2, o3, o4, o5, o6, o7⟩ := ZrS
 obtain ⟨xs, k, hk, hxy, hlen, hxl, hf⟩ := DataW.trod_struct he h
 have hc : Tryz.prog.cellsOf 26 = 8 := by kernel_rfl
 rw [hc] at hlen
 match xs, hxl, cs, hlen with
 | [y0, y1, y2, y3, y4, y5, y6, y7], _, [v0, v1, v2, v3, v4, v5, v6, v7], _ =>
  have g0 := hf 0 f0 rfl
  have g1 := hf 1 f1 rfl
  have g2 := hf 2 f2 rfl
  have g3 := hf 3 f3 rfl
  have g4 := hf 4 f4 rfl
  have g5 := hf 5 f5 rfl
  have g6 := hf 6 f6 rfl
  have g7 := hf 7 f7 rfl
  simp [o0, o1, o2, o3, o4, o5, o6, o7, t0, t1, t2, t3, t4, t5, t6, t7, rc5, rc4] at g0 g1 g2 g3 g4 g5 g6 g7
  obtain ⟨n0, p0, _, q0⟩ := DataW.trod_int ru5 g0
  obtain ⟨n1, p1, _, q1⟩ := DataW.trod_int ru5 g1
  obtain ⟨n2, p2, _, q2⟩ := DataW.trod_int ru5 g2
  obtain ⟨n3, p3, _, q3⟩ := DataW.trod_int ru5 g3
  obtain ⟨n4, p4, _, q4⟩ := DataW.trod_int ru5 g4
  obtain ⟨n5, p5, _, q5⟩ := DataW.trod_int ru5 g5
  obtain ⟨n6, p6, _, q6⟩ := DataW.trod_int ru5 g6
  obtain ⟨n7, p7, _⟩ := DataW.trod_bool ru4 g7
  simp only [List.cons.injEq, and_true] at p0 p1 p2 p3 p4 p5 p6 p7
  subst p0 p1 p2 p3 p4 p5 p6 p7
  exact ⟨⟨n0, n1, n2, n3, n4, n5, n6, n7⟩, rfl, ⟨ZbQ q0, ZbQ q1, ZbQ q2, ZbQ q3, ZbQ q4, ZbQ q5, ZbQ q6⟩⟩
theorem Zs0 : ∃ f0 f1 f2 f3 f4 f5, Tryz.prog.underlying 125 = some (.struct #[f0, f1, f2, f3, f4, f5]) ∧ f0.type = 5 ∧ f1.type = 5 ∧ f2.type = 5 ∧ f3.type = 5 ∧ f4.type = 5 ∧ f5.type = 4 ∧ f0.offset = 0 ∧ f1.offset = 1 ∧ f2.offset = 2 ∧ f3.offset = 3 ∧ f4.offset = 4 ∧ f5.offset = 5 := ⟨_, _, _, _, _, _, Tryz.underlying125, rfl, rfl, rfl, rfl, rfl, rfl, rfl, rfl, rfl, rfl, rfl, rfl⟩
theorem ZnT {H : Type} {eH : TypeId × Value → H} {W : World} {base : Nat} {sp : Nat → Bool} {held : Bool} (n : Nat) (cs : List Value) (y : DataW H × List MemPlace) (h : DataW.trod eH Tryz.prog W base sp held n 125 cs = some y) : ∃ x : Cll, cs = (eCll x).toList ∧ CllOk x := by
 obtain ⟨f0, f1, f2, f3, f4, f5, he, t0, t1, t2, t3, t4, t5, o0, o1, o2, o3, o4, o5⟩ := Zs0
 obtain ⟨xs, k, hk, hxy, hlen, hxl, hf⟩ := DataW.trod_struct he h
 have hc : Tryz.prog.cellsOf 125 = 6 := by kernel_rfl
 rw [hc] at hlen
 match xs, hxl, cs, hlen with
 | [y0, y1, y2, y3, y4, y5], _, [v0, v1, v2, v3, v4, v5], _ =>
  have g0 := hf 0 f0 rfl
  have g1 := hf 1 f1 rfl
  have g2 := hf 2 f2 rfl
  have g3 := hf 3 f3 rfl
  have g4 := hf 4 f4 rfl
  have g5 := hf 5 f5 rfl
  simp [o0, o1, o2, o3, o4, o5, t0, t1, t2, t3, t4, t5, rc5, rc4] at g0 g1 g2 g3 g4 g5
  obtain ⟨n0, p0, _, q0⟩ := DataW.trod_int ru5 g0
  obtain ⟨n1, p1, _, q1⟩ := DataW.trod_int ru5 g1
  obtain ⟨n2, p2, _, q2⟩ := DataW.trod_int ru5 g2
  obtain ⟨n3, p3, _, q3⟩ := DataW.trod_int ru5 g3
  obtain ⟨n4, p4, _, q4⟩ := DataW.trod_int ru5 g4
  obtain ⟨n5, p5, _⟩ := DataW.trod_bool ru4 g5
  simp only [List.cons.injEq, and_true] at p0 p1 p2 p3 p4 p5
  subst p0 p1 p2 p3 p4 p5
  exact ⟨⟨n0, n1, n2, n3, n4, n5⟩, rfl, ⟨ZbQ q0, ZbQ q1, ZbQ q2, ZbQ q3, ZbQ q4⟩⟩
structure LdOk (W : World) (x : ZU) (ps : List Png) (cs : List Cll) : Prop where
 p : ArgS W (vSlc x.Pings) ePng ps
 c : ArgS W (vSlc x.Calls) eCll cs
 pk : ∀ z ∈ ps, PngOk z
 ck : ∀ z ∈ cs, CllOk z
 pl : ps.length ≤ 140737488355328
 cl : cs.length ≤ 140737488355328
theorem Zsr : ∃ f0 f1, Tryz.prog.underlying 120 = some (.struct #[f0, f1]) ∧ f0.type = 117 ∧ f1.type = 118 ∧ f0.offset = 0 ∧ f1.offset = 1 := ⟨_, _, Tryz.underlying120, rfl, rfl, rfl, rfl⟩
theorem ru117 : Tryz.prog.underlying 117 = some (.slice 26) := by kernel_rfl
theorem ru118 : Tryz.prog.underlying 118 = some (.slice 125) := by kernel_rfl
theorem ru22 : Tryz.prog.underlying 22 = some (.slice 120) := by kernel_rfl
theorem rc117 : Tryz.prog.cellsOf 117 = 1 := by kernel_rfl
theorem rc118 : Tryz.prog.cellsOf 118 = 1 := by kernel_rfl
theorem rc22 : Tryz.prog.cellsOf 22 = 1 := by kernel_rfl
theorem rreach {n b : Nat} (h : n * b ≤ reachBytes) (hb : 1 ≤ b) : n ≤ 140737488355328 := by
 have h1 : n * 1 ≤ n * b := Nat.mul_le_mul_left n hb
 have h2 : reachBytes ≤ 140737488355328 := by decide
 omega
theorem Zor {H : Type} {eH : TypeId × Value → H} {W : World} {base : Nat} {sp : Nat → Bool} {held : Bool} (n : Nat) (cs : List Value) (y : DataW H × List MemPlace) (h : DataW.trod eH Tryz.prog W base sp held n 120 cs = some y) (hw : LeW Tryz.prog 120 y.1) : ∃ x : ZU, cs = (Zam x).toList ∧ ∃ ps qs, LdOk W x ps qs := by
 obtain ⟨f0, f1, he, t0, t1, o0, o1⟩ := Zsr
 obtain ⟨xs, k, hk, hxy, hlen, hxl, hf⟩ := DataW.trod_struct he h
 have hc : Tryz.prog.cellsOf 120 = 2 := by kernel_rfl
 rw [hc] at hlen
 rw [hxy] at hw
 match xs, hxl, cs, hlen, hw with
 | [y0, y1], _, [v0, v1], _, hw =>
  have g0 := hf 0 f0 rfl
  have g1 := hf 1 f1 rfl
  have w0 := Zhy he hw (i := 0) (f := f0) (d := y0.1) rfl rfl
  have w1 := Zhy he hw (i := 1) (f := f1) (d := y1.1) rfl rfl
  simp [o0, o1, t0, t1, rc117, rc118] at g0 g1
  rw [t0] at w0
  rw [t1] at w1
  obtain ⟨s0, ps, rfl, a0, k0, l0⟩ := ZfA (Q := PngOk) (enc := ePng) (k := 8) ru117 (by kernel_rfl) (fun n cs y h _ => Zo3 n cs y h) g0 w0
  obtain ⟨s1, qs, rfl, a1, k1, l1⟩ := ZfA (Q := CllOk) (enc := eCll) (k := 6) ru118 (by kernel_rfl) (fun n cs y h _ => ZnT n cs y h) g1 w1
  exact ⟨⟨s0, s1⟩, rfl, ps, qs, a0, a1, k0, k1, rreach l0 (of_decide_eq_true (by kernel_rfl)), rreach l1 (of_decide_eq_true (by kernel_rfl))⟩
theorem ZgT {W : World} : ∀ {xs : List ZU}, (∀ x ∈ xs, ∃ ps qs, LdOk W x ps qs) → ∃ (ps : List (List Png)) (qs : List (List Cll)), xs.length = ps.length ∧ xs.length = qs.length ∧ ∀ i : Nat, i < xs.length → LdOk W (gi xs (i : Int)) (gi ps (i : Int)) (gi qs (i : Int))
 | [], _ => ⟨[], [], rfl, rfl, fun i h => absurd h (Nat.not_lt_zero _)⟩
 | x :: xs, h => by
  obtain ⟨ps, qs, h1, h2, h3⟩ := ZgT (xs := xs) fun z hz => h z (.tail _ hz)
  obtain ⟨p, q, h4⟩ := h x (.head _)
  refine ⟨p :: ps, q :: qs, by simp [h1], by simp [h2], fun i hi => ?_⟩
  cases i with
  | zero =>
   rw [Zk (by simp), Zk (by simp), Zk (by simp)]
   exact h4
  | succ i =>
   have hi' : i < xs.length := by simpa using hi
   have h5 := h3 i hi'
   rw [Zk hi', Zk (by omega), Zk (by omega)] at h5
   rw [Zk hi, Zk (by simp; omega), Zk (by simp; omega)]
   simpa using h5
theorem Zqa : ∃ f0 f1 f2, Tryz.prog.underlying 24 = some (.struct #[f0, f1, f2]) ∧ f0.type = 22 ∧ f1.type = 5 ∧ f2.type = 5 ∧ f0.offset = 0 ∧ f1.offset = 1 ∧ f2.offset = 2 := ⟨_, _, _, Tryz.underlying24, rfl, rfl, rfl, rfl, rfl, rfl⟩
theorem ZmT {H : Type} {eH : TypeId × Value → H} {W : World} {base b0 : Nat} {r : Reach} {held : Bool} {v : Value} {d : DataW H} {p : List MemPlace} (hv : Value.okWide Tryz.prog W r b0 24 v) (h : DataW.Trod eH Tryz.prog W base (fun _ => true) held 24 v d p) (hw : LeW Tryz.prog 24 d) :
  ∃ (sl : Sl) (a b : Int) (ls : List ZU) (ps : List (List Png)) (cs : List (List Cll)), v = .agg (ZK ⟨sl, a, b⟩) ∧ WldIn W sl ls ps cs ∧ Bt a ∧ Bt b := by
 obtain ⟨f0, f1, f2, he, t0, t1, t2, o0, o1, o2⟩ := Zqa
 simp only [Value.okWide, he] at hv
 obtain ⟨cs, rfl, hs, _⟩ := hv
 have h3 : cs.size = 3 := by rw [hs]; kernel_rfl
 obtain ⟨fuel, hf⟩ := h
 obtain ⟨xs, k, hk, hxy, _, hxl, hg⟩ := DataW.trod_struct he hf
 obtain rfl : d = .agg (xs.map (·.1)) := congrArg Prod.fst hxy
 clear hxy
 match cs, h3, xs, hxl, hg, hw with
 | ⟨[c0, c1, c2]⟩, _, [y0, y1, y2], _, hg, hw =>
  have g0 := hg 0 f0 rfl
  have g1 := hg 1 f1 rfl
  have g2 := hg 2 f2 rfl
  have w0 := Zhy he hw (i := 0) (f := f0) (d := y0.1) rfl rfl
  simp [Value.cells, o0, o1, o2, t0, t1, t2, rc5, rc22] at g0 g1 g2
  rw [t0] at w0
  obtain ⟨n1, p1, _, q1⟩ := DataW.trod_int ru5 g1
  obtain ⟨n2, p2, _, q2⟩ := DataW.trod_int ru5 g2
  simp only [List.cons.injEq, and_true] at p1 p2
  subst p1 p2
  obtain ⟨s0, ls, rfl, a0, k0, l0⟩ := ZfA (Q := fun x => ∃ ps qs, LdOk W x ps qs) (enc := Zam) (k := 2) ru22 (by kernel_rfl) (fun n cs y h hw => Zor n cs y h hw) g0 w0
  obtain ⟨ps, qs, h1, h2, h3⟩ := ZgT k0
  refine ⟨s0, n1, n2, ls, ps, qs, rfl, ⟨a0, h1, h2, fun i hi => (h3 i hi).p, fun i hi => (h3 i hi).c, fun l hl => ?_, fun l hl => ?_, ?_, fun l hl => ?_, fun l hl => ?_⟩, ZbQ q1, ZbQ q2⟩
  ·obtain ⟨i, hi, rfl⟩ := List.getElem_of_mem hl
   rw [← Zk hi]
   exact (h3 i (by omega)).pk
  ·obtain ⟨i, hi, rfl⟩ := List.getElem_of_mem hl
   rw [← Zk hi]
   exact (h3 i (by omega)).ck
  ·have := rreach l0 (of_decide_eq_true (by kernel_rfl))
   omega
  ·obtain ⟨i, hi, rfl⟩ := List.getElem_of_mem hl
   rw [← Zk hi]
   exact (h3 i (by omega)).pl
  ·obtain ⟨i, hi, rfl⟩ := List.getElem_of_mem hl
   rw [← Zk hi]
   exact (h3 i (by omega)).cl
def cAcc : Array Value := #[.int .u8 128, .int .u8 191, .int .u8 160, .int .u8 191, .int .u8 128, .int .u8 159, .int .u8 144, .int .u8 191, .int .u8 128, .int .u8 143, .int .u8 0, .int .u8 0, .int .u8 0, .int .u8 0, .int .u8 0, .int .u8 0, .int .u8 0, .int .u8 0, .int .u8 0, .int .u8 0, .int .u8 0, .int .u8 0, .int .u8 0, .int .u8 0, .int .u8 0, .int .u8 0, .int .u8 0, .int .u8 0, .int .u8 0, .int .u8 0, .int .u8 0, .int .u8 0]
def cFirst : Array Value := (Pinned.utf8FirstZ.map fun (n : Nat) => Value.int .u8 (n : Int)).toArray
def putCells (cs : Array Value) : Obj → Obj
 | .cells _ t frozen => .cells cs t frozen
 | o => o
noncomputable def laidWorld (os : Os) : World :=
 { World.holding Tryz.prog os ⟨#[], #[], []⟩ with heap := ((World.holding Tryz.prog os ⟨#[], #[], []⟩).heap.modify 1 (putCells cFirst)).modify 2 (putCells cAcc) }
theorem Zqk (os : Os) (args : Array Value) : laidMet Tryz.prog Rows.reconstructExplainsRow.laid ((laidWorld os).forCall (fun _ _ => 0) ⟨#[], args, []⟩).memory :=
 laidMet_of_run3 8 (by kernel_rfl) (by kernel_rfl) (by kernel_rfl)
end Go.Proofs.YtjicdlilgjdefaaGreatDoor
namespace Go.Vt
open Go.RowKit Go.Proofs
open Go.Proofs.Tryz (prog)
section
def cmL (xs : List Int) : Nat → List Int
 | 0 => []
 | j + 1 => if 0 < j ∧ gi xs (j : Int) = gi xs ((j - 1 : Nat) : Int) then cmL xs j else cmL xs j ++ [gi xs (j : Int)]
def cmI' (xs : List Int) : List Int := cmL xs xs.length
theorem ZlZ (xs : List Int) : ∀ j, (cmL xs j).length ≤ j
 | 0 => Wl _
 | j + 1 => by
  have := ZlZ xs j
  rw [cmL]
  split
  ·omega
  ·rw [Wp, List.length_singleton]; omega
theorem Zlu (xs : List Int) : ∀ j, 0 < j → cmL xs j ≠ []
 | 0, h => absurd h (Nat.lt_irrefl _)
 | j + 1, _ => by
  rw [cmL]
  split
  ·rename_i h; exact Zlu xs j h.1
  ·simp
theorem Zg9 {xs : List Int} {z : Int} : ∀ j, j ≤ xs.length → (z ∈ cmL xs j ↔ z ∈ xs.take j)
 | 0, _ => by simp [cmL]
 | j + 1, h => by
  have ih := Zg9 (xs := xs) (z := z) j (by omega)
  have ht : xs.take (j + 1) = xs.take j ++ [gi xs (j : Int)] := by rw [Wn h, Zk h]
  rw [cmL, ht]
  split
  ·rename_i hc
   rw [ih, Wv]
   constructor
   ·exact .inl
   ·rintro (h1 | h1)
    ·exact h1
    ·rw [Wo] at h1
     rw [h1, hc.2, Zk (by omega)]
     exact List.mem_take_iff_getElem.2 ⟨j - 1, by omega, rfl⟩
  ·rw [Wv, Wv, ih]
theorem Zlz {xs : List Int} (h : xs.Pairwise (· ≤ ·)) : ∀ j, j ≤ xs.length → (cmL xs j).Pairwise (· < ·)
 | 0, _ => .nil
 | j + 1, hj => by
  have ih := Zlz h j (by omega)
  rw [cmL]
  split
  ·exact ih
  ·rename_i hc
   refine List.pairwise_append.2 ⟨ih, List.pairwise_singleton _ _, fun a ha b hb => ?_⟩
   rw [Wo] at hb
   subst hb
   have ha' := (Zg9 j (by omega)).1 ha
   obtain ⟨i, hi, rfl⟩ := List.mem_take_iff_getElem.1 ha'
   have hij : i < j := by omega
   have h1 := List.pairwise_iff_getElem.1 h
   rw [Zk (by omega)]
   rcases Nat.lt_or_ge i (j - 1) with h2 | h2
   ·have a1 := h1 i (j - 1) (by omega) (by omega) h2
    have a2 := h1 (j - 1) j (by omega) (by omega) (by omega)
    have a3 : xs[j] ≠ xs[j - 1] := fun e => hc ⟨by omega, by rw [Zk (by omega), Zk (by omega)]; exact e⟩
    omega
   ·have e : i = j - 1 := by omega
    subst e
    have a2 := h1 (j - 1) j (by omega) (by omega) (by omega)
    have a3 : xs[j] ≠ xs[j - 1] := fun e => hc ⟨by omega, by rw [Zk (by omega), Zk (by omega)]; exact e⟩
    omega
structure CmQ (xs : List Int) (k i : Nat) (ys : List Int) : Prop where
 ki : k < i
 k0 : 0 < k
 im : i ≤ xs.length
 len : ys.length = xs.length
 tk : ys.take k = cmL xs i
 eq : ∀ j : Nat, i - 1 ≤ j → j < xs.length → gi ys (j : Int) = gi xs (j : Int)
theorem CmQ.skip {xs ys : List Int} {k i : Nat} (h : CmQ xs k i ys) (hi : i < xs.length) (he : gi xs (i : Int) = gi xs ((i - 1 : Nat) : Int)) : CmQ xs k (i + 1) ys :=
 ⟨by have := h.ki; omega, h.k0, hi, h.len, by rw [cmL, if_pos ⟨by have := h.ki; omega, he⟩]; exact h.tk, fun j h1 h2 => h.eq j (by omega) h2⟩
theorem CmQ.keep {xs ys : List Int} {k i : Nat} (h : CmQ xs k i ys) (hi : i < xs.length) (he : gi xs (i : Int) ≠ gi xs ((i - 1 : Nat) : Int)) : CmQ xs (k + 1) (i + 1) (ys.set k (gi xs (i : Int))) := by
 have hk := h.ki
 have hl := h.len
 refine ⟨by omega, by omega, hi, by rw [List.length_set]; exact hl, ?_, fun j h1 h2 => ?_⟩
 ·rw [cmL, if_neg (fun hc => he hc.2), ← h.tk, Wn (by rw [List.length_set]; omega), List.take_set_of_le (Wl k)]
  simp
 ·rw [Zk (by rw [List.length_set]; omega), List.getElem_set_ne (by omega), ← Zk (by omega)]
  exact h.eq j (by omega) h2
theorem ZfU {xs : List Int} : ∀ {m : Nat}, m ≤ xs.length → (∀ j : Nat, 0 < j → j < m → gi xs (j : Int) ≠ gi xs ((j - 1 : Nat) : Int)) → cmL xs m = xs.take m
 | 0, _, _ => rfl
 | m + 1, hm, h => by
  rw [cmL, if_neg (fun hc => h m hc.1 (Nat.lt_succ_self m) hc.2), ZfU (by omega) (fun j h1 h2 => h j h1 (by omega)), Wn hm, Zk hm]
theorem CmQ.start {xs : List Int} {k : Nat} (hk : 0 < k) (hm : k < xs.length) (he : gi xs (k : Int) = gi xs ((k - 1 : Nat) : Int)) (h : ∀ j : Nat, 0 < j → j < k → gi xs (j : Int) ≠ gi xs ((j - 1 : Nat) : Int)) : CmQ xs k (k + 1) xs :=
 ⟨Nat.lt_succ_self _, hk, hm, rfl, by rw [cmL, if_pos ⟨hk, he⟩, ZfU (Nat.le_of_lt hm) h], fun _ _ _ => rfl⟩
set_option maxHeartbeats 8000000 in
theorem ZiN (w0 w : World) (L L1 : List Blk) (xs : List Int) (s : SlS (eI .i64) 1 xs) [hd : OwnS 3 s L L1] (hl : xs.length ≤ 1048576) (hw : Own w0 L w) :
  Calls prog 166 [vSl s].toArray w (RetX w0 (SlS (eI .i64) 1 (cmI' xs)) (fun s => vSl s) (fun s => mS 3 s ++ L1)) := by
 have hw1 := hw.perm hd.out
 refine Z2 Tryz.func166 rfl Tryz.ntmps166 rfl hw1 ?_
 repeat (refine wkM ?_; intros)
 by_cases h2 : xs.length < 2
 ·simp only [Wc (show (xs.length : Int) < 2 by omega)]
  have e : cmI' xs = xs := by
   unfold cmI'
   rw [ZfU (Wl _) (fun j h1 h3 => by omega), List.take_length]
  obtain ⟨s', e1, e2⟩ := SlS.turn 3 e.symm s
  repeat (refine wkM ?_; intros)
  exact Zf rfl rfl (fun w hw => ⟨s', by show Ending.returned (vSl s) = Ending.returned (vSl s'); rw [e1], by show Own w0 (mS _ s' ++ L1) w; rw [e2]; exact hw⟩)
 simp only [We (show ¬ (xs.length : Int) < 2 by omega)]
 rcases s.cases 3 with ⟨x0, -, -⟩ | ⟨bs, c, sp, h1, hv, hmS, hne⟩
 ·rw [x0] at h2
  simp at h2
 simp only [hv, hmS, Wf, Wg]
 repeat (refine wkM ?_; intros)
 refine Zq (S := Nat) (fun m => m + 1 ≤ xs.length ∧ ∀ j : Nat, 0 < j → j < m + 1 → gi xs (j : Int) ≠ gi xs ((j - 1 : Nat) : Int)) (fun m => [(0, .slice (some ⟨bs, 0, none⟩) xs.length c), (3, .int .i64 ((m + 1 : Nat)))]) (fun _ => ⟨bs, row (eI .i64) xs sp, 3⟩ :: L1) (fun m => xs.length - m) 0 ⟨by omega, fun j h1 h2 => by omega⟩ sbB slB (fun m hm => ?_)
 obtain ⟨hm, hall⟩ := hm
 repeat (refine wkM ?_; intros)
 refine Zn rfl (fun h => ?_) (fun h => ?_)
 ·have hlt : m + 1 < xs.length := by have := Wa h; omega
  have e1 : ((m + 1 : Nat) : Int) - 1 = (m : Int) := by omega
  repeat (refine wkM ?_; intros)
  refine jD 10 10 (h := ?_)
  (repeat (refine wkH ?_))
  simp only [e1]
  (repeat (refine wkH ?_))
  refine Zo ?_
  refine Zr ?_
  by_cases hq : gi xs ((m + 1 : Nat) : Int) = gi xs (m : Int)
  ·simp only [Wc hq]
   have hst := CmQ.start (k := m + 1) (Nat.succ_pos m) hlt hq hall
   repeat (refine wkO ?_; intros)
   refine Zq (S := Nat × Nat × List Int) (fun q => CmQ xs q.1 q.2.1 q.2.2 ∧ m + 1 < q.2.1) (fun q => [(0, .slice (some ⟨bs, 0, none⟩) xs.length c), (3, .int .i64 (q.1 : Nat)), (4, .slice (some ⟨bs, (m + 1) * 1, none⟩) (xs.length - (m + 1)) (c - (m + 1))), (5, .int .i64 ((q.2.1 - (m + 1) : Nat)))]) (fun q => ⟨bs, row (eI .i64) q.2.2 sp, 3⟩ :: L1) (fun q => xs.length - q.2.1) (m + 1, m + 2, xs) ⟨hst, Nat.lt_succ_self _⟩ (by rw [show m + 2 - (m + 1) = 1 by omega]; exact sbB) slB (fun q hq2 => ?_)
   obtain ⟨k, i, ys⟩ := q
   obtain ⟨hq2, hmi⟩ := hq2
   have hki := hq2.ki
   have him := hq2.im
   have hyl := hq2.len
   have hk0 := hq2.k0
   simp only at hq2 hki him hyl hk0 hmi ⊢
   obtain ⟨d, rfl⟩ : ∃ d, i = m + 1 + (d + 1) := ⟨i - (m + 1) - 1, by omega⟩
   rw [show m + 1 + (d + 1) - (m + 1) = d + 1 by omega]
   repeat (refine wkM ?_; intros)
   refine Zn rfl (fun h3 => ?_) (fun h3 => ?_)
   ·have hlt3 : m + 1 + (d + 1) < xs.length := by have := Wa h3; omega
    have e4 : ((d + 1 : Nat) : Int) - 1 = (d : Int) := by omega
    have g1 := hq2.eq (m + 1 + (d + 1)) (by omega) hlt3
    have g2 := hq2.eq (m + 1 + d) (by omega) (by omega)
    have e5 : (m + 1) * 1 + ((d + 1 : Nat) : Int).toNat * 1 = 0 + ((m + 1 + (d + 1) : Nat) : Int).toNat * 1 := by omega
    have e6 : (m + 1) * 1 + ((d : Nat) : Int).toNat * 1 = 0 + ((m + 1 + d : Nat) : Int).toNat * 1 := by omega
    repeat (refine wkM ?_; intros)
    refine jD 10 10 (h := ?_)
    (repeat (refine wkH ?_))
    simp only [e5]
    (repeat (refine wkH ?_))
    simp only [e4]
    (repeat (refine wkH ?_))
    simp only [e6]
    (repeat (refine wkH ?_))
    refine Zo ?_
    refine Zr ?_
    rw [g1, g2]
    have e7 : ((m + 1 + (d + 1) - 1 : Nat) : Int) = ((m + 1 + d : Nat) : Int) := by omega
    by_cases hq3 : gi xs ((m + 1 + (d + 1) : Nat) : Int) = gi xs ((m + 1 + d : Nat) : Int)
    ·simp only [Wc hq3, Bool.not_true]
     repeat (refine wkO ?_; intros)
     exact Zj (k, m + 1 + (d + 1) + 1, ys) ⟨hq2.skip hlt3 (by rw [e7]; exact hq3), by simp only; omega⟩ (by simp only; rw [show m + 1 + (d + 1) + 1 - (m + 1) = d + 1 + 1 by omega]; exact sbB) slB (by show xs.length - (m + 1 + (d + 1) + 1) < xs.length - (m + 1 + (d + 1)); omega)
    ·simp only [We hq3, Bool.not_false]
     repeat (refine wkM ?_; intros)
     simp only [e5]
     repeat (refine wkO ?_; intros)
     rw [g1]
     have hkk := hq2.keep hlt3 (by rw [e7]; exact hq3)
     exact Zj (k + 1, m + 1 + (d + 1) + 1, ys.set k (gi xs ((m + 1 + (d + 1) : Nat) : Int))) ⟨hkk, by simp only; omega⟩ (by simp only; rw [show m + 1 + (d + 1) + 1 - (m + 1) = d + 1 + 1 by omega]; exact sbB) slB (by show xs.length - (m + 1 + (d + 1) + 1) < xs.length - (m + 1 + (d + 1)); omega)
   ·have hge : m + 1 + (d + 1) = xs.length := by have := Wb h3; omega
    have htk : ys.take k = cmI' xs := by rw [hq2.tk, hge]; rfl
    have hfl : (cmI' xs).length = k := by rw [← htk, Wt]; omega
    repeat (first | (refine wkM ?_; intros) | (refine wnM ?_ ?_; (focus (exact ⟨by omega, by omega, by omega⟩)); intros))
    refine sClr (enc := eI .i64) (k := 1) (i := k) (ys := ys) (z := .int .i64 0) (zc := #[.int .i64 0]) (hz := ⟨by kernel_rfl, rfl⟩) rfl (by omega) (by omega) rfl (EncC.one (enc := eI .i64) (0 : Int)) (fun zs hzs => ?_)
    repeat (first | (refine wkM ?_; intros) | (refine wnM ?_ ?_; (focus (exact ⟨by omega, by omega, by omega⟩)); intros))
    refine Zf rfl rfl (fun w hw => ⟨SlS.at_ bs c (zs ++ sp) ?_ ?_, ?_, ?_⟩)
    ·rw [hfl]
     refine ⟨by omega, ?_⟩
     rw [Wp, hzs, h1.2]
     omega
    ·exact Zlu xs xs.length (by omega)
    ·show Ending.returned _ = Ending.returned (.slice (some ⟨bs, 0, none⟩) (cmI' xs).length c)
     rw [hfl]
    ·show Own w0 (⟨bs, row (eI .i64) (cmI' xs) (zs ++ sp), _⟩ :: L1) w
     rw [← htk]
     exact hw
  ·simp only [We hq]
   repeat (refine wkO ?_; intros)
   exact Zj (m + 1) ⟨by omega, fun j h1 h2 => by
    by_cases e : j = m + 1
    ·subst e; exact hq
    ·exact hall j h1 (by omega)⟩ sbB slB (by omega)
 ·have hge : m + 1 = xs.length := by have := Wb h; omega
  have e : cmI' xs = xs := by
   unfold cmI'
   rw [ZfU (Wl _) (fun j h1 h3 => hall j h1 (by omega)), List.take_length]
  obtain ⟨s', e1, e2⟩ := SlS.turn 3 e.symm s
  repeat (refine wkM ?_; intros)
  exact Zf rfl rfl (fun w hw => ⟨s', by show Ending.returned _ = Ending.returned (vSl s'); rw [e1, hv], by show Own w0 (mS _ s' ++ L1) w; rw [e2, hmS]; exact hw⟩)
end
section
theorem Zhj (v : Int) (l : List Zc) : Inc (spL (kpT v l)) := fun i hi => by
 rw [ZaZ, Zcy] at hi
 have hok := ZoQ (cCp v l) l.length hi
 have hg : ∀ j : Nat, j < (chainL (cCp v l) l.length).length → gi (spL (kpT v l)) (j : Int) = smT (gi l (((chainL (cCp v l) l.length).getD j 0 : Nat) : Int)) := fun j hj => by
  rw [show gi (spL (kpT v l)) (j : Int) = smT (gi (kpT v l) (j : Int)) from Zei (f := smT) (by rw [Zcy]; exact hj)]
  rw [Zk (by rw [Zcy]; exact hj)]
  simp only [kpT, List.getElem_map, List.getD_eq_getElem?_getD, List.getElem?_eq_getElem hj, Option.getD_some]
 rw [hg i (by omega), hg (i + 1) hi]
 have h1 : cpt v (gi l (((chainL (cCp v l) l.length).getD i 0 : Nat) : Int)) (gi l (((chainL (cCp v l) l.length).getD (i + 1) 0 : Nat) : Int)) = true := hok
 unfold cpt at h1
 rw [Wq] at h1
 have h2 := Wa h1.1
 show (gi l _).T < (gi l _).T
 grind
def trT (s : ZC) (T : List Zc) : List PU := (thrT (kpT s.MaxSpeed T) s.MaxGap (kpT s.MaxSpeed T).length).1
theorem Zeo (s : ZC) (T : List Zc) : trT s T = (thrT (kpT s.MaxSpeed T) s.MaxGap (kpT s.MaxSpeed T).length).1 := rfl
structure TrX (s : ZC) (l : List (Zb × Bool)) (x : List (Za × Bool)) : Prop where
 k : KtX s.MaxSpeed l x
 g : -2147483648 ≤ s.MaxGap ∧ s.MaxGap ≤ 2147483648
set_option maxHeartbeats 8000000 in
theorem ZmH (w0 w : World) (L : List Blk) (px : Nat) (l : List (Zb × Bool)) (x : List (Za × Bool)) (o : Int) (s : ZC) [h : InkX w0 L px l x] (hw : Own w0 L w) (hk : TrX s l x) :
  Calls prog 21 [.pointer (some ⟨px, 0, none⟩), .int .i64 o, .agg (Zm s)].toArray w (RetM (SlS rP 36 (trT s (tmX l x o))) (fun s => .tuple #[vSl s, .int .i64 0]) (fun s => mS 115 s) w) := by
 have hin := h.all hw
 have hl := hk.k.ok.len (o := o)
 have hcn := ZbP (cCp s.MaxSpeed (tmX l x o)) (tmX l x o).length
 have hkl := Zcy s.MaxSpeed (tmX l x o)
 have hkk := hk.k
 have hpt : (kpT s.MaxSpeed (tmX l x o)).length ≤ 19 ∧ (∀ z ∈ kpT s.MaxSpeed (tmX l x o), TkOk z) ∧ Inc (spL (kpT s.MaxSpeed (tmX l x o))) ∧ (-2147483648 ≤ s.MaxGap ∧ s.MaxGap ≤ 2147483648) := ⟨by omega, fun z hz => hk.k.ok.tk w z (Zej hz), Zhj _ _, hk.g⟩
 refine Zg Tryz.func21 rfl Tryz.ntmps21 rfl ?_
 repeat (first | (refine wkM ?_; intros) | (refine wnM ?_ ?_; (focus (exact hkk)); intros))
 rename_i b5 s1 o1
 generalize hT : tmX l x o = T at *
 generalize hK : kpT s.MaxSpeed T = K at *
 obtain ⟨o2, e1, e2⟩ := SlS.turn 115 (show (thrT K s.MaxGap K.length).1 = trT s T by rw [Zeo, hK]) o1
 refine Zz rfl (Zl rfl) (Zl rfl) (fun w hw => ⟨o2, ?_, ?_⟩)
 ·show Ending.returned (.tuple #[vSl o1, .int .i64 0]) = Ending.returned (.tuple #[vSl o2, .int .i64 0])
  rw [e1]
 ·show Own _ (mS 115 o2) w
  rw [e2]
  exact hw.sub suB
instance (priority := high) ZC7 (w0 : World) (L : List Blk) (px : Nat) (l : List (Zb × Bool)) (x : List (Za × Bool)) (o : Int) (s : ZC) [h : InkX w0 L px l x] : SpecR prog w0 L 21 [.pointer (some ⟨px, 0, none⟩), .int .i64 o, .agg (Zm s)] (SlS rP 36 (trT s (tmX l x o))) (fun s => .tuple #[vSl s, .int .i64 0]) (fun s => mS 115 s) (TrX s l x) := ⟨fun hp w hw => ZmH w0 w L px l x o s hw hp⟩
instance (priority := high) Zvq (w0 : World) (L L1 : List Blk) (xs : List Int) (s : SlS (eI .i64) 1 xs) [hd : OwnS 3 s L L1] : SpecX prog w0 L 166 [vSl s] (SlS (eI .i64) 1 (cmI' xs)) (fun s => vSl s) (fun s => mS 3 s ++ L1) (xs.length ≤ 1048576) := ⟨fun hp w hw => ZiN w0 w L L1 xs s hp hw⟩
def objL (rs : List Zb) : List Int := cmI' ((cntR rs).map (·.Object))
set_option maxHeartbeats 4000000 in
theorem ZiF (v : Value) (rs : List Zb) (w : World) (hv : ArgS w v Zd rs) (hl : rs.length ≤ 12) :
  Calls prog 108 [v].toArray w (RetM (SlS (eI .i64) 1 (objL rs)) (fun s => vSl s) (fun s => mS 3 s) w) := by
 have hvl := fun L => hv.lst L
 have hcl := ZfR (rs := rs)
 refine Zg Tryz.func108 rfl Tryz.ntmps108 rfl ?_
 repeat (first | (refine wkM ?_; intros) | (refine wnM ?_ ?_; (focus (exact hl)); intros))
 rename_i s0
 have hdf : objL rs = cmI' ((cntR rs).map (·.Object)) := rfl
 generalize cntR rs = C at *
 refine Zq (S := (m : Nat) × SlS (eI .i64) 1 ((C.take m).map (·.Object))) (fun q => q.1 ≤ C.length) (fun q => [(3, vSl q.2), (7, vSl s0), (8, .int .i64 (C.length : Nat)), (9, .int .i64 (q.1 : Nat))]) (fun q => mS 3 q.2 ++ mS 35 s0) (fun q => C.length - q.1) ⟨0, SlS.no⟩ (Wm _) sbB suB (fun q hq => ?_)
 obtain ⟨m, q⟩ := q
 simp only at hq ⊢
 have hml : ((C.take m).map (·.Object)).length = m := by rw [Ws, Wt]; omega
 repeat (refine wkM ?_; intros)
 refine Zn rfl (fun h => ?_) (fun h => ?_)
 ·have hlt : m < C.length := by have := Wa h; omega
  have hnx : (C.take (m + 1)).map (·.Object) = (C.take m).map (·.Object) ++ [(gi C (m : Int)).Object] := by
   rw [Wn hlt, List.map_append, Zk hlt]
   rfl
  rcases s0.cases 35 with ⟨x0, -, -⟩ | ⟨bs, cb, sp, hc1, x1, x2, xne⟩
  ·rw [x0] at hlt
   cases hlt
  simp only [x1, x2, Wf, Wg]
  repeat (refine wkM ?_; intros)
  refine sU rfl rfl ?_ ?_ ?_ ?_
  ·rfl
  ·rfl
  ·exact ⟨by decide, by omega, by omega⟩
  intro s'
  repeat (refine wkO ?_; intros)
  obtain ⟨s3, e1, e2⟩ := SlS.turn 3 hnx.symm s'
  exact Zj ⟨m + 1, s3⟩ hlt (by simp only [e1, x1]; exact sbB) (by simp only [e2, x2]; exact suB) (by show C.length - (m + 1) < C.length - m; omega)
 ·have hge : m = C.length := by have := Wb h; omega
  subst hge
  obtain ⟨s3, e1, e2⟩ := SlS.turn 3 (show (C.take C.length).map (·.Object) = C.map (·.Object) by rw [List.take_length]) q
  rw [← e1, ← e2]
  have hcm : (C.map (·.Object)).length ≤ 1048576 := by rw [Ws]; omega
  repeat (refine wkM ?_; intros)
  refine sZ rfl rfl hcm ?_
  rw [← hdf]
  intro s4
  repeat (refine wkM ?_; intros)
  exact Zf rfl rfl (fun w hw => ⟨s4, rfl, hw.sub suB⟩)
instance Zvo (w0 : World) (L : List Blk) (v : Value) (rs : List Zb) [h : LstC w0 L v Zb Zd rs] : SpecR prog w0 L 108 [v] (SlS (eI .i64) 1 (objL rs)) (fun s => vSl s) (fun s => mS 3 s) (rs.length ≤ 12) := ⟨fun hl w hw => ZiF v rs w (h.out w hw) hl⟩
theorem ZiM (w0 w : World) (L : List Blk) (px : Nat) (l : List (Zb × Bool)) (x : List (Za × Bool)) [h : InkX w0 L px l x] (hw : Own w0 L w) (hl : l.length ≤ 12) :
  Calls prog 59 [.pointer (some ⟨px, 0, none⟩)].toArray w (RetM (SlS (eI .i64) 1 (objL (sorted (pKR l)))) (fun s => vSl s) (fun s => mS 3 s) w) := by
 have hin := h.all hw
 have hl2 : (sorted (pKR l)).length ≤ 12 := by rw [ZbS, Ws]; exact hl
 refine Zg Tryz.func59 rfl Tryz.ntmps59 rfl ?_
 repeat (first | (refine wkM ?_; intros) | (refine wnM ?_ ?_; (focus (first | exact hl | exact hl2)); intros))
 exact Zf rfl rfl (fun w hw => ⟨_, rfl, hw.sub suB⟩)
instance (priority := high) ZvX (w0 : World) (L : List Blk) (px : Nat) (l : List (Zb × Bool)) (x : List (Za × Bool)) [h : InkX w0 L px l x] : SpecR prog w0 L 59 [.pointer (some ⟨px, 0, none⟩)] (SlS (eI .i64) 1 (objL (sorted (pKR l)))) (fun s => vSl s) (fun s => mS 3 s) (l.length ≤ 12) := ⟨fun hp w hw => ZiM w0 w L px l x hw hp⟩
end
end Go.Vt
