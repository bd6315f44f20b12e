/- that objects are reconstructed from their reports (part 11 of 29.) Conditions: those that each statement names. -/
import Derived.Maps.RangeRun
import Derived.Test.YtjicdlilgjdefaaGreatDoorKJ1
import Derived.Test.YtjicdlilgjdefaaGreatDoorKJ9
import Derived.Test.YtjicdlilgjdefaaGreatDoorKJ10
set_option linter.unusedSimpArgs false
set_option linter.unusedVariables false
set_option maxHeartbeats 2000000
set_option linter.unusedSectionVars false
set_option maxRecDepth 100000
namespace Go.Vt
open Go.RowKit
section
variable {P : Program} {w0 : World} {n : Nat} {ops : Array Oper} {L L' Lw : List Blk} {E : Env}
variable {Q : Exit → Act → World → Prop} {v : Value}
def wpK (P : Program) (w0 : World) (ops : Array Oper) (As : List Nat) (Lw : List Blk) (F : List Blk → Act → Prop) : Nat → Array Bool → List Nat → List Blk → Act → Prop
  | 0, listed, es, L, a => es = [] ∧ Region.ready .any ops listed = [] ∧ F L a
  | f + 1, listed, es, L, a => Region.ready .any ops listed ≠ [] ∧ ∀ i ∈ Region.ready .any ops listed, ∃ o, ops[i]? = some o ∧
      ((∃ v, YieldsC P w0 L ops o v a ∧ wpK P w0 ops As Lw F f (listed.setIfInBounds i true) es L (a.put o.dst v)) ∨
       ∃ es', (es = i :: es' ∨ (As.contains i = true ∧ es' = es)) ∧ Eff P w0 Lw ops L o a fun L' u => wpK P w0 ops As Lw F f (listed.setIfInBounds i true) es' L' (a.put o.dst u))
theorem ZnP {As : List Nat} {i : Nat} {oi : Oper} {F : List Blk → Act → Prop} (hi : ops[i]? = some oi) (hsel : ∀ (j : Nat) (o : Oper) cs b, ops[j]? = some o → o.op ≠ .select cs b) :
  ∀ (f : Nat) (listed : Array Bool) (es : List Nat) (L : List Blk) (a : Act),
   (∀ j oj, ops[j]? = some oj → j ≠ i → listed.getD j true = false → (∀ e ∈ oj.after, Region.binds .any e = true → e.on ≠ i) → oi.apart ops oj = true) →
   i ∈ Region.ready .any ops listed → YieldsC P w0 Lw ops oi v a → Weak w0 Lw L →
   wpK P w0 ops As Lw F f (listed.setIfInBounds i true) es L (a.put oi.dst v) → wpK P w0 ops As Lw F (f + 1) listed es L a := by
 intro f
 induction f with
 | zero =>
  intro listed es L a _ hr hy hw H
  refine ⟨fun h => (by rw [h] at hr; cases hr), fun j hj => ?_⟩
  by_cases hji : j = i
  ·subst hji
   exact ⟨oi, hi, .inl ⟨v, hy.weak hw, H⟩⟩
  ·have := ready_mono hj hji
   rw [H.2.1] at this
   cases this
 | succ f ih =>
  intro listed es L a hfree hr hy hw H
  have hun := (mem_ready.1 hr).1
  refine ⟨fun h => (by rw [h] at hr; cases hr), fun j hj => ?_⟩
  by_cases hji : j = i
  ·subst hji
   exact ⟨oi, hi, .inl ⟨v, hy.weak hw, H⟩⟩
  ·obtain ⟨hjun, oj, hoj, hall⟩ := mem_ready.1 hj
   have hnot : ∀ e ∈ oj.after, Region.binds .any e = true → e.on ≠ i := fun e he hb heq => by
    have h1 := hall e he hb
    rw [heq, getD_both hun] at h1
    cases h1
   obtain ⟨h1, h2, h3⟩ := Oper.apart_spec (hfree j oj hoj hji hjun hnot)
   have hfree' : ∀ q oq, ops[q]? = some oq → q ≠ i → (listed.setIfInBounds j true).getD q true = false →
     (∀ e ∈ oq.after, Region.binds .any e = true → e.on ≠ i) → oi.apart ops oq = true := fun q oq hq hqi hun' hno => by
    refine hfree q oq hq hqi ?_ hno
    by_cases hjq : j = q
    ·subst hjq; exact hjun
    ·rw [getD_set_ne true hjq] at hun'; exact hun'
   have keep : ∀ u, YieldsC P w0 Lw ops oi v (a.put oj.dst u) := fun u => hy.same (execOp_put oi (fun cs b => hsel i oi cs b hi) a oj.dst u h3) (wanted_put oi a oj.dst u h3)
   have hex : execOp (a.put oi.dst v).eval oj = execOp a.eval oj := execOp_put oj (fun cs b => hsel j oj cs b hoj) a oi.dst v h1
   have hwa : Region.wanted oj (yielded ops (a.put oi.dst v).tmps) = Region.wanted oj (yielded ops a.tmps) := wanted_put oj a oi.dst v h1
   have step : ∀ es' L' u, Weak w0 Lw L' → wpK P w0 ops As Lw F f ((listed.setIfInBounds i true).setIfInBounds j true) es' L' ((a.put oi.dst v).put oj.dst u) → wpK P w0 ops As Lw F (f + 1) (listed.setIfInBounds j true) es' L' (a.put oj.dst u) := fun es' L' u hw' hh => by
    refine ih _ _ _ _ hfree' (ready_mono hr (Ne.symm hji)) (keep u) hw' ?_
    rw [Array.setIfInBounds_comm _ _ hji, ← Act.put_comm a v u h2]
    exact hh
   obtain ⟨o, ho, hH⟩ := H.2 j (ready_mono hj hji)
   have : o = oj := Option.some.inj (ho.symm.trans hoj)
   subst this
   refine ⟨o, ho, ?_⟩
   rcases hH with ⟨u, hu, hK⟩ | ⟨es', he, hE⟩
   ·exact .inl ⟨u, hu.same hex.symm hwa.symm, step _ _ _ hw hK⟩
   ·refine .inr ⟨es', he, hwa ▸ hE.1, fun w hw1 => ?_⟩
    have hH := hE.2 w hw1
    rw [hex] at hH
    exact hH.mono fun u w' ⟨L', h5, h6, h7⟩ => ⟨L', h5, h6, step _ _ _ h6 h7⟩
theorem Zb8 {As : List Nat} {F : List Blk → Act → Prop} (hF : ∀ L a w, F L a → Own w0 L w → Q .normal a w) :
  ∀ (f : Nat) (listed : Array Bool) (es : List Nat) (L : List Blk) (a : Act) (w : World), Own w0 L w → wpK P w0 ops As Lw F f listed es L a → wpAny P .any ops Q f listed a w
 | 0, listed, es, L, a, w, hw, h => ⟨h.2.1, hF _ _ _ h.2.2 hw⟩
 | f + 1, listed, es, L, a, w, hw, h => by
  refine ⟨fun h0 => absurd h0 h.1, fun i hi => ?_⟩
  obtain ⟨o, ho, hH⟩ := h.2 i hi
  unfold wpOp
  simp only [ho]
  rcases hH with ⟨v, hy, hK⟩ | ⟨es', _, hwt, hE⟩
  ·rcases hy with ⟨hwt, hy⟩ | ⟨hwt, rfl⟩
   ·rw [if_pos hwt]
    exact .inl (ZcD (hy w hw) fun w' hx => Zb8 hF f _ _ _ _ _ (hw.to hx) hK)
   ·rw [if_neg (by rw [hwt]; simp)]
    exact Zb8 hF f _ _ _ _ _ hw hK
  ·rw [if_pos hwt]
   exact .inl (Zh3 ((hE w hw).mono fun u w' ⟨L', hw', _, hK⟩ => Zb8 hF f _ _ _ _ _ hw' hK))
theorem ZfJ {As : List Nat} {F : List Blk → Act → Prop} : ∀ (es : List Nat) (listed : Array Bool) (L : List Blk) (a : Act), seqE ops es listed = true → EC P w0 ops [] Lw F es L a → wpK P w0 ops As Lw F es.length listed es L a
 | [], listed, L, a, hB, h => ⟨rfl, by simpa [seqE] using hB, h⟩
 | i :: es, listed, L, a, hB, h => by
  simp only [seqE, Wq, decide_eq_true_eq] at hB
  refine ⟨by rw [hB.1]; simp, fun j hj => ?_⟩
  rw [hB.1] at hj
  have : j = i := by simpa using hj
  subst this
  obtain ⟨o, ho, hE⟩ := h
  exact ⟨o, ho, .inr ⟨es, .inl rfl, Eff.mono hE fun L' u _ hK => ZfJ es _ _ _ hB.2 hK⟩⟩
def AK (P : Program) (ops : Array Oper) (F : List Blk → Act → Prop) : List Nat → List Blk → Act → Prop
 | [], L, a => F L a
 | i :: is, L, a => ∃ o T z, ops[i]? = some o ∧ isNew o = some T ∧ (P.info? T).bind (·.zero) = some z ∧ ∀ b, AK P ops F is (⟨b, z.cells, T⟩ :: L) (a.put o.dst (.pointer (some ⟨b, 0, none⟩)))
theorem AK.perm {F : List Blk → Act → Prop} (hF : ∀ L M a, L.Perm M → F L a → F M a) : ∀ (is : List Nat) (L M : List Blk) (a : Act), L.Perm M → AK P ops F is L a → AK P ops F is M a
 | [], L, M, a, p, h => hF L M a p h
 | i :: is, L, M, a, p, ⟨o, T, z, h1, h2, h3, h⟩ => ⟨o, T, z, h1, h2, h3, fun b => AK.perm hF is _ _ _ (p.cons _) (h b)⟩
def dsB (ops : Array Oper) : List Nat → Bool
 | [] => true
 | i :: is => is.all (fun j => match (ops[i]?).bind (·.dst), (ops[j]?).bind (·.dst) with | some d, some e => d != e | _, _ => true) && dsB ops is
theorem AK.pick {F : List Blk → Act → Prop} (hF : ∀ L M a, L.Perm M → F L a → F M a) : ∀ (is : List Nat) (L : List Blk) (a : Act) (i : Nat), i ∈ is → dsB ops is = true → AK P ops F is L a →
  ∃ o T z, ops[i]? = some o ∧ isNew o = some T ∧ (P.info? T).bind (·.zero) = some z ∧ ∀ b, AK P ops F (is.erase i) (⟨b, z.cells, T⟩ :: L) (a.put o.dst (.pointer (some ⟨b, 0, none⟩)))
 | [], _, _, _, h, _, _ => by cases h
 | j :: is, L, a, i, hi, hd, ⟨oj, Tj, zj, h1, h2, h3, h⟩ => by
  by_cases hij : j = i
  ·subst hij
   rw [List.erase_cons_head]
   exact ⟨oj, Tj, zj, h1, h2, h3, h⟩
  ·have hi' : i ∈ is := by
    rcases List.mem_cons.1 hi with h4 | h4
    ·exact absurd h4.symm hij
    ·exact h4
   simp only [dsB, Wq, List.all_eq_true] at hd
   obtain ⟨o, T, z, k1, k2, k3, -⟩ := AK.pick hF is _ _ i hi' hd.2 (h 0)
   refine ⟨o, T, z, k1, k2, k3, fun b => ?_⟩
   rw [List.erase_cons_tail (by simpa using hij)]
   refine ⟨oj, Tj, zj, h1, h2, h3, fun bj => ?_⟩
   obtain ⟨o', T', z', m1, m2, m3, m⟩ := AK.pick hF is _ _ i hi' hd.2 (h bj)
   obtain rfl : o' = o := Option.some.inj (m1.symm.trans k1)
   obtain rfl : T' = T := Option.some.inj (m2.symm.trans k2)
   obtain rfl : z' = z := Option.some.inj (m3.symm.trans k3)
   have hne : ∀ d e, oj.dst = some d → o'.dst = some e → d ≠ e := fun d e hd1 he1 => by
    have := hd.1 i hi'
    simp [h1, k1, hd1, he1] at this
    exact this
   have hput : (a.put oj.dst (.pointer (some ⟨bj, 0, none⟩))).put o'.dst (.pointer (some ⟨b, 0, none⟩)) = (a.put o'.dst (.pointer (some ⟨b, 0, none⟩))).put oj.dst (.pointer (some ⟨bj, 0, none⟩)) := by
    obtain ⟨-, -, d, hd1⟩ := ZcJ h2
    obtain ⟨-, -, e, he1⟩ := ZcJ k2
    have hde := hne d e hd1 he1
    rw [hd1, he1]
    simp only [Act.put]
    rw [Array.setIfInBounds_comm _ _ hde]
   have hm := m b
   rw [hput] at hm
   exact AK.perm hF _ _ _ _ (.swap _ _ _) hm
def alB (ops : Array Oper) (es : List Nat) : Nat → List Nat → Array Bool → Bool
 | _, [], listed => seqE ops es listed
 | 0, _ :: _, _ => false
 | f + 1, i :: is, listed => decide (Region.ready .any ops listed = i :: is) && (i :: is).all fun j => alB ops es f ((i :: is).erase j) (listed.setIfInBounds j true)
theorem ZnO {As : List Nat} {F : List Blk → Act → Prop} {es : List Nat} (hF : ∀ L M a, L.Perm M → F L a → F M a) (hw : ∀ e : Blk, Weak w0 Lw L → Weak w0 Lw (e :: L)) : ∀ (f : Nat) (is : List Nat) (listed : Array Bool) (L : List Blk) (a : Act), alB ops es f is listed = true → dsB ops is = true → (∀ i ∈ is, As.contains i = true) → is.Nodup → Weak w0 Lw L →
  AK P ops (fun L a => EC P w0 ops [] Lw F es L a) is L a → wpK P w0 ops As Lw F (is.length + es.length) listed es L a := by
 have hEC : ∀ (es : List Nat) (L M : List Blk) (a : Act), L.Perm M → EC P w0 ops [] Lw F es L a → EC P w0 ops [] Lw F es M a := fun es L M a p h => by
  cases es with
  | nil => exact hF L M a p h
  | cons i es =>
   obtain ⟨o, ho, h1, h2⟩ := h
   exact ⟨o, ho, h1, fun w hw => h2 w (hw.perm p.symm)⟩
 intro f
 induction f with
 | zero =>
  intro is listed L a hB hd hA hnd hw h
  cases is with
  | nil =>
   rw [Wx, Nat.zero_add]
   exact ZfJ es listed L a hB h
  | cons i is => cases hB
 | succ f ih =>
  intro is listed L a hB hd hA hnd hw h
  cases is with
  | nil =>
   rw [Wx, Nat.zero_add]
   exact ZfJ es listed L a hB h
  | cons i is =>
   simp only [alB, Wq, decide_eq_true_eq, List.all_eq_true] at hB
   rw [show (i :: is).length + es.length = (is.length + es.length) + 1 by simp only [Wu]; omega]
   refine ⟨by rw [hB.1]; simp, fun j hj => ?_⟩
   rw [hB.1] at hj
   obtain ⟨o, T, z, h1, h2, h3, hk⟩ := AK.pick (hEC es) _ _ _ j hj hd h
   obtain ⟨hop, hgd, d, hdd⟩ := ZcJ h2
   refine ⟨o, h1, .inr ⟨es, .inr ⟨hA j hj, rfl⟩, by simp [Region.wanted, hgd], fun w hw1 => ?_⟩⟩
   have hrun : (execOp a.eval o).run P w = .ok (.value (.pointer (some ⟨w.heap.size, 0, none⟩))) (w.alloc (.cells z.cells T)) := by
    cases hinf : P.info? T with
    | none => simp [hinf] at h3
    | some ti =>
     have hz' : ti.zero = some z := by simpa [hinf] using h3
     obtain ⟨dst, op, ty, pos, aft, gd⟩ := o
     simp only at hop
     subst hop
     simp [execOp, Instr.alloc, zeroValue, typeInfo, hinf, hz', newVar, newRow]
   rw [hrun]
   have hwk : Weak w0 Lw (⟨w.heap.size, z.cells, T⟩ :: L) := fun w1 h1 => hw w1 (h1.sub (List.sublist_cons_self _ _))
   refine ⟨_, hw1.alloc z.cells T, hwk, ?_⟩
   have hlen : ((i :: is).erase j).length = is.length := by rw [List.length_erase_of_mem hj]; rfl
   have hds : dsB ops ((i :: is).erase j) = true := by
    have key : ∀ l : List Nat, dsB ops l = true → ∀ j, dsB ops (l.erase j) = true := fun l => by
     induction l with
     | nil => intro _ j; rfl
     | cons x l ihl =>
      intro h j
      simp only [dsB, Wq] at h
      rw [List.erase_cons]
      split
      ·exact h.2
      ·simp only [dsB, Wq]
       exact ⟨List.all_eq_true.2 fun y hy => List.all_eq_true.1 h.1 y (List.mem_of_mem_erase hy), ihl h.2 j⟩
    exact key _ hd j
   have := ih ((i :: is).erase j) (listed.setIfInBounds j true) _ _ (hB.2 j hj) hds (fun q hq => hA q (List.mem_of_mem_erase hq)) (hnd.erase j) hwk (hk w.heap.size)
   rw [hlen] at this
   exact this
def drlB (ops : Array Oper) (N : Nat) (P : Program) (hs As es : List Nat) : Bool :=
 Region.noSelect ops && decide (hs.length + (As.length + es.length) = ops.size) && dsB ops As && decide As.Nodup && es.all (fun i => decide (i < ops.size)) &&
  As.all (fun i => match ops[i]? with | some o => dstOk N o.dst | none => false) && lexF ops (alB ops es As.length As) hs (Array.replicate ops.size false)
theorem Ze1 {l : List Oper} {As : List Nat} {F : List Blk → Act → Prop} {es : List Nat} {G : Act → Prop} {N : Nat} {k : Array Bool → Bool} (hk : ∀ listed a, k listed = true → G a → wpK P w0 l.toArray As Lw F N listed es L a) (hsel : Region.noSelect l.toArray = true) (hw : Weak w0 Lw L) : ∀ (hs : List Nat) (listed : Array Bool) (a : Act), lexF l.toArray k hs listed = true →
  AH P w0 Lw l.toArray G (picks l hs) a → wpK P w0 l.toArray As Lw F (hs.length + N) listed es L a
 | [], listed, a, hB, h => by
  rw [Wx, Nat.zero_add]
  exact hk listed a hB h
 | i :: hs, listed, a, hB, h => by
  simp only [lexF, Wq] at hB
  obtain ⟨⟨hr, hf⟩, hB'⟩ := hB
  have hr' : i ∈ Region.ready .any l.toArray listed := by simpa using hr
  obtain ⟨_, o, ho, _⟩ := mem_ready.1 hr'
  have ho' : l[i]? = some o := by simpa using ho
  simp only [picks, ho', AH] at h
  obtain ⟨v, hy, h⟩ := h
  rw [show (i :: hs).length + N = (hs.length + N) + 1 by simp only [Wu]; omega]
  exact ZnP ho (Region.noSelect_spec hsel) _ _ _ _ _ (Region.free_spec ho hf) hr' hy hw (Ze1 hk hsel hw hs _ _ hB' h)
theorem ZjH {l : List Oper} {K : Env → List Blk → Prop} {F : List Blk → Act → Prop} (hK : ∀ E L a, Rep n E a → K E L → F L a) : ∀ (is : List Nat) (E : Env) (L : List Blk) (a : Act), is.all (fun i => match l.toArray[i]? with | some o => dstOk n o.dst | none => false) = true → Rep n E a → JN P n K (picks l is) E L → AK P l.toArray F is L a
 | [], E, L, a, _, ha, h => hK E L a ha h
 | i :: is, E, L, a, hi, ha, h => by
  simp only [List.all_cons, Wq] at hi
  cases ho : l[i]? with
  | none => simp [ho] at hi
  | some o =>
   simp only [picks, ho] at h
   obtain ⟨T, z, h1, h2, h3⟩ := h
   have hd : dstOk n o.dst = true := by simpa [ho] using hi.1
   exact ⟨o, T, z, by simpa using ho, h1, h2, fun b => ZjH hK is _ _ _ hi.2 (ha.put _ _ hd) (h3 b)⟩
theorem Zep {id : Nat} {l : List Oper} (hs As es : List Nat) (Lw : List Blk) (hm : P.follows .mixedOrders = true := by exact mixed) (hB : drlB l.toArray n P hs As es = true := by kernel_rfl) (hL : Lw.Sublist L := by first | exact Wj _ | exact Wk _ | exact sbl | (repeat (first | exact Wj _ | exact Wk _ | refine List.Sublist.cons_cons _ ?_ | refine List.Sublist.cons _ ?_ | refine List.Sublist.trans ?_ (List.sublist_append_right _ _))))
  (h : JH P w0 n Lw l.toArray (fun E' => JN P n (fun E1 L1 => JE P w0 n l.toArray Lw (fun E2 L2 => JX w0 n .normal Q E2 L2) (picks l es) E1 L1) (picks l As) E' L) (picks l hs) E) : J P w0 n (.region id l.toArray true) Q E L := by
 refine ⟨fun a w ha hw => ?_⟩
 simp only [drlB, Wq, decide_eq_true_eq] at hB
 obtain ⟨⟨⟨⟨⟨⟨hsel, hlen⟩, hds⟩, hnd⟩, hes⟩, hAs⟩, hlex⟩ := hB
 refine wp_region_any hm ?_
 have hF : ∀ L M (a : Act), L.Perm M → (∀ w, Own w0 L w → Q .normal a w) → (∀ w, Own w0 M w → Q .normal a w) := fun L M a p h w hw => h w (hw.perm p.symm)
 have H : wpK P w0 l.toArray As Lw (fun L a => ∀ w, Own w0 L w → Q .normal a w) (hs.length + (As.length + es.length)) (Array.replicate l.toArray.size false) es L a :=
  Ze1 (k := alB l.toArray es As.length As) (G := fun a => AK P l.toArray (fun L a => EC P w0 l.toArray [] Lw (fun L a => ∀ w, Own w0 L w → Q .normal a w) es L a) As L a)
   (fun listed a hb hG => ZnO hF (L := L) (fun e h w1 h1 => h w1 (h1.sub (List.sublist_cons_self _ _))) As.length As listed L a hb hds (fun i hi => by simpa using hi) hnd (Zap hL) hG) hsel (Zap hL) hs _ a hlex
   (Zcv (n := n) (fun E' a' ha' hK => ZjH (n := n) (fun E1 L1 a1 ha1 h1 => ZbO (n := n) (Lj := Lw) (fun E2 L2 a2 ha2 hx w hw => hx.out a2 w ha2 hw) es E1 L1 a1 (by simpa using hes) (fun _ _ => rfl) ha1 h1) As E' L a' hAs ha' hK) _ _ _ ha h)
 have := Zb8 (P := P) (Q := Q) (fun L a w hF hw => hF w hw) _ _ _ _ _ w.drew (hw.to (Ext.drew w)) H
 rw [hlen] at this
 exact this
inductive Tr where
 | fin
 | v (hs : List Nat) (t : Tr)
 | e1 (i : Nat) (t : Tr)
 | e2 (i : Nat) (t : Tr) (j : Nat) (u : Tr)
def trB (ops : Array Oper) : Tr → Array Bool → Bool
 | .fin, listed => (Region.ready .any ops listed).isEmpty
 | .v hs t, listed => lexF ops (trB ops t) hs listed
 | .e1 i t, listed => decide (Region.ready .any ops listed = [i]) && trB ops t (listed.setIfInBounds i true)
 | .e2 i t j u, listed => decide (Region.ready .any ops listed = [i, j]) && (trB ops t (listed.setIfInBounds i true) && trB ops u (listed.setIfInBounds j true))
def trN : Tr → Nat
 | .fin => 0
 | .v hs t => hs.length + trN t
 | .e1 _ t => trN t + 1
 | .e2 _ t _ _ => trN t + 1
def trC (k : Nat) : Tr → Bool
 | .fin => true
 | .v _ t => trC k t
 | .e1 i t => decide (i < k) && trC k t
 | .e2 i t j u => decide (i < k) && (decide (j < k) && (decide (trN t = trN u) && (trC k t && trC k u)))
def trA (ops : Array Oper) (t : Tr) : Bool := Region.noSelect ops && (decide (trN t = ops.size) && (trC ops.size t && trB ops t (Array.replicate ops.size false)))
def AT (P : Program) (w0 : World) (l : List Oper) (Lw : List Blk) (F : List Blk → Act → Prop) : Tr → List Blk → Act → Prop
 | .fin, L, a => F L a
 | .v hs t, L, a => AH P w0 Lw l.toArray (fun a1 => AT P w0 l Lw F t L a1) (picks l hs) a
 | .e1 i t, L, a => EC P w0 l.toArray [] Lw (fun L1 a1 => AT P w0 l Lw F t L1 a1) [i] L a
 | .e2 i t j u, L, a => EC P w0 l.toArray [] Lw (fun L1 a1 => AT P w0 l Lw F t L1 a1) [i] L a ∧ EC P w0 l.toArray [] Lw (fun L1 a1 => AT P w0 l Lw F u L1 a1) [j] L a
def JT (P : Program) (w0 : World) (n : Nat) (l : List Oper) (Lw : List Blk) (K : Env → List Blk → Prop) : Tr → Env → List Blk → Prop
 | .fin, E, L => K E L
 | .v hs t, E, L => JH P w0 n Lw l.toArray (fun E1 => JT P w0 n l Lw K t E1 L) (picks l hs) E
 | .e1 i t, E, L => JE P w0 n l.toArray Lw (fun E1 L1 => JT P w0 n l Lw K t E1 L1) (picks l [i]) E L
 | .e2 i t j u, E, L => JE P w0 n l.toArray Lw (fun E1 L1 => JT P w0 n l Lw K t E1 L1) (picks l [i]) E L ∧ JE P w0 n l.toArray Lw (fun E1 L1 => JT P w0 n l Lw K u E1 L1) (picks l [j]) E L
theorem ZdU {l : List Oper} {K : Env → List Blk → Prop} {F : List Blk → Act → Prop} (hK : ∀ E L a, Rep n E a → K E L → F L a) : ∀ (t : Tr) (E : Env) (L : List Blk) (a : Act), trC l.length t = true → Rep n E a → JT P w0 n l Lw K t E L → AT P w0 l Lw F t L a
 | .fin, E, L, a, _, ha, h => hK E L a ha h
 | .v hs t, E, L, a, hc, ha, h => Zcv (n := n) (fun E1 a1 ha1 h1 => ZdU hK t E1 L a1 hc ha1 h1) _ _ _ ha h
 | .e1 i t, E, L, a, hc, ha, h => by
  simp only [trC, Wq, decide_eq_true_eq] at hc
  exact ZbO (n := n) (Lj := Lw) (fun E1 L1 a1 ha1 h1 => ZdU hK t E1 L1 a1 hc.2 ha1 h1) [i] E L a (by simpa using hc.1) (fun _ _ => rfl) ha h
 | .e2 i t j u, E, L, a, hc, ha, h => by
  simp only [trC, Wq, decide_eq_true_eq] at hc
  exact ⟨ZbO (n := n) (Lj := Lw) (fun E1 L1 a1 ha1 h1 => ZdU hK t E1 L1 a1 hc.2.2.2.1 ha1 h1) [i] E L a (by simpa using hc.1) (fun _ _ => rfl) ha h.1,
   ZbO (n := n) (Lj := Lw) (fun E1 L1 a1 ha1 h1 => ZdU hK u E1 L1 a1 hc.2.2.2.2 ha1 h1) [j] E L a (by simpa using hc.2.1) (fun _ _ => rfl) ha h.2⟩
theorem Zdc {l : List Oper} {F : List Blk → Act → Prop} (hsel : Region.noSelect l.toArray = true) : ∀ (t : Tr) (listed : Array Bool) (L : List Blk) (a : Act), trC l.length t = true → trB l.toArray t listed = true → Weak w0 Lw L → AT P w0 l Lw F t L a → wpK P w0 l.toArray (List.range l.length) Lw F (trN t) listed [] L a
 | .fin, listed, L, a, _, hB, _, h => ⟨rfl, by simpa [trB] using hB, h⟩
 | .v hs t, listed, L, a, hc, hB, hw, h => Ze1 (k := trB l.toArray t) (G := fun a1 => AT P w0 l Lw F t L a1) (fun listed a1 hb hG => Zdc hsel t listed L a1 hc hb hw hG) hsel hw hs listed a hB h
 | .e1 i t, listed, L, a, hc, hB, hw, h => by
  simp only [trC, Wq, decide_eq_true_eq] at hc
  simp only [trB, Wq, decide_eq_true_eq] at hB
  refine ⟨by rw [hB.1]; simp, fun q hq => ?_⟩
  rw [hB.1, Wo] at hq
  subst hq
  obtain ⟨o, ho, hE⟩ := h
  exact ⟨o, ho, .inr ⟨[], .inr ⟨by simpa using hc.1, rfl⟩, Eff.mono hE fun L' u hw' hK => Zdc hsel t _ _ _ hc.2 hB.2 hw' hK⟩⟩
 | .e2 i t j u, listed, L, a, hc, hB, hw, h => by
  simp only [trC, Wq, decide_eq_true_eq] at hc
  simp only [trB, Wq, decide_eq_true_eq] at hB
  refine ⟨by rw [hB.1]; simp, fun q hq => ?_⟩
  rw [hB.1] at hq
  rcases List.mem_cons.1 hq with h1 | h1
  ·subst h1
   obtain ⟨o, ho, hE⟩ := h.1
   exact ⟨o, ho, .inr ⟨[], .inr ⟨by simpa using hc.1, rfl⟩, Eff.mono hE fun L' u hw' hK => Zdc hsel t _ _ _ hc.2.2.2.1 hB.2.1 hw' hK⟩⟩
  ·rw [Wo] at h1
   subst h1
   obtain ⟨o, ho, hE⟩ := h.2
   refine ⟨o, ho, .inr ⟨[], .inr ⟨by simpa using hc.2.1, rfl⟩, Eff.mono hE fun L' u' hw' hK => ?_⟩⟩
   show wpK P w0 l.toArray (List.range l.length) Lw F (trN t) _ [] L' _
   rw [hc.2.2.1]
   exact Zdc hsel u _ _ _ hc.2.2.2.2 hB.2.2 hw' hK
theorem Zao {id : Nat} {l : List Oper} (t : Tr) (Lw : List Blk) (hm : P.follows .mixedOrders = true := by exact mixed) (hB : trA l.toArray t = true := by kernel_rfl) (hL : Lw.Sublist L := by first | exact Wj _ | exact Wk _ | exact sbl | (repeat (first | exact Wj _ | exact Wk _ | refine List.Sublist.cons_cons _ ?_ | refine List.Sublist.cons _ ?_ | refine List.Sublist.trans ?_ (List.sublist_append_right _ _))))
  (h : JT P w0 n l Lw (fun E2 L2 => JX w0 n .normal Q E2 L2) t E L) : J P w0 n (.region id l.toArray true) Q E L := by
 refine ⟨fun a w ha hw => ?_⟩
 simp only [trA, Wq, decide_eq_true_eq] at hB
 obtain ⟨hsel, hlen, hc, hlex⟩ := hB
 refine wp_region_any hm ?_
 have hc' : trC l.length t = true := by simpa using hc
 have H := Zdc (P := P) (F := fun L a => ∀ w, Own w0 L w → Q .normal a w) hsel t _ L a hc' hlex (Zap hL) (ZdU (n := n) (fun E2 L2 a2 ha2 hx w hw => hx.out a2 w ha2 hw) t E L a hc' ha h)
 have := Zb8 (P := P) (Q := Q) (fun L a w hF hw => hF w hw) _ _ _ _ _ w.drew (hw.to (Ext.drew w)) H
 rw [hlen] at this
 exact this
end
theorem wkX {P Q : Prop} (k : Q) (h : Wr Q → P := by intro hq; simp only [JT, picks, List.getElem?_cons_succ, List.getElem?_cons_zero]; exact hq.out) : P := h ⟨k⟩
end Go.Vt
namespace Go.Vt
open Go.RowKit
section
variable {P : Program} {w0 : World} {n : Nat} {ops : Array Oper} {L : List Blk} {E : Env} {Q Q' : Exit → Act → World → Prop}
theorem ZfG (hq : ∀ e a w, Q e a w → Q' e a w) (h : LetsOut Q) : LetsOut Q' := by
 obtain ⟨a, w, h⟩ := h
 exact ⟨a, w, hq _ _ _ h⟩
theorem ZmV {o : Oper} {a : Act} {w : World} {K K' : Act → World → Prop} (hk : ∀ a w, K a w → K' a w) (hq : ∀ e a w, Q e a w → Q' e a w) (hh : o.wp P a w K Q) : o.wp P a w K' Q' := by
 unfold Oper.wp at *
 generalize (execOp a.eval o).run P w = r at *
 cases r with
 | ok x w' =>
  cases x <;> simp only [Oper.upon] at hh ⊢
  case value v => exact hk _ _ hh
  case skip => exact hk _ _ hh
  case defer d => exact hk _ _ hh
  case enter f args =>
   refine Calls.mono hh fun e w'' he => ?_
   cases e with
   | returned v => exact hk _ _ he
   | panicked c => exact hq _ _ _ he
   | outgrown => exact ZfG hq he
  case row r args => exact Rows.mono hh fun _ _ he => hk _ _ he
 | halt x w' =>
  cases x <;> simp only [Oper.upon] at hh ⊢
  case panic v => exact hq _ _ _ hh
theorem ZdY (hq : ∀ e a w, Q e a w → Q' e a w) : ∀ (l : List Oper) (a : Act) (w : World), wpList P ops Q l a w → wpList P ops Q' l a w
 | [], a, w, h => hq _ _ _ h
 | o :: l, a, w, h => by
  unfold wpList at *
  split
  ·rename_i hw
   rw [if_pos hw] at h
   rcases h with h | h
   ·exact .inl (ZmV (ZdY hq l) hq h)
   ·exact .inr ⟨h.1, ZfG hq h.2⟩
  ·rename_i hw
   rw [if_neg hw] at h
   exact ZdY hq l _ _ h
theorem Zuk {S : Type} (I : S → Prop) (Es : S → Env) (Ls : S → List Blk) {l : List Oper} {y : Code} (h1 : JO P w0 n ops (MidQ w0 n I Es Ls (fun _ _ => True) Q) l E L) (h2 : ∀ s, I s → J P w0 n y Q (Es s) (Ls s)) : JO P w0 n ops (Then P y Q) l E L := ⟨fun a w ha hw => by
 refine ZdY (fun e a' w' hq => ?_) l a w (h1.out a w ha hw)
 cases e with
 | normal => obtain ⟨⟨s, hs, hr, ho⟩, _⟩ := hq; exact (h2 s hs).out a' w' hr ho
 | _ => exact hq⟩
theorem ZjF {id : Nat} (hq : ∀ e a w, Q e a w → Q' e a w) : ∀ e a w, Exit.inBlock id Q e a w → Exit.inBlock id Q' e a w := fun e a w h => by
 cases e with
 | exit j =>
  simp only [Exit.inBlock] at h ⊢
  split
  ·rename_i hj
   rw [if_pos hj] at h
   exact hq _ _ _ h
  ·rename_i hj
   rw [if_neg hj] at h
   exact hq _ _ _ h
 | _ => exact hq _ _ _ h
theorem Zqv {S : Type} {I : S → Prop} {Es : S → Env} {Ls : S → List Blk} {y : Code} (h2 : ∀ s, I s → J P w0 n y Q (Es s) (Ls s)) : ∀ e a w, MidQ w0 n I Es Ls (fun _ _ => True) Q e a w → Then P y Q e a w := fun e a w hq => by
 cases e with
 | normal => obtain ⟨⟨s, hs, hr, ho⟩, _⟩ := hq; exact (h2 s hs).out a w hr ho
 | _ => exact hq
theorem Zu1 {S : Type} {id : Nat} (I : S → Prop) (Es : S → Env) (Ls : S → List Blk) {x y : Code} (h1 : J P w0 n x (Exit.inBlock id (MidQ w0 n I Es Ls (fun _ _ => True) Q)) E L) (h2 : ∀ s, I s → J P w0 n y Q (Es s) (Ls s)) : J P w0 n x (Exit.inBlock id (Then P y Q)) E L := ⟨fun a w ha hw => wp_mono (h1.out a w ha hw) (ZjF (Zqv h2))⟩
end
end Go.Vt
namespace Go.Vt
open Go.RowKit Go.Proofs
open Go.Proofs.Tryz (prog)
theorem SlS.like {α : Type} {enc : α → Array Value} {k : Nat} {xs ys : List α} (s : SlS enc k xs) (h : ys = xs) : ∃ s' : SlS enc k ys, vSl s' = vSl s ∧ ∀ T, mS T s' = mS T s := by
 subst h
 exact ⟨s, rfl, fun _ => rfl⟩
theorem ZbX {P : Program} {S T ty : TypeId} {i : TypeInfo} {p : Option Addr} {n c : Nat} {w : World} (ht : P.underlying S = some (.slice T)) (hi : P.info? T = some i) (h : (p = none ∧ n = 0 ∧ c = 0) ∨ (∃ b, p = some ⟨b, 0, none⟩ ∧ n ≤ c)) :
  (Builtin.append_ #[S, S] ty #[.slice p n c, .slice none 0 0]).run P w = .ok (.slice p n c) w := by
 rcases h with ⟨rfl, rfl, rfl⟩ | ⟨b, rfl, hnc⟩
 ·simp [Builtin.append_, run_underlying ht, sizeOf, typeInfo, hi, Builtin.lenOf, Builtin.firstCells]
 ·simp [Builtin.append_, run_underlying ht, sizeOf, typeInfo, hi, Builtin.lenOf, Builtin.firstCells, hnc, storeCells]
section
variable {P : Program} {w0 : World} {n : Nat} {ops : Array Oper} {L L1 L2 : List Blk} {E : Env}
variable {Q : Exit → Act → World → Prop} {rest : List Oper}
variable {ty : TypeId} {pos : String} {aft : Array Edge} {gd : Option (Nat × Bool)} {t : Tmp} {x y : Operand}
variable {α : Type} {enc : α → Array Value} {S T T2 : TypeId} {k B : Nat} {xs ys : List α} {z : Value} {zc : Array Value} {s : SlS enc k xs} {u : SlS enc k ys}
variable [hx : IsC (evl E x) (vSl s)] [hy : IsC (evl E y) (vSl u)] [hd : OwnS T s L L1] [h2 : OwnS T2 u L L2] [hT : UndC P S (.slice T)] [hz : ZeroC P T z zc] [he : EncC enc k] [hk : SizeC P T k] [hB : BytesC P T B]
include hx hy hd h2 hT hz he hk hB
theorem ZpH (hzk : zc.size = k) (hb : (xs.length + ys.length) * B ≤ 140737488355328 ∧ xs.length + ys.length ≤ 9223372036854775807) (a : Act) (w : World) (ha : Rep n E a) (hw : Own w0 L w) :
  ∃ s' : SlS enc k (xs ++ ys), ∃ w', (execOp a.eval ⟨some t, .call ⟨.builtin .append, #[x, y], #[S, S]⟩, ty, pos, aft, gd⟩).run P w = .ok (.value (vSl s')) w' ∧ Own w0 (mS T s' ++ L1) w' := by
 have hp := hw.perm hd.out
 have hlen : (xs ++ ys).length = xs.length + ys.length := Wp
 rcases u.cases T2 with ⟨rfl, hv2, -⟩ | ⟨b2, c2, sp2, h12, hv2, hm2, hys⟩
 ·obtain ⟨s', e1, e2⟩ := s.like (Wh xs)
  obtain ⟨i, hi, -⟩ := Zbw hk.out
  refine ⟨s', w, ?_, by rw [e2]; exact hp⟩
  rw [e1]
  have hx' : Env.ev E x = some (vSl s) := by rw [← ZaJ, hx.out]
  have hy' : Env.ev E y = some (.slice none 0 0) := by rw [← ZaJ, hy.out, hv2]
  refine ZaH (d := some t) (pos := pos) (aft := aft) (gd := gd) ha hx' hy' ?_
  rcases s.cases T with ⟨-, hv, -⟩ | ⟨b, c, sp, h1, hv, -, -⟩
  ·rw [hv]
   exact ZbX hT.out hi (.inl ⟨rfl, rfl, rfl⟩)
  ·rw [hv]
   exact ZbX hT.out hi (.inr ⟨b, rfl, h1.1⟩)
 ·have hp2 := hw.perm h2.out
  rw [hm2] at hp2
  obtain ⟨fz, hf⟩ : ∃ fz, w.heap[b2]? = some (.cells (row enc ys sp2) T2 fz) := ⟨(0, 0), (hp2.mem _ (.head _)).2⟩
  have hm : 0 < ys.length := List.length_pos_iff.2 hys
  have hne : xs ++ ys ≠ [] := fun h0 => by rw [h0, Wx] at hlen; omega
  have hy' : Env.ev E y = some (.slice (some ⟨b2, 0, none⟩) ys.length c2) := by rw [← ZaJ, hy.out, hv2]
  have hcs : ∀ j v, (rowL enc ys)[j]? = some v → (row enc ys sp2)[0 + j]? = some v := fun j v hv => by
   have hj : j < (rowL enc ys).length := by
    rcases Nat.lt_or_ge j (rowL enc ys).length with h | h
    ·exact h
    ·rw [List.getElem?_eq_none h] at hv; cases hv
   rw [Nat.zero_add, row, List.getElem?_toArray, List.getElem?_append_left hj]
   exact hv
  rcases s.cases T with ⟨rfl, hv, hm0⟩ | ⟨b, c, sp, h1, hv, hm1, -⟩
  ·have hx' : Env.ev E x = some (.slice none 0 0) := by rw [← ZaJ, hx.out, hv]
   rw [hm0, Wg] at hp
   obtain ⟨s, w', hr, ho⟩ := Zc9 (L := L1) (ty := ty) (b2 := b2) (off2 := 0) (m := ys.length) (c2 := c2) (news := rowL enc ys) hT.out hz.out hz.cells hk.out hB.out hzk hp ⟨T2, fz, hf⟩ (by rw [Z9 (k := k)]) hcs hm (by simpa using hb.1) (by simpa using hb.2)
   refine ⟨SlS.at_ s.1.1 s.1.2.1 s.1.2.2 (by rw [Wg]; exact s.2) hne, w', ?_, ho⟩
   have h3 := ZaH (d := some t) (pos := pos) (aft := aft) (gd := gd) ha hx' hy' hr
   rw [h3]
   rfl
  ·have hx' : Env.ev E x = some (.slice (some ⟨b, 0, none⟩) xs.length c) := by rw [← ZaJ, hx.out, hv]
   rw [hm1] at hp
   obtain ⟨s, w', hr, ho⟩ := Zeg (L1 := L1) (ty := ty) (b := b) (len := xs.length) (c := c) (b2 := b2) (off2 := 0) (m := ys.length) (c2 := c2) (xs := rowL enc xs) (sp := sp) (news := rowL enc ys) hT.out hz.out hz.cells hk.out hB.out hzk hp (.refl _) (Z9 xs) h1.2 h1.1 ⟨T2, fz, hf⟩ (by rw [Z9 (k := k)]) hcs (Zcz ys) hb.1 hb.2
   refine ⟨SlS.at_ s.1.1 s.1.2.1 s.1.2.2 (by rw [hlen]; exact s.2) hne, w', ?_, ?_⟩
   ·have h3 := ZaH (d := some t) (pos := pos) (aft := aft) (gd := gd) ha hx' hy' hr
    rw [h3]
    show _ = Result.ok (Next.value (Value.slice _ (xs ++ ys).length _)) w'
    rw [hlen]
   ·show Own w0 (⟨s.1.1, row enc (xs ++ ys) s.1.2.2, T⟩ :: L1) w'
    rw [row, Zbi]
    exact ho
theorem sV (hg : guardB ops E gd = some true) (hd' : Nat.blt t n = true) (hzk : zc.size = k) (hb : (xs.length + ys.length) * B ≤ 140737488355328 ∧ xs.length + ys.length ≤ 9223372036854775807)
  (h : ∀ s' : SlS enc k (xs ++ ys), JO P w0 n ops Q rest ((t, vSl s') :: E) (mS T s' ++ L1)) : JO P w0 n ops Q (⟨some t, .call ⟨.builtin .append, #[x, y], #[S, S]⟩, ty, pos, aft, gd⟩ :: rest) E L :=
 Zcs (L' := SlS enc k (xs ++ ys)) (o := ⟨some t, .call ⟨.builtin .append, #[x, y], #[S, S]⟩, ty, pos, aft, gd⟩) hg hd' (fun s => vSl s) (fun s => mS T s ++ L1)
  (fun a w ha hw => by
   obtain ⟨s, w', hr, ho⟩ := ZpH (hx := hx) (hy := hy) (hd := hd) (h2 := h2) (hT := hT) (hz := hz) (he := he) (hk := hk) (hB := hB) hzk hb a w ha hw
   exact ⟨s, w', .inl hr, ho⟩) h
end
end Go.Vt
namespace Go.Vt
open Go.RowKit
class SbpC (A L : List Blk) : Prop where
 out : ∃ L', L.Perm (A ++ L')
instance sbpNil (L : List Blk) : SbpC [] L := ⟨L, .refl _⟩
instance sbpCons (b : Nat) (cs : Array Value) (T : TypeId) (A L L1 : List Blk) [h : DelC b L cs T L1] [k : SbpC A L1] : SbpC (⟨b, cs, T⟩ :: A) L := ⟨by
 obtain ⟨L', hp⟩ := k.out
 exact ⟨L', h.out.trans (hp.cons _)⟩⟩
theorem ZfW {w0 : World} {n : Nat} {Q : Exit → Act → World → Prop} {E : Env} {L : List Blk} {S : Type} {I : S → Prop} {Es : S → Env} {Ls : S → List Blk} (s : S) (hs : I s) (hE : Sub E (Es s)) (hL : SbpC (Ls s) L) : JX w0 n .normal (MidQ w0 n I Es Ls (fun _ _ => True) Q) E L := ⟨fun a w ha hw => by
 obtain ⟨L', hp⟩ := hL.out
 exact (ZL (L := Ls s ++ L') s hs hE (List.sublist_append_left _ _)).out a w ha (hw.perm hp)⟩
end Go.Vt
namespace Go.Vt
open Go.RowKit
open Go.ChangeMaps (setBlock)
section
variable {κ α : Type} [DecidableEq κ]
def entL (ek : κ → Value) (ev : α → Value) : Nat → List (κ × α) → List MapEntry
 | _, [] => []
 | i, p :: l => { key := ek p.1, val := ev p.2, born := i } :: entL ek ev (i + 1) l
def mapO (ek : κ → Value) (ev : α → Value) (l : List (κ × α)) : Obj := .map (entL ek ev 0 l).toArray l.length
def itO (b n : Nat) (seen : List Nat) : Obj := .mapIter (some b) n seen.toArray n
def mget : List (κ × α) → κ → Option α
 | [], _ => none
 | p :: l, x => if x = p.1 then some p.2 else mget l x
def mput : List (κ × α) → κ → α → List (κ × α)
 | [], x, v => [(x, v)]
 | p :: l, x, v => if x = p.1 then (x, v) :: l else p :: mput l x v
def fnd (ev : α → Value) : List (κ × α) → κ → Nat → Option (Nat × Value)
 | [], _, _ => none
 | p :: l, x, i => if x = p.1 then some (i, ev p.2) else fnd ev l x (i + 1)
variable {ek : κ → Value} {ev : α → Value}
theorem Zbn : ∀ (l : List (κ × α)) (i : Nat), (entL ek ev i l).length = l.length
 | [], _ => rfl
 | _ :: l, i => congrArg Nat.succ (Zbn l (i + 1))
theorem Za2 : ∀ (l : List (κ × α)) (i j : Nat) (h : j < l.length), (entL ek ev i l)[j]? = some { key := ek l[j].1, val := ev l[j].2, born := i + j }
 | _ :: l, i, 0, _ => rfl
 | _ :: l, i, j + 1, h => by
  have := Za2 l (i + 1) j (by simpa using h)
  simp only [entL, List.getElem?_cons_succ, this, List.getElem_cons_succ, Option.some.injEq, MapEntry.mk.injEq, true_and]
  omega
theorem Zfi (p : κ × α) : ∀ (l : List (κ × α)) (i : Nat), entL ek ev i (l ++ [p]) = entL ek ev i l ++ [{ key := ek p.1, val := ev p.2, born := i + l.length }]
 | [], i => rfl
 | q :: l, i => by
  have := Zfi p l (i + 1)
  simp only [Wf, entL, this, Wu, List.cons.injEq, true_and]
  rw [show i + 1 + l.length = i + (l.length + 1) by omega]
theorem Zdx : ∀ {l : List (κ × α)} {x : κ} {i : Nat}, fnd ev l x i = none → mget l x = none ∧ ∀ v, mput l x v = l ++ [(x, v)]
 | [], _, _, _ => ⟨rfl, fun _ => rfl⟩
 | p :: l, x, i, h => by
  simp only [fnd] at h
  split at h
  ·cases h
  ·rename_i hx
   obtain ⟨h1, h2⟩ := Zdx h
   exact ⟨by simp [mget, hx, h1], fun v => by simp [mput, hx, h2 v]⟩
theorem ZdK : ∀ {l : List (κ × α)} {x : κ} {i j : Nat} {u : Value}, fnd ev l x i = some (j, u) → ∃ k, ∃ h : k < l.length, j = i + k ∧ l[k].1 = x ∧ mget l x = some l[k].2 ∧ u = ev l[k].2 ∧ ∀ v, mput l x v = l.set k (x, v)
 | p :: l, x, i, j, u, h => by
  simp only [fnd] at h
  split at h
  ·rename_i hx
   simp only [Option.some.injEq, Prod.mk.injEq] at h
   exact ⟨0, by simp, by omega, hx.symm, by simp [mget, hx], h.2.symm, fun v => by simp [mput, hx]⟩
  ·rename_i hx
   obtain ⟨k, hk, h1, h2, h3, h4, h5⟩ := ZdK h
   exact ⟨k + 1, by simpa using hk, by omega, by simpa using h2, by simp [mget, hx, h3], by simpa using h4, fun v => by simp [mput, hx, h5 v]⟩
end
@[reducible] def kA {κ : Type} (enc : κ → Array Value) (z : κ) : Value := .agg (enc z)
class KeyC {κ : Type} [DecidableEq κ] (P : Program) (K : TypeId) (ek : κ → Value) : Prop where
 chk : ∀ (e : Bool) (x : κ) (w : World), (Instr.checkKey e 10000 K (ek x)).run P w = .ok () w
 same : ∀ x : κ, Instr.sameBits 10000 (ek x) (ek x) = true
 find : ∀ {α : Type} (ev : α → Value) (l : List (κ × α)) (x : κ) (w : World), (Instr.findKey K (ek x) (entL ek ev 0 l)).run P w = .ok (fnd ev l x 0) w
section
variable {P : Program} {κ α : Type} [DecidableEq κ] {ek : κ → Value} {ev : α → Value} {K : TypeId}
theorem ZjU (heq : ∀ (x y : κ) (w : World), (Op.equal K (ek x) (ek y)).run P w = .ok (decide (x = y)) w) (x : κ) (w : World) : ∀ (l : List (κ × α)) (i j : Nat), (Instr.findAsking K (ek x) (entL ek ev i l) j).run P w = .ok (fnd ev l x j) w
 | [], _, _ => rfl
 | p :: l, i, j => by
  simp only [entL, Instr.findAsking, fnd, Sem.run_bind, heq, Result.andThen]
  by_cases h : x = p.1
  ·simp [h]
  ·simp only [h, decide_false, Bool.false_eq_true, if_false]
   exact ZjU heq x w l (i + 1) (j + 1)
theorem Zef {fs : Array Field} (hu : P.underlying K = some (.struct fs)) (heq : ∀ (x y : κ) (w : World), (Op.equal K (ek x) (ek y)).run P w = .ok (decide (x = y)) w) {α : Type} (ev : α → Value) (l : List (κ × α)) (x : κ) (w : World) : (Instr.findKey K (ek x) (entL ek ev 0 l)).run P w = .ok (fnd ev l x 0) w := by
 have hr := ZjU (ev := ev) heq x w l 0 0
 unfold Instr.findKey
 simp only [Sem.run_bind, run_underlying hu, Result.andThen]
 cases l with
 | nil => rfl
 | cons p l => exact hr
theorem Zgi (k : IntKind) (x : Int) {α : Type} (ev : α → Value) : ∀ (l : List (Int × α)) (i j : Nat), Instr.findNow (.int k) (.int k x) (entL (Value.int k) ev i l) j = some (fnd ev l x j)
 | [], _, _ => rfl
 | p :: l, i, j => by
  have ih := Zgi k x ev l (i + 1) (j + 1)
  by_cases h : x = p.1
  ·simp [entL, Instr.findNow, Instr.sameNow, fnd, h]
  ·have hb : (x == p.1) = false := by simpa using h
   simp only [entL, Instr.findNow, Instr.sameNow, if_true, hb, fnd, if_neg h, ih]
theorem ZqT {k : IntKind} (hu : P.underlying K = some (.int k)) : KeyC P K (Value.int k) where
 chk e x w := by
  unfold Instr.checkKey
  simp [Sem.run_bind, run_underlying hu, Result.andThen]
 same x := by simp [Instr.sameBits]
 find ev l x w := by
  unfold Instr.findKey
  simp only [Sem.run_bind, run_underlying hu, Result.andThen, Zgi]
  rfl
theorem Ze4 {enc : κ → Array Value} (h : ∀ (x y : κ) (w : World), (binOp .eql K (.agg (enc x)) (.agg (enc y))).run P w = .ok (.bool (decide (x = y))) w) (x y : κ) (w : World) : (Op.equal K (kA enc x) (kA enc y)).run P w = .ok (decide (x = y)) w := by
 have h := h x y w
 simp only [binOp, Sem.run_bind] at h
 cases hq : (Op.equal K (kA enc x) (kA enc y)).run P w with
 | ok r w' =>
  rw [hq] at h
  simp only [Result.andThen, Sem.run_pure, Result.ok.injEq, Value.bool.injEq] at h
  rw [h.1, h.2]
 | halt e w' =>
  rw [hq] at h
  cases h
theorem Zh0 (n : Nat) : ∀ l : List Value, (∀ v ∈ l, Instr.sameBits n v v = true) → (l.zip l).all (fun p => Instr.sameBits n p.1 p.2) = true
 | [], _ => rfl
 | v :: l, h => by
  rw [List.zip_cons_cons, List.all_cons, h v (.head _), Zh0 n l fun u hu => h u (.tail _ hu)]
  rfl
def flatV : Value → Bool
 | .bool _ => true
 | .int _ _ => true
 | _ => false
theorem Zfq {enc : κ → Array Value} (h : ∀ x, (enc x).toList.all flatV = true) (x : κ) : Instr.sameBits 10000 (kA enc x) (kA enc x) = true := by
 have h1 : ∀ v ∈ (enc x).toList, Instr.sameBits 9999 v v = true := fun v hv => by
  have := List.all_eq_true.1 (h x) v hv
  cases v <;> simp [flatV] at this <;> simp [Instr.sameBits]
 show ((enc x).size == (enc x).size && ((enc x).toList.zip (enc x).toList).all (fun p => Instr.sameBits 9999 p.1 p.2)) = true
 rw [Zh0 9999 _ h1]
 simp
end
section
variable {P : Program} {κ α : Type} [DecidableEq κ] {ek : κ → Value} {ev : α → Value} {K T V : TypeId} {w : World} {b r : Nat} {l : List (κ × α)} {seen : List Nat}
theorem Zqh (hT : P.underlying T = some (.map K V)) (hb : w.heap[b]? = some (mapO ek ev l)) (ty : TypeId) : (Builtin.len_ #[T] ty #[.map (some b)]).run P w = .ok (.int .i64 l.length) w := by
 have hg : (getObj b).run P w = .ok (.map (entL ek ev 0 l).toArray l.length) w := by simp [getObj, Sem.run, hb, mapO]
 simp [Builtin.len_, Sem.run_bind, run_underlying hT, Result.andThen, hg, goInt, Zbn]
theorem Znl (hT : P.underlying T = some (.map K V)) [hk : KeyC P K ek] {z0 : α} (hz : ∀ w, (zeroValue V).run P w = .ok (ev z0) w) (hb : w.heap[b]? = some (mapO ek ev l)) (x : κ) (ok : Bool) :
  (Instr.lookup T (.map (some b)) (ek x) ok).run P w = .ok (if ok then .tuple #[ev ((mget l x).getD z0), .bool (mget l x).isSome] else ev ((mget l x).getD z0)) w := by
 have hg : (getObj b).run P w = .ok (.map (entL ek ev 0 l).toArray l.length) w := by simp [getObj, Sem.run, hb, mapO]
 unfold Instr.lookup
 simp only [Sem.run_bind, run_underlying hT, Result.andThen, hg, Sem.run_pure, hk.chk, hk.find]
 cases hf : fnd ev l x 0 with
 | none =>
  obtain ⟨h1, _⟩ := Zdx hf
  simp [h1, hz, Sem.run_bind, Result.andThen]
 | some q =>
  obtain ⟨j, u⟩ := q
  obtain ⟨k, hk', h1, h2, h3, h4, _⟩ := ZdK hf
  simp [h3, h4, Sem.run_bind, Result.andThen]
theorem Zgo (hT : P.underlying T = some (.map K V)) [hk : KeyC P K ek] (hb : w.heap[b]? = some (mapO ek ev l)) (x : κ) (v : α) :
  (Instr.mapUpdate T (.map (some b)) (ek x) (ev v)).run P w = .ok () (setBlock w b (mapO ek ev (mput l x v))) := by
 have hg : (getObj b).run P w = .ok (.map (entL ek ev 0 l).toArray l.length) w := by simp [getObj, Sem.run, hb, mapO]
 have hs : ∀ o, (setObj b o).run P w = .ok () (setBlock w b o) := fun o => by simp [setObj, Sem.run, hb, setBlock, mapO]
 unfold Instr.mapUpdate
 simp only [Sem.run_bind, run_underlying hT, Result.andThen, hg, hk.chk, hk.find]
 cases hf : fnd ev l x 0 with
 | none =>
  obtain ⟨_, h2⟩ := Zdx hf
  simp only [h2 v, hs, mapO, Zfi, Nat.zero_add, Wp, Wu, Wx]
  congr 2
  simp
 | some q =>
  obtain ⟨j, u⟩ := q
  obtain ⟨k, hk', h1, h2, h3, h4, h5⟩ := ZdK hf
  have hj : j = k := by omega
  subst hj
  have hkey : (((entL ek ev 0 l).toArray[j]?).map (·.key)).getD (ek x) = ek x := by
   rw [List.getElem?_toArray, Za2 l 0 j hk']
   simp [h2]
  have hst : (Instr.keyThatStays (ek x) (ek x)).run P w = .ok (ek x) w := by
   unfold Instr.keyThatStays
   rw [if_pos (hk.same x)]
   rfl
  simp only [Sem.run_bind, hkey, hst, Result.andThen, hs, h5 v, mapO, List.length_set]
  congr 3
  apply Array.ext_getElem?
  intro i
  rw [Array.getElem?_modify, List.getElem?_toArray, List.getElem?_toArray]
  rcases Nat.lt_or_ge i l.length with hi | hi
  ·rw [Za2 l 0 i hi, Za2 (l.set j (x, v)) 0 i (by simpa using hi)]
   by_cases hij : j = i
   ·subst hij
    simp
   ·simp [hij, List.getElem_set_ne hij]
  ·rw [List.getElem?_eq_none (by rw [Zbn]; exact hi), List.getElem?_eq_none (by rw [Zbn, List.length_set]; exact hi)]
   simp
theorem ZmA (hT : P.underlying T = some (.map K V)) (hb : w.heap[b]? = some (mapO ek ev l)) : (Instr.range T (.map (some b))).run P w = .ok (.pointer (some ⟨w.heap.size, 0, none⟩)) (w.alloc (itO b l.length [])) := run_range_map w T K V b _ _ hT hb
theorem Zh6 (hr : w.heap[r]? = some (itO b l.length seen)) (hb : w.heap[b]? = some (mapO ek ev l)) (ty : TypeId) :
  ((∀ i, i < l.length → i ∈ seen) ∧ (Instr.next (.pointer (some ⟨r, 0, none⟩)) false ty).run P w = .ok (.tuple #[.bool false]) w) ∨
  ∃ i, ∃ h : i < l.length, i ∉ seen ∧ ∃ w1 : World, (w1 = w ∨ w1 = w.drew) ∧ (Instr.next (.pointer (some ⟨r, 0, none⟩)) false ty).run P w = .ok (.tuple #[.bool true, ek l[i].1, ev l[i].2]) (setBlock w1 r (itO b l.length (seen ++ [i]))) := by
 have hm : ∀ e ∈ entL ek ev 0 l, ∃ i, ∃ h : i < l.length, e = { key := ek l[i].1, val := ev l[i].2, born := i } := fun e he => by
  obtain ⟨i, hi, rfl⟩ := List.getElem_of_mem he
  rw [Zbn] at hi
  refine ⟨i, hi, ?_⟩
  have := Za2 (ek := ek) (ev := ev) l 0 i hi
  rw [List.getElem?_eq_getElem (by rw [Zbn]; exact hi), Nat.zero_add] at this
  exact Option.some.inj this
 rcases run_next_at (P := P) w ty r b l.length l.length seen.toArray (entL ek ev 0 l).toArray l.length hr hb (fun e he => by obtain ⟨i, hi, rfl⟩ := hm e he; exact hi) (Wl _) with ⟨h1, h2⟩ | ⟨e, he, w1, hw1, h2⟩
 ·refine .inl ⟨fun i hi => ?_, h2⟩
  have h0 : leftOf (entL ek ev 0 l).toArray seen.toArray = #[] := Array.eq_empty_of_size_eq_zero h1
  unfold leftOf at h0
  rw [Array.filter_eq_empty_iff] at h0
  have := h0 { key := ek l[i].1, val := ev l[i].2, born := i } (by
   have := List.mem_of_getElem? (Za2 (ek := ek) (ev := ev) l 0 i hi)
   simpa using this)
  simpa using this
 ·have hl : e ∈ entL ek ev 0 l ∧ e.born ∉ seen := by
   unfold leftOf at he
   simpa using he
  obtain ⟨i, hi, rfl⟩ := hm e hl.1
  refine .inr ⟨i, hi, hl.2, w1, hw1, ?_⟩
  rw [h2]
  congr 2
  simp [itO]
theorem Zmz {i : Nat} (hr : w.heap[r]? = some (itO b l.length (seen ++ [i]))) (hb : w.heap[b]? = some (mapO ek ev l)) (hi : i < l.length) : (Instr.entry (.pointer (some ⟨r, 0, none⟩))).run P w = .ok (.tuple #[ek l[i].1, ev l[i].2]) w := by
 have hg := Za2 (ek := ek) (ev := ev) l 0 i hi
 rw [Nat.zero_add] at hg
 have hnd : ∀ (l : List (κ × α)) (j : Nat), ((entL ek ev j l).map (·.born)).Nodup ∧ ∀ x ∈ (entL ek ev j l).map (·.born), j ≤ x := by
  intro l
  induction l with
  | nil => intro j; simp [entL]
  | cons p l ih =>
   intro j
   obtain ⟨h1, h2⟩ := ih (j + 1)
   simp only [entL, List.map_cons, List.nodup_cons, Ww]
   refine ⟨⟨fun hm => ?_, h1⟩, fun x hx => ?_⟩
   ·have := h2 _ hm
    omega
   ·rcases hx with rfl | hx
    ·exact Wl _
    ·have := h2 x hx; omega
 have h := run_entry_at (P := P) w r b l.length seen.toArray (entL ek ev 0 l).toArray l.length { key := ek l[i].1, val := ev l[i].2, born := i } (by
  rw [hr]
  simp [itO]) hb (List.mem_of_getElem? hg) (hnd l 0).1
 exact h
end
class MemO (b : Nat) (L : List Blk) (o : outParam Obj) (T : outParam TypeId) : Prop where
 out : (⟨b, .obj o, T⟩ : Blk) ∈ L
instance (priority := high) memOHere (b : Nat) (L : List Blk) (o : Obj) (T : TypeId) : MemO b (⟨b, .obj o, T⟩ :: L) o T := ⟨.head _⟩
instance (priority := low) memOThere (b : Nat) (e : Blk) (L : List Blk) (o : Obj) (T : TypeId) [h : MemO b L o T] : MemO b (e :: L) o T := ⟨.tail _ h.out⟩
instance (priority := low) memOSkip (b : Nat) (A L : List Blk) (o : Obj) (T : TypeId) [h : MemO b L o T] : MemO b (A ++ L) o T := ⟨List.mem_append_right _ h.out⟩
class UpdO (b : Nat) (o' : Obj) (L : List Blk) (o : outParam Obj) (T : outParam TypeId) (L' : outParam (List Blk)) : Prop where
 out : Upd b (.obj o) T (.obj o') L L'
instance (priority := high) updOHere (b : Nat) (o' : Obj) (L : List Blk) (o : Obj) (T : TypeId) : UpdO b o' (⟨b, .obj o, T⟩ :: L) o T (⟨b, .obj o', T⟩ :: L) := ⟨.here⟩
instance (priority := low) updOThere (b : Nat) (o' : Obj) (e : Blk) (L L' : List Blk) (o : Obj) (T : TypeId) [h : UpdO b o' L o T L'] : UpdO b o' (e :: L) o T (e :: L') := ⟨.there h.out⟩
theorem Zl9 {b : Nat} {cs cs' : Cs} {T : TypeId} {L L' : List Blk} (h : Upd b cs T cs' L L') : ∀ A : List Blk, Upd b cs T cs' (A ++ L) (A ++ L')
 | [] => h
 | _ :: A => .there (Zl9 h A)
instance (priority := low) updOSkip (b : Nat) (o' : Obj) (A L L' : List Blk) (o : Obj) (T : TypeId) [h : UpdO b o' L o T L'] : UpdO b o' (A ++ L) o T (A ++ L') := ⟨Zl9 h.out A⟩
class FoO (w0 : World) (b : Nat) (o : outParam Obj) : Prop where
 out : w0.heap[b]? = some o
class AtO (w0 : World) (L : List Blk) (b : Nat) (o : outParam Obj) : Prop where
 out : ∀ w, Own w0 L w → w.heap[b]? = some o
instance (priority := high) atOMem (w0 : World) (L : List Blk) (b : Nat) (o : Obj) (T : TypeId) [h : MemO b L o T] : AtO w0 L b o := ⟨fun _ hw => (hw.mem _ h.out).2⟩
instance (priority := low) atOFo (w0 : World) (L : List Blk) (b : Nat) (o : Obj) [h : FoO w0 b o] : AtO w0 L b o := ⟨fun w hw => by
 rw [hw.ext.block b (Zp h.out)]
 exact h.out⟩
class KeyV {κ : Type} (ek : κ → Value) (kv : Value) (k0 : outParam κ) : Prop where
 out : kv = ek k0
instance keyVA {κ : Type} (enc : κ → Array Value) (z : κ) : KeyV (kA enc) (.agg (enc z)) z := ⟨rfl⟩
instance keyVI (k : IntKind) (z : Int) : KeyV (Value.int k) (.int k z) z := ⟨rfl⟩
instance keyVB (z : Bool) : KeyV Value.bool (.bool z) z := ⟨rfl⟩
class ZeV {α : Type} (P : Program) (V : TypeId) (ev : α → Value) (z : outParam α) : Prop where
 out : ∀ w, (zeroValue V).run P w = .ok (ev z) w
theorem Zjt {α : Type} {P : Program} {V : TypeId} {ev : α → Value} {z : α} (h : (P.info? V).bind (·.zero) = some (ev z)) : ZeV P V ev z := ⟨fun w => by
 cases hi : P.info? V with
 | none => simp [hi] at h
 | some i =>
  have hz : i.zero = some (ev z) := by simpa [hi] using h
  simp [zeroValue, typeInfo, hi, hz]⟩
instance zeVB {P : Program} {V : TypeId} {cs : Array Value} [h : ZeroC P V (.bool false) cs] : ZeV P V Value.bool false := Zjt h.out
instance zeVI {P : Program} {V : TypeId} {k : IntKind} {cs : Array Value} [h : ZeroC P V (.int k 0) cs] : ZeV P V (Value.int k) 0 := Zjt h.out
class MapT {κ α : outParam Type} (P : Program) (T : TypeId) (ek : outParam (κ → Value)) (ev : outParam (α → Value)) : Prop where
 out : True
theorem Zb4 {w : World} {b : Nat} {o : Obj} (h : w.heap[b]? = some o) (o' : Obj) : TurnedO b o' w (setBlock w b o') :=
 ⟨rfl, rfl, rfl, by simp [setBlock], rfl, fun j hj => by simp [setBlock, Array.getElem?_setIfInBounds_ne (Ne.symm hj)], by simp [setBlock, Zp h]⟩
section
variable {P : Program} {w0 : World} {n : Nat} {ops : Array Oper} {L L' : List Blk} {E : Env}
variable {Q : Exit → Act → World → Prop} {rest : List Oper} {v : Value}
variable {d : Option Tmp} {ty : TypeId} {pos : String} {aft : Array Edge} {gd : Option (Nat × Bool)} {t : Tmp}
variable {x y k : Operand} {T T0 K V : TypeId} {b r : Nat}
variable {κ α : Type} [DecidableEq κ] {ek : κ → Value} {ev : α → Value} {l : List (κ × α)} {seen : List Nat}
instance ZEc [hx : IsC (evl E x) (.map (some b))] [hb : AtO w0 L b (mapO ek ev l)] [hT : UndC P T (.map K V)] : YlC P w0 n L E (.call ⟨.builtin .len, #[x], #[T]⟩) (.int .i64 l.length) := ⟨fun d ty pos aft gd => ⟨fun a w ha hw => by
 have h2 := Zqh (P := P) hT.out (hb.out w hw) ty
 unfold calm
 have h1 : ∀ cs : Array Bool, (builtin .len #[T] ty cs #[.map (some b)]).run P w = .ok (.value (.int .i64 l.length)) w := fun cs => by
  show Sem.run P (do pure (Next.value (← Builtin.len_ #[T] ty #[.map (some b)])) : Sem Next) w = _
  rw [Sem.run_bind, h2]
  rfl
 have e : (execOp a.eval ⟨d, .call ⟨.builtin .len, #[x], #[T]⟩, ty, pos, aft, gd⟩).run P w = .ok (.value (.int .i64 l.length)) w := by
  simp only [execOp, resolve, Sem.run_bind, Sem.run_pure, Result.andThen, invoke, List.map_toArray, List.map_cons, List.map_nil, ha.ev isE]
  exact h1 _
 rw [e]
 exact ⟨rfl, Ext.refl _⟩⟩⟩
theorem Zkd {kv : Value} {k0 : κ} {z0 : α} [hx : IsC (evl E x) (.map (some b))] [hy : IsC (evl E y) kv] [hb : AtO w0 L b (mapO ek ev l)] [hT : UndC P T (.map K V)] [hK : KeyC P K ek] [hk : KeyV ek kv k0] [hz : ZeV P V ev z0] (ok : Bool) :
  Yl P w0 n L E ⟨d, .lookup T x y ok, ty, pos, aft, gd⟩ (if ok then .tuple #[ev ((mget l k0).getD z0), .bool (mget l k0).isSome] else ev ((mget l k0).getD z0)) :=
 Zay (fun _ => Instr.lookup T (.map (some b)) (ek k0) ok) (fun a ha => by
  have e1 := ha.ev (isE (h := hx))
  have e2 := ha.ev (isE (h := hy))
  simp only [execOp, e1, e2, hk.out]) (fun a w _ hw => Znl hT.out hz.out (hb.out w hw) k0 ok)
instance ZBO {kv : Value} {k0 : κ} {z0 : α} [hx : IsC (evl E x) (.map (some b))] [hy : IsC (evl E y) kv] [hb : AtO w0 L b (mapO ek ev l)] [hT : UndC P T (.map K V)] [hK : KeyC P K ek] [hk : KeyV ek kv k0] [hz : ZeV P V ev z0] : YlC P w0 n L E (.lookup T x y true) (.tuple #[ev ((mget l k0).getD z0), .bool (mget l k0).isSome]) := ⟨fun _ _ _ _ _ => Zkd true⟩
instance ZCC {kv : Value} {k0 : κ} {z0 : α} [hx : IsC (evl E x) (.map (some b))] [hy : IsC (evl E y) kv] [hb : AtO w0 L b (mapO ek ev l)] [hT : UndC P T (.map K V)] [hK : KeyC P K ek] [hk : KeyV ek kv k0] [hz : ZeV P V ev z0] : YlC P w0 n L E (.lookup T x y false) (ev ((mget l k0).getD z0)) := ⟨fun _ _ _ _ _ => Zkd false⟩
instance ZDD [Inhabited (κ × α)] {m i : Nat} [hx : IsC (evl E x) (.pointer (some ⟨r, 0, none⟩))] [hr : AtO w0 L r (itO b m (seen ++ [i]))] [hb : AtO w0 L b (mapO ek ev l)] : YsC P w0 n L E (.entry x) (.tuple #[ek (gi l (i : Int)).1, ev (gi l (i : Int)).2]) (l.length = m ∧ i < m) := ⟨fun hs _ _ _ _ _ =>
 Zay (fun _ => Instr.entry (.pointer (some ⟨r, 0, none⟩))) (fun a ha => by
  have e1 := ha.ev (isE (h := hx))
  simp only [execOp, e1]) (fun a w _ hw => by
  obtain ⟨rfl, hi⟩ := hs
  rw [Zk hi]
  exact Zmz (hr.out w hw) (hb.out w hw) hi)⟩
instance ZDd {a : Addr} {e : TypeId} [hT : UndC P T (.pointer e)] : BinC P .eql T (.pointer (some a)) (.pointer none) (.bool false) := ⟨fun _ _ _ => by simp [eqGuard], fun w => by
 have h : ∀ d, (Op.equalIn (d + 1) T (.pointer (some a)) (.pointer none)).run P w = .ok false w := fun d => by
  unfold Op.equalIn
  simp only [Sem.run_bind, run_underlying hT.out, Result.andThen]
  rfl
 have h2 : (Op.equal T (.pointer (some a)) (.pointer none)).run P w = .ok false w := h 9999
 show (do pure (Value.bool (← Op.equal T (.pointer (some a)) (.pointer none))) : Sem Value).run P w = _
 rw [Sem.run_bind, h2]
 rfl⟩
theorem sMm [hm : MapT P T ek ev] (hg : guardB ops E gd = some true) (hd : Nat.blt t n = true) (h : ∀ b, JO P w0 n ops Q rest ((t, .map (some b)) :: E) (⟨b, .obj (mapO ek ev []), T⟩ :: L)) : JO P w0 n ops Q (⟨some t, .makeMap T none, ty, pos, aft, gd⟩ :: rest) E L :=
 Zcs (L' := Nat) (o := ⟨some t, .makeMap T none, ty, pos, aft, gd⟩) hg hd (fun b => .map (some b)) (fun b => ⟨b, .obj (mapO ek ev []), T⟩ :: L) (fun a w ha hw => ⟨w.heap.size, w.alloc (.map #[] 0), .inl (by simp [execOp, Instr.makeMap, newObj, Sem.run]), hw.allocO _ _⟩) h
theorem sRg [hx : IsC (evl E x) (.map (some b))] [hb : AtO w0 L b (mapO ek ev l)] [hT : UndC P T (.map K V)] (hg : guardB ops E gd = some true) (hd : Nat.blt t n = true) (h : ∀ r, JO P w0 n ops Q rest ((t, .pointer (some ⟨r, 0, none⟩)) :: E) (⟨r, .obj (itO b l.length []), T⟩ :: L)) : JO P w0 n ops Q (⟨some t, .range T x, ty, pos, aft, gd⟩ :: rest) E L :=
 Zcs (L' := Nat) (o := ⟨some t, .range T x, ty, pos, aft, gd⟩) hg hd (fun r => .pointer (some ⟨r, 0, none⟩)) (fun r => ⟨r, .obj (itO b l.length []), T⟩ :: L) (fun a w ha hw => ⟨w.heap.size, w.alloc (itO b l.length []), .inl (by
  have e1 := ha.ev (isE (h := hx))
  simp only [execOp, e1, Sem.run_bind, ZmA hT.out (hb.out w hw), Result.andThen, Sem.run_pure]), hw.allocO _ _⟩) h
theorem sMu {kv yv : Value} {k0 : κ} {v0 : α} [hx : IsC (evl E x) (.map (some b))] [hk : IsC (evl E k) kv] [hy : IsC (evl E y) yv] [hm : MemO b L (mapO ek ev l) T0] [hT : UndC P T (.map K V)] [hK : KeyC P K ek] [hkv : KeyV ek kv k0] [hyv : KeyV ev yv v0] [hu : UpdO b (mapO ek ev (mput l k0 v0)) L (mapO ek ev l) T0 L'] (hg : guardB ops E gd = some true)
  (h : JO P w0 n ops Q rest E L') : JO P w0 n ops Q (⟨none, .mapUpdate T x k y, ty, pos, aft, gd⟩ :: rest) E L :=
 Zcs (L' := Unit) (o := ⟨none, .mapUpdate T x k y, ty, pos, aft, gd⟩) hg rfl (fun _ => undef) (fun _ => L') (fun a w ha hw => by
  have e1 := ha.ev (isE (h := hx))
  have e2 := ha.ev (isE (h := hk))
  have e3 := ha.ev (isE (h := hy))
  have hb := (hw.mem _ hm.out).2
  refine ⟨(), _, .inr ⟨?_, rfl⟩, hw.turnO hu.out (Zb4 hb (mapO ek ev (mput l k0 v0)))⟩
  simp only [execOp, e1, e2, e3, hkv.out, hyv.out, Sem.run_bind, Zgo hT.out hb, Result.andThen, Sem.run_pure]) (fun _ => h)
theorem sNx {m : Nat} {L1 : Nat → List Blk} [hx : IsC (evl E x) (.pointer (some ⟨r, 0, none⟩))] [hr : MemO r L (itO b m seen) T0] [hb : AtO w0 L b (mapO ek ev l)] [hu : ∀ i, UpdO r (itO b m (seen ++ [i])) L (itO b m seen) T0 (L1 i)] (hg : guardB ops E gd = some true) (hd : Nat.blt t n = true) (hl : l.length = m)
  (h0 : (∀ i, i < m → i ∈ seen) → JO P w0 n ops Q rest ((t, .tuple #[.bool false]) :: E) L)
  (h1 : ∀ i, (hi : i < l.length) → i ∉ seen → JO P w0 n ops Q rest ((t, .tuple #[.bool true, ek l[i].1, ev l[i].2]) :: E) (L1 i)) : JO P w0 n ops Q (⟨some t, .next x false, ty, pos, aft, gd⟩ :: rest) E L := by
 subst hl
 refine Zcs (L' := { s : Option Nat // (s = none ∧ ∀ i, i < l.length → i ∈ seen) ∨ ∃ i, s = some i ∧ i < l.length ∧ i ∉ seen }) (o := ⟨some t, .next x false, ty, pos, aft, gd⟩) hg hd
  (fun s => match s.1 with | none => .tuple #[.bool false] | some i => if h : i < l.length then .tuple #[.bool true, ek l[i].1, ev l[i].2] else undef)
  (fun s => match s.1 with | none => L | some i => L1 i) (fun a w ha hw => ?_) (fun s => ?_)
 ·have e1 := ha.ev (isE (h := hx))
  have hr1 := (hw.mem _ hr.out).2
  rcases Zh6 (P := P) hr1 (hb.out w hw) ty with ⟨h2, h3⟩ | ⟨i, hi, hs, w1, hw1, h3⟩
  ·exact ⟨⟨none, .inl ⟨rfl, h2⟩⟩, w, .inl (by simp only [execOp, e1, Sem.run_bind, h3, Result.andThen, Sem.run_pure]), hw⟩
  ·refine ⟨⟨some i, .inr ⟨i, rfl, hi, hs⟩⟩, setBlock w1 r (itO b l.length (seen ++ [i])), .inl (by simp only [execOp, e1, Sem.run_bind, h3, Result.andThen, Sem.run_pure, dif_pos hi]), ?_⟩
   have hw' : Own w0 L w1 := by rcases hw1 with rfl | rfl; exact hw; exact hw.to (Ext.drew w)
   exact hw'.turnO (hu i).out (Zb4 (hw'.mem _ hr.out).2 _)
 ·obtain ⟨s, h2 | ⟨i, rfl, hi, hs⟩⟩ := s
  ·obtain ⟨rfl, h2⟩ := h2
   exact h0 h2
  ·simp only [dif_pos hi]
   exact h1 i hi hs
end
theorem wkM {P Q : Prop} (k : Q) (h : Wr Q → P := by intro hq; (first | refine wkB ?_ | (refine sC rfl rfl ?_ ?_; focus (first | exact trivial | assumption | constructor <;> assumption | exact mb2 rfl rfl | exact mb4 rfl rfl rfl rfl)) | (refine sN rfl rfl ?_ ?_; (focus (first | exact trivial | assumption | constructor <;> assumption | exact mb2 rfl rfl | exact mb4 rfl rfl rfl rfl)); (try simp only [Wf, Wg, Wh])) | refine sMu rfl ?_ | (refine sMm rfl rfl ?_) | (refine sRg rfl rfl ?_)); exact hq.out) : P := h ⟨k⟩
theorem wkO {P Q : Prop} (k : Q) (h : Wr Q → P := by intro hq; (first | refine wkB ?_ | (refine sC rfl rfl ?_ ?_; focus (exact ⟨by omega, by omega⟩)) | (refine sN rfl rfl ?_ ?_; (focus (exact ⟨by omega, by omega⟩)); (try simp only [Wf, Wg, Wh])) | refine sMu rfl ?_ | (refine sMm rfl rfl ?_) | (refine sRg rfl rfl ?_)); exact hq.out) : P := h ⟨k⟩
end Go.Vt
namespace Go.Vt
def lexC : List Int → List Int → Int
 | [], [] => 0
 | [], _ :: _ => -1
 | _ :: _, [] => 1
 | a :: a2, b :: bs => if a < b then -1 else if b < a then 1 else lexC a2 bs
theorem Zh2 : ∀ a, lexC a a = 0
 | [] => rfl
 | a :: a2 => by simp [lexC, Zh2 a2]
theorem ZhF : ∀ {a b : List Int}, lexC a b = 0 → a = b
 | [], [], _ => rfl
 | [], _ :: _, h => by simp [lexC] at h
 | _ :: _, [], h => by simp [lexC] at h
 | a :: a2, b :: bs, h => by
  simp only [lexC] at h
  split at h
  ·cases h
  ·split at h
   ·cases h
   ·rw [ZhF h, show a = b by omega]
theorem Zcw : ∀ (a b : List Int), lexC b a = - lexC a b
 | [], [] => rfl
 | [], _ :: _ => rfl
 | _ :: _, [] => rfl
 | a :: a2, b :: bs => by
  simp only [lexC]
  have := Zcw a2 bs
  split <;> split <;> first | omega | (split <;> omega) | skip
  all_goals (try split) <;> omega
theorem Zhr : ∀ {a b c : List Int}, lexC a b ≤ 0 → lexC b c ≤ 0 → lexC a c ≤ 0
 | [], _, [], _, _ => by simp [lexC]
 | [], _, _ :: _, _, _ => by simp [lexC]
 | _ :: _, [], _, h, _ => by simp [lexC] at h
 | _ :: _, _ :: _, [], _, h => by simp [lexC] at h
 | a :: a2, b :: bs, c :: cs, h1, h2 => by
  simp only [lexC] at h1 h2 ⊢
  have ih := Zhr (a := a2) (b := bs) (c := cs)
  split at h1
  ·split at h2
   ·rw [if_pos (by omega)]; decide
   ·split at h2
    ·exact absurd h2 (by decide)
    ·rw [if_pos (by omega)]; decide
  ·split at h1
   ·exact absurd h1 (by decide)
   ·split at h2
    ·rw [if_pos (by omega)]; decide
    ·split at h2
     ·exact absurd h2 (by decide)
     ·rw [if_neg (by omega), if_neg (by omega)]
      exact ih h1 h2
theorem Zcj {α : Type} {le : α → α → Prop} (anti : ∀ x y, le x y → le y x → x = y) : ∀ {l l' : List α}, l.Perm l' → l.Pairwise le → l'.Pairwise le → l = l'
 | [], l', hp, _, _ => (List.nil_perm.1 hp).symm
 | a :: l, [], hp, _, _ => absurd (List.perm_nil.1 hp) (by simp)
 | a :: l, b :: l', hp, h, h' => by
  have e : a = b := by
   have ha : a ∈ b :: l' := hp.subset (.head _)
   have hb : b ∈ a :: l := hp.symm.subset (.head _)
   rcases List.mem_cons.1 ha with h1 | h1
   ·exact h1
   ·rcases List.mem_cons.1 hb with h2 | h2
    ·exact h2.symm
    ·exact anti _ _ ((List.pairwise_cons.1 h).1 _ h2) ((List.pairwise_cons.1 h').1 _ h1)
  subst e
  rw [Zcj anti (List.Perm.cons_inv hp) (List.pairwise_cons.1 h).2 (List.pairwise_cons.1 h').2]
end Go.Vt
