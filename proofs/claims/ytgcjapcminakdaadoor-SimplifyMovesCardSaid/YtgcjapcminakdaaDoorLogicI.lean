/- A region that draws its order, in which operations with one value may come behind stores and assignments: they may be taken first, if they look at no block that is stored to. Conditions: the closed check 'lateB'. -/
import Derived.Test.YtgcjapcminakdaaDoorLogicH
set_option linter.unusedSimpArgs false
set_option linter.unusedVariables false
namespace Go.Vt
open Go.RowKit

section
variable {P : Program} {w0 : World} {n : Nat} {ops : Array Oper} {L L' Lw : List Blk} {E : Env}
variable {Q : Exit → Act → World → Prop} {rest : List Oper} {v : Value} {Z : List Nat}

def Weak (w0 : World) (Lw L : List Blk) : Prop := ∀ w, Own w0 L w → Own w0 Lw w
theorem weak_sub (h : Lw.Sublist L) : Weak w0 Lw L := fun _ hw => hw.sub h
theorem YieldsC.weak {o : Oper} {a : Act} (hy : YieldsC P w0 Lw ops o v a) (hw : Weak w0 Lw L) : YieldsC P w0 L ops o v a := hy.imp (fun h => ⟨h.1, fun w h' => h.2 w (hw w h')⟩) id

/-- What an operation that turns memory or a variable comes to; calls too. -/
def Hap (P : Program) (r : Result Next) (K : Value → World → Prop) : Prop :=
  match r with
  | .ok (.value u) w' => K u w'
  | .ok .skip w' => K undef w'
  | .ok (.enter f args) w' => Calls P f args w' fun e w'' => ∃ u, e = .returned u ∧ K u w''
  | _ => False
theorem Hap.mono {r : Result Next} {K K' : Value → World → Prop} (h : Hap P r K) (hk : ∀ u w, K u w → K' u w) : Hap P r K' := by
  cases r with
  | ok x w' =>
    cases x <;> simp only [Hap] at h ⊢
    case value u => exact hk _ _ h
    case skip => exact hk _ _ h
    case enter f args => exact h.mono fun e w'' ⟨u, he, hK⟩ => ⟨u, he, hk _ _ hK⟩
  | halt x w' => exact h
theorem wp_of_hap {o : Oper} {a : Act} {w : World} {R : Act → World → Prop} (h : Hap P ((execOp a.eval o).run P w) fun u w' => R (a.put o.dst u) w') : o.wp P a w R Q := by
  unfold Oper.wp
  generalize (execOp a.eval o).run P w = r at *
  cases r with
  | ok x w' =>
    cases x <;> simp only [Hap] at h <;> simp only [Oper.upon]
    case value u => exact h
    case skip => exact h
    case enter f args => exact h.mono fun e w'' ⟨u, he, hK⟩ => by subst he; exact hK
  | halt x w' => simp only [Hap] at h
def Eff (P : Program) (w0 : World) (Lw : List Blk) (ops : Array Oper) (L : List Blk) (o : Oper) (a : Act) (K : List Blk → Value → Prop) : Prop :=
  Region.wanted o (yielded ops a.tmps) = true ∧ ∀ w, Own w0 L w → Hap P ((execOp a.eval o).run P w) fun u w' => ∃ L', Own w0 L' w' ∧ Weak w0 Lw L' ∧ K L' u
theorem Eff.mono {o : Oper} {a : Act} {K K' : List Blk → Value → Prop} (h : Eff P w0 Lw ops L o a K) (hk : ∀ L' u, Weak w0 Lw L' → K L' u → K' L' u) : Eff P w0 Lw ops L o a K' :=
  ⟨h.1, fun w hw => (h.2 w hw).mono fun u w' ⟨L', h2, h3, h4⟩ => ⟨L', h2, h3, hk _ _ h3 h4⟩⟩

/-- What an effect must leave: those of 'Z' come behind all else. -/
def lwZ (Z : List Nat) (i : Nat) (Lw : List Blk) : List Blk := if Z.contains i then [] else Lw
/-- Whatever order is drawn. 'es': the operations of the tail that are still to come, in their order. -/
def wpG (P : Program) (w0 : World) (ops : Array Oper) (Z : List Nat) (Lw : List Blk) (F : List Blk → Act → Prop) : Nat → Array Bool → List Nat → List Blk → Act → Prop
  | 0, listed, es, L, a => es = [] ∧ Region.ready .any ops listed = [] ∧ F L a
  | f + 1, listed, es, L, a => Region.ready .any ops listed ≠ [] ∧ ∀ i ∈ Region.ready .any ops listed, ∃ o, ops[i]? = some o ∧
      ((∃ v, YieldsC P w0 L ops o v a ∧ wpG P w0 ops Z Lw F f (listed.setIfInBounds i true) es L (a.put o.dst v)) ∨
       ∃ es', es = i :: es' ∧ Eff P w0 (lwZ Z i Lw) ops L o a fun L' u => wpG P w0 ops Z Lw F f (listed.setIfInBounds i true) es' L' (a.put o.dst u))

theorem wpG_first {i : Nat} {oi : Oper} {F : List Blk → Act → Prop} (hi : ops[i]? = some oi) (hsel : ∀ (j : Nat) (o : Oper) cs b, ops[j]? = some o → o.op ≠ .select cs b) (hZ : ∀ z o, Z.contains z = true → ops[z]? = some o → ∃ e ∈ o.after, Region.binds .any e = true ∧ e.on = i) :
    ∀ (f : Nat) (listed : Array Bool) (es : List Nat) (L : List Blk) (a : Act),
      (∀ j oj, ops[j]? = some oj → j ≠ i → listed.getD j true = false → (∀ e ∈ oj.after, Region.binds .any e = true → e.on ≠ i) → oi.apart ops oj = true) →
      i ∈ Region.ready .any ops listed → YieldsC P w0 Lw ops oi v a → Weak w0 Lw L →
      wpG P w0 ops Z Lw F f (listed.setIfInBounds i true) es L (a.put oi.dst v) → wpG P w0 ops Z Lw F (f + 1) listed es L a := by
  intro f
  induction f with
  | zero =>
    intro listed es L a _ hr hy hw H
    refine ⟨fun h => (by rw [h] at hr; cases hr), fun j hj => ?_⟩
    by_cases hji : j = i
    · subst hji
      exact ⟨oi, hi, .inl ⟨v, hy.weak hw, H⟩⟩
    · have := ready_mono hj hji
      rw [H.2.1] at this
      cases this
  | succ f ih =>
    intro listed es L a hfree hr hy hw H
    have hun := (mem_ready.1 hr).1
    refine ⟨fun h => (by rw [h] at hr; cases hr), fun j hj => ?_⟩
    by_cases hji : j = i
    · subst hji
      exact ⟨oi, hi, .inl ⟨v, hy.weak hw, H⟩⟩
    · obtain ⟨hjun, oj, hoj, hall⟩ := mem_ready.1 hj
      have hnot : ∀ e ∈ oj.after, Region.binds .any e = true → e.on ≠ i := fun e he hb heq => by
        have h1 := hall e he hb
        rw [heq, getD_both hun] at h1
        cases h1
      obtain ⟨h1, h2, h3⟩ := Oper.apart_spec (hfree j oj hoj hji hjun hnot)
      have hfree' : ∀ q oq, ops[q]? = some oq → q ≠ i → (listed.setIfInBounds j true).getD q true = false →
          (∀ e ∈ oq.after, Region.binds .any e = true → e.on ≠ i) → oi.apart ops oq = true := fun q oq hq hqi hun' hno => by
        refine hfree q oq hq hqi ?_ hno
        by_cases hjq : j = q
        · subst hjq; exact hjun
        · rw [getD_set_ne true hjq] at hun'; exact hun'
      have keep : ∀ u, YieldsC P w0 Lw ops oi v (a.put oj.dst u) := fun u => hy.same (execOp_put oi (fun cs b => hsel i oi cs b hi) a oj.dst u h3) (wanted_put oi a oj.dst u h3)
      have hex : execOp (a.put oi.dst v).eval oj = execOp a.eval oj := execOp_put oj (fun cs b => hsel j oj cs b hoj) a oi.dst v h1
      have hwa : Region.wanted oj (yielded ops (a.put oi.dst v).tmps) = Region.wanted oj (yielded ops a.tmps) := wanted_put oj a oi.dst v h1
      have step : ∀ es' L' u, Weak w0 Lw L' → wpG P w0 ops Z Lw F f ((listed.setIfInBounds i true).setIfInBounds j true) es' L' ((a.put oi.dst v).put oj.dst u) → wpG P w0 ops Z Lw F (f + 1) (listed.setIfInBounds j true) es' L' (a.put oj.dst u) := fun es' L' u hw' hh => by
        refine ih _ _ _ _ hfree' (ready_mono hr (Ne.symm hji)) (keep u) hw' ?_
        rw [Array.setIfInBounds_comm _ _ hji, ← Act.put_comm a v u h2]
        exact hh
      obtain ⟨o, ho, hH⟩ := H.2 j (ready_mono hj hji)
      have : o = oj := Option.some.inj (ho.symm.trans hoj)
      subst this
      refine ⟨o, ho, ?_⟩
      rcases hH with ⟨u, hu, hK⟩ | ⟨es', he, hE⟩
      · exact .inl ⟨u, hu.same hex.symm hwa.symm, step _ _ _ hw hK⟩
      · refine .inr ⟨es', he, hwa ▸ hE.1, fun w hw1 => ?_⟩
        have hH := hE.2 w hw1
        rw [hex] at hH
        have hz : lwZ Z j Lw = Lw := by
          unfold lwZ
          split
          · rename_i hc
            obtain ⟨e, he1, he2, he3⟩ := hZ j o hc hoj
            exact absurd he3 (hnot e he1 he2)
          · rfl
        exact hH.mono fun u w' ⟨L', h5, h6, h7⟩ => ⟨L', h5, h6, step _ _ _ (hz ▸ h6) h7⟩

/-- As it is run. -/
theorem wpAny_of_wpG {F : List Blk → Act → Prop} (hF : ∀ L a w, F L a → Own w0 L w → Q .normal a w) :
    ∀ (f : Nat) (listed : Array Bool) (es : List Nat) (L : List Blk) (a : Act) (w : World), Own w0 L w → wpG P w0 ops Z Lw F f listed es L a → wpAny P .any ops Q f listed a w
  | 0, listed, es, L, a, w, hw, h => ⟨h.2.1, hF _ _ _ h.2.2 hw⟩
  | f + 1, listed, es, L, a, w, hw, h => by
    refine ⟨fun h0 => absurd h0 h.1, fun i hi => ?_⟩
    obtain ⟨o, ho, hH⟩ := h.2 i hi
    unfold wpOp
    simp only [ho]
    rcases hH with ⟨v, hy, hK⟩ | ⟨es', _, hwt, hE⟩
    · rcases hy with ⟨hwt, hy⟩ | ⟨hwt, rfl⟩
      · rw [if_pos hwt]
        exact .inl (wp_of_calm (hy w hw) fun w' hx => wpAny_of_wpG hF f _ _ _ _ _ (hw.to hx) hK)
      · rw [if_neg (by rw [hwt]; simp)]
        exact wpAny_of_wpG hF f _ _ _ _ _ hw hK
    · rw [if_pos hwt]
      exact .inl (wp_of_hap ((hE w hw).mono fun u w' ⟨L', hw', _, hK⟩ => wpAny_of_wpG hF f _ _ _ _ _ hw' hK))

/-! ### The check and the walk -/
def seqE (ops : Array Oper) : List Nat → Array Bool → Bool
  | [], listed => (Region.ready .any ops listed).isEmpty
  | i :: es, listed => decide (Region.ready .any ops listed = [i]) && seqE ops es (listed.setIfInBounds i true)
def lexG (ops : Array Oper) (es : List Nat) : List Nat → Array Bool → Bool
  | [], listed => seqE ops es listed
  | h :: hs, listed => (Region.ready .any ops listed).contains h && Region.free .any ops listed h && lexG ops es hs (listed.setIfInBounds h true)
def lateB (ops : Array Oper) (hs es : List Nat) : Bool :=
  Region.noSelect ops && decide (hs.length + es.length = ops.size) && lexG ops es hs (Array.replicate ops.size false)

def EC (P : Program) (w0 : World) (ops : Array Oper) (Z : List Nat) (Lw : List Blk) (F : List Blk → Act → Prop) : List Nat → List Blk → Act → Prop
  | [], L, a => F L a
  | i :: es, L, a => ∃ o, ops[i]? = some o ∧ Eff P w0 (lwZ Z i Lw) ops L o a fun L' u => EC P w0 ops Z Lw F es L' (a.put o.dst u)
theorem wpG_of_ec {F : List Blk → Act → Prop} : ∀ (es : List Nat) (listed : Array Bool) (L : List Blk) (a : Act), seqE ops es listed = true → EC P w0 ops Z Lw F es L a → wpG P w0 ops Z Lw F es.length listed es L a
  | [], listed, L, a, hB, h => ⟨rfl, by simpa [seqE] using hB, h⟩
  | i :: es, listed, L, a, hB, h => by
    simp only [seqE, Bool.and_eq_true, decide_eq_true_eq] at hB
    refine ⟨by rw [hB.1]; simp, fun j hj => ?_⟩
    rw [hB.1] at hj
    have : j = i := by simpa using hj
    subst this
    obtain ⟨o, ho, hE⟩ := h
    exact ⟨o, ho, .inr ⟨es, rfl, hE.mono fun L' u _ hK => wpG_of_ec es _ _ _ hB.2 hK⟩⟩
/-- The operations at given places. -/
def picks (l : List Oper) : List Nat → List Oper
  | [] => []
  | i :: is => match l[i]? with
    | some o => o :: picks l is
    | none => []
/-- The effects of 'Z' wait for each of 'hs'. -/
def zB (ops : Array Oper) (Z hs : List Nat) : Bool := Z.all fun z => match ops[z]? with
  | some o => hs.all fun h => o.after.any fun e => Region.binds .any e && Nat.beq e.on h
  | none => true
theorem zB_spec {Z hs : List Nat} (h : zB ops Z hs = true) {i : Nat} (hi : i ∈ hs) : ∀ z o, Z.contains z = true → ops[z]? = some o → ∃ e ∈ o.after, Region.binds .any e = true ∧ e.on = i := fun z o hz ho => by
  have h1 := List.all_eq_true.1 h z (by simpa using hz)
  simp only [ho] at h1
  have h2 := List.all_eq_true.1 h1 i hi
  obtain ⟨e, he, h3⟩ := Array.any_eq_true'.1 h2
  simp only [Bool.and_eq_true] at h3
  exact ⟨e, he, h3.1, Nat.eq_of_beq_eq_true h3.2⟩
theorem wpG_of_ah {l : List Oper} {F : List Blk → Act → Prop} {es : List Nat} (hsel : Region.noSelect l.toArray = true) (hw : Weak w0 Lw L) : ∀ (hs : List Nat) (listed : Array Bool) (a : Act), zB l.toArray Z hs = true → lexG l.toArray es hs listed = true →
    AH P w0 Lw l.toArray (EC P w0 l.toArray Z Lw F es L) (picks l hs) a → wpG P w0 l.toArray Z Lw F (hs.length + es.length) listed es L a
  | [], listed, a, _, hB, h => by
    rw [List.length_nil, Nat.zero_add]
    exact wpG_of_ec es listed L a hB h
  | i :: hs, listed, a, hz, hB, h => by
    have hz' : zB l.toArray Z hs = true := by
      refine List.all_eq_true.2 fun z hzz => ?_
      have h1 := List.all_eq_true.1 hz z hzz
      cases ho : l.toArray[z]? with
      | none => rfl
      | some o =>
        simp only [ho] at h1
        exact List.all_eq_true.2 fun x hx => List.all_eq_true.1 h1 x (.tail _ hx)
    simp only [lexG, Bool.and_eq_true] at hB
    obtain ⟨⟨hr, hf⟩, hB'⟩ := hB
    have hr' : i ∈ Region.ready .any l.toArray listed := by simpa using hr
    obtain ⟨_, o, ho, _⟩ := mem_ready.1 hr'
    have ho' : l[i]? = some o := by simpa using ho
    simp only [picks, ho', AH] at h
    obtain ⟨v, hy, h⟩ := h
    rw [show (i :: hs).length + es.length = (hs.length + es.length) + 1 by simp only [List.length_cons]; omega]
    exact wpG_first ho (Region.noSelect_spec hsel) (zB_spec hz (.head _)) _ _ _ _ _ (Region.free_spec ho hf) hr' hy hw (wpG_of_ah hsel hw hs _ _ hz' hB' h)

/-- The operations of the tail. -/
def JE (P : Program) (w0 : World) (n : Nat) (ops : Array Oper) (Lw : List Blk) (K : Env → List Blk → Prop) : List Oper → Env → List Blk → Prop
  | [], E, L => K E L
  | o :: rest, E, L => guardB ops E o.guard = some true ∧ dstOk n o.dst = true ∧ ∃ (S : Type) (val : S → Value) (mem : S → List Blk),
      (∀ a w, Rep n E a → Own w0 L w → Hap P ((execOp a.eval o).run P w) fun u w' => ∃ s, u = val s ∧ Own w0 (mem s) w') ∧
      (∀ s, Weak w0 Lw (mem s)) ∧ ∀ s, JE P w0 n ops Lw K rest (Env.put E o.dst (val s)) (mem s)
theorem ec_of_je {l : List Oper} {Lj : List Blk} {K : Env → List Blk → Prop} {F : List Blk → Act → Prop} (hK : ∀ E L a, Rep n E a → K E L → F L a) : ∀ (es : List Nat) (E : Env) (L : List Blk) (a : Act), es.all (fun i => decide (i < l.length)) = true → (∀ i ∈ es, lwZ Z i Lw = Lj) → Rep n E a →
    JE P w0 n l.toArray Lj K (picks l es) E L → EC P w0 l.toArray Z Lw F es L a
  | [], E, L, a, _, _, ha, h => hK E L a ha h
  | i :: es, E, L, a, hi, hz, ha, h => by
    simp only [List.all_cons, Bool.and_eq_true, decide_eq_true_eq] at hi
    have ho : l[i]? = some l[i] := List.getElem?_eq_getElem hi.1
    simp only [picks, ho] at h
    obtain ⟨hg, hd, S, val, mem, hy, hw, h⟩ := h
    refine ⟨l[i], by simp [hi.1], guardB_spec ha hg, fun w hw1 => ?_⟩
    exact (hy a w ha hw1).mono fun u w' ⟨s, hu, hw'⟩ => ⟨mem s, hw', by rw [hz i (.head _)]; exact hw s, by subst hu; exact ec_of_je hK es _ _ _ hi.2 (fun j hj => hz j (.tail _ hj)) (ha.put _ _ hd) (h s)⟩
theorem ec_app {F : List Blk → Act → Prop} (es2 : List Nat) : ∀ (es1 : List Nat) (L : List Blk) (a : Act), EC P w0 ops Z Lw (fun L a => EC P w0 ops Z Lw F es2 L a) es1 L a → EC P w0 ops Z Lw F (es1 ++ es2) L a
  | [], _, _, h => h
  | _ :: es1, _, _, ⟨o, ho, h⟩ => ⟨o, ho, h.mono fun _ _ _ hK => ec_app es2 es1 _ _ hK⟩

theorem j_late2 {id : Nat} {l : List Oper} (hs es1 es2 : List Nat) (Lw : List Blk) (hm : P.follows .mixedOrders = true) (hB : lateB l.toArray hs (es1 ++ es2) = true) (hz : zB l.toArray es2 hs = true) (he1 : es1.all (fun i => decide (i < l.length) && !es2.contains i) = true) (he2 : es2.all (fun i => decide (i < l.length)) = true) (hL : Lw.Sublist L)
    (h : JH P w0 n Lw l.toArray (fun E' => JE P w0 n l.toArray Lw (fun E1 L1 => JE P w0 n l.toArray [] (fun E2 L2 => JX w0 n .normal Q E2 L2) (picks l es2) E1 L1) (picks l es1) E' L) (picks l hs) E) : J P w0 n (.region id l.toArray true) Q E L := by
  refine ⟨fun a w ha hw => ?_⟩
  simp only [lateB, Bool.and_eq_true, decide_eq_true_eq] at hB
  obtain ⟨⟨hsel, hlen⟩, hlex⟩ := hB
  refine wp_region_any hm ?_
  have hz1 : ∀ i ∈ es1, lwZ es2 i Lw = Lw := fun i hi => by
    have h1 := List.all_eq_true.1 he1 i hi
    simp only [Bool.and_eq_true, Bool.not_eq_true'] at h1
    unfold lwZ
    rw [h1.2]
    rfl
  have hz2 : ∀ i ∈ es2, lwZ es2 i Lw = [] := fun i hi => by
    unfold lwZ
    rw [if_pos (by simpa using hi)]
  have he1' : es1.all (fun i => decide (i < l.length)) = true := List.all_eq_true.2 fun i hi => by
    have h1 := List.all_eq_true.1 he1 i hi
    simp only [Bool.and_eq_true] at h1
    exact h1.1
  have H : wpG P w0 l.toArray es2 Lw (fun L a => ∀ w, Own w0 L w → Q .normal a w) (hs.length + (es1 ++ es2).length) (Array.replicate l.toArray.size false) (es1 ++ es2) L a :=
    wpG_of_ah hsel (weak_sub hL) hs _ a hz hlex (ah_of_jh (n := n) (fun E' a' ha' hK => ec_app es2 es1 L a' (ec_of_je (n := n) (fun E1 L1 a1 ha1 h1 => ec_of_je (n := n) (fun E2 L2 a2 ha2 hx w hw => hx.out a2 w ha2 hw) es2 E1 L1 a1 he2 hz2 ha1 h1) es1 E' L a' he1' hz1 ha' hK)) _ _ _ ha h)
  have := wpAny_of_wpG (P := P) (Q := Q) (fun L a w hF hw => hF w hw) _ _ _ _ _ w.drew (hw.to (Ext.drew w)) H
  rw [hlen] at this
  exact this
theorem j_late {id : Nat} {l : List Oper} (hs es : List Nat) (Lw : List Blk) (hm : P.follows .mixedOrders = true) (hB : lateB l.toArray hs es = true) (he : es.all (fun i => decide (i < l.length)) = true) (hL : Lw.Sublist L)
    (h : JH P w0 n Lw l.toArray (fun E' => JE P w0 n l.toArray Lw (fun E2 L2 => JX w0 n .normal Q E2 L2) (picks l es) E' L) (picks l hs) E) : J P w0 n (.region id l.toArray true) Q E L :=
  j_late2 hs es [] Lw hm (by rw [List.append_nil]; exact hB) rfl (List.all_eq_true.2 fun i hi => by
    have := List.all_eq_true.1 he i hi
    simp only [List.contains_nil, Bool.not_false, Bool.and_true]
    exact this) rfl hL h

/-! ### The rules of the tail -/
variable {K : Env → List Blk → Prop} {ty : TypeId} {pos : String} {aft : Array Edge} {gd : Option (Nat × Bool)} {t : Tmp}
theorem je_old {S : Type} {o : Oper} (hg : guardB ops E o.guard = some true) (hd : dstOk n o.dst = true) (val : S → Value) (mem : S → List Blk)
    (hy : ∀ a w, Rep n E a → Own w0 L w → ∃ s w', ((execOp a.eval o).run P w = .ok (.value (val s)) w' ∨ ((execOp a.eval o).run P w = .ok .skip w' ∧ val s = undef)) ∧ Own w0 (mem s) w')
    (hw : ∀ s, Weak w0 Lw (mem s)) (h : ∀ s, JE P w0 n ops Lw K rest (Env.put E o.dst (val s)) (mem s)) : JE P w0 n ops Lw K (o :: rest) E L :=
  ⟨hg, hd, S, val, mem, fun a w ha hw => by
    obtain ⟨s, w', hr, ho⟩ := hy a w ha hw
    rcases hr with hr | ⟨hr, hu⟩
    · rw [hr]; exact ⟨s, rfl, ho⟩
    · rw [hr]; exact ⟨s, hu.symm, ho⟩, hw, h⟩
/-- A call whose results lie in memory of its own. -/
theorem je_c {S : Type} {o : Oper} {f : FuncId} {args : Array Value} (hg : guardB ops E o.guard = some true) (hd : dstOk n o.dst = true) (val : S → Value) (mem : S → List Blk)
    (hr : ∀ a w, Rep n E a → (execOp a.eval o).run P w = .ok (.enter f args) w) (hc : ∀ w, Own w0 L w → Calls P f args w fun e w' => ∃ s, e = .returned (val s) ∧ Own w0 (mem s) w')
    (hw : ∀ s, Weak w0 Lw (mem s)) (h : ∀ s, JE P w0 n ops Lw K rest (Env.put E o.dst (val s)) (mem s)) : JE P w0 n ops Lw K (o :: rest) E L :=
  ⟨hg, hd, S, val, mem, fun a w ha hw => by
    rw [hr a w ha]
    exact (hc w hw).mono fun e w' ⟨s, he, ho⟩ => ⟨_, he, s, rfl, ho⟩, hw, h⟩
theorem je_nil (h : K E L) : JE P w0 n ops Lw K [] E L := h
theorem je_assign {x : Operand} (hx : Env.ev E x = some v) (hg : guardB ops E gd = some true) (hd : Nat.blt t n = true) (hw : Lw.Sublist L) (h : JE P w0 n ops Lw K rest ((t, v) :: E) L) : JE P w0 n ops Lw K (⟨some t, .assign x, ty, pos, aft, gd⟩ :: rest) E L :=
  je_old (S := Unit) (o := ⟨some t, .assign x, ty, pos, aft, gd⟩) hg hd (fun _ => v) (fun _ => L) (fun a w ha hw => ⟨(), w, .inl (by simp only [execOp, ha.ev hx, Sem.run_pure]), hw⟩) (fun _ => weak_sub hw) (fun _ => h)
theorem je_store {T T0 : TypeId} {x y : Operand} {b off : Nat} {cs cs' : Array Value} {u : Value} (k : Nat) (hx : Env.ev E x = some (.pointer (some ⟨b, off, none⟩))) (hy : Env.ev E y = some u) (hu : Upd b cs T0 cs' L L')
    (hk : (P.info? T).map (·.size) = some k) (hsz : u.cells.size = k) (hs : Nat.ble (off + k) cs.size = true) (h1 : u.cells.all (·.oneCell') = true) (hc : spl cs off u.cells.toList = cs')
    (hg : guardB ops E gd = some true) (hw : Lw.Sublist L') (h : JE P w0 n ops Lw K rest E L') : JE P w0 n ops Lw K (⟨none, .store T x y, ty, pos, aft, gd⟩ :: rest) E L := by
  refine je_old (S := Unit) (o := ⟨none, .store T x y, ty, pos, aft, gd⟩) hg rfl (fun _ => undef) (fun _ => L') (fun a w ha hw => ?_) (fun _ => weak_sub hw) (fun _ => h)
  have hb := (hw.mem _ hu.mem).2
  have hs' := Nat.le_of_ble_eq_true hs
  obtain ⟨w', hr, ht⟩ := run_storeCells (P := P) (b := b) (off := off) u.cells.toList 0 cs w hb (by simp; omega) (fun q hq => Array.all_eq_true_iff_forall_mem.1 h1 q (Array.mem_toList_iff.1 hq))
  rw [Nat.add_zero, hc] at ht
  refine ⟨(), w', .inr ⟨?_, rfl⟩, hw.turn hu ht⟩
  simp [execOp, ha.ev hx, ha.ev hy, Instr.storeAt, Instr.sureAddr, storeVar, run_sizeOf hk, hsz, hr]
/-- A whole variable. -/
theorem we_store {T T0 : TypeId} {x y : Operand} {b k : Nat} {cs cs' : Array Value} (hx : Env.ev E x = some (.pointer (some ⟨b, 0, none⟩))) (hy : Env.ev E y = some (.agg cs')) [hk : SizeC P T k] [hc' : CsC cs' k] [hu : UpdC b cs' L cs T0 L'] [hc : CsC cs k]
    (hg : guardB ops E gd = some true) (hw : Lw.Sublist L') (h : JE P w0 n ops Lw K rest E L') : JE P w0 n ops Lw K (⟨none, .store T x y, ty, pos, aft, gd⟩ :: rest) E L :=
  je_store (u := .agg cs') k hx hy hu.out hk.out hc'.size (by rw [hc.size, Nat.zero_add]; exact Nat.ble_eq_true_of_le (Nat.le_refl _)) hc'.one (spl_all (hc'.size.trans hc.size.symm)) hg hw h
theorem we_storeD {T T0 : TypeId} {x y : Operand} {b off : Nat} {k : IntKind} {ds : List Nat} {z : Nat} (hx : Env.ev E x = some (.pointer (some ⟨b, off, none⟩))) (hy : Env.ev E y = some (.int k (z : Int))) [hk : SizeC P T 1] [MemC b L (dig k ds) T0] (hs : off < ds.length) [hu : UpdC b (dig k (ds.set off z)) L (dig k ds) T0 L']
    (hg : guardB ops E gd = some true) (hw : Lw.Sublist L') (h : JE P w0 n ops Lw K rest E L') : JE P w0 n ops Lw K (⟨none, .store T x y, ty, pos, aft, gd⟩ :: rest) E L :=
  je_store (u := .int k (z : Int)) 1 hx hy hu.out hk.out rfl (Nat.ble_eq_true_of_le (by rw [size_dig]; omega)) (by simp [Value.cells, Value.oneCell']) ((nums_set k _ off z).trans (dig_set k ds off z)) hg hw h
theorem je_bslice {T e : TypeId} {len : Nat} {ps : List (Nat × Operand)} {l : List (Nat × Value)} {cs : Array Value} (hp : Env.evp E ps = some l) [hb : BsC P T len l cs e] (hg : guardB ops E gd = some true) (hd : Nat.blt t n = true) (hw : Lw.Sublist L)
    (h : ∀ b, JE P w0 n ops Lw K rest ((t, .slice (some ⟨b, 0, none⟩) len len) :: E) (⟨b, cs, e⟩ :: L)) : JE P w0 n ops Lw K (⟨some t, .buildSlice T len ps.toArray, ty, pos, aft, gd⟩ :: rest) E L :=
  je_old (S := Nat) (o := ⟨some t, .buildSlice T len ps.toArray, ty, pos, aft, gd⟩) hg hd (fun b => .slice (some ⟨b, 0, none⟩) len len) (fun b => ⟨b, cs, e⟩ :: L) (fun a w ha hw => ⟨w.heap.size, w.alloc (.cells cs e), .inl (by
      have h1 : ps.toArray.map (fun (i, x) => (i, a.eval x)) = l.toArray := by rw [← ha.evp ps l hp]; simp
      simp only [execOp, h1, Sem.run_bind, hb.out, Result.andThen, Sem.run_pure]), hw.alloc _ _⟩) (fun _ => weak_sub (.cons _ hw)) h
end
end Go.Vt
