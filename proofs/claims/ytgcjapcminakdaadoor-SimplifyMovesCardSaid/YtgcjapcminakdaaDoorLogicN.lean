/- A region that draws its order: values, then effects, then values that look at what the effects brought. Conditions: the closed check 'late3B'. -/
import Derived.Test.YtgcjapcminakdaaDoorLogicM
set_option linter.unusedSimpArgs false
set_option linter.unusedVariables false
set_option linter.unusedSectionVars false
namespace Go.Vt
open Go.RowKit

section
variable {P : Program} {w0 : World} {n : Nat} {ops : Array Oper} {L L' Lw : List Blk} {E : Env}
variable {Q : Exit → Act → World → Prop} {Z : List Nat}
def lexF (ops : Array Oper) (k : Array Bool → Bool) : List Nat → Array Bool → Bool
  | [], listed => k listed
  | h :: hs, listed => (Region.ready .any ops listed).contains h && Region.free .any ops listed h && lexF ops k hs (listed.setIfInBounds h true)
def seqF (ops : Array Oper) (k : Array Bool → Bool) : List Nat → Array Bool → Bool
  | [], listed => k listed
  | i :: es, listed => decide (Region.ready .any ops listed = [i]) && seqF ops k es (listed.setIfInBounds i true)
def late3B (ops : Array Oper) (hs es ts : List Nat) : Bool :=
  Region.noSelect ops && decide (hs.length + (es.length + ts.length) = ops.size) && lexF ops (seqF ops (lexG ops [] ts) es) hs (Array.replicate ops.size false)
theorem wpG_of_ecF {F G : List Blk → Act → Prop} {N : Nat} {k : Array Bool → Bool} (hk : ∀ listed L a, k listed = true → Weak w0 Lw L → G L a → wpG P w0 ops [] Lw F N listed [] L a) : ∀ (es : List Nat) (listed : Array Bool) (L : List Blk) (a : Act), seqF ops k es listed = true → Weak w0 Lw L → EC P w0 ops [] Lw G es L a → wpG P w0 ops [] Lw F (es.length + N) listed es L a
  | [], listed, L, a, hB, hw, h => by
    rw [List.length_nil, Nat.zero_add]
    exact hk listed L a hB hw h
  | i :: es, listed, L, a, hB, hw, h => by
    simp only [seqF, Bool.and_eq_true, decide_eq_true_eq] at hB
    rw [show (i :: es).length + N = (es.length + N) + 1 by simp only [List.length_cons]; omega]
    refine ⟨by rw [hB.1]; simp, fun j hj => ?_⟩
    rw [hB.1] at hj
    have : j = i := by simpa using hj
    subst this
    obtain ⟨o, ho, hE⟩ := h
    exact ⟨o, ho, .inr ⟨es, rfl, hE.mono fun L' u hw' hK => wpG_of_ecF hk es _ _ _ hB.2 hw' hK⟩⟩
theorem wpG_of_ahF {l : List Oper} {F : List Blk → Act → Prop} {es : List Nat} {G : Act → Prop} {N : Nat} {k : Array Bool → Bool} (hk : ∀ listed a, k listed = true → G a → wpG P w0 l.toArray [] Lw F N listed es L a) (hsel : Region.noSelect l.toArray = true) (hw : Weak w0 Lw L) : ∀ (hs : List Nat) (listed : Array Bool) (a : Act), lexF l.toArray k hs listed = true →
    AH P w0 Lw l.toArray G (picks l hs) a → wpG P w0 l.toArray [] Lw F (hs.length + N) listed es L a
  | [], listed, a, hB, h => by
    rw [List.length_nil, Nat.zero_add]
    exact hk listed a hB h
  | i :: hs, listed, a, hB, h => by
    simp only [lexF, Bool.and_eq_true] at hB
    obtain ⟨⟨hr, hf⟩, hB'⟩ := hB
    have hr' : i ∈ Region.ready .any l.toArray listed := by simpa using hr
    obtain ⟨_, o, ho, _⟩ := mem_ready.1 hr'
    have ho' : l[i]? = some o := by simpa using ho
    simp only [picks, ho', AH] at h
    obtain ⟨v, hy, h⟩ := h
    rw [show (i :: hs).length + N = (hs.length + N) + 1 by simp only [List.length_cons]; omega]
    exact wpG_first ho (Region.noSelect_spec hsel) (fun z o hz _ => by simp at hz) _ _ _ _ _ (Region.free_spec ho hf) hr' hy hw (wpG_of_ahF hk hsel hw hs _ _ hB' h)
theorem j_late3 {id : Nat} {l : List Oper} (hs es ts : List Nat) (Lw : List Blk) (hm : P.follows .mixedOrders = true) (hB : late3B l.toArray hs es ts = true) (he : es.all (fun i => decide (i < l.length)) = true) (hL : Lw.Sublist L)
    (h : JH P w0 n Lw l.toArray (fun E' => JE P w0 n l.toArray Lw (fun E1 L1 => JH P w0 n Lw l.toArray (fun E2 => JX w0 n .normal Q E2 L1) (picks l ts) E1) (picks l es) E' L) (picks l hs) E) : J P w0 n (.region id l.toArray true) Q E L := by
  refine ⟨fun a w ha hw => ?_⟩
  simp only [late3B, Bool.and_eq_true, decide_eq_true_eq] at hB
  obtain ⟨⟨hsel, hlen⟩, hlex⟩ := hB
  refine wp_region_any hm ?_
  have H : wpG P w0 l.toArray [] Lw (fun L a => ∀ w, Own w0 L w → Q .normal a w) (hs.length + (es.length + (ts.length + ([] : List Nat).length))) (Array.replicate l.toArray.size false) es L a :=
    wpG_of_ahF (k := seqF l.toArray (lexG l.toArray [] ts) es) (G := fun a => EC P w0 l.toArray [] Lw (fun L1 a1 => AH P w0 Lw l.toArray (fun a2 => ∀ w, Own w0 L1 w → Q .normal a2 w) (picks l ts) a1) es L a) (fun listed a hb hG => wpG_of_ecF (fun listed L1 a1 hb1 hw1 hG1 => wpG_of_ah hsel hw1 ts listed a1 rfl hb1 hG1) es listed L a hb (weak_sub hL) hG) hsel (weak_sub hL) hs _ a hlex
      (ah_of_jh (n := n) (fun E' a' ha' hK => ec_of_je (n := n) (Lj := Lw) (fun E1 L1 a1 ha1 h1 => ah_of_jh (n := n) (fun E2 a2 ha2 hx w hw => hx.out a2 w ha2 hw) _ _ _ ha1 h1) es E' L a' he (fun _ _ => rfl) ha' hK) _ _ _ ha h)
  have := wpAny_of_wpG (P := P) (Q := Q) (fun L a w hF hw => hF w hw) _ _ _ _ _ w.drew (hw.to (Ext.drew w)) H
  rw [List.length_nil, Nat.add_zero, hlen] at this
  exact this
/-! ### Values and effects in turn -/
def phB (ops : Array Oper) : List (List Nat × List Nat) → Array Bool → Bool
  | [], listed => (Region.ready .any ops listed).isEmpty
  | p :: ps, listed => lexF ops (seqF ops (phB ops ps) p.2) p.1 listed
def phN : List (List Nat × List Nat) → Nat
  | [] => 0
  | p :: ps => p.1.length + (p.2.length + phN ps)
def phE : List (List Nat × List Nat) → List Nat
  | [] => []
  | p :: ps => p.2 ++ phE ps
def phA (ops : Array Oper) (ps : List (List Nat × List Nat)) : Bool :=
  Region.noSelect ops && decide (phN ps = ops.size) && ps.all (fun p => p.2.all (fun i => decide (i < ops.size))) && phB ops ps (Array.replicate ops.size false)
def PH (P : Program) (w0 : World) (l : List Oper) (Lw : List Blk) (F : List Blk → Act → Prop) : List (List Nat × List Nat) → List Blk → Act → Prop
  | [], L, a => F L a
  | p :: ps, L, a => AH P w0 Lw l.toArray (fun a1 => EC P w0 l.toArray [] Lw (fun L1 a2 => PH P w0 l Lw F ps L1 a2) p.2 L a1) (picks l p.1) a
/-- The phases under an environment. -/
def JP (P : Program) (w0 : World) (n : Nat) (l : List Oper) (Lw : List Blk) (K : Env → List Blk → Prop) : List (List Nat × List Nat) → Env → List Blk → Prop
  | [], E, L => K E L
  | p :: ps, E, L => JH P w0 n Lw l.toArray (fun E' => JE P w0 n l.toArray Lw (fun E1 L1 => JP P w0 n l Lw K ps E1 L1) (picks l p.2) E' L) (picks l p.1) E
theorem wpG_of_ecR {F G : List Blk → Act → Prop} {N : Nat} {R : List Nat} {k : Array Bool → Bool} (hk : ∀ listed L a, k listed = true → Weak w0 Lw L → G L a → wpG P w0 ops [] Lw F N listed R L a) : ∀ (es : List Nat) (listed : Array Bool) (L : List Blk) (a : Act), seqF ops k es listed = true → Weak w0 Lw L → EC P w0 ops [] Lw G es L a → wpG P w0 ops [] Lw F (es.length + N) listed (es ++ R) L a
  | [], listed, L, a, hB, hw, h => by
    rw [List.length_nil, Nat.zero_add]
    exact hk listed L a hB hw h
  | i :: es, listed, L, a, hB, hw, h => by
    simp only [seqF, Bool.and_eq_true, decide_eq_true_eq] at hB
    rw [show (i :: es).length + N = (es.length + N) + 1 by simp only [List.length_cons]; omega]
    refine ⟨by rw [hB.1]; simp, fun j hj => ?_⟩
    rw [hB.1] at hj
    have : j = i := by simpa using hj
    subst this
    obtain ⟨o, ho, hE⟩ := h
    exact ⟨o, ho, .inr ⟨es ++ R, rfl, hE.mono fun L' u hw' hK => wpG_of_ecR hk es _ _ _ hB.2 hw' hK⟩⟩
theorem wpG_of_ph {l : List Oper} {F : List Blk → Act → Prop} (hsel : Region.noSelect l.toArray = true) : ∀ (ps : List (List Nat × List Nat)) (listed : Array Bool) (L : List Blk) (a : Act), phB l.toArray ps listed = true → Weak w0 Lw L → PH P w0 l Lw F ps L a → wpG P w0 l.toArray [] Lw F (phN ps) listed (phE ps) L a
  | [], listed, L, a, hB, hw, h => ⟨rfl, by simpa [phB] using hB, h⟩
  | p :: ps, listed, L, a, hB, hw, h =>
    wpG_of_ahF (fun listed a1 hb hG => wpG_of_ecR (fun listed L1 a2 hb2 hw2 hG2 => wpG_of_ph hsel ps listed L1 a2 hb2 hw2 hG2) p.2 listed L a1 hb hw hG) hsel hw p.1 listed a hB h
theorem ph_of_jp {l : List Oper} {K : Env → List Blk → Prop} {F : List Blk → Act → Prop} (hK : ∀ E L a, Rep n E a → K E L → F L a) : ∀ (ps : List (List Nat × List Nat)) (E : Env) (L : List Blk) (a : Act), ps.all (fun p => p.2.all (fun i => decide (i < l.length))) = true → Rep n E a → JP P w0 n l Lw K ps E L → PH P w0 l Lw F ps L a
  | [], E, L, a, _, ha, h => hK E L a ha h
  | p :: ps, E, L, a, hi, ha, h => by
    simp only [List.all_cons, Bool.and_eq_true] at hi
    exact ah_of_jh (n := n) (fun E' a' ha' hK' => ec_of_je (n := n) (Lj := Lw) (fun E1 L1 a1 ha1 h1 => ph_of_jp hK ps E1 L1 a1 hi.2 ha1 h1) p.2 E' L a' hi.1 (fun _ _ => rfl) ha' hK') _ _ _ ha h
theorem j_phases {id : Nat} {l : List Oper} (ps : List (List Nat × List Nat)) (Lw : List Blk) (hm : P.follows .mixedOrders = true) (hB : phA l.toArray ps = true) (hL : Lw.Sublist L)
    (h : JP P w0 n l Lw (fun E2 L2 => JX w0 n .normal Q E2 L2) ps E L) : J P w0 n (.region id l.toArray true) Q E L := by
  refine ⟨fun a w ha hw => ?_⟩
  simp only [phA, Bool.and_eq_true, decide_eq_true_eq] at hB
  obtain ⟨⟨⟨hsel, hlen⟩, hall⟩, hlex⟩ := hB
  refine wp_region_any hm ?_
  have H := wpG_of_ph (P := P) (F := fun L a => ∀ w, Own w0 L w → Q .normal a w) hsel ps _ L a hlex (weak_sub hL) (ph_of_jp (n := n) (fun E2 L2 a2 ha2 hx w hw => hx.out a2 w ha2 hw) ps E L a (by simpa using hall) ha h)
  have := wpAny_of_wpG (P := P) (Q := Q) (fun L a w hF hw => hF w hw) _ _ _ _ _ w.drew (hw.to (Ext.drew w)) H
  rw [hlen] at this
  exact this
end
/-! ### Values in the tail -/
section
variable {P : Program} {w0 : World} {n : Nat} {ops : Array Oper} {L Lw : List Blk} {E : Env} {K : Env → List Blk → Prop} {rest : List Oper} {v : Value} {op : Op} {S : Prop}
variable {ty : TypeId} {pos : String} {aft : Array Edge} {gd : Option (Nat × Bool)} {t : Tmp}
theorem eV (h : Yl P w0 n L E ⟨some t, op, ty, pos, aft, gd⟩ v) (hg : guardB ops E gd = some true) (hd : Nat.blt t n = true) (hw : Lw.Sublist L) (k : JE P w0 n ops Lw K rest ((t, v) :: E) L) : JE P w0 n ops Lw K (⟨some t, op, ty, pos, aft, gd⟩ :: rest) E L :=
  ⟨hg, hd, Unit, fun _ => v, fun _ => L, fun a w ha hw => by
    have h1 := h.out a w ha hw
    unfold calm at h1
    generalize (execOp a.eval ⟨some t, op, ty, pos, aft, gd⟩).run P w = r at *
    cases r with
    | ok x w' =>
      cases x <;> simp only [calmUpon] at h1 <;> simp only [Hap]
      case value u => exact ⟨(), h1.1, hw.to h1.2⟩
      case skip => exact ⟨(), h1.1.symm, hw.to h1.2⟩
      case enter f args =>
        obtain ⟨rfl, h2⟩ := h1
        exact h2.mono fun e w'' ⟨he, hx⟩ => ⟨_, he, (), rfl, hw.to hx⟩
    | halt x w' => simp only [calmUpon] at h1, fun _ => weak_sub hw, fun _ => k⟩
theorem uS [h : YsC P w0 n L E op v S] (hg : guardB ops E gd = some true) (hd : Nat.blt t n = true) [hw : SblC Lw L] (s : S) (k : JE P w0 n ops Lw K rest ((t, v) :: E) L) : JE P w0 n ops Lw K (⟨some t, op, ty, pos, aft, gd⟩ :: rest) E L := eV (h.out s _ _ _ _ _) hg hd hw.out k
theorem uC [h : YcC P w0 n L E op v S] (hg : guardB ops E gd = some true) (hd : Nat.blt t n = true) [hw : SblC Lw L] (s : S) (k : JE P w0 n ops Lw K rest ((t, v) :: E) L) : JE P w0 n ops Lw K (⟨some t, op, ty, pos, aft, gd⟩ :: rest) E L := eV (h.out s _ _ _ _ _) hg hd hw.out k
theorem uW [h : YwC P w0 n L E op v] (hg : guardB ops E gd = some true) (hd : Nat.blt t n = true) [hw : SblC Lw L] (k : JE P w0 n ops Lw K rest ((t, v) :: E) L) : JE P w0 n ops Lw K (⟨some t, op, ty, pos, aft, gd⟩ :: rest) E L := eV (h.out _ _ _ _ _) hg hd hw.out k
theorem uP {c x y : Operand} (hc : Env.ev E c = some (.bool true)) (hx : Env.ev E x = some v) (hg : guardB ops E gd = some true) (hd : Nat.blt t n = true) [hw : SblC Lw L] (k : JE P w0 n ops Lw K rest ((t, v) :: E) L) : JE P w0 n ops Lw K (⟨some t, .pick c x y, ty, pos, aft, gd⟩ :: rest) E L := eV (wl_pickT hc hx) hg hd hw.out k
theorem uQ {c x y : Operand} (hc : Env.ev E c = some (.bool false)) (hx : Env.ev E y = some v) (hg : guardB ops E gd = some true) (hd : Nat.blt t n = true) [hw : SblC Lw L] (k : JE P w0 n ops Lw K rest ((t, v) :: E) L) : JE P w0 n ops Lw K (⟨some t, .pick c x y, ty, pos, aft, gd⟩ :: rest) E L := eV (wl_pickF hc hx) hg hd hw.out k
end
end Go.Vt
