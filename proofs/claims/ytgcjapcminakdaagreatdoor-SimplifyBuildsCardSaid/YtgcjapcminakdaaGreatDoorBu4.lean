/- SimplifyBuilds (viator law 31): true for every input. Conditions: those that each statement names. (part 4 of 6.) Conditions: those that each statement names. -/
import Derived.Test.YtgcjapcminakdaaGreatDoorCards
import Derived.Test.YtgcjapcminakdaaGreatDoorTie
import Derived.WalkKit
import Derived.ProofKit
import Derived.OpenShut
import Derived.Deep.DeepHandedRow
import Derived.Deep.DeepLaidRun
import Derived.Deep.SlicePairs
import Derived.Carry
import Derived.Lib.LaidU8
import Derived.Laws.Cover3
import Derived.Laws.Pointers
import Derived.Test.YtgcjapcminakdaaGreatDoorBu3
/- What the rows of this seat share: the witness's world with its two tables, and the reading of a way. Conditions: none. -/
set_option linter.unusedSimpArgs false
set_option linter.unusedVariables false
namespace Go.Proofs.YtgcjapcminakdaaGreatDoor
open Go.ChangeShapes Go.WideShapes Go.ChangeAt Go.RowKit Go.Deep Go.Vt
set_option maxRecDepth 100000
theorem rown : ownKnob Tryz.prog.godebug = none := by kernel_rfl
theorem rlaidOut : laidOutB Tryz.prog = true := by kernel_rfl
theorem runder23 : Tryz.prog.underlying 23 = some (.slice 96) := by kernel_rfl
theorem rcells96 : Tryz.prog.cellsOf 96 = 3 := by kernel_rfl
theorem runder5 : Tryz.prog.underlying 5 = some (.int .u8) := by kernel_rfl
theorem rcells5 : Tryz.prog.cellsOf 5 = 1 := by kernel_rfl
theorem runder96 : ∃ f0 f1 f2, Tryz.prog.underlying 96 = some (.struct #[f0, f1, f2]) ∧ f0.type = 5 ∧ f1.type = 5 ∧ f2.type = 5 ∧ f0.offset = 0 ∧ f1.offset = 1 ∧ f2.offset = 2 := ⟨_, _, _, Tryz.underlying96, rfl, rfl, rfl, rfl, rfl, rfl⟩
theorem u8_wf {n : Int} (h : (Lit.int .u8 n).wf = true) : 0 ≤ n ∧ n ≤ 255 := by
  simp only [Lit.wf, Bool.and_eq_true, decide_eq_true_eq] at h
  exact ⟨h.1, h.2⟩
theorem eq_wstep (x : WStep) : e_st_Time_X_Y x = #[.int .u8 x.Time, .int .u8 x.X, .int .u8 x.Y] := rfl
/-- A way that reads is a slice of steps. -/
theorem open_way {H : Type} {enc : TypeId × Value → H} {W : World} {base : Nat} {held : Bool} {fuel : Nat} {v : Value} {x : DataW H × List MemPlace} (hs : ∃ a l c, v = .slice a l c) (h : DataW.trod enc Tryz.prog W base (fun _ => true) held fuel 23 v.cells.toList = some x) :
    ∃ ws : List WStep, ArgS W v e_st_Time_X_Y ws ∧ WOk ws ∧ ws.length ≤ 9223372036854775807 := by
  obtain ⟨a0, l0, c0, rfl⟩ := hs
  rcases open_slice runder23 h with ⟨h0, _⟩ | ⟨a, len, cap, m, n, D, Pl, hcs, hb, hl, hm, hmm, hx, hc⟩
  · simp [Value.cells] at h0
    obtain ⟨rfl, rfl, rfl⟩ := h0
    exact ⟨[], ⟨.inl ⟨rfl, rfl⟩⟩, fun i => by rw [show gi ([] : List WStep) i = default from rfl]; decide, by simp⟩
  · simp [Value.cells] at hcs
    obtain ⟨rfl, rfl, rfl⟩ := hcs
    obtain ⟨f0, f1, f2, he, t0, t1, t2, o0, o1, o2⟩ := runder96
    have each : ∀ i, i < m → ∃ q : Int × Int × Int, W.cell? (a.add (i * 3)) = some (.int .u8 q.1) ∧ W.cell? (a.add (i * 3 + 1)) = some (.int .u8 q.2.1) ∧ W.cell? (a.add (i * 3 + 2)) = some (.int .u8 q.2.2) ∧ (0 ≤ q.1 ∧ q.1 ≤ 255) ∧ (0 ≤ q.2.1 ∧ q.2.1 ≤ 255) ∧ (0 ≤ q.2.2 ∧ q.2.2 ≤ 255) := by
      intro i hi
      obtain ⟨cs', h1, h2⟩ := hc i hi
      rw [rcells96] at h1
      obtain ⟨_, hlen, hcell⟩ := World.cells?_some h1
      obtain ⟨xs, k, hk, hxy, _, hxl, hf⟩ := DataW.trod_struct he h2
      match xs, hxl, cs', hlen with
      | [y0, y1, y2], _, [v0, v1, v2], _ =>
        have g0 := hf 0 f0 rfl
        have g1 := hf 1 f1 rfl
        have g2 := hf 2 f2 rfl
        simp [o0, o1, o2, t0, t1, t2, rcells5] at g0 g1 g2
        have e0 := hcell 0 (by omega)
        have e1 := hcell 1 (by omega)
        have e2 := hcell 2 (by omega)
        rw [add_add] at e0 e1 e2
        obtain ⟨n0, p0, _, q0⟩ := DataW.trod_int runder5 g0
        obtain ⟨n1, p1, _, q1⟩ := DataW.trod_int runder5 g1
        obtain ⟨n2, p2, _, q2⟩ := DataW.trod_int runder5 g2
        simp only [List.cons.injEq, and_true] at p0 p1 p2
        subst p0; subst p1; subst p2
        exact ⟨(n0, n1, n2), by simpa using e0, by simpa using e1, by simpa using e2, u8_wf q0, u8_wf q1, u8_wf q2⟩
    obtain ⟨q, hq⟩ := choose_lt each
    have hlm : l0 ≤ m := by rw [hmm]; simpa using hl
    refine ⟨(List.range l0).map fun i => ⟨(q i).1, (q i).2.1, (q i).2.2⟩, ⟨.inr ⟨a, c0, by simp, by simpa using hl, fun i f k u hi hk hu => ?_⟩⟩, fun i => ?_, ?_⟩
    · simp only [List.length_map, List.length_range] at hi
      obtain rfl : k = 3 := by rw [← hk default]; rfl
      have hqi := hq i (by omega)
      simp only [List.getElem_map, List.getElem_range, eq_wstep] at hu
      match f, hu with
      | 0, hu => simp at hu; subst hu; exact hqi.1
      | 1, hu => simp at hu; subst hu; exact hqi.2.1
      | 2, hu => simp at hu; subst hu; exact hqi.2.2.1
      | f + 3, hu => simp at hu
    · by_cases hi : i.toNat < l0
      · rw [gi_eq (by simpa using hi)]
        simp only [List.getElem_map, List.getElem_range]
        exact (hq _ (by omega)).2.2.2
      · rw [show gi ((List.range l0).map fun i => (⟨(q i).1, (q i).2.1, (q i).2.2⟩ : WStep)) i = default by unfold gi; rw [List.getD_eq_getElem?_getD, List.getElem?_eq_none (by simp; omega)]; rfl]
        decide
    · simp only [List.length_map, List.length_range]
      have : (maxLen : Nat) = 9223372036854775807 := by decide
      omega
def cAcc : Array Value := #[.int .u8 128, .int .u8 191, .int .u8 160, .int .u8 191, .int .u8 128, .int .u8 159, .int .u8 144, .int .u8 191, .int .u8 128, .int .u8 143, .int .u8 0, .int .u8 0, .int .u8 0, .int .u8 0, .int .u8 0, .int .u8 0, .int .u8 0, .int .u8 0, .int .u8 0, .int .u8 0, .int .u8 0, .int .u8 0, .int .u8 0, .int .u8 0, .int .u8 0, .int .u8 0, .int .u8 0, .int .u8 0, .int .u8 0, .int .u8 0, .int .u8 0, .int .u8 0]
def cFirst : Array Value := (Pinned.utf8FirstZ.map fun (n : Nat) => Value.int .u8 (n : Int)).toArray
def putCells (cs : Array Value) : Obj → Obj
  | .cells _ t frozen => .cells cs t frozen
  | o => o
/-- The settled world, its tables as their initialisers lay them. -/
noncomputable def laidWorld (os : Os) : World :=
  { World.holding Tryz.prog os ⟨#[], #[], []⟩ with heap := ((World.holding Tryz.prog os ⟨#[], #[], []⟩).heap.modify 1 (putCells cFirst)).modify 2 (putCells cAcc) }
theorem laid_met (os : Os) (args : Array Value) : laidMet Tryz.prog Rows.simplifyDeviatesRow.laid ((laidWorld os).forCall (fun _ _ => 0) ⟨#[], args, []⟩).memory :=
  laidMet_of_run3 8 (by kernel_rfl) (by kernel_rfl) (by kernel_rfl)
end Go.Proofs.YtgcjapcminakdaaGreatDoor
/- A region that draws its order: values, then effects, then values that look at what the effects brought. Conditions: the closed check 'late3B'. -/
set_option linter.unusedSimpArgs false
set_option linter.unusedVariables false
set_option linter.unusedSectionVars false
namespace Go.Vt
open Go.RowKit
section
variable {P : Program} {w0 : World} {n : Nat} {ops : Array Oper} {L L' Lw : List Blk} {E : Env}
variable {Q : Exit → Act → World → Prop} {Z : List Nat}
def lexF (ops : Array Oper) (k : Array Bool → Bool) : List Nat → Array Bool → Bool
  | [], listed => k listed
  | h :: hs, listed => (Region.ready .any ops listed).contains h && Region.free .any ops listed h && lexF ops k hs (listed.setIfInBounds h true)
def seqF (ops : Array Oper) (k : Array Bool → Bool) : List Nat → Array Bool → Bool
  | [], listed => k listed
  | i :: es, listed => decide (Region.ready .any ops listed = [i]) && seqF ops k es (listed.setIfInBounds i true)
def late3B (ops : Array Oper) (hs es ts : List Nat) : Bool :=
  Region.noSelect ops && decide (hs.length + (es.length + ts.length) = ops.size) && lexF ops (seqF ops (lexG ops [] ts) es) hs (Array.replicate ops.size false)
theorem wpG_of_ecF {F G : List Blk → Act → Prop} {N : Nat} {k : Array Bool → Bool} (hk : ∀ listed L a, k listed = true → Weak w0 Lw L → G L a → wpG P w0 ops [] Lw F N listed [] L a) : ∀ (es : List Nat) (listed : Array Bool) (L : List Blk) (a : Act), seqF ops k es listed = true → Weak w0 Lw L → EC P w0 ops [] Lw G es L a → wpG P w0 ops [] Lw F (es.length + N) listed es L a
  | [], listed, L, a, hB, hw, h => by
    rw [List.length_nil, Nat.zero_add]
    exact hk listed L a hB hw h
  | i :: es, listed, L, a, hB, hw, h => by
    simp only [seqF, Bool.and_eq_true, decide_eq_true_eq] at hB
    rw [show (i :: es).length + N = (es.length + N) + 1 by simp only [List.length_cons]; omega]
    refine ⟨by rw [hB.1]; simp, fun j hj => ?_⟩
    rw [hB.1] at hj
    have : j = i := by simpa using hj
    subst this
    obtain ⟨o, ho, hE⟩ := h
    exact ⟨o, ho, .inr ⟨es, rfl, hE.mono fun L' u hw' hK => wpG_of_ecF hk es _ _ _ hB.2 hw' hK⟩⟩
theorem wpG_of_ahF {l : List Oper} {F : List Blk → Act → Prop} {es : List Nat} {G : Act → Prop} {N : Nat} {k : Array Bool → Bool} (hk : ∀ listed a, k listed = true → G a → wpG P w0 l.toArray [] Lw F N listed es L a) (hsel : Region.noSelect l.toArray = true) (hw : Weak w0 Lw L) : ∀ (hs : List Nat) (listed : Array Bool) (a : Act), lexF l.toArray k hs listed = true →
    AH P w0 Lw l.toArray G (picks l hs) a → wpG P w0 l.toArray [] Lw F (hs.length + N) listed es L a
  | [], listed, a, hB, h => by
    rw [List.length_nil, Nat.zero_add]
    exact hk listed a hB h
  | i :: hs, listed, a, hB, h => by
    simp only [lexF, Bool.and_eq_true] at hB
    obtain ⟨⟨hr, hf⟩, hB'⟩ := hB
    have hr' : i ∈ Region.ready .any l.toArray listed := by simpa using hr
    obtain ⟨_, o, ho, _⟩ := mem_ready.1 hr'
    have ho' : l[i]? = some o := by simpa using ho
    simp only [picks, ho', AH] at h
    obtain ⟨v, hy, h⟩ := h
    rw [show (i :: hs).length + N = (hs.length + N) + 1 by simp only [List.length_cons]; omega]
    exact wpG_first ho (Region.noSelect_spec hsel) (fun z o hz _ => by simp at hz) _ _ _ _ _ (Region.free_spec ho hf) hr' hy hw (wpG_of_ahF hk hsel hw hs _ _ hB' h)
theorem j_late3 {id : Nat} {l : List Oper} (hs es ts : List Nat) (Lw : List Blk) (hm : P.follows .mixedOrders = true) (hB : late3B l.toArray hs es ts = true) (he : es.all (fun i => decide (i < l.length)) = true) (hL : Lw.Sublist L)
    (h : JH P w0 n Lw l.toArray (fun E' => JE P w0 n l.toArray Lw (fun E1 L1 => JH P w0 n Lw l.toArray (fun E2 => JX w0 n .normal Q E2 L1) (picks l ts) E1) (picks l es) E' L) (picks l hs) E) : J P w0 n (.region id l.toArray true) Q E L := by
  refine ⟨fun a w ha hw => ?_⟩
  simp only [late3B, Bool.and_eq_true, decide_eq_true_eq] at hB
  obtain ⟨⟨hsel, hlen⟩, hlex⟩ := hB
  refine wp_region_any hm ?_
  have H : wpG P w0 l.toArray [] Lw (fun L a => ∀ w, Own w0 L w → Q .normal a w) (hs.length + (es.length + (ts.length + ([] : List Nat).length))) (Array.replicate l.toArray.size false) es L a :=
    wpG_of_ahF (k := seqF l.toArray (lexG l.toArray [] ts) es) (G := fun a => EC P w0 l.toArray [] Lw (fun L1 a1 => AH P w0 Lw l.toArray (fun a2 => ∀ w, Own w0 L1 w → Q .normal a2 w) (picks l ts) a1) es L a) (fun listed a hb hG => wpG_of_ecF (fun listed L1 a1 hb1 hw1 hG1 => wpG_of_ah hsel hw1 ts listed a1 rfl hb1 hG1) es listed L a hb (weak_sub hL) hG) hsel (weak_sub hL) hs _ a hlex
      (ah_of_jh (n := n) (fun E' a' ha' hK => ec_of_je (n := n) (Lj := Lw) (fun E1 L1 a1 ha1 h1 => ah_of_jh (n := n) (fun E2 a2 ha2 hx w hw => hx.out a2 w ha2 hw) _ _ _ ha1 h1) es E' L a' he (fun _ _ => rfl) ha' hK) _ _ _ ha h)
  have := wpAny_of_wpG (P := P) (Q := Q) (fun L a w hF hw => hF w hw) _ _ _ _ _ w.drew (hw.to (Ext.drew w)) H
  rw [List.length_nil, Nat.add_zero, hlen] at this
  exact this
def phB (ops : Array Oper) : List (List Nat × List Nat) → Array Bool → Bool
  | [], listed => (Region.ready .any ops listed).isEmpty
  | p :: ps, listed => lexF ops (seqF ops (phB ops ps) p.2) p.1 listed
def phN : List (List Nat × List Nat) → Nat
  | [] => 0
  | p :: ps => p.1.length + (p.2.length + phN ps)
def phE : List (List Nat × List Nat) → List Nat
  | [] => []
  | p :: ps => p.2 ++ phE ps
def phA (ops : Array Oper) (ps : List (List Nat × List Nat)) : Bool :=
  Region.noSelect ops && decide (phN ps = ops.size) && ps.all (fun p => p.2.all (fun i => decide (i < ops.size))) && phB ops ps (Array.replicate ops.size false)
def PH (P : Program) (w0 : World) (l : List Oper) (Lw : List Blk) (F : List Blk → Act → Prop) : List (List Nat × List Nat) → List Blk → Act → Prop
  | [], L, a => F L a
  | p :: ps, L, a => AH P w0 Lw l.toArray (fun a1 => EC P w0 l.toArray [] Lw (fun L1 a2 => PH P w0 l Lw F ps L1 a2) p.2 L a1) (picks l p.1) a
/-- The phases under an environment. -/
def JP (P : Program) (w0 : World) (n : Nat) (l : List Oper) (Lw : List Blk) (K : Env → List Blk → Prop) : List (List Nat × List Nat) → Env → List Blk → Prop
  | [], E, L => K E L
  | p :: ps, E, L => JH P w0 n Lw l.toArray (fun E' => JE P w0 n l.toArray Lw (fun E1 L1 => JP P w0 n l Lw K ps E1 L1) (picks l p.2) E' L) (picks l p.1) E
theorem wpG_of_ecR {F G : List Blk → Act → Prop} {N : Nat} {R : List Nat} {k : Array Bool → Bool} (hk : ∀ listed L a, k listed = true → Weak w0 Lw L → G L a → wpG P w0 ops [] Lw F N listed R L a) : ∀ (es : List Nat) (listed : Array Bool) (L : List Blk) (a : Act), seqF ops k es listed = true → Weak w0 Lw L → EC P w0 ops [] Lw G es L a → wpG P w0 ops [] Lw F (es.length + N) listed (es ++ R) L a
  | [], listed, L, a, hB, hw, h => by
    rw [List.length_nil, Nat.zero_add]
    exact hk listed L a hB hw h
  | i :: es, listed, L, a, hB, hw, h => by
    simp only [seqF, Bool.and_eq_true, decide_eq_true_eq] at hB
    rw [show (i :: es).length + N = (es.length + N) + 1 by simp only [List.length_cons]; omega]
    refine ⟨by rw [hB.1]; simp, fun j hj => ?_⟩
    rw [hB.1] at hj
    have : j = i := by simpa using hj
    subst this
    obtain ⟨o, ho, hE⟩ := h
    exact ⟨o, ho, .inr ⟨es ++ R, rfl, hE.mono fun L' u hw' hK => wpG_of_ecR hk es _ _ _ hB.2 hw' hK⟩⟩
theorem wpG_of_ph {l : List Oper} {F : List Blk → Act → Prop} (hsel : Region.noSelect l.toArray = true) : ∀ (ps : List (List Nat × List Nat)) (listed : Array Bool) (L : List Blk) (a : Act), phB l.toArray ps listed = true → Weak w0 Lw L → PH P w0 l Lw F ps L a → wpG P w0 l.toArray [] Lw F (phN ps) listed (phE ps) L a
  | [], listed, L, a, hB, hw, h => ⟨rfl, by simpa [phB] using hB, h⟩
  | p :: ps, listed, L, a, hB, hw, h =>
    wpG_of_ahF (fun listed a1 hb hG => wpG_of_ecR (fun listed L1 a2 hb2 hw2 hG2 => wpG_of_ph hsel ps listed L1 a2 hb2 hw2 hG2) p.2 listed L a1 hb hw hG) hsel hw p.1 listed a hB h
theorem ph_of_jp {l : List Oper} {K : Env → List Blk → Prop} {F : List Blk → Act → Prop} (hK : ∀ E L a, Rep n E a → K E L → F L a) : ∀ (ps : List (List Nat × List Nat)) (E : Env) (L : List Blk) (a : Act), ps.all (fun p => p.2.all (fun i => decide (i < l.length))) = true → Rep n E a → JP P w0 n l Lw K ps E L → PH P w0 l Lw F ps L a
  | [], E, L, a, _, ha, h => hK E L a ha h
  | p :: ps, E, L, a, hi, ha, h => by
    simp only [List.all_cons, Bool.and_eq_true] at hi
    exact ah_of_jh (n := n) (fun E' a' ha' hK' => ec_of_je (n := n) (Lj := Lw) (fun E1 L1 a1 ha1 h1 => ph_of_jp hK ps E1 L1 a1 hi.2 ha1 h1) p.2 E' L a' hi.1 (fun _ _ => rfl) ha' hK') _ _ _ ha h
theorem j_phases {id : Nat} {l : List Oper} (ps : List (List Nat × List Nat)) (Lw : List Blk) (hm : P.follows .mixedOrders = true) (hB : phA l.toArray ps = true) (hL : Lw.Sublist L)
    (h : JP P w0 n l Lw (fun E2 L2 => JX w0 n .normal Q E2 L2) ps E L) : J P w0 n (.region id l.toArray true) Q E L := by
  refine ⟨fun a w ha hw => ?_⟩
  simp only [phA, Bool.and_eq_true, decide_eq_true_eq] at hB
  obtain ⟨⟨⟨hsel, hlen⟩, hall⟩, hlex⟩ := hB
  refine wp_region_any hm ?_
  have H := wpG_of_ph (P := P) (F := fun L a => ∀ w, Own w0 L w → Q .normal a w) hsel ps _ L a hlex (weak_sub hL) (ph_of_jp (n := n) (fun E2 L2 a2 ha2 hx w hw => hx.out a2 w ha2 hw) ps E L a (by simpa using hall) ha h)
  have := wpAny_of_wpG (P := P) (Q := Q) (fun L a w hF hw => hF w hw) _ _ _ _ _ w.drew (hw.to (Ext.drew w)) H
  rw [hlen] at this
  exact this
end
section
variable {P : Program} {w0 : World} {n : Nat} {ops : Array Oper} {L Lw : List Blk} {E : Env} {K : Env → List Blk → Prop} {rest : List Oper} {v : Value} {op : Op} {S : Prop}
variable {ty : TypeId} {pos : String} {aft : Array Edge} {gd : Option (Nat × Bool)} {t : Tmp}
theorem eV (h : Yl P w0 n L E ⟨some t, op, ty, pos, aft, gd⟩ v) (hg : guardB ops E gd = some true) (hd : Nat.blt t n = true) (hw : Lw.Sublist L) (k : JE P w0 n ops Lw K rest ((t, v) :: E) L) : JE P w0 n ops Lw K (⟨some t, op, ty, pos, aft, gd⟩ :: rest) E L :=
  ⟨hg, hd, Unit, fun _ => v, fun _ => L, fun a w ha hw => by
    have h1 := h.out a w ha hw
    unfold calm at h1
    generalize (execOp a.eval ⟨some t, op, ty, pos, aft, gd⟩).run P w = r at *
    cases r with
    | ok x w' =>
      cases x <;> simp only [calmUpon] at h1 <;> simp only [Hap]
      case value u => exact ⟨(), h1.1, hw.to h1.2⟩
      case skip => exact ⟨(), h1.1.symm, hw.to h1.2⟩
      case enter f args =>
        obtain ⟨rfl, h2⟩ := h1
        exact h2.mono fun e w'' ⟨he, hx⟩ => ⟨_, he, (), rfl, hw.to hx⟩
    | halt x w' => simp only [calmUpon] at h1, fun _ => weak_sub hw, fun _ => k⟩
theorem uS [h : YsC P w0 n L E op v S] (hg : guardB ops E gd = some true) (hd : Nat.blt t n = true) [hw : SblC Lw L] (s : S) (k : JE P w0 n ops Lw K rest ((t, v) :: E) L) : JE P w0 n ops Lw K (⟨some t, op, ty, pos, aft, gd⟩ :: rest) E L := eV (h.out s _ _ _ _ _) hg hd hw.out k
theorem uC [h : YcC P w0 n L E op v S] (hg : guardB ops E gd = some true) (hd : Nat.blt t n = true) [hw : SblC Lw L] (s : S) (k : JE P w0 n ops Lw K rest ((t, v) :: E) L) : JE P w0 n ops Lw K (⟨some t, op, ty, pos, aft, gd⟩ :: rest) E L := eV (h.out s _ _ _ _ _) hg hd hw.out k
theorem uW [h : YwC P w0 n L E op v] (hg : guardB ops E gd = some true) (hd : Nat.blt t n = true) [hw : SblC Lw L] (k : JE P w0 n ops Lw K rest ((t, v) :: E) L) : JE P w0 n ops Lw K (⟨some t, op, ty, pos, aft, gd⟩ :: rest) E L := eV (h.out _ _ _ _ _) hg hd hw.out k
theorem uP {c x y : Operand} (hc : Env.ev E c = some (.bool true)) (hx : Env.ev E x = some v) (hg : guardB ops E gd = some true) (hd : Nat.blt t n = true) [hw : SblC Lw L] (k : JE P w0 n ops Lw K rest ((t, v) :: E) L) : JE P w0 n ops Lw K (⟨some t, .pick c x y, ty, pos, aft, gd⟩ :: rest) E L := eV (wl_pickT hc hx) hg hd hw.out k
theorem uQ {c x y : Operand} (hc : Env.ev E c = some (.bool false)) (hx : Env.ev E y = some v) (hg : guardB ops E gd = some true) (hd : Nat.blt t n = true) [hw : SblC Lw L] (k : JE P w0 n ops Lw K rest ((t, v) :: E) L) : JE P w0 n ops Lw K (⟨some t, .pick c x y, ty, pos, aft, gd⟩ :: rest) E L := eV (wl_pickF hc hx) hg hd hw.out k
end
end Go.Vt
/- Slices of the call's own that may be nil, under the program logic: how they lie, appends onto them, their handing on. Conditions: those that each rule names. -/
set_option linter.unusedSimpArgs false
set_option linter.unusedVariables false
set_option linter.unusedSectionVars false
namespace Go.Vt
open Go.RowKit
/-- How a list lies: nowhere, or in a block: its number, its capacity, what lies spare. -/
structure SlS {α : Type} (enc : α → Array Value) (k : Nat) (xs : List α) where
  s : Option (Nat × Nat × List Value)
  nil : s = none ↔ xs = []
  ok : ∀ t, s = some t → xs.length ≤ t.2.1 ∧ t.2.2.length = (t.2.1 - xs.length) * k
section
variable {α : Type} {enc : α → Array Value} {k : Nat} {xs : List α}
def SlS.no : SlS enc k [] := ⟨none, ⟨fun _ => rfl, fun _ => rfl⟩, (fun _ h => by cases h)⟩
def SlS.at_ (b c : Nat) (sp : List Value) (h : xs.length ≤ c ∧ sp.length = (c - xs.length) * k) (h0 : xs ≠ []) : SlS enc k xs := ⟨some (b, c, sp), ⟨fun h => by (cases h), fun h => absurd h h0⟩, (fun t ht => by injection ht with ht; subst ht; exact h)⟩
def vO (n : Nat) : Option (Nat × Nat × List Value) → Value
  | none => .slice none 0 0
  | some t => .slice (some ⟨t.1, 0, none⟩) n t.2.1
def mO (enc : α → Array Value) (T : TypeId) (xs : List α) : Option (Nat × Nat × List Value) → List Blk
  | none => []
  | some t => [⟨t.1, row enc xs t.2.2, T⟩]
/-- The slice, and its block. -/
def vSl (s : SlS enc k xs) : Value := vO xs.length s.s
def mS (T : TypeId) (s : SlS enc k xs) : List Blk := mO enc T xs s.s
theorem SlS.cases (T : TypeId) (s : SlS enc k xs) : (xs = [] ∧ vSl s = .slice none 0 0 ∧ mS T s = []) ∨ ∃ b c sp, (xs.length ≤ c ∧ sp.length = (c - xs.length) * k) ∧ vSl s = .slice (some ⟨b, 0, none⟩) xs.length c ∧ mS T s = [⟨b, row enc xs sp, T⟩] ∧ xs ≠ [] := by
  obtain ⟨s, h1, h2⟩ := s
  cases s with
  | none => exact .inl ⟨h1.1 rfl, rfl, rfl⟩
  | some t => exact .inr ⟨t.1, t.2.1, t.2.2, h2 t rfl, rfl, rfl, fun h => by have := h1.2 h; cases this⟩
end
/-- The list of blocks begins, after turns, with those of a slice. -/
class OwnS {α : Type} {enc : α → Array Value} {k : Nat} {xs : List α} (T : outParam TypeId) (s : SlS enc k xs) (L : List Blk) (L1 : outParam (List Blk)) : Prop where
  out : L.Perm (mS T s ++ L1)
section
variable {α : Type} {enc : α → Array Value} {k : Nat} {xs : List α}
instance (priority := high) osHere (T : TypeId) (s : SlS enc k xs) (L : List Blk) : OwnS T s (mS T s ++ L) L := ⟨.refl _⟩
instance (priority := high) osHere0 (T : TypeId) (s : SlS enc k xs) : OwnS T s (mS T s) [] := ⟨by rw [List.append_nil]⟩
instance (priority := low) osThere (T : TypeId) (s : SlS enc k xs) (e : Blk) (L L1 : List Blk) [h : OwnS T s L L1] : OwnS T s (e :: L) (e :: L1) := ⟨(h.out.cons e).trans (List.perm_middle.symm)⟩
instance (priority := low) osSkip {β : Type} {enc' : β → Array Value} {k' : Nat} {ys : List β} (T T' : TypeId) (s : SlS enc k xs) (u : SlS enc' k' ys) (L L1 : List Blk) [h : OwnS T s L L1] : OwnS T s (mS T' u ++ L) (mS T' u ++ L1) := ⟨by
  refine (h.out.append_left _).trans ?_
  rw [← List.append_assoc, ← List.append_assoc]
  exact (List.perm_append_comm).append_right _⟩
instance (priority := low) delSkip (A : List Blk) (b : Nat) (cs : Array Value) (T : TypeId) (L L1 : List Blk) [h : DelC b L cs T L1] : DelC b (A ++ L) cs T (A ++ L1) := ⟨(h.out.append_left A).trans List.perm_middle⟩
instance (priority := high) sblP (X A B : List Blk) [h : SblC A B] : SblC (X ++ A) (X ++ B) := ⟨h.out.append_left X⟩
instance (priority := high) sblR (X : List Blk) : SblC X X := ⟨List.Sublist.refl _⟩
/-- A slice that is known, the call's own or not. -/
class LstC (w0 : World) (L : List Blk) (v : Value) (α : outParam Type) (enc : outParam (α → Array Value)) (xs : outParam (List α)) : Prop where
  out : ∀ w, Own w0 L w → ArgS w v enc xs
end
instance (priority := low) lstArg (w0 : World) (L : List Blk) (v : Value) (α : Type) (enc : α → Array Value) (xs : List α) [h : ArgC w0 v α enc xs] : LstC w0 L v α enc xs := ⟨fun _ hw => h.out.to hw.ext⟩
theorem argS_row {α : Type} {enc : α → Array Value} {k : Nat} [he : EncC enc k] {w : World} {b c : Nat} {xs : List α} {sp : List Value} {T : TypeId} {fz : Nat × Nat} (hb : w.heap[b]? = some (.cells (row enc xs sp) T fz)) (hc : xs.length ≤ c) : ArgS w (.slice (some ⟨b, 0, none⟩) xs.length c) enc xs := by
  refine ⟨.inr ⟨⟨b, 0, none⟩, c, rfl, hc, fun i f k' u hi hk hu => ?_⟩⟩
  rw [addr_add, cell_block hb]
  obtain rfl : k' = k := by rw [← hk xs[i]]; exact he.size _
  have hf : f < k' := by
    rcases Nat.lt_or_ge f k' with h1 | h1
    · exact h1
    · rw [Array.getElem?_eq_none (by rw [hk]; exact h1)] at hu
      cases hu
  rw [Nat.zero_add, row_get xs sp i f hi hf]
  exact hu
instance lstOwn {α : Type} {enc : α → Array Value} {k : Nat} {xs : List α} [he : EncC enc k] (w0 : World) (L L1 : List Blk) (T : TypeId) (s : SlS enc k xs) [h : OwnS T s L L1] : LstC w0 L (vSl s) α enc xs := ⟨fun w hw => by
  have hp := hw.perm h.out
  rcases s.cases T with ⟨rfl, hv, hm⟩ | ⟨b, c, sp, h1, hv, hm, -⟩
  · rw [hv]
    exact ⟨.inl ⟨rfl, rfl⟩⟩
  · rw [hm] at hp
    rw [hv]
    obtain ⟨fz, hb⟩ : ∃ fz, w.heap[b]? = some (.cells (row enc xs sp) T fz) := ⟨(0, 0), (hp.mem _ (.head _)).2⟩
    exact argS_row hb h1.1⟩
section
variable {P : Program} {w0 : World} {n : Nat} {ops : Array Oper} {L L1 : List Blk} {E : Env}
variable {Q : Exit → Act → World → Prop} {rest : List Oper}
variable {ty : TypeId} {pos : String} {aft : Array Edge} {gd : Option (Nat × Bool)} {t : Tmp} {x y : Operand}
instance yk_len_vS {α : Type} {enc : α → Array Value} {k : Nat} {xs : List α} {S e : TypeId} {s : SlS enc k xs} [hx : IsC (evl E x) (vSl s)] [hu : UndC P S (.slice e)] : YlC P w0 n L E (.call ⟨.builtin .len, #[x], #[S]⟩) (.int .i64 xs.length) := ⟨fun d ty pos aft gd => by
  rcases s.cases 0 with ⟨rfl, hv, -⟩ | ⟨b, c, sp, h1, hv, -, -⟩
  · have : IsC (evl E x) (.slice none 0 0) := ⟨by rw [hx.out, hv]⟩
    exact (yk_len_sl (P := P) (w0 := w0) (n := n) (L := L) (E := E) (x := x) (S := S) (e := e) (p := none) (l := 0) (c := 0)).out d ty pos aft gd
  · have : IsC (evl E x) (.slice (some ⟨b, 0, none⟩) xs.length c) := ⟨by rw [hx.out, hv]⟩
    exact (yk_len_sl (P := P) (w0 := w0) (n := n) (L := L) (E := E) (x := x) (S := S) (e := e) (p := some ⟨b, 0, none⟩) (l := xs.length) (c := c)).out d ty pos aft gd⟩
section
variable {α : Type} {enc : α → Array Value} {S T T2 : TypeId} {b2 m c2 k B : Nat} {xs ys : List α} {z : Value} {zc : Array Value} {s : SlS enc k xs}
variable [hx : IsC (evl E x) (vSl s)] [hy : IsC (evl E y) (.slice (some ⟨b2, 0, none⟩) m c2)] [hd : OwnS T s L L1] [h2 : AtC w0 L b2 (row enc ys []) T2] [hT : UndC P S (.slice T)] [hz : ZeroC P T z zc] [he : EncC enc k] [hk : SizeC P T k] [hB : BytesC P T B]
include hx hy hd h2 hT hz he hk hB
theorem app_runU (hm : ys.length = m) (hzk : zc.size = k) (hb : 0 < m ∧ (xs.length + m) * B ≤ 140737488355328 ∧ xs.length + m ≤ 9223372036854775807) (a : Act) (w : World) (ha : Rep n E a) (hw : Own w0 L w) :
    ∃ s' : SlS enc k (xs ++ ys), ∃ w', (execOp a.eval ⟨some t, .call ⟨.builtin .append, #[x, y], #[S, S]⟩, ty, pos, aft, gd⟩).run P w = .ok (.value (vSl s')) w' ∧ Own w0 (mS T s' ++ L1) w' := by
  have hp := hw.perm hd.out
  have hlen : (xs ++ ys).length = xs.length + m := by rw [List.length_append, hm]
  have hne : xs ++ ys ≠ [] := fun h0 => by rw [h0, List.length_nil] at hlen; omega
  obtain ⟨fz, hf⟩ := h2.out w hw
  rcases s.cases T with ⟨rfl, hv, hm0⟩ | ⟨b, c, sp, h1, hv, hm1, -⟩
  · have hx' : Env.ev E x = some (.slice none 0 0) := by rw [← evl_ev, hx.out, hv]
    rw [hm0, List.nil_append] at hp
    obtain ⟨s, w', hr, ho⟩ := run_app_nil (L := L1) (ty := ty) (b2 := b2) (off2 := 0) (m := m) (c2 := c2) (news := rowL enc ys) hT.out hz.out hz.cells hk.out hB.out hzk hp ⟨T2, fz, hf⟩ (by rw [rowL_len (k := k), hm]) (fun j u hu => by rw [Nat.zero_add]; simpa [row] using hu) hb.1 (by simpa using hb.2.1) (by simpa using hb.2.2)
    refine ⟨SlS.at_ s.1.1 s.1.2.1 s.1.2.2 (by rw [List.nil_append, hm]; exact s.2) hne, w', ?_, ho⟩
    have h3 := run_appop (d := some t) (pos := pos) (aft := aft) (gd := gd) ha hx' (isE (x := y)) hr
    rw [h3]
    show _ = Result.ok (Next.value (Value.slice _ ([] ++ ys).length _)) w'
    rw [List.nil_append, hm]
  · have hx' : Env.ev E x = some (.slice (some ⟨b, 0, none⟩) xs.length c) := by rw [← evl_ev, hx.out, hv]
    rw [hm1] at hp
    obtain ⟨s, w', hr, ho⟩ := run_app (L1 := L1) (ty := ty) (b := b) (len := xs.length) (c := c) (b2 := b2) (off2 := 0) (m := m) (c2 := c2) (xs := rowL enc xs) (sp := sp) (news := rowL enc ys) hT.out hz.out hz.cells hk.out hB.out hzk hp (.refl _) (rowL_len xs) h1.2 h1.1 ⟨T2, fz, hf⟩ (by rw [rowL_len (k := k), hm]) (fun j u hu => by rw [Nat.zero_add]; simpa [row] using hu) (row_one ys) hb.2.1 hb.2.2
    refine ⟨SlS.at_ s.1.1 s.1.2.1 s.1.2.2 (by rw [hlen]; exact s.2) hne, w', ?_, ?_⟩
    · have h3 := run_appop (d := some t) (pos := pos) (aft := aft) (gd := gd) ha hx' (isE (x := y)) hr
      rw [h3]
      show _ = Result.ok (Next.value (Value.slice _ (xs ++ ys).length _)) w'
      rw [hlen]
    · show Own w0 (⟨s.1.1, row enc (xs ++ ys) s.1.2.2, T⟩ :: L1) w'
      rw [row, rowL_append]
      exact ho
theorem sU (hg : guardB ops E gd = some true) (hd' : Nat.blt t n = true) (hm : ys.length = m) (hzk : zc.size = k) (hb : 0 < m ∧ (xs.length + m) * B ≤ 140737488355328 ∧ xs.length + m ≤ 9223372036854775807)
    (h : ∀ s' : SlS enc k (xs ++ ys), JO P w0 n ops Q rest ((t, vSl s') :: E) (mS T s' ++ L1)) : JO P w0 n ops Q (⟨some t, .call ⟨.builtin .append, #[x, y], #[S, S]⟩, ty, pos, aft, gd⟩ :: rest) E L :=
  jo_w (L' := SlS enc k (xs ++ ys)) (o := ⟨some t, .call ⟨.builtin .append, #[x, y], #[S, S]⟩, ty, pos, aft, gd⟩) hg hd' (fun s => vSl s) (fun s => mS T s ++ L1)
    (fun a w ha hw => by
      obtain ⟨s, w', hr, ho⟩ := app_runU (hx := hx) (hy := hy) (hd := hd) (h2 := h2) (hT := hT) (hz := hz) (he := he) (hk := hk) (hB := hB) hm hzk hb a w ha hw
      exact ⟨s, w', .inl hr, ho⟩) h
theorem eU {K : Env → List Blk → Prop} {Lw : List Blk} (hg : guardB ops E gd = some true) (hd' : Nat.blt t n = true) [hw : SblC Lw L1] (hm : ys.length = m) (hzk : zc.size = k) (hb : 0 < m ∧ (xs.length + m) * B ≤ 140737488355328 ∧ xs.length + m ≤ 9223372036854775807)
    (h : ∀ s' : SlS enc k (xs ++ ys), JE P w0 n ops Lw K rest ((t, vSl s') :: E) (mS T s' ++ L1)) : JE P w0 n ops Lw K (⟨some t, .call ⟨.builtin .append, #[x, y], #[S, S]⟩, ty, pos, aft, gd⟩ :: rest) E L :=
  je_old (S := SlS enc k (xs ++ ys)) (o := ⟨some t, .call ⟨.builtin .append, #[x, y], #[S, S]⟩, ty, pos, aft, gd⟩) hg hd' (fun s => vSl s) (fun s => mS T s ++ L1)
    (fun a w ha hw => by
      obtain ⟨s, w', hr, ho⟩ := app_runU (hx := hx) (hy := hy) (hd := hd) (h2 := h2) (hT := hT) (hz := hz) (he := he) (hk := hk) (hB := hB) hm hzk hb a w ha hw
      exact ⟨s, w', .inl hr, ho⟩) (fun _ => weak_sub (hw.out.trans (List.sublist_append_right _ _))) h
end
section
variable {α : Type} {enc : α → Array Value} {S T : TypeId} {b c b2 o2 m c2 k B : Nat} {ys : List α} {sp : List Value} {z : Value} {zc : Array Value}
variable [hx : IsC (evl E x) (.slice (some ⟨b, 0, none⟩) 0 c)] [hy : IsC (evl E y) (.slice (some ⟨b2, o2, none⟩) m c2)] [hd : DelC b L (row enc [] sp) T L1] [h2 : RowC w0 L b2 o2 α enc ys] [hT : UndC P S (.slice T)] [hz : ZeroC P T z zc] [he : EncC enc k] [hk : SizeC P T k] [hB : BytesC P T B]
include hx hy hd h2 hT hz he hk hB
theorem app_runG (hm : ys.length = m) (hne : ys ≠ []) (hs : sp.length = c * k) (hzk : zc.size = k) (hk0 : 0 < k) (hb : m * B ≤ 140737488355328 ∧ m ≤ 9223372036854775807) (a : Act) (w : World) (ha : Rep n E a) (hw : Own w0 L w) :
    ∃ s' : SlS enc k ys, ∃ w', (execOp a.eval ⟨some t, .call ⟨.builtin .append, #[x, y], #[S, S]⟩, ty, pos, aft, gd⟩).run P w = .ok (.value (vSl s')) w' ∧ Own w0 (mS T s' ++ L1) w' := by
  obtain ⟨cs, T2, fz, hf, hcell⟩ := h2.out w hw
  have hcs : ∀ j u, (rowL enc ys)[j]? = some u → cs[o2 + j]? = some u := fun j u hu => by
    have hj : j < (rowL enc ys).length := by
      rcases Nat.lt_or_ge j (rowL enc ys).length with h | h
      · exact h
      · rw [List.getElem?_eq_none h] at hu; cases hu
    rw [rowL_len (k := k)] at hj
    obtain ⟨q, f, rfl, hf'⟩ : ∃ q f, j = q * k + f ∧ f < k := ⟨j / k, j % k, by rw [Nat.mul_comm]; exact (Nat.div_add_mod j k).symm, Nat.mod_lt _ hk0⟩
    have hq : q < ys.length := by
      rcases Nat.lt_or_ge q ys.length with h3 | h3
      · exact h3
      · have := Nat.mul_le_mul_right k h3
        omega
    rw [rowL_get ys q f hq hf'] at hu
    rw [← Nat.add_assoc]
    exact (hcell q f k u hq he.size hu).1
  obtain ⟨⟨⟨b', c', sp'⟩, hs1⟩, w', hr, ho⟩ := run_app (L1 := L1) (ty := ty) (b := b) (len := 0) (c := c) (b2 := b2) (off2 := o2) (m := m) (c2 := c2) (xs := []) (sp := sp) (news := rowL enc ys) hT.out hz.out hz.cells hk.out hB.out hzk hw (by simpa [row, rowL_nil] using hd.out) (by simp) (by simpa using hs) (Nat.zero_le _) ⟨T2, fz, hf⟩ (by rw [rowL_len (k := k), hm]) hcs (row_one ys) (by simpa using hb.1) (by simpa using hb.2)
  simp only [Nat.zero_add] at hs1 hr ho
  refine ⟨SlS.at_ b' c' sp' (by rw [hm]; exact hs1) hne, w', ?_, ?_⟩
  · have h3 := run_appop (d := some t) (pos := pos) (aft := aft) (gd := gd) ha (isE (x := x)) (isE (x := y)) hr
    rw [h3]
    show _ = Result.ok (Next.value (Value.slice _ ys.length _)) w'
    rw [hm]
  · show Own w0 (⟨b', row enc ys sp', T⟩ :: L1) w'
    simpa [row] using ho
theorem sG (hg : guardB ops E gd = some true) (hd' : Nat.blt t n = true) (hm : ys.length = m) (hne : ys ≠ []) (hs : sp.length = c * k) (hzk : zc.size = k) (hk0 : 0 < k) (hb : m * B ≤ 140737488355328 ∧ m ≤ 9223372036854775807)
    (h : ∀ s' : SlS enc k ys, JO P w0 n ops Q rest ((t, vSl s') :: E) (mS T s' ++ L1)) : JO P w0 n ops Q (⟨some t, .call ⟨.builtin .append, #[x, y], #[S, S]⟩, ty, pos, aft, gd⟩ :: rest) E L :=
  jo_w (L' := SlS enc k ys) (o := ⟨some t, .call ⟨.builtin .append, #[x, y], #[S, S]⟩, ty, pos, aft, gd⟩) hg hd' (fun s => vSl s) (fun s => mS T s ++ L1)
    (fun a w ha hw => by
      obtain ⟨s, w', hr, ho⟩ := app_runG (hx := hx) (hy := hy) (hd := hd) (h2 := h2) (hT := hT) (hz := hz) (he := he) (hk := hk) (hB := hB) hm hne hs hzk hk0 hb a w ha hw
      exact ⟨s, w', .inl hr, ho⟩) h
end
end
/-- A list that is made from another one, element by element. -/
def mpN {α β : Type} [Inhabited α] (f : α → β) (xs : List α) : Nat → List β
  | 0 => []
  | m + 1 => mpN f xs m ++ [f (gi xs (m : Int))]
theorem mpN_len {α β : Type} [Inhabited α] (f : α → β) (xs : List α) : ∀ m, (mpN f xs m).length = m
  | 0 => rfl
  | m + 1 => by rw [mpN, List.length_append, mpN_len f xs m]; rfl
theorem mpN_take {α β : Type} [Inhabited α] (f : α → β) (xs : List α) : ∀ m, m ≤ xs.length → mpN f xs m = (xs.take m).map f
  | 0, _ => rfl
  | m + 1, h => by
    rw [mpN, mpN_take f xs m (by omega), List.take_succ_eq_append_getElem (by omega), List.map_append, gi_nat (by omega)]
    rfl
theorem mpN_all {α β : Type} [Inhabited α] (f : α → β) (xs : List α) : mpN f xs xs.length = xs.map f := by rw [mpN_take f xs _ (Nat.le_refl _), List.take_length]
end Go.Vt
/- Calls that turn their caller's own memory, under the program logic. Conditions: those that each rule names. -/
set_option linter.unusedSimpArgs false
set_option linter.unusedVariables false
set_option linter.unusedSectionVars false
namespace Go.Vt
open Go.RowKit
/-- What a call comes to that turns memory of its caller's own. -/
def RetX (w0 : World) (S : Type) (val : S → Value) (mem : S → List Blk) (e : Ending) (w' : World) : Prop := ∃ s, e = .returned (val s) ∧ Own w0 (mem s) w'
class SpecX (P : Program) (w0 : World) (L : List Blk) (f : FuncId) (args : List Value) (S : outParam Type) (val : outParam (S → Value)) (mem : outParam (S → List Blk)) (pre : outParam Prop) : Prop where
  out : pre → ∀ w, Own w0 L w → Calls P f args.toArray w (RetX w0 S val mem)
section
variable {P : Program} {w0 : World} {n : Nat} {ops : Array Oper} {L : List Blk} {E : Env}
variable {Q : Exit → Act → World → Prop} {rest : List Oper}
variable {ty : TypeId} {pos : String} {aft : Array Edge} {gd : Option (Nat × Bool)} {t : Tmp}
theorem fn_introL {f : FuncId} {fn : Func} {c : Code} {l : List Value} {w : World} {R : Ending → World → Prop} (hf : P.funcs[f]? = some fn) (hb : fn.body = some c) (hn : fn.ntmps = n) (hl : Nat.ble l.length n = true) [hE : EnvC l E]
    (hw : Own w0 L w) (h : J P w0 n c (bodyPost P fn R) E L) : Calls P f l.toArray w R := by
  rw [← hE.out] at h
  have hl' : l.length ≤ n := Nat.le_of_ble_eq_true hl
  refine calls_of_wp hf hb (h.out _ _ ⟨by simp [hn]; omega, rfl, fun k v hk => ?_⟩ hw)
  obtain ⟨_, h2⟩ := find_envOf l 0 k v hk
  have hlt : k < l.length := by
    rcases Nat.lt_or_ge k l.length with h' | h'
    · exact h'
    · simp [List.getElem?_eq_none h'] at h2
  simp only [Nat.sub_zero] at h2
  rw [Array.getElem?_append_left (by simpa using hlt)]
  simpa using h2
theorem jx_end0 {fn : Func} {R : Ending → World → Prop} (hres : fn.results = #[]) (h : ∀ w, Own w0 L w → R (.returned (.tuple #[])) w) : JX w0 n .normal (bodyPost P fn R) E L := jx_end (fun a w ha _ => by simp [results, hres]) h
section
variable {S : Type} {val : S → Value} {mem : S → List Blk} {f : FuncId} {xs : List Operand} {l : List Value} {ats : Array TypeId} {pre : Prop}
theorem sZ [hf : CallC P f] [hl : IsC (evsl E xs) l] [hc : SpecX P w0 L f l S val mem pre] (hg : guardB ops E gd = some true) (hd : Nat.blt t n = true) (s : pre) (h : ∀ s, JO P w0 n ops Q rest ((t, val s) :: E) (mem s)) : JO P w0 n ops Q (⟨some t, .call ⟨.value (.func f), xs.toArray, ats⟩, ty, pos, aft, gd⟩ :: rest) E L :=
  jo_c (S := S) (o := ⟨some t, .call ⟨.value (.func f), xs.toArray, ats⟩, ty, pos, aft, gd⟩) hg hd val mem (fun _ _ ha => run_call hf.out ha isS) (fun w hw => hc.out s w hw) h
theorem sY {u : Tmp} {cap c : List Value} [hu : IsC (evl E (.tmp u)) (.func (.func f) #[] cap.toArray)] [hf : CallC P f] [hl : IsC (evsl E xs) l] [ha : AppC l cap c] [hc : SpecX P w0 L f c S val mem pre] (hg : guardB ops E gd = some true) (hd : Nat.blt t n = true) (s : pre) (h : ∀ s, JO P w0 n ops Q rest ((t, val s) :: E) (mem s)) : JO P w0 n ops Q (⟨some t, .call ⟨.value (.tmp u), xs.toArray, ats⟩, ty, pos, aft, gd⟩ :: rest) E L :=
  jo_c (S := S) (o := ⟨some t, .call ⟨.value (.tmp u), xs.toArray, ats⟩, ty, pos, aft, gd⟩) hg hd val mem (fun _ _ hr => run_callcl hf.out hr isE isS ha.out) (fun w hw => hc.out s w hw) h
end
end
end Go.Vt
/- A region that draws its order: values that look at memory ahead of all effects, values that look at no memory anywhere, then effects. Conditions: the closed check 'sgA'. -/
set_option linter.unusedSimpArgs false
set_option linter.unusedVariables false
set_option linter.unusedSectionVars false
namespace Go.Vt
open Go.RowKit
section
variable {P : Program} {w0 : World} {n : Nat} {ops : Array Oper} {L L' Lw : List Blk} {E : Env}
variable {Q : Exit → Act → World → Prop} {rest : List Oper} {v : Value} {Z : List Nat}
theorem wpG_first0 {i : Nat} {oi : Oper} {F : List Blk → Act → Prop} (hi : ops[i]? = some oi) (hsel : ∀ (j : Nat) (o : Oper) cs b, ops[j]? = some o → o.op ≠ .select cs b) :
    ∀ (f : Nat) (listed : Array Bool) (es : List Nat) (L : List Blk) (a : Act),
      (∀ j oj, ops[j]? = some oj → j ≠ i → listed.getD j true = false → (∀ e ∈ oj.after, Region.binds .any e = true → e.on ≠ i) → oi.apart ops oj = true) →
      i ∈ Region.ready .any ops listed → YieldsC P w0 [] ops oi v a →
      wpG P w0 ops Z Lw F f (listed.setIfInBounds i true) es L (a.put oi.dst v) → wpG P w0 ops Z Lw F (f + 1) listed es L a := by
  intro f
  induction f with
  | zero =>
    intro listed es L a _ hr hy H
    refine ⟨fun h => (by rw [h] at hr; cases hr), fun j hj => ?_⟩
    by_cases hji : j = i
    · subst hji
      exact ⟨oi, hi, .inl ⟨v, hy.weak (weak_sub (List.nil_sublist _)), H⟩⟩
    · have := ready_mono hj hji
      rw [H.2.1] at this
      cases this
  | succ f ih =>
    intro listed es L a hfree hr hy H
    have hun := (mem_ready.1 hr).1
    refine ⟨fun h => (by rw [h] at hr; cases hr), fun j hj => ?_⟩
    by_cases hji : j = i
    · subst hji
      exact ⟨oi, hi, .inl ⟨v, hy.weak (weak_sub (List.nil_sublist _)), H⟩⟩
    · obtain ⟨hjun, oj, hoj, hall⟩ := mem_ready.1 hj
      have hnot : ∀ e ∈ oj.after, Region.binds .any e = true → e.on ≠ i := fun e he hb heq => by
        have h1 := hall e he hb
        rw [heq, getD_both hun] at h1
        cases h1
      obtain ⟨h1, h2, h3⟩ := Oper.apart_spec (hfree j oj hoj hji hjun hnot)
      have hfree' : ∀ q oq, ops[q]? = some oq → q ≠ i → (listed.setIfInBounds j true).getD q true = false →
          (∀ e ∈ oq.after, Region.binds .any e = true → e.on ≠ i) → oi.apart ops oq = true := fun q oq hq hqi hun' hno => by
        refine hfree q oq hq hqi ?_ hno
        by_cases hjq : j = q
        · subst hjq; exact hjun
        · rw [getD_set_ne true hjq] at hun'; exact hun'
      have keep : ∀ u, YieldsC P w0 [] ops oi v (a.put oj.dst u) := fun u => hy.same (execOp_put oi (fun cs b => hsel i oi cs b hi) a oj.dst u h3) (wanted_put oi a oj.dst u h3)
      have hex : execOp (a.put oi.dst v).eval oj = execOp a.eval oj := execOp_put oj (fun cs b => hsel j oj cs b hoj) a oi.dst v h1
      have hwa : Region.wanted oj (yielded ops (a.put oi.dst v).tmps) = Region.wanted oj (yielded ops a.tmps) := wanted_put oj a oi.dst v h1
      have step : ∀ es' L' u, wpG P w0 ops Z Lw F f ((listed.setIfInBounds i true).setIfInBounds j true) es' L' ((a.put oi.dst v).put oj.dst u) → wpG P w0 ops Z Lw F (f + 1) (listed.setIfInBounds j true) es' L' (a.put oj.dst u) := fun es' L' u hh => by
        refine ih _ _ _ _ hfree' (ready_mono hr (Ne.symm hji)) (keep u) ?_
        rw [Array.setIfInBounds_comm _ _ hji, ← Act.put_comm a v u h2]
        exact hh
      obtain ⟨o, ho, hH⟩ := H.2 j (ready_mono hj hji)
      have : o = oj := Option.some.inj (ho.symm.trans hoj)
      subst this
      refine ⟨o, ho, ?_⟩
      rcases hH with ⟨u, hu, hK⟩ | ⟨es', he, hE⟩
      · exact .inl ⟨u, hu.same hex.symm hwa.symm, step _ _ _ hK⟩
      · refine .inr ⟨es', he, hwa ▸ hE.1, fun w hw1 => ?_⟩
        have hH := hE.2 w hw1
        rw [hex] at hH
        exact hH.mono fun u w' ⟨L', h5, h6, h7⟩ => ⟨L', h5, h6, step _ _ _ h7⟩
/-- What a value may look at. -/
def lk (b : Bool) (L : List Blk) : List Blk := match b with | true => [] | false => L
def sgN : List (Bool × List Nat) → Nat
  | [] => 0
  | p :: ps => p.2.length + sgN ps
def sgB (ops : Array Oper) (es : List Nat) : List (Bool × List Nat) → Array Bool → Bool
  | [], listed => seqE ops es listed
  | p :: ps, listed => (p.1 || zB ops es p.2) && lexF ops (sgB ops es ps) p.2 listed
def sgA (ops : Array Oper) (ps : List (Bool × List Nat)) (es : List Nat) : Bool :=
  Region.noSelect ops && decide (sgN ps + es.length = ops.size) && es.all (fun i => decide (i < ops.size)) && sgB ops es ps (Array.replicate ops.size false)
def SG (P : Program) (w0 : World) (L : List Blk) (l : List Oper) (G : Act → Prop) : List (Bool × List Nat) → Act → Prop
  | [], a => G a
  | p :: ps, a => AH P w0 (lk p.1 L) l.toArray (SG P w0 L l G ps) (picks l p.2) a
def JS (P : Program) (w0 : World) (n : Nat) (L : List Blk) (l : List Oper) (K : Env → Prop) : List (Bool × List Nat) → Env → Prop
  | [], E => K E
  | p :: ps, E => JH P w0 n (lk p.1 L) l.toArray (JS P w0 n L l K ps) (picks l p.2) E
theorem wpG_of_ahS {l : List Oper} {F : List Blk → Act → Prop} {es : List Nat} {G : Act → Prop} {N : Nat} {k : Array Bool → Bool} {pu : Bool} (hk : ∀ listed a, k listed = true → G a → wpG P w0 l.toArray Z L F N listed es L a) (hsel : Region.noSelect l.toArray = true) : ∀ (hs : List Nat) (listed : Array Bool) (a : Act), (pu || zB l.toArray Z hs) = true → lexF l.toArray k hs listed = true →
    AH P w0 (lk pu L) l.toArray G (picks l hs) a → wpG P w0 l.toArray Z L F (hs.length + N) listed es L a
  | [], listed, a, _, hB, h => by
    rw [List.length_nil, Nat.zero_add]
    exact hk listed a hB h
  | i :: hs, listed, a, hz, hB, h => by
    simp only [lexF, Bool.and_eq_true] at hB
    obtain ⟨⟨hr, hf⟩, hB'⟩ := hB
    have hr' : i ∈ Region.ready .any l.toArray listed := by simpa using hr
    obtain ⟨_, o, ho, _⟩ := mem_ready.1 hr'
    have ho' : l[i]? = some o := by simpa using ho
    simp only [picks, ho', AH] at h
    obtain ⟨v, hy, h⟩ := h
    rw [show (i :: hs).length + N = (hs.length + N) + 1 by simp only [List.length_cons]; omega]
    cases pu with
    | true => exact wpG_first0 ho (Region.noSelect_spec hsel) _ _ _ _ _ (Region.free_spec ho hf) hr' hy (wpG_of_ahS hk hsel hs _ _ rfl hB' h)
    | false =>
      simp only [Bool.false_or] at hz
      have hz' : zB l.toArray Z hs = true := by
        refine List.all_eq_true.2 fun z hzz => ?_
        have h1 := List.all_eq_true.1 hz z hzz
        cases ho : l.toArray[z]? with
        | none => rfl
        | some o =>
          simp only [ho] at h1
          exact List.all_eq_true.2 fun x hx => List.all_eq_true.1 h1 x (.tail _ hx)
      exact wpG_first ho (Region.noSelect_spec hsel) (zB_spec hz (.head _)) _ _ _ _ _ (Region.free_spec ho hf) hr' hy (weak_sub (List.Sublist.refl _)) (wpG_of_ahS hk hsel hs _ _ (by rw [Bool.false_or]; exact hz') hB' h)
theorem wpG_of_sg {l : List Oper} {F : List Blk → Act → Prop} {es : List Nat} (hsel : Region.noSelect l.toArray = true) : ∀ (ps : List (Bool × List Nat)) (listed : Array Bool) (a : Act), sgB l.toArray es ps listed = true → SG P w0 L l (EC P w0 l.toArray es L F es L) ps a → wpG P w0 l.toArray es L F (sgN ps + es.length) listed es L a
  | [], listed, a, hB, h => by
    rw [sgN, Nat.zero_add]
    exact wpG_of_ec es listed L a hB h
  | p :: ps, listed, a, hB, h => by
    simp only [sgB, Bool.and_eq_true] at hB
    rw [sgN, Nat.add_assoc]
    exact wpG_of_ahS (pu := p.1) (k := sgB l.toArray es ps) (G := SG P w0 L l (EC P w0 l.toArray es L F es L) ps) (fun listed a hb hG => wpG_of_sg hsel ps listed a hb hG) hsel p.2 listed a hB.1 hB.2 h
theorem sg_of_js {l : List Oper} {K : Env → Prop} {G : Act → Prop} (hK : ∀ E a, Rep n E a → K E → G a) : ∀ (ps : List (Bool × List Nat)) (E : Env) (a : Act), Rep n E a → JS P w0 n L l K ps E → SG P w0 L l G ps a
  | [], E, a, ha, h => hK E a ha h
  | p :: ps, E, a, ha, h => ah_of_jh (n := n) (fun E' a' ha' hK' => sg_of_js hK ps E' a' ha' hK') _ _ _ ha h
theorem j_seg {id : Nat} {l : List Oper} (ps : List (Bool × List Nat)) (es : List Nat) (hm : P.follows .mixedOrders = true) (hB : sgA l.toArray ps es = true)
    (h : JS P w0 n L l (fun E' => JE P w0 n l.toArray [] (fun E2 L2 => JX w0 n .normal Q E2 L2) (picks l es) E' L) ps E) : J P w0 n (.region id l.toArray true) Q E L := by
  refine ⟨fun a w ha hw => ?_⟩
  simp only [sgA, Bool.and_eq_true, decide_eq_true_eq] at hB
  obtain ⟨⟨⟨hsel, hlen⟩, hall⟩, hlex⟩ := hB
  refine wp_region_any hm ?_
  have hz : ∀ i ∈ es, lwZ es i L = [] := fun i hi => by
    unfold lwZ
    rw [if_pos (by simpa using hi)]
  have H := wpG_of_sg (P := P) (w0 := w0) (L := L) (F := fun L a => ∀ w, Own w0 L w → Q .normal a w) (es := es) hsel ps _ a hlex
    (sg_of_js (n := n) (fun E' a' ha' hK => ec_of_je (n := n) (fun E2 L2 a2 ha2 hx w hw => hx.out a2 w ha2 hw) es E' L a' (by simpa using hall) hz ha' hK) ps E a ha h)
  have := wpAny_of_wpG (P := P) (Q := Q) (fun L a w hF hw => hF w hw) _ _ _ _ _ w.drew (hw.to (Ext.drew w)) H
  rw [hlen] at this
  exact this
end
section
variable {P : Program} {w0 : World} {n : Nat} {ops : Array Oper} {L L' Lw : List Blk} {E : Env} {K : Env → List Blk → Prop}
variable {rest : List Oper} {ty : TypeId} {pos : String} {aft : Array Edge} {gd : Option (Nat × Bool)} {x y : Operand} {T T0 : TypeId}
variable {α : Type} {enc : α → Array Value} {k b : Nat} {xs : List α} {sp : List Value} {i : Int}
/-- An element is turned, in the tail. -/
theorem eR {u : Value} {z : α} [hx : IsC (evl E x) (.pointer (some ⟨b, 0 + i.toNat * k, none⟩))] [hy : IsC (evl E y) u] [hk : SizeC P T k] [MemC b L (row enc xs sp) T0] [he : EncC enc k] [hu : ValC enc u z] [hU : UpdC b (row enc (xs.set i.toNat z) sp) L (row enc xs sp) T0 L'] [hw : SblC Lw L']
    (hg : guardB ops E gd = some true) (s : i.toNat < xs.length) (h : JE P w0 n ops Lw K rest E L') : JE P w0 n ops Lw K (⟨none, .store T x y, ty, pos, aft, gd⟩ :: rest) E L := by
  have h1 := he.size z
  have hle := Nat.mul_le_mul_right k (show i.toNat + 1 ≤ xs.length from s)
  rw [Nat.add_mul] at hle
  exact je_store (u := u) k isE isE hU.out hk.out (by rw [hu.out, h1]) (by rw [row_size (k := k)]; exact Nat.ble_eq_true_of_le (by omega)) (by rw [hu.out]; exact he.one z) (by rw [hu.out, Nat.zero_add]; exact spl_row xs sp _ z s) hg hw.out h
end
end Go.Vt
/- Nil tests, methods of interface values under the program logic. Conditions: those that each rule names. -/
set_option linter.unusedSimpArgs false
set_option linter.unusedVariables false
set_option linter.unusedSectionVars false
set_option maxRecDepth 100000
namespace Go.Vt
open Go.RowKit Go.Proofs
section
variable {P : Program} {T e : TypeId}
theorem run_eql_slice_nil' (w : World) (a : Option Addr) (l c : Nat) (h : P.underlying T = some (.slice e)) : (binOp .eql T (.slice a l c) (.slice none 0 0)).run P w = .ok (.bool a.isNone) w := by
  simp only [binOp]
  simp [run_equal_slice_nil w T e a l c h]
instance bin_eql_nil0 [h : UndC P T (.slice e)] : BinC P .eql T (.slice none 0 0) (.slice none 0 0) (.bool true) := ⟨fun x y w => by rw [eqGuard_at_slice]; rfl, fun w => run_eql_slice_nil' w none 0 0 h.out⟩
instance bin_eql_nil1 {a : Addr} {l c : Nat} [h : UndC P T (.slice e)] : BinC P .eql T (.slice (some a) l c) (.slice none 0 0) (.bool false) := ⟨fun x y w => by rw [eqGuard_at_slice]; rfl, fun w => run_eql_slice_nil' w (some a) l c h.out⟩
/-- What a pointer points at. -/
class PtrC (P : Program) (T : TypeId) : Prop where
  out : P.underlying T = some (.pointer (P.pointee T))
instance bin_neq_ptr0 [h : PtrC P T] : BinC P .neq T (.pointer none) (.pointer none) (.bool false) := ⟨fun x y w => by rw [eqGuard_at_pointer]; rfl, fun w => run_neq_pointer_nil w T none h.out⟩
instance bin_neq_ptr1 {a : Addr} [h : PtrC P T] : BinC P .neq T (.pointer (some a)) (.pointer none) (.bool true) := ⟨fun x y w => by rw [eqGuard_at_pointer]; rfl, fun w => run_neq_pointer_nil w T (some a) h.out⟩
end
/-- No interface type. -/
class NifC (P : Program) (T : TypeId) : Prop where
  out : ∀ v w, (Instr.makeInterface T v).run P w = .ok (.iface T v) w
class MethC (P : Program) (t : TypeId) (v : Value) (name : String) (f : outParam FuncId) (r : outParam Value) : Prop where
  out : ∀ w, (method (P.types.size + Made.depth) t v name).run P w = .ok (f, r) w
class NahC (P : Program) (t : TypeId) (v : Value) (name : String) : Prop where
  out : ∀ w, (nilAhead (P.types.size + Made.depth) t v name).run P w = .ok (some false) w
section
variable {P : Program} {w0 : World} {n : Nat} {L : List Blk} {E : Env} {x : Operand} {v : Value}
variable {d : Option Tmp} {ty : TypeId} {pos : String} {aft : Array Edge} {gd : Option (Nat × Bool)}
instance yk_nilCheckP {a : Addr} [IsC (evl E x) (.pointer (some a))] : YlC P w0 n L E (.nilCheck x) (.pointer (some a)) := ⟨fun d ty pos aft gd => ⟨fun b w hb _ => by
  unfold calm
  simp only [execOp, hb.ev (isE (x := x)), Sem.run_pure]
  exact ⟨rfl, Ext.refl _⟩⟩⟩
instance yk_mkIface {T : TypeId} [hx : IsC (evl E x) v] [h : NifC P T] : YlC P w0 n L E (.makeInterface T x) (.iface T v) := ⟨fun d ty pos aft gd => yl_run (fun _ => Instr.makeInterface T v) (fun a ha => by simp only [execOp, ha.ev (isE (x := x))]) (fun a w _ _ => h.out v w)⟩
instance yk_mkMeth {name : String} {xs : List Operand} {l : List Value} [h : IsC (evsl E xs) l] : YlC P w0 n L E (.makeFunc (.method name) xs.toArray #[]) (.func (.method name) l.toArray #[]) := ⟨fun d ty pos aft gd => yl_run (fun _ => Instr.makeFunc (.method name) l.toArray #[]) (fun a ha => by
  have h1 : xs.toArray.map a.eval = l.toArray := by rw [← ha.evs xs l isS]; simp
  simp only [execOp, h1, Array.map_empty]) (fun a w _ _ => by simp [Instr.makeFunc])⟩
instance yk_nilCheckM {name : String} {t : TypeId} {u : Value} [hx : IsC (evl E x) (.func (.method name) [.iface t u].toArray #[])] [h : NahC P t u name] : YlC P w0 n L E (.nilCheck x) (.func (.method name) [.iface t u].toArray #[]) := ⟨fun d ty pos aft gd => ⟨fun b w hb _ => by
  unfold calm
  have h1 := h.out w
  have h2 : (execOp b.eval ⟨d, .nilCheck x, ty, pos, aft, gd⟩).run P w = .ok (.value (.func (.method name) [.iface t u].toArray #[])) w := by
    simp only [execOp, hb.ev (isE (x := x))]
    simp [Sem.run_bind, h1]
  rw [h2]
  exact ⟨rfl, Ext.refl _⟩⟩⟩
theorem run_invoke {name : String} {t : TypeId} {u r : Value} {f : FuncId} {xs : List Operand} {l : List Value} {ats : Array TypeId} {a : Act} {w : World} (hf : callableB P f = true) (hm : ∀ w, (method (P.types.size + Made.depth) t u name).run P w = .ok (f, r) w) (ha : Rep n E a) (hx : Env.ev E x = some (.iface t u)) (hl : Env.evs E xs = some l) :
    (execOp a.eval ⟨d, .call ⟨.invoke x name, xs.toArray, ats⟩, ty, pos, aft, gd⟩).run P w = .ok (.enter f (r :: l).toArray) w := by
  have h1 : xs.toArray.map a.eval = l.toArray := by rw [← ha.evs xs l hl]; simp
  simp only [execOp, resolve, h1, ha.ev hx, Sem.run_bind, Sem.run_pure, Result.andThen, invoke]
  have h2 : (#[Value.iface t u] ++ l.toArray)[0]? = some (.iface t u) := by simp
  have h3 : (#[Value.iface t u] ++ l.toArray).extract 1 (#[Value.iface t u] ++ l.toArray).size = l.toArray := by apply Array.ext'; simp
  simp only [h2, h3, callMethod, Sem.run_bind, hm, Result.andThen]
  have h4 : (#[r] ++ l.toArray) = (r :: l).toArray := by simp
  rw [show Sem.run P program w = Result.ok P w from rfl]
  simp only [hm, h4]
  exact run_callFunc hf _ _
instance yc_invoke {name : String} {t : TypeId} {u r : Value} {f : FuncId} {xs : List Operand} {l : List Value} {ats : Array TypeId} {pre : Prop} [hx : IsC (evl E x) (.iface t u)] [hl : IsC (evsl E xs) l] [hm : MethC P t u name f r] [hf : CallC P f] [h : SpecM P w0 L f (r :: l) v pre] : YcC P w0 n L E (.call ⟨.invoke x name, xs.toArray, ats⟩) v pre := ⟨fun hp _ _ _ _ _ => ⟨fun a w ha hw => by
  unfold calm
  rw [run_invoke hf.out hm.out ha isE isS]
  exact ⟨rfl, h.out hp w hw⟩⟩⟩
end
end Go.Vt
/- A part of an element of a row is turned. Conditions: those that the rule names. -/
set_option linter.unusedSimpArgs false
set_option linter.unusedVariables false
set_option linter.unusedSectionVars false
namespace Go.Vt
open Go.RowKit
section
variable {α : Type} {enc : α → Array Value} {k : Nat}
theorem spl_rowF [h : EncC enc k] (xs : List α) (sp : List Value) (i f : Nat) (z : α) (us : List Value) (hi : i < xs.length) (hf : f + us.length ≤ k) (hz : spl (enc xs[i]) f us = enc z) : spl (row enc xs sp) (i * k + f) us = row enc (xs.set i z) sp := by
  have hle := Nat.mul_le_mul_right k (show i + 1 ≤ xs.length from hi)
  rw [Nat.add_mul] at hle
  have hsz := h.size z
  have hsx := h.size xs[i]
  apply Array.ext_getElem?
  intro j
  rw [spl_get _ _ _ _ (by rw [row_size (k := k)]; omega)]
  by_cases h1 : i * k ≤ j ∧ j < i * k + k
  · obtain ⟨m, rfl⟩ : ∃ m, j = i * k + m := ⟨j - i * k, by omega⟩
    have hr := row_get (enc := enc) (k := k) (xs.set i z) sp i m (by simpa using hi) (by omega)
    rw [List.getElem_set_self] at hr
    rw [hr, ← hz, spl_get _ _ _ _ (by omega), row_get xs sp i m hi (by omega)]
    by_cases h2 : f ≤ m ∧ m < f + us.length
    · rw [if_pos (by omega), if_pos h2, show i * k + m - (i * k + f) = m - f by omega]
    · rw [if_neg (by omega), if_neg h2]
  · rw [if_neg (by omega)]
    rcases Nat.lt_or_ge j (xs.length * k) with h2 | h2
    · rcases Nat.eq_zero_or_pos k with h0 | h0
      · subst h0; simp at h2
      · obtain ⟨q, m, rfl, hm⟩ : ∃ q m, j = q * k + m ∧ m < k := ⟨j / k, j % k, by rw [Nat.mul_comm]; exact (Nat.div_add_mod j k).symm, Nat.mod_lt _ h0⟩
        have hq : q < xs.length := by
          rcases Nat.lt_or_ge q xs.length with h3 | h3
          · exact h3
          · have := Nat.mul_le_mul_right k h3
            omega
        have hqi : i ≠ q := by
          rintro rfl
          exact h1 ⟨by omega, by omega⟩
        rw [row_get xs sp q m hq hm, row_get _ sp q m (by simpa using hq) hm]
        simp [List.getElem_set_ne hqi]
    · rw [row, row, List.getElem?_toArray, List.getElem?_toArray, List.getElem?_append_right (by rw [rowL_len (k := k)]; exact h2), List.getElem?_append_right (by rw [rowL_len (k := k)]; simpa using h2)]
      simp [rowL_len (k := k)]
end
section
variable {P : Program} {w0 : World} {n : Nat} {ops : Array Oper} {L L' : List Blk} {E : Env}
variable {Q : Exit → Act → World → Prop} {rest : List Oper}
variable {ty : TypeId} {pos : String} {aft : Array Edge} {gd : Option (Nat × Bool)} {x y : Operand} {T T0 : TypeId}
variable {α : Type} [Inhabited α] {enc : α → Array Value} {k b f : Nat} {xs : List α} {sp : List Value} {i : Int}
/-- A part of an element is turned. -/
theorem sRF {u : Value} {cs1 : Array Value} [hx : IsC (evl E x) (.pointer (some ⟨b, 0 + i.toNat * k + f, none⟩))] [hy : IsC (evl E y) u] [MemC b L (row enc xs sp) T0] [he : EncC enc k] [hs : StC P T (enc (gi xs i)) f u cs1] (z : α) (hz : cs1 = enc z) [hU : UpdC b (row enc (xs.set i.toNat z) sp) L (row enc xs sp) T0 L']
    (hg : guardB ops E gd = some true) (s : i.toNat < xs.length) (h : JO P w0 n ops Q rest E L') : JO P w0 n ops Q (⟨none, .store T x y, ty, pos, aft, gd⟩ :: rest) E L := by
  have h1 := he.size (gi xs i)
  have hfit := Nat.le_of_ble_eq_true hs.fit
  have hle := Nat.mul_le_mul_right k (show i.toNat + 1 ≤ xs.length from s)
  rw [Nat.add_mul] at hle
  refine jo_store (u := u) u.cells.size isE isE hU.out hs.size rfl (by rw [row_size (k := k)]; exact Nat.ble_eq_true_of_le (by omega)) hs.one ?_ hg rfl h
  rw [Nat.zero_add]
  refine spl_rowF xs sp i.toNat f z u.cells.toList s (by simp only [Array.length_toList]; omega) ?_
  rw [← gi_eq s, hs.out, hz]
end
end Go.Vt
/- Comparing rational instants, intervals and linear functions. Conditions: the lengths that each statement names, and that the instants are rational. -/
set_option linter.unusedSimpArgs false
set_option linter.unusedVariables false
set_option maxRecDepth 100000
namespace Go.Vt
open Go.RowKit Go.Proofs
abbrev vIv (I : R_api_Interval) : Value := .agg (e_api_Interval (q_api_Interval I))
abbrev vQd (q : R_api_Quad) : Value := .agg (e_api_Quad (q_api_Quad q))
theorem sg0e (b : Int) {r : Rat} (h : r = 0) : b * r.num.sign = 0 := by
  subst h
  rw [show (0 : Rat).num.sign = 0 from rfl, Int.mul_zero]
theorem sign_sub (a b : Rat) : (a - b).num.sign = cq a b := by
  unfold cq
  split
  · rename_i h
    exact Int.sign_eq_neg_one_iff_neg.2 (by
      have h3 : ¬ 0 ≤ (a - b).num := fun h1 => by
        have := Rat.num_nonneg.1 h1
        grind
      omega)
  · split
    · rename_i h1 h2
      refine Int.sign_eq_one_iff_pos.2 ?_
      have h3 : 0 ≤ (a - b).num := Rat.num_nonneg.2 (by grind)
      have h4 : (a - b).num ≠ 0 := fun h0 => by
        have := Rat.num_eq_zero.1 h0
        grind
      omega
    · rename_i h1 h2
      have : a = b := by grind
      subst this
      rw [show a - a = 0 by grind]
      rfl
instance sp_factor (x : R_api_Real) : SpecC Tryz.prog 148 [vR x] (vQ (if x.Neg then ((-1 : Int) : Rat) else ((1 : Int) : Rat))) True := ⟨fun _ w => by
  refine fn_intro Tryz.func148 rfl Tryz.ntmps148 rfl ?_
  obtain ⟨p, r, b⟩ := x
  cases b
  · repeat (first | refine sX rfl rfl ?_ | (refine sS rfl rfl ?_ ?_; focus omega) | (refine sC rfl rfl ?_ ?_; focus (exact ⟨by decide, by decide⟩)) | refine cX ?_ | refine cY ?_ | (refine sA rfl rfl ?_; intro _) | refine sT rfl ?_ | refine sF rfl ?_ | (refine sR rfl ?_ ?_; focus omega) | (refine sB rfl rfl ?_; intro _) | (refine sN rfl rfl ?_ ?_; (focus (exact ⟨by decide, by decide⟩)); intro _; (try simp only [List.cons_append, List.nil_append, List.append_nil])) | refine sW rfl rfl ?_ | refine sK rfl rfl ?_ | refine j_if rfl ?_ | refine j_else rfl ?_ | refine pkT rfl rfl rfl rfl ?_ | refine pkF rfl rfl rfl rfl ?_)
    exact wx_cell rfl rfl (fun w hw => ret_ok hw)
  · repeat (first | refine sX rfl rfl ?_ | (refine sS rfl rfl ?_ ?_; focus omega) | (refine sC rfl rfl ?_ ?_; focus (exact ⟨by decide, by decide⟩)) | refine cX ?_ | refine cY ?_ | (refine sA rfl rfl ?_; intro _) | refine sT rfl ?_ | refine sF rfl ?_ | (refine sR rfl ?_ ?_; focus omega) | (refine sB rfl rfl ?_; intro _) | (refine sN rfl rfl ?_ ?_; (focus (exact ⟨by decide, by decide⟩)); intro _; (try simp only [List.cons_append, List.nil_append, List.append_nil])) | refine sW rfl rfl ?_ | refine sK rfl rfl ?_ | refine j_if rfl ?_ | refine j_else rfl ?_ | refine pkT rfl rfl rfl rfl ?_ | refine pkF rfl rfl rfl rfl ?_)
    exact wx_cell rfl rfl (fun w hw => ret_ok hw)⟩
instance sp_sign0 (a b r : Rat) : SpecC Tryz.prog 149 [vQ a, vQ b, vQ r] (.int .i64 a.num.sign) (r = 0) := ⟨fun hr w => by
  refine fn_intro Tryz.func149 rfl Tryz.ntmps149 rfl ?_
  have hz := sg0e b.num.sign hr
  repeat (first | refine sX rfl rfl ?_ | (refine sS rfl rfl ?_ ?_; focus omega) | (refine sC rfl rfl ?_ ?_; focus (first | exact trivial | assumption | constructor <;> assumption | exact mb2 rfl rfl | exact mb4 rfl rfl rfl rfl)) | refine cX ?_ | refine cY ?_ | (refine sA rfl rfl ?_; intro _) | refine sT rfl ?_ | refine sF rfl ?_ | (refine sR rfl ?_ ?_; focus omega) | (refine sB rfl rfl ?_; intro _) | (refine sN rfl rfl ?_ ?_; (focus (first | exact trivial | assumption | constructor <;> assumption | exact mb2 rfl rfl | exact mb4 rfl rfl rfl rfl)); intro _; (try simp only [List.cons_append, List.nil_append, List.append_nil])) | refine sW rfl rfl ?_ | refine sK rfl rfl ?_ | refine j_if rfl ?_ | refine j_else rfl ?_ | refine pkT rfl rfl rfl rfl ?_ | refine pkF rfl rfl rfl rfl ?_)
  (refine j_late [0, 1, 2, 3, 4, 5, 6] [7, 8] _ mixed (by kernel_rfl) (by decide) (List.Sublist.refl _) ?_; simp only [picks, List.getElem?_cons_succ, List.getElem?_cons_zero])
  repeat (first | refine tX rfl rfl ?_ | (refine tS rfl rfl ?_ ?_; focus omega) | (refine tC rfl rfl ?_ ?_; focus (exact trivial)) | refine tW rfl rfl ?_ | refine tK rfl rfl ?_ | refine Go.Vt.hq (wl_pickT rfl rfl) rfl rfl ?_ | refine Go.Vt.hq (wl_pickF rfl rfl) rfl rfl ?_)
  repeat (first | refine eS rfl rfl ?_ | refine uP rfl rfl rfl rfl ?_ | refine uQ rfl rfl rfl rfl ?_ | refine eX rfl rfl ?_ | (refine uS rfl rfl ?_ ?_; focus omega) | (refine uC rfl rfl ?_ ?_; focus (first | exact trivial | assumption | constructor <;> assumption | exact mb2 rfl rfl | exact mb4 rfl rfl rfl rfl)) | refine uW rfl rfl ?_ | refine eF rfl ?_ | refine eT rfl ?_ | (refine eA rfl rfl ?_; intro _) | (refine eB rfl rfl ?_; intro _) | (refine eN rfl rfl ?_ ?_; (focus (first | exact trivial | assumption | constructor <;> assumption | exact mb2 rfl rfl | exact mb4 rfl rfl rfl rfl)); intro _; (try simp only [List.cons_append, List.nil_append, List.append_nil])) | refine je_nil ?_ | refine tX rfl rfl ?_ | (refine tS rfl rfl ?_ ?_; focus omega) | (refine tC rfl rfl ?_ ?_; focus (first | exact trivial | assumption | constructor <;> assumption | exact mb2 rfl rfl | exact mb4 rfl rfl rfl rfl)) | refine tW rfl rfl ?_ | refine tK rfl rfl ?_ | refine Go.Vt.hq (wl_pickT rfl rfl) rfl rfl ?_ | refine Go.Vt.hq (wl_pickF rfl rfl) rfl rfl ?_ | refine jh_nil ?_)
  simp only [hz]
  repeat (first | refine sX rfl rfl ?_ | (refine sS rfl rfl ?_ ?_; focus omega) | (refine sC rfl rfl ?_ ?_; focus (first | exact trivial | assumption | constructor <;> assumption | exact mb2 rfl rfl | exact mb4 rfl rfl rfl rfl)) | refine cX ?_ | refine cY ?_ | (refine sA rfl rfl ?_; intro _) | refine sT rfl ?_ | refine sF rfl ?_ | (refine sR rfl ?_ ?_; focus omega) | (refine sB rfl rfl ?_; intro _) | (refine sN rfl rfl ?_ ?_; (focus (first | exact trivial | assumption | constructor <;> assumption | exact mb2 rfl rfl | exact mb4 rfl rfl rfl rfl)); intro _; (try simp only [List.cons_append, List.nil_append, List.append_nil])) | refine sW rfl rfl ?_ | refine sK rfl rfl ?_ | refine j_if rfl ?_ | refine j_else rfl ?_ | refine pkT rfl rfl rfl rfl ?_ | refine pkF rfl rfl rfl rfl ?_)
  exact jx_ret_tmp rfl rfl (fun w hw => ret_ok hw)⟩
instance sp_RealCmp (x y : R_api_Real) : SpecC Tryz.prog 109 [vR x, vR y] (.int .i64 (cq x.P y.P)) ((x.R = 0 ∧ y.R = 0) ∧ M x.P ≤ LQ ∧ M y.P ≤ LQ) := ⟨fun hp w => by
  obtain ⟨⟨hx, hy⟩, h1, h2⟩ := hp
  refine fn_intro Tryz.func109 rfl Tryz.ntmps109 rfl ?_
  have hz := sg0e (-(if y.Neg then ((-1 : Int) : Rat) else ((1 : Int) : Rat))).num.sign hy
  repeat (first | refine sX rfl rfl ?_ | (refine sS rfl rfl ?_ ?_; focus omega) | (refine sC rfl rfl ?_ ?_; focus (first | exact trivial | assumption | constructor <;> assumption | exact mb2 rfl rfl | exact mb4 rfl rfl rfl rfl)) | refine cX ?_ | refine cY ?_ | (refine sA rfl rfl ?_; intro _) | refine sT rfl ?_ | refine sF rfl ?_ | (refine sR rfl ?_ ?_; focus omega) | (refine sB rfl rfl ?_; intro _) | (refine sN rfl rfl ?_ ?_; (focus (first | exact trivial | assumption | constructor <;> assumption | exact mb2 rfl rfl | exact mb4 rfl rfl rfl rfl)); intro _; (try simp only [List.cons_append, List.nil_append, List.append_nil])) | refine sW rfl rfl ?_ | refine sK rfl rfl ?_ | refine j_if rfl ?_ | refine j_else rfl ?_ | refine pkT rfl rfl rfl rfl ?_ | refine pkF rfl rfl rfl rfl ?_)
  (refine jD 10 13 mixed (by kernel_rfl) ?_; (repeat (first | refine tX rfl rfl ?_ | (refine tS rfl rfl ?_ ?_; focus omega) | (refine tC rfl rfl ?_ ?_; focus (first | exact trivial | exact ⟨h1, h2⟩)) | refine tW rfl rfl ?_ | refine tK rfl rfl ?_ | refine Go.Vt.hq (wl_pickT rfl rfl) rfl rfl ?_ | refine Go.Vt.hq (wl_pickF rfl rfl) rfl rfl ?_)); refine jh_nil ?_; (repeat (refine wn_new ?_; intro _)); refine jn_nil ?_)
  repeat (first | refine sX rfl rfl ?_ | (refine sS rfl rfl ?_ ?_; focus omega) | (refine sC rfl rfl ?_ ?_; focus (first | exact trivial | assumption | constructor <;> assumption | exact mb2 rfl rfl | exact mb4 rfl rfl rfl rfl)) | refine cX ?_ | refine cY ?_ | (refine sA rfl rfl ?_; intro _) | refine sT rfl ?_ | refine sF rfl ?_ | (refine sR rfl ?_ ?_; focus omega) | (refine sB rfl rfl ?_; intro _) | (refine sN rfl rfl ?_ ?_; (focus (first | exact trivial | assumption | constructor <;> assumption | exact mb2 rfl rfl | exact mb4 rfl rfl rfl rfl)); intro _; (try simp only [List.cons_append, List.nil_append, List.append_nil])) | refine sW rfl rfl ?_ | refine sK rfl rfl ?_ | refine j_if rfl ?_ | refine j_else rfl ?_ | refine pkT rfl rfl rfl rfl ?_ | refine pkF rfl rfl rfl rfl ?_)
  (refine j_late [0, 1, 2, 3, 4, 5, 6, 7, 8, 9, 10] [11, 12] _ mixed (by kernel_rfl) (by decide) (List.Sublist.refl _) ?_; simp only [picks, List.getElem?_cons_succ, List.getElem?_cons_zero])
  repeat (first | refine tX rfl rfl ?_ | (refine tS rfl rfl ?_ ?_; focus omega) | (refine tC rfl rfl ?_ ?_; focus (first | exact trivial | exact hx)) | refine tW rfl rfl ?_ | refine tK rfl rfl ?_ | refine Go.Vt.hq (wl_pickT rfl rfl) rfl rfl ?_ | refine Go.Vt.hq (wl_pickF rfl rfl) rfl rfl ?_)
  repeat (first | refine eS rfl rfl ?_ | refine uP rfl rfl rfl rfl ?_ | refine uQ rfl rfl rfl rfl ?_ | refine eX rfl rfl ?_ | (refine uS rfl rfl ?_ ?_; focus omega) | (refine uC rfl rfl ?_ ?_; focus (first | exact trivial | assumption | constructor <;> assumption | exact mb2 rfl rfl | exact mb4 rfl rfl rfl rfl)) | refine uW rfl rfl ?_ | refine eF rfl ?_ | refine eT rfl ?_ | (refine eA rfl rfl ?_; intro _) | (refine eB rfl rfl ?_; intro _) | (refine eN rfl rfl ?_ ?_; (focus (first | exact trivial | assumption | constructor <;> assumption | exact mb2 rfl rfl | exact mb4 rfl rfl rfl rfl)); intro _; (try simp only [List.cons_append, List.nil_append, List.append_nil])) | refine je_nil ?_ | refine tX rfl rfl ?_ | (refine tS rfl rfl ?_ ?_; focus omega) | (refine tC rfl rfl ?_ ?_; focus (first | exact trivial | assumption | constructor <;> assumption | exact mb2 rfl rfl | exact mb4 rfl rfl rfl rfl)) | refine tW rfl rfl ?_ | refine tK rfl rfl ?_ | refine Go.Vt.hq (wl_pickT rfl rfl) rfl rfl ?_ | refine Go.Vt.hq (wl_pickF rfl rfl) rfl rfl ?_ | refine jh_nil ?_)
  simp only [hz, sign_sub]
  repeat (first | refine sX rfl rfl ?_ | (refine sS rfl rfl ?_ ?_; focus omega) | (refine sC rfl rfl ?_ ?_; focus (first | exact trivial | assumption | constructor <;> assumption | exact mb2 rfl rfl | exact mb4 rfl rfl rfl rfl)) | refine cX ?_ | refine cY ?_ | (refine sA rfl rfl ?_; intro _) | refine sT rfl ?_ | refine sF rfl ?_ | (refine sR rfl ?_ ?_; focus omega) | (refine sB rfl rfl ?_; intro _) | (refine sN rfl rfl ?_ ?_; (focus (first | exact trivial | assumption | constructor <;> assumption | exact mb2 rfl rfl | exact mb4 rfl rfl rfl rfl)); intro _; (try simp only [List.cons_append, List.nil_append, List.append_nil])) | refine sW rfl rfl ?_ | refine sK rfl rfl ?_ | refine j_if rfl ?_ | refine j_else rfl ?_ | refine pkT rfl rfl rfl rfl ?_ | refine pkF rfl rfl rfl rfl ?_)
  exact jx_ret_tmp rfl rfl (fun w hw => ret_ok hw)⟩
instance call_cmpCompare : CallC Tryz.prog 112 := ⟨by kernel_rfl⟩
instance call_cmpOr : CallC Tryz.prog 145 := ⟨by kernel_rfl⟩
instance sp_instant (I : R_api_Interval) : SpecC Tryz.prog 136 [vIv I] (.bool (decide (I.From = I.To))) True := ⟨fun _ w => by
  refine fn_intro Tryz.func136 rfl Tryz.ntmps136 rfl ?_
  repeat (first | refine sX rfl rfl ?_ | (refine sS rfl rfl ?_ ?_; focus omega) | (refine sC rfl rfl ?_ ?_; focus (first | exact trivial | assumption | constructor <;> assumption | exact mb2 rfl rfl | exact mb4 rfl rfl rfl rfl)) | refine cX ?_ | refine cY ?_ | (refine sA rfl rfl ?_; intro _) | refine sT rfl ?_ | refine sF rfl ?_ | (refine sR rfl ?_ ?_; focus omega) | (refine sB rfl rfl ?_; intro _) | (refine sN rfl rfl ?_ ?_; (focus (first | exact trivial | assumption | constructor <;> assumption | exact mb2 rfl rfl | exact mb4 rfl rfl rfl rfl)); intro _; (try simp only [List.cons_append, List.nil_append, List.append_nil])) | refine sW rfl rfl ?_ | refine sK rfl rfl ?_ | refine j_if rfl ?_ | refine j_else rfl ?_ | refine pkT rfl rfl rfl rfl ?_ | refine pkF rfl rfl rfl rfl ?_)
  exact jx_ret_tmp rfl rfl (fun w hw => ret_ok hw)⟩
/-- Does 'b' begin behind 'a'? -/
def aprt (a b : R_api_Interval) : Bool := decide (a.To.P < b.From.P) || (decide (a.To.P = b.From.P) && (a.OpenTo || b.OpenFrom))
instance sp_apart (a b : R_api_Interval) : SpecC Tryz.prog 134 [vIv a, vIv b] (.bool (aprt a b)) ((a.To.R = 0 ∧ b.From.R = 0) ∧ M a.To.P ≤ LQ ∧ M b.From.P ≤ LQ) := ⟨fun hp w => by
  refine fn_intro Tryz.func134 rfl Tryz.ntmps134 rfl ?_
  repeat (first | refine sX rfl rfl ?_ | (refine sS rfl rfl ?_ ?_; focus omega) | (refine sC rfl rfl ?_ ?_; focus (exact hp)) | refine cX ?_ | refine cY ?_ | (refine sA rfl rfl ?_; intro _) | refine sT rfl ?_ | refine sF rfl ?_ | (refine sR rfl ?_ ?_; focus omega) | (refine sB rfl rfl ?_; intro _) | (refine sN rfl rfl ?_ ?_; (focus (exact hp)); intro _; (try simp only [List.cons_append, List.nil_append, List.append_nil])) | refine sW rfl rfl ?_ | refine sK rfl rfl ?_ | refine j_if rfl ?_ | refine j_else rfl ?_ | refine pkT rfl rfl rfl rfl ?_ | refine pkF rfl rfl rfl rfl ?_)
  unfold aprt
  by_cases h1 : a.To.P < b.From.P
  · simp only [decide_eq_true (cq_lt.2 h1)]
    repeat (first | refine sX rfl rfl ?_ | (refine sS rfl rfl ?_ ?_; focus omega) | (refine sC rfl rfl ?_ ?_; focus (first | exact trivial | assumption | constructor <;> assumption | exact mb2 rfl rfl | exact mb4 rfl rfl rfl rfl)) | refine cX ?_ | refine cY ?_ | (refine sA rfl rfl ?_; intro _) | refine sT rfl ?_ | refine sF rfl ?_ | (refine sR rfl ?_ ?_; focus omega) | (refine sB rfl rfl ?_; intro _) | (refine sN rfl rfl ?_ ?_; (focus (first | exact trivial | assumption | constructor <;> assumption | exact mb2 rfl rfl | exact mb4 rfl rfl rfl rfl)); intro _; (try simp only [List.cons_append, List.nil_append, List.append_nil])) | refine sW rfl rfl ?_ | refine sK rfl rfl ?_ | refine j_if rfl ?_ | refine j_else rfl ?_ | refine pkT rfl rfl rfl rfl ?_ | refine pkF rfl rfl rfl rfl ?_)
    simp only [decide_eq_true h1]
    exact jx_ret_tmp rfl rfl (fun w hw => ret_ok hw)
  · simp only [decide_eq_false (fun h => h1 (cq_lt.1 h))]
    repeat (first | refine sX rfl rfl ?_ | (refine sS rfl rfl ?_ ?_; focus omega) | (refine sC rfl rfl ?_ ?_; focus (first | exact trivial | assumption | constructor <;> assumption | exact mb2 rfl rfl | exact mb4 rfl rfl rfl rfl)) | refine cX ?_ | refine cY ?_ | (refine sA rfl rfl ?_; intro _) | refine sT rfl ?_ | refine sF rfl ?_ | (refine sR rfl ?_ ?_; focus omega) | (refine sB rfl rfl ?_; intro _) | (refine sN rfl rfl ?_ ?_; (focus (first | exact trivial | assumption | constructor <;> assumption | exact mb2 rfl rfl | exact mb4 rfl rfl rfl rfl)); intro _; (try simp only [List.cons_append, List.nil_append, List.append_nil])) | refine sW rfl rfl ?_ | refine sK rfl rfl ?_ | refine j_if rfl ?_ | refine j_else rfl ?_ | refine pkT rfl rfl rfl rfl ?_ | refine pkF rfl rfl rfl rfl ?_)
    by_cases h2 : a.To.P = b.From.P
    · simp only [decide_eq_true (cq_eq.2 h2)]
      repeat (first | refine sX rfl rfl ?_ | (refine sS rfl rfl ?_ ?_; focus omega) | (refine sC rfl rfl ?_ ?_; focus (first | exact trivial | assumption | constructor <;> assumption | exact mb2 rfl rfl | exact mb4 rfl rfl rfl rfl)) | refine cX ?_ | refine cY ?_ | (refine sA rfl rfl ?_; intro _) | refine sT rfl ?_ | refine sF rfl ?_ | (refine sR rfl ?_ ?_; focus omega) | (refine sB rfl rfl ?_; intro _) | (refine sN rfl rfl ?_ ?_; (focus (first | exact trivial | assumption | constructor <;> assumption | exact mb2 rfl rfl | exact mb4 rfl rfl rfl rfl)); intro _; (try simp only [List.cons_append, List.nil_append, List.append_nil])) | refine sW rfl rfl ?_ | refine sK rfl rfl ?_ | refine j_if rfl ?_ | refine j_else rfl ?_ | refine pkT rfl rfl rfl rfl ?_ | refine pkF rfl rfl rfl rfl ?_)
      obtain ⟨fa, ta, oa, ca⟩ := a
      simp only at h1 h2 ⊢
      cases ca
      · repeat (first | refine sX rfl rfl ?_ | (refine sS rfl rfl ?_ ?_; focus omega) | (refine sC rfl rfl ?_ ?_; focus (first | exact trivial | assumption | constructor <;> assumption | exact mb2 rfl rfl | exact mb4 rfl rfl rfl rfl)) | refine cX ?_ | refine cY ?_ | (refine sA rfl rfl ?_; intro _) | refine sT rfl ?_ | refine sF rfl ?_ | (refine sR rfl ?_ ?_; focus omega) | (refine sB rfl rfl ?_; intro _) | (refine sN rfl rfl ?_ ?_; (focus (first | exact trivial | assumption | constructor <;> assumption | exact mb2 rfl rfl | exact mb4 rfl rfl rfl rfl)); intro _; (try simp only [List.cons_append, List.nil_append, List.append_nil])) | refine sW rfl rfl ?_ | refine sK rfl rfl ?_ | refine j_if rfl ?_ | refine j_else rfl ?_ | refine pkT rfl rfl rfl rfl ?_ | refine pkF rfl rfl rfl rfl ?_)
        simp only [decide_eq_false h1, decide_eq_true h2]
        exact jx_ret_tmp rfl rfl (fun w hw => ret_ok hw)
      · repeat (first | refine sX rfl rfl ?_ | (refine sS rfl rfl ?_ ?_; focus omega) | (refine sC rfl rfl ?_ ?_; focus (first | exact trivial | assumption | constructor <;> assumption | exact mb2 rfl rfl | exact mb4 rfl rfl rfl rfl)) | refine cX ?_ | refine cY ?_ | (refine sA rfl rfl ?_; intro _) | refine sT rfl ?_ | refine sF rfl ?_ | (refine sR rfl ?_ ?_; focus omega) | (refine sB rfl rfl ?_; intro _) | (refine sN rfl rfl ?_ ?_; (focus (first | exact trivial | assumption | constructor <;> assumption | exact mb2 rfl rfl | exact mb4 rfl rfl rfl rfl)); intro _; (try simp only [List.cons_append, List.nil_append, List.append_nil])) | refine sW rfl rfl ?_ | refine sK rfl rfl ?_ | refine j_if rfl ?_ | refine j_else rfl ?_ | refine pkT rfl rfl rfl rfl ?_ | refine pkF rfl rfl rfl rfl ?_)
        simp only [decide_eq_false h1, decide_eq_true h2]
        exact jx_ret_tmp rfl rfl (fun w hw => ret_ok hw)
    · simp only [decide_eq_false (fun h => h2 (cq_eq.1 h))]
      repeat (first | refine sX rfl rfl ?_ | (refine sS rfl rfl ?_ ?_; focus omega) | (refine sC rfl rfl ?_ ?_; focus (first | exact trivial | assumption | constructor <;> assumption | exact mb2 rfl rfl | exact mb4 rfl rfl rfl rfl)) | refine cX ?_ | refine cY ?_ | (refine sA rfl rfl ?_; intro _) | refine sT rfl ?_ | refine sF rfl ?_ | (refine sR rfl ?_ ?_; focus omega) | (refine sB rfl rfl ?_; intro _) | (refine sN rfl rfl ?_ ?_; (focus (first | exact trivial | assumption | constructor <;> assumption | exact mb2 rfl rfl | exact mb4 rfl rfl rfl rfl)); intro _; (try simp only [List.cons_append, List.nil_append, List.append_nil])) | refine sW rfl rfl ?_ | refine sK rfl rfl ?_ | refine j_if rfl ?_ | refine j_else rfl ?_ | refine pkT rfl rfl rfl rfl ?_ | refine pkF rfl rfl rfl rfl ?_)
      simp only [decide_eq_false h1, decide_eq_false h2]
      exact jx_ret_tmp rfl rfl (fun w hw => ret_ok hw)⟩
instance sp_Constant (c : Rat) : SpecC Tryz.prog 218 [vQ c] (vQd ⟨c, 0, 0⟩) True := ⟨fun _ w => by
  refine fn_intro Tryz.func218 rfl Tryz.ntmps218 rfl ?_
  repeat (first | refine sX rfl rfl ?_ | (refine sS rfl rfl ?_ ?_; focus omega) | (refine sC rfl rfl ?_ ?_; focus (first | exact trivial | assumption | constructor <;> assumption | exact mb2 rfl rfl | exact mb4 rfl rfl rfl rfl)) | refine cX ?_ | refine cY ?_ | (refine sA rfl rfl ?_; intro _) | refine sT rfl ?_ | refine sF rfl ?_ | (refine sR rfl ?_ ?_; focus omega) | (refine sB rfl rfl ?_; intro _) | (refine sN rfl rfl ?_ ?_; (focus (first | exact trivial | assumption | constructor <;> assumption | exact mb2 rfl rfl | exact mb4 rfl rfl rfl rfl)); intro _; (try simp only [List.cons_append, List.nil_append, List.append_nil])) | refine sW rfl rfl ?_ | refine sK rfl rfl ?_ | refine j_if rfl ?_ | refine j_else rfl ?_ | refine pkT rfl rfl rfl rfl ?_ | refine pkF rfl rfl rfl rfl ?_)
  exact wx_cell rfl rfl (fun w hw => ret_ok hw)⟩
instance sp_QSub (p q : R_api_Quad) : SpecC Tryz.prog 208 [vQd p, vQd q] (vQd ⟨p.C0 - q.C0, p.C1 - q.C1, p.C2 - q.C2⟩) ((M p.C0 ≤ LQ ∧ M q.C0 ≤ LQ) ∧ (M p.C1 ≤ LQ ∧ M q.C1 ≤ LQ) ∧ (M p.C2 ≤ LQ ∧ M q.C2 ≤ LQ)) := ⟨fun hp w => by
  obtain ⟨h1, h2, h3⟩ := hp
  refine fn_intro Tryz.func208 rfl Tryz.ntmps208 rfl ?_
  repeat (first | refine sX rfl rfl ?_ | (refine sS rfl rfl ?_ ?_; focus omega) | (refine sC rfl rfl ?_ ?_; focus (first | exact trivial | assumption | constructor <;> assumption | exact mb2 rfl rfl | exact mb4 rfl rfl rfl rfl)) | refine cX ?_ | refine cY ?_ | (refine sA rfl rfl ?_; intro _) | refine sT rfl ?_ | refine sF rfl ?_ | (refine sR rfl ?_ ?_; focus omega) | (refine sB rfl rfl ?_; intro _) | (refine sN rfl rfl ?_ ?_; (focus (first | exact trivial | assumption | constructor <;> assumption | exact mb2 rfl rfl | exact mb4 rfl rfl rfl rfl)); intro _; (try simp only [List.cons_append, List.nil_append, List.append_nil])) | refine sW rfl rfl ?_ | refine sK rfl rfl ?_ | refine j_if rfl ?_ | refine j_else rfl ?_ | refine pkT rfl rfl rfl rfl ?_ | refine pkF rfl rfl rfl rfl ?_)
  (refine jD 16 16 mixed (by kernel_rfl) ?_; (repeat (first | refine tX rfl rfl ?_ | (refine tS rfl rfl ?_ ?_; focus omega) | (refine tC rfl rfl ?_ ?_; focus (first | exact h1 | exact h2 | exact h3)) | refine tW rfl rfl ?_ | refine tK rfl rfl ?_ | refine Go.Vt.hq (wl_pickT rfl rfl) rfl rfl ?_ | refine Go.Vt.hq (wl_pickF rfl rfl) rfl rfl ?_)); refine jh_nil ?_; (repeat (refine wn_new ?_; intro _)); refine jn_nil ?_)
  repeat (first | refine sX rfl rfl ?_ | (refine sS rfl rfl ?_ ?_; focus omega) | (refine sC rfl rfl ?_ ?_; focus (first | exact trivial | assumption | constructor <;> assumption | exact mb2 rfl rfl | exact mb4 rfl rfl rfl rfl)) | refine cX ?_ | refine cY ?_ | (refine sA rfl rfl ?_; intro _) | refine sT rfl ?_ | refine sF rfl ?_ | (refine sR rfl ?_ ?_; focus omega) | (refine sB rfl rfl ?_; intro _) | (refine sN rfl rfl ?_ ?_; (focus (first | exact trivial | assumption | constructor <;> assumption | exact mb2 rfl rfl | exact mb4 rfl rfl rfl rfl)); intro _; (try simp only [List.cons_append, List.nil_append, List.append_nil])) | refine sW rfl rfl ?_ | refine sK rfl rfl ?_ | refine j_if rfl ?_ | refine j_else rfl ?_ | refine pkT rfl rfl rfl rfl ?_ | refine pkF rfl rfl rfl rfl ?_)
  exact wx_cell rfl rfl (fun w hw => ret_ok hw)⟩
instance sp_QReduce (q : R_api_Quad) (t : R_api_Real) : SpecC Tryz.prog 207 [vQd q, vR t] (vQd ⟨q.C0 + t.P * (q.C1 + t.P * q.C2), 0, 0⟩) (t.R = 0 ∧ M q.C0 ≤ 34359738368 ∧ M q.C1 ≤ 34359738368 ∧ M q.C2 ≤ 34359738368 ∧ M t.P ≤ 34359738368) := ⟨fun hp w => by
  obtain ⟨h0, h1⟩ := hp
  refine fn_intro Tryz.func207 rfl Tryz.ntmps207 rfl ?_
  repeat (first | refine sX rfl rfl ?_ | (refine sS rfl rfl ?_ ?_; focus omega) | (refine sC rfl rfl ?_ ?_; focus (first | exact trivial | assumption | constructor <;> assumption | exact mb2 rfl rfl | exact mb4 rfl rfl rfl rfl)) | refine cX ?_ | refine cY ?_ | (refine sA rfl rfl ?_; intro _) | refine sT rfl ?_ | refine sF rfl ?_ | (refine sR rfl ?_ ?_; focus omega) | (refine sB rfl rfl ?_; intro _) | (refine sN rfl rfl ?_ ?_; (focus (first | exact trivial | assumption | constructor <;> assumption | exact mb2 rfl rfl | exact mb4 rfl rfl rfl rfl)); intro _; (try simp only [List.cons_append, List.nil_append, List.append_nil])) | refine sW rfl rfl ?_ | refine sK rfl rfl ?_ | refine j_if rfl ?_ | refine j_else rfl ?_ | refine pkT rfl rfl rfl rfl ?_ | refine pkF rfl rfl rfl rfl ?_)
  simp only [if_pos h0, decide_eq_true h0]
  repeat (first | refine sX rfl rfl ?_ | (refine sS rfl rfl ?_ ?_; focus omega) | (refine sC rfl rfl ?_ ?_; focus (first | exact trivial | exact h1)) | refine cX ?_ | refine cY ?_ | (refine sA rfl rfl ?_; intro _) | refine sT rfl ?_ | refine sF rfl ?_ | (refine sR rfl ?_ ?_; focus omega) | (refine sB rfl rfl ?_; intro _) | (refine sN rfl rfl ?_ ?_; (focus (first | exact trivial | exact h1)); intro _; (try simp only [List.cons_append, List.nil_append, List.append_nil])) | refine sW rfl rfl ?_ | refine sK rfl rfl ?_ | refine j_if rfl ?_ | refine j_else rfl ?_ | refine pkT rfl rfl rfl rfl ?_ | refine pkF rfl rfl rfl rfl ?_)
  exact wx_cell rfl rfl (fun w hw => ret_ok hw)⟩
/-- Have two functions the same value? -/
def qsame (p q : R_api_Quad) (t : Rat) : Bool := decide ((⟨p.C0 - q.C0 + t * (p.C1 - q.C1 + t * (p.C2 - q.C2)), 0, 0⟩ : R_api_Quad) = ⟨0, 0, 0⟩)
theorem qsame_iff {p q : R_api_Quad} {t : Rat} : qsame p q t = true ↔ p.C0 - q.C0 + t * (p.C1 - q.C1 + t * (p.C2 - q.C2)) = 0 := by
  unfold qsame
  rw [decide_eq_true_iff]
  simp
instance sp_QSame (p q : R_api_Quad) (t : R_api_Real) : SpecC Tryz.prog 192 [vQd p, vQd q, vR t] (.bool (qsame p q t.P)) (t.R = 0 ∧ (M p.C0 ≤ 8589934592 ∧ M p.C1 ≤ 8589934592 ∧ M p.C2 ≤ 8589934592) ∧ (M q.C0 ≤ 8589934592 ∧ M q.C1 ≤ 8589934592 ∧ M q.C2 ≤ 8589934592) ∧ M t.P ≤ 8589934592) := ⟨fun hp w => by
  obtain ⟨h0, ⟨h1, h2, h3⟩, ⟨h4, h5, h6⟩, h7⟩ := hp
  have := MB.mk h1
  have := MB.mk h2
  have := MB.mk h3
  have := MB.mk h4
  have := MB.mk h5
  have := MB.mk h6
  have := MB.mk h7
  refine fn_intro Tryz.func192 rfl Tryz.ntmps192 rfl ?_
  repeat (first | refine sX rfl rfl ?_ | (refine sS rfl rfl ?_ ?_; focus omega) | (refine sC rfl rfl ?_ ?_; focus (first | exact trivial | assumption | constructor <;> assumption | exact mb2 rfl rfl | exact mb4 rfl rfl rfl rfl)) | refine cX ?_ | refine cY ?_ | (refine sA rfl rfl ?_; intro _) | refine sT rfl ?_ | refine sF rfl ?_ | (refine sR rfl ?_ ?_; focus omega) | (refine sB rfl rfl ?_; intro _) | (refine sN rfl rfl ?_ ?_; (focus (first | exact trivial | assumption | constructor <;> assumption | exact mb2 rfl rfl | exact mb4 rfl rfl rfl rfl)); intro _; (try simp only [List.cons_append, List.nil_append, List.append_nil])) | refine sW rfl rfl ?_ | refine sK rfl rfl ?_ | refine j_if rfl ?_ | refine j_else rfl ?_ | refine pkT rfl rfl rfl rfl ?_ | refine pkF rfl rfl rfl rfl ?_)
  (refine jD 7 7 mixed (by kernel_rfl) ?_; (repeat (first | refine tX rfl rfl ?_ | (refine tS rfl rfl ?_ ?_; focus omega) | (refine tC rfl rfl ?_ ?_; focus (first | exact ⟨mb2 rfl rfl, mb2 rfl rfl, mb2 rfl rfl⟩ | exact ⟨h0, MB.lt rfl, MB.lt rfl, MB.lt rfl, MB.lt rfl⟩)) | refine tW rfl rfl ?_ | refine tK rfl rfl ?_ | refine Go.Vt.hq (wl_pickT rfl rfl) rfl rfl ?_ | refine Go.Vt.hq (wl_pickF rfl rfl) rfl rfl ?_)); refine jh_nil ?_; (repeat (refine wn_new ?_; intro _)); refine jn_nil ?_)
  repeat (first | refine sX rfl rfl ?_ | (refine sS rfl rfl ?_ ?_; focus omega) | (refine sC rfl rfl ?_ ?_; focus (first | exact trivial | assumption | constructor <;> assumption | exact mb2 rfl rfl | exact mb4 rfl rfl rfl rfl)) | refine cX ?_ | refine cY ?_ | (refine sA rfl rfl ?_; intro _) | refine sT rfl ?_ | refine sF rfl ?_ | (refine sR rfl ?_ ?_; focus omega) | (refine sB rfl rfl ?_; intro _) | (refine sN rfl rfl ?_ ?_; (focus (first | exact trivial | assumption | constructor <;> assumption | exact mb2 rfl rfl | exact mb4 rfl rfl rfl rfl)); intro _; (try simp only [List.cons_append, List.nil_append, List.append_nil])) | refine sW rfl rfl ?_ | refine sK rfl rfl ?_ | refine j_if rfl ?_ | refine j_else rfl ?_ | refine pkT rfl rfl rfl rfl ?_ | refine pkF rfl rfl rfl rfl ?_)
  exact jx_ret_tmp rfl rfl (fun w hw => ret_ok hw)⟩
def lnX (f : R_api_Line) : R_api_Quad := ⟨f.X0, f.X1, 0⟩
def lnY (f : R_api_Line) : R_api_Quad := ⟨f.Y0, f.Y1, 0⟩
instance sp_coordinates (f : R_api_Line) : SpecC Tryz.prog 191 [vLn f] (.tuple #[vQd (lnX f), vQd (lnY f)]) True := ⟨fun _ w => by
  refine fn_intro Tryz.func191 rfl Tryz.ntmps191 rfl ?_
  repeat (first | refine sX rfl rfl ?_ | (refine sS rfl rfl ?_ ?_; focus omega) | (refine sC rfl rfl ?_ ?_; focus (first | exact trivial | assumption | constructor <;> assumption | exact mb2 rfl rfl | exact mb4 rfl rfl rfl rfl)) | refine cX ?_ | refine cY ?_ | (refine sA rfl rfl ?_; intro _) | refine sT rfl ?_ | refine sF rfl ?_ | (refine sR rfl ?_ ?_; focus omega) | (refine sB rfl rfl ?_; intro _) | (refine sN rfl rfl ?_ ?_; (focus (first | exact trivial | assumption | constructor <;> assumption | exact mb2 rfl rfl | exact mb4 rfl rfl rfl rfl)); intro _; (try simp only [List.cons_append, List.nil_append, List.append_nil])) | refine sW rfl rfl ?_ | refine sK rfl rfl ?_ | refine j_if rfl ?_ | refine j_else rfl ?_ | refine pkT rfl rfl rfl rfl ?_ | refine pkF rfl rfl rfl rfl ?_)
  (refine jD 10 10 mixed (by kernel_rfl) ?_; (repeat (first | refine tX rfl rfl ?_ | (refine tS rfl rfl ?_ ?_; focus omega) | (refine tC rfl rfl ?_ ?_; focus (first | exact trivial | assumption | constructor <;> assumption | exact mb2 rfl rfl | exact mb4 rfl rfl rfl rfl)) | refine tW rfl rfl ?_ | refine tK rfl rfl ?_ | refine Go.Vt.hq (wl_pickT rfl rfl) rfl rfl ?_ | refine Go.Vt.hq (wl_pickF rfl rfl) rfl rfl ?_)); refine jh_nil ?_; (repeat (refine wn_new ?_; intro _)); refine jn_nil ?_)
  repeat (first | refine sX rfl rfl ?_ | (refine sS rfl rfl ?_ ?_; focus omega) | (refine sC rfl rfl ?_ ?_; focus (first | exact trivial | assumption | constructor <;> assumption | exact mb2 rfl rfl | exact mb4 rfl rfl rfl rfl)) | refine cX ?_ | refine cY ?_ | (refine sA rfl rfl ?_; intro _) | refine sT rfl ?_ | refine sF rfl ?_ | (refine sR rfl ?_ ?_; focus omega) | (refine sB rfl rfl ?_; intro _) | (refine sN rfl rfl ?_ ?_; (focus (first | exact trivial | assumption | constructor <;> assumption | exact mb2 rfl rfl | exact mb4 rfl rfl rfl rfl)); intro _; (try simp only [List.cons_append, List.nil_append, List.append_nil])) | refine sW rfl rfl ?_ | refine sK rfl rfl ?_ | refine j_if rfl ?_ | refine j_else rfl ?_ | refine pkT rfl rfl rfl rfl ?_ | refine pkF rfl rfl rfl rfl ?_)
  exact jx_ret_two rfl (wr_cell rfl) (wr_cell rfl) (fun w hw => ret_ok hw)⟩
instance sp_LSame (f g : R_api_Line) (t : R_api_Real) (z : Array Value) : SpecC Tryz.prog 179 [.agg z, vLn f, vLn g, vR t] (.bool (qsame (lnX f) (lnX g) t.P && qsame (lnY f) (lnY g) t.P)) (t.R = 0 ∧ ((M f.X0 ≤ 8589934592 ∧ M f.X1 ≤ 8589934592) ∧ M f.Y0 ≤ 8589934592 ∧ M f.Y1 ≤ 8589934592) ∧ ((M g.X0 ≤ 8589934592 ∧ M g.X1 ≤ 8589934592) ∧ M g.Y0 ≤ 8589934592 ∧ M g.Y1 ≤ 8589934592) ∧ M t.P ≤ 8589934592) := ⟨fun hp w => by
  obtain ⟨h0, ⟨⟨h1, h2⟩, h3, h4⟩, ⟨⟨h5, h6⟩, h7, h8⟩, h9⟩ := hp
  have hm0 : M 0 ≤ 8589934592 := Nat.le_trans mb_zero.out (by decide)
  refine fn_intro Tryz.func179 rfl Tryz.ntmps179 rfl ?_
  repeat (first | refine sX rfl rfl ?_ | (refine sS rfl rfl ?_ ?_; focus omega) | (refine sC rfl rfl ?_ ?_; focus (first | exact trivial | exact ⟨h0, ⟨h1, h2, hm0⟩, ⟨h5, h6, hm0⟩, h9⟩)) | refine cX ?_ | refine cY ?_ | (refine sA rfl rfl ?_; intro _) | refine sT rfl ?_ | refine sF rfl ?_ | (refine sR rfl ?_ ?_; focus omega) | (refine sB rfl rfl ?_; intro _) | (refine sN rfl rfl ?_ ?_; (focus (first | exact trivial | exact ⟨h0, ⟨h1, h2, hm0⟩, ⟨h5, h6, hm0⟩, h9⟩)); intro _; (try simp only [List.cons_append, List.nil_append, List.append_nil])) | refine sW rfl rfl ?_ | refine sK rfl rfl ?_ | refine j_if rfl ?_ | refine j_else rfl ?_ | refine pkT rfl rfl rfl rfl ?_ | refine pkF rfl rfl rfl rfl ?_)
  rcases hb : qsame (lnX f) (lnX g) t.P with _ | _
  · repeat (first | refine sX rfl rfl ?_ | (refine sS rfl rfl ?_ ?_; focus omega) | (refine sC rfl rfl ?_ ?_; focus (first | exact trivial | assumption | constructor <;> assumption | exact mb2 rfl rfl | exact mb4 rfl rfl rfl rfl)) | refine cX ?_ | refine cY ?_ | (refine sA rfl rfl ?_; intro _) | refine sT rfl ?_ | refine sF rfl ?_ | (refine sR rfl ?_ ?_; focus omega) | (refine sB rfl rfl ?_; intro _) | (refine sN rfl rfl ?_ ?_; (focus (first | exact trivial | assumption | constructor <;> assumption | exact mb2 rfl rfl | exact mb4 rfl rfl rfl rfl)); intro _; (try simp only [List.cons_append, List.nil_append, List.append_nil])) | refine sW rfl rfl ?_ | refine sK rfl rfl ?_ | refine j_if rfl ?_ | refine j_else rfl ?_ | refine pkT rfl rfl rfl rfl ?_ | refine pkF rfl rfl rfl rfl ?_)
    exact jx_ret_tmp rfl rfl (fun w hw => ret_ok hw)
  · repeat (first | refine sX rfl rfl ?_ | (refine sS rfl rfl ?_ ?_; focus omega) | (refine sC rfl rfl ?_ ?_; focus (exact ⟨h0, ⟨h3, h4, hm0⟩, ⟨h7, h8, hm0⟩, h9⟩)) | refine cX ?_ | refine cY ?_ | (refine sA rfl rfl ?_; intro _) | refine sT rfl ?_ | refine sF rfl ?_ | (refine sR rfl ?_ ?_; focus omega) | (refine sB rfl rfl ?_; intro _) | (refine sN rfl rfl ?_ ?_; (focus (exact ⟨h0, ⟨h3, h4, hm0⟩, ⟨h7, h8, hm0⟩, h9⟩)); intro _; (try simp only [List.cons_append, List.nil_append, List.append_nil])) | refine sW rfl rfl ?_ | refine sK rfl rfl ?_ | refine j_if rfl ?_ | refine j_else rfl ?_ | refine pkT rfl rfl rfl rfl ?_ | refine pkF rfl rfl rfl rfl ?_)
    exact jx_ret_tmp rfl rfl (fun w hw => ret_ok hw)⟩
instance sp_LEqual (f g : R_api_Line) (z : Array Value) : SpecC Tryz.prog 258 [.agg z, vLn f, vLn g] (.bool (decide (f = g))) True := ⟨fun _ w => by
  refine fn_intro Tryz.func258 rfl Tryz.ntmps258 rfl ?_
  repeat (first | refine sX rfl rfl ?_ | (refine sS rfl rfl ?_ ?_; focus omega) | (refine sC rfl rfl ?_ ?_; focus (first | exact trivial | assumption | constructor <;> assumption | exact mb2 rfl rfl | exact mb4 rfl rfl rfl rfl)) | refine cX ?_ | refine cY ?_ | (refine sA rfl rfl ?_; intro _) | refine sT rfl ?_ | refine sF rfl ?_ | (refine sR rfl ?_ ?_; focus omega) | (refine sB rfl rfl ?_; intro _) | (refine sN rfl rfl ?_ ?_; (focus (first | exact trivial | assumption | constructor <;> assumption | exact mb2 rfl rfl | exact mb4 rfl rfl rfl rfl)); intro _; (try simp only [List.cons_append, List.nil_append, List.append_nil])) | refine sW rfl rfl ?_ | refine sK rfl rfl ?_ | refine j_if rfl ?_ | refine j_else rfl ?_ | refine pkT rfl rfl rfl rfl ?_ | refine pkF rfl rfl rfl rfl ?_)
  exact jx_ret_tmp rfl rfl (fun w hw => ret_ok hw)⟩
/-- The function at one instant. -/
def lred (f : R_api_Line) (t : Rat) : R_api_Line := ⟨f.X0 + t * (f.X1 + t * 0), 0, f.Y0 + t * (f.Y1 + t * 0), 0⟩
instance sp_LReduce (f : R_api_Line) (t : R_api_Real) (z : Array Value) : SpecC Tryz.prog 259 [.agg z, vLn f, vR t] (vLn (lred f t.P)) (t.R = 0 ∧ ((M f.X0 ≤ 8589934592 ∧ M f.X1 ≤ 8589934592) ∧ M f.Y0 ≤ 8589934592 ∧ M f.Y1 ≤ 8589934592) ∧ M t.P ≤ 8589934592) := ⟨fun hp w => by
  obtain ⟨h0, ⟨⟨h1, h2⟩, h3, h4⟩, h9⟩ := hp
  have hm0 : M 0 ≤ 34359738368 := Nat.le_trans mb_zero.out (by decide)
  have := MB.mk h1
  have := MB.mk h2
  have := MB.mk h3
  have := MB.mk h4
  have := MB.mk h9
  refine fn_intro Tryz.func259 rfl Tryz.ntmps259 rfl ?_
  repeat (first | refine sX rfl rfl ?_ | (refine sS rfl rfl ?_ ?_; focus omega) | (refine sC rfl rfl ?_ ?_; focus (first | exact trivial | assumption | constructor <;> assumption | exact mb2 rfl rfl | exact mb4 rfl rfl rfl rfl)) | refine cX ?_ | refine cY ?_ | (refine sA rfl rfl ?_; intro _) | refine sT rfl ?_ | refine sF rfl ?_ | (refine sR rfl ?_ ?_; focus omega) | (refine sB rfl rfl ?_; intro _) | (refine sN rfl rfl ?_ ?_; (focus (first | exact trivial | assumption | constructor <;> assumption | exact mb2 rfl rfl | exact mb4 rfl rfl rfl rfl)); intro _; (try simp only [List.cons_append, List.nil_append, List.append_nil])) | refine sW rfl rfl ?_ | refine sK rfl rfl ?_ | refine j_if rfl ?_ | refine j_else rfl ?_ | refine pkT rfl rfl rfl rfl ?_ | refine pkF rfl rfl rfl rfl ?_)
  (refine jD 6 6 mixed (by kernel_rfl) ?_; (repeat (first | refine tX rfl rfl ?_ | (refine tS rfl rfl ?_ ?_; focus omega) | (refine tC rfl rfl ?_ ?_; focus (first | exact ⟨h0, Nat.le_trans h1 (by decide), Nat.le_trans h2 (by decide), hm0, Nat.le_trans h9 (by decide)⟩ | exact ⟨h0, Nat.le_trans h3 (by decide), Nat.le_trans h4 (by decide), hm0, Nat.le_trans h9 (by decide)⟩)) | refine tW rfl rfl ?_ | refine tK rfl rfl ?_ | refine Go.Vt.hq (wl_pickT rfl rfl) rfl rfl ?_ | refine Go.Vt.hq (wl_pickF rfl rfl) rfl rfl ?_)); refine jh_nil ?_; (repeat (refine wn_new ?_; intro _)); refine jn_nil ?_)
  repeat (first | refine sX rfl rfl ?_ | (refine sS rfl rfl ?_ ?_; focus omega) | (refine sC rfl rfl ?_ ?_; focus (first | exact trivial | assumption | constructor <;> assumption | exact mb2 rfl rfl | exact mb4 rfl rfl rfl rfl)) | refine cX ?_ | refine cY ?_ | (refine sA rfl rfl ?_; intro _) | refine sT rfl ?_ | refine sF rfl ?_ | (refine sR rfl ?_ ?_; focus omega) | (refine sB rfl rfl ?_; intro _) | (refine sN rfl rfl ?_ ?_; (focus (first | exact trivial | assumption | constructor <;> assumption | exact mb2 rfl rfl | exact mb4 rfl rfl rfl rfl)); intro _; (try simp only [List.cons_append, List.nil_append, List.append_nil])) | refine sW rfl rfl ?_ | refine sK rfl rfl ?_ | refine j_if rfl ?_ | refine j_else rfl ?_ | refine pkT rfl rfl rfl rfl ?_ | refine pkF rfl rfl rfl rfl ?_)
  exact wx_cell rfl rfl (fun w hw => ret_ok hw)⟩
end Go.Vt
/- Units of moving points as units of pieces, and back, walked. Conditions: those that each statement names. -/
set_option linter.unusedSimpArgs false
set_option linter.unusedVariables false
set_option maxRecDepth 100000
namespace Go.Vt
open Go.RowKit Go.Proofs
abbrev PU := R_api_PointUnit
abbrev UL := R_pieces_Unit_api_Line
abbrev rP := r_api_PointUnit
abbrev rU := r_pieces_Unit_api_Line
abbrev vPU (u : PU) : Value := .agg (e_api_PointUnit (q_api_PointUnit u))
abbrev vUL (u : UL) : Value := .agg (e_pieces_Unit_api_Line (q_pieces_Unit_api_Line u))
abbrev vFn (f : FuncId) : Value := .func (.func f) #[] [].toArray
def toU (u : PU) : UL := ⟨u.In, u.F⟩
def ofU (u : UL) : PU := ⟨u.In, u.F⟩
instance sp_to1 (u : PU) : SpecC Tryz.prog 111 [vPU u] (vUL (toU u)) True := ⟨fun _ w => by
  refine fn_intro Tryz.func111 rfl Tryz.ntmps111 rfl ?_
  repeat (first | refine sX rfl rfl ?_ | (refine sS rfl rfl ?_ ?_; focus omega) | (refine sC rfl rfl ?_ ?_; focus (first | exact trivial | assumption | constructor <;> assumption | exact mb2 rfl rfl | exact mb4 rfl rfl rfl rfl)) | refine cX ?_ | refine cY ?_ | (refine sA rfl rfl ?_; intro _) | refine sT rfl ?_ | refine sF rfl ?_ | (refine sR rfl ?_ ?_; focus omega) | (refine sB rfl rfl ?_; intro _) | (refine sN rfl rfl ?_ ?_; (focus (first | exact trivial | assumption | constructor <;> assumption | exact mb2 rfl rfl | exact mb4 rfl rfl rfl rfl)); intro _; (try simp only [List.cons_append, List.nil_append, List.append_nil])) | refine sW rfl rfl ?_ | refine sK rfl rfl ?_ | refine j_if rfl ?_ | refine j_else rfl ?_ | refine pkT rfl rfl rfl rfl ?_ | refine pkF rfl rfl rfl rfl ?_)
  exact wx_cell rfl rfl (fun w hw => ret_ok hw)⟩
instance sp_from1 (u : UL) : SpecC Tryz.prog 139 [vUL u] (vPU (ofU u)) True := ⟨fun _ w => by
  refine fn_intro Tryz.func139 rfl Tryz.ntmps139 rfl ?_
  repeat (first | refine sX rfl rfl ?_ | (refine sS rfl rfl ?_ ?_; focus omega) | (refine sC rfl rfl ?_ ?_; focus (first | exact trivial | assumption | constructor <;> assumption | exact mb2 rfl rfl | exact mb4 rfl rfl rfl rfl)) | refine cX ?_ | refine cY ?_ | (refine sA rfl rfl ?_; intro _) | refine sT rfl ?_ | refine sF rfl ?_ | (refine sR rfl ?_ ?_; focus omega) | (refine sB rfl rfl ?_; intro _) | (refine sN rfl rfl ?_ ?_; (focus (first | exact trivial | assumption | constructor <;> assumption | exact mb2 rfl rfl | exact mb4 rfl rfl rfl rfl)); intro _; (try simp only [List.cons_append, List.nil_append, List.append_nil])) | refine sW rfl rfl ?_ | refine sK rfl rfl ?_ | refine j_if rfl ?_ | refine j_else rfl ?_ | refine pkT rfl rfl rfl rfl ?_ | refine pkF rfl rfl rfl rfl ?_)
  exact wx_cell rfl rfl (fun w hw => ret_ok hw)⟩
theorem mapTo_spec (v : Value) (us : List PU) (w : World) (hv : ArgS w v rP us) (hl : us.length ≤ 1048576) :
    Calls Tryz.prog 110 [v, vFn 111].toArray w (RetM (SlS rU 36 (mpN toU us us.length)) (fun s => vSl s) (fun s => mS 163 s) w) := by
  refine fn_intro Tryz.func110 rfl Tryz.ntmps110 rfl ?_
  obtain ⟨p, cp, rfl⟩ := hv.form
  repeat (first | refine sX rfl rfl ?_ | (refine sS rfl rfl ?_ ?_; focus omega) | (refine sC rfl rfl ?_ ?_; focus (first | exact trivial | assumption | constructor <;> assumption | exact mb2 rfl rfl | exact mb4 rfl rfl rfl rfl)) | refine cX ?_ | refine cY ?_ | (refine sA rfl rfl ?_; intro _) | refine sT rfl ?_ | refine sF rfl ?_ | (refine sR rfl ?_ ?_; focus omega) | (refine sB rfl rfl ?_; intro _) | (refine sN rfl rfl ?_ ?_; (focus (first | exact trivial | assumption | constructor <;> assumption | exact mb2 rfl rfl | exact mb4 rfl rfl rfl rfl)); intro _; (try simp only [List.cons_append, List.nil_append, List.append_nil])) | refine sW rfl rfl ?_ | refine sK rfl rfl ?_ | refine j_if rfl ?_ | refine j_else rfl ?_ | refine pkT rfl rfl rfl rfl ?_ | refine pkF rfl rfl rfl rfl ?_)
  refine j_loop (S := (m : Nat) × SlS rU 36 (mpN toU us m)) (fun s => s.1 ≤ us.length) (fun s => [(1, vFn 111), (5, vSl s.2), (8, .slice p us.length cp), (9, .int .i64 us.length), (10, .int .i64 (s.1 : Nat))]) (fun s => mS 163 s.2) (fun s => us.length - s.1) ⟨0, SlS.no⟩
    (Nat.zero_le _) (by repeat (first | exact sub_nil | refine sub_cons rfl ?_ | refine sub_cons' rfl (by congr 1; omega) ?_)) (by repeat (first | exact List.Sublist.refl _ | exact List.nil_sublist _ | refine List.Sublist.cons_cons _ ?_ | refine List.Sublist.cons _ ?_)) (fun s hm => ?_)
  obtain ⟨m, s⟩ := s
  simp only at hm ⊢
  repeat (first | refine sX rfl rfl ?_ | (refine sS rfl rfl ?_ ?_; focus omega) | (refine sC rfl rfl ?_ ?_; focus (first | exact trivial | assumption | constructor <;> assumption | exact mb2 rfl rfl | exact mb4 rfl rfl rfl rfl)) | refine cX ?_ | refine cY ?_ | (refine sA rfl rfl ?_; intro _) | refine sT rfl ?_ | refine sF rfl ?_ | (refine sR rfl ?_ ?_; focus omega) | (refine sB rfl rfl ?_; intro _) | (refine sN rfl rfl ?_ ?_; (focus (first | exact trivial | assumption | constructor <;> assumption | exact mb2 rfl rfl | exact mb4 rfl rfl rfl rfl)); intro _; (try simp only [List.cons_append, List.nil_append, List.append_nil])) | refine sW rfl rfl ?_ | refine sK rfl rfl ?_ | refine j_if rfl ?_ | refine j_else rfl ?_ | refine pkT rfl rfl rfl rfl ?_ | refine pkF rfl rfl rfl rfl ?_)
  refine j_cond rfl (fun h => ?_) (fun h => ?_)
  · have hlt : m < us.length := by have := of_decide_eq_true h; omega
    have hne : us ≠ [] := fun h0 => by rw [h0] at hlt; simp at hlt
    obtain ⟨bw, ow, cw, hvw, hcw, hrow⟩ := hv.blk (k := 35) hne []
    injection hvw with e1 e2 e3
    subst e1
    subst e3
    have hrow' : ∀ L, RowC w L bw ow PU rP us := fun L => ⟨fun w' hw' => hrow.out w' (hw'.sub (List.nil_sublist _))⟩
    repeat (first | refine sX rfl rfl ?_ | (refine sS rfl rfl ?_ ?_; focus omega) | (refine sC rfl rfl ?_ ?_; focus (first | exact trivial | assumption | constructor <;> assumption | exact mb2 rfl rfl | exact mb4 rfl rfl rfl rfl)) | refine cX ?_ | refine cY ?_ | (refine sA rfl rfl ?_; intro _) | refine sT rfl ?_ | refine sF rfl ?_ | (refine sR rfl ?_ ?_; focus omega) | (refine sB rfl rfl ?_; intro _) | (refine sN rfl rfl ?_ ?_; (focus (first | exact trivial | assumption | constructor <;> assumption | exact mb2 rfl rfl | exact mb4 rfl rfl rfl rfl)); intro _; (try simp only [List.cons_append, List.nil_append, List.append_nil])) | refine sW rfl rfl ?_ | refine sK rfl rfl ?_ | refine j_if rfl ?_ | refine j_else rfl ?_ | refine pkT rfl rfl rfl rfl ?_ | refine pkF rfl rfl rfl rfl ?_)
    have hml := mpN_len toU us m
    refine sU rfl rfl ?_ ?_ ?_ ?_
    · rfl
    · rfl
    · exact ⟨by decide, by omega, by omega⟩
    intro s'
    repeat (first | refine sX rfl rfl ?_ | (refine sS rfl rfl ?_ ?_; focus omega) | (refine sC rfl rfl ?_ ?_; focus (exact ⟨by omega, by omega⟩)) | refine cX ?_ | refine cY ?_ | (refine sA rfl rfl ?_; intro _) | refine sT rfl ?_ | refine sF rfl ?_ | (refine sR rfl ?_ ?_; focus omega) | (refine sB rfl rfl ?_; intro _) | (refine sN rfl rfl ?_ ?_; (focus (exact ⟨by omega, by omega⟩)); intro _; (try simp only [List.cons_append, List.nil_append, List.append_nil])) | refine sW rfl rfl ?_ | refine sK rfl rfl ?_ | refine j_if rfl ?_ | refine j_else rfl ?_ | refine pkT rfl rfl rfl rfl ?_ | refine pkF rfl rfl rfl rfl ?_)
    exact jx_loop ⟨m + 1, s'⟩ hlt (by repeat (first | exact sub_nil | refine sub_cons rfl ?_ | refine sub_cons' rfl (by congr 1; omega) ?_)) (by repeat (first | exact List.Sublist.refl _ | exact List.nil_sublist _ | exact List.sublist_append_left _ _ | refine List.Sublist.append_left ?_ _ | refine List.Sublist.cons_cons _ ?_ | refine List.Sublist.cons _ ?_ | refine List.Sublist.trans ?_ (List.sublist_append_right _ _))) (by show us.length - (m + 1) < us.length - m; omega)
  · have hge : m = us.length := by have := of_decide_eq_false h; omega
    subst hge
    repeat (first | refine sX rfl rfl ?_ | (refine sS rfl rfl ?_ ?_; focus omega) | (refine sC rfl rfl ?_ ?_; focus (first | exact trivial | assumption | constructor <;> assumption | exact mb2 rfl rfl | exact mb4 rfl rfl rfl rfl)) | refine cX ?_ | refine cY ?_ | (refine sA rfl rfl ?_; intro _) | refine sT rfl ?_ | refine sF rfl ?_ | (refine sR rfl ?_ ?_; focus omega) | (refine sB rfl rfl ?_; intro _) | (refine sN rfl rfl ?_ ?_; (focus (first | exact trivial | assumption | constructor <;> assumption | exact mb2 rfl rfl | exact mb4 rfl rfl rfl rfl)); intro _; (try simp only [List.cons_append, List.nil_append, List.append_nil])) | refine sW rfl rfl ?_ | refine sK rfl rfl ?_ | refine j_if rfl ?_ | refine j_else rfl ?_ | refine pkT rfl rfl rfl rfl ?_ | refine pkF rfl rfl rfl rfl ?_)
    exact jx_ret_tmp rfl rfl (fun w hw => ⟨s, rfl, hw.sub sbl⟩)
theorem mapFrom_spec (v : Value) (us : List UL) (w : World) (hv : ArgS w v rU us) (hl : us.length ≤ 1048576) :
    Calls Tryz.prog 138 [v, vFn 139].toArray w (RetM (SlS rP 36 (mpN ofU us us.length)) (fun s => vSl s) (fun s => mS 68 s) w) := by
  refine fn_intro Tryz.func138 rfl Tryz.ntmps138 rfl ?_
  obtain ⟨p, cp, rfl⟩ := hv.form
  repeat (first | refine sX rfl rfl ?_ | (refine sS rfl rfl ?_ ?_; focus omega) | (refine sC rfl rfl ?_ ?_; focus (first | exact trivial | assumption | constructor <;> assumption | exact mb2 rfl rfl | exact mb4 rfl rfl rfl rfl)) | refine cX ?_ | refine cY ?_ | (refine sA rfl rfl ?_; intro _) | refine sT rfl ?_ | refine sF rfl ?_ | (refine sR rfl ?_ ?_; focus omega) | (refine sB rfl rfl ?_; intro _) | (refine sN rfl rfl ?_ ?_; (focus (first | exact trivial | assumption | constructor <;> assumption | exact mb2 rfl rfl | exact mb4 rfl rfl rfl rfl)); intro _; (try simp only [List.cons_append, List.nil_append, List.append_nil])) | refine sW rfl rfl ?_ | refine sK rfl rfl ?_ | refine j_if rfl ?_ | refine j_else rfl ?_ | refine pkT rfl rfl rfl rfl ?_ | refine pkF rfl rfl rfl rfl ?_)
  refine j_loop (S := (m : Nat) × SlS rP 36 (mpN ofU us m)) (fun s => s.1 ≤ us.length) (fun s => [(1, vFn 139), (5, vSl s.2), (8, .slice p us.length cp), (9, .int .i64 us.length), (10, .int .i64 (s.1 : Nat))]) (fun s => mS 68 s.2) (fun s => us.length - s.1) ⟨0, SlS.no⟩
    (Nat.zero_le _) (by repeat (first | exact sub_nil | refine sub_cons rfl ?_ | refine sub_cons' rfl (by congr 1; omega) ?_)) (by repeat (first | exact List.Sublist.refl _ | exact List.nil_sublist _ | refine List.Sublist.cons_cons _ ?_ | refine List.Sublist.cons _ ?_)) (fun s hm => ?_)
  obtain ⟨m, s⟩ := s
  simp only at hm ⊢
  repeat (first | refine sX rfl rfl ?_ | (refine sS rfl rfl ?_ ?_; focus omega) | (refine sC rfl rfl ?_ ?_; focus (first | exact trivial | assumption | constructor <;> assumption | exact mb2 rfl rfl | exact mb4 rfl rfl rfl rfl)) | refine cX ?_ | refine cY ?_ | (refine sA rfl rfl ?_; intro _) | refine sT rfl ?_ | refine sF rfl ?_ | (refine sR rfl ?_ ?_; focus omega) | (refine sB rfl rfl ?_; intro _) | (refine sN rfl rfl ?_ ?_; (focus (first | exact trivial | assumption | constructor <;> assumption | exact mb2 rfl rfl | exact mb4 rfl rfl rfl rfl)); intro _; (try simp only [List.cons_append, List.nil_append, List.append_nil])) | refine sW rfl rfl ?_ | refine sK rfl rfl ?_ | refine j_if rfl ?_ | refine j_else rfl ?_ | refine pkT rfl rfl rfl rfl ?_ | refine pkF rfl rfl rfl rfl ?_)
  refine j_cond rfl (fun h => ?_) (fun h => ?_)
  · have hlt : m < us.length := by have := of_decide_eq_true h; omega
    have hne : us ≠ [] := fun h0 => by rw [h0] at hlt; simp at hlt
    obtain ⟨bw, ow, cw, hvw, hcw, hrow⟩ := hv.blk (k := 35) hne []
    injection hvw with e1 e2 e3
    subst e1
    subst e3
    have hrow' : ∀ L, RowC w L bw ow UL rU us := fun L => ⟨fun w' hw' => hrow.out w' (hw'.sub (List.nil_sublist _))⟩
    repeat (first | refine sX rfl rfl ?_ | (refine sS rfl rfl ?_ ?_; focus omega) | (refine sC rfl rfl ?_ ?_; focus (first | exact trivial | assumption | constructor <;> assumption | exact mb2 rfl rfl | exact mb4 rfl rfl rfl rfl)) | refine cX ?_ | refine cY ?_ | (refine sA rfl rfl ?_; intro _) | refine sT rfl ?_ | refine sF rfl ?_ | (refine sR rfl ?_ ?_; focus omega) | (refine sB rfl rfl ?_; intro _) | (refine sN rfl rfl ?_ ?_; (focus (first | exact trivial | assumption | constructor <;> assumption | exact mb2 rfl rfl | exact mb4 rfl rfl rfl rfl)); intro _; (try simp only [List.cons_append, List.nil_append, List.append_nil])) | refine sW rfl rfl ?_ | refine sK rfl rfl ?_ | refine j_if rfl ?_ | refine j_else rfl ?_ | refine pkT rfl rfl rfl rfl ?_ | refine pkF rfl rfl rfl rfl ?_)
    have hml := mpN_len ofU us m
    refine sU rfl rfl ?_ ?_ ?_ ?_
    · rfl
    · rfl
    · exact ⟨by decide, by omega, by omega⟩
    intro s'
    repeat (first | refine sX rfl rfl ?_ | (refine sS rfl rfl ?_ ?_; focus omega) | (refine sC rfl rfl ?_ ?_; focus (exact ⟨by omega, by omega⟩)) | refine cX ?_ | refine cY ?_ | (refine sA rfl rfl ?_; intro _) | refine sT rfl ?_ | refine sF rfl ?_ | (refine sR rfl ?_ ?_; focus omega) | (refine sB rfl rfl ?_; intro _) | (refine sN rfl rfl ?_ ?_; (focus (exact ⟨by omega, by omega⟩)); intro _; (try simp only [List.cons_append, List.nil_append, List.append_nil])) | refine sW rfl rfl ?_ | refine sK rfl rfl ?_ | refine j_if rfl ?_ | refine j_else rfl ?_ | refine pkT rfl rfl rfl rfl ?_ | refine pkF rfl rfl rfl rfl ?_)
    exact jx_loop ⟨m + 1, s'⟩ hlt (by repeat (first | exact sub_nil | refine sub_cons rfl ?_ | refine sub_cons' rfl (by congr 1; omega) ?_)) (by repeat (first | exact List.Sublist.refl _ | exact List.nil_sublist _ | exact List.sublist_append_left _ _ | refine List.Sublist.append_left ?_ _ | refine List.Sublist.cons_cons _ ?_ | refine List.Sublist.cons _ ?_ | refine List.Sublist.trans ?_ (List.sublist_append_right _ _))) (by show us.length - (m + 1) < us.length - m; omega)
  · have hge : m = us.length := by have := of_decide_eq_false h; omega
    subst hge
    repeat (first | refine sX rfl rfl ?_ | (refine sS rfl rfl ?_ ?_; focus omega) | (refine sC rfl rfl ?_ ?_; focus (first | exact trivial | assumption | constructor <;> assumption | exact mb2 rfl rfl | exact mb4 rfl rfl rfl rfl)) | refine cX ?_ | refine cY ?_ | (refine sA rfl rfl ?_; intro _) | refine sT rfl ?_ | refine sF rfl ?_ | (refine sR rfl ?_ ?_; focus omega) | (refine sB rfl rfl ?_; intro _) | (refine sN rfl rfl ?_ ?_; (focus (first | exact trivial | assumption | constructor <;> assumption | exact mb2 rfl rfl | exact mb4 rfl rfl rfl rfl)); intro _; (try simp only [List.cons_append, List.nil_append, List.append_nil])) | refine sW rfl rfl ?_ | refine sK rfl rfl ?_ | refine j_if rfl ?_ | refine j_else rfl ?_ | refine pkT rfl rfl rfl rfl ?_ | refine pkF rfl rfl rfl rfl ?_)
    exact jx_ret_tmp rfl rfl (fun w hw => ⟨s, rfl, hw.sub sbl⟩)
instance sr_mapTo (w0 : World) (L : List Blk) (v : Value) (us : List PU) [h : LstC w0 L v PU rP us] : SpecR Tryz.prog w0 L 110 [v, vFn 111] (SlS rU 36 (mpN toU us us.length)) (fun s => vSl s) (fun s => mS 163 s) (us.length ≤ 1048576) := ⟨fun hl w hw => mapTo_spec v us w (h.out w hw) hl⟩
instance sr_mapFrom (w0 : World) (L : List Blk) (v : Value) (us : List UL) [h : LstC w0 L v UL rU us] : SpecR Tryz.prog w0 L 138 [v, vFn 139] (SlS rP 36 (mpN ofU us us.length)) (fun s => vSl s) (fun s => mS 68 s) (us.length ≤ 1048576) := ⟨fun hl w hw => mapFrom_spec v us w (h.out w hw) hl⟩
theorem to_spec (v : Value) (us : List PU) (w : World) (hv : ArgS w v rP us) (hl : us.length ≤ 1048576) :
    Calls Tryz.prog 61 [v].toArray w (RetM (SlS rU 36 (mpN toU us us.length)) (fun s => vSl s) (fun s => mS 163 s) w) := by
  have := ArgC.mk hv
  refine fn_intro Tryz.func61 rfl Tryz.ntmps61 rfl ?_
  repeat (first | refine sX rfl rfl ?_ | (refine sS rfl rfl ?_ ?_; focus omega) | (refine sC rfl rfl ?_ ?_; focus (exact hl)) | refine cX ?_ | refine cY ?_ | (refine sA rfl rfl ?_; intro _) | refine sT rfl ?_ | refine sF rfl ?_ | (refine sR rfl ?_ ?_; focus omega) | (refine sB rfl rfl ?_; intro _) | (refine sN rfl rfl ?_ ?_; (focus (exact hl)); intro _; (try simp only [List.cons_append, List.nil_append, List.append_nil])) | refine sW rfl rfl ?_ | refine sK rfl rfl ?_ | refine j_if rfl ?_ | refine j_else rfl ?_ | refine pkT rfl rfl rfl rfl ?_ | refine pkF rfl rfl rfl rfl ?_)
  rename_i s
  exact jx_ret_tmp rfl rfl (fun w hw => ⟨s, rfl, hw.sub (by repeat (first | exact List.Sublist.refl _ | exact List.nil_sublist _ | exact List.sublist_append_left _ _ | refine List.Sublist.append_left ?_ _ | refine List.Sublist.cons_cons _ ?_ | refine List.Sublist.cons _ ?_ | refine List.Sublist.trans ?_ (List.sublist_append_right _ _)))⟩)
theorem from_spec (v : Value) (us : List UL) (w : World) (hv : ArgS w v rU us) (hl : us.length ≤ 1048576) :
    Calls Tryz.prog 97 [v].toArray w (RetM (SlS rP 36 (mpN ofU us us.length)) (fun s => vSl s) (fun s => mS 68 s) w) := by
  have := ArgC.mk hv
  refine fn_intro Tryz.func97 rfl Tryz.ntmps97 rfl ?_
  repeat (first | refine sX rfl rfl ?_ | (refine sS rfl rfl ?_ ?_; focus omega) | (refine sC rfl rfl ?_ ?_; focus (exact hl)) | refine cX ?_ | refine cY ?_ | (refine sA rfl rfl ?_; intro _) | refine sT rfl ?_ | refine sF rfl ?_ | (refine sR rfl ?_ ?_; focus omega) | (refine sB rfl rfl ?_; intro _) | (refine sN rfl rfl ?_ ?_; (focus (exact hl)); intro _; (try simp only [List.cons_append, List.nil_append, List.append_nil])) | refine sW rfl rfl ?_ | refine sK rfl rfl ?_ | refine j_if rfl ?_ | refine j_else rfl ?_ | refine pkT rfl rfl rfl rfl ?_ | refine pkF rfl rfl rfl rfl ?_)
  rename_i s
  exact jx_ret_tmp rfl rfl (fun w hw => ⟨s, rfl, hw.sub (by repeat (first | exact List.Sublist.refl _ | exact List.nil_sublist _ | exact List.sublist_append_left _ _ | refine List.Sublist.append_left ?_ _ | refine List.Sublist.cons_cons _ ?_ | refine List.Sublist.cons _ ?_ | refine List.Sublist.trans ?_ (List.sublist_append_right _ _)))⟩)
instance sr_to (w0 : World) (L : List Blk) (v : Value) (us : List PU) [h : LstC w0 L v PU rP us] : SpecR Tryz.prog w0 L 61 [v] (SlS rU 36 (mpN toU us us.length)) (fun s => vSl s) (fun s => mS 163 s) (us.length ≤ 1048576) := ⟨fun hl w hw => to_spec v us w (h.out w hw) hl⟩
instance sr_from (w0 : World) (L : List Blk) (v : Value) (us : List UL) [h : LstC w0 L v UL rU us] : SpecR Tryz.prog w0 L 97 [v] (SlS rP 36 (mpN ofU us us.length)) (fun s => vSl s) (fun s => mS 68 s) (us.length ≤ 1048576) := ⟨fun hl w hw => from_spec v us w (h.out w hw) hl⟩
end Go.Vt
/- The order of units and their sorting, walked. Conditions: those that each statement names. -/
set_option linter.unusedSimpArgs false
set_option linter.unusedVariables false
set_option maxRecDepth 100000
namespace Go.Vt
open Go.RowKit Go.Proofs
/-- The first of some numbers that is not zero. -/
def orL : List Int → Int
  | [] => 0
  | x :: r => if x = 0 then orL r else x
theorem orL_drop (xs : List Int) (m : Nat) (hm : m < xs.length) : orL (xs.drop m) = if gi xs (m : Int) = 0 then orL (xs.drop (m + 1)) else gi xs (m : Int) := by
  rw [List.drop_eq_getElem_cons hm, orL, gi_nat hm]
theorem cmpOr_spec (b c n : Nat) (xs : List Int) (sp : List Value) (T : TypeId) (hn : n = xs.length) (hl : n ≤ 1099511627776) (w : World) (hw : ∃ fz, w.heap[b]? = some (.cells (row (eI .i64) xs sp) T fz)) :
    Calls Tryz.prog 145 [.slice (some ⟨b, 0, none⟩) n c].toArray w (Ret (.int .i64 (orL xs)) w) := by
  have := FoC.mk hw
  refine fn_intro Tryz.func145 rfl Tryz.ntmps145 rfl ?_
  repeat (first | refine sX rfl rfl ?_ | (refine sS rfl rfl ?_ ?_; focus omega) | (refine sC rfl rfl ?_ ?_; focus (first | exact trivial | assumption | constructor <;> assumption | exact mb2 rfl rfl | exact mb4 rfl rfl rfl rfl)) | refine cX ?_ | refine cY ?_ | (refine sA rfl rfl ?_; intro _) | refine sT rfl ?_ | refine sF rfl ?_ | (refine sR rfl ?_ ?_; focus omega) | (refine sB rfl rfl ?_; intro _) | (refine sN rfl rfl ?_ ?_; (focus (first | exact trivial | assumption | constructor <;> assumption | exact mb2 rfl rfl | exact mb4 rfl rfl rfl rfl)); intro _; (try simp only [List.cons_append, List.nil_append, List.append_nil])) | refine sW rfl rfl ?_ | refine sK rfl rfl ?_ | refine j_if rfl ?_ | refine j_else rfl ?_ | refine pkT rfl rfl rfl rfl ?_ | refine pkF rfl rfl rfl rfl ?_)
  refine j_loop (S := Nat) (fun m => m ≤ n ∧ orL xs = orL (xs.drop m)) (fun m => [(3, .int .i64 0), (6, .slice (some ⟨b, 0, none⟩) n c), (7, .int .i64 n), (8, .int .i64 (m : Nat))]) (fun _ => []) (fun m => n - m) 0 ⟨Nat.zero_le _, by rw [List.drop_zero]⟩ (by repeat (first | exact sub_nil | refine sub_cons rfl ?_ | refine sub_cons' rfl (by congr 1; omega) ?_)) (by repeat (first | exact List.Sublist.refl _ | exact List.nil_sublist _ | refine List.Sublist.cons_cons _ ?_ | refine List.Sublist.cons _ ?_)) (fun m hm => ?_)
  obtain ⟨hm, ho⟩ := hm
  repeat (first | refine sX rfl rfl ?_ | (refine sS rfl rfl ?_ ?_; focus omega) | (refine sC rfl rfl ?_ ?_; focus (first | exact trivial | assumption | constructor <;> assumption | exact mb2 rfl rfl | exact mb4 rfl rfl rfl rfl)) | refine cX ?_ | refine cY ?_ | (refine sA rfl rfl ?_; intro _) | refine sT rfl ?_ | refine sF rfl ?_ | (refine sR rfl ?_ ?_; focus omega) | (refine sB rfl rfl ?_; intro _) | (refine sN rfl rfl ?_ ?_; (focus (first | exact trivial | assumption | constructor <;> assumption | exact mb2 rfl rfl | exact mb4 rfl rfl rfl rfl)); intro _; (try simp only [List.cons_append, List.nil_append, List.append_nil])) | refine sW rfl rfl ?_ | refine sK rfl rfl ?_ | refine j_if rfl ?_ | refine j_else rfl ?_ | refine pkT rfl rfl rfl rfl ?_ | refine pkF rfl rfl rfl rfl ?_)
  refine j_cond rfl (fun h => ?_) (fun h => ?_)
  · have hlt : m < n := by have := of_decide_eq_true h; omega
    have hlp : (m : Int).toNat < xs.length := by omega
    rw [orL_drop xs m (by omega)] at ho
    repeat (first | refine sX rfl rfl ?_ | (refine sS rfl rfl ?_ ?_; focus omega) | (refine sC rfl rfl ?_ ?_; focus (first | exact trivial | assumption | constructor <;> assumption | exact mb2 rfl rfl | exact mb4 rfl rfl rfl rfl)) | refine cX ?_ | refine cY ?_ | (refine sA rfl rfl ?_; intro _) | refine sT rfl ?_ | refine sF rfl ?_ | (refine sR rfl ?_ ?_; focus omega) | (refine sB rfl rfl ?_; intro _) | (refine sN rfl rfl ?_ ?_; (focus (first | exact trivial | assumption | constructor <;> assumption | exact mb2 rfl rfl | exact mb4 rfl rfl rfl rfl)); intro _; (try simp only [List.cons_append, List.nil_append, List.append_nil])) | refine sW rfl rfl ?_ | refine sK rfl rfl ?_ | refine j_if rfl ?_ | refine j_else rfl ?_ | refine pkT rfl rfl rfl rfl ?_ | refine pkF rfl rfl rfl rfl ?_)
    by_cases h0 : gi xs (m : Int) = 0
    · rw [if_pos h0] at ho
      simp only [decide_eq_true h0, Bool.not_true]
      repeat (first | refine sX rfl rfl ?_ | (refine sS rfl rfl ?_ ?_; focus omega) | (refine sC rfl rfl ?_ ?_; focus (exact ⟨by omega, by omega⟩)) | refine cX ?_ | refine cY ?_ | (refine sA rfl rfl ?_; intro _) | refine sT rfl ?_ | refine sF rfl ?_ | (refine sR rfl ?_ ?_; focus omega) | (refine sB rfl rfl ?_; intro _) | (refine sN rfl rfl ?_ ?_; (focus (exact ⟨by omega, by omega⟩)); intro _; (try simp only [List.cons_append, List.nil_append, List.append_nil])) | refine sW rfl rfl ?_ | refine sK rfl rfl ?_ | refine j_if rfl ?_ | refine j_else rfl ?_ | refine pkT rfl rfl rfl rfl ?_ | refine pkF rfl rfl rfl rfl ?_)
      exact jx_loop (m + 1) ⟨hlt, ho⟩ (by repeat (first | exact sub_nil | refine sub_cons rfl ?_ | refine sub_cons' rfl (by congr 1; omega) ?_)) (by repeat (first | exact List.Sublist.refl _ | exact List.nil_sublist _ | refine List.Sublist.cons_cons _ ?_ | refine List.Sublist.cons _ ?_)) (by omega)
    · rw [if_neg h0] at ho
      simp only [decide_eq_false h0, Bool.not_false]
      repeat (first | refine sX rfl rfl ?_ | (refine sS rfl rfl ?_ ?_; focus omega) | (refine sC rfl rfl ?_ ?_; focus (first | exact trivial | assumption | constructor <;> assumption | exact mb2 rfl rfl | exact mb4 rfl rfl rfl rfl)) | refine cX ?_ | refine cY ?_ | (refine sA rfl rfl ?_; intro _) | refine sT rfl ?_ | refine sF rfl ?_ | (refine sR rfl ?_ ?_; focus omega) | (refine sB rfl rfl ?_; intro _) | (refine sN rfl rfl ?_ ?_; (focus (first | exact trivial | assumption | constructor <;> assumption | exact mb2 rfl rfl | exact mb4 rfl rfl rfl rfl)); intro _; (try simp only [List.cons_append, List.nil_append, List.append_nil])) | refine sW rfl rfl ?_ | refine sK rfl rfl ?_ | refine j_if rfl ?_ | refine j_else rfl ?_ | refine pkT rfl rfl rfl rfl ?_ | refine pkF rfl rfl rfl rfl ?_)
      rw [ho]
      exact jx_ret_tmp rfl rfl (fun w hw => ret_ok hw)
  · have hge : m = n := by have := of_decide_eq_false h; omega
    subst hge
    rw [hn, List.drop_length] at ho
    repeat (first | refine sX rfl rfl ?_ | (refine sS rfl rfl ?_ ?_; focus omega) | (refine sC rfl rfl ?_ ?_; focus (first | exact trivial | assumption | constructor <;> assumption | exact mb2 rfl rfl | exact mb4 rfl rfl rfl rfl)) | refine cX ?_ | refine cY ?_ | (refine sA rfl rfl ?_; intro _) | refine sT rfl ?_ | refine sF rfl ?_ | (refine sR rfl ?_ ?_; focus omega) | (refine sB rfl rfl ?_; intro _) | (refine sN rfl rfl ?_ ?_; (focus (first | exact trivial | assumption | constructor <;> assumption | exact mb2 rfl rfl | exact mb4 rfl rfl rfl rfl)); intro _; (try simp only [List.cons_append, List.nil_append, List.append_nil])) | refine sW rfl rfl ?_ | refine sK rfl rfl ?_ | refine j_if rfl ?_ | refine j_else rfl ?_ | refine pkT rfl rfl rfl rfl ?_ | refine pkF rfl rfl rfl rfl ?_)
    rw [ho]
    exact jx_ret_tmp rfl rfl (fun w hw => ret_ok hw)
instance sm_cmpOr (w0 : World) (L : List Blk) (b c n : Nat) (xs : List Int) (sp : List Value) (T : TypeId) [h : AtC w0 L b (row (eI .i64) xs sp) T] : SpecM Tryz.prog w0 L 145 [.slice (some ⟨b, 0, none⟩) n c] (.int .i64 (orL xs)) (n = xs.length ∧ n ≤ 1099511627776) := ⟨fun hp w hw => cmpOr_spec b c n xs sp T hp.1 hp.2 w (h.out w hw)⟩
def opn (I : R_api_Interval) : Int := if I.OpenFrom then 1 else 0
instance sp_opn (I : R_api_Interval) : SpecC Tryz.prog 170 [vIv I] (.int .i64 (opn I)) True := ⟨fun _ w => by
  refine fn_intro Tryz.func170 rfl Tryz.ntmps170 rfl ?_
  obtain ⟨f, t, o, c⟩ := I
  cases o
  · repeat (first | refine sX rfl rfl ?_ | (refine sS rfl rfl ?_ ?_; focus omega) | (refine sC rfl rfl ?_ ?_; focus (first | exact trivial | assumption | constructor <;> assumption | exact mb2 rfl rfl | exact mb4 rfl rfl rfl rfl)) | refine cX ?_ | refine cY ?_ | (refine sA rfl rfl ?_; intro _) | refine sT rfl ?_ | refine sF rfl ?_ | (refine sR rfl ?_ ?_; focus omega) | (refine sB rfl rfl ?_; intro _) | (refine sN rfl rfl ?_ ?_; (focus (first | exact trivial | assumption | constructor <;> assumption | exact mb2 rfl rfl | exact mb4 rfl rfl rfl rfl)); intro _; (try simp only [List.cons_append, List.nil_append, List.append_nil])) | refine sW rfl rfl ?_ | refine sK rfl rfl ?_ | refine j_if rfl ?_ | refine j_else rfl ?_ | refine pkT rfl rfl rfl rfl ?_ | refine pkF rfl rfl rfl rfl ?_)
    exact jx_ret_tmp rfl rfl (fun w hw => ret_ok hw)
  · repeat (first | refine sX rfl rfl ?_ | (refine sS rfl rfl ?_ ?_; focus omega) | (refine sC rfl rfl ?_ ?_; focus (first | exact trivial | assumption | constructor <;> assumption | exact mb2 rfl rfl | exact mb4 rfl rfl rfl rfl)) | refine cX ?_ | refine cY ?_ | (refine sA rfl rfl ?_; intro _) | refine sT rfl ?_ | refine sF rfl ?_ | (refine sR rfl ?_ ?_; focus omega) | (refine sB rfl rfl ?_; intro _) | (refine sN rfl rfl ?_ ?_; (focus (first | exact trivial | assumption | constructor <;> assumption | exact mb2 rfl rfl | exact mb4 rfl rfl rfl rfl)); intro _; (try simp only [List.cons_append, List.nil_append, List.append_nil])) | refine sW rfl rfl ?_ | refine sK rfl rfl ?_ | refine j_if rfl ?_ | refine j_else rfl ?_ | refine pkT rfl rfl rfl rfl ?_ | refine pkF rfl rfl rfl rfl ?_)
    exact jx_ret_tmp rfl rfl (fun w hw => ret_ok hw)⟩
/-- Both ends are rational and short. -/
structure IvOk (K : Nat) (I : R_api_Interval) : Prop where
  r1 : I.From.R = 0
  r2 : I.To.R = 0
  n1 : I.From.Neg = false
  n2 : I.To.Neg = false
  m1 : M I.From.P ≤ K
  m2 : M I.To.P ≤ K
theorem IvOk.mono {K K' : Nat} {I : R_api_Interval} (h : IvOk K I) (hk : K ≤ K') : IvOk K' I := ⟨h.r1, h.r2, h.n1, h.n2, Nat.le_trans h.m1 hk, Nat.le_trans h.m2 hk⟩
abbrev BQ : Nat := 8589934592
/-- The order of units. -/
def cmpU (a b : UL) : Int := orL [cq a.In.From.P b.In.From.P, Lib.compareInt (opn a.In) (opn b.In), cq a.In.To.P b.In.To.P]
instance sp_cmpU (a b : UL) : SpecC Tryz.prog 169 [vUL a, vUL b] (.int .i64 (cmpU a b)) (IvOk BQ a.In ∧ IvOk BQ b.In) := ⟨fun hp w => by
  obtain ⟨h1, h2⟩ := hp
  refine fn_intro Tryz.func169 rfl Tryz.ntmps169 rfl ?_
  repeat (first | refine sX rfl rfl ?_ | (refine sS rfl rfl ?_ ?_; focus omega) | (refine sC rfl rfl ?_ ?_; focus (first | exact trivial | assumption | constructor <;> assumption | exact mb2 rfl rfl | exact mb4 rfl rfl rfl rfl)) | refine cX ?_ | refine cY ?_ | (refine sA rfl rfl ?_; intro _) | refine sT rfl ?_ | refine sF rfl ?_ | (refine sR rfl ?_ ?_; focus omega) | (refine sB rfl rfl ?_; intro _) | (refine sN rfl rfl ?_ ?_; (focus (first | exact trivial | assumption | constructor <;> assumption | exact mb2 rfl rfl | exact mb4 rfl rfl rfl rfl)); intro _; (try simp only [List.cons_append, List.nil_append, List.append_nil])) | refine sW rfl rfl ?_ | refine sK rfl rfl ?_ | refine j_if rfl ?_ | refine j_else rfl ?_ | refine pkT rfl rfl rfl rfl ?_ | refine pkF rfl rfl rfl rfl ?_)
  rename_i b2 b3
  (refine j_phases [([0, 1, 2, 3, 4, 5, 6, 7, 8, 9, 10, 11, 12, 13, 14, 15, 16, 17, 18, 19, 20, 21, 22], [23, 24, 25])] ([⟨b3, rU b, 163⟩, ⟨b2, rU a, 163⟩]) mixed (by kernel_rfl) (by repeat (first | exact List.Sublist.refl _ | exact List.nil_sublist _ | refine List.Sublist.cons_cons _ ?_ | refine List.Sublist.cons _ ?_ | refine List.Sublist.trans ?_ (List.sublist_append_right _ _))) ?_; simp only [JP, picks, List.getElem?_cons_succ, List.getElem?_cons_zero])
  repeat (first | refine tX rfl rfl ?_ | (refine tS rfl rfl ?_ ?_; focus omega) | (refine tC rfl rfl ?_ ?_; focus (first | exact trivial | exact ⟨⟨h1.r1, h2.r1⟩, Nat.le_trans h1.m1 (by decide), Nat.le_trans h2.m1 (by decide)⟩ | exact ⟨⟨h1.r2, h2.r2⟩, Nat.le_trans h1.m2 (by decide), Nat.le_trans h2.m2 (by decide)⟩)) | refine tW rfl rfl ?_ | refine tK rfl rfl ?_ | refine Go.Vt.hq (wl_pickT rfl rfl) rfl rfl ?_ | refine Go.Vt.hq (wl_pickF rfl rfl) rfl rfl ?_)
  repeat (first | refine eS rfl rfl ?_ | refine uP rfl rfl rfl rfl ?_ | refine uQ rfl rfl rfl rfl ?_ | refine eX rfl rfl ?_ | (refine uS rfl rfl ?_ ?_; focus omega) | (refine uC rfl rfl ?_ ?_; focus (exact ⟨rfl, by decide⟩)) | refine uW rfl rfl ?_ | refine eF rfl ?_ | refine eT rfl ?_ | (refine eA rfl rfl ?_; intro _) | (refine eB rfl rfl ?_; intro _) | (refine eN rfl rfl ?_ ?_; (focus (exact ⟨rfl, by decide⟩)); intro _; (try simp only [List.cons_append, List.nil_append, List.append_nil])) | refine je_nil ?_ | refine tX rfl rfl ?_ | (refine tS rfl rfl ?_ ?_; focus omega) | (refine tC rfl rfl ?_ ?_; focus (exact ⟨rfl, by decide⟩)) | refine tW rfl rfl ?_ | refine tK rfl rfl ?_ | refine Go.Vt.hq (wl_pickT rfl rfl) rfl rfl ?_ | refine Go.Vt.hq (wl_pickF rfl rfl) rfl rfl ?_ | refine jh_nil ?_)
  repeat (first | refine sX rfl rfl ?_ | (refine sS rfl rfl ?_ ?_; focus omega) | (refine sC rfl rfl ?_ ?_; focus (first | exact trivial | assumption | constructor <;> assumption | exact mb2 rfl rfl | exact mb4 rfl rfl rfl rfl)) | refine cX ?_ | refine cY ?_ | (refine sA rfl rfl ?_; intro _) | refine sT rfl ?_ | refine sF rfl ?_ | (refine sR rfl ?_ ?_; focus omega) | (refine sB rfl rfl ?_; intro _) | (refine sN rfl rfl ?_ ?_; (focus (first | exact trivial | assumption | constructor <;> assumption | exact mb2 rfl rfl | exact mb4 rfl rfl rfl rfl)); intro _; (try simp only [List.cons_append, List.nil_append, List.append_nil])) | refine sW rfl rfl ?_ | refine sK rfl rfl ?_ | refine j_if rfl ?_ | refine j_else rfl ?_ | refine pkT rfl rfl rfl rfl ?_ | refine pkF rfl rfl rfl rfl ?_)
  exact jx_ret_tmp rfl rfl (fun w hw => ret_ok hw)⟩
/-- Two neighbours change places. -/
def swp (xs : List UL) (j : Nat) : List UL := (xs.set (j + 1) (gi xs (j : Int))).set j (gi xs ((j + 1 : Nat) : Int))
/-- An element goes down as long as it is less than the one ahead of it. -/
def dwn (xs : List UL) : Nat → List UL
  | 0 => xs
  | j + 1 => if cmpU (gi xs ((j + 1 : Nat) : Int)) (gi xs (j : Int)) < 0 then dwn (swp xs j) j else xs
/-- The first elements are in order. -/
def srt (xs : List UL) : Nat → List UL
  | 0 => xs
  | i + 1 => dwn (srt xs i) (i + 1)
theorem swp_len (xs : List UL) (j : Nat) : (swp xs j).length = xs.length := by simp [swp]
theorem swp_mem {xs : List UL} {j : Nat} (h : j + 1 < xs.length) {u : UL} (hu : u ∈ swp xs j) : u ∈ xs := by
  unfold swp at hu
  rcases List.mem_or_eq_of_mem_set hu with h1 | h1
  · rcases List.mem_or_eq_of_mem_set h1 with h2 | h2
    · exact h2
    · rw [h2, gi_nat (by omega)]
      exact List.getElem_mem _
  · rw [h1, gi_nat h]
    exact List.getElem_mem _
theorem dwn_len : ∀ (j : Nat) (xs : List UL), (dwn xs j).length = xs.length
  | 0, _ => rfl
  | j + 1, xs => by
    rw [dwn]
    split
    · rw [dwn_len j, swp_len]
    · rfl
theorem dwn_mem : ∀ (j : Nat) (xs : List UL), j < xs.length → ∀ u ∈ dwn xs j, u ∈ xs
  | 0, _, _, _, h => h
  | j + 1, xs, hj, u, h => by
    rw [dwn] at h
    split at h
    · exact swp_mem hj (dwn_mem j _ (by rw [swp_len]; omega) u h)
    · exact h
theorem srt_len (xs : List UL) : ∀ i, (srt xs i).length = xs.length
  | 0 => rfl
  | i + 1 => by rw [srt, dwn_len, srt_len xs i]
theorem srt_mem (xs : List UL) : ∀ i, i < xs.length → ∀ u ∈ srt xs i, u ∈ xs
  | 0, _, _, h => h
  | i + 1, hi, u, h => by
    rw [srt] at h
    exact srt_mem xs i (by omega) u (dwn_mem _ _ (by rw [srt_len]; exact hi) u h)
theorem ins_spec (w0 w : World) (L1 : List Blk) (b c n : Nat) (xs : List UL) (sp : List Value) (T : TypeId) (hn : xs.length = n) (hl : n ≤ 1048576) (hok : ∀ u ∈ xs, IvOk BQ u.In) (hw : Own w0 (⟨b, row rU xs sp, T⟩ :: L1) w) :
    Calls Tryz.prog 201 [.slice (some ⟨b, 0, none⟩) n c, .int .i64 0, .int .i64 n, vFn 169].toArray w (RetX w0 Unit (fun _ => .tuple #[]) (fun _ => ⟨b, row rU (srt xs (n - 1)) sp, T⟩ :: L1)) := by
  refine fn_introL Tryz.func201 rfl Tryz.ntmps201 rfl hw ?_
  repeat (first | refine sX rfl rfl ?_ | (refine sS rfl rfl ?_ ?_; focus omega) | (refine sC rfl rfl ?_ ?_; focus (first | exact trivial | assumption | constructor <;> assumption | exact mb2 rfl rfl | exact mb4 rfl rfl rfl rfl)) | refine cX ?_ | refine cY ?_ | (refine sA rfl rfl ?_; intro _) | refine sT rfl ?_ | refine sF rfl ?_ | (refine sR rfl ?_ ?_; focus omega) | (refine sB rfl rfl ?_; intro _) | (refine sN rfl rfl ?_ ?_; (focus (first | exact trivial | assumption | constructor <;> assumption | exact mb2 rfl rfl | exact mb4 rfl rfl rfl rfl)); intro _; (try simp only [List.cons_append, List.nil_append, List.append_nil])) | refine sW rfl rfl ?_ | refine sK rfl rfl ?_ | refine j_if rfl ?_ | refine j_else rfl ?_ | refine pkT rfl rfl rfl rfl ?_ | refine pkF rfl rfl rfl rfl ?_)
  refine j_loop (S := Nat) (fun m => m ≤ n - 1) (fun m => [(0, .slice (some ⟨b, 0, none⟩) n c), (1, .int .i64 0), (2, .int .i64 n), (3, vFn 169), (8, .int .i64 ((m + 1 : Nat)))]) (fun m => ⟨b, row rU (srt xs m) sp, T⟩ :: L1) (fun m => n - 1 - m) 0 (Nat.zero_le _) (by repeat (first | exact sub_nil | refine sub_cons rfl ?_ | refine sub_cons' rfl (by congr 1; omega) ?_)) (by repeat (first | exact List.Sublist.refl _ | exact List.nil_sublist _ | refine List.Sublist.cons_cons _ ?_ | refine List.Sublist.cons _ ?_)) (fun m hm => ?_)
  have hsl := srt_len xs m
  repeat (first | refine sX rfl rfl ?_ | (refine sS rfl rfl ?_ ?_; focus omega) | (refine sC rfl rfl ?_ ?_; focus (first | exact trivial | assumption | constructor <;> assumption | exact mb2 rfl rfl | exact mb4 rfl rfl rfl rfl)) | refine cX ?_ | refine cY ?_ | (refine sA rfl rfl ?_; intro _) | refine sT rfl ?_ | refine sF rfl ?_ | (refine sR rfl ?_ ?_; focus omega) | (refine sB rfl rfl ?_; intro _) | (refine sN rfl rfl ?_ ?_; (focus (first | exact trivial | assumption | constructor <;> assumption | exact mb2 rfl rfl | exact mb4 rfl rfl rfl rfl)); intro _; (try simp only [List.cons_append, List.nil_append, List.append_nil])) | refine sW rfl rfl ?_ | refine sK rfl rfl ?_ | refine j_if rfl ?_ | refine j_else rfl ?_ | refine pkT rfl rfl rfl rfl ?_ | refine pkF rfl rfl rfl rfl ?_)
  refine j_cond rfl (fun h => ?_) (fun h => ?_)
  · have hlt : m + 1 < n := by have := of_decide_eq_true h; omega
    have hmem := srt_mem xs m (by omega)
    repeat (first | refine sX rfl rfl ?_ | (refine sS rfl rfl ?_ ?_; focus omega) | (refine sC rfl rfl ?_ ?_; focus (first | exact trivial | assumption | constructor <;> assumption | exact mb2 rfl rfl | exact mb4 rfl rfl rfl rfl)) | refine cX ?_ | refine cY ?_ | (refine sA rfl rfl ?_; intro _) | refine sT rfl ?_ | refine sF rfl ?_ | (refine sR rfl ?_ ?_; focus omega) | (refine sB rfl rfl ?_; intro _) | (refine sN rfl rfl ?_ ?_; (focus (first | exact trivial | assumption | constructor <;> assumption | exact mb2 rfl rfl | exact mb4 rfl rfl rfl rfl)); intro _; (try simp only [List.cons_append, List.nil_append, List.append_nil])) | refine sW rfl rfl ?_ | refine sK rfl rfl ?_ | refine j_if rfl ?_ | refine j_else rfl ?_ | refine pkT rfl rfl rfl rfl ?_ | refine pkF rfl rfl rfl rfl ?_)
    refine j_loop (S := Nat × List UL) (fun s => dwn s.2 s.1 = srt xs (m + 1) ∧ s.2.length = n ∧ s.1 ≤ m + 1 ∧ ∀ u ∈ s.2, IvOk BQ u.In) (fun s => [(0, .slice (some ⟨b, 0, none⟩) n c), (1, .int .i64 0), (2, .int .i64 n), (3, vFn 169), (8, .int .i64 ((m + 1 : Nat))), (9, .int .i64 ((s.1 : Nat)))]) (fun s => ⟨b, row rU s.2 sp, T⟩ :: L1) (fun s => s.1) (m + 1, srt xs m)
      ⟨rfl, by show (srt xs m).length = n; omega, Nat.le_refl _, fun u hu => hok u (hmem u hu)⟩ (by repeat (first | exact sub_nil | refine sub_cons rfl ?_ | refine sub_cons' rfl (by congr 1; omega) ?_)) (by repeat (first | exact List.Sublist.refl _ | exact List.nil_sublist _ | refine List.Sublist.cons_cons _ ?_ | refine List.Sublist.cons _ ?_)) (fun s hs => ?_)
    obtain ⟨j, ys⟩ := s
    obtain ⟨g1, g2, g3, g4⟩ := hs
    simp only at g1 g2 g3 g4 ⊢
    repeat (first | refine sX rfl rfl ?_ | (refine sS rfl rfl ?_ ?_; focus omega) | (refine sC rfl rfl ?_ ?_; focus (first | exact trivial | assumption | constructor <;> assumption | exact mb2 rfl rfl | exact mb4 rfl rfl rfl rfl)) | refine cX ?_ | refine cY ?_ | (refine sA rfl rfl ?_; intro _) | refine sT rfl ?_ | refine sF rfl ?_ | (refine sR rfl ?_ ?_; focus omega) | (refine sB rfl rfl ?_; intro _) | (refine sN rfl rfl ?_ ?_; (focus (first | exact trivial | assumption | constructor <;> assumption | exact mb2 rfl rfl | exact mb4 rfl rfl rfl rfl)); intro _; (try simp only [List.cons_append, List.nil_append, List.append_nil])) | refine sW rfl rfl ?_ | refine sK rfl rfl ?_ | refine j_if rfl ?_ | refine j_else rfl ?_ | refine pkT rfl rfl rfl rfl ?_ | refine pkF rfl rfl rfl rfl ?_)
    rcases j with _ | j
    · (refine jD 17 17 mixed (by kernel_rfl) ?_; (repeat (first | refine tX rfl rfl ?_ | (refine tS rfl rfl ?_ ?_; focus omega) | (refine tC rfl rfl ?_ ?_; focus (first | exact trivial | assumption | constructor <;> assumption | exact mb2 rfl rfl | exact mb4 rfl rfl rfl rfl)) | refine tW rfl rfl ?_ | refine tK rfl rfl ?_ | refine Go.Vt.hq (wl_pickT rfl rfl) rfl rfl ?_ | refine Go.Vt.hq (wl_pickF rfl rfl) rfl rfl ?_)); refine jh_nil ?_; (repeat (refine wn_new ?_; intro _)); refine jn_nil ?_)
      repeat (first | refine sX rfl rfl ?_ | (refine sS rfl rfl ?_ ?_; focus omega) | (refine sC rfl rfl ?_ ?_; focus (first | exact trivial | assumption | constructor <;> assumption | exact mb2 rfl rfl | exact mb4 rfl rfl rfl rfl)) | refine cX ?_ | refine cY ?_ | (refine sA rfl rfl ?_; intro _) | refine sT rfl ?_ | refine sF rfl ?_ | (refine sR rfl ?_ ?_; focus omega) | (refine sB rfl rfl ?_; intro _) | (refine sN rfl rfl ?_ ?_; (focus (first | exact trivial | assumption | constructor <;> assumption | exact mb2 rfl rfl | exact mb4 rfl rfl rfl rfl)); intro _; (try simp only [List.cons_append, List.nil_append, List.append_nil])) | refine sW rfl rfl ?_ | refine sK rfl rfl ?_ | refine j_if rfl ?_ | refine j_else rfl ?_ | refine pkT rfl rfl rfl rfl ?_ | refine pkF rfl rfl rfl rfl ?_)
      exact jx_loop (m + 1) (by omega) (by repeat (first | exact sub_nil | refine sub_cons rfl ?_ | refine sub_cons' rfl (by congr 1; omega) ?_)) (by rw [← g1]; exact List.Sublist.refl _) (by omega)
    · have hj1 : ((j : Int)).toNat < ys.length := by omega
      have hj2 : (((j + 1 : Nat) : Int)).toNat < ys.length := by omega
      have e1 : ((j + 1 : Nat) : Int) - 1 = (j : Int) := by omega
      have o1 := g4 _ (by rw [gi_nat (show j < ys.length by omega)]; exact List.getElem_mem _ : gi ys (j : Int) ∈ ys)
      have o2 := g4 _ (by rw [gi_nat (show j + 1 < ys.length by omega)]; exact List.getElem_mem _ : gi ys ((j + 1 : Nat) : Int) ∈ ys)
      rw [dwn] at g1
      refine jD 17 17 mixed (by kernel_rfl) ?_
      repeat (first | refine tX rfl rfl ?_ | (refine tS rfl rfl ?_ ?_; focus omega) | (refine tC rfl rfl ?_ ?_; focus (first | exact trivial | assumption | constructor <;> assumption | exact mb2 rfl rfl | exact mb4 rfl rfl rfl rfl)) | refine tW rfl rfl ?_ | refine tK rfl rfl ?_ | refine Go.Vt.hq (wl_pickT rfl rfl) rfl rfl ?_ | refine Go.Vt.hq (wl_pickF rfl rfl) rfl rfl ?_)
      simp only [decide_eq_true (show (0 : Int) < ((j + 1 : Nat) : Int) by omega), e1]
      repeat (first | refine tX rfl rfl ?_ | (refine tS rfl rfl ?_ ?_; focus omega) | (refine tC rfl rfl ?_ ?_; focus (first | exact trivial | assumption | constructor <;> assumption | exact mb2 rfl rfl | exact mb4 rfl rfl rfl rfl)) | refine tW rfl rfl ?_ | refine tK rfl rfl ?_ | refine Go.Vt.hq (wl_pickT rfl rfl) rfl rfl ?_ | refine Go.Vt.hq (wl_pickF rfl rfl) rfl rfl ?_)
      simp only [e1]
      repeat (first | refine tX rfl rfl ?_ | (refine tS rfl rfl ?_ ?_; focus omega) | (refine tC rfl rfl ?_ ?_; focus (exact ⟨o2, o1⟩)) | refine tW rfl rfl ?_ | refine tK rfl rfl ?_ | refine Go.Vt.hq (wl_pickT rfl rfl) rfl rfl ?_ | refine Go.Vt.hq (wl_pickF rfl rfl) rfl rfl ?_)
      refine jh_nil ?_
      refine jn_nil ?_
      repeat (first | refine sX rfl rfl ?_ | (refine sS rfl rfl ?_ ?_; focus omega) | (refine sC rfl rfl ?_ ?_; focus (first | exact trivial | assumption | constructor <;> assumption | exact mb2 rfl rfl | exact mb4 rfl rfl rfl rfl)) | refine cX ?_ | refine cY ?_ | (refine sA rfl rfl ?_; intro _) | refine sT rfl ?_ | refine sF rfl ?_ | (refine sR rfl ?_ ?_; focus omega) | (refine sB rfl rfl ?_; intro _) | (refine sN rfl rfl ?_ ?_; (focus (first | exact trivial | assumption | constructor <;> assumption | exact mb2 rfl rfl | exact mb4 rfl rfl rfl rfl)); intro _; (try simp only [List.cons_append, List.nil_append, List.append_nil])) | refine sW rfl rfl ?_ | refine sK rfl rfl ?_ | refine j_if rfl ?_ | refine j_else rfl ?_ | refine pkT rfl rfl rfl rfl ?_ | refine pkF rfl rfl rfl rfl ?_)
      by_cases hc : cmpU (gi ys ((j + 1 : Nat) : Int)) (gi ys (j : Int)) < 0
      · rw [if_pos hc] at g1
        simp only [decide_eq_true hc]
        repeat (first | refine sX rfl rfl ?_ | (refine sS rfl rfl ?_ ?_; focus omega) | (refine sC rfl rfl ?_ ?_; focus (first | exact trivial | assumption | constructor <;> assumption | exact mb2 rfl rfl | exact mb4 rfl rfl rfl rfl)) | refine cX ?_ | refine cY ?_ | (refine sA rfl rfl ?_; intro _) | refine sT rfl ?_ | refine sF rfl ?_ | (refine sR rfl ?_ ?_; focus omega) | (refine sB rfl rfl ?_; intro _) | (refine sN rfl rfl ?_ ?_; (focus (first | exact trivial | assumption | constructor <;> assumption | exact mb2 rfl rfl | exact mb4 rfl rfl rfl rfl)); intro _; (try simp only [List.cons_append, List.nil_append, List.append_nil])) | refine sW rfl rfl ?_ | refine sK rfl rfl ?_ | refine j_if rfl ?_ | refine j_else rfl ?_ | refine pkT rfl rfl rfl rfl ?_ | refine pkF rfl rfl rfl rfl ?_)
        (refine j_seg [(true, [0, 1, 2, 3, 4, 5, 6, 7, 8]), (false, [9]), (true, [10, 11, 12]), (false, [13]), (true, [14])] [15, 16, 17] mixed (by kernel_rfl) ?_; simp only [JS, lk, picks, List.getElem?_cons_succ, List.getElem?_cons_zero])
        repeat (first | refine tX rfl rfl ?_ | (refine tS rfl rfl ?_ ?_; focus omega) | (refine tC rfl rfl ?_ ?_; focus (first | exact trivial | assumption | constructor <;> assumption | exact mb2 rfl rfl | exact mb4 rfl rfl rfl rfl)) | refine tW rfl rfl ?_ | refine tK rfl rfl ?_ | refine Go.Vt.hq (wl_pickT rfl rfl) rfl rfl ?_ | refine Go.Vt.hq (wl_pickF rfl rfl) rfl rfl ?_)
        simp only [e1]
        refine jh_nil ?_
        refine eR rfl ?_ ?_
        · omega
        refine uS rfl rfl ?_ ?_
        · omega
        refine eR rfl ?_ ?_
        · rw [List.length_set]; omega
        refine je_nil ?_
        simp only [Int.toNat_natCast]
        repeat (first | refine sX rfl rfl ?_ | (refine sS rfl rfl ?_ ?_; focus omega) | (refine sC rfl rfl ?_ ?_; focus (exact ⟨by omega, by omega⟩)) | refine cX ?_ | refine cY ?_ | (refine sA rfl rfl ?_; intro _) | refine sT rfl ?_ | refine sF rfl ?_ | (refine sR rfl ?_ ?_; focus omega) | (refine sB rfl rfl ?_; intro _) | (refine sN rfl rfl ?_ ?_; (focus (exact ⟨by omega, by omega⟩)); intro _; (try simp only [List.cons_append, List.nil_append, List.append_nil])) | refine sW rfl rfl ?_ | refine sK rfl rfl ?_ | refine j_if rfl ?_ | refine j_else rfl ?_ | refine pkT rfl rfl rfl rfl ?_ | refine pkF rfl rfl rfl rfl ?_)
        simp only [e1]
        exact jx_loop (j, swp ys j) ⟨g1, by rw [swp_len]; exact g2, by omega, fun u hu => g4 u (swp_mem (by omega) hu)⟩ (by repeat (first | exact sub_nil | refine sub_cons rfl ?_ | refine sub_cons' rfl (by congr 1; omega) ?_)) (by repeat (first | exact List.Sublist.refl _ | exact List.nil_sublist _ | refine List.Sublist.cons_cons _ ?_ | refine List.Sublist.cons _ ?_)) (by show j < j + 1; omega)
      · rw [if_neg hc] at g1
        simp only [decide_eq_false hc]
        repeat (first | refine sX rfl rfl ?_ | (refine sS rfl rfl ?_ ?_; focus omega) | (refine sC rfl rfl ?_ ?_; focus (exact ⟨by omega, by omega⟩)) | refine cX ?_ | refine cY ?_ | (refine sA rfl rfl ?_; intro _) | refine sT rfl ?_ | refine sF rfl ?_ | (refine sR rfl ?_ ?_; focus omega) | (refine sB rfl rfl ?_; intro _) | (refine sN rfl rfl ?_ ?_; (focus (exact ⟨by omega, by omega⟩)); intro _; (try simp only [List.cons_append, List.nil_append, List.append_nil])) | refine sW rfl rfl ?_ | refine sK rfl rfl ?_ | refine j_if rfl ?_ | refine j_else rfl ?_ | refine pkT rfl rfl rfl rfl ?_ | refine pkF rfl rfl rfl rfl ?_)
        exact jx_loop (m + 1) (by omega) (by repeat (first | exact sub_nil | refine sub_cons rfl ?_ | refine sub_cons' rfl (by congr 1; omega) ?_)) (by rw [← g1]; exact List.Sublist.refl _) (by omega)
  · have hge : m = n - 1 := by have := of_decide_eq_false h; omega
    subst hge
    repeat (first | refine sX rfl rfl ?_ | (refine sS rfl rfl ?_ ?_; focus omega) | (refine sC rfl rfl ?_ ?_; focus (first | exact trivial | assumption | constructor <;> assumption | exact mb2 rfl rfl | exact mb4 rfl rfl rfl rfl)) | refine cX ?_ | refine cY ?_ | (refine sA rfl rfl ?_; intro _) | refine sT rfl ?_ | refine sF rfl ?_ | (refine sR rfl ?_ ?_; focus omega) | (refine sB rfl rfl ?_; intro _) | (refine sN rfl rfl ?_ ?_; (focus (first | exact trivial | assumption | constructor <;> assumption | exact mb2 rfl rfl | exact mb4 rfl rfl rfl rfl)); intro _; (try simp only [List.cons_append, List.nil_append, List.append_nil])) | refine sW rfl rfl ?_ | refine sK rfl rfl ?_ | refine j_if rfl ?_ | refine j_else rfl ?_ | refine pkT rfl rfl rfl rfl ?_ | refine pkF rfl rfl rfl rfl ?_)
    exact jx_end0 rfl (fun w hw => ⟨(), rfl, hw⟩)
abbrev SrtS (xs : List UL) (s : SlS rU 36 xs) : Type := { s' : SlS rU 36 (srt xs (xs.length - 1)) // vSl s' = vSl s }
theorem insS_spec (w0 w : World) (L L1 : List Blk) (xs : List UL) (s : SlS rU 36 xs) (T : TypeId) [hd : OwnS T s L L1] (hl : xs.length ≤ 1048576) (hok : ∀ u ∈ xs, IvOk BQ u.In) (hw : Own w0 L w) :
    Calls Tryz.prog 201 [vSl s, .int .i64 0, .int .i64 xs.length, vFn 169].toArray w (RetX w0 (SrtS xs s) (fun _ => .tuple #[]) (fun s' => mS T s'.1 ++ L1)) := by
  have hw1 := hw.perm hd.out
  rcases s.cases T with ⟨rfl, hv, hm⟩ | ⟨b, c, sp, h1, hv, hm, hne⟩
  · suffices h : Calls Tryz.prog 201 [.slice none 0 0, .int .i64 0, .int .i64 (([] : List UL).length : Nat), vFn 169].toArray w (RetX w0 (SrtS [] s) (fun _ => .tuple #[]) (fun s' => mS T s'.1 ++ L1)) by
      rw [← hv] at h
      exact h
    refine fn_introL Tryz.func201 rfl Tryz.ntmps201 rfl hw1 ?_
    repeat (first | refine sX rfl rfl ?_ | (refine sS rfl rfl ?_ ?_; focus omega) | (refine sC rfl rfl ?_ ?_; focus (first | exact trivial | assumption | constructor <;> assumption | exact mb2 rfl rfl | exact mb4 rfl rfl rfl rfl)) | refine cX ?_ | refine cY ?_ | (refine sA rfl rfl ?_; intro _) | refine sT rfl ?_ | refine sF rfl ?_ | (refine sR rfl ?_ ?_; focus omega) | (refine sB rfl rfl ?_; intro _) | (refine sN rfl rfl ?_ ?_; (focus (first | exact trivial | assumption | constructor <;> assumption | exact mb2 rfl rfl | exact mb4 rfl rfl rfl rfl)); intro _; (try simp only [List.cons_append, List.nil_append, List.append_nil])) | refine sW rfl rfl ?_ | refine sK rfl rfl ?_ | refine j_if rfl ?_ | refine j_else rfl ?_ | refine pkT rfl rfl rfl rfl ?_ | refine pkF rfl rfl rfl rfl ?_)
    refine j_loop (S := Unit) (fun _ => True) (fun _ => [(2, .int .i64 (([] : List UL).length : Nat)), (8, .int .i64 1)]) (fun _ => mS T s ++ L1) (fun _ => 0) () trivial (by repeat (first | exact sub_nil | refine sub_cons rfl ?_ | refine sub_cons' rfl (by congr 1; omega) ?_)) (by repeat (first | exact List.Sublist.refl _ | exact List.nil_sublist _ | refine List.Sublist.cons_cons _ ?_ | refine List.Sublist.cons _ ?_)) (fun _ _ => ?_)
    repeat (first | refine sX rfl rfl ?_ | (refine sS rfl rfl ?_ ?_; focus omega) | (refine sC rfl rfl ?_ ?_; focus (first | exact trivial | assumption | constructor <;> assumption | exact mb2 rfl rfl | exact mb4 rfl rfl rfl rfl)) | refine cX ?_ | refine cY ?_ | (refine sA rfl rfl ?_; intro _) | refine sT rfl ?_ | refine sF rfl ?_ | (refine sR rfl ?_ ?_; focus omega) | (refine sB rfl rfl ?_; intro _) | (refine sN rfl rfl ?_ ?_; (focus (first | exact trivial | assumption | constructor <;> assumption | exact mb2 rfl rfl | exact mb4 rfl rfl rfl rfl)); intro _; (try simp only [List.cons_append, List.nil_append, List.append_nil])) | refine sW rfl rfl ?_ | refine sK rfl rfl ?_ | refine j_if rfl ?_ | refine j_else rfl ?_ | refine pkT rfl rfl rfl rfl ?_ | refine pkF rfl rfl rfl rfl ?_)
    simp only [decide_eq_false (show ¬ (1 : Int) < ((([] : List UL).length : Nat) : Int) by simp)]
    repeat (first | refine sX rfl rfl ?_ | (refine sS rfl rfl ?_ ?_; focus omega) | (refine sC rfl rfl ?_ ?_; focus (first | exact trivial | assumption | constructor <;> assumption | exact mb2 rfl rfl | exact mb4 rfl rfl rfl rfl)) | refine cX ?_ | refine cY ?_ | (refine sA rfl rfl ?_; intro _) | refine sT rfl ?_ | refine sF rfl ?_ | (refine sR rfl ?_ ?_; focus omega) | (refine sB rfl rfl ?_; intro _) | (refine sN rfl rfl ?_ ?_; (focus (first | exact trivial | assumption | constructor <;> assumption | exact mb2 rfl rfl | exact mb4 rfl rfl rfl rfl)); intro _; (try simp only [List.cons_append, List.nil_append, List.append_nil])) | refine sW rfl rfl ?_ | refine sK rfl rfl ?_ | refine j_if rfl ?_ | refine j_else rfl ?_ | refine pkT rfl rfl rfl rfl ?_ | refine pkF rfl rfl rfl rfl ?_)
    exact jx_end0 rfl (fun w hw => ⟨⟨s, rfl⟩, rfl, hw⟩)
  · suffices h : Calls Tryz.prog 201 [.slice (some ⟨b, 0, none⟩) xs.length c, .int .i64 0, .int .i64 xs.length, vFn 169].toArray w (RetX w0 (SrtS xs s) (fun _ => .tuple #[]) (fun s' => mS T s'.1 ++ L1)) by
      rw [← hv] at h
      exact h
    rw [hm] at hw1
    have hsl := srt_len xs (xs.length - 1)
    refine (ins_spec w0 w L1 b c xs.length xs sp T rfl hl hok hw1).mono fun e w' ⟨_, he, hw'⟩ => ?_
    exact ⟨⟨SlS.at_ b c sp (by rw [hsl]; exact h1) (fun h0 => hne (List.length_eq_zero_iff.1 (by rw [h0, List.length_nil] at hsl; exact hsl.symm))), by rw [hv]; show Value.slice _ (srt xs (xs.length - 1)).length c = _; rw [hsl]⟩, he, hw'⟩
instance sx_ins (w0 : World) (L L1 : List Blk) (xs : List UL) (s : SlS rU 36 xs) (T : TypeId) [hd : OwnS T s L L1] : SpecX Tryz.prog w0 L 201 [vSl s, .int .i64 0, .int .i64 xs.length, vFn 169] (SrtS xs s) (fun _ => .tuple #[]) (fun s' => mS T s'.1 ++ L1) (xs.length ≤ 1048576 ∧ ∀ u ∈ xs, IvOk BQ u.In) := ⟨fun hp w hw => insS_spec w0 w L L1 xs s T hp.1 hp.2 hw⟩
theorem stable_spec (w0 w : World) (L L1 : List Blk) (xs : List UL) (s : SlS rU 36 xs) (T : TypeId) [hd : OwnS T s L L1] (hl : xs.length ≤ 19) (hok : ∀ u ∈ xs, IvOk BQ u.In) (hw : Own w0 L w) :
    Calls Tryz.prog 184 [vSl s, .int .i64 xs.length, vFn 169].toArray w (RetX w0 (SrtS xs s) (fun _ => .tuple #[]) (fun s' => mS T s'.1 ++ L1)) := by
  refine fn_introL Tryz.func184 rfl Tryz.ntmps184 rfl hw ?_
  repeat (first | refine sX rfl rfl ?_ | (refine sS rfl rfl ?_ ?_; focus omega) | (refine sC rfl rfl ?_ ?_; focus (first | exact trivial | assumption | constructor <;> assumption | exact mb2 rfl rfl | exact mb4 rfl rfl rfl rfl)) | refine cX ?_ | refine cY ?_ | (refine sA rfl rfl ?_; intro _) | refine sT rfl ?_ | refine sF rfl ?_ | (refine sR rfl ?_ ?_; focus omega) | (refine sB rfl rfl ?_; intro _) | (refine sN rfl rfl ?_ ?_; (focus (first | exact trivial | assumption | constructor <;> assumption | exact mb2 rfl rfl | exact mb4 rfl rfl rfl rfl)); intro _; (try simp only [List.cons_append, List.nil_append, List.append_nil])) | refine sW rfl rfl ?_ | refine sK rfl rfl ?_ | refine j_if rfl ?_ | refine j_else rfl ?_ | refine pkT rfl rfl rfl rfl ?_ | refine pkF rfl rfl rfl rfl ?_)
  refine j_loop (S := Unit) (fun _ => True) (fun _ => [(0, vSl s), (1, .int .i64 xs.length), (2, vFn 169), (6, .int .i64 20), (7, .int .i64 0), (8, .int .i64 20)]) (fun _ => L) (fun _ => 0) () trivial (by repeat (first | exact sub_nil | refine sub_cons rfl ?_ | refine sub_cons' rfl (by congr 1; omega) ?_)) (by repeat (first | exact List.Sublist.refl _ | exact List.nil_sublist _ | refine List.Sublist.cons_cons _ ?_ | refine List.Sublist.cons _ ?_)) (fun _ _ => ?_)
  repeat (first | refine sX rfl rfl ?_ | (refine sS rfl rfl ?_ ?_; focus omega) | (refine sC rfl rfl ?_ ?_; focus (first | exact trivial | assumption | constructor <;> assumption | exact mb2 rfl rfl | exact mb4 rfl rfl rfl rfl)) | refine cX ?_ | refine cY ?_ | (refine sA rfl rfl ?_; intro _) | refine sT rfl ?_ | refine sF rfl ?_ | (refine sR rfl ?_ ?_; focus omega) | (refine sB rfl rfl ?_; intro _) | (refine sN rfl rfl ?_ ?_; (focus (first | exact trivial | assumption | constructor <;> assumption | exact mb2 rfl rfl | exact mb4 rfl rfl rfl rfl)); intro _; (try simp only [List.cons_append, List.nil_append, List.append_nil])) | refine sW rfl rfl ?_ | refine sK rfl rfl ?_ | refine j_if rfl ?_ | refine j_else rfl ?_ | refine pkT rfl rfl rfl rfl ?_ | refine pkF rfl rfl rfl rfl ?_)
  simp only [decide_eq_false (show ¬ (20 : Int) ≤ (xs.length : Int) by omega)]
  repeat (first | refine sX rfl rfl ?_ | (refine sS rfl rfl ?_ ?_; focus omega) | (refine sC rfl rfl ?_ ?_; focus (first | exact trivial | assumption | constructor <;> assumption | exact mb2 rfl rfl | exact mb4 rfl rfl rfl rfl)) | refine cX ?_ | refine cY ?_ | (refine sA rfl rfl ?_; intro _) | refine sT rfl ?_ | refine sF rfl ?_ | (refine sR rfl ?_ ?_; focus omega) | (refine sB rfl rfl ?_; intro _) | (refine sN rfl rfl ?_ ?_; (focus (first | exact trivial | assumption | constructor <;> assumption | exact mb2 rfl rfl | exact mb4 rfl rfl rfl rfl)); intro _; (try simp only [List.cons_append, List.nil_append, List.append_nil])) | refine sW rfl rfl ?_ | refine sK rfl rfl ?_ | refine j_if rfl ?_ | refine j_else rfl ?_ | refine pkT rfl rfl rfl rfl ?_ | refine pkF rfl rfl rfl rfl ?_)
  refine sZ rfl rfl ?_ ?_
  · exact ⟨by omega, hok⟩
  intro s'
  repeat (first | refine sX rfl rfl ?_ | (refine sS rfl rfl ?_ ?_; focus omega) | (refine sC rfl rfl ?_ ?_; focus (first | exact trivial | assumption | constructor <;> assumption | exact mb2 rfl rfl | exact mb4 rfl rfl rfl rfl)) | refine cX ?_ | refine cY ?_ | (refine sA rfl rfl ?_; intro _) | refine sT rfl ?_ | refine sF rfl ?_ | (refine sR rfl ?_ ?_; focus omega) | (refine sB rfl rfl ?_; intro _) | (refine sN rfl rfl ?_ ?_; (focus (first | exact trivial | assumption | constructor <;> assumption | exact mb2 rfl rfl | exact mb4 rfl rfl rfl rfl)); intro _; (try simp only [List.cons_append, List.nil_append, List.append_nil])) | refine sW rfl rfl ?_ | refine sK rfl rfl ?_ | refine j_if rfl ?_ | refine j_else rfl ?_ | refine pkT rfl rfl rfl rfl ?_ | refine pkF rfl rfl rfl rfl ?_)
  refine j_loop (S := Unit) (fun _ => True) (fun _ => [(1, .int .i64 xs.length), (6, .int .i64 20)]) (fun _ => mS T s'.1 ++ L1) (fun _ => 0) () trivial (by repeat (first | exact sub_nil | refine sub_cons rfl ?_ | refine sub_cons' rfl (by congr 1; omega) ?_)) (by repeat (first | exact List.Sublist.refl _ | exact List.nil_sublist _ | refine List.Sublist.cons_cons _ ?_ | refine List.Sublist.cons _ ?_)) (fun _ _ => ?_)
  repeat (first | refine sX rfl rfl ?_ | (refine sS rfl rfl ?_ ?_; focus omega) | (refine sC rfl rfl ?_ ?_; focus (first | exact trivial | assumption | constructor <;> assumption | exact mb2 rfl rfl | exact mb4 rfl rfl rfl rfl)) | refine cX ?_ | refine cY ?_ | (refine sA rfl rfl ?_; intro _) | refine sT rfl ?_ | refine sF rfl ?_ | (refine sR rfl ?_ ?_; focus omega) | (refine sB rfl rfl ?_; intro _) | (refine sN rfl rfl ?_ ?_; (focus (first | exact trivial | assumption | constructor <;> assumption | exact mb2 rfl rfl | exact mb4 rfl rfl rfl rfl)); intro _; (try simp only [List.cons_append, List.nil_append, List.append_nil])) | refine sW rfl rfl ?_ | refine sK rfl rfl ?_ | refine j_if rfl ?_ | refine j_else rfl ?_ | refine pkT rfl rfl rfl rfl ?_ | refine pkF rfl rfl rfl rfl ?_)
  simp only [decide_eq_false (show ¬ (20 : Int) < (xs.length : Int) by omega)]
  repeat (first | refine sX rfl rfl ?_ | (refine sS rfl rfl ?_ ?_; focus omega) | (refine sC rfl rfl ?_ ?_; focus (first | exact trivial | assumption | constructor <;> assumption | exact mb2 rfl rfl | exact mb4 rfl rfl rfl rfl)) | refine cX ?_ | refine cY ?_ | (refine sA rfl rfl ?_; intro _) | refine sT rfl ?_ | refine sF rfl ?_ | (refine sR rfl ?_ ?_; focus omega) | (refine sB rfl rfl ?_; intro _) | (refine sN rfl rfl ?_ ?_; (focus (first | exact trivial | assumption | constructor <;> assumption | exact mb2 rfl rfl | exact mb4 rfl rfl rfl rfl)); intro _; (try simp only [List.cons_append, List.nil_append, List.append_nil])) | refine sW rfl rfl ?_ | refine sK rfl rfl ?_ | refine j_if rfl ?_ | refine j_else rfl ?_ | refine pkT rfl rfl rfl rfl ?_ | refine pkF rfl rfl rfl rfl ?_)
  exact jx_end0 rfl (fun w hw => ⟨s', rfl, hw⟩)
instance sx_stable (w0 : World) (L L1 : List Blk) (xs : List UL) (s : SlS rU 36 xs) (T : TypeId) [hd : OwnS T s L L1] : SpecX Tryz.prog w0 L 184 [vSl s, .int .i64 xs.length, vFn 169] (SrtS xs s) (fun _ => .tuple #[]) (fun s' => mS T s'.1 ++ L1) (xs.length ≤ 19 ∧ ∀ u ∈ xs, IvOk BQ u.In) := ⟨fun hp w hw => stable_spec w0 w L L1 xs s T hp.1 hp.2 hw⟩
theorem sortStable_spec (w0 w : World) (L L1 : List Blk) (xs : List UL) (s : SlS rU 36 xs) (T : TypeId) [hd : OwnS T s L L1] (hl : xs.length ≤ 19) (hok : ∀ u ∈ xs, IvOk BQ u.In) (hw : Own w0 L w) :
    Calls Tryz.prog 168 [vSl s, vFn 169].toArray w (RetX w0 (SrtS xs s) (fun _ => .tuple #[]) (fun s' => mS T s'.1 ++ L1)) := by
  refine fn_introL Tryz.func168 rfl Tryz.ntmps168 rfl hw ?_
  repeat (first | refine sX rfl rfl ?_ | (refine sS rfl rfl ?_ ?_; focus omega) | (refine sC rfl rfl ?_ ?_; focus (first | exact trivial | assumption | constructor <;> assumption | exact mb2 rfl rfl | exact mb4 rfl rfl rfl rfl)) | refine cX ?_ | refine cY ?_ | (refine sA rfl rfl ?_; intro _) | refine sT rfl ?_ | refine sF rfl ?_ | (refine sR rfl ?_ ?_; focus omega) | (refine sB rfl rfl ?_; intro _) | (refine sN rfl rfl ?_ ?_; (focus (first | exact trivial | assumption | constructor <;> assumption | exact mb2 rfl rfl | exact mb4 rfl rfl rfl rfl)); intro _; (try simp only [List.cons_append, List.nil_append, List.append_nil])) | refine sW rfl rfl ?_ | refine sK rfl rfl ?_ | refine j_if rfl ?_ | refine j_else rfl ?_ | refine pkT rfl rfl rfl rfl ?_ | refine pkF rfl rfl rfl rfl ?_)
  refine sZ rfl rfl ?_ ?_
  · exact ⟨hl, hok⟩
  intro s'
  repeat (first | refine sX rfl rfl ?_ | (refine sS rfl rfl ?_ ?_; focus omega) | (refine sC rfl rfl ?_ ?_; focus (first | exact trivial | assumption | constructor <;> assumption | exact mb2 rfl rfl | exact mb4 rfl rfl rfl rfl)) | refine cX ?_ | refine cY ?_ | (refine sA rfl rfl ?_; intro _) | refine sT rfl ?_ | refine sF rfl ?_ | (refine sR rfl ?_ ?_; focus omega) | (refine sB rfl rfl ?_; intro _) | (refine sN rfl rfl ?_ ?_; (focus (first | exact trivial | assumption | constructor <;> assumption | exact mb2 rfl rfl | exact mb4 rfl rfl rfl rfl)); intro _; (try simp only [List.cons_append, List.nil_append, List.append_nil])) | refine sW rfl rfl ?_ | refine sK rfl rfl ?_ | refine j_if rfl ?_ | refine j_else rfl ?_ | refine pkT rfl rfl rfl rfl ?_ | refine pkF rfl rfl rfl rfl ?_)
  exact jx_end0 rfl (fun w hw => ⟨s', rfl, hw⟩)
instance sx_sortStable (w0 : World) (L L1 : List Blk) (xs : List UL) (s : SlS rU 36 xs) (T : TypeId) [hd : OwnS T s L L1] : SpecX Tryz.prog w0 L 168 [vSl s, vFn 169] (SrtS xs s) (fun _ => .tuple #[]) (fun s' => mS T s'.1 ++ L1) (xs.length ≤ 19 ∧ ∀ u ∈ xs, IvOk BQ u.In) := ⟨fun hp w hw => sortStable_spec w0 w L L1 xs s T hp.1 hp.2 hw⟩
end Go.Vt
/- Units sorted and divided into single instants and open intervals, walked. Conditions: those that each statement names. -/
set_option linter.unusedSimpArgs false
set_option linter.unusedVariables false
set_option maxRecDepth 100000
namespace Go.Vt
open Go.RowKit Go.Proofs
/-- A slice that is known, and nil where it is empty. -/
class LstN (w0 : World) (L : List Blk) (v : Value) (α : outParam Type) (enc : outParam (α → Array Value)) (xs : outParam (List α)) : Prop where
  out : ∀ w, Own w0 L w → ArgS w v enc xs
  nil : xs = [] → v = .slice none 0 0
instance lstNOwn {α : Type} {enc : α → Array Value} {k : Nat} {xs : List α} [he : EncC enc k] (w0 : World) (L L1 : List Blk) (T : TypeId) (s : SlS enc k xs) [h : OwnS T s L L1] : LstN w0 L (vSl s) α enc xs := ⟨(lstOwn w0 L L1 T s).out, fun h0 => by
  rcases s.cases T with ⟨-, hv, -⟩ | ⟨b, c, sp, h1, hv, hm, hne⟩
  · exact hv
  · exact absurd h0 hne⟩
instance bs_116_0 : BsC Tryz.prog 116 0 [] (row rU [] []) 163 := ⟨fun w => by kernel_rfl⟩
theorem clone_spec (v : Value) (us : List UL) (w : World) (hv : ArgS w v rU us) (hn : us = [] → v = .slice none 0 0) (hl : us.length ≤ 1048576) :
    Calls Tryz.prog 167 [v].toArray w (RetM (SlS rU 36 us) (fun s => vSl s) (fun s => mS 163 s) w) := by
  by_cases h0 : us = []
  · obtain rfl := hn h0
    subst h0
    refine fn_intro Tryz.func167 rfl Tryz.ntmps167 rfl ?_
    repeat (first | refine sX rfl rfl ?_ | (refine sS rfl rfl ?_ ?_; focus omega) | (refine sC rfl rfl ?_ ?_; focus (first | exact trivial | assumption | constructor <;> assumption | exact mb2 rfl rfl | exact mb4 rfl rfl rfl rfl)) | refine cX ?_ | refine cY ?_ | (refine sA rfl rfl ?_; intro _) | refine sT rfl ?_ | refine sF rfl ?_ | (refine sR rfl ?_ ?_; focus omega) | (refine sB rfl rfl ?_; intro _) | (refine sN rfl rfl ?_ ?_; (focus (first | exact trivial | assumption | constructor <;> assumption | exact mb2 rfl rfl | exact mb4 rfl rfl rfl rfl)); intro _; (try simp only [List.cons_append, List.nil_append, List.append_nil])) | refine sW rfl rfl ?_ | refine sK rfl rfl ?_ | refine j_if rfl ?_ | refine j_else rfl ?_ | refine pkT rfl rfl rfl rfl ?_ | refine pkF rfl rfl rfl rfl ?_)
    exact jx_ret_tmp rfl rfl (fun w hw => ⟨SlS.no, rfl, hw⟩)
  · obtain ⟨bw, ow, cw, rfl, hcw, hrow⟩ := hv.blk (k := 35) h0 []
    have hrow' : ∀ L, RowC w L bw ow UL rU us := fun L => ⟨fun w' hw' => hrow.out w' (hw'.sub (List.nil_sublist _))⟩
    refine fn_intro Tryz.func167 rfl Tryz.ntmps167 rfl ?_
    repeat (first | refine sX rfl rfl ?_ | (refine sS rfl rfl ?_ ?_; focus omega) | (refine sC rfl rfl ?_ ?_; focus (first | exact trivial | assumption | constructor <;> assumption | exact mb2 rfl rfl | exact mb4 rfl rfl rfl rfl)) | refine cX ?_ | refine cY ?_ | (refine sA rfl rfl ?_; intro _) | refine sT rfl ?_ | refine sF rfl ?_ | (refine sR rfl ?_ ?_; focus omega) | (refine sB rfl rfl ?_; intro _) | (refine sN rfl rfl ?_ ?_; (focus (first | exact trivial | assumption | constructor <;> assumption | exact mb2 rfl rfl | exact mb4 rfl rfl rfl rfl)); intro _; (try simp only [List.cons_append, List.nil_append, List.append_nil])) | refine sW rfl rfl ?_ | refine sK rfl rfl ?_ | refine j_if rfl ?_ | refine j_else rfl ?_ | refine pkT rfl rfl rfl rfl ?_ | refine pkF rfl rfl rfl rfl ?_)
    refine sG rfl rfl ?_ h0 ?_ ?_ ?_ ?_ ?_
    · rfl
    · rfl
    · rfl
    · decide
    · exact ⟨by omega, by omega⟩
    intro s'
    repeat (first | refine sX rfl rfl ?_ | (refine sS rfl rfl ?_ ?_; focus omega) | (refine sC rfl rfl ?_ ?_; focus (first | exact trivial | assumption | constructor <;> assumption | exact mb2 rfl rfl | exact mb4 rfl rfl rfl rfl)) | refine cX ?_ | refine cY ?_ | (refine sA rfl rfl ?_; intro _) | refine sT rfl ?_ | refine sF rfl ?_ | (refine sR rfl ?_ ?_; focus omega) | (refine sB rfl rfl ?_; intro _) | (refine sN rfl rfl ?_ ?_; (focus (first | exact trivial | assumption | constructor <;> assumption | exact mb2 rfl rfl | exact mb4 rfl rfl rfl rfl)); intro _; (try simp only [List.cons_append, List.nil_append, List.append_nil])) | refine sW rfl rfl ?_ | refine sK rfl rfl ?_ | refine j_if rfl ?_ | refine j_else rfl ?_ | refine pkT rfl rfl rfl rfl ?_ | refine pkF rfl rfl rfl rfl ?_)
    exact jx_ret_tmp rfl rfl (fun w hw => ⟨s', rfl, hw.sub (by repeat (first | exact List.Sublist.refl _ | exact List.nil_sublist _ | exact List.sublist_append_left _ _ | refine List.Sublist.append_left ?_ _ | refine List.Sublist.cons_cons _ ?_ | refine List.Sublist.cons _ ?_ | refine List.Sublist.trans ?_ (List.sublist_append_right _ _)))⟩)
instance sr_clone (w0 : World) (L : List Blk) (v : Value) (us : List UL) [h : LstN w0 L v UL rU us] : SpecR Tryz.prog w0 L 167 [v] (SlS rU 36 us) (fun s => vSl s) (fun s => mS 163 s) (us.length ≤ 1048576) := ⟨fun hl w hw => clone_spec v us w (h.out w hw) h.nil hl⟩
instance call_sortStable : CallC Tryz.prog 168 := ⟨by kernel_rfl⟩
/-- Units in order. -/
def sor (us : List UL) : List UL := srt us (us.length - 1)
theorem sorted_spec (v : Value) (us : List UL) (w : World) (hv : ArgS w v rU us) (hn : us = [] → v = .slice none 0 0) (hl : us.length ≤ 19) (hok : ∀ u ∈ us, IvOk BQ u.In) :
    Calls Tryz.prog 133 [v].toArray w (RetM (SlS rU 36 (sor us)) (fun s => vSl s) (fun s => mS 163 s) w) := by
  have : ∀ L, LstN w L v UL rU us := fun L => ⟨fun w' hw' => hv.to hw'.ext, hn⟩
  refine fn_intro Tryz.func133 rfl Tryz.ntmps133 rfl ?_
  repeat (first | refine sX rfl rfl ?_ | (refine sS rfl rfl ?_ ?_; focus omega) | (refine sC rfl rfl ?_ ?_; focus (omega)) | refine cX ?_ | refine cY ?_ | (refine sA rfl rfl ?_; intro _) | refine sT rfl ?_ | refine sF rfl ?_ | (refine sR rfl ?_ ?_; focus omega) | (refine sB rfl rfl ?_; intro _) | (refine sN rfl rfl ?_ ?_; (focus (omega)); intro _; (try simp only [List.cons_append, List.nil_append, List.append_nil])) | refine sW rfl rfl ?_ | refine sK rfl rfl ?_ | refine j_if rfl ?_ | refine j_else rfl ?_ | refine pkT rfl rfl rfl rfl ?_ | refine pkF rfl rfl rfl rfl ?_)
  rename_i s
  refine sZ rfl rfl ?_ ?_
  · exact ⟨hl, hok⟩
  intro s'
  repeat (first | refine sX rfl rfl ?_ | (refine sS rfl rfl ?_ ?_; focus omega) | (refine sC rfl rfl ?_ ?_; focus (first | exact trivial | assumption | constructor <;> assumption | exact mb2 rfl rfl | exact mb4 rfl rfl rfl rfl)) | refine cX ?_ | refine cY ?_ | (refine sA rfl rfl ?_; intro _) | refine sT rfl ?_ | refine sF rfl ?_ | (refine sR rfl ?_ ?_; focus omega) | (refine sB rfl rfl ?_; intro _) | (refine sN rfl rfl ?_ ?_; (focus (first | exact trivial | assumption | constructor <;> assumption | exact mb2 rfl rfl | exact mb4 rfl rfl rfl rfl)); intro _; (try simp only [List.cons_append, List.nil_append, List.append_nil])) | refine sW rfl rfl ?_ | refine sK rfl rfl ?_ | refine j_if rfl ?_ | refine j_else rfl ?_ | refine pkT rfl rfl rfl rfl ?_ | refine pkF rfl rfl rfl rfl ?_)
  exact jx_ret_tmp rfl rfl (fun w hw => ⟨s'.1, by show Ending.returned (vSl s) = Ending.returned (vSl s'.1); rw [s'.2], hw.sub (by repeat (first | exact List.Sublist.refl _ | exact List.nil_sublist _ | exact List.sublist_append_left _ _ | refine List.Sublist.append_left ?_ _ | refine List.Sublist.cons_cons _ ?_ | refine List.Sublist.cons _ ?_ | refine List.Sublist.trans ?_ (List.sublist_append_right _ _)))⟩)
instance sr_sorted (w0 : World) (L : List Blk) (v : Value) (us : List UL) [h : LstN w0 L v UL rU us] : SpecR Tryz.prog w0 L 133 [v] (SlS rU 36 (sor us)) (fun s => vSl s) (fun s => mS 163 s) (us.length ≤ 19 ∧ ∀ u ∈ us, IvOk BQ u.In) := ⟨fun hp w hw => sorted_spec v us w (h.out w hw) h.nil hp.1 hp.2⟩
end Go.Vt
/- Units divided into single instants and open intervals, walked. Conditions: those that each statement names. -/
set_option linter.unusedSimpArgs false
set_option linter.unusedVariables false
set_option maxRecDepth 100000
namespace Go.Vt
open Go.RowKit Go.Proofs
section
variable {P : Program} {α : Type} {enc : α → Array Value} {k : Nat} {xs ys : List α}
instance ldVS {T e : TypeId} {s : SlS enc k xs} [h : UndC P T (.slice e)] : LdC P T #[vSl s] 0 (vSl s) := ⟨ldv_one (by simp [oneB, h.out]) rfl⟩
theorem vSl_cells (s : SlS enc k xs) : (vSl s).cells = #[vSl s] := by
  rcases s.cases 0 with ⟨-, hv, -⟩ | ⟨b, c, sp, -, hv, -, -⟩ <;> rw [hv] <;> rfl
theorem vSl_one (s : SlS enc k xs) : (vSl s).oneCell' = true := by
  rcases s.cases 0 with ⟨-, hv, -⟩ | ⟨b, c, sp, -, hv, -, -⟩ <;> rw [hv] <;> rfl
instance stVS {T : TypeId} {v : Value} {s : SlS enc k xs} [h : SizeC P T 1] : StC P T #[v] 0 (vSl s) #[vSl s] := ⟨by rw [vSl_cells]; exact h.out, by rw [vSl_cells]; rfl, by rw [vSl_cells]; simp [vSl_one], by rw [vSl_cells]; rfl⟩
end
theorem j_permL {P : Program} {w0 : World} {n : Nat} {c : Code} {Q : Exit → Act → World → Prop} {E : Env} {L : List Blk} (L' : List Blk) (p : L.Perm L') (h : J P w0 n c Q E L') : J P w0 n c Q E L := ⟨fun a w ha hw => h.out a w ha (hw.perm p)⟩
/-- One instant. -/
def at1 (t : R_api_Real) (f : R_api_Line) : UL := ⟨⟨t, t, false, false⟩, f⟩
theorem atom1_spec (w0 w : World) (L2 : List Blk) (b : Nat) (xs : List UL) (s : SlS rU 36 xs) (t : R_api_Real) (f : R_api_Line) (hl : xs.length ≤ 1048576) (hw : Own w0 (mS 163 s ++ ⟨b, #[vSl s], 116⟩ :: L2) w) :
    Calls Tryz.prog 171 [vR t, vLn f, .pointer (some ⟨b, 0, none⟩)].toArray w (RetX w0 (SlS rU 36 (xs ++ [at1 t f])) (fun _ => .tuple #[]) (fun s' => mS 163 s' ++ ⟨b, #[vSl s'], 116⟩ :: L2)) := by
  refine fn_introL Tryz.func171 rfl Tryz.ntmps171 rfl hw ?_
  repeat (first | refine sX rfl rfl ?_ | (refine sS rfl rfl ?_ ?_; focus omega) | (refine sC rfl rfl ?_ ?_; focus (first | exact trivial | assumption | constructor <;> assumption | exact mb2 rfl rfl | exact mb4 rfl rfl rfl rfl)) | refine cX ?_ | refine cY ?_ | (refine sA rfl rfl ?_; intro _) | refine sT rfl ?_ | refine sF rfl ?_ | (refine sR rfl ?_ ?_; focus omega) | (refine sB rfl rfl ?_; intro _) | (refine sN rfl rfl ?_ ?_; (focus (first | exact trivial | assumption | constructor <;> assumption | exact mb2 rfl rfl | exact mb4 rfl rfl rfl rfl)); intro _; (try simp only [List.cons_append, List.nil_append, List.append_nil])) | refine sW rfl rfl ?_ | refine sK rfl rfl ?_ | refine j_if rfl ?_ | refine j_else rfl ?_ | refine pkT rfl rfl rfl rfl ?_ | refine pkF rfl rfl rfl rfl ?_)
  refine sU rfl rfl ?_ ?_ ?_ ?_
  · rfl
  · rfl
  · exact ⟨by decide, by omega, by omega⟩
  intro s'
  repeat (first | refine sX rfl rfl ?_ | (refine sS rfl rfl ?_ ?_; focus omega) | (refine sC rfl rfl ?_ ?_; focus (first | exact trivial | assumption | constructor <;> assumption | exact mb2 rfl rfl | exact mb4 rfl rfl rfl rfl)) | refine cX ?_ | refine cY ?_ | (refine sA rfl rfl ?_; intro _) | refine sT rfl ?_ | refine sF rfl ?_ | (refine sR rfl ?_ ?_; focus omega) | (refine sB rfl rfl ?_; intro _) | (refine sN rfl rfl ?_ ?_; (focus (first | exact trivial | assumption | constructor <;> assumption | exact mb2 rfl rfl | exact mb4 rfl rfl rfl rfl)); intro _; (try simp only [List.cons_append, List.nil_append, List.append_nil])) | refine sW rfl rfl ?_ | refine sK rfl rfl ?_ | refine j_if rfl ?_ | refine j_else rfl ?_ | refine pkT rfl rfl rfl rfl ?_ | refine pkF rfl rfl rfl rfl ?_)
  exact jx_end0 rfl (fun w hw => ⟨s', rfl, hw.sub (by repeat (first | exact List.Sublist.refl _ | exact List.nil_sublist _ | exact List.sublist_append_left _ _ | refine List.Sublist.append_left ?_ _ | refine List.Sublist.cons_cons _ ?_ | refine List.Sublist.cons _ ?_ | refine List.Sublist.trans ?_ (List.sublist_append_right _ _)))⟩)
instance sx_atom1 (w0 : World) (L L1 L2 : List Blk) (b : Nat) {xs : List UL} (s : SlS rU 36 xs) (t : R_api_Real) (f : R_api_Line) [h1 : DelC b L #[vSl s] 116 L1] [h2 : OwnS 163 s L1 L2] : SpecX Tryz.prog w0 L 171 [vR t, vLn f, .pointer (some ⟨b, 0, none⟩)] (SlS rU 36 (xs ++ [at1 t f])) (fun _ => .tuple #[]) (fun s' => mS 163 s' ++ ⟨b, #[vSl s'], 116⟩ :: L2) (xs.length ≤ 1048576) := ⟨fun hl w hw =>
  atom1_spec w0 w L2 b xs s t f hl (hw.perm ((h1.out.trans (h2.out.cons _)).trans List.perm_middle.symm))⟩
/-- Without its ends. -/
def inn1 (u : UL) : UL := ⟨⟨u.In.From, u.In.To, true, true⟩, u.F⟩
/-- The parts of a unit. -/
def atU (u : UL) : List UL := (if u.In.OpenFrom = true then [] else [at1 u.In.From u.F]) ++ (if u.In.From = u.In.To then [] else inn1 u :: if u.In.OpenTo = true then [] else [at1 u.In.To u.F])
def atm (us : List UL) : Nat → List UL
  | 0 => []
  | m + 1 => atm us m ++ atU (gi us (m : Int))
theorem atU_len (u : UL) : (atU u).length ≤ 3 := by
  unfold atU
  split <;> split <;> (try split) <;> simp
theorem atm_len (us : List UL) : ∀ m, (atm us m).length ≤ 3 * m
  | 0 => Nat.le_refl _
  | m + 1 => by
    have := atm_len us m
    have := atU_len (gi us (m : Int))
    rw [atm, List.length_append]
    omega
theorem atoms_spec (v : Value) (us : List UL) (w : World) (hv : ArgS w v rU us) (hl : us.length ≤ 65536) :
    Calls Tryz.prog 135 [v].toArray w (RetM (SlS rU 36 (atm us us.length)) (fun s => vSl s) (fun s => mS 163 s) w) := by
  refine fn_intro Tryz.func135 rfl Tryz.ntmps135 rfl ?_
  obtain ⟨p, cp, rfl⟩ := hv.form
  repeat (first | refine sX rfl rfl ?_ | (refine sS rfl rfl ?_ ?_; focus omega) | (refine sC rfl rfl ?_ ?_; focus (first | exact trivial | assumption | constructor <;> assumption | exact mb2 rfl rfl | exact mb4 rfl rfl rfl rfl)) | refine cX ?_ | refine cY ?_ | (refine sA rfl rfl ?_; intro _) | refine sT rfl ?_ | refine sF rfl ?_ | (refine sR rfl ?_ ?_; focus omega) | (refine sB rfl rfl ?_; intro _) | (refine sN rfl rfl ?_ ?_; (focus (first | exact trivial | assumption | constructor <;> assumption | exact mb2 rfl rfl | exact mb4 rfl rfl rfl rfl)); intro _; (try simp only [List.cons_append, List.nil_append, List.append_nil])) | refine sW rfl rfl ?_ | refine sK rfl rfl ?_ | refine j_if rfl ?_ | refine j_else rfl ?_ | refine pkT rfl rfl rfl rfl ?_ | refine pkF rfl rfl rfl rfl ?_)
  rename_i b3
  refine j_loop (S := (xs : List UL) × Nat × SlS rU 36 xs) (fun s => s.2.1 ≤ us.length ∧ s.1 = atm us s.2.1) (fun s => [(3, .pointer (some ⟨b3, 0, none⟩)), (4, .func (.func 171) #[] [.pointer (some ⟨b3, 0, none⟩)].toArray), (8, .slice p us.length cp), (9, .int .i64 us.length), (10, .int .i64 (s.2.1 : Nat))]) (fun s => mS 163 s.2.2 ++ [⟨b3, #[vSl s.2.2], 116⟩]) (fun s => us.length - s.2.1) ⟨[], 0, SlS.no⟩
    ⟨Nat.zero_le _, rfl⟩ (by repeat (first | exact sub_nil | refine sub_cons rfl ?_ | refine sub_cons' rfl (by congr 1; omega) ?_)) (by repeat (first | exact List.Sublist.refl _ | exact List.nil_sublist _ | refine List.Sublist.cons_cons _ ?_ | refine List.Sublist.cons _ ?_)) (fun s hs => ?_)
  obtain ⟨xs, m, s⟩ := s
  obtain ⟨hm, hxs⟩ := hs
  simp only at hm hxs ⊢
  repeat (first | refine sX rfl rfl ?_ | (refine sS rfl rfl ?_ ?_; focus omega) | (refine sC rfl rfl ?_ ?_; focus (first | exact trivial | assumption | constructor <;> assumption | exact mb2 rfl rfl | exact mb4 rfl rfl rfl rfl)) | refine cX ?_ | refine cY ?_ | (refine sA rfl rfl ?_; intro _) | refine sT rfl ?_ | refine sF rfl ?_ | (refine sR rfl ?_ ?_; focus omega) | (refine sB rfl rfl ?_; intro _) | (refine sN rfl rfl ?_ ?_; (focus (first | exact trivial | assumption | constructor <;> assumption | exact mb2 rfl rfl | exact mb4 rfl rfl rfl rfl)); intro _; (try simp only [List.cons_append, List.nil_append, List.append_nil])) | refine sW rfl rfl ?_ | refine sK rfl rfl ?_ | refine j_if rfl ?_ | refine j_else rfl ?_ | refine pkT rfl rfl rfl rfl ?_ | refine pkF rfl rfl rfl rfl ?_)
  refine j_cond rfl (fun h => ?_) (fun h => ?_)
  · have hlt : m < us.length := by have := of_decide_eq_true h; omega
    have hne : us ≠ [] := fun h0 => by rw [h0] at hlt; simp at hlt
    obtain ⟨bw, ow, cw, hvw, hcw, hrow⟩ := hv.blk (k := 35) hne []
    injection hvw with e1 e2 e3
    subst e1
    subst e3
    have hrow' : ∀ L, RowC w L bw ow UL rU us := fun L => ⟨fun w' hw' => hrow.out w' (hw'.sub (List.nil_sublist _))⟩
    have hxl := atm_len us m
    rw [← hxs] at hxl
    obtain ⟨u, hu⟩ : ∃ u, u = gi us (m : Int) := ⟨_, rfl⟩
    have hnx : atm us (m + 1) = xs ++ atU u := by rw [atm, hxs, hu]
    repeat (first | refine sX rfl rfl ?_ | (refine sS rfl rfl ?_ ?_; focus omega) | (refine sC rfl rfl ?_ ?_; focus (first | exact trivial | assumption | constructor <;> assumption | exact mb2 rfl rfl | exact mb4 rfl rfl rfl rfl)) | refine cX ?_ | refine cY ?_ | (refine sA rfl rfl ?_; intro _) | refine sT rfl ?_ | refine sF rfl ?_ | (refine sR rfl ?_ ?_; focus omega) | (refine sB rfl rfl ?_; intro _) | (refine sN rfl rfl ?_ ?_; (focus (first | exact trivial | assumption | constructor <;> assumption | exact mb2 rfl rfl | exact mb4 rfl rfl rfl rfl)); intro _; (try simp only [List.cons_append, List.nil_append, List.append_nil])) | refine sW rfl rfl ?_ | refine sK rfl rfl ?_ | refine j_if rfl ?_ | refine j_else rfl ?_ | refine pkT rfl rfl rfl rfl ?_ | refine pkF rfl rfl rfl rfl ?_)
    simp only [← hu]
    rename_i b6
    refine j_permL (mS 163 s ++ [⟨b3, #[vSl s], 116⟩, ⟨b6, rU u, 163⟩]) (by
      have h1 := (List.perm_append_singleton (⟨b6, rU u, 163⟩ : Blk) (mS 163 s ++ [⟨b3, #[vSl s], 116⟩])).symm
      rw [List.append_assoc] at h1
      exact h1) ?_
    refine j_cut (S := (ys : List UL) × SlS rU 36 ys) (fun s' => s'.1 = xs ++ (if u.In.OpenFrom = true then [] else [at1 u.In.From u.F])) (fun s' => [(6, .pointer (some ⟨b6, 0, none⟩)), (3, .pointer (some ⟨b3, 0, none⟩)), (4, .func (.func 171) #[] [.pointer (some ⟨b3, 0, none⟩)].toArray), (8, .slice (some ⟨bw, ow, none⟩) us.length cp), (9, .int .i64 us.length), (10, .int .i64 (m : Nat))])
      (fun s' => mS 163 s'.2 ++ [⟨b3, #[vSl s'.2], 116⟩, ⟨b6, rU u, 163⟩]) ?_ (fun s' hs' => ?_)
    · rcases ho : u.In.OpenFrom with _ | _
      · repeat (first | refine sX rfl rfl ?_ | (refine sS rfl rfl ?_ ?_; focus omega) | (refine sC rfl rfl ?_ ?_; focus (first | exact trivial | assumption | constructor <;> assumption | exact mb2 rfl rfl | exact mb4 rfl rfl rfl rfl)) | refine cX ?_ | refine cY ?_ | (refine sA rfl rfl ?_; intro _) | refine sT rfl ?_ | refine sF rfl ?_ | (refine sR rfl ?_ ?_; focus omega) | (refine sB rfl rfl ?_; intro _) | (refine sN rfl rfl ?_ ?_; (focus (first | exact trivial | assumption | constructor <;> assumption | exact mb2 rfl rfl | exact mb4 rfl rfl rfl rfl)); intro _; (try simp only [List.cons_append, List.nil_append, List.append_nil])) | refine sW rfl rfl ?_ | refine sK rfl rfl ?_ | refine j_if rfl ?_ | refine j_else rfl ?_ | refine pkT rfl rfl rfl rfl ?_ | refine pkF rfl rfl rfl rfl ?_)
        refine sY rfl rfl ?_ ?_
        · omega
        intro s'
        repeat (first | refine sX rfl rfl ?_ | (refine sS rfl rfl ?_ ?_; focus omega) | (refine sC rfl rfl ?_ ?_; focus (first | exact trivial | assumption | constructor <;> assumption | exact mb2 rfl rfl | exact mb4 rfl rfl rfl rfl)) | refine cX ?_ | refine cY ?_ | (refine sA rfl rfl ?_; intro _) | refine sT rfl ?_ | refine sF rfl ?_ | (refine sR rfl ?_ ?_; focus omega) | (refine sB rfl rfl ?_; intro _) | (refine sN rfl rfl ?_ ?_; (focus (first | exact trivial | assumption | constructor <;> assumption | exact mb2 rfl rfl | exact mb4 rfl rfl rfl rfl)); intro _; (try simp only [List.cons_append, List.nil_append, List.append_nil])) | refine sW rfl rfl ?_ | refine sK rfl rfl ?_ | refine j_if rfl ?_ | refine j_else rfl ?_ | refine pkT rfl rfl rfl rfl ?_ | refine pkF rfl rfl rfl rfl ?_)
        exact jx_mid ⟨_, s'⟩ rfl (by repeat (first | exact sub_nil | refine sub_cons rfl ?_ | refine sub_cons' rfl (by congr 1; omega) ?_)) (by repeat (first | exact List.Sublist.refl _ | exact List.nil_sublist _ | exact List.sublist_append_left _ _ | refine List.Sublist.append_left ?_ _ | refine List.Sublist.cons_cons _ ?_ | refine List.Sublist.cons _ ?_ | refine List.Sublist.trans ?_ (List.sublist_append_right _ _)))
      · repeat (first | refine sX rfl rfl ?_ | (refine sS rfl rfl ?_ ?_; focus omega) | (refine sC rfl rfl ?_ ?_; focus (first | exact trivial | assumption | constructor <;> assumption | exact mb2 rfl rfl | exact mb4 rfl rfl rfl rfl)) | refine cX ?_ | refine cY ?_ | (refine sA rfl rfl ?_; intro _) | refine sT rfl ?_ | refine sF rfl ?_ | (refine sR rfl ?_ ?_; focus omega) | (refine sB rfl rfl ?_; intro _) | (refine sN rfl rfl ?_ ?_; (focus (first | exact trivial | assumption | constructor <;> assumption | exact mb2 rfl rfl | exact mb4 rfl rfl rfl rfl)); intro _; (try simp only [List.cons_append, List.nil_append, List.append_nil])) | refine sW rfl rfl ?_ | refine sK rfl rfl ?_ | refine j_if rfl ?_ | refine j_else rfl ?_ | refine pkT rfl rfl rfl rfl ?_ | refine pkF rfl rfl rfl rfl ?_)
        exact jx_mid ⟨_, s⟩ (by rw [if_pos rfl, List.append_nil]) (by repeat (first | exact sub_nil | refine sub_cons rfl ?_ | refine sub_cons' rfl (by congr 1; omega) ?_)) (by repeat (first | exact List.Sublist.refl _ | exact List.nil_sublist _ | exact List.sublist_append_left _ _ | refine List.Sublist.append_left ?_ _ | refine List.Sublist.cons_cons _ ?_ | refine List.Sublist.cons _ ?_ | refine List.Sublist.trans ?_ (List.sublist_append_right _ _)))
    obtain ⟨ys, s'⟩ := s'
    simp only at hs' ⊢
    have hyl : ys.length ≤ 3 * m + 1 := by rw [hs', List.length_append]; split <;> simp <;> omega
    repeat (first | refine sX rfl rfl ?_ | (refine sS rfl rfl ?_ ?_; focus omega) | (refine sC rfl rfl ?_ ?_; focus (first | exact trivial | assumption | constructor <;> assumption | exact mb2 rfl rfl | exact mb4 rfl rfl rfl rfl)) | refine cX ?_ | refine cY ?_ | (refine sA rfl rfl ?_; intro _) | refine sT rfl ?_ | refine sF rfl ?_ | (refine sR rfl ?_ ?_; focus omega) | (refine sB rfl rfl ?_; intro _) | (refine sN rfl rfl ?_ ?_; (focus (first | exact trivial | assumption | constructor <;> assumption | exact mb2 rfl rfl | exact mb4 rfl rfl rfl rfl)); intro _; (try simp only [List.cons_append, List.nil_append, List.append_nil])) | refine sW rfl rfl ?_ | refine sK rfl rfl ?_ | refine j_if rfl ?_ | refine j_else rfl ?_ | refine pkT rfl rfl rfl rfl ?_ | refine pkF rfl rfl rfl rfl ?_)
    by_cases hi : u.In.From = u.In.To
    · simp only [decide_eq_true hi]
      repeat (first | refine sX rfl rfl ?_ | (refine sS rfl rfl ?_ ?_; focus omega) | (refine sC rfl rfl ?_ ?_; focus (exact ⟨by omega, by omega⟩)) | refine cX ?_ | refine cY ?_ | (refine sA rfl rfl ?_; intro _) | refine sT rfl ?_ | refine sF rfl ?_ | (refine sR rfl ?_ ?_; focus omega) | (refine sB rfl rfl ?_; intro _) | (refine sN rfl rfl ?_ ?_; (focus (exact ⟨by omega, by omega⟩)); intro _; (try simp only [List.cons_append, List.nil_append, List.append_nil])) | refine sW rfl rfl ?_ | refine sK rfl rfl ?_ | refine j_if rfl ?_ | refine j_else rfl ?_ | refine pkT rfl rfl rfl rfl ?_ | refine pkF rfl rfl rfl rfl ?_)
      exact jx_loop ⟨ys, m + 1, s'⟩ ⟨hlt, by rw [hnx, atU, if_pos hi, List.append_nil]; exact hs'⟩ (by repeat (first | exact sub_nil | refine sub_cons rfl ?_ | refine sub_cons' rfl (by congr 1; omega) ?_)) (by repeat (first | exact List.Sublist.refl _ | exact List.nil_sublist _ | exact List.sublist_append_left _ _ | refine List.Sublist.append_left ?_ _ | refine List.Sublist.cons_cons _ ?_ | refine List.Sublist.cons _ ?_ | refine List.Sublist.trans ?_ (List.sublist_append_right _ _))) (by show us.length - (m + 1) < us.length - m; omega)
    · simp only [decide_eq_false hi]
      repeat (first | refine sX rfl rfl ?_ | (refine sS rfl rfl ?_ ?_; focus omega) | (refine sC rfl rfl ?_ ?_; focus (first | exact trivial | assumption | constructor <;> assumption | exact mb2 rfl rfl | exact mb4 rfl rfl rfl rfl)) | refine cX ?_ | refine cY ?_ | (refine sA rfl rfl ?_; intro _) | refine sT rfl ?_ | refine sF rfl ?_ | (refine sR rfl ?_ ?_; focus omega) | (refine sB rfl rfl ?_; intro _) | (refine sN rfl rfl ?_ ?_; (focus (first | exact trivial | assumption | constructor <;> assumption | exact mb2 rfl rfl | exact mb4 rfl rfl rfl rfl)); intro _; (try simp only [List.cons_append, List.nil_append, List.append_nil])) | refine sW rfl rfl ?_ | refine sK rfl rfl ?_ | refine j_if rfl ?_ | refine j_else rfl ?_ | refine pkT rfl rfl rfl rfl ?_ | refine pkF rfl rfl rfl rfl ?_)
      refine sU rfl rfl ?_ ?_ ?_ ?_
      · rfl
      · rfl
      · exact ⟨by decide, by omega, by omega⟩
      intro s2
      repeat (first | refine sX rfl rfl ?_ | (refine sS rfl rfl ?_ ?_; focus omega) | (refine sC rfl rfl ?_ ?_; focus (first | exact trivial | assumption | constructor <;> assumption | exact mb2 rfl rfl | exact mb4 rfl rfl rfl rfl)) | refine cX ?_ | refine cY ?_ | (refine sA rfl rfl ?_; intro _) | refine sT rfl ?_ | refine sF rfl ?_ | (refine sR rfl ?_ ?_; focus omega) | (refine sB rfl rfl ?_; intro _) | (refine sN rfl rfl ?_ ?_; (focus (first | exact trivial | assumption | constructor <;> assumption | exact mb2 rfl rfl | exact mb4 rfl rfl rfl rfl)); intro _; (try simp only [List.cons_append, List.nil_append, List.append_nil])) | refine sW rfl rfl ?_ | refine sK rfl rfl ?_ | refine j_if rfl ?_ | refine j_else rfl ?_ | refine pkT rfl rfl rfl rfl ?_ | refine pkF rfl rfl rfl rfl ?_)
      rcases hc : u.In.OpenTo with _ | _
      · have e3 : ys ++ [inn1 u] ++ [at1 u.In.To u.F] = atm us (m + 1) := by
          rw [hnx, hs']
          unfold atU
          rw [if_neg hi, hc]
          simp
        repeat (first | refine sX rfl rfl ?_ | (refine sS rfl rfl ?_ ?_; focus omega) | (refine sC rfl rfl ?_ ?_; focus (first | exact trivial | assumption | constructor <;> assumption | exact mb2 rfl rfl | exact mb4 rfl rfl rfl rfl)) | refine cX ?_ | refine cY ?_ | (refine sA rfl rfl ?_; intro _) | refine sT rfl ?_ | refine sF rfl ?_ | (refine sR rfl ?_ ?_; focus omega) | (refine sB rfl rfl ?_; intro _) | (refine sN rfl rfl ?_ ?_; (focus (first | exact trivial | assumption | constructor <;> assumption | exact mb2 rfl rfl | exact mb4 rfl rfl rfl rfl)); intro _; (try simp only [List.cons_append, List.nil_append, List.append_nil])) | refine sW rfl rfl ?_ | refine sK rfl rfl ?_ | refine j_if rfl ?_ | refine j_else rfl ?_ | refine pkT rfl rfl rfl rfl ?_ | refine pkF rfl rfl rfl rfl ?_)
        refine sY rfl rfl ?_ ?_
        · simp only [List.length_append, List.length_singleton]; omega
        intro s3
        repeat (first | refine sX rfl rfl ?_ | (refine sS rfl rfl ?_ ?_; focus omega) | (refine sC rfl rfl ?_ ?_; focus (exact ⟨by omega, by omega⟩)) | refine cX ?_ | refine cY ?_ | (refine sA rfl rfl ?_; intro _) | refine sT rfl ?_ | refine sF rfl ?_ | (refine sR rfl ?_ ?_; focus omega) | (refine sB rfl rfl ?_; intro _) | (refine sN rfl rfl ?_ ?_; (focus (exact ⟨by omega, by omega⟩)); intro _; (try simp only [List.cons_append, List.nil_append, List.append_nil])) | refine sW rfl rfl ?_ | refine sK rfl rfl ?_ | refine j_if rfl ?_ | refine j_else rfl ?_ | refine pkT rfl rfl rfl rfl ?_ | refine pkF rfl rfl rfl rfl ?_)
        exact jx_loop ⟨_, m + 1, s3⟩ ⟨hlt, e3⟩ (by repeat (first | exact sub_nil | refine sub_cons rfl ?_ | refine sub_cons' rfl (by congr 1; omega) ?_)) (by repeat (first | exact List.Sublist.refl _ | exact List.nil_sublist _ | exact List.sublist_append_left _ _ | refine List.Sublist.append_left ?_ _ | refine List.Sublist.cons_cons _ ?_ | refine List.Sublist.cons _ ?_ | refine List.Sublist.trans ?_ (List.sublist_append_right _ _))) (by show us.length - (m + 1) < us.length - m; omega)
      · have e3 : ys ++ [inn1 u] = atm us (m + 1) := by
          rw [hnx, hs']
          unfold atU
          rw [if_neg hi, hc]
          simp
        repeat (first | refine sX rfl rfl ?_ | (refine sS rfl rfl ?_ ?_; focus omega) | (refine sC rfl rfl ?_ ?_; focus (exact ⟨by omega, by omega⟩)) | refine cX ?_ | refine cY ?_ | (refine sA rfl rfl ?_; intro _) | refine sT rfl ?_ | refine sF rfl ?_ | (refine sR rfl ?_ ?_; focus omega) | (refine sB rfl rfl ?_; intro _) | (refine sN rfl rfl ?_ ?_; (focus (exact ⟨by omega, by omega⟩)); intro _; (try simp only [List.cons_append, List.nil_append, List.append_nil])) | refine sW rfl rfl ?_ | refine sK rfl rfl ?_ | refine j_if rfl ?_ | refine j_else rfl ?_ | refine pkT rfl rfl rfl rfl ?_ | refine pkF rfl rfl rfl rfl ?_)
        exact jx_loop ⟨_, m + 1, s2⟩ ⟨hlt, e3⟩ (by repeat (first | exact sub_nil | refine sub_cons rfl ?_ | refine sub_cons' rfl (by congr 1; omega) ?_)) (by repeat (first | exact List.Sublist.refl _ | exact List.nil_sublist _ | exact List.sublist_append_left _ _ | refine List.Sublist.append_left ?_ _ | refine List.Sublist.cons_cons _ ?_ | refine List.Sublist.cons _ ?_ | refine List.Sublist.trans ?_ (List.sublist_append_right _ _))) (by show us.length - (m + 1) < us.length - m; omega)
  · have hge : m = us.length := by have := of_decide_eq_false h; omega
    subst hge
    subst hxs
    repeat (first | refine sX rfl rfl ?_ | (refine sS rfl rfl ?_ ?_; focus omega) | (refine sC rfl rfl ?_ ?_; focus (first | exact trivial | assumption | constructor <;> assumption | exact mb2 rfl rfl | exact mb4 rfl rfl rfl rfl)) | refine cX ?_ | refine cY ?_ | (refine sA rfl rfl ?_; intro _) | refine sT rfl ?_ | refine sF rfl ?_ | (refine sR rfl ?_ ?_; focus omega) | (refine sB rfl rfl ?_; intro _) | (refine sN rfl rfl ?_ ?_; (focus (first | exact trivial | assumption | constructor <;> assumption | exact mb2 rfl rfl | exact mb4 rfl rfl rfl rfl)); intro _; (try simp only [List.cons_append, List.nil_append, List.append_nil])) | refine sW rfl rfl ?_ | refine sK rfl rfl ?_ | refine j_if rfl ?_ | refine j_else rfl ?_ | refine pkT rfl rfl rfl rfl ?_ | refine pkF rfl rfl rfl rfl ?_)
    exact jx_ret_tmp rfl rfl (fun w hw => ⟨s, rfl, hw.sub (by repeat (first | exact List.Sublist.refl _ | exact List.nil_sublist _ | exact List.sublist_append_left _ _ | refine List.Sublist.append_left ?_ _ | refine List.Sublist.cons_cons _ ?_ | refine List.Sublist.cons _ ?_ | refine List.Sublist.trans ?_ (List.sublist_append_right _ _)))⟩)
instance sr_atoms (w0 : World) (L : List Blk) (v : Value) (us : List UL) [h : LstC w0 L v UL rU us] : SpecR Tryz.prog w0 L 135 [v] (SlS rU 36 (atm us us.length)) (fun s => vSl s) (fun s => mS 163 s) (us.length ≤ 65536) := ⟨fun hl w hw => atoms_spec v us w (h.out w hw) hl⟩
end Go.Vt
/- Does the last unit hold an instant? Walked. Conditions: those that each statement names. -/
set_option linter.unusedSimpArgs false
set_option linter.unusedVariables false
set_option maxRecDepth 100000
namespace Go.Vt
open Go.RowKit Go.Proofs
/-- The last unit. -/
abbrev lstU (xs : List UL) : UL := gi xs ((xs.length : Int) - 1)
def hld (xs : List UL) (t : R_api_Real) : Bool := decide (0 < xs.length) && (decide ((lstU xs).In.To = t) && !(lstU xs).In.OpenTo)
theorem held_spec (v : Value) (xs : List UL) (t : R_api_Real) (w : World) (hv : ArgS w v rU xs) (hl : xs.length ≤ 1048576) :
    Calls Tryz.prog 137 [v, vR t].toArray w (Ret (.bool (hld xs t)) w) := by
  refine fn_intro Tryz.func137 rfl Tryz.ntmps137 rfl ?_
  obtain ⟨p, cp, rfl⟩ := hv.form
  repeat (first | refine sX rfl rfl ?_ | (refine sS rfl rfl ?_ ?_; focus omega) | (refine sC rfl rfl ?_ ?_; focus (first | exact trivial | assumption | constructor <;> assumption | exact mb2 rfl rfl | exact mb4 rfl rfl rfl rfl)) | refine cX ?_ | refine cY ?_ | (refine sA rfl rfl ?_; intro _) | refine sT rfl ?_ | refine sF rfl ?_ | (refine sR rfl ?_ ?_; focus omega) | (refine sB rfl rfl ?_; intro _) | (refine sN rfl rfl ?_ ?_; (focus (first | exact trivial | assumption | constructor <;> assumption | exact mb2 rfl rfl | exact mb4 rfl rfl rfl rfl)); intro _; (try simp only [List.cons_append, List.nil_append, List.append_nil])) | refine sW rfl rfl ?_ | refine sK rfl rfl ?_ | refine j_if rfl ?_ | refine j_else rfl ?_ | refine pkT rfl rfl rfl rfl ?_ | refine pkF rfl rfl rfl rfl ?_)
  by_cases h0 : 0 < xs.length
  · have hne : xs ≠ [] := fun h => by rw [h] at h0; simp at h0
    obtain ⟨bw, ow, cw, hvw, hcw, hrow⟩ := hv.blk (k := 35) hne []
    injection hvw with e1 e2 e3
    subst e1
    subst e3
    have hrow' : ∀ L, RowC w L bw ow UL rU xs := fun L => ⟨fun w' hw' => hrow.out w' (hw'.sub (List.nil_sublist _))⟩
    (refine j_late [0, 1, 2, 3, 4, 5, 6, 7, 8, 9, 10, 11, 12, 13, 14, 15, 16, 17, 18, 19, 20, 21, 22] [23] _ mixed (by kernel_rfl) (by decide) (List.Sublist.refl _) ?_; simp only [picks, List.getElem?_cons_succ, List.getElem?_cons_zero])
    repeat (first | refine tX rfl rfl ?_ | (refine tS rfl rfl ?_ ?_; focus omega) | (refine tC rfl rfl ?_ ?_; focus (first | exact trivial | assumption | constructor <;> assumption | exact mb2 rfl rfl | exact mb4 rfl rfl rfl rfl)) | refine tW rfl rfl ?_ | refine tK rfl rfl ?_ | refine Go.Vt.hq (wl_pickT rfl rfl) rfl rfl ?_ | refine Go.Vt.hq (wl_pickF rfl rfl) rfl rfl ?_)
    simp only [decide_eq_true (show (0 : Int) < (xs.length : Int) by omega)]
    repeat (first | refine tX rfl rfl ?_ | (refine tS rfl rfl ?_ ?_; focus omega) | (refine tC rfl rfl ?_ ?_; focus (first | exact trivial | assumption | constructor <;> assumption | exact mb2 rfl rfl | exact mb4 rfl rfl rfl rfl)) | refine tW rfl rfl ?_ | refine tK rfl rfl ?_ | refine Go.Vt.hq (wl_pickT rfl rfl) rfl rfl ?_ | refine Go.Vt.hq (wl_pickF rfl rfl) rfl rfl ?_)
    rcases h1 : decide ((lstU xs).In.To = t) with _ | _
    · repeat (first | refine eS rfl rfl ?_ | refine uP rfl rfl rfl rfl ?_ | refine uQ rfl rfl rfl rfl ?_ | refine eX rfl rfl ?_ | (refine uS rfl rfl ?_ ?_; focus omega) | (refine uC rfl rfl ?_ ?_; focus (first | exact trivial | assumption | constructor <;> assumption | exact mb2 rfl rfl | exact mb4 rfl rfl rfl rfl)) | refine uW rfl rfl ?_ | refine eF rfl ?_ | refine eT rfl ?_ | (refine eA rfl rfl ?_; intro _) | (refine eB rfl rfl ?_; intro _) | (refine eN rfl rfl ?_ ?_; (focus (first | exact trivial | assumption | constructor <;> assumption | exact mb2 rfl rfl | exact mb4 rfl rfl rfl rfl)); intro _; (try simp only [List.cons_append, List.nil_append, List.append_nil])) | refine je_nil ?_ | refine tX rfl rfl ?_ | (refine tS rfl rfl ?_ ?_; focus omega) | (refine tC rfl rfl ?_ ?_; focus (first | exact trivial | assumption | constructor <;> assumption | exact mb2 rfl rfl | exact mb4 rfl rfl rfl rfl)) | refine tW rfl rfl ?_ | refine tK rfl rfl ?_ | refine Go.Vt.hq (wl_pickT rfl rfl) rfl rfl ?_ | refine Go.Vt.hq (wl_pickF rfl rfl) rfl rfl ?_ | refine jh_nil ?_)
      repeat (first | refine sX rfl rfl ?_ | (refine sS rfl rfl ?_ ?_; focus omega) | (refine sC rfl rfl ?_ ?_; focus (first | exact trivial | assumption | constructor <;> assumption | exact mb2 rfl rfl | exact mb4 rfl rfl rfl rfl)) | refine cX ?_ | refine cY ?_ | (refine sA rfl rfl ?_; intro _) | refine sT rfl ?_ | refine sF rfl ?_ | (refine sR rfl ?_ ?_; focus omega) | (refine sB rfl rfl ?_; intro _) | (refine sN rfl rfl ?_ ?_; (focus (first | exact trivial | assumption | constructor <;> assumption | exact mb2 rfl rfl | exact mb4 rfl rfl rfl rfl)); intro _; (try simp only [List.cons_append, List.nil_append, List.append_nil])) | refine sW rfl rfl ?_ | refine sK rfl rfl ?_ | refine j_if rfl ?_ | refine j_else rfl ?_ | refine pkT rfl rfl rfl rfl ?_ | refine pkF rfl rfl rfl rfl ?_)
      unfold hld
      rw [h1, decide_eq_true h0]
      exact jx_ret_tmp rfl rfl (fun w hw => ret_ok hw)
    · repeat (first | refine eS rfl rfl ?_ | refine uP rfl rfl rfl rfl ?_ | refine uQ rfl rfl rfl rfl ?_ | refine eX rfl rfl ?_ | (refine uS rfl rfl ?_ ?_; focus omega) | (refine uC rfl rfl ?_ ?_; focus (first | exact trivial | assumption | constructor <;> assumption | exact mb2 rfl rfl | exact mb4 rfl rfl rfl rfl)) | refine uW rfl rfl ?_ | refine eF rfl ?_ | refine eT rfl ?_ | (refine eA rfl rfl ?_; intro _) | (refine eB rfl rfl ?_; intro _) | (refine eN rfl rfl ?_ ?_; (focus (first | exact trivial | assumption | constructor <;> assumption | exact mb2 rfl rfl | exact mb4 rfl rfl rfl rfl)); intro _; (try simp only [List.cons_append, List.nil_append, List.append_nil])) | refine je_nil ?_ | refine tX rfl rfl ?_ | (refine tS rfl rfl ?_ ?_; focus omega) | (refine tC rfl rfl ?_ ?_; focus (first | exact trivial | assumption | constructor <;> assumption | exact mb2 rfl rfl | exact mb4 rfl rfl rfl rfl)) | refine tW rfl rfl ?_ | refine tK rfl rfl ?_ | refine Go.Vt.hq (wl_pickT rfl rfl) rfl rfl ?_ | refine Go.Vt.hq (wl_pickF rfl rfl) rfl rfl ?_ | refine jh_nil ?_)
      repeat (first | refine sX rfl rfl ?_ | (refine sS rfl rfl ?_ ?_; focus omega) | (refine sC rfl rfl ?_ ?_; focus (first | exact trivial | assumption | constructor <;> assumption | exact mb2 rfl rfl | exact mb4 rfl rfl rfl rfl)) | refine cX ?_ | refine cY ?_ | (refine sA rfl rfl ?_; intro _) | refine sT rfl ?_ | refine sF rfl ?_ | (refine sR rfl ?_ ?_; focus omega) | (refine sB rfl rfl ?_; intro _) | (refine sN rfl rfl ?_ ?_; (focus (first | exact trivial | assumption | constructor <;> assumption | exact mb2 rfl rfl | exact mb4 rfl rfl rfl rfl)); intro _; (try simp only [List.cons_append, List.nil_append, List.append_nil])) | refine sW rfl rfl ?_ | refine sK rfl rfl ?_ | refine j_if rfl ?_ | refine j_else rfl ?_ | refine pkT rfl rfl rfl rfl ?_ | refine pkF rfl rfl rfl rfl ?_)
      unfold hld
      rw [h1, decide_eq_true h0]
      exact jx_ret_tmp rfl rfl (fun w hw => ret_ok hw)
  · (refine j_late [0, 1, 2, 3, 4, 5, 6, 7, 8, 9, 10, 11, 12, 13, 14, 15, 16, 17, 18, 19, 20, 21, 22] [23] _ mixed (by kernel_rfl) (by decide) (List.Sublist.refl _) ?_; simp only [picks, List.getElem?_cons_succ, List.getElem?_cons_zero])
    repeat (first | refine tX rfl rfl ?_ | (refine tS rfl rfl ?_ ?_; focus omega) | (refine tC rfl rfl ?_ ?_; focus (first | exact trivial | assumption | constructor <;> assumption | exact mb2 rfl rfl | exact mb4 rfl rfl rfl rfl)) | refine tW rfl rfl ?_ | refine tK rfl rfl ?_ | refine Go.Vt.hq (wl_pickT rfl rfl) rfl rfl ?_ | refine Go.Vt.hq (wl_pickF rfl rfl) rfl rfl ?_)
    simp only [decide_eq_false (show ¬ (0 : Int) < (xs.length : Int) by omega)]
    repeat (first | refine tX rfl rfl ?_ | (refine tS rfl rfl ?_ ?_; focus omega) | (refine tC rfl rfl ?_ ?_; focus (first | exact trivial | assumption | constructor <;> assumption | exact mb2 rfl rfl | exact mb4 rfl rfl rfl rfl)) | refine tW rfl rfl ?_ | refine tK rfl rfl ?_ | refine Go.Vt.hq (wl_pickT rfl rfl) rfl rfl ?_ | refine Go.Vt.hq (wl_pickF rfl rfl) rfl rfl ?_)
    repeat (first | refine eS rfl rfl ?_ | refine uP rfl rfl rfl rfl ?_ | refine uQ rfl rfl rfl rfl ?_ | refine eX rfl rfl ?_ | (refine uS rfl rfl ?_ ?_; focus omega) | (refine uC rfl rfl ?_ ?_; focus (first | exact trivial | assumption | constructor <;> assumption | exact mb2 rfl rfl | exact mb4 rfl rfl rfl rfl)) | refine uW rfl rfl ?_ | refine eF rfl ?_ | refine eT rfl ?_ | (refine eA rfl rfl ?_; intro _) | (refine eB rfl rfl ?_; intro _) | (refine eN rfl rfl ?_ ?_; (focus (first | exact trivial | assumption | constructor <;> assumption | exact mb2 rfl rfl | exact mb4 rfl rfl rfl rfl)); intro _; (try simp only [List.cons_append, List.nil_append, List.append_nil])) | refine je_nil ?_ | refine tX rfl rfl ?_ | (refine tS rfl rfl ?_ ?_; focus omega) | (refine tC rfl rfl ?_ ?_; focus (first | exact trivial | assumption | constructor <;> assumption | exact mb2 rfl rfl | exact mb4 rfl rfl rfl rfl)) | refine tW rfl rfl ?_ | refine tK rfl rfl ?_ | refine Go.Vt.hq (wl_pickT rfl rfl) rfl rfl ?_ | refine Go.Vt.hq (wl_pickF rfl rfl) rfl rfl ?_ | refine jh_nil ?_)
    repeat (first | refine sX rfl rfl ?_ | (refine sS rfl rfl ?_ ?_; focus omega) | (refine sC rfl rfl ?_ ?_; focus (first | exact trivial | assumption | constructor <;> assumption | exact mb2 rfl rfl | exact mb4 rfl rfl rfl rfl)) | refine cX ?_ | refine cY ?_ | (refine sA rfl rfl ?_; intro _) | refine sT rfl ?_ | refine sF rfl ?_ | (refine sR rfl ?_ ?_; focus omega) | (refine sB rfl rfl ?_; intro _) | (refine sN rfl rfl ?_ ?_; (focus (first | exact trivial | assumption | constructor <;> assumption | exact mb2 rfl rfl | exact mb4 rfl rfl rfl rfl)); intro _; (try simp only [List.cons_append, List.nil_append, List.append_nil])) | refine sW rfl rfl ?_ | refine sK rfl rfl ?_ | refine j_if rfl ?_ | refine j_else rfl ?_ | refine pkT rfl rfl rfl rfl ?_ | refine pkF rfl rfl rfl rfl ?_)
    unfold hld
    rw [decide_eq_false h0]
    exact jx_ret_tmp rfl rfl (fun w hw => ret_ok hw)
instance sm_held (w0 : World) (L : List Blk) (v : Value) (xs : List UL) (t : R_api_Real) [h : LstC w0 L v UL rU xs] : SpecM Tryz.prog w0 L 137 [v, vR t] (.bool (hld xs t)) (xs.length ≤ 1048576) := ⟨fun hl w hw => held_spec v xs t w (h.out w hw) hl⟩
abbrev vLines : Value := .iface 152 (.agg #[])
instance meth_Same : MethC Tryz.prog 152 (.agg #[]) "Same" 179 (.agg #[]) := ⟨fun w => by kernel_rfl⟩
instance meth_Equal : MethC Tryz.prog 152 (.agg #[]) "Equal" 258 (.agg #[]) := ⟨fun w => by kernel_rfl⟩
instance meth_Reduce : MethC Tryz.prog 152 (.agg #[]) "Reduce" 259 (.agg #[]) := ⟨fun w => by kernel_rfl⟩
instance nah_Same : NahC Tryz.prog 152 (.agg #[]) "Same" := ⟨fun w => by kernel_rfl⟩
instance nah_Equal : NahC Tryz.prog 152 (.agg #[]) "Equal" := ⟨fun w => by kernel_rfl⟩
instance nif_Lines : NifC Tryz.prog 152 := ⟨fun v w => by kernel_rfl⟩
instance ptr_Unit : PtrC Tryz.prog 193 := ⟨by kernel_rfl⟩
end Go.Vt
