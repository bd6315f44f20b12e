/- that objects are reconstructed from their reports (part 20 of 29.) Conditions: those that each statement names. -/
import Derived.Test.YtjicdlilgjdefaaGreatDoorKJ1
import Derived.Test.YtjicdlilgjdefaaGreatDoorKJ4
import Derived.Test.YtjicdlilgjdefaaGreatDoorKJ10
import Derived.Test.YtjicdlilgjdefaaGreatDoorKJ11
import Derived.Test.YtjicdlilgjdefaaGreatDoorKJ19
set_option linter.unusedSimpArgs false
set_option linter.unusedVariables false
set_option maxHeartbeats 2000000
set_option linter.unusedSectionVars false
set_option maxRecDepth 100000
namespace Go.Vt
open Go.RowKit
open Go.ChangeMaps (setBlock)
section
variable {κ α : Type} [DecidableEq κ]
def slotL (ev : α → Value) (l : List (κ × α)) (x : κ) : Nat := match fnd ev l x 0 with
 | none => l.length
 | some q => q.1
def entM (l : List (κ × α)) (x : κ) (z : α) : List (κ × α) := match mget l x with
 | none => l ++ [(x, z)]
 | some _ => l
variable {P : Program} {ek : κ → Value} {ev : α → Value} {K T V : TypeId} {w : World} {b : Nat} {l : List (κ × α)}
theorem Zgb (l : List (κ × α)) (p : κ × α) : (entL ek ev 0 l).toArray.push { key := ek p.1, val := ev p.2, born := l.length } = (entL ek ev 0 (l ++ [p])).toArray := by
 rw [Zfi, Nat.zero_add]
 simp
theorem ZqW (hT : P.underlying T = some (.map K V)) [hk : KeyC P K ek] {z0 : α} (hz : ∀ w, (zeroValue V).run P w = .ok (ev z0) w) (hb : w.heap[b]? = some (mapO ek ev l)) (x : κ) :
  (Instr.mapEntry T (.map (some b)) (ek x)).run P w = .ok (.tuple #[ev ((mget l x).getD z0), .int .i64 (slotL ev l x : Nat)]) (setBlock w b (mapO ek ev (entM l x z0))) := by
 have hg : (getObj b).run P w = .ok (.map (entL ek ev 0 l).toArray l.length) w := by simp [getObj, Sem.run, hb, mapO]
 have hs : ∀ o, (setObj b o).run P w = .ok () (setBlock w b o) := fun o => by simp [setObj, Sem.run, hb, setBlock, mapO]
 unfold Instr.mapEntry
 simp only [Sem.run_bind, run_underlying hT, Result.andThen, hg, hk.chk, hk.find]
 unfold slotL entM
 cases hf : fnd ev l x 0 with
 | none =>
  obtain ⟨h1, h2⟩ := Zdx hf
  simp only [h1, hz, Sem.run_bind, Result.andThen, hs, Option.getD_none, Sem.run_pure]
  rw [show (entL ek ev 0 l).toArray.push { key := ek x, val := ev z0, born := l.length } = (entL ek ev 0 (l ++ [(x, z0)])).toArray from Zgb l (x, z0)]
  simp [mapO, goInt]
 | some q =>
  obtain ⟨j, u⟩ := q
  obtain ⟨k, hk', h1, h2, h3, h4, h5⟩ := ZdK hf
  have hj : j = k := by omega
  subst hj
  have hkey : (((entL ek ev 0 l).toArray[j]?).map (·.key)).getD (ek x) = ek x := by
   rw [List.getElem?_toArray, Za2 l 0 j hk']
   simp [h2]
  have hst : (Instr.keyThatStays (ek x) (ek x)).run P w = .ok (ek x) w := by
   unfold Instr.keyThatStays
   rw [if_pos (hk.same x)]
   rfl
  have hmod : (entL ek ev 0 l).toArray.modify j (fun e => { e with key := ek x }) = (entL ek ev 0 l).toArray := by
   apply Array.ext_getElem?
   intro i
   rw [Array.getElem?_modify]
   by_cases hij : j = i
   ·subst hij
    rw [List.getElem?_toArray, Za2 l 0 j hk']
    simp [h2]
   ·simp [hij]
  simp only [Sem.run_bind, hkey, hst, Result.andThen, hs, hmod, h3, h4, Option.getD_some, Sem.run_pure, goInt]
  rw [List.getElem?_toArray, Za2 l 0 j hk']
  simp [mapO]
theorem Zkk (l : List (κ × α)) {j : Nat} (hj : j < l.length) : (entL ek ev 0 l).toArray.findIdx? (fun e => ((e.born : Nat) : Int) == ((j : Nat) : Int)) = some j := by
 rw [List.findIdx?_toArray, List.findIdx?_eq_some_iff_getElem]
 have hg : ∀ i (h : i < l.length), (entL ek ev 0 l)[i]'(by rw [Zbn]; exact h) = { key := ek l[i].1, val := ev l[i].2, born := i } := fun i h => by
  have := Za2 (ek := ek) (ev := ev) l 0 i h
  rw [List.getElem?_eq_getElem (by rw [Zbn]; exact h), Nat.zero_add] at this
  exact Option.some.inj this
 refine ⟨by rw [Zbn]; exact hj, by rw [hg j hj]; simp, fun i hi => ?_⟩
 rw [hg i (by omega)]
 simp
 omega
theorem modL (l : List (κ × α)) {j : Nat} (hj : j < l.length) (v : α) : (entL ek ev 0 l).toArray.modify j (fun e => { e with val := ev v }) = (entL ek ev 0 (l.set j (l[j].1, v))).toArray := by
 apply Array.ext_getElem?
 intro i
 rw [Array.getElem?_modify, List.getElem?_toArray, List.getElem?_toArray]
 rcases Nat.lt_or_ge i l.length with hi | hi
 ·rw [Za2 l 0 i hi, Za2 (l.set j (l[j].1, v)) 0 i (by simpa using hi)]
  by_cases hij : j = i
  ·subst hij
   simp
  ·simp [hij, List.getElem_set_ne hij]
 ·rw [List.getElem?_eq_none (by rw [Zbn]; exact hi), List.getElem?_eq_none (by rw [Zbn, List.length_set]; exact hi)]
  simp
theorem ZsP {x : κ} {z0 : α} (hb : w.heap[b]? = some (mapO ek ev (entM l x z0))) (v : α) : (Instr.entryStore T (.map (some b)) (.int .i64 (slotL ev l x : Nat)) (ev v)).run P w = .ok () (setBlock w b (mapO ek ev (mput l x v))) := by
 have key : slotL ev l x < (entM l x z0).length ∧ ∀ h : slotL ev l x < (entM l x z0).length, (entM l x z0).set (slotL ev l x) ((entM l x z0)[slotL ev l x].1, v) = mput l x v := by
  unfold slotL entM
  cases hf : fnd ev l x 0 with
  | none =>
   obtain ⟨h1, h2⟩ := Zdx hf
   simp only [h1, h2 v]
   refine ⟨by simp, fun h => ?_⟩
   rw [List.set_append_right _ _ (Wl _)]
   simp
  | some q =>
   obtain ⟨j, u⟩ := q
   obtain ⟨k, hk', h1, h2, h3, h4, h5⟩ := ZdK hf
   have hj : j = k := by omega
   subst hj
   simp only [h3, h5 v]
   exact ⟨hk', fun h => by rw [h2]⟩
 obtain ⟨k1, k2⟩ := key
 have hg : (getObj b).run P w = .ok (.map (entL ek ev 0 (entM l x z0)).toArray (entM l x z0).length) w := by simp [getObj, Sem.run, hb, mapO]
 have hs : ∀ o, (setObj b o).run P w = .ok () (setBlock w b o) := fun o => by simp [setObj, Sem.run, hb, setBlock, mapO]
 have ha : (asInt (.int .i64 (slotL ev l x : Nat))).run P w = .ok ((slotL ev l x : Nat) : Int) w := rfl
 unfold Instr.entryStore
 simp only [Sem.run_bind, Result.andThen, hg, ha, Zkk _ k1, hs, modL _ k1, k2 k1]
 simp only [mapO]
 rw [← k2 k1, List.length_set]
end
section
variable {P : Program} {w0 : World} {n : Nat} {ops : Array Oper} {L L' : List Blk} {E : Env}
variable {Q : Exit → Act → World → Prop} {rest : List Oper}
variable {ty : TypeId} {pos : String} {aft : Array Edge} {gd : Option (Nat × Bool)} {t : Tmp}
variable {x y k : Operand} {T T0 K V : TypeId} {b : Nat}
variable {κ α : Type} [DecidableEq κ] {ek : κ → Value} {ev : α → Value} {l : List (κ × α)}
variable {Kk : Env → List Blk → Prop} {Lw : List Blk} {kv yv : Value} {k0 : κ} {v0 z0 : α}
theorem sMi [hx : IsC (evl E x) (.map (some b))] [hk : IsC (evl E k) kv] [hy : IsC (evl E y) yv] [hm : MemO b L (mapO ek ev l) T0] [hT : UndC P T (.map K V)] [hK : KeyC P K ek] [hkv : KeyV ek kv k0] [hyv : KeyV ev yv v0] [hu : UpdO b (mapO ek ev (mput l k0 v0)) L (mapO ek ev l) T0 L'] (hg : guardB ops E gd = some true)
  (h : JO P w0 n ops Q rest E L') : JO P w0 n ops Q (⟨none, .insert T x k y, ty, pos, aft, gd⟩ :: rest) E L :=
 Zcs (L' := Unit) (o := ⟨none, .insert T x k y, ty, pos, aft, gd⟩) hg rfl (fun _ => undef) (fun _ => L') (fun a w ha hw => by
  have e1 := ha.ev (isE (h := hx))
  have e2 := ha.ev (isE (h := hk))
  have e3 := ha.ev (isE (h := hy))
  have hb := (hw.mem _ hm.out).2
  refine ⟨(), _, .inr ⟨?_, rfl⟩, hw.turnO hu.out (Zb4 hb (mapO ek ev (mput l k0 v0)))⟩
  simp only [execOp, e1, e2, e3, hkv.out, hyv.out, Sem.run_bind, Zgo hT.out hb, Result.andThen, Sem.run_pure]) (fun _ => h)
theorem eMu [hx : IsC (evl E x) (.map (some b))] [hk : IsC (evl E k) kv] [hy : IsC (evl E y) yv] [hm : MemO b L (mapO ek ev l) T0] [hT : UndC P T (.map K V)] [hK : KeyC P K ek] [hkv : KeyV ek kv k0] [hyv : KeyV ev yv v0] [hu : UpdO b (mapO ek ev (mput l k0 v0)) L (mapO ek ev l) T0 L'] [hw' : SblC Lw L'] (hg : guardB ops E gd = some true)
  (h : JE P w0 n ops Lw Kk rest E L') : JE P w0 n ops Lw Kk (⟨none, .mapUpdate T x k y, ty, pos, aft, gd⟩ :: rest) E L :=
 Zck (S := Unit) (o := ⟨none, .mapUpdate T x k y, ty, pos, aft, gd⟩) hg rfl (fun _ => undef) (fun _ => L') (fun a w ha hw => by
  have e1 := ha.ev (isE (h := hx))
  have e2 := ha.ev (isE (h := hk))
  have e3 := ha.ev (isE (h := hy))
  have hb := (hw.mem _ hm.out).2
  refine ⟨(), _, .inr ⟨?_, rfl⟩, hw.turnO hu.out (Zb4 hb (mapO ek ev (mput l k0 v0)))⟩
  simp only [execOp, e1, e2, e3, hkv.out, hyv.out, Sem.run_bind, Zgo hT.out hb, Result.andThen, Sem.run_pure]) (fun _ => Zap hw'.out) (fun _ => h)
theorem eMe [hx : IsC (evl E x) (.map (some b))] [hk : IsC (evl E k) kv] [hm : MemO b L (mapO ek ev l) T0] [hT : UndC P T (.map K V)] [hK : KeyC P K ek] [hkv : KeyV ek kv k0] [hz : ZeV P V ev z0] [hu : UpdO b (mapO ek ev (entM l k0 z0)) L (mapO ek ev l) T0 L'] [hw' : SblC Lw L'] (hg : guardB ops E gd = some true) (hd : Nat.blt t n = true)
  (h : JE P w0 n ops Lw Kk rest ((t, .tuple #[ev ((mget l k0).getD z0), .int .i64 (slotL ev l k0 : Nat)]) :: E) L') : JE P w0 n ops Lw Kk (⟨some t, .mapEntry T x k, ty, pos, aft, gd⟩ :: rest) E L :=
 Zck (S := Unit) (o := ⟨some t, .mapEntry T x k, ty, pos, aft, gd⟩) hg hd (fun _ => .tuple #[ev ((mget l k0).getD z0), .int .i64 (slotL ev l k0 : Nat)]) (fun _ => L') (fun a w ha hw => by
  have e1 := ha.ev (isE (h := hx))
  have e2 := ha.ev (isE (h := hk))
  have hb := (hw.mem _ hm.out).2
  refine ⟨(), _, .inl ?_, hw.turnO hu.out (Zb4 hb (mapO ek ev (entM l k0 z0)))⟩
  simp only [execOp, e1, e2, hkv.out, Sem.run_bind, ZqW hT.out hz.out hb, Result.andThen, Sem.run_pure]) (fun _ => Zap hw'.out) (fun _ => h)
theorem eEs [hx : IsC (evl E x) (.map (some b))] [hs : IsC (evl E k) (.int .i64 (slotL ev l k0 : Nat))] [hy : IsC (evl E y) yv] [hm : MemO b L (mapO ek ev (entM l k0 z0)) T0] [hyv : KeyV ev yv v0] [hu : UpdO b (mapO ek ev (mput l k0 v0)) L (mapO ek ev (entM l k0 z0)) T0 L'] [hw' : SblC Lw L'] (hg : guardB ops E gd = some true)
  (h : JE P w0 n ops Lw Kk rest E L') : JE P w0 n ops Lw Kk (⟨none, .entryStore T x k y, ty, pos, aft, gd⟩ :: rest) E L :=
 Zck (S := Unit) (o := ⟨none, .entryStore T x k y, ty, pos, aft, gd⟩) hg rfl (fun _ => undef) (fun _ => L') (fun a w ha hw => by
  have e1 := ha.ev (isE (h := hx))
  have e2 := ha.ev (isE (h := hs))
  have e3 := ha.ev (isE (h := hy))
  have hb := (hw.mem _ hm.out).2
  refine ⟨(), _, .inr ⟨?_, rfl⟩, hw.turnO hu.out (Zb4 hb (mapO ek ev (mput l k0 v0)))⟩
  simp only [execOp, e1, e2, e3, hyv.out, Sem.run_bind, ZsP hb, Result.andThen, Sem.run_pure]) (fun _ => Zap hw'.out) (fun _ => h)
end
end Go.Vt
namespace Go.Vt
structure Ed where
 u : Int
 v : Int
 w : Int
 i : Nat
deriving DecidableEq
abbrev Sm := Int → Option Int
def upd {α : Type} (s : Int → α) (x : Int) (a : α) : Int → α := fun y => if y = x then a else s y
theorem ZaI {α : Type} (s : Int → α) (x : Int) (a : α) : upd s x a x = a := if_pos rfl
theorem ZaG {α : Type} {s : Int → α} {x y : Int} {a : α} (h : y ≠ x) : upd s x a y = s y := if_neg h
def hit (s : Sm) (e : Ed) : Option Int := match s e.u with
 | none => none
 | some a => match s e.v with
  | none => some (a + e.w)
  | some b => if a + e.w < b then some (a + e.w) else none
inductive Rch (E : List Ed) (S : Int → Prop) : Int → Int → Prop
 | src {t : Int} : S t → Rch E S t 0
 | stp {e : Ed} {a : Int} : Rch E S e.u a → e ∈ E → Rch E S e.v (a + e.w)
def Dst (E : List Ed) (S : Int → Prop) (v m : Int) : Prop := Rch E S v m ∧ ∀ b, Rch E S v b → m ≤ b
theorem Dst.uniq {E : List Ed} {S : Int → Prop} {v m n : Int} (h : Dst E S v m) (k : Dst E S v n) : m = n := by
 have h1 := h.2 n k.1
 have h2 := k.2 m h.1
 omega
theorem ZtT {P : Int → Prop} {L : Int} (h : ∃ b, P b) (hL : ∀ b, P b → L ≤ b) : ∃ m, P m ∧ ∀ b, P b → m ≤ b := by
 have key : ∀ n : Nat, ∀ b, P b → b ≤ L + n → ∃ m, P m ∧ ∀ b, P b → m ≤ b := by
  intro n
  induction n with
  | zero =>
   intro b hb h1
   refine ⟨b, hb, fun c hc => ?_⟩
   have := hL c hc
   have h2 : b ≤ L := by simpa using h1
   omega
  | succ n ih =>
   intro b hb h1
   rcases Classical.em (∃ c, P c ∧ c < b) with ⟨c, c1, c2⟩ | h2
   ·exact ih c c1 (by omega)
   ·refine ⟨b, hb, fun c hc => ?_⟩
    rcases Int.lt_or_le c b with h3 | h3
    ·exact (h2 ⟨c, hc, h3⟩).elim
    ·exact h3
 obtain ⟨b, hb⟩ := h
 exact key (b - L).toNat b hb (by have := hL b hb; omega)
def PotE (E : List Ed) (p : Int → Int) : Prop := ∀ e ∈ E, p e.v ≤ p e.u + e.w
theorem ZlV {E : List Ed} {S : Int → Prop} {p : Int → Int} (hp : PotE E p) {L : Int} (hL : ∀ t, S t → p t ≤ L) {v b : Int} (h : Rch E S v b) : p v - L ≤ b := by
 induction h with
 | src h => have := hL _ h; omega
 | stp h1 h2 ih => have := hp _ h2; omega
theorem Zuv {E : List Ed} {S : Int → Prop} {p : Int → Int} (hp : PotE E p) {L : Int} (hL : ∀ t, S t → p t ≤ L) {v b : Int} (h : Rch E S v b) : ∃ m, Dst E S v m :=
 ZtT ⟨b, h⟩ fun _ hc => ZlV hp hL hc
structure Sr where
 s : Sm
 by' : Int → Option Ed
 t : Int → Nat
 n : Nat
def Sr.use (q : Sr) (e : Ed) : Sr := match hit q.s e with
 | none => q
 | some a => ⟨upd q.s e.v (some a), upd q.by' e.v (some e), upd q.t e.v (q.n + 1), q.n + 1⟩
def Sr.round (q : Sr) (l : List Ed) : Sr := l.foldl Sr.use q
theorem Zkc (q : Sr) (e : Ed) {v b : Int} (h : q.s v = some b) : ∃ c, (q.use e).s v = some c ∧ c ≤ b := by
 unfold Sr.use
 cases hh : hit q.s e with
 | none => exact ⟨b, h, by omega⟩
 | some a =>
  simp only
  by_cases hv : v = e.v
  ·subst hv
   refine ⟨a, ZaI _ _ _, ?_⟩
   unfold hit at hh
   cases h1 : q.s e.u with
   | none => simp [h1] at hh
   | some c =>
    simp only [h1, h] at hh
    split at hh
    ·simp at hh; omega
    ·simp at hh
  ·exact ⟨b, by rw [ZaG hv]; exact h, by omega⟩
theorem ZgL : ∀ (l : List Ed) (q : Sr) {v b : Int}, q.s v = some b → ∃ c, (q.round l).s v = some c ∧ c ≤ b
 | [], _, _, b, h => ⟨b, h, by omega⟩
 | e :: l, q, v, b, h => by
  obtain ⟨c, h1, h2⟩ := Zkc q e h
  obtain ⟨d, h3, h4⟩ := ZgL l (q.use e) h1
  exact ⟨d, h3, by omega⟩
theorem ZsM {E : List Ed} {S : Int → Prop} {s : Sm} (hI : ∀ v b, s v = some b → Rch E S v b) {e : Ed} (he : e ∈ E) {a : Int} (h : hit s e = some a) : Rch E S e.v a := by
 unfold hit at h
 cases h1 : s e.u with
 | none => simp [h1] at h
 | some c =>
  have h2 := Rch.stp (hI _ _ h1) he
  simp only [h1] at h
  cases h3 : s e.v with
  | none =>
   simp only [h3] at h
   injection h with h
   rw [← h]; exact h2
  | some d =>
   simp only [h3] at h
   split at h
   ·injection h with h
    rw [← h]; exact h2
   ·cases h
structure SrOk (E : List Ed) (S : Int → Prop) (q : Sr) : Prop where
 r : ∀ v b, q.s v = some b → Rch E S v b
 src : ∀ t, S t → ∃ c, q.s t = some c
 le : ∀ v, q.t v ≤ q.n
 by1 : ∀ v e, q.by' v = some e → e ∈ E ∧ e.v = v ∧ ∃ a b, q.s e.u = some a ∧ q.s v = some b ∧ (a + e.w < b ∨ (a + e.w = b ∧ q.t e.u < q.t v))
 by0 : ∀ v b, q.by' v = none → q.s v = some b → S v ∧ b = 0
theorem SrOk.use {E : List Ed} {S : Int → Prop} {q : Sr} (h : SrOk E S q) {e : Ed} (he : e ∈ E) : SrOk E S (q.use e) := by
 unfold Sr.use
 cases hh : hit q.s e with
 | none => exact h
 | some a =>
  simp only
  have hr := ZsM h.r he hh
  obtain ⟨c, hc, hca⟩ : ∃ c, q.s e.u = some c ∧ a = c + e.w := by
   unfold hit at hh
   cases h1 : q.s e.u with
   | none => simp [h1] at hh
   | some c =>
    simp only [h1] at hh
    refine ⟨c, rfl, ?_⟩
    cases h3 : q.s e.v with
    | none => simp only [h3] at hh; injection hh with hh; exact hh.symm
    | some d =>
     simp only [h3] at hh
     split at hh
     ·injection hh with hh; exact hh.symm
     ·cases hh
  have hlt : ∀ b, q.s e.v = some b → a < b := fun b hb => by
   unfold hit at hh
   simp only [hc, hb] at hh
   split at hh
   ·injection hh with hh; omega
   ·cases hh
  refine ⟨fun v b hv => ?_, fun t ht => ?_, fun v => ?_, fun v f hf => ?_, fun v b hb hv => ?_⟩
  ·dsimp only at hv
   by_cases h1 : v = e.v
   ·subst h1
    rw [ZaI] at hv
    injection hv with hv
    rw [← hv]; exact hr
   ·rw [ZaG h1] at hv
    exact h.r v b hv
  ·dsimp only
   by_cases h1 : t = e.v
   ·subst h1; exact ⟨a, ZaI _ _ _⟩
   ·rw [ZaG h1]; exact h.src t ht
  ·dsimp only
   by_cases h1 : v = e.v
   ·subst h1; rw [ZaI]; omega
   ·rw [ZaG h1]; have := h.le v; omega
  ·dsimp only at hf ⊢
   by_cases h1 : v = e.v
   ·subst h1
    rw [ZaI] at hf
    injection hf with hf
    subst hf
    refine ⟨he, rfl, ?_⟩
    by_cases h2 : e.u = e.v
    ·refine ⟨a, a, by rw [h2]; exact ZaI _ _ _, ZaI _ _ _, ?_⟩
     have h3 := hlt c (by rw [← h2]; exact hc)
     exact .inl (by omega)
    ·refine ⟨c, a, by rw [ZaG h2]; exact hc, ZaI _ _ _, .inr ⟨hca.symm, ?_⟩⟩
     rw [ZaG h2, ZaI]
     have := h.le e.u
     omega
   ·rw [ZaG h1] at hf
    obtain ⟨f1, f2, a', b', f3, f4, f5⟩ := h.by1 v f hf
    refine ⟨f1, f2, ?_⟩
    by_cases h2 : f.u = e.v
    ·refine ⟨a, b', by rw [h2]; exact ZaI _ _ _, by rw [ZaG h1]; exact f4, .inl ?_⟩
     have h3 := hlt a' (by rw [← h2]; exact f3)
     rcases f5 with f5 | f5
     ·omega
     ·have := f5.1; omega
    ·refine ⟨a', b', by rw [ZaG h2]; exact f3, by rw [ZaG h1]; exact f4, ?_⟩
     rw [ZaG h2, ZaG h1]
     exact f5
  ·dsimp only at hb hv
   by_cases h1 : v = e.v
   ·subst h1
    rw [ZaI] at hb
    cases hb
   ·rw [ZaG h1] at hb hv
    exact h.by0 v b hb hv
theorem ZaP (q : Sr) (e : Ed) (l : List Ed) : q.round (e :: l) = (q.use e).round l := rfl
theorem SrOk.round {E : List Ed} {S : Int → Prop} : ∀ {l : List Ed} {q : Sr}, SrOk E S q → (∀ e ∈ l, e ∈ E) → SrOk E S (q.round l)
 | [], _, h, _ => h
 | e :: l, q, h, hl => by
  rw [ZaP]
  exact SrOk.round (h.use (hl e (.head _))) fun f hf => hl f (.tail _ hf)
theorem Zbm {q : Sr} {e : Ed} (h : hit q.s e = none) : q.use e = q := by
 unfold Sr.use
 rw [h]
theorem Zf3 {q : Sr} {e : Ed} {a : Int} (h : hit q.s e = some a) : (q.use e).n = q.n + 1 := by
 unfold Sr.use
 rw [h]
theorem Zex : ∀ (l : List Ed) (q : Sr), q.n ≤ (q.round l).n
 | [], _ => Wl _
 | e :: l, q => by
  rw [ZaP]
  have h1 := Zex l (q.use e)
  cases h : hit q.s e with
  | none => rw [Zbm h] at h1 ⊢; exact h1
  | some a => have := Zf3 h; omega
theorem ZgY : ∀ {l : List Ed} {q : Sr}, (q.round l).n = q.n → q.round l = q ∧ ∀ e ∈ l, hit q.s e = none
 | [], _, _ => ⟨rfl, fun _ h => by cases h⟩
 | e :: l, q, h => by
  rw [ZaP] at h ⊢
  cases hh : hit q.s e with
  | none =>
   rw [Zbm hh] at h ⊢
   obtain ⟨h1, h2⟩ := ZgY h
   exact ⟨h1, fun f hf => by
    rcases List.mem_cons.1 hf with rfl | hf
    ·exact hh
    ·exact h2 f hf⟩
  | some a =>
   have h1 := Zex l (q.use e)
   have h2 := Zf3 hh
   omega
theorem Ze3 : ∀ {l : List Ed} {q : Sr}, (∀ e ∈ l, hit q.s e = none) → q.round l = q
 | [], _, _ => rfl
 | e :: l, q, h => by
  rw [ZaP, Zbm (h e (.head _))]
  exact Ze3 fun f hf => h f (.tail _ hf)
def Fin' (E : List Ed) (S : Int → Prop) (s : Sm) (v : Int) : Prop := ∃ m, Dst E S v m ∧ s v = some m
theorem SrOk.fin_use {E : List Ed} {S : Int → Prop} {q : Sr} (h : SrOk E S q) {e : Ed} (he : e ∈ E) {v : Int} (hv : Fin' E S q.s v) : Fin' E S (q.use e).s v := by
 obtain ⟨m, h1, h2⟩ := hv
 obtain ⟨c, h3, h4⟩ := Zkc q e h2
 have h5 := h1.2 c ((h.use he).r v c h3)
 have : c = m := by omega
 subst this
 exact ⟨c, h1, h3⟩
theorem SrOk.fin_round {E : List Ed} {S : Int → Prop} : ∀ {l : List Ed} {q : Sr}, SrOk E S q → (∀ e ∈ l, e ∈ E) → ∀ {v : Int}, Fin' E S q.s v → Fin' E S (q.round l).s v
 | [], _, _, _, _, hv => hv
 | e :: l, q, h, hl, v, hv => by
  rw [ZaP]
  exact SrOk.fin_round (h.use (hl e (.head _))) (fun f hf => hl f (.tail _ hf)) (h.fin_use (hl e (.head _)) hv)
theorem SrOk.edge {E : List Ed} {S : Int → Prop} {q : Sr} (h : SrOk E S q) (hS : ∀ t, S t → ∃ c, q.s t = some c ∧ c ≤ 0) {v b : Int} (hr : Rch E S v b) (hd : ∀ c, Rch E S v c → b ≤ c) (hn : ¬ Fin' E S q.s v) :
  ∃ e ∈ E, ∃ a, Dst E S e.u a ∧ Fin' E S q.s e.u ∧ ¬ Fin' E S q.s e.v ∧ Dst E S e.v (a + e.w) := by
 induction hr with
 | @src t ht =>
  obtain ⟨c, h1, h2⟩ := hS t ht
  have h3 := hd c (h.r t c h1)
  have : c = 0 := by omega
  subst this
  exact (hn ⟨0, ⟨.src ht, hd⟩, h1⟩).elim
 | @stp e a h1 h2 ih =>
  have h3 : ∀ c, Rch E S e.u c → a ≤ c := fun c hc => by
   have := hd _ (.stp hc h2)
   omega
  rcases Classical.em (Fin' E S q.s e.u) with h4 | h4
  ·exact ⟨e, h2, a, ⟨h1, h3⟩, h4, hn, .stp h1 h2, hd⟩
  ·exact ih h3 h4
theorem SrOk.reach {E : List Ed} {S : Int → Prop} : ∀ {l : List Ed} {q : Sr}, SrOk E S q → (∀ e ∈ l, e ∈ E) → ∀ {e : Ed}, e ∈ l → ∀ {a : Int}, Fin' E S q.s e.u → Dst E S e.u a → Dst E S e.v (a + e.w) → Fin' E S (q.round l).s e.v
 | f :: l, q, h, hl, e, he, a, hf, hu, hv => by
  have hfE := hl f (.head _)
  rw [ZaP]
  rcases List.mem_cons.1 he with rfl | he
  ·refine SrOk.fin_round (h.use hfE) (fun g hg => hl g (.tail _ hg)) ?_
   obtain ⟨m, m1, m2⟩ := hf
   have hm := m1.uniq hu
   subst hm
   refine ⟨m + e.w, hv, ?_⟩
   unfold Sr.use
   cases hh : hit q.s e with
   | none =>
    simp only
    unfold hit at hh
    simp only [m2] at hh
    cases h3 : q.s e.v with
    | none => simp [h3] at hh
    | some b =>
     simp only [h3] at hh
     split at hh
     ·cases hh
     ·have h4 := hv.2 b (h.r _ _ h3)
      have : b = m + e.w := by omega
      rw [this]
   | some b =>
    simp only
    rw [ZaI]
    unfold hit at hh
    simp only [m2] at hh
    cases h3 : q.s e.v with
    | none => simp only [h3] at hh; exact hh.symm
    | some c =>
     simp only [h3] at hh
     split at hh
     ·exact hh.symm
     ·cases hh
  ·exact SrOk.reach (h.use hfE) (fun g hg => hl g (.tail _ hg)) he (h.fin_use hfE hf) hu hv
theorem Zjv {α : Type} {p r : α → Bool} : ∀ {V : List α}, (∀ x ∈ V, p x = true → r x = true) → (∃ x ∈ V, p x = false ∧ r x = true) → V.countP p < V.countP r
 | [], _, ⟨x, hx, _⟩ => by cases hx
 | y :: V, h, ⟨x, hx, h1, h2⟩ => by
  have hle : V.countP p ≤ V.countP r := List.countP_mono_left fun z hz hp => h z (.tail _ hz) hp
  rw [List.countP_cons, List.countP_cons]
  rcases List.mem_cons.1 hx with rfl | hx
  ·simp only [h1, h2]
   simp
   omega
  ·have := Zjv (fun z hz => h z (.tail _ hz)) ⟨x, hx, h1, h2⟩
   have h3 := h y (.head _)
   by_cases hp : p y = true
   ·simp only [hp, h3 hp]; omega
   ·by_cases hr : r y = true
    ·simp only [hp, hr]; simp; omega
    ·simp only [hp, hr]; simpa using this
open Classical in
noncomputable def cntFin (E : List Ed) (S : Int → Prop) (V : List Int) (s : Sm) : Nat := V.countP fun v => decide (Fin' E S s v)
def Sr.rounds (q : Sr) (l : List Ed) : Nat → Sr
 | 0 => q
 | k + 1 => (q.rounds l k).round l
theorem SrOk.rounds {E : List Ed} {S : Int → Prop} {q : Sr} (h : SrOk E S q) : ∀ k, SrOk E S (q.rounds E k)
 | 0 => h
 | k + 1 => (h.rounds k).round fun _ he => he
theorem ZcL {E : List Ed} {q : Sr} {t : Int} (h : ∃ c, q.s t = some c ∧ c ≤ 0) : ∀ k, ∃ c, (q.rounds E k).s t = some c ∧ c ≤ 0
 | 0 => h
 | k + 1 => by
  obtain ⟨c, h1, h2⟩ := ZcL (E := E) h k
  obtain ⟨d, h3, h4⟩ := ZgL E _ h1
  exact ⟨d, h3, by omega⟩
open Classical in
theorem SrOk.many {E : List Ed} {S : Int → Prop} {q : Sr} (h : SrOk E S q) (hS : ∀ t, S t → ∃ c, q.s t = some c ∧ c ≤ 0) {p : Int → Int} (hp : PotE E p) {L : Int} (hL : ∀ t, S t → p t ≤ L) {V : List Int} (hV : ∀ v b, Rch E S v b → v ∈ V) :
  ∀ k, (∀ v b, Rch E S v b → Fin' E S (q.rounds E k).s v) ∨ k ≤ cntFin E S V (q.rounds E k).s
 | 0 => .inr (Wm _)
 | k + 1 => by
  rcases Classical.em (∀ v b, Rch E S v b → Fin' E S (q.rounds E (k + 1)).s v) with h0 | h0
  ·exact .inl h0
  ·refine .inr ?_
   have hk := h.rounds k
   have ih : k ≤ cntFin E S V (q.rounds E k).s := by
    rcases h.many hS hp hL hV k with h1 | h1
    ·exact (h0 fun v b hb => hk.fin_round (fun _ he => he) (h1 v b hb)).elim
    ·exact h1
   refine Nat.lt_of_le_of_lt ih (Zjv (fun v _ hv => Wc (hk.fin_round (fun _ he => he) (Wa hv))) ?_)
   have h1 : ∃ v b, Rch E S v b ∧ ¬ Fin' E S (q.rounds E k).s v := by
    rcases Classical.em (∃ v b, Rch E S v b ∧ ¬ Fin' E S (q.rounds E k).s v) with h2 | h2
    ·exact h2
    ·refine (h0 fun v b hb => hk.fin_round (fun _ he => he) ?_).elim
     rcases Classical.em (Fin' E S (q.rounds E k).s v) with h3 | h3
     ·exact h3
     ·exact (h2 ⟨v, b, hb, h3⟩).elim
   obtain ⟨v, b, hb, hn⟩ := h1
   obtain ⟨m, m1, m2⟩ := Zuv hp hL hb
   obtain ⟨e, e1, a, e2, e3, e4, e5⟩ := hk.edge (fun t ht => ZcL (hS t ht) k) m1 m2 hn
   refine ⟨e.v, hV _ _ e5.1, We e4, Wc ?_⟩
   exact hk.reach (fun _ he => he) e1 e3 e2 e5
open Classical in
theorem SrOk.all {E : List Ed} {S : Int → Prop} {q : Sr} (h : SrOk E S q) (hS : ∀ t, S t → ∃ c, q.s t = some c ∧ c ≤ 0) {p : Int → Int} (hp : PotE E p) {L : Int} (hL : ∀ t, S t → p t ≤ L) {V : List Int} (hV : ∀ v b, Rch E S v b → v ∈ V) :
  ∀ v b, Rch E S v b → Fin' E S (q.rounds E V.length).s v := fun v b hb => by
 rcases h.many hS hp hL hV V.length with h1 | h1
 ·exact h1 v b hb
 ·have h2 : cntFin E S V (q.rounds E V.length).s = V.length := Nat.le_antisymm List.countP_le_length h1
  exact Wa (List.countP_eq_length.1 h2 v (hV v b hb))
theorem SrOk.noHit {E : List Ed} {S : Int → Prop} {q : Sr} (h : SrOk E S q) (hf : ∀ v b, Rch E S v b → Fin' E S q.s v) : ∀ e ∈ E, hit q.s e = none := fun e he => by
 unfold hit
 cases h1 : q.s e.u with
 | none => rfl
 | some a =>
  have h2 := h.r _ _ h1
  obtain ⟨m, m1, m2⟩ := hf _ _ (.stp h2 he)
  have h3 := m1.2 _ (.stp h2 he)
  simp only [m2]
  rw [if_neg (by omega)]
theorem SrOk.dst {E : List Ed} {S : Int → Prop} {q : Sr} (h : SrOk E S q) (hS : ∀ t, S t → ∃ c, q.s t = some c ∧ c ≤ 0) (hn : ∀ e ∈ E, hit q.s e = none) {v b : Int} (hb : Rch E S v b) : ∃ m, q.s v = some m ∧ Dst E S v m := by
 have key : ∀ {v b : Int}, Rch E S v b → ∃ m, q.s v = some m ∧ m ≤ b := fun hb => by
  induction hb with
  | src ht => exact hS _ ht
  | @stp e a h1 h2 ih =>
   obtain ⟨m, m1, m2⟩ := ih
   have h3 := hn e h2
   unfold hit at h3
   simp only [m1] at h3
   cases h4 : q.s e.v with
   | none => simp [h4] at h3
   | some c =>
    simp only [h4] at h3
    split at h3
    ·cases h3
    ·exact ⟨c, rfl, by omega⟩
 obtain ⟨m, m1, m2⟩ := key hb
 exact ⟨m, m1, h.r _ _ m1, fun c hc => by
  obtain ⟨n, n1, n2⟩ := key hc
  rw [m1] at n1
  injection n1 with n1
  omega⟩
inductive Bk (q : Sr) (t0 : Int) : Int → List Ed → Prop
 | nil : Bk q t0 t0 []
 | cons {v : Int} {e : Ed} {p : List Ed} : v ≠ t0 → q.by' v = some e → e.v = v → Bk q t0 e.u p → Bk q t0 v (e :: p)
def wSum : List Ed → Int
 | [] => 0
 | e :: p => wSum p + e.w
theorem SrOk.tight {E : List Ed} {t0 : Int} {q : Sr} (h : SrOk E (· = t0) q) (hn : ∀ e ∈ E, hit q.s e = none) {v b : Int} (hb : q.s v = some b) (hv : v ≠ t0) :
  ∃ e a, q.by' v = some e ∧ e ∈ E ∧ e.v = v ∧ q.s e.u = some a ∧ a + e.w = b ∧ q.t e.u < q.t v := by
 cases h1 : q.by' v with
 | none => exact (hv (h.by0 v b h1 hb).1).elim
 | some e =>
  obtain ⟨e1, e2, a, c, e3, e4, e5⟩ := h.by1 v e h1
  rw [hb] at e4
  injection e4 with e4
  subst e4
  have h2 := hn e e1
  unfold hit at h2
  rw [e2] at h2
  simp only [e3, hb] at h2
  split at h2
  ·cases h2
  ·rcases e5 with e5 | e5
   ·omega
   ·exact ⟨e, a, rfl, e1, e2, e3, e5.1, e5.2⟩
theorem SrOk.bk {E : List Ed} {t0 : Int} {q : Sr} (h : SrOk E (· = t0) q) (hn : ∀ e ∈ E, hit q.s e = none) {c : Int} (h0 : q.s t0 = some c) :
  ∀ (k : Nat) (v b : Int), q.t v < k → q.s v = some b → ∃ p, Bk q t0 v p ∧ p.length ≤ q.t v ∧ wSum p + c = b ∧ ∀ e ∈ p, e ∈ E
 | 0, _, _, hk, _ => by omega
 | k + 1, v, b, hk, hb => by
  by_cases hv : v = t0
  ·subst hv
   rw [h0] at hb
   injection hb with hb
   exact ⟨[], .nil, Wm _, by rw [wSum]; omega, fun _ he => by cases he⟩
  ·obtain ⟨e, a, e1, e2, e3, e4, e5, e6⟩ := h.tight hn hb hv
   obtain ⟨p, p1, p2, p3, p4⟩ := SrOk.bk h hn h0 k e.u a (by omega) e4
   refine ⟨e :: p, .cons hv e1 e3 p1, by rw [Wu]; omega, by rw [wSum]; omega, fun f hf => ?_⟩
   rcases List.mem_cons.1 hf with rfl | hf
   ·exact e2
   ·exact p4 f hf
def Agd (q : Sr) (m : Nat) (e : Ed) : Prop := hit q.s e = none ∨ m < q.t e.u
theorem Agd.use {q : Sr} {m : Nat} (hm : m ≤ q.n) {f : Ed} (h : Agd q m f) (e : Ed) : Agd (q.use e) m f := by
 cases hh : hit q.s e with
 | none => rw [Zbm hh]; exact h
 | some a =>
  unfold Sr.use
  rw [hh]
  unfold Agd at *
  simp only
  by_cases h1 : f.u = e.v
  ·rw [h1, ZaI]
   exact .inr (by omega)
  ·rw [ZaG h1]
   rcases h with h | h
   ·refine .inl ?_
    unfold hit at *
    simp only [ZaG h1]
    cases h2 : q.s f.u with
    | none => rfl
    | some c =>
     simp only [h2] at h ⊢
     by_cases h3 : f.v = e.v
     ·rw [h3, ZaI]
      rw [h3] at h
      cases h4 : q.s e.v with
      | none => simp [h4] at h
      | some d =>
       simp only [h4] at h hh
       split at h
       ·cases h
       ·simp only
        cases h5 : q.s e.u with
        | none => simp [h5] at hh
        | some g =>
         simp only [h5] at hh
         split at hh
         ·injection hh with hh
          rw [if_neg (by omega)]
         ·cases hh
     ·rw [ZaG h3]; exact h
   ·exact .inr h
theorem Zp5 {q : Sr} {m : Nat} (hm : m ≤ q.n) (e : Ed) : Agd (q.use e) m e := by
 cases hh : hit q.s e with
 | none => rw [Zbm hh]; exact .inl hh
 | some a =>
  unfold Sr.use
  rw [hh]
  unfold Agd
  simp only
  by_cases h1 : e.u = e.v
  ·rw [h1, ZaI]
   exact .inr (by omega)
  ·refine .inl ?_
   unfold hit at *
   simp only [ZaG h1, ZaI]
   cases h2 : q.s e.u with
   | none => rfl
   | some c =>
    simp only [h2] at hh ⊢
    cases h4 : q.s e.v with
    | none =>
     simp only [h4] at hh
     injection hh with hh
     rw [if_neg (by omega)]
    | some d =>
     simp only [h4] at hh
     split at hh
     ·injection hh with hh
      rw [if_neg (by omega)]
     ·cases hh
theorem Zkf (q : Sr) (e : Ed) : q.n ≤ (q.use e).n := by
 cases hh : hit q.s e with
 | none => rw [Zbm hh]; exact Wl _
 | some a => rw [Zf3 hh]; omega
theorem Agd.round {m : Nat} {f : Ed} : ∀ {l : List Ed} {q : Sr}, m ≤ q.n → Agd q m f → Agd (q.round l) m f
 | [], _, _, h => h
 | e :: l, q, hm, h => by
  rw [ZaP]
  have := Zkf q e
  exact Agd.round (by omega) (h.use hm e)
theorem Ziu {m : Nat} {f : Ed} : ∀ {l : List Ed} {q : Sr}, m ≤ q.n → f ∈ l → Agd (q.round l) m f
 | e :: l, q, hm, hf => by
  rw [ZaP]
  have := Zkf q e
  rcases List.mem_cons.1 hf with rfl | hf
  ·exact Agd.round (by omega) (Zp5 hm f)
  ·exact Ziu (by omega) hf
def Lat (q : Sr) (m k : Nat) : Prop := ∀ v, k < q.t v → ∃ e, q.by' v = some e ∧ m < q.t e.u
theorem Lat.use {q : Sr} {m k : Nat} (hm : m ≤ q.n) (h : Lat q m k) {e : Ed} (he : Agd q m e) : Lat (q.use e) m k := by
 cases hh : hit q.s e with
 | none => rw [Zbm hh]; exact h
 | some a =>
  have ht : m < q.t e.u := by
   rcases he with he | he
   ·rw [hh] at he; cases he
   ·exact he
  unfold Sr.use
  rw [hh]
  intro v hv
  simp only at hv ⊢
  have key : ∀ x, m < q.t x → m < upd q.t e.v (q.n + 1) x := fun x hx => by
   by_cases h1 : x = e.v
   ·rw [h1, ZaI]; omega
   ·rw [ZaG h1]; exact hx
  by_cases h1 : v = e.v
  ·subst h1
   rw [ZaI]
   exact ⟨e, rfl, key _ ht⟩
  ·rw [ZaG h1] at hv ⊢
   obtain ⟨f, f1, f2⟩ := h v hv
   exact ⟨f, f1, key _ f2⟩
theorem Lat.round {m k : Nat} : ∀ {l : List Ed} {q : Sr}, m ≤ q.n → Lat q m k → (∀ e ∈ l, Agd q m e) → Lat (q.round l) m k
 | [], _, _, h, _ => h
 | e :: l, q, hm, h, hl => by
  rw [ZaP]
  have := Zkf q e
  exact Lat.round (by omega) (h.use hm (hl e (.head _))) fun f hf => (hl f (.tail _ hf)).use hm e
def HasBy (E : List Ed) (q : Sr) : Prop := ∀ v, 0 < q.t v → ∃ e ∈ E, q.by' v = some e ∧ e.v = v
theorem HasBy.use {E : List Ed} {q : Sr} (h : HasBy E q) {e : Ed} (he : e ∈ E) : HasBy E (q.use e) := by
 cases hh : hit q.s e with
 | none => rw [Zbm hh]; exact h
 | some a =>
  unfold Sr.use
  rw [hh]
  intro v hv
  simp only at hv ⊢
  by_cases h1 : v = e.v
  ·subst h1
   exact ⟨e, he, ZaI _ _ _, rfl⟩
  ·rw [ZaG h1] at hv ⊢
   exact h v hv
theorem HasBy.round {E : List Ed} : ∀ {l : List Ed} {q : Sr}, HasBy E q → (∀ e ∈ l, e ∈ E) → HasBy E (q.round l)
 | [], _, h, _ => h
 | e :: l, q, h, hl => by
  rw [ZaP]
  exact HasBy.round (h.use (hl e (.head _))) fun f hf => hl f (.tail _ hf)
theorem HasBy.rounds {E : List Ed} {q : Sr} (h : HasBy E q) : ∀ k, HasBy E (q.rounds E k)
 | 0 => h
 | k + 1 => (h.rounds k).round fun _ he => he
theorem ZgE (q : Sr) (E : List Ed) {i : Nat} : ∀ {j : Nat}, i ≤ j → (q.rounds E i).n ≤ (q.rounds E j).n
 | 0, h => by
  have : i = 0 := by omega
  subst this
  exact Wl _
 | j + 1, h => by
  rcases Nat.lt_or_ge i (j + 1) with h1 | h1
  ·exact Wi (ZgE q E (show i ≤ j by omega)) (Zex _ _)
  ·have : i = j + 1 := by omega
   subst this
   exact Wl _
theorem Zdj {E : List Ed} {q : Sr} {i : Nat} {e : Ed} (he : e ∈ E) : ∀ {j : Nat}, i < j → Agd (q.rounds E j) (q.rounds E i).n e
 | j + 1, h => by
  have hn := ZgE q E (show i ≤ j by omega)
  rcases Nat.lt_or_ge i j with h1 | h1
  ·exact Agd.round hn (Zdj he h1)
  ·have : i = j := by omega
   subst this
   exact Ziu (Wl _) he
theorem Zg6 {E : List Ed} {S : Int → Prop} {q : Sr} (h : SrOk E S q) {i : Nat} : ∀ {j : Nat}, i < j → Lat (q.rounds E j) (q.rounds E i).n (q.rounds E (i + 1)).n
 | j + 1, hj => by
  have hn := ZgE q E (show i ≤ j by omega)
  rcases Nat.lt_or_ge i j with h1 | h1
  ·exact Lat.round hn (Zg6 h h1) fun e he => Zdj he h1
  ·have : i = j := by omega
   subst this
   intro v hv
   have := (h.rounds (i + 1)).le v
   omega
def back (by' : Int → Option Ed) (v : Int) : Int := match by' v with
 | some e => e.u
 | none => v
def itr {α : Type} (f : α → α) : Nat → α → α
 | 0, x => x
 | n + 1, x => itr f n (f x)
theorem Zig {by' : Int → Option Ed} {v : Int} {e : Ed} (h : by' v = some e) : back by' v = e.u := by
 unfold back
 rw [h]
theorem Zdq {α : Type} (f : α → α) : ∀ (m n : Nat) (x : α), itr f (m + n) x = itr f n (itr f m x)
 | 0, n, x => by rw [Nat.zero_add]; rfl
 | m + 1, n, x => by rw [Nat.succ_add]; exact Zdq f m n (f x)
theorem Zgn {α : Type} (f : α → α) (n : Nat) (x : α) : itr f (n + 1) x = f (itr f n x) := Zdq f n 1 x
theorem pigeon : ∀ (V : List Int) (n : Nat) (f : Nat → Int), V.length < n → (∀ i, i < n → f i ∈ V) → ∃ i j, i < j ∧ j < n ∧ f i = f j
 | [], n, f, h, hf => by
  have := hf 0 (by simp at h; omega)
  cases this
 | x :: V, n, f, h, hf => by
  rcases Classical.em (∃ i j, i < j ∧ j < n ∧ f i = f j) with h0 | h0
  ·exact h0
  ·exfalso
   have inj : ∀ i j, i < n → j < n → f i = f j → i = j := fun i j hi hj e => by
    rcases Nat.lt_trichotomy i j with h1 | h1 | h1
    ·exact (h0 ⟨i, j, h1, hj, e⟩).elim
    ·exact h1
    ·exact (h0 ⟨j, i, h1, hi, e.symm⟩).elim
   rw [Wu] at h
   rcases Classical.em (∃ k, k < n ∧ f k = x) with ⟨k, k1, k2⟩ | h2
   ·obtain ⟨i, j, h3, h4, h5⟩ := pigeon V (n - 1) (fun i => if i < k then f i else f (i + 1)) (by omega) (fun i hi => by
     have key : ∀ m, m < n → m ≠ k → f m ∈ V := fun m hm hk => by
      rcases List.mem_cons.1 (hf m hm) with h6 | h6
      ·exact (hk (inj m k hm k1 (h6.trans k2.symm))).elim
      ·exact h6
     split
     ·exact key i (by omega) (by omega)
     ·exact key (i + 1) (by omega) (by omega))
    split at h5 <;> split at h5
    ·have := inj _ _ (by omega) (by omega) h5; omega
    ·have := inj _ _ (by omega) (by omega) h5; omega
    ·have := inj _ _ (by omega) (by omega) h5; omega
    ·have := inj _ _ (by omega) (by omega) h5; omega
   ·obtain ⟨i, j, h3, h4, h5⟩ := pigeon V n f (by omega) (fun i hi => by
     rcases List.mem_cons.1 (hf i hi) with h6 | h6
     ·exact (h2 ⟨i, hi, h6⟩).elim
     ·exact h6)
    exact h0 ⟨i, j, h3, h4, h5⟩
theorem Zmr {E : List Ed} {S : Int → Prop} {q : Sr} (h : SrOk E S q) (hH : HasBy E q) {V : List Int} (hV : ∀ e ∈ E, e.u ∈ V) {K : Nat} (hK : V.length < K) {e0 : Ed} (he : e0 ∈ E) {a : Int} (hh : hit (q.rounds E K).s e0 = some a) :
  ∃ d, 1 ≤ d ∧ d ≤ K ∧ itr (back (upd (q.rounds E K).by' e0.v (some e0))) d (itr (back (upd (q.rounds E K).by' e0.v (some e0))) K e0.v) = itr (back (upd (q.rounds E K).by' e0.v (some e0))) K e0.v ∧
   ∀ m, ∃ e ∈ E, upd (q.rounds E K).by' e0.v (some e0) (itr (back (upd (q.rounds E K).by' e0.v (some e0))) m e0.v) = some e := by
 have hHK := hH.rounds K
 obtain ⟨B, hB⟩ : ∃ B, B = upd (q.rounds E K).by' e0.v (some e0) := ⟨_, rfl⟩
 rw [← hB]
 have b0 : B e0.v = some e0 := by rw [hB]; exact ZaI _ _ _
 have bn : ∀ v, v ≠ e0.v → B v = (q.rounds E K).by' v := fun v hv => by rw [hB]; exact ZaG hv
 -- late places
 have late : ∀ i, i < K → (q.rounds E (K - 1 - i)).n < (q.rounds E K).t (itr (back B) (i + 1) e0.v) := by
  intro i
  induction i with
  | zero =>
   intro hi
   have h1 : itr (back B) 1 e0.v = e0.u := by
    show back B e0.v = _
    unfold back
    rw [b0]
   rw [h1, show K - 1 - 0 = K - 1 by omega]
   rcases Zdj (q := q) (i := K - 1) (j := K) he (by omega) with h2 | h2
   ·rw [hh] at h2; cases h2
   ·exact h2
  | succ i ih =>
   intro hi
   have ih := ih (by omega)
   rw [Zgn]
   have hs : ∀ v, (q.rounds E (K - 1 - i)).n < (q.rounds E K).t v → (q.rounds E (K - 1 - (i + 1))).n < (q.rounds E K).t (back B v) := fun v hv => by
    by_cases h1 : v = e0.v
    ·have h2 : back B v = e0.u := by unfold back; rw [h1, b0]
     rw [h2]
     rcases Zdj (q := q) (i := K - 1 - (i + 1)) (j := K) he (by omega) with h3 | h3
     ·rw [hh] at h3; cases h3
     ·exact h3
    ·obtain ⟨e, e1, e2⟩ := Zg6 h (i := K - 1 - (i + 1)) (j := K) (by omega) v (by rw [show K - 1 - (i + 1) + 1 = K - 1 - i by omega]; exact hv)
     have h2 : back B v = e.u := by unfold back; rw [bn v h1, e1]
     rw [h2]
     exact e2
   exact hs _ ih
 have some' : ∀ i, i ≤ K → ∃ e ∈ E, B (itr (back B) i e0.v) = some e := fun i hi => by
  cases i with
  | zero => exact ⟨e0, he, b0⟩
  | succ i =>
   by_cases h1 : itr (back B) (i + 1) e0.v = e0.v
   ·rw [h1]; exact ⟨e0, he, b0⟩
   ·obtain ⟨e, e1, e2, -⟩ := hHK (itr (back B) (i + 1) e0.v) (Nat.lt_of_le_of_lt (Wm _) (late i (by omega)))
    exact ⟨e, e1, by rw [bn _ h1]; exact e2⟩
 have inV : ∀ i, i < K → itr (back B) (i + 1) e0.v ∈ V := fun i hi => by
  obtain ⟨e, e1, e2⟩ := some' i (by omega)
  rw [Zgn]
  rw [Zig e2]
  exact hV e e1
 obtain ⟨i, j, h1, h2, h3⟩ := pigeon V K (fun i => itr (back B) (i + 1) e0.v) hK inV
 have per : ∀ m, i + 1 ≤ m → itr (back B) (m + (j - i)) e0.v = itr (back B) m e0.v := fun m hm => by
  rw [show m + (j - i) = j + 1 + (m - (i + 1)) by omega, Zdq, ← h3, ← Zdq, show i + 1 + (m - (i + 1)) = m by omega]
 refine ⟨j - i, by omega, by omega, ?_, ?_⟩
 ·rw [← Zdq]
  exact per K (by omega)
 ·intro m
  induction m using Nat.strongRecOn with
  | ind m ih =>
   rcases Nat.lt_or_ge K m with h4 | h4
   ·have h5 := per (m - (j - i)) (by omega)
    rw [show m - (j - i) + (j - i) = m by omega] at h5
    rw [h5]
    exact ih _ (by omega)
   ·exact some' m h4
end Go.Vt
namespace Go.Vt
theorem ZaB {κ α : Type} [DecidableEq κ] {x : κ} {v : α} {y : κ} : ∀ (m : List (κ × α)), mget (mput m x v) y = if y = x then some v else mget m y
 | [] => by simp [mput, mget]
 | p :: m => by
  rw [mput]
  by_cases h : x = p.1
  ·rw [if_pos h, mget, mget]
   by_cases h2 : y = x
   ·rw [if_pos h2, if_pos h2]
   ·rw [if_neg h2, if_neg h2, if_neg (by rw [← h]; exact h2)]
  ·rw [if_neg h, mget, mget, ZaB m]
   by_cases h2 : y = p.1
   ·rw [if_pos h2, if_pos h2, if_neg (by rw [h2]; exact fun h3 => h h3.symm)]
   ·rw [if_neg h2, if_neg h2]
theorem Zda {κ α : Type} [DecidableEq κ] {x : κ} : ∀ {m : List (κ × α)}, (∃ v, mget m x = some v) ↔ x ∈ m.map (·.1)
 | [] => by simp [mget]
 | p :: m => by
  rw [mget, List.map_cons, Ww]
  by_cases h : x = p.1
  ·rw [if_pos h]
   simp [h]
  ·rw [if_neg h, Zda (m := m)]
   simp [h]
theorem Zd0 {κ α : Type} [DecidableEq κ] {x : κ} {v : α} : ∀ {m : List (κ × α)}, mget m x = none → (mput m x v).length = m.length + 1
 | [], _ => rfl
 | p :: m, h => by
  rw [mget] at h
  split at h
  ·cases h
  ·rename_i h1
   rw [mput, if_neg h1, Wu, Zd0 h, Wu]
theorem ZdC {κ α : Type} [DecidableEq κ] {x : κ} {v u : α} : ∀ {m : List (κ × α)}, mget m x = some u → (mput m x v).length = m.length
 | p :: m, h => by
  rw [mget] at h
  rw [mput]
  split at h
  ·rename_i h1
   rw [if_pos h1]
   rfl
  ·rename_i h1
   rw [if_neg h1, Wu, ZdC h, Wu]
theorem Zhc {κ α : Type} [DecidableEq κ] {x : κ} {v : α} : ∀ {m : List (κ × α)}, (m.map (·.1)).Nodup → ((mput m x v).map (·.1)).Nodup
 | [], _ => by simp [mput]
 | p :: m, h => by
  rw [List.map_cons, List.nodup_cons] at h
  rw [mput]
  split
  ·rename_i h1
   rw [List.map_cons, List.nodup_cons]
   exact ⟨by rw [h1]; exact h.1, h.2⟩
  ·rename_i h1
   rw [List.map_cons, List.nodup_cons]
   refine ⟨fun h2 => ?_, Zhc h.2⟩
   obtain ⟨u, hu⟩ := Zda.2 h2
   rw [ZaB, if_neg (fun h3 => h1 h3.symm)] at hu
   exact h.1 (Zda.1 ⟨u, hu⟩)
inductive Con (l : List Za) (d : Int) : Int → Prop
 | base : Con l d d
 | fwd {x : Za} : x ∈ l → Con l d x.From → Con l d x.To
 | bwd {x : Za} : x ∈ l → Con l d x.To → Con l d x.From
theorem Con.mono {l k : List Za} {d v : Int} (h : ∀ x ∈ l, x ∈ k) (c : Con l d v) : Con k d v := by
 induction c with
 | base => exact .base
 | fwd hx _ ih => exact .fwd (h _ hx) ih
 | bwd hx _ ih => exact .bwd (h _ hx) ih
def hasM (m : List (Int × Bool)) (v : Int) : Bool := (mget m v).getD false
def dmS (m : List (Int × Bool)) (x : Za) : List (Int × Bool) := mput (mput m x.From true) x.To true
structure CompOk (l : List Za) (d : Int) (m : List (Int × Bool)) : Prop where
 nd : (m.map (·.1)).Nodup
 tr : ∀ v b, mget m v = some b → b = true
 b0 : hasM m d = true
 con : ∀ v, hasM m v = true → Con l d v
 few : m.length ≤ 1 + l.countP fun x => hasM m x.From && hasM m x.To
theorem CompOk.get {l : List Za} {d : Int} {m : List (Int × Bool)} (h : CompOk l d m) (v : Int) : (hasM m v = true ∧ mget m v = some true) ∨ (hasM m v = false ∧ mget m v = none) := by
 unfold hasM
 cases hm : mget m v with
 | none => exact .inr ⟨rfl, rfl⟩
 | some b =>
  have := h.tr v b hm
  subst this
  exact .inl ⟨rfl, rfl⟩
theorem Zgz (m : List (Int × Bool)) (x : Za) (v : Int) : hasM (dmS m x) v = (decide (v = x.From) || decide (v = x.To) || hasM m v) := by
 unfold hasM dmS
 rw [ZaB, ZaB]
 by_cases h1 : v = x.To
 ·simp [h1]
 ·by_cases h2 : v = x.From
  ·simp [h2]
  ·simp [h1, h2]
theorem Zgg {α : Type} {p r : α → Bool} : ∀ {V : List α}, (∀ x ∈ V, p x = true → r x = true) → (∃ x ∈ V, p x = false ∧ r x = true) → V.countP p < V.countP r
 | [], _, ⟨x, hx, _⟩ => by cases hx
 | y :: V, h, ⟨x, hx, h1, h2⟩ => by
  have hle : V.countP p ≤ V.countP r := List.countP_mono_left fun z hz hp => h z (.tail _ hz) hp
  rw [List.countP_cons, List.countP_cons]
  rcases List.mem_cons.1 hx with rfl | hx
  ·simp only [h1, h2]
   simp
   omega
  ·have := Zgg (fun z hz => h z (.tail _ hz)) ⟨x, hx, h1, h2⟩
   have h3 := h y (.head _)
   by_cases hp : p y = true
   ·simp only [hp, h3 hp]; omega
   ·by_cases hr : r y = true
    ·simp only [hp, hr]; simp; omega
    ·simp only [hp, hr]; simpa using this
theorem CompOk.grow {l : List Za} {d : Int} {m : List (Int × Bool)} (h : CompOk l d m) {x : Za} (hx : x ∈ l) (hd : hasM m x.From ≠ hasM m x.To) : CompOk l d (dmS m x) ∧ (dmS m x).length = m.length + 1 := by
 have hlen : (dmS m x).length = m.length + 1 := by
  unfold dmS
  rcases h.get x.From with ⟨f1, f2⟩ | ⟨f1, f2⟩
  ·rcases h.get x.To with ⟨t1, t2⟩ | ⟨t1, t2⟩
   ·exact (hd (f1.trans t1.symm)).elim
   ·have hne : x.To ≠ x.From := fun e => by rw [e, f2] at t2; cases t2
    rw [Zd0 (by rw [ZaB, if_neg hne]; exact t2), ZdC f2]
  ·rcases h.get x.To with ⟨t1, t2⟩ | ⟨t1, t2⟩
   ·have hne : x.To ≠ x.From := fun e => by rw [e, f2] at t2; cases t2
    rw [ZdC (u := true) (by rw [ZaB, if_neg hne]; exact t2), Zd0 f2]
   ·exact (hd (f1.trans t1.symm)).elim
 have hold : ∀ v, hasM m v = true → hasM (dmS m x) v = true := fun v hv => by rw [Zgz, hv]; simp
 refine ⟨⟨Zhc (Zhc h.nd), fun v b hv => ?_, hold _ h.b0, fun v hv => ?_, ?_⟩, hlen⟩
 ·unfold dmS at hv
  rw [ZaB, ZaB] at hv
  split at hv
  ·injection hv with hv; exact hv.symm
  ·split at hv
   ·injection hv with hv; exact hv.symm
   ·exact h.tr v b hv
 ·rw [Zgz] at hv
  have c : Con l d x.From ∧ Con l d x.To := by
   rcases h.get x.From with ⟨f1, f2⟩ | ⟨f1, f2⟩
   ·have := h.con _ f1
    exact ⟨this, .fwd hx this⟩
   ·rcases h.get x.To with ⟨t1, t2⟩ | ⟨t1, t2⟩
    ·have := h.con _ t1
     exact ⟨.bwd hx this, this⟩
    ·exact (hd (f1.trans t1.symm)).elim
  rw [Bool.or_eq_true, Bool.or_eq_true] at hv
  rcases hv with (hv | hv) | hv
  ·rw [Wa hv]; exact c.1
  ·rw [Wa hv]; exact c.2
  ·exact h.con v hv
 ·have h1 := Zgg (p := fun y => hasM m y.From && hasM m y.To) (r := fun y => hasM (dmS m x) y.From && hasM (dmS m x) y.To) (V := l) (fun y _ hy => by
   rw [Wq] at hy ⊢
   exact ⟨hold _ hy.1, hold _ hy.2⟩) ⟨x, hx, by
    rcases h.get x.From with ⟨f1, f2⟩ | ⟨f1, f2⟩
    ·rcases h.get x.To with ⟨t1, t2⟩ | ⟨t1, t2⟩
     ·exact (hd (f1.trans t1.symm)).elim
     ·simp [t1]
    ·simp [f1], by simp [Zgz]⟩
  have := h.few
  omega
theorem ZjE (l : List Za) (d : Int) : CompOk l d [(d, true)] := by
 have hg : ∀ v, mget [(d, true)] v = if v = d then some true else none := fun v => rfl
 refine ⟨by simp, fun v b hv => ?_, by unfold hasM; rw [hg, if_pos rfl]; rfl, fun v hv => ?_, by simp⟩
 ·rw [hg] at hv
  split at hv
  ·injection hv with hv; exact hv.symm
  ·cases hv
 ·unfold hasM at hv
  rw [hg] at hv
  by_cases h : v = d
  ·subst h; exact .base
  ·rw [if_neg h] at hv; cases hv
theorem CompOk.all {l : List Za} {d : Int} {m : List (Int × Bool)} (h : CompOk l d m) (hc : ∀ x ∈ l, hasM m x.From = hasM m x.To) {v : Int} : v ∈ m.map (·.1) ↔ Con l d v := by
 have h1 : v ∈ m.map (·.1) ↔ hasM m v = true := by
  rw [← Zda]
  rcases h.get v with ⟨a, b⟩ | ⟨a, b⟩
  ·simp [a, b]
  ·simp [a, b]
 rw [h1]
 clear h1
 refine ⟨h.con v, fun c => ?_⟩
 induction c with
 | base => exact h.b0
 | fwd hx _ ih => rw [← hc _ hx]; exact ih
 | bwd hx _ ih => rw [hc _ hx]; exact ih
end Go.Vt
namespace Go.Vt
open Go.RowKit Go.Proofs
open Go.Proofs.Tryz (prog)
abbrev SqIn (l : List (Int × Bool)) : Type := (ys : { ys : List Int // ys.Perm (pKI l) }) × SlS (eI .i64) 1 ys.1
instance ZA7 (w0 : World) (L : List Blk) (bm b : Nat) (TB : TypeId) (l : List (Int × Bool)) [k1 : AtC w0 L bm #[.map (some b)] TB] [k2 : AtO w0 L b (mIn l)] : SpecR prog w0 L 333 [.slice none 0 0, vKsI bm] (SqIn l) (fun s => vSl s.2) (fun s => mS 3 s.2) (l.length ≤ 1048576) :=
 ⟨fun hl w hw => ZmI bm b TB l w hl (k1.out w hw) (k2.out w hw)⟩
instance ZCn (w0 : World) (L : List Blk) (bm b : Nat) (TB : TypeId) (l : List (Int × Bool)) [k1 : AtC w0 L bm #[.map (some b)] TB] [k2 : AtO w0 L b (mIn l)] : SpecR prog w0 L 305 [vKsI bm] (SqIn l) (fun s => vSl s.2) (fun s => mS 3 s.2) (l.length ≤ 1048576) := ⟨fun hl w hw => by
 have f1 := FoC.mk (k1.out w hw)
 have f2 := FoO.mk (k2.out w hw)
 refine Zg Tryz.func305 rfl Tryz.ntmps305 rfl ?_
 repeat (first | (refine wkM ?_; intros) | (refine wnM ?_ ?_; (focus (exact hl)); intros))
 rename_i s
 exact Zf rfl rfl (fun w hw => ⟨s, rfl, hw.sub suB⟩)⟩
instance Zvy (w0 : World) (L : List Blk) (bm b : Nat) (TB : TypeId) (l : List (Int × Bool)) [k1 : AtC w0 L bm #[.map (some b)] TB] [k2 : AtO w0 L b (mIn l)] : SpecR prog w0 L 264 [vKsI bm] (SlS (eI .i64) 1 (sortI (pKI l))) (fun s => vSl s) (fun s => mS 3 s) (l.length ≤ 12) := ⟨fun hl w hw => by
 have f1 := FoC.mk (k1.out w hw)
 have f2 := FoO.mk (k2.out w hw)
 refine Zg Tryz.func264 rfl Tryz.ntmps264 rfl ?_
 repeat (first | (refine wkM ?_; intros) | (refine wnM ?_ ?_; (focus (exact Wi hl (by decide))); intros))
 rename_i s
 obtain ⟨⟨ys, hp⟩, s⟩ := s
 simp only
 have hlen : ys.length ≤ 12 := by
  have := hp.length_eq
  rw [Ws] at this
  omega
 refine sZ rfl rfl hlen ?_
 intro s'
 repeat (refine wkM ?_; intros)
 obtain ⟨s2, e1, e2⟩ := s'.1.like (ZiO hp).symm
 refine Zf rfl rfl (fun w hw => ⟨s2, ?_, ?_⟩)
 ·show Ending.returned (vSl s) = Ending.returned (vSl s2)
  rw [e1, s'.2]
 ·show Own _ (mS 3 s2) w
  rw [e2]
  exact hw.sub suB⟩
structure ExB (x : Za) : Prop where
 f : 0 ≤ x.From ∧ x.From ≤ 1073741824
 t : 0 ≤ x.To ∧ x.To ≤ 1073741824
 s : 0 ≤ x.Sent ∧ x.Sent ≤ 1073741824
 r : 0 ≤ x.Received ∧ x.Received ≤ 1073741824
 l : 0 ≤ x.Least ∧ x.Least ≤ 1073741824
def wgt (x : Za) : Int := x.Received - x.Sent - x.Least
instance Zzc (x : Za) : SpecC prog 218 [.agg (Ze x)] (.int .i64 (wgt x)) (ExB x) := ⟨fun hp w => by
 have h1 := hp.s
 have h2 := hp.r
 have h3 := hp.l
 refine Zg Tryz.func218 rfl Tryz.ntmps218 rfl ?_
 repeat (refine wkO ?_; intros)
 exact Zf rfl rfl (fun w hw => Zi hw)⟩
def dmL (l : List Za) (i : Nat) : List (Int × Bool) := (l.take i).foldl dmS []
def devL (l : List Za) : List Int := sortI (pKI (dmL l l.length))
theorem Zh4 {κ α : Type} [DecidableEq κ] (m : List (κ × α)) (x : κ) (v : α) : (mput m x v).length ≤ m.length + 1 := by
 induction m with
 | nil => simp [mput]
 | cons p m ih =>
  rw [mput]
  split
  ·simp
  ·simp only [Wu]
   omega
theorem Zgr {l : List Za} {i : Nat} (h : i < l.length) : dmL l (i + 1) = dmS (dmL l i) (gi l (i : Int)) := by
 unfold dmL
 rw [Wn h, List.foldl_append, Zk h]
 rfl
theorem Zhz (l : List Za) : ∀ i, i ≤ l.length → (dmL l i).length ≤ 2 * i
 | 0, _ => by simp [dmL]
 | i + 1, h => by
  have ih := Zhz l i (by omega)
  rw [Zgr (by omega)]
  have h1 := Zh4 (dmL l i) (gi l (i : Int)).From true
  have h2 := Zh4 (mput (dmL l i) (gi l (i : Int)).From true) (gi l (i : Int)).To true
  unfold dmS
  omega
set_option maxHeartbeats 4000000 in
theorem Zi9 (v : Value) (l : List Za) (w : World) (hv : ArgS w v Ze l) (hl : l.length ≤ 6) :
  Calls prog 213 [v].toArray w (RetM (SlS (eI .i64) 1 (devL l)) (fun s => vSl s) (fun s => mS 3 s) w) := by
 obtain ⟨p, cp, rfl⟩ := hv.form
 refine Zg Tryz.func213 rfl Tryz.ntmps213 rfl ?_
 repeat (refine wkM ?_; intros)
 rename_i b
 refine Zq (S := Nat) (fun i => i ≤ l.length) (fun i => [(3, .map (some b)), (7, .slice p l.length cp), (8, .int .i64 l.length), (9, .int .i64 (i : Nat))]) (fun i => [⟨b, .obj (mIn (dmL l i)), 383⟩]) (fun i => l.length - i) 0 (Wm _) sbB slB (fun i hi => ?_)
 repeat (refine wkM ?_; intros)
 refine Zn rfl (fun h => ?_) (fun h => ?_)
 ·have hlt : i < l.length := by have := Wa h; omega
  have hne : l ≠ [] := fun h0 => by rw [h0] at hlt; simp at hlt
  obtain ⟨bw, ow, cw, hvw, hcw, hrow⟩ := hv.blk (k := 4) hne []
  injection hvw with e1 e2 e3
  subst e1
  subst e3
  have hrow' : ∀ L, RowC w L bw ow Za Ze l := fun L => ⟨fun w' hw' => hrow.out w' (hw'.sub (Wk _))⟩
  have hnx := Zgr hlt
  unfold dmS at hnx
  repeat (refine wkM ?_; intros)
  rename_i b5
  (refine Zao (.v [0, 1, 2, 3, 4, 5] (.e1 6 (.e1 7 (.fin)))) ([⟨b5, Ze (gi l (i : Int)), 122⟩]) (h := ?_); refine wkX ?_)
  (repeat (refine wkH ?_))
  repeat (refine wkT ?_; intros)
  refine eMu rfl ?_
  repeat (refine wkT ?_; intros)
  refine eMu rfl ?_
  repeat (refine wkT ?_; intros)
  rw [← hnx]
  repeat (refine wkO ?_; intros)
  exact Zj (i + 1) hlt sbB slB (by omega)
 ·have hge : i = l.length := by have := Wb h; omega
  subst hge
  have hm := Zhz l l.length (Wl _)
  repeat (first | (refine wkM ?_; intros) | (refine wnM ?_ ?_; (focus (first | exact trivial | exact (show (dmL l l.length).length ≤ 12 by omega))); intros))
  rename_i bm s
  exact Zf rfl rfl (fun w hw => ⟨s, rfl, hw.sub suB⟩)
instance Zx5 (w0 : World) (L : List Blk) (v : Value) (l : List Za) [h : LstC w0 L v Za Ze l] : SpecR prog w0 L 213 [v] (SlS (eI .i64) 1 (devL l)) (fun s => vSl s) (fun s => mS 3 s) (l.length ≤ 6) := ⟨fun hp w hw => Zi9 v l w (h.out w hw) hp⟩
structure CompL (l : List Za) (d : Int) (c : List Int) : Prop where
 ord : c.Pairwise leI
 nd : c.Nodup
 mem : ∀ v, v ∈ c ↔ Con l d v
 few : c.length ≤ 1 + l.length
theorem Zq1 {l : List Za} {d : Int} {m : List (Int × Bool)} (h : CompOk l d m) (hc : ∀ x ∈ l, hasM m x.From = hasM m x.To) : CompL l d (sortI (pKI m)) := by
 have hp := ZcH (pKI m)
 refine ⟨Zd6 _, hp.nodup_iff.2 h.nd, fun v => by rw [hp.mem_iff]; exact h.all hc, ?_⟩
 have h1 := h.few
 have h2 := List.countP_le_length (p := fun x : Za => hasM m x.From && hasM m x.To) (l := l)
 rw [Zd1, Ws]
 omega
set_option maxHeartbeats 8000000 in
theorem Zn8 (v : Value) (l : List Za) (d : Int) (w : World) (hv : ArgS w v Ze l) (hl : l.length ≤ 6) :
  Calls prog 266 [v, .int .i64 d].toArray w (RetM ((c : { c : List Int // CompL l d c }) × SlS (eI .i64) 1 c.1) (fun s => vSl s.2) (fun s => mS 3 s.2) w) := by
 obtain ⟨p, cp, rfl⟩ := hv.form
 refine Zg Tryz.func266 rfl Tryz.ntmps266 rfl ?_
 repeat (refine wkM ?_; intros)
 refine sMi rfl ?_
 repeat (refine wkM ?_; intros)
 rename_i b
 refine Zq (S := List (Int × Bool) × Bool) (fun q => CompOk l d q.1 ∧ (q.2 = false → ∀ x ∈ l, hasM q.1 x.From = hasM q.1 x.To)) (fun q => [(0, .slice p l.length cp), (5, .map (some b)), (6, .bool q.2)]) (fun q => [⟨b, .obj (mIn q.1), 383⟩]) (fun q => 2 * (8 - q.1.length) + (if q.2 then 1 else 0)) ([(d, true)], true) ⟨ZjE l d, fun h => by cases h⟩ sbB slB (fun q hq => ?_)
 obtain ⟨m, g⟩ := q
 obtain ⟨hm, hg⟩ := hq
 simp only at hm hg ⊢
 have hfew := hm.few
 have hcp := List.countP_le_length (p := fun x : Za => hasM m x.From && hasM m x.To) (l := l)
 repeat (refine wkM ?_; intros)
 refine Zn rfl (fun h => ?_) (fun h => ?_)
 ·subst h
  repeat (refine wkM ?_; intros)
  refine Zq (S := Nat × List (Int × Bool) × Bool) (fun q => q.1 ≤ l.length ∧ CompOk l d q.2.1 ∧ (q.2.2 = false → q.2.1 = m ∧ ∀ x ∈ l.take q.1, hasM m x.From = hasM m x.To) ∧ (q.2.2 = true → m.length < q.2.1.length)) (fun q => [(0, .slice p l.length cp), (5, .map (some b)), (6, .bool q.2.2), (13, .slice p l.length cp), (14, .int .i64 l.length), (15, .int .i64 (q.1 : Nat))]) (fun q => [⟨b, .obj (mIn q.2.1), 383⟩]) (fun q => l.length - q.1) (0, m, false) ⟨Wm _, hm, fun _ => ⟨rfl, fun x hx => by rw [List.take_zero] at hx; cases hx⟩, fun h => by cases h⟩ sbB slB (fun q hq => ?_)
  obtain ⟨i, k, g⟩ := q
  obtain ⟨hi, hk, h0, h1⟩ := hq
  simp only at hi hk h0 h1 ⊢
  repeat (refine wkM ?_; intros)
  refine Zn rfl (fun h => ?_) (fun h => ?_)
  ·have hlt : i < l.length := by have := Wa h; omega
   have hne : l ≠ [] := fun h0 => by rw [h0] at hlt; simp at hlt
   obtain ⟨bw, ow, cw, hvw, hcw, hrow⟩ := hv.blk (k := 4) hne []
   injection hvw with e1 e2 e3
   subst e1
   subst e3
   have hrow' : ∀ L, RowC w L bw ow Za Ze l := fun L => ⟨fun w' hw' => hrow.out w' (hw'.sub (Wk _))⟩
   have hx : gi l (i : Int) ∈ l := Z0 (by omega)
   have htk : l.take (i + 1) = l.take i ++ [gi l (i : Int)] := by rw [Wn hlt, Zk hlt]
   repeat (refine wkM ?_; intros)
   rename_i b8
   generalize gi l (i : Int) = x at *
   have hh : ∀ v, (mget k v).getD false = hasM k v := fun _ => rfl
   by_cases hd : hasM k x.From = hasM k x.To
   ·simp only [hh, hd, bne_self_eq_false]
    repeat (refine wkO ?_; intros)
    exact Zj (i + 1, k, g) ⟨hlt, hk, fun hg => by
     obtain ⟨rfl, h2⟩ := h0 hg
     refine ⟨rfl, fun y hy => ?_⟩
     rw [htk] at hy
     rcases List.mem_append.1 hy with hy | hy
     ·exact h2 y hy
     ·rw [Wo] at hy
      rw [hy]
      exact hd, h1⟩ sbB slB (by show l.length - (i + 1) < l.length - i; omega)
   ·have hd' : (hasM k x.From != hasM k x.To) = true := by simpa using hd
    obtain ⟨g1, g2⟩ := hk.grow hx hd
    have hgr : m.length < (dmS k x).length := by
     cases g with
     | false =>
      have e := (h0 rfl).1
      rw [e] at g2 ⊢
      omega
     | true => have := h1 rfl; omega
    simp only [hh, hd']
    repeat (refine wkM ?_; intros)
    (refine Zao (.v [0, 1, 2, 3, 4, 5] (.e1 6 (.e1 7 (.e1 8 (.fin))))) ([⟨b8, Ze x, 122⟩]) (h := ?_); refine wkX ?_)
    (repeat (refine wkH ?_))
    repeat (refine wkT ?_; intros)
    refine eMu rfl ?_
    repeat (refine wkT ?_; intros)
    refine eMu rfl ?_
    repeat (refine wkT ?_; intros)
    repeat (refine wkO ?_; intros)
    exact Zj (i + 1, dmS k x, true) ⟨hlt, g1, (fun h => by cases h), fun _ => hgr⟩ sbB slB (by show l.length - (i + 1) < l.length - i; omega)
  ·have hge : i = l.length := by have := Wb h; omega
   subst hge
   rw [List.take_length] at h0
   repeat (refine wkM ?_; intros)
   refine Zj (k, g) ⟨hk, fun hg => by
    obtain ⟨rfl, h2⟩ := h0 hg
    exact h2⟩ sbB slB ?_
   have hf2 := hk.few
   have hc2 := List.countP_le_length (p := fun x : Za => hasM k x.From && hasM k x.To) (l := l)
   show 2 * (8 - k.length) + (if g then 1 else 0) < 2 * (8 - m.length) + (if true then 1 else 0)
   cases g with
   | false => rw [(h0 rfl).1]; simp
   | true => have := h1 rfl; simp; omega
 ·subst h
  have hc := hg rfl
  have hC := Zq1 hm hc
  have hml : m.length ≤ 12 := by omega
  repeat (first | (refine wkM ?_; intros) | (refine wnM ?_ ?_; (focus (first | exact trivial | exact hml)); intros))
  rename_i bm s
  exact Zf rfl rfl (fun w hw => ⟨⟨⟨_, hC⟩, s⟩, rfl, hw.sub suB⟩)
instance ZDZ (w0 : World) (L : List Blk) (v : Value) (l : List Za) (d : Int) [h : LstC w0 L v Za Ze l] : SpecR prog w0 L 266 [v, .int .i64 d] ((c : { c : List Int // CompL l d c }) × SlS (eI .i64) 1 c.1) (fun s => vSl s.2) (fun s => mS 3 s.2) (l.length ≤ 6) := ⟨fun hp w hw => Zn8 v l d w (h.out w hw) hp⟩
end Go.Vt
