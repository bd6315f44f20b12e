/- that objects are reconstructed from their reports (part 13 of 29.) Conditions: those that each statement names. -/
import Derived.RangeFuncBox
import Derived.RangeFuncNested
import Derived.Test.YtjicdlilgjdefaaGreatDoorKJ10
import Derived.Test.YtjicdlilgjdefaaGreatDoorKJ12
set_option linter.unusedSimpArgs false
set_option linter.unusedVariables false
set_option maxHeartbeats 2000000
set_option maxRecDepth 100000
set_option linter.unusedSectionVars false
namespace Go.Vt
open Go.RowKit Go.Proofs
open Go.Proofs.Tryz (prog)
section
instance (priority := 50) atCons (w0 : World) (e : Blk) (L : List Blk) (b : Nat) (cs : Array Value) (T : TypeId) [h : AtC w0 L b cs T] : AtC w0 (e :: L) b cs T := ⟨fun w hw => h.out w (hw.sub (.cons _ (.refl _)))⟩
instance (priority := 50) atOCons (w0 : World) (e : Blk) (L : List Blk) (b : Nat) (o : Obj) [h : AtO w0 L b o] : AtO w0 (e :: L) b o := ⟨fun w hw => h.out w (hw.sub (.cons _ (.refl _)))⟩
instance (priority := 40) ZzO {P : Program} {w0 : World} {n : Nat} {L : List Blk} {E : Env} {x : Operand} {T T0 : TypeId} {v : Value} {b off : Nat} {cs : Array Value} [IsC (evl E x) (.pointer (some ⟨b, off, none⟩))] [h : AtC w0 L b cs T0] [hv : LdC P T cs off v] : YlC P w0 n L E (.load T x) v := ⟨fun _ _ _ _ _ => ZdX isE h.out hv.out⟩
class DelO (b : Nat) (L : List Blk) (o : outParam Obj) (T : outParam TypeId) (L1 : outParam (List Blk)) : Prop where
 out : L.Perm (⟨b, .obj o, T⟩ :: L1)
instance (priority := high) delOHere (b : Nat) (o : Obj) (T : TypeId) (L : List Blk) : DelO b (⟨b, .obj o, T⟩ :: L) o T L := ⟨.refl _⟩
instance (priority := low) delOThere (b : Nat) (e : Blk) (o : Obj) (T : TypeId) (L L1 : List Blk) [h : DelO b L o T L1] : DelO b (e :: L) o T (e :: L1) := ⟨(h.out.cons e).trans (.swap _ _ _)⟩
instance nth10 (a : Value) : NthC #[a] 0 a := ⟨rfl⟩
instance keyRp : KeyC prog 35 (kA Zd) where
 chk e x w := by kernel_rfl
 same := Zfq (fun x => rfl)
 find ev l x w := by
  obtain ⟨fs, hf⟩ : ∃ fs, prog.underlying 35 = some (.struct fs) := ⟨_, Tryz.underlying35⟩
  exact Zef hf (Ze4 fun x y w => (inferInstance : BinC prog .eql 35 (.agg (Zd x)) (.agg (Zd y)) (.bool (decide (x = y)))).run w) ev l x w
instance keyEx : KeyC prog 122 (kA Ze) where
 chk e x w := by kernel_rfl
 same := Zfq (fun x => rfl)
 find ev l x w := by
  obtain ⟨fs, hf⟩ : ∃ fs, prog.underlying 122 = some (.struct fs) := ⟨_, Tryz.underlying122⟩
  exact Zef hf (Ze4 fun x y w => (inferInstance : BinC prog .eql 122 (.agg (Ze x)) (.agg (Ze y)) (.bool (decide (x = y)))).run w) ev l x w
abbrev mRp (l : List (Zb × Bool)) : Obj := mapO (kA Zd) Value.bool l
abbrev mEx (l : List (Za × Bool)) : Obj := mapO (kA Ze) Value.bool l
instance ZFk : MapT prog 177 (kA Zd) Value.bool := ⟨trivial⟩
instance ZEu : MapT prog 178 (kA Ze) Value.bool := ⟨trivial⟩
instance ZFG : UndC prog 177 (.map 35 4) := ⟨by kernel_rfl⟩
instance ZEW : UndC prog 178 (.map 122 4) := ⟨by kernel_rfl⟩
instance ZFM : UndC prog 45 (.pointer 180) := ⟨by kernel_rfl⟩
def vIn (m1 m2 : Nat) : Array Value := #[.map (some m1), .map (some m2)]
instance ZHs (m1 m2 : Nat) : BdC prog 180 [(0, .map (some m1)), (1, .map (some m2))] (.agg (vIn m1 m2)) := ⟨fun w => by kernel_rfl⟩
instance ZG2 (m1 m2 : Nat) : LdC prog 177 (vIn m1 m2) 0 (.map (some m1)) := ⟨Zy⟩
instance ZGv (m1 m2 : Nat) : LdC prog 178 (vIn m1 m2) 1 (.map (some m2)) := ⟨Zy⟩
instance ZF6 : FaO prog 180 0 0 0 := ⟨fun b w => by kernel_rfl⟩
instance ZG6 : FaO prog 180 1 0 1 := ⟨fun b w => by kernel_rfl⟩
theorem ZqN (w : World) : Calls prog 43 ([] : List Value).toArray w (RetM (Nat × Nat × Nat) (fun s => .pointer (some ⟨s.1, 0, none⟩)) (fun s => [⟨s.1, vIn s.2.1 s.2.2, 180⟩, ⟨s.2.2, .obj (mEx []), 178⟩, ⟨s.2.1, .obj (mRp []), 177⟩]) w) := by
 refine Zg Tryz.func43 rfl Tryz.ntmps43 rfl ?_
 repeat (refine wkM ?_; intros)
 rename_i b1 b2 b3
 exact Zf rfl rfl (fun w hw => ⟨(b3, b1, b2), rfl, hw⟩)
instance ZGq (w0 : World) (L : List Blk) : SpecR prog w0 L 43 [] (Nat × Nat × Nat) (fun s => .pointer (some ⟨s.1, 0, none⟩)) (fun s => [⟨s.1, vIn s.2.1 s.2.2, 180⟩, ⟨s.2.2, .obj (mEx []), 178⟩, ⟨s.2.1, .obj (mRp []), 177⟩]) True := ⟨fun _ w _ => ZqN w⟩
def cpy {κ α : Type} [DecidableEq κ] (l : List (κ × α)) (q : List (κ × α)) : List (κ × α) := q.foldl (fun m p => mput m p.1 p.2) l
theorem Zi8 {κ α : Type} [DecidableEq κ] (l q : List (κ × α)) (p : κ × α) : cpy l (q ++ [p]) = mput (cpy l q) p.1 p.2 := by simp [cpy, List.foldl_append]
structure SeenOk (n : Nat) (seen : List Nat) : Prop where
 nd : seen.Nodup
 lt : ∀ i ∈ seen, i < n
theorem SeenOk.snoc {n i : Nat} {seen : List Nat} (h : SeenOk n seen) (hi : i < n) (hs : i ∉ seen) : SeenOk n (seen ++ [i]) :=
 ⟨List.nodup_append.2 ⟨h.nd, by simp, fun a ha b hb => by rw [Wo] at hb; rintro rfl; exact hs (hb ▸ ha)⟩, fun j hj => by
  rcases List.mem_append.1 hj with h1 | h1
  ·exact h.lt j h1
  ·rw [Wo] at h1; omega⟩
theorem ZkP (w0 w : World) (L1 : List Blk) (b1 b2 : Nat) (l1 l2 : List (Zb × Bool)) [h2 : AtO w0 L1 b2 (mRp l2)] (hw : Own w0 (⟨b1, .obj (mRp l1), 177⟩ :: L1) w) :
  Calls prog 148 [.map (some b1), .map (some b2)].toArray w (RetX w0 { q : List (Zb × Bool) // q.Perm l2 } (fun _ => .tuple #[]) (fun q => ⟨b1, .obj (mRp (cpy l1 q.1)), 177⟩ :: L1)) := by
 refine Z2 Tryz.func148 rfl Tryz.ntmps148 rfl hw ?_
 repeat (refine wkM ?_; intros)
 rename_i r
 refine Zq (S := List Nat) (fun s => SeenOk l2.length s) (fun _ => [(0, .map (some b1)), (7, .pointer (some ⟨r, 0, none⟩))]) (fun s => ⟨r, .obj (itO b2 l2.length s), 177⟩ :: ⟨b1, .obj (mRp (cpy l1 (seenL l2 s))), 177⟩ :: L1) (fun s => l2.length - s.length) [] ⟨List.nodup_nil, fun i hi => by cases hi⟩ sbB slB (fun s hs => ?_)
 have hlen := ZaT hs.nd hs.lt
 refine cX ?_
 refine cX ?_
 refine sNx rfl rfl rfl (fun hall => ?h0) (fun i hi hni => ?h1)
 case h0 =>
  repeat (refine wkM ?_; intros)
  exact Zar rfl (fun w hw => ⟨⟨seenL l2 s, Zcg hs.nd hs.lt hall⟩, rfl, hw.sub (.cons _ (.refl _))⟩)
 case h1 =>
  have hs' := hs.snoc hi hni
  have hlen' := ZaT hs'.nd hs'.lt
  rw [Wp, List.length_singleton] at hlen'
  repeat (refine wkM ?_; intros)
  refine Zj (s ++ [i]) hs' sbB ?_ (by simp only [Wp, List.length_singleton]; omega)
  rw [ZbT _ _ _ hi, Zi8, Zk hi]
  exact List.sublist_cons_self _ _
theorem Zkr (w0 w : World) (L1 : List Blk) (b1 b2 : Nat) (l1 l2 : List (Za × Bool)) [h2 : AtO w0 L1 b2 (mEx l2)] (hw : Own w0 (⟨b1, .obj (mEx l1), 178⟩ :: L1) w) :
  Calls prog 149 [.map (some b1), .map (some b2)].toArray w (RetX w0 { q : List (Za × Bool) // q.Perm l2 } (fun _ => .tuple #[]) (fun q => ⟨b1, .obj (mEx (cpy l1 q.1)), 178⟩ :: L1)) := by
 refine Z2 Tryz.func149 rfl Tryz.ntmps149 rfl hw ?_
 repeat (refine wkM ?_; intros)
 rename_i r
 refine Zq (S := List Nat) (fun s => SeenOk l2.length s) (fun _ => [(0, .map (some b1)), (7, .pointer (some ⟨r, 0, none⟩))]) (fun s => ⟨r, .obj (itO b2 l2.length s), 178⟩ :: ⟨b1, .obj (mEx (cpy l1 (seenL l2 s))), 178⟩ :: L1) (fun s => l2.length - s.length) [] ⟨List.nodup_nil, fun i hi => by cases hi⟩ sbB slB (fun s hs => ?_)
 have hlen := ZaT hs.nd hs.lt
 refine cX ?_
 refine cX ?_
 refine sNx rfl rfl rfl (fun hall => ?h0) (fun i hi hni => ?h1)
 case h0 =>
  repeat (refine wkM ?_; intros)
  exact Zar rfl (fun w hw => ⟨⟨seenL l2 s, Zcg hs.nd hs.lt hall⟩, rfl, hw.sub (.cons _ (.refl _))⟩)
 case h1 =>
  have hs' := hs.snoc hi hni
  have hlen' := ZaT hs'.nd hs'.lt
  rw [Wp, List.length_singleton] at hlen'
  repeat (refine wkM ?_; intros)
  refine Zj (s ++ [i]) hs' sbB ?_ (by simp only [Wp, List.length_singleton]; omega)
  rw [ZbT _ _ _ hi, Zi8, Zk hi]
  exact List.sublist_cons_self _ _
instance ZAu (w0 : World) (L L1 : List Blk) (b1 b2 : Nat) (l1 l2 : List (Zb × Bool)) [hd : DelO b1 L (mRp l1) 177 L1] [h2 : AtO w0 L1 b2 (mRp l2)] : SpecX prog w0 L 148 [.map (some b1), .map (some b2)] { q : List (Zb × Bool) // q.Perm l2 } (fun _ => .tuple #[]) (fun q => ⟨b1, .obj (mRp (cpy l1 q.1)), 177⟩ :: L1) True := ⟨fun _ w hw => ZkP w0 w L1 b1 b2 l1 l2 (hw.perm hd.out)⟩
instance Zy9 (w0 : World) (L L1 : List Blk) (b1 b2 : Nat) (l1 l2 : List (Za × Bool)) [hd : DelO b1 L (mEx l1) 178 L1] [h2 : AtO w0 L1 b2 (mEx l2)] : SpecX prog w0 L 149 [.map (some b1), .map (some b2)] { q : List (Za × Bool) // q.Perm l2 } (fun _ => .tuple #[]) (fun q => ⟨b1, .obj (mEx (cpy l1 q.1)), 178⟩ :: L1) True := ⟨fun _ w hw => Zkr w0 w L1 b1 b2 l1 l2 (hw.perm hd.out)⟩
end
section
theorem ZeO {κ α : Type} [DecidableEq κ] : ∀ (l : List (κ × α)) (x : κ) (v : α), (mput l x v).length ≤ l.length + 1
 | [], _, _ => by simp [mput]
 | p :: l, x, v => by
  have := ZeO l x v
  simp only [mput]
  split <;> simp <;> omega
end
end Go.Vt
namespace Go.Vt
open Go.RowKit
section
variable {P : Program} {w0 : World} {n : Nat} {ops : Array Oper} {L : List Blk} {E : Env} {Q : Exit → Act → World → Prop} {rest : List Oper} {r : Option Nat} {N : Nat}
variable {ty : TypeId} {pos : String} {aft : Array Edge} {gd : Option (Nat × Bool)} {t : Tmp} {x y : Operand}
theorem Zdu {o : Oper} {v : Value} {a : Act} {ds : List Deferred} {w : World} (hy : Yl P w0 n L E o v) (ha : Rep n E a) (hw : Own w0 L w) (hg : guardB ops E o.guard = some true) (hn : noDef o = true)
  (h : ∀ w', Ext w w' → wpListIn (Fr r) N P ops Q rest { a.put o.dst v with defers := ds } w') : wpListIn (Fr r) N P ops Q (o :: rest) { a with defers := ds } w := by
 refine wpListIn_step fun K hK => ?_
 rw [if_pos (ZaL (a := a) ha hg)]
 refine ZoX hn (ZcD (a := { a with defers := ds }) (hy.out a w ha hw) fun w' hx => hK _ _ ?_)
 have e : ({ a with defers := ds } : Act).put o.dst v = { a.put o.dst v with defers := ds } := by
  cases o.dst <;> rfl
 rw [e]
 exact h w' hx
theorem ZpA {Q' : Exit → Act → World → Prop} {o : Oper} {a : Act} {K : Act → World → Prop} {res : Result Next} (hQQ : ∀ e a w, e ≠ .normal → Q' e a w → Q e a w) (h : o.upon P a K Q' res) : o.uponIn (Fr r) N P a K Q res := by
 cases res with
 | ok x w' =>
  cases x <;> simp only [Oper.upon] at h <;> simp only [Oper.uponIn]
  case value => exact h
  case skip => exact h
  case defer => exact h
  case enter =>
   refine ⟨(fun hd => by cases hd), callsI (h.mono fun e w'' he => ?_)⟩
   cases e with
   | returned v => exact he
   | panicked ch => exact hQQ _ _ _ (fun h => by cases h) he
   | outgrown => obtain ⟨a0, w0, h0⟩ := he; exact ⟨a0, w0, hQQ _ _ _ (fun h => by cases h) h0⟩
  case row => exact ⟨(fun hd => by cases hd), fun c cs _ => let ⟨v, w', r, s⟩ := h c cs; ⟨v, w', r, stepsIn_wide.2 s⟩⟩
 | halt x w' =>
  cases x <;> simp only [Oper.upon] at h <;> simp only [Oper.uponIn]
  all_goals first | exact h | exact hQQ _ _ _ (fun h => by cases h) h
def MidL (r : Option Nat) (N : Nat) (P : Program) (ops : Array Oper) (Q : Exit → Act → World → Prop) (l2 : List Oper) : Exit → Act → World → Prop := fun e a w => e = .normal ∧ wpListIn (Fr r) N P ops Q l2 a w
theorem Zbg {l2 : List Oper} : ∀ (l1 : List Oper) (a : Act) (w : World), l1.all noDef = true → wpList P ops (MidL r N P ops Q l2) l1 a w → wpListIn (Fr r) N P ops Q (l1 ++ l2) a w
 | [], _, _, _, h => h.2
 | o :: l, a, w, hd, h => by
  simp only [List.all_cons, Wq] at hd
  simp only [wpList] at h
  simp only [Wf, wpListIn]
  split at h
  ·rename_i hw
   rw [if_pos hw]
   rcases h with h | ⟨_, a0, w0, h, _⟩
   ·refine ⟨fun f _ => trivial, ?_⟩
    rw [Oper.semAt_eq _ _ _ (ZdL hd.1)]
    have h2 : o.wpIn (Fr r) N P a w (wpListIn (Fr r) N P ops Q (l ++ l2)) Q := Oper.wpIn_mono (fun a w h => Zbg l a w hd.2 h) ⟨fun f _ => trivial, by
     rw [Oper.semAt_eq _ _ _ (ZdL hd.1)]
     exact ZpA (fun e a w he hq => absurd hq.1 he) h⟩
    have h3 := h2.2
    rw [Oper.semAt_eq _ _ _ (ZdL hd.1)] at h3
    exact h3
   ·cases h
  ·rename_i hw
   rw [if_neg hw]
   exact ⟨fun f _ => trivial, Zbg l _ _ hd.2 h⟩
theorem Zdp {l2 : List Oper} (h : ∀ a w, Rep n E a → Own w0 L w → wpListIn (Fr r) N P ops Q l2 a w) : JX w0 n .normal (MidL r N P ops Q l2) E L := ⟨fun a w ha hw => ⟨rfl, h a w ha hw⟩⟩
theorem Zfa {S T : TypeId} {a : Act} {w : World} {v : Value} {b2 m c2 k size bytes base : Nat} {xs news : List Value} {z : Value} {zc : Array Value} [hT : UndC P S (.slice T)] [hz : ZeroC P T z zc] [hk : SizeC P T size] [hB : BytesC P T bytes] (ha : Rep n E a) (hx : Env.ev E x = some v) (hy : Env.ev E y = some (.slice (some ⟨b2, 0, none⟩) m c2))
  (h6 : zc.size = size) (h7 : 0 < size) (hown : w.ownsRow base T size v k xs) (hn : news.length = m * size) (hc : ∀ j u, news[j]? = some u → w.cell? ((⟨b2, 0, none⟩ : Addr).add j) = some u) (h1 : ∀ u ∈ news, u.oneCell' = true) (hm : k + m ≤ maxLen) (hb : (k + m) * bytes ≤ 140737488355328) (hbs : base ≤ w.heap.size)
  (h : ∀ v' w', w'.ownsRow base T size v' (k + m) (xs ++ news) → w.grownBy w' v.ownBlock → wpListIn (Fr r) N P ops Q rest (a.put (some t) v') w') : wpListIn (Fr r) N P ops Q (⟨some t, .call ⟨.builtin .append, #[x, y], #[S, S]⟩, ty, pos, aft, none⟩ :: rest) a w := by
 obtain ⟨i, hi, h4⟩ := Zbw hk.out
 obtain ⟨i', hi', h5⟩ := Zbw hB.out
 obtain rfl : i' = i := Option.some.inj (hi'.symm.trans hi)
 have hz' : i'.zero = some z := by simpa [hi] using hz.out
 obtain ⟨v', w', hr, h8, h9, _⟩ := run_append_own (P := P) w base S ty T i' z size bytes hT.out hi hz' h4 h5 (by rw [hz.cells]; exact h6) h7 v k xs hown ⟨b2, 0, none⟩ m c2 news hn hc h1 hm hb hbs
 refine wpListIn_step fun K hK => ?_
 rw [if_pos (show Region.wanted _ _ = true from rfl)]
 refine ⟨fun f _ => trivial, ?_⟩
 rw [Oper.semAt_eq _ _ _ (fun c e => by cases e), ZaH ha hx hy hr]
 exact hK _ _ (h v' w' h8 h9)
theorem Zed {T T0 : TypeId} {a : Act} {w : World} {b : Nat} {u u0 : Value} (ha : Rep n E a) (hx : Env.ev E x = some (.pointer (some ⟨b, 0, none⟩))) (hy : Env.ev E y = some u) (hb : w.heap[b]? = some (.cells #[u0] T0 (0, 0))) (hk : (P.info? T).map (·.size) = some 1) (hu : u.cells = #[u]) (h1 : u.oneCell' = true)
  (h : wpListIn (Fr r) N P ops Q rest (a.put none undef) (w.setCell ⟨b, 0, none⟩ u)) : wpListIn (Fr r) N P ops Q (⟨none, .store T x y, ty, pos, aft, none⟩ :: rest) a w := by
 refine wpListIn_step fun K hK => ?_
 rw [if_pos (show Region.wanted _ _ = true from rfl)]
 refine ⟨fun f _ => trivial, ?_⟩
 have hc : w.cell? ⟨b, 0, none⟩ = some u0 := by rw [Zat hb]; rfl
 have hf : w.frozen? ⟨b, 0, none⟩ = false := frozen_of_row _ _ _ _ _ hb
 have hr : (execOp a.eval ⟨none, .store T x y, ty, pos, aft, none⟩).run P w = .ok .skip (w.setCell ⟨b, 0, none⟩ u) := by
  simp [execOp, ha.ev hx, ha.ev hy, Instr.storeAt, Instr.sureAddr, storeVar, ZaD hk, hu, storeCells, Sem.run_bind, ZaE, run_store P w _ u _ h1, hc, hf, Result.andThen]
 rw [Oper.semAt_eq _ _ _ (fun c e => by cases e), hr]
 exact hK _ _ h
end
theorem Zja {α : Type} {enc : α → Array Value} {k base : Nat} {T : TypeId} {W : World} {v : Value} {xs : List α} (hnil : xs = [] → v = .slice none 0 0) (h : W.ownsRow base T k v xs.length (rowL enc xs)) :
  ∃ s : SlS enc k xs, v = vSl s ∧ ((mS T s).map (·.b)).Nodup ∧ ∀ e ∈ mS T s, base ≤ e.b ∧ W.heap[e.b]? = some e.obj := by
 obtain ⟨hl, h⟩ := h
 rcases h with ⟨rfl, h0⟩ | ⟨g, cap, cur, rfl, hb, hg, hn, hm, hs, ht⟩
 ·have : xs = [] := List.length_eq_zero_iff.1 h0
  subst this
  exact ⟨SlS.no, rfl, List.nodup_nil, fun e he => (by cases he)⟩
 ·by_cases h0 : xs = []
  ·subst h0
   cases hnil rfl
  ·refine ⟨SlS.at_ g cap (cur.toList.drop (xs.length * k)) ⟨hn, by rw [List.length_drop, Array.length_toList, hs, Nat.sub_mul]⟩ h0, rfl, by simp [mS, mO, SlS.at_], fun e he => ?_⟩
   have e1 : e = ⟨g, row enc xs (cur.toList.drop (xs.length * k)), T⟩ := by
    simpa [mS, mO, SlS.at_] using he
   subst e1
   refine ⟨hb, ?_⟩
   rw [hg]
   have : cur = row enc xs (cur.toList.drop (xs.length * k)) := by
    unfold row
    apply Array.ext'
    rw [List.toList_toArray, ← ht, List.take_append_drop]
   rw [← this]
theorem ZcT {W W' : World} {B : Nat} {t : TypeId} {v : Value} (h : Boxed W B t v) (hx : Ext W W') : Boxed W' B t v := (hx.block B (Zp h)).trans h
end Go.Vt
namespace Go.Vt
open Go.RowKit Go.Proofs
open Go.Proofs.Tryz (prog)
section
open Go.ChangeMaps (setBlock)
theorem Z7 {w w' : World} (h : Ext w w') : w.grownBy w' none := ⟨h.bel.os, h.bel.tape, h.bel.output, h.bel.size, fun k hk _ => h.bel.block k hk⟩
def KpK (wc A A' : World) : Prop := Below wc.heap.size A A' ∧ ∀ (k : Nat) (o : Obj), A.heap[k]? = some o → o.isWalk = true → A'.heap[k]? = some o
instance ZFN {P : Program} {E : Env} {T : TypeId} {x : Operand} {m : Option Nat} [h : IsC (evl E x) (.map m)] : AlC P E (.box T x) #[.map m] T := ⟨fun hg hd h => ZgO isE hg hd h⟩
instance ZBj (m : Option Nat) : LdC prog 177 #[.map m] 0 (.map m) := ⟨Zy⟩
abbrev pKR (l : List (Zb × Bool)) : List Zb := l.map (·.1)
theorem Zpz {l : List (Zb × Bool)} {s : List Nat} {i : Nat} (h : i < l.length) : seenL (pKR l) (s ++ [i]) = seenL (pKR l) s ++ [(gi l (i : Int)).1] := by
 rw [ZbT _ _ _ (by rw [Ws]; exact h), List.getElem_map, Zk h]
set_option maxHeartbeats 4000000 in
theorem ZjD (wc w0 : World) (Bm b N : Nat) (TB : TypeId) (l : List (Zb × Bool)) (hwc : Below wc.heap.size wc w0) (hB : ∃ fz, wc.heap[Bm]? = some (.cells #[.map (some b)] TB fz)) (hb : wc.heap[b]? = some (mRp l)) :
  SeqStopsK (Fr none) N prog 152 #[.pointer (some ⟨Bm, 0, none⟩)] (fun x : Zb => #[.agg (Zd x)]) (KpK wc) (fun ys => ys.Perm (pKR l)) (fun _ => True) (l.length + 1) w0 := by
 intro lp Jp Jx W hW hJ hJx hY h0
 have hBW : Below wc.heap.size wc W := hwc.trans (hW.mono hwc.size)
 have hB1 : ∃ fz, W.heap[Bm]? = some (.cells #[.map (some b)] TB fz) := by
  obtain ⟨fz, h⟩ := hB
  exact ⟨fz, (hBW.block Bm (Zp h)).trans h⟩
 have hb1 : W.heap[b]? = some (mRp l) := (hBW.block b (Zp hb)).trans hb
 have fB := FoC.mk (w0 := W) hB1
 have fb := FoO.mk hb1
 have hgo := Zft (N := N) (P := prog) (l := [Value.func (.yield lp) #[] #[], Value.pointer (some ⟨Bm, 0, none⟩)]) (w := W) (R := fun e W' => (∃ v, e = Ending.returned v) ∧ ((∃ xs, xs.Perm (pKR l) ∧ Jp xs W') ∨ ∃ pre, True ∧ Jx pre W')) Tryz.func152 rfl Tryz.ntmps152 rfl
 refine hgo ?_
 clear hgo
 refine Zaw ?_
 refine Zcp ?_
 repeat (refine wkM ?_; intros)
 refine Zai ?_
 rename_i r
 refine Za9 ?_
 refine ZhK (S := List Nat) (fun s W1 => SeenOk l.length s ∧ Jp (seenL (pKR l) s) W1 ∧ Below wc.heap.size wc W1 ∧ W1.heap[r]? = some (itO b l.length s) ∧ W.heap.size ≤ r) (fun _ => [(0, .func (.yield lp) #[] #[]), (5, .pointer (some ⟨r, 0, none⟩))]) (fun s => l.length - s.length) [] (fun w hw => ⟨⟨List.nodup_nil, fun i hi => by cases hi⟩, hJ _ W w none h0 (Z7 hw.ext) (fun _ e => by cases e), hBW.trans (hw.ext.bel.mono hBW.size), (hw.mem _ (.head _)).2, (hw.mem _ (.head _)).1⟩) sbB (fun s W1 hI => ?_)
 obtain ⟨hs, hJp, hB0, hr1, hrW⟩ := hI
 have hbb : W1.heap[b]? = some (mRp l) := (hB0.block b (Zp hb)).trans hb
 have hlen := ZaT hs.nd hs.lt
 refine Zaw ?_
 refine ZaX ?_
 refine ZgB rfl rfl (fun w hw => (hw.ext.block _ (Zp hr1)).trans hr1) (fun w hw => (hw.ext.block _ (Zp hbb)).trans hbb) (fun hall => ?h0) (fun w w1 hw hw1 i hi hni => ?h1)
 case h0 =>
  refine Zbr (fun _ _ h => by obtain ⟨⟨v, h⟩, _⟩ := h; cases h) rfl ?_
  repeat (refine wkM ?_; intros)
  refine Zai ?_
  refine Zaw ?_
  refine Zbu rfl (fun h => by cases h) (fun _ => ?_)
  refine Zhw ?_
  refine Zdi ?_
  refine Zdg ?_
  refine Zcq ?_
  exact Zar rfl (fun w hw => ⟨⟨_, rfl⟩, .inl ⟨_, Zcg hs.nd (by rw [Ws]; exact hs.lt) (by rw [Ws]; exact hall), hJ _ W1 w none hJp (Z7 hw.ext) (fun _ e => by cases e)⟩⟩)
 case h1 =>
  have hs' := hs.snoc hi hni
  have hlen' := ZaT hs'.nd hs'.lt
  rw [Wp, List.length_singleton] at hlen'
  have hrw : w.heap[r]? = some (itO b l.length s) := (hw.ext.block _ (Zp hr1)).trans hr1
  have hg := ZeE (r := r) (o := itO b l.length (s ++ [i])) hw1
  have hJ2 := hJ _ w _ (some r) (hJ _ W1 w none hJp (Z7 hw.ext) (fun _ e => by cases e)) hg (fun r' e => by cases e; exact ⟨hrW, _, hrw, ZcX _ _ _⟩)
  have hB2 := (hB0.trans (hw.ext.bel.mono hB0.size)).grown hg (Wi hB0.size hw.ext.size) (fun j e => by cases e; exact Wi hBW.size hrW)
  have hr2 := ZfK (o := itO b l.length (s ++ [i])) hw1 hrw
  generalize setBlock w1 r (itO b l.length (s ++ [i])) = W2 at *
  have hb2 : W2.heap[b]? = some (mRp l) := (hB2.block b (Zp hb)).trans hb
  have f2 := FoO.mk hr2
  have f3 := FoO.mk hb2
  refine Zbr (fun _ _ h => by obtain ⟨⟨v, h⟩, _⟩ := h; cases h) rfl ?_
  repeat (refine wkM ?_; intros)
  refine Zai ?_
  refine Zaw ?_
  refine Zbu rfl (fun _ => ?_) (fun h => by cases h)
  refine Zdt ?_
  refine Zai ?_
  refine Za9 ?_
  refine Zaw ?_
  refine Zcp ?_
  repeat (refine wkM ?_; intros)
  refine Zai ?_
  refine Zaw ?_
  refine ZaX ?_
  refine ⟨fun a2 w2 ha2 hw2 => Zbg [_, _] a2 w2 rfl (JO.out ?_ a2 w2 ha2 hw2)⟩
  repeat (refine wkM ?_; intros)
  refine Zdp (fun a3 w3 ha3 hw3 => (Zfv (l := lp) (args := #[.agg (Zd (gi l (i : Int)).1)]) (R := fun e W' => (e = .returned (.bool true) ∧ Jp (seenL (pKR l) (s ++ [i])) W' ∧ KpK wc W2 W') ∨ (e = .returned (.bool false) ∧ Jx (seenL (pKR l) (s ++ [i])) W')) rfl rfl rfl (fun a w ha => Zfl ha rfl rfl) (fun w hw => ?_) ?_).out a3 w3 ha3 hw3)
  ·obtain ⟨fn, tmps, asg, bd, y1, y2⟩ := hY (seenL (pKR l) s) (gi l (i : Int)).1 w (hJ _ W2 w none hJ2 (Z7 hw.ext) (fun _ e => by cases e)) (by rw [Zd4 _ (by rw [Ws]; exact hs.lt)]; omega)
   refine ⟨fn, tmps, asg, bd, y1, y2.mono fun e W' h => ?_⟩
   rw [Zpz hi]
   rcases h with ⟨e1, e2, e3⟩ | ⟨e1, e2⟩
   ·exact .inl ⟨e1, e2, (hw.ext.bel.mono hB2.size).trans e3.1, fun k o hk hwk => e3.2 k o ((hw.ext.block k (Zp hk)).trans hk) hwk⟩
   ·exact .inr ⟨e1, e2⟩
  ·rintro e W' (⟨rfl, hJ', hk⟩ | ⟨rfl, hx'⟩)
   ·refine ⟨_, rfl, ?_⟩
    refine Zbr (E := (12, .bool true) :: _) (fun _ _ h => by obtain ⟨⟨v, h⟩, _⟩ := h; cases h) rfl ?_
    repeat (refine wkM ?_; intros)
    refine Zai ?_
    refine Zbu rfl (fun h => by cases h) (fun _ => ?_)
    refine Zdt ?_
    refine ZeY ?_
    refine ZgA (s ++ [i]) (fun w hw => ⟨hs', hJ _ W' w none hJ' (Z7 hw.ext) (fun _ e => by cases e), hB2.trans ((hk.1.mono (Wl _)).trans (hw.ext.bel.mono (Wi hB2.size hk.1.size))), ?_, hrW⟩) sbB (by simp only [Wp, List.length_singleton]; omega)
    have h3 := hk.2 r _ hr2 (ZcX _ _ _)
    exact (hw.ext.block _ (Zp h3)).trans h3
   ·refine ⟨_, rfl, ?_⟩
    refine Zbr (E := (12, .bool false) :: _) (fun _ _ h => by obtain ⟨⟨v, h⟩, _⟩ := h; cases h) rfl ?_
    repeat (refine wkM ?_; intros)
    refine Zai ?_
    refine Zbu rfl (fun _ => ?_) (fun h => by cases h)
    refine ZjN ?_
    refine Zbo ?_
    refine ZdS ?_
    refine Zbo ?_
    exact Zds rfl (fun w hw => ⟨⟨_, rfl⟩, .inr ⟨_, trivial, hJx _ W' w none hx' (Z7 hw.ext) (fun _ e => by cases e)⟩⟩)
end
section
open Go.ChangeMaps (setBlock)
instance ZB9 (m : Option Nat) : LdC prog 178 #[.map m] 0 (.map m) := ⟨Zy⟩
abbrev pKE (l : List (Za × Bool)) : List Za := l.map (·.1)
theorem ZpX {l : List (Za × Bool)} {s : List Nat} {i : Nat} (h : i < l.length) : seenL (pKE l) (s ++ [i]) = seenL (pKE l) s ++ [(gi l (i : Int)).1] := by
 rw [ZbT _ _ _ (by rw [Ws]; exact h), List.getElem_map, Zk h]
set_option maxHeartbeats 4000000 in
theorem Zi1 (wc w0 : World) (Bm b N : Nat) (TB : TypeId) (l : List (Za × Bool)) (hwc : Below wc.heap.size wc w0) (hB : ∃ fz, wc.heap[Bm]? = some (.cells #[.map (some b)] TB fz)) (hb : wc.heap[b]? = some (mEx l)) :
  SeqStopsK (Fr none) N prog 259 #[.pointer (some ⟨Bm, 0, none⟩)] (fun x : Za => #[.agg (Ze x)]) (KpK wc) (fun ys => ys.Perm (pKE l)) (fun _ => True) (l.length + 1) w0 := by
 intro lp Jp Jx W hW hJ hJx hY h0
 have hBW : Below wc.heap.size wc W := hwc.trans (hW.mono hwc.size)
 have hB1 : ∃ fz, W.heap[Bm]? = some (.cells #[.map (some b)] TB fz) := by
  obtain ⟨fz, h⟩ := hB
  exact ⟨fz, (hBW.block Bm (Zp h)).trans h⟩
 have hb1 : W.heap[b]? = some (mEx l) := (hBW.block b (Zp hb)).trans hb
 have fB := FoC.mk (w0 := W) hB1
 have fb := FoO.mk hb1
 have hgo := Zft (N := N) (P := prog) (l := [Value.func (.yield lp) #[] #[], Value.pointer (some ⟨Bm, 0, none⟩)]) (w := W) (R := fun e W' => (∃ v, e = Ending.returned v) ∧ ((∃ xs, xs.Perm (pKE l) ∧ Jp xs W') ∨ ∃ pre, True ∧ Jx pre W')) Tryz.func259 rfl Tryz.ntmps259 rfl
 refine hgo ?_
 clear hgo
 refine Zaw ?_
 refine Zcp ?_
 repeat (refine wkM ?_; intros)
 refine Zai ?_
 rename_i r
 refine Za9 ?_
 refine ZhK (S := List Nat) (fun s W1 => SeenOk l.length s ∧ Jp (seenL (pKE l) s) W1 ∧ Below wc.heap.size wc W1 ∧ W1.heap[r]? = some (itO b l.length s) ∧ W.heap.size ≤ r) (fun _ => [(0, .func (.yield lp) #[] #[]), (5, .pointer (some ⟨r, 0, none⟩))]) (fun s => l.length - s.length) [] (fun w hw => ⟨⟨List.nodup_nil, fun i hi => by cases hi⟩, hJ _ W w none h0 (Z7 hw.ext) (fun _ e => by cases e), hBW.trans (hw.ext.bel.mono hBW.size), (hw.mem _ (.head _)).2, (hw.mem _ (.head _)).1⟩) sbB (fun s W1 hI => ?_)
 obtain ⟨hs, hJp, hB0, hr1, hrW⟩ := hI
 have hbb : W1.heap[b]? = some (mEx l) := (hB0.block b (Zp hb)).trans hb
 have hlen := ZaT hs.nd hs.lt
 refine Zaw ?_
 refine ZaX ?_
 refine ZgB rfl rfl (fun w hw => (hw.ext.block _ (Zp hr1)).trans hr1) (fun w hw => (hw.ext.block _ (Zp hbb)).trans hbb) (fun hall => ?h0) (fun w w1 hw hw1 i hi hni => ?h1)
 case h0 =>
  refine Zbr (fun _ _ h => by obtain ⟨⟨v, h⟩, _⟩ := h; cases h) rfl ?_
  repeat (refine wkM ?_; intros)
  refine Zai ?_
  refine Zaw ?_
  refine Zbu rfl (fun h => by cases h) (fun _ => ?_)
  refine Zhw ?_
  refine Zdi ?_
  refine Zdg ?_
  refine Zcq ?_
  exact Zar rfl (fun w hw => ⟨⟨_, rfl⟩, .inl ⟨_, Zcg hs.nd (by rw [Ws]; exact hs.lt) (by rw [Ws]; exact hall), hJ _ W1 w none hJp (Z7 hw.ext) (fun _ e => by cases e)⟩⟩)
 case h1 =>
  have hs' := hs.snoc hi hni
  have hlen' := ZaT hs'.nd hs'.lt
  rw [Wp, List.length_singleton] at hlen'
  have hrw : w.heap[r]? = some (itO b l.length s) := (hw.ext.block _ (Zp hr1)).trans hr1
  have hg := ZeE (r := r) (o := itO b l.length (s ++ [i])) hw1
  have hJ2 := hJ _ w _ (some r) (hJ _ W1 w none hJp (Z7 hw.ext) (fun _ e => by cases e)) hg (fun r' e => by cases e; exact ⟨hrW, _, hrw, ZcX _ _ _⟩)
  have hB2 := (hB0.trans (hw.ext.bel.mono hB0.size)).grown hg (Wi hB0.size hw.ext.size) (fun j e => by cases e; exact Wi hBW.size hrW)
  have hr2 := ZfK (o := itO b l.length (s ++ [i])) hw1 hrw
  generalize setBlock w1 r (itO b l.length (s ++ [i])) = W2 at *
  have hb2 : W2.heap[b]? = some (mEx l) := (hB2.block b (Zp hb)).trans hb
  have f2 := FoO.mk hr2
  have f3 := FoO.mk hb2
  refine Zbr (fun _ _ h => by obtain ⟨⟨v, h⟩, _⟩ := h; cases h) rfl ?_
  repeat (refine wkM ?_; intros)
  refine Zai ?_
  refine Zaw ?_
  refine Zbu rfl (fun _ => ?_) (fun h => by cases h)
  refine Zdt ?_
  refine Zai ?_
  refine Za9 ?_
  refine Zaw ?_
  refine Zcp ?_
  repeat (refine wkM ?_; intros)
  refine Zai ?_
  refine Zaw ?_
  refine ZaX ?_
  refine ⟨fun a2 w2 ha2 hw2 => Zbg [_, _] a2 w2 rfl (JO.out ?_ a2 w2 ha2 hw2)⟩
  repeat (refine wkM ?_; intros)
  refine Zdp (fun a3 w3 ha3 hw3 => (Zfv (l := lp) (args := #[.agg (Ze (gi l (i : Int)).1)]) (R := fun e W' => (e = .returned (.bool true) ∧ Jp (seenL (pKE l) (s ++ [i])) W' ∧ KpK wc W2 W') ∨ (e = .returned (.bool false) ∧ Jx (seenL (pKE l) (s ++ [i])) W')) rfl rfl rfl (fun a w ha => Zfl ha rfl rfl) (fun w hw => ?_) ?_).out a3 w3 ha3 hw3)
  ·obtain ⟨fn, tmps, asg, bd, y1, y2⟩ := hY (seenL (pKE l) s) (gi l (i : Int)).1 w (hJ _ W2 w none hJ2 (Z7 hw.ext) (fun _ e => by cases e)) (by rw [Zd4 _ (by rw [Ws]; exact hs.lt)]; omega)
   refine ⟨fn, tmps, asg, bd, y1, y2.mono fun e W' h => ?_⟩
   rw [ZpX hi]
   rcases h with ⟨e1, e2, e3⟩ | ⟨e1, e2⟩
   ·exact .inl ⟨e1, e2, (hw.ext.bel.mono hB2.size).trans e3.1, fun k o hk hwk => e3.2 k o ((hw.ext.block k (Zp hk)).trans hk) hwk⟩
   ·exact .inr ⟨e1, e2⟩
  ·rintro e W' (⟨rfl, hJ', hk⟩ | ⟨rfl, hx'⟩)
   ·refine ⟨_, rfl, ?_⟩
    refine Zbr (E := (12, .bool true) :: _) (fun _ _ h => by obtain ⟨⟨v, h⟩, _⟩ := h; cases h) rfl ?_
    repeat (refine wkM ?_; intros)
    refine Zai ?_
    refine Zbu rfl (fun h => by cases h) (fun _ => ?_)
    refine Zdt ?_
    refine ZeY ?_
    refine ZgA (s ++ [i]) (fun w hw => ⟨hs', hJ _ W' w none hJ' (Z7 hw.ext) (fun _ e => by cases e), hB2.trans ((hk.1.mono (Wl _)).trans (hw.ext.bel.mono (Wi hB2.size hk.1.size))), ?_, hrW⟩) sbB (by simp only [Wp, List.length_singleton]; omega)
    have h3 := hk.2 r _ hr2 (ZcX _ _ _)
    exact (hw.ext.block _ (Zp h3)).trans h3
   ·refine ⟨_, rfl, ?_⟩
    refine Zbr (E := (12, .bool false) :: _) (fun _ _ h => by obtain ⟨⟨v, h⟩, _⟩ := h; cases h) rfl ?_
    repeat (refine wkM ?_; intros)
    refine Zai ?_
    refine Zbu rfl (fun _ => ?_) (fun h => by cases h)
    refine ZjN ?_
    refine Zbo ?_
    refine ZdS ?_
    refine Zbo ?_
    exact Zds rfl (fun w hw => ⟨⟨_, rfl⟩, .inr ⟨_, trivial, hJx _ W' w none hx' (Z7 hw.ext) (fun _ e => by cases e)⟩⟩)
end
section
def SeqI (w : World) (b2 : Nat) (pre : List Zb) (W : World) : Prop :=
 (∃ v', Boxed W b2 37 v' ∧ W.ownsRow w.heap.size 35 8 v' pre.length (rowL Zd pre) ∧ (pre = [] → v' = .slice none 0 0)) ∧ Below w.heap.size w W
theorem Zkh {w : World} {b2 B : Nat} (hB : w.heap.size ≤ B) : OwnFrom B (SeqI w b2) :=
 OwnFrom.and (Own.from (holdsRow_own w.heap.size b2 37 35 8 (fun pre => pre.length) (fun pre => rowL Zd pre) (fun pre v' => pre = [] → v' = .slice none 0 0)) _) (ownFrom_below (Wl _) hB)
def SeqA (b2 : Nat) (x : Zb) (a' : Act) (W : World) : Prop :=
 ∃ bx, W.heap[bx]? = some (.cells (Zd x) 35 (0, 0)) ∧ Rep 13 [(2, .pointer (some ⟨b2, 0, none⟩)), (5, .pointer (some ⟨bx, 0, none⟩))] a'
theorem Zpy {w W w3 w4 : World} {b2 B : Nat} {v' v2 : Value} {pre : List Zb} {x : Zb} (hw : w.heap.size ≤ W.heap.size) (hBe : Below w.heap.size w W) (h5 : Boxed W b2 37 v') (hrow : W.ownsRow w.heap.size 35 8 v' pre.length (rowL Zd pre))
  (hx : Ext W w3) (hown : w4.ownsRow w.heap.size 35 8 v2 (pre.length + 1) (rowL Zd pre ++ rowL Zd [x])) (hg : w3.grownBy w4 v'.ownBlock) (hb2 : w.heap.size ≤ b2) :
  Boxed w4 b2 37 v' ∧ KeepsFrom B W (w4.setCell ⟨b2, 0, none⟩ v2) ∧ KpK w W (w4.setCell ⟨b2, 0, none⟩ v2) ∧ SeqI w b2 (pre ++ [x]) (w4.setCell ⟨b2, 0, none⟩ v2) := by
 have hrow3 : w3.ownsRow w.heap.size 35 8 v' pre.length (rowL Zd pre) := hrow.kept (Z7 hx) (by cases v' with
  | slice p n c => cases p with
   | none => exact .inl rfl
   | some p => exact .inr (fun h => by cases h)
  | _ => exact .inl rfl)
 have q5 := Boxed.kept (ZcT h5 hx) hg (Boxed.not_row (ZcT h5 hx) (by decide) hrow3)
 have own : ∀ j, v'.ownBlock = some j → w.heap.size ≤ j ∧ ∃ cs T, w3.heap[j]? = some (.cells cs T (0, 0)) := fun j hj => by
  rcases hrow3.2 with ⟨rfl, _⟩ | ⟨g, cap, cur, rfl, hb, hgb, _⟩
  ·cases hj
  ·obtain rfl : g = j := by simpa [Value.ownBlock] using hj
   exact ⟨hb, _, _, hgb⟩
 have keep : ∀ (k : Nat) (o : Obj), W.heap[k]? = some o → o.isCells = false → (w4.setCell ⟨b2, 0, none⟩ v2).heap[k]? = some o := fun k o hk ho => by
  have e3 : w3.heap[k]? = some o := (hx.block k (Zp hk)).trans hk
  have e4 : w4.heap[k]? = some o := (hg.block k (Zp e3) (fun e => by obtain ⟨-, cs, T, hc⟩ := own k e.symm; rw [e3] at hc; cases hc; cases ho)).trans e3
  refine ((grownBy_setCell' w4 b2 v2).block k (Zp e4) (fun e => ?_)).trans e4
  obtain rfl : k = b2 := by simpa using e
  rw [show w4.heap[k]? = _ from q5] at e4
  cases e4
  cases ho
 have hbel := ((hx.bel.mono hw).grown hg (Wi hw hx.size) (fun j e => (own j e).1)).setCell (p := ⟨b2, 0, none⟩) hb2 v2
 refine ⟨q5, ⟨Wi hx.size (Wi hg.size (grownBy_setCell' w4 b2 v2).size), fun k o _ hk ho => keep k o hk ho⟩, ⟨hbel, fun k o hk ho => keep k o hk (Obj.not_cells_of_walk ho)⟩, ⟨⟨v2, Boxed.set v2 q5, ?_, fun h => ?_⟩, hBe.trans hbel⟩⟩
 ·have e := hown.kept (grownBy_setCell' w4 b2 v2) (.inr (Boxed.not_row q5 (by decide) hown).symm)
  rw [Wp, List.length_singleton, Zbi]
  exact e
 ·simp at h
instance ZAP {P : Program} {E : Env} {T : TypeId} {x : Operand} [h : IsC (evl E x) (.slice none 0 0)] : AlC P E (.box T x) #[.slice none 0 0] T := ⟨fun hg hd h => ZgO isE hg hd h⟩
set_option maxHeartbeats 4000000 in
theorem Zmm (Bm b : Nat) (TB : TypeId) (l : List (Zb × Bool)) (w : World) (hl : l.length ≤ 1048576) (hB : ∃ fz, w.heap[Bm]? = some (.cells #[.map (some b)] TB fz)) (hb : w.heap[b]? = some (mRp l)) :
  Calls prog 202 [.slice none 0 0, .func (.func 152) #[] [.pointer (some ⟨Bm, 0, none⟩)].toArray].toArray w (RetM ((ys : { ys : List Zb // ys.Perm (pKR l) }) × SlS Zd 8 ys.1) (fun s => vSl s.2) (fun s => mS 35 s.2) w) := by
 have hgo := Zfh (N := 5) (P := prog) (l := [Value.slice none 0 0, .func (.func 152) #[] [.pointer (some ⟨Bm, 0, none⟩)].toArray]) (w := w) (R := RetM ((ys : { ys : List Zb // ys.Perm (pKR l) }) × SlS Zd 8 ys.1) (fun s => vSl s.2) (fun s => mS 35 s.2) w) Tryz.func202 rfl Tryz.ntmps202 rfl
 refine hgo ?_
 clear hgo
 refine Zaw ?_
 refine Zcp ?_
 repeat (refine wkM ?_; intros)
 refine Zai ?_
 refine Zaw ?_
 refine Zaw ?_
 refine Zcp ?_
 repeat (refine wkM ?_; intros)
 refine Zai ?_
 refine Za9 ?_
 rename_i b2
 refine ⟨fun a w1 ha hw1 => ?_⟩
 have hb2 := hw1.mem _ (.head _)
 have hwd := hw1.ext.size
 refine wpIn_rangeFunc_ownH (F := Fr none) (n := 5) (P := prog) (w0 := w1) (N := l.length + 1) (α := Zb) (encs := fun x => #[.agg (Zd x)]) (S := fun ys => ys.Perm (pKR l)) (Sp := fun _ => True) (Kp := KpK w) rfl (by omega) (gf := 152) (lb := #[.pointer (some ⟨Bm, 0, none⟩)]) (ha.ev (x := .tmp 6) rfl) trivial (fun args w => ZbE (by kernel_rfl) args w)
  (ZjD w w1 Bm b 4 TB l hw1.ext.bel hB hb) (fun h k => ⟨h.1.trans k.1, fun i o ho hw => k.2 i o (h.2 i o ho hw) hw⟩) (fun W lo o o' hl h hc hk => ⟨belowK_b (w := w1) hwd W lo o o' hl h hc hk, fun k o2 h2 hw2 => (World.putObj_heap_other (fun e => by rw [e, h] at h2; cases h2; rw [hk] at hw2; cases hw2)).trans h2⟩) (Below.refl _ _) (fun _ => rfl)
  (SeqI w b2) (fun _ _ _ => False) (Zkh hwd) (fun _ _ _ _ _ hs _ _ => hs) ⟨⟨_, hb2.2, World.ownsRow_nil _ _ _ _, fun _ => rfl⟩, hw1.ext.bel⟩
  (SeqA b2) (fun x a' s X Y row ⟨bx, hc, hr⟩ hg hrow => ⟨bx, (hg.block bx (Zp hc) (fun e => by obtain ⟨-, o, ho, hn⟩ := hrow bx e.symm; rw [hc] at ho; cases ho; cases hn)).trans hc, hr⟩) ?assign ?body ?done ?stop
 case stop =>
  rintro D c pre W _ _ h _
  exact h.elim
 case assign =>
  intro lo pre x W K hi hK
  have hact : ∀ a0 : Act, a0.defers = [] → ({ tmps := ((#[7] : Array Tmp).zip #[Value.agg (Zd x)]).foldl (fun t (p, v) => t.setIfInBounds p v) a0.tmps, defers := [] } : Act) = a0.put (some 7) (.agg (Zd x)) := fun a0 h => by
   cases a0
   simp only at h
   subst h
   simp [Act.put]
  rw [hact a ha.defers]
  have hrep := ha.put (some 7) (.agg (Zd x)) rfl
  refine JI.out (r := some lo) (N := 3) (P := prog) (w0 := W) (n := 13) (E := [(7, .agg (Zd x)), (2, .pointer (some ⟨b2, 0, none⟩))]) (L := []) ?_ _ W (hrep.sub sbB) (Own.start W)
  refine ZaX ?_
  refine Zbr (fun _ _ h => h) rfl ?_
  repeat (refine wkM ?_; intros)
  rename_i bx
  refine ⟨fun a' W' ha' hw' => hK a' W' ⟨hw'.ext.size, fun k o _ hk _ => (hw'.ext.block k (Zp hk)).trans hk⟩ ⟨hw'.ext.bel.mono hi.2.size, fun k o ho _ => (hw'.ext.block _ (Zp ho)).trans ho⟩ (Zkh (Wl _) _ W W' none hi (Z7 hw'.ext) (fun r e => by cases e)) ⟨bx, (hw'.mem _ (.head _)).2, ha'.sub sbB⟩⟩
 case body =>
  rintro lo pre x a' W hlw hr hi ⟨bx, hbx, hra⟩ hlt
  obtain ⟨⟨v', hv', hrow, hnil⟩, hBe⟩ := hi
  obtain ⟨o, m, c, hvs⟩ : ∃ o m c, v' = .slice o m c := by
   rcases hrow.2 with ⟨h, _⟩ | ⟨g, cap, _, h, _⟩
   ·exact ⟨_, _, _, h⟩
   ·exact ⟨_, _, _, h⟩
  have f2 := FoC.mk ⟨(0, 0), hv'⟩
  have fx := FoC.mk ⟨(0, 0), hbx⟩
  rw [hvs] at f2
  refine JI.out (r := some lo) (N := 3) (P := prog) (w0 := W) (n := 13) (E := [(2, .pointer (some ⟨b2, 0, none⟩)), (5, .pointer (some ⟨bx, 0, none⟩))]) (L := []) ?_ _ W hra (Own.start W)
  refine Za9 ?_
  refine ZaX ?_
  refine ⟨fun a2 w2 ha2 hw2 => ?_⟩
  refine Zbg [_, _, _] a2 w2 rfl (JO.out (w0 := W) (n := 13) (L := []) ?_ a2 w2 ha2 hw2)
  repeat (refine wkM ?_; intros)
  refine Zdp (fun a3 w3 ha3 hw3 => ?_)
  have hbn := (hw3.mem _ (.head _)).2
  refine Zfa (size := 8) (k := pre.length) (m := 1) (base := w.heap.size) (v := v') (xs := rowL Zd pre) (news := rowL Zd [x]) ha3 (by rw [hvs]; rfl) rfl rfl (by decide) (hrow.kept (Z7 hw3.ext) (by rw [hvs]; cases o with | none => exact .inl rfl | some p => exact .inr (fun h => by cases h))) (Z9 (k := 8) [x]) (fun j u hu => by rw [ZaE, Zat hbn, Nat.zero_add]; simpa [row] using hu) (Zcz [x]) (by simp only [maxLen]; omega) ?_ (Wi hBe.size hw3.ext.size) (fun v2 w4 hown hgrow => ?_)
  ·omega
  ·obtain ⟨g', cap', hv2⟩ := ownsRow_succ hown
   subst hv2
   obtain ⟨q5, k1, k2, k3⟩ := Zpy (x := x) (B := w1.heap.size) hBe.size hBe hv' hrow hw3.ext hown hgrow hb2.1
   refine Zed (b := b2) (ha3.put (some 11) _ rfl) rfl rfl q5 (by kernel_rfl) rfl rfl ?_
   exact wpListIn_nil ⟨k1, k2, k3⟩
 case done =>
  rintro D ys W hD hp hi hK
  obtain ⟨⟨v', hv', hrow, hnil⟩, hBe⟩ := hi
  obtain ⟨s, hs1, hs2, hs3⟩ := Zja hnil hrow
  obtain ⟨o, m, c, hvs⟩ : ∃ o m c, v' = .slice o m c := by
   rcases hrow.2 with ⟨h, _⟩ | ⟨g, cap, _, h, _⟩
   ·exact ⟨_, _, _, h⟩
   ·exact ⟨_, _, _, h⟩
  have f5 := FoC.mk ⟨(0, 0), hv'⟩
  rw [hvs] at f5 hs1
  have hra : Rep 13 [(2, .pointer (some ⟨b2, 0, none⟩))] a := ha.sub sbB
  have hl : YlC prog W 13 [] [(2, .pointer (some ⟨b2, 0, none⟩))] (.load 37 (.tmp 2)) (.slice o m c) := inferInstance
  show Code.wpIn (Fr none) 5 _ _ _ _ W
  refine wpIn_seq (wpIn_region_lit ?_)
  refine Zdu (a := a) (L := []) (w0 := W) (hl.out _ _ _ _ _) hra (Own.start W) rfl rfl (fun W2 hx2 => ?_)
  refine Zdu (a := a.put (some 12) (.slice o m c)) (L := []) (w0 := W2) (E := Env.put [(2, .pointer (some ⟨b2, 0, none⟩))] (some 12) (.slice o m c)) (Zea rfl) (hra.put (some 12) _ rfl) (Own.start W2) rfl rfl (fun W3 hx3 => ?_)
  refine wpListIn_nil ?_
  have hx := hx2.tr hx3
  have hK3 : W3.heap[D]? = some (.deferred (some [])) := (hx.block D (Zp hK)).trans hK
  have hr4 : ((a.put (some 12) (.slice o m c)).put (some 4) (.slice o m c)).tmps[4]? = some (.slice o m c) := ((hra.put (some 12) _ rfl).put (some 4) (.slice o m c) rfl).val 4 _ rfl
  refine wpIn_ret ?_
  refine ⟨by simp, .inl ⟨_, _, rfl, run_takeDeferred hK3, ?_⟩⟩
  rw [ha.defers]
  refine ⟨.slice o m c, ?_, ⟨⟨ys, hp⟩, s⟩, by rw [hs1], ⟨⟨?_, trivial⟩, fun e he => ?_, hs2⟩⟩
  ·rw [results_tmp rfl]
   show Result.ok (Array.getD _ 4 undef) _ = _
   rw [Array.getD_eq_getD_getElem?, hr4]
   rfl
  ·exact (hBe.trans (hx.bel.mono hBe.size)).trans (belowK_b (w := w1) hwd W3 D _ _ hD hK3 rfl rfl)
  ·obtain ⟨h1, h2⟩ := hs3 e he
   have h3 := (hx.block _ (Zp h2)).trans h2
   refine ⟨h1, (World.putObj_heap_other (fun hd => ?_)).trans h3⟩
   rw [hd, hK3] at h3
   simp only at he
   rcases s.cases 35 with ⟨-, -, x2⟩ | ⟨bs, cs, sp, -, -, x2, -⟩
   ·rw [x2] at he
    cases he
   ·rw [x2, Wo] at he
    subst he
    cases h3
end
section
def SeqIE (w : World) (b2 : Nat) (pre : List Za) (W : World) : Prop :=
 (∃ v', Boxed W b2 38 v' ∧ W.ownsRow w.heap.size 122 5 v' pre.length (rowL Ze pre) ∧ (pre = [] → v' = .slice none 0 0)) ∧ Below w.heap.size w W
theorem ZiB {w : World} {b2 B : Nat} (hB : w.heap.size ≤ B) : OwnFrom B (SeqIE w b2) :=
 OwnFrom.and (Own.from (holdsRow_own w.heap.size b2 38 122 5 (fun pre => pre.length) (fun pre => rowL Ze pre) (fun pre v' => pre = [] → v' = .slice none 0 0)) _) (ownFrom_below (Wl _) hB)
def SeqAE (b2 : Nat) (x : Za) (a' : Act) (W : World) : Prop :=
 ∃ bx, W.heap[bx]? = some (.cells (Ze x) 122 (0, 0)) ∧ Rep 13 [(2, .pointer (some ⟨b2, 0, none⟩)), (5, .pointer (some ⟨bx, 0, none⟩))] a'
theorem Zob {w W w3 w4 : World} {b2 B : Nat} {v' v2 : Value} {pre : List Za} {x : Za} (hw : w.heap.size ≤ W.heap.size) (hBe : Below w.heap.size w W) (h5 : Boxed W b2 38 v') (hrow : W.ownsRow w.heap.size 122 5 v' pre.length (rowL Ze pre))
  (hx : Ext W w3) (hown : w4.ownsRow w.heap.size 122 5 v2 (pre.length + 1) (rowL Ze pre ++ rowL Ze [x])) (hg : w3.grownBy w4 v'.ownBlock) (hb2 : w.heap.size ≤ b2) :
  Boxed w4 b2 38 v' ∧ KeepsFrom B W (w4.setCell ⟨b2, 0, none⟩ v2) ∧ KpK w W (w4.setCell ⟨b2, 0, none⟩ v2) ∧ SeqIE w b2 (pre ++ [x]) (w4.setCell ⟨b2, 0, none⟩ v2) := by
 have hrow3 : w3.ownsRow w.heap.size 122 5 v' pre.length (rowL Ze pre) := hrow.kept (Z7 hx) (by cases v' with
  | slice p n c => cases p with
   | none => exact .inl rfl
   | some p => exact .inr (fun h => by cases h)
  | _ => exact .inl rfl)
 have q5 := Boxed.kept (ZcT h5 hx) hg (Boxed.not_row (ZcT h5 hx) (by decide) hrow3)
 have own : ∀ j, v'.ownBlock = some j → w.heap.size ≤ j ∧ ∃ cs T, w3.heap[j]? = some (.cells cs T (0, 0)) := fun j hj => by
  rcases hrow3.2 with ⟨rfl, _⟩ | ⟨g, cap, cur, rfl, hb, hgb, _⟩
  ·cases hj
  ·obtain rfl : g = j := by simpa [Value.ownBlock] using hj
   exact ⟨hb, _, _, hgb⟩
 have keep : ∀ (k : Nat) (o : Obj), W.heap[k]? = some o → o.isCells = false → (w4.setCell ⟨b2, 0, none⟩ v2).heap[k]? = some o := fun k o hk ho => by
  have e3 : w3.heap[k]? = some o := (hx.block k (Zp hk)).trans hk
  have e4 : w4.heap[k]? = some o := (hg.block k (Zp e3) (fun e => by obtain ⟨-, cs, T, hc⟩ := own k e.symm; rw [e3] at hc; cases hc; cases ho)).trans e3
  refine ((grownBy_setCell' w4 b2 v2).block k (Zp e4) (fun e => ?_)).trans e4
  obtain rfl : k = b2 := by simpa using e
  rw [show w4.heap[k]? = _ from q5] at e4
  cases e4
  cases ho
 have hbel := ((hx.bel.mono hw).grown hg (Wi hw hx.size) (fun j e => (own j e).1)).setCell (p := ⟨b2, 0, none⟩) hb2 v2
 refine ⟨q5, ⟨Wi hx.size (Wi hg.size (grownBy_setCell' w4 b2 v2).size), fun k o _ hk ho => keep k o hk ho⟩, ⟨hbel, fun k o hk ho => keep k o hk (Obj.not_cells_of_walk ho)⟩, ⟨⟨v2, Boxed.set v2 q5, ?_, fun h => ?_⟩, hBe.trans hbel⟩⟩
 ·have e := hown.kept (grownBy_setCell' w4 b2 v2) (.inr (Boxed.not_row q5 (by decide) hown).symm)
  rw [Wp, List.length_singleton, Zbi]
  exact e
 ·simp at h
set_option maxHeartbeats 4000000 in
theorem ZmJ (Bm b : Nat) (TB : TypeId) (l : List (Za × Bool)) (w : World) (hl : l.length ≤ 1048576) (hB : ∃ fz, w.heap[Bm]? = some (.cells #[.map (some b)] TB fz)) (hb : w.heap[b]? = some (mEx l)) :
  Calls prog 302 [.slice none 0 0, .func (.func 259) #[] [.pointer (some ⟨Bm, 0, none⟩)].toArray].toArray w (RetM ((ys : { ys : List Za // ys.Perm (pKE l) }) × SlS Ze 5 ys.1) (fun s => vSl s.2) (fun s => mS 122 s.2) w) := by
 have hgo := Zfh (N := 5) (P := prog) (l := [Value.slice none 0 0, .func (.func 259) #[] [.pointer (some ⟨Bm, 0, none⟩)].toArray]) (w := w) (R := RetM ((ys : { ys : List Za // ys.Perm (pKE l) }) × SlS Ze 5 ys.1) (fun s => vSl s.2) (fun s => mS 122 s.2) w) Tryz.func302 rfl Tryz.ntmps302 rfl
 refine hgo ?_
 clear hgo
 refine Zaw ?_
 refine Zcp ?_
 repeat (refine wkM ?_; intros)
 refine Zai ?_
 refine Zaw ?_
 refine Zaw ?_
 refine Zcp ?_
 repeat (refine wkM ?_; intros)
 refine Zai ?_
 refine Za9 ?_
 rename_i b2
 refine ⟨fun a w1 ha hw1 => ?_⟩
 have hb2 := hw1.mem _ (.head _)
 have hwd := hw1.ext.size
 refine wpIn_rangeFunc_ownH (F := Fr none) (n := 5) (P := prog) (w0 := w1) (N := l.length + 1) (α := Za) (encs := fun x => #[.agg (Ze x)]) (S := fun ys => ys.Perm (pKE l)) (Sp := fun _ => True) (Kp := KpK w) rfl (by omega) (gf := 259) (lb := #[.pointer (some ⟨Bm, 0, none⟩)]) (ha.ev (x := .tmp 6) rfl) trivial (fun args w => ZbE (by kernel_rfl) args w)
  (Zi1 w w1 Bm b 4 TB l hw1.ext.bel hB hb) (fun h k => ⟨h.1.trans k.1, fun i o ho hw => k.2 i o (h.2 i o ho hw) hw⟩) (fun W lo o o' hl h hc hk => ⟨belowK_b (w := w1) hwd W lo o o' hl h hc hk, fun k o2 h2 hw2 => (World.putObj_heap_other (fun e => by rw [e, h] at h2; cases h2; rw [hk] at hw2; cases hw2)).trans h2⟩) (Below.refl _ _) (fun _ => rfl)
  (SeqIE w b2) (fun _ _ _ => False) (ZiB hwd) (fun _ _ _ _ _ hs _ _ => hs) ⟨⟨_, hb2.2, World.ownsRow_nil _ _ _ _, fun _ => rfl⟩, hw1.ext.bel⟩
  (SeqAE b2) (fun x a' s X Y row ⟨bx, hc, hr⟩ hg hrow => ⟨bx, (hg.block bx (Zp hc) (fun e => by obtain ⟨-, o, ho, hn⟩ := hrow bx e.symm; rw [hc] at ho; cases ho; cases hn)).trans hc, hr⟩) ?assign ?body ?done ?stop
 case stop =>
  rintro D c pre W _ _ h _
  exact h.elim
 case assign =>
  intro lo pre x W K hi hK
  have hact : ∀ a0 : Act, a0.defers = [] → ({ tmps := ((#[7] : Array Tmp).zip #[Value.agg (Ze x)]).foldl (fun t (p, v) => t.setIfInBounds p v) a0.tmps, defers := [] } : Act) = a0.put (some 7) (.agg (Ze x)) := fun a0 h => by
   cases a0
   simp only at h
   subst h
   simp [Act.put]
  rw [hact a ha.defers]
  have hrep := ha.put (some 7) (.agg (Ze x)) rfl
  refine JI.out (r := some lo) (N := 3) (P := prog) (w0 := W) (n := 13) (E := [(7, .agg (Ze x)), (2, .pointer (some ⟨b2, 0, none⟩))]) (L := []) ?_ _ W (hrep.sub sbB) (Own.start W)
  refine ZaX ?_
  refine Zbr (fun _ _ h => h) rfl ?_
  repeat (refine wkM ?_; intros)
  rename_i bx
  refine ⟨fun a' W' ha' hw' => hK a' W' ⟨hw'.ext.size, fun k o _ hk _ => (hw'.ext.block k (Zp hk)).trans hk⟩ ⟨hw'.ext.bel.mono hi.2.size, fun k o ho _ => (hw'.ext.block _ (Zp ho)).trans ho⟩ (ZiB (Wl _) _ W W' none hi (Z7 hw'.ext) (fun r e => by cases e)) ⟨bx, (hw'.mem _ (.head _)).2, ha'.sub sbB⟩⟩
 case body =>
  rintro lo pre x a' W hlw hr hi ⟨bx, hbx, hra⟩ hlt
  obtain ⟨⟨v', hv', hrow, hnil⟩, hBe⟩ := hi
  obtain ⟨o, m, c, hvs⟩ : ∃ o m c, v' = .slice o m c := by
   rcases hrow.2 with ⟨h, _⟩ | ⟨g, cap, _, h, _⟩
   ·exact ⟨_, _, _, h⟩
   ·exact ⟨_, _, _, h⟩
  have f2 := FoC.mk ⟨(0, 0), hv'⟩
  have fx := FoC.mk ⟨(0, 0), hbx⟩
  rw [hvs] at f2
  refine JI.out (r := some lo) (N := 3) (P := prog) (w0 := W) (n := 13) (E := [(2, .pointer (some ⟨b2, 0, none⟩)), (5, .pointer (some ⟨bx, 0, none⟩))]) (L := []) ?_ _ W hra (Own.start W)
  refine Za9 ?_
  refine ZaX ?_
  refine ⟨fun a2 w2 ha2 hw2 => ?_⟩
  refine Zbg [_, _, _] a2 w2 rfl (JO.out (w0 := W) (n := 13) (L := []) ?_ a2 w2 ha2 hw2)
  repeat (refine wkM ?_; intros)
  refine Zdp (fun a3 w3 ha3 hw3 => ?_)
  have hbn := (hw3.mem _ (.head _)).2
  refine Zfa (size := 5) (k := pre.length) (m := 1) (base := w.heap.size) (v := v') (xs := rowL Ze pre) (news := rowL Ze [x]) ha3 (by rw [hvs]; rfl) rfl rfl (by decide) (hrow.kept (Z7 hw3.ext) (by rw [hvs]; cases o with | none => exact .inl rfl | some p => exact .inr (fun h => by cases h))) (Z9 (k := 5) [x]) (fun j u hu => by rw [ZaE, Zat hbn, Nat.zero_add]; simpa [row] using hu) (Zcz [x]) (by simp only [maxLen]; omega) ?_ (Wi hBe.size hw3.ext.size) (fun v2 w4 hown hgrow => ?_)
  ·omega
  ·obtain ⟨g', cap', hv2⟩ := ownsRow_succ hown
   subst hv2
   obtain ⟨q5, k1, k2, k3⟩ := Zob (x := x) (B := w1.heap.size) hBe.size hBe hv' hrow hw3.ext hown hgrow hb2.1
   refine Zed (b := b2) (ha3.put (some 11) _ rfl) rfl rfl q5 (by kernel_rfl) rfl rfl ?_
   exact wpListIn_nil ⟨k1, k2, k3⟩
 case done =>
  rintro D ys W hD hp hi hK
  obtain ⟨⟨v', hv', hrow, hnil⟩, hBe⟩ := hi
  obtain ⟨s, hs1, hs2, hs3⟩ := Zja hnil hrow
  obtain ⟨o, m, c, hvs⟩ : ∃ o m c, v' = .slice o m c := by
   rcases hrow.2 with ⟨h, _⟩ | ⟨g, cap, _, h, _⟩
   ·exact ⟨_, _, _, h⟩
   ·exact ⟨_, _, _, h⟩
  have f5 := FoC.mk ⟨(0, 0), hv'⟩
  rw [hvs] at f5 hs1
  have hra : Rep 13 [(2, .pointer (some ⟨b2, 0, none⟩))] a := ha.sub sbB
  have hl : YlC prog W 13 [] [(2, .pointer (some ⟨b2, 0, none⟩))] (.load 38 (.tmp 2)) (.slice o m c) := inferInstance
  show Code.wpIn (Fr none) 5 _ _ _ _ W
  refine wpIn_seq (wpIn_region_lit ?_)
  refine Zdu (a := a) (L := []) (w0 := W) (hl.out _ _ _ _ _) hra (Own.start W) rfl rfl (fun W2 hx2 => ?_)
  refine Zdu (a := a.put (some 12) (.slice o m c)) (L := []) (w0 := W2) (E := Env.put [(2, .pointer (some ⟨b2, 0, none⟩))] (some 12) (.slice o m c)) (Zea rfl) (hra.put (some 12) _ rfl) (Own.start W2) rfl rfl (fun W3 hx3 => ?_)
  refine wpListIn_nil ?_
  have hx := hx2.tr hx3
  have hK3 : W3.heap[D]? = some (.deferred (some [])) := (hx.block D (Zp hK)).trans hK
  have hr4 : ((a.put (some 12) (.slice o m c)).put (some 4) (.slice o m c)).tmps[4]? = some (.slice o m c) := ((hra.put (some 12) _ rfl).put (some 4) (.slice o m c) rfl).val 4 _ rfl
  refine wpIn_ret ?_
  refine ⟨by simp, .inl ⟨_, _, rfl, run_takeDeferred hK3, ?_⟩⟩
  rw [ha.defers]
  refine ⟨.slice o m c, ?_, ⟨⟨ys, hp⟩, s⟩, by rw [hs1], ⟨⟨?_, trivial⟩, fun e he => ?_, hs2⟩⟩
  ·rw [results_tmp rfl]
   show Result.ok (Array.getD _ 4 undef) _ = _
   rw [Array.getD_eq_getD_getElem?, hr4]
   rfl
  ·exact (hBe.trans (hx.bel.mono hBe.size)).trans (belowK_b (w := w1) hwd W3 D _ _ hD hK3 rfl rfl)
  ·obtain ⟨h1, h2⟩ := hs3 e he
   have h3 := (hx.block _ (Zp h2)).trans h2
   refine ⟨h1, (World.putObj_heap_other (fun hd => ?_)).trans h3⟩
   rw [hd, hK3] at h3
   simp only at he
   rcases s.cases 122 with ⟨-, -, x2⟩ | ⟨bs, cs, sp, -, -, x2, -⟩
   ·rw [x2] at he
    cases he
   ·rw [x2, Wo] at he
    subst he
    cases h3
end
end Go.Vt
