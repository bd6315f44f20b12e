/- that objects are reconstructed from their reports (part 21 of 29.) Conditions: those that each statement names. -/
import Derived.Test.YtjicdlilgjdefaaGreatDoorKJ20
set_option linter.unusedSimpArgs false
set_option linter.unusedVariables false
set_option maxHeartbeats 2000000
set_option maxRecDepth 100000
namespace Go.Vt
open Go.RowKit Go.Proofs
open Go.Proofs.Tryz (prog)
section
open Classical in
noncomputable def cutK (xs : List Int) (t : Int) : Nat := if h : ∃ k, CutI xs t k then h.choose else 0
theorem Ztc {xs : List Int} (t : Int) (h : xs.Pairwise leI) : CutI xs t (cutK xs t) := by
 unfold cutK
 rw [dif_pos (Zhb h)]
 exact (Zhb h).choose_spec
instance ZHb (w0 : World) (L : List Blk) (v : Value) (xs : List Int) (t : Int) [h : LstC w0 L v Int (eI .i64) xs] : SpecM prog w0 L 212 [v, .int .i64 t] (.tuple #[.int .i64 (cutK xs t : Nat), .bool (decide (t ∈ xs))]) (xs.Pairwise leI ∧ xs.length ≤ 1048576) := ⟨fun hp w hw => Zqp v xs t _ (Ztc t hp.1) hp.1 w (h.out w hw) hp.2⟩
def slH {α : Type} {enc : α → Array Value} {k : Nat} {xs : List α} (s : SlS enc k xs) : Sl := match s.s with
 | none => ⟨none, xs.length, 0⟩
 | some q => ⟨some ⟨q.1, 0, none⟩, xs.length, q.2.1⟩
theorem Za0 {α : Type} {enc : α → Array Value} {k : Nat} {xs : List α} (s : SlS enc k xs) : vSl s = .slice (slH s).a (slH s).len (slH s).cap := by
 rcases s with ⟨s, h1, h2⟩
 rcases s with _ | ⟨b, c, sp⟩
 ·obtain rfl := h1.1 rfl
  rfl
 ·rfl
theorem Zcm {α : Type} {enc : α → Array Value} {k : Nat} {xs ys : List α} {s : SlS enc k xs} {t : SlS enc k ys} (h : vSl s = vSl t) : slH s = slH t := by
 rw [Za0, Za0 t] at h
 injection h with h1 h2 h3
 cases hs : slH s
 cases ht : slH t
 rw [hs, ht] at h1 h2 h3
 simp only at h1 h2 h3
 rw [h1, h2, h3]
def smI (l : List Za) (c : List Int) : Nat → List Int
 | 0 => []
 | i + 1 => if (gi l (i : Int)).From ∈ c then smI l c i ++ [(i : Int)] else smI l c i
theorem ZfM (l : List Za) (c : List Int) : ∀ i, (smI l c i).length ≤ i
 | 0 => Wl _
 | i + 1 => by
  have := ZfM l c i
  rw [smI]
  split
  ·rw [Wp, List.length_singleton]; omega
  ·omega
theorem Zhv (l : List Za) (c : List Int) : ∀ i, ∀ k ∈ smI l c i, 0 ≤ k ∧ k < i
 | 0, k, h => by cases h
 | i + 1, k, h => by
  rw [smI] at h
  split at h
  ·rcases List.mem_append.1 h with h | h
   ·have := Zhv l c i k h; omega
   ·rw [Wo] at h; omega
  ·have := Zhv l c i k h; omega
theorem ArgS.lstK {α : Type} {w : World} {v : Value} {enc : α → Array Value} {xs : List α} (h : ArgS w v enc xs) (L : List Blk) : LstC w L v α enc xs := ⟨fun w' hw' => h.to hw'.ext⟩
abbrev PartS (l : List Za) (d : Int) : Type := (c : { c : List Int // CompL l d c }) × SlS (eI .i64) 1 (smI l c.1 l.length)
abbrev vGr (p : Option Addr) (n cp : Nat) (h : Sl) (z : Int) : Value := .agg (ZO ⟨⟨p, n, cp⟩, h, z⟩)
set_option maxHeartbeats 8000000 in
theorem ZnD (p : Option Addr) (n cp : Nat) (l : List Za) (d : Int) (w : World) (hv : ArgS w (.slice p n cp) Ze l) (hl : l.length ≤ 6) :
  Calls prog 215 [.slice p n cp, .int .i64 d].toArray w (RetM (PartS l d) (fun s => vGr p n cp (slH s.2) (s.1.1.length : Nat)) (fun s => mS 3 s.2) w) := by
 obtain ⟨p', cp', hform⟩ := hv.form
 injection hform with h1 h2 h3
 subst h1
 subst h2
 subst h3
 have hls := fun L => hv.lstK L
 refine Zg Tryz.func215 rfl Tryz.ntmps215 rfl ?_
 repeat (first | (refine wkM ?_; intros) | (refine wnM ?_ ?_; (focus (exact hl)); intros))
 rename_i b4 cs b6
 obtain ⟨⟨c, hc⟩, s⟩ := cs
 simp only
 have hcl := hc.few
 have hbs : c.Pairwise leI ∧ c.length ≤ 1048576 := ⟨hc.ord, by omega⟩
 refine Zq (S := (i : Nat) × SlS (eI .i64) 1 (smI l c i)) (fun q => q.1 ≤ l.length) (fun q => [(5, vSl s), (4, .pointer (some ⟨b4, 0, none⟩)), (6, .pointer (some ⟨b6, 0, none⟩)), (18, .slice p l.length cp), (19, .int .i64 l.length), (20, .int .i64 (q.1 : Nat))]) (fun q => mS 3 q.2 ++ (⟨b6, ZO ⟨⟨p, l.length, cp⟩, slH q.2, (c.length : Nat)⟩, 324⟩ :: (mS 3 s ++ [⟨b4, ZO Zdh, 324⟩]))) (fun q => l.length - q.1) ⟨0, SlS.no⟩ (Wm _) sbB suB (fun q hq => ?_)
 obtain ⟨i, o⟩ := q
 simp only at hq ⊢
 have hsl := ZfM l c i
 have hnx : smI l c (i + 1) = if (gi l (i : Int)).From ∈ c then smI l c i ++ [(i : Int)] else smI l c i := rfl
 repeat (refine wkM ?_; intros)
 refine Zn rfl (fun h => ?_) (fun h => ?_)
 ·have hlt : i < l.length := by have := Wa h; omega
  have hne : l ≠ [] := fun h0 => by rw [h0] at hlt; simp at hlt
  obtain ⟨bw, ow, cw, hvw, hcw, hrow⟩ := hv.blk (k := 4) hne []
  injection hvw with e1 e2 e3
  subst e1
  subst e3
  have hrow' : ∀ L, RowC w L bw ow Za Ze l := fun L => ⟨fun w' hw' => hrow.out w' (hw'.sub (Wk _))⟩
  repeat (first | (refine wkM ?_; intros) | (refine wnM ?_ ?_; (focus (exact hbs)); intros))
  rename_i b8
  by_cases hf : (gi l (i : Int)).From ∈ c
  ·rw [if_pos hf] at hnx
   simp only [Wc hf]
   repeat (refine wkM ?_; intros)
   dsimp only
   rw [← Za0 o]
   repeat (refine wkM ?_; intros)
   refine sU rfl rfl ?_ ?_ ?_ ?_
   ·rfl
   ·rfl
   ·exact ⟨by decide, by omega, by omega⟩
   intro s'
   rw [Za0 s']
   repeat (refine wkM ?_; intros)
   obtain ⟨s3, x1, x2⟩ := SlS.turn 3 hnx.symm s'
   have x3 := Zcm x1
   repeat (refine wkO ?_; intros)
   exact Zj ⟨i + 1, s3⟩ hlt sbB (by simp only [x2, x3]; exact suB) (by show l.length - (i + 1) < l.length - i; omega)
  ·rw [if_neg hf] at hnx
   simp only [We hf]
   repeat (refine wkO ?_; intros)
   obtain ⟨s3, x1, x2⟩ := SlS.turn 3 hnx.symm o
   have x3 := Zcm x1
   exact Zj ⟨i + 1, s3⟩ hlt sbB (by simp only [x2, x3]; exact suB) (by show l.length - (i + 1) < l.length - i; omega)
 ·have hge : i = l.length := by have := Wb h; omega
  subst hge
  repeat (refine wkM ?_; intros)
  exact ZV rfl rfl (fun w hw => ⟨⟨⟨c, hc⟩, o⟩, rfl, hw.sub suB⟩)
instance ZD1 (w0 : World) (L : List Blk) (p : Option Addr) (n cp : Nat) (l : List Za) (d : Int) [h : LstC w0 L (.slice p n cp) Za Ze l] : SpecR prog w0 L 215 [.slice p n cp, .int .i64 d] (PartS l d) (fun s => vGr p n cp (slH s.2) (s.1.1.length : Nat)) (fun s => mS 3 s.2) (l.length ≤ 6) := ⟨fun hp w hw => ZnD p n cp l d w (h.out w hw) hp⟩
end
section
abbrev mII (l : List (Int × Int)) : Obj := mapO (Value.int .i64) (Value.int .i64) l
instance ZD4 : MapT prog 326 (Value.int .i64) (Value.int .i64) := ⟨trivial⟩
instance ZDX : UndC prog 326 (.map 3 3) := ⟨by kernel_rfl⟩
def vSr (m1 m2 : Option Nat) : Array Value := #[.map m1, .map m2]
instance ZHw (m1 m2 : Option Nat) : CsC (vSr m1 m2) 2 := ⟨by kernel_rfl, by kernel_rfl⟩
instance ZHA (m1 m2 : Nat) : BdC prog 328 [(0, .map (some m1)), (1, .map (some m2))] (.agg (vSr (some m1) (some m2))) := ⟨fun w => by kernel_rfl⟩
instance ZGx (m1 m2 : Option Nat) : LdC prog 326 (vSr m1 m2) 0 (.map m1) := ⟨Zy⟩
instance ZGp (m1 m2 : Option Nat) : LdC prog 326 (vSr m1 m2) 1 (.map m2) := ⟨Zy⟩
instance ZHF (m1 m2 : Option Nat) : LdC prog 328 (vSr m1 m2) 0 (.agg (vSr m1 m2)) := ⟨ZQ 2⟩
instance ZGY : FaO prog 328 0 0 0 := ⟨fun b w => by kernel_rfl⟩
instance ZGi : FaO prog 328 1 0 1 := ⟨fun b w => by kernel_rfl⟩
instance ZFl : SizeC prog 328 2 := ⟨by kernel_rfl⟩
instance ZFF : ZeroC prog 328 (.agg (vSr none none)) (vSr none none) := ⟨by kernel_rfl, by kernel_rfl⟩
instance ZEQ {α : Type} {enc : α → Array Value} {k : Nat} {xs : List α} (w0 : World) (L : List Blk) (s : SlS enc k xs) [h : LstC w0 L (vSl s) α enc xs] : LstC w0 L (.slice (slH s).a (slH s).len (slH s).cap) α enc xs := ⟨fun w hw => by rw [← Za0]; exact h.out w hw⟩
def edI (l : List Za) (k : Int) : Ed := ⟨(gi l k).From, (gi l k).To, wgt (gi l k), k.toNat⟩
def edL (l : List Za) (sm : List Int) : List Ed := sm.map (edI l)
theorem Zlm (l : List Za) (sm : List Int) : (edL l sm).length = sm.length := Ws _
theorem Zjs {l : List Za} {sm : List Int} {j : Nat} (h : j < sm.length) : (edL l sm).take (j + 1) = (edL l sm).take j ++ [edI l (gi sm (j : Int))] := by
 rw [Wn (by rw [Zlm]; exact h)]
 simp only [edL, List.getElem_map]
 rw [Zk h]
theorem Zm7 (q : Sr) (l : List Ed) (e : Ed) : q.round (l ++ [e]) = (q.round l).use e := by
 unfold Sr.round
 rw [List.foldl_append]
 rfl
structure MatS (q : Sr) (a b : List (Int × Int)) : Prop where
 s : ∀ v, mget a v = q.s v
 b : ∀ v, mget b v = (q.by' v).map fun e => (e.i : Int)
theorem MatS.use {q : Sr} {a b : List (Int × Int)} (h : MatS q a b) {e : Ed} {z : Int} (hh : hit q.s e = some z) : MatS (q.use e) (mput a e.v z) (mput b e.v (e.i : Int)) := by
 unfold Sr.use
 rw [hh]
 refine ⟨fun v => ?_, fun v => ?_⟩
 ·simp only
  rw [ZaB]
  unfold upd
  split
  ·rfl
  ·exact h.s v
 ·simp only
  rw [ZaB]
  unfold upd
  split
  ·rfl
  ·exact h.b v
def SrB (q : Sr) : Prop := ∀ v b, q.s v = some b → -(2147483648 * (q.n : Int)) ≤ b ∧ b ≤ 2147483648 * (q.n : Int)
theorem SrB.use {q : Sr} (h : SrB q) {e : Ed} (he : -2147483648 ≤ e.w ∧ e.w ≤ 2147483648) : SrB (q.use e) := by
 cases hh : hit q.s e with
 | none => rw [Zbm hh]; exact h
 | some z =>
  have hn := Zf3 hh
  obtain ⟨c, hc, hz⟩ : ∃ c, q.s e.u = some c ∧ z = c + e.w := by
   unfold hit at hh
   cases h1 : q.s e.u with
   | none => simp [h1] at hh
   | some c =>
    simp only [h1] at hh
    refine ⟨c, rfl, ?_⟩
    cases h3 : q.s e.v with
    | none => simp only [h3] at hh; injection hh with hh; exact hh.symm
    | some d =>
     simp only [h3] at hh
     split at hh
     ·injection hh with hh; exact hh.symm
     ·cases hh
  have h1 := h _ _ hc
  intro v b hb
  rw [hn]
  unfold Sr.use at hb
  rw [hh] at hb
  simp only at hb
  unfold upd at hb
  split at hb
  ·injection hb with hb
   omega
  ·have := h v b hb
   omega
theorem Zri (q : Sr) (e : Ed) : (q.use e).n ≤ q.n + 1 := by
 cases hh : hit q.s e with
 | none => rw [Zbm hh]; omega
 | some z => rw [Zf3 hh]; omega
theorem SrB.round : ∀ {l : List Ed} {q : Sr}, SrB q → (∀ e ∈ l, -2147483648 ≤ e.w ∧ e.w ≤ 2147483648) → SrB (q.round l) ∧ (q.round l).n ≤ q.n + l.length
 | [], _, h, _ => ⟨h, Wl _⟩
 | e :: l, q, h, hl => by
  rw [ZaP]
  obtain ⟨h1, h2⟩ := SrB.round (h.use (hl e (.head _))) fun f hf => hl f (.tail _ hf)
  have := Zri q e
  exact ⟨h1, by rw [Wu]; omega⟩
theorem SrB.rounds {E : List Ed} {q : Sr} (h : SrB q) (h0 : q.n = 0) (hl : ∀ e ∈ E, -2147483648 ≤ e.w ∧ e.w ≤ 2147483648) : ∀ k, SrB (q.rounds E k) ∧ (q.rounds E k).n ≤ k * E.length
 | 0 => ⟨h, by rw [show q.rounds E 0 = q from rfl, h0]; exact Wm _⟩
 | k + 1 => by
  obtain ⟨h1, h2⟩ := h.rounds h0 hl k
  obtain ⟨h3, h4⟩ := h1.round hl
  refine ⟨h3, Wi h4 ?_⟩
  rw [Nat.succ_mul]
  omega
def sr0 (ds : List Int) : Sr := ⟨fun v => if v ∈ ds then some 0 else none, fun _ => none, fun _ => 0, 0⟩
def ini (ds : List Int) (i : Nat) : List (Int × Int) := (ds.take i).foldl (fun m d => mput m d 0) []
theorem Zj4 {ds : List Int} {i : Nat} (h : i < ds.length) : ini ds (i + 1) = mput (ini ds i) (gi ds (i : Int)) 0 := by
 unfold ini
 rw [Wn h, List.foldl_append, Zk h]
 rfl
theorem ZlN (ds : List Int) (v : Int) : ∀ i, i ≤ ds.length → mget (ini ds i) v = if v ∈ ds.take i then some 0 else none
 | 0, _ => by simp [ini, mget]
 | i + 1, h => by
  have htk : ds.take (i + 1) = ds.take i ++ [ds[i]] := Wn (by omega)
  rw [Zj4 (by omega), ZaB, ZlN ds v i (by omega), htk, Zk (by omega)]
  by_cases h1 : v = ds[i]
  ·rw [if_pos h1, if_pos (List.mem_append_right _ (List.mem_singleton.2 h1))]
  ·rw [if_neg h1]
   by_cases h2 : v ∈ ds.take i
   ·rw [if_pos h2, if_pos (List.mem_append_left _ h2)]
   ·rw [if_neg h2, if_neg fun h3 => (List.mem_append.1 h3).elim h2 fun h4 => h1 (List.mem_singleton.1 h4)]
theorem ZuI (ds : List Int) : MatS (sr0 ds) (ini ds ds.length) [] := ⟨fun v => by rw [ZlN ds v _ (Wl _), List.take_length]; rfl, fun v => rfl⟩
theorem Zfp (E : List Ed) (ds : List Int) : SrOk E (· ∈ ds) (sr0 ds) := by
 refine ⟨fun v b hb => ?_, fun t ht => ⟨0, if_pos ht⟩, fun v => Wl _, (fun v e he => by cases he), fun v b _ hb => ?_⟩
 ·unfold sr0 at hb
  simp only at hb
  split at hb
  ·rename_i hv
   injection hb with hb
   rw [← hb]
   exact .src hv
  ·cases hb
 ·unfold sr0 at hb
  simp only at hb
  split at hb
  ·rename_i hv
   injection hb with hb
   exact ⟨hv, hb.symm⟩
  ·cases hb
theorem Zv4 (ds : List Int) : SrB (sr0 ds) := fun v b hb => by
 unfold sr0 at hb
 simp only at hb
 split at hb
 ·injection hb with hb
  rw [← hb]
  exact ⟨by simp [sr0], by simp [sr0]⟩
 ·cases hb
theorem ZrM (E : List Ed) (ds : List Int) : HasBy E (sr0 ds) := fun v hv => absurd hv (Nat.not_lt_zero _)
theorem Zfu (f : Int → Int) : ∀ ds : List Int, ∃ L, ∀ t, t ∈ ds → f t ≤ L
 | [] => ⟨0, fun t h => by cases h⟩
 | d :: ds => by
  obtain ⟨L, h⟩ := Zfu f ds
  refine ⟨max L (f d), fun t ht => ?_⟩
  rcases List.mem_cons.1 ht with rfl | ht
  ·omega
  ·have := h t ht
   omega
structure FrOk (E : List Ed) (ds : List Int) (K : Nat) (r : Int) (q : Sr) : Prop where
 n : q.n ≤ 4096
 good : r = -1 → SrOk E (· ∈ ds) q ∧ (∀ e ∈ E, hit q.s e = none) ∧ ∀ t, t ∈ ds → ∃ c, q.s t = some c ∧ c ≤ 0
 bad : r ≠ -1 → ∃ e0 ∈ E, r = (e0.i : Int) ∧ (∃ a, hit ((sr0 ds).rounds E K).s e0 = some a) ∧ q = { (sr0 ds).rounds E K with by' := upd ((sr0 ds).rounds E K).by' e0.v (some e0) }
structure FrS (l : List Za) (sm ds : List Int) (K : Nat) where
 q : Sr
 r : Int
 m1 : Nat
 m2 : Nat
 a : List (Int × Int)
 b : List (Int × Int)
 ok : FrOk (edL l sm) ds K r q
 mat : MatS q a b
structure FrI (E : List Ed) (ds : List Int) (k j : Nat) (z : Int) (a b : List (Int × Int)) : Prop where
 mat : MatS ((((sr0 ds).rounds E k)).round (E.take j)) a b
 z0 : -1 ≤ z
 zz : z < 0 ↔ (((sr0 ds).rounds E k).round (E.take j)).n = ((sr0 ds).rounds E k).n
set_option maxHeartbeats 16000000 in
theorem Zrc (p : Option Addr) (n cp : Nat) (h : Sl) (v2 : Value) (l : List Za) (sm ds : List Int) (sz : Nat) (w : World) (hv : ArgS w (.slice p n cp) Ze l) (hs : ArgS w (.slice h.a h.len h.cap) (eI .i64) sm) (hd : ArgS w v2 (eI .i64) ds)
  (hl : l.length ≤ 6) (hsm : sm.length ≤ 6) (hrng : ∀ k ∈ sm, 0 ≤ k ∧ k < l.length) (hex : ∀ x ∈ l, ExB x) (hdl : ds.length ≤ 1048576) (hsz : sz ≤ 12)
  (hpre : (∀ e ∈ edL l sm, e.v ∈ ds) ∨ ((∃ f, PotE (edL l sm) f) ∧ ∃ V : List Int, V.length ≤ sz ∧ ∀ v b, Rch (edL l sm) (· ∈ ds) v b → v ∈ V)) :
  Calls prog 216 [.agg (ZO ⟨⟨p, n, cp⟩, h, (sz : Nat)⟩), v2].toArray w (RetM (FrS l sm ds (sz + 1)) (fun x => .tuple #[.agg (vSr (some x.m1) (some x.m2)), .int .i64 x.r]) (fun x => [⟨x.m2, .obj (mII x.b), 326⟩, ⟨x.m1, .obj (mII x.a), 326⟩]) w) := by
 obtain ⟨p', cp', hf1⟩ := hv.form
 injection hf1 with f1 f2 f3
 subst f1
 subst f2
 subst f3
 obtain ⟨p2, cp2, hf2⟩ := hd.form
 subst hf2
 obtain ⟨hp, hlen, hcap⟩ := h
 obtain ⟨p3, cp3, hf3⟩ := hs.form
 injection hf3 with f1 f2 f3
 simp only at f1 f2 f3
 subst f1
 subst f2
 subst f3
 refine Zg Tryz.func216 rfl Tryz.ntmps216 rfl ?_
 repeat (refine wkM ?_; intros)
 rename_i b2 b4 m1 m2 b6
 obtain ⟨E, hE⟩ : ∃ E, E = edL l sm := ⟨_, rfl⟩
 have hEl : E.length = sm.length := by rw [hE, Zlm]
 have hEe : ∀ e ∈ E, -2147483648 ≤ e.w ∧ e.w ≤ 2147483648 := fun e he => by
  rw [hE] at he
  obtain ⟨k, hk, rfl⟩ := List.mem_map.1 he
  have hr := hrng k hk
  have hx := hex (gi l k) (Z0 (by omega))
  have h1 := hx.s
  have h2 := hx.r
  have h3 := hx.l
  show -2147483648 ≤ wgt (gi l k) ∧ wgt (gi l k) ≤ 2147483648
  unfold wgt
  omega
 refine Zq (S := Nat) (fun i => i ≤ ds.length) (fun i => [(2, .pointer (some ⟨b2, 0, none⟩)), (4, .pointer (some ⟨b4, 0, none⟩)), (6, .pointer (some ⟨b6, 0, none⟩)), (25, .slice p2 ds.length cp2), (26, .int .i64 ds.length), (27, .int .i64 (i : Nat))]) (fun i => [⟨b6, vSr (some m1) (some m2), 328⟩, ⟨m2, .obj (mII []), 326⟩, ⟨m1, .obj (mII (ini ds i)), 326⟩, ⟨b4, vSr none none, 328⟩, ⟨b2, ZO ⟨⟨p, l.length, cp⟩, ⟨hp, sm.length, hcap⟩, (sz : Nat)⟩, 324⟩]) (fun i => ds.length - i) 0 (Wm _) sbB slB (fun i hi => ?_)
 repeat (refine wkM ?_; intros)
 refine Zn rfl (fun h => ?_) (fun h => ?_)
 ·have hlt : i < ds.length := by have := Wa h; omega
  have hne : ds ≠ [] := fun h0 => by rw [h0] at hlt; simp at hlt
  obtain ⟨bw, ow, cw, hvw, hcw, hrow⟩ := hd.blk (k := 0) hne []
  injection hvw with e1 e2 e3
  subst e1
  subst e3
  have hrow' : ∀ L, RowC w L bw ow Int (eI .i64) ds := fun L => ⟨fun w' hw' => hrow.out w' (hw'.sub (Wk _))⟩
  have hnx := Zj4 hlt
  repeat (refine wkM ?_; intros)
  rw [← hnx]
  repeat (refine wkO ?_; intros)
  exact Zj (i + 1) hlt sbB slB (by omega)
 have hge : i = ds.length := by have := Wb h; omega
 subst hge
 have hB0 := fun k => (Zv4 ds).rounds rfl hEe k
 have hS0 := fun k => (Zfp E ds).rounds k
 clear h
 have hwr : IntKind.i64.wrap (((sz : Nat) : Int) + 1) = ((sz + 1 : Nat) : Int) := by
  rw [IntWalk.i64_in _ (by omega)]
  omega
 repeat (refine wkO ?_; intros)
 dsimp only
 simp only [hwr]
 refine Zq (S := (k : Nat) × { ab : List (Int × Int) × List (Int × Int) // MatS ((sr0 ds).rounds E k) ab.1 ab.2 }) (fun q => q.1 ≤ sz + 1 ∧ ∀ j, j < q.1 → ((sr0 ds).rounds E j).n < ((sr0 ds).rounds E (j + 1)).n) (fun q => [(2, .pointer (some ⟨b2, 0, none⟩)), (4, .pointer (some ⟨b4, 0, none⟩)), (6, .pointer (some ⟨b6, 0, none⟩)), (37, .int .i64 ((sz + 1 : Nat))), (38, .int .i64 (q.1 : Nat))]) (fun q => [⟨b6, vSr (some m1) (some m2), 328⟩, ⟨m2, .obj (mII q.2.1.2), 326⟩, ⟨m1, .obj (mII q.2.1.1), 326⟩, ⟨b4, vSr none none, 328⟩, ⟨b2, ZO ⟨⟨p, l.length, cp⟩, ⟨hp, sm.length, hcap⟩, (sz : Nat)⟩, 324⟩]) (fun q => sz + 1 - q.1) ⟨0, ⟨(ini ds ds.length, []), ZuI ds⟩⟩ ⟨Wm _, fun j hj => absurd hj (Nat.not_lt_zero _)⟩ sbB slB (fun q hq => ?_)
 obtain ⟨k, ⟨⟨a, b⟩, hm⟩⟩ := q
 obtain ⟨hk, hup⟩ := hq
 simp only at hk hup hm ⊢
 repeat (refine wkM ?_; intros)
 refine Zn rfl (fun h => ?_) (fun h => ?_)
 ·have hlt : k < sz + 1 := by have := Wa h; omega
  clear h
  repeat (refine wkM ?_; intros)
  have hBk := hB0 k
  refine Zq (S := (j : Nat) × { x : List (Int × Int) × List (Int × Int) × Int // FrI E ds k j x.2.2 x.1 x.2.1 }) (fun q => q.1 ≤ sm.length) (fun q => [(2, .pointer (some ⟨b2, 0, none⟩)), (4, .pointer (some ⟨b4, 0, none⟩)), (6, .pointer (some ⟨b6, 0, none⟩)), (9, .int .i64 q.2.1.2.2), (37, .int .i64 ((sz + 1 : Nat))), (38, .int .i64 (k : Nat)), (41, .slice hp sm.length hcap), (42, .int .i64 sm.length), (43, .int .i64 (q.1 : Nat))]) (fun q => [⟨b6, vSr (some m1) (some m2), 328⟩, ⟨m2, .obj (mII q.2.1.2.1), 326⟩, ⟨m1, .obj (mII q.2.1.1), 326⟩, ⟨b4, vSr none none, 328⟩, ⟨b2, ZO ⟨⟨p, l.length, cp⟩, ⟨hp, sm.length, hcap⟩, (sz : Nat)⟩, 324⟩]) (fun q => sm.length - q.1) ⟨0, ⟨(a, b, -1), ⟨hm, Int.le_refl _, ⟨fun _ => rfl, fun _ => (show (-1 : Int) < 0 by omega)⟩⟩⟩⟩ (Wm _) sbB slB (fun q hq => ?_)
  obtain ⟨j, ⟨⟨a, b, z⟩, hm⟩⟩ := q
  simp only at hq hm ⊢
  repeat (refine wkM ?_; intros)
  refine Zn rfl (fun h => ?_) (fun h => ?_)
  ·have hlt3 : j < sm.length := by have := Wa h; omega
   clear h
   have hr := hrng (gi sm (j : Int)) (Z0 (by omega))
   have hxE := hex (gi l (gi sm (j : Int))) (Z0 (by omega))
   obtain ⟨Q, hQ⟩ : ∃ Q, Q = ((sr0 ds).rounds E k).round (E.take j) := ⟨_, rfl⟩
   have hQ2 : ((sr0 ds).rounds E k).round (E.take (j + 1)) = Q.use ⟨(gi l (gi sm (j : Int))).From, (gi l (gi sm (j : Int))).To, wgt (gi l (gi sm (j : Int))), (gi sm (j : Int)).toNat⟩ := by
    rw [hE, Zjs hlt3, ← hE, Zm7, hQ]
    rfl
   obtain ⟨hm1, hz0, hzz⟩ := hm
   rw [← hQ] at hm1 hzz
   have hQB : SrB Q ∧ Q.n ≤ 90 := by
    obtain ⟨h1, h2⟩ := hBk.1.round (l := E.take j) fun e he => hEe e (List.mem_of_mem_take he)
    rw [← hQ] at h1 h2
    have h3 : k * E.length ≤ 13 * 6 := Nat.mul_le_mul (by omega) (by omega)
    have h4 := hBk.2
    rw [Wt] at h2
    exact ⟨h1, by omega⟩
   have hnn : Q.n ≥ ((sr0 ds).rounds E k).n := by rw [hQ]; exact Zex _ _
   have hne3 : sm ≠ [] := fun h0 => by rw [h0] at hlt3; simp at hlt3
   have hne : l ≠ [] := fun h0 => by rw [h0] at hr; simp at hr; omega
   obtain ⟨bs, os, cs, hvs, hcs, hrs⟩ := hs.blk (k := 0) hne3 []
   injection hvs with e1 e2 e3
   subst e1
   subst e3
   obtain ⟨bw, ow, cw, hvw, hcw, hrow⟩ := hv.blk (k := 4) hne []
   injection hvw with e1 e2 e3
   subst e1
   subst e3
   have hrs' : ∀ L, RowC w L bs os Int (eI .i64) sm := fun L => ⟨fun w' hw' => hrs.out w' (hw'.sub (Wk _))⟩
   have hrow' : ∀ L, RowC w L bw ow Za Ze l := fun L => ⟨fun w' hw' => hrow.out w' (hw'.sub (Wk _))⟩
   repeat (refine wkM ?_; intros)
   rename_i b12
   have hIi : (((gi sm (j : Int)).toNat : Nat) : Int) = gi sm (j : Int) := by omega
   generalize gi l (gi sm (j : Int)) = x at *
   generalize gi sm (j : Int) = ii at *
   obtain ⟨e, he⟩ : ∃ e : Ed, e = ⟨x.From, x.To, wgt x, ii.toNat⟩ := ⟨_, rfl⟩
   rw [← he] at hQ2
   have eu : e.u = x.From := by rw [he]
   have ev : e.v = x.To := by rw [he]
   have ew : e.w = wgt x := by rw [he]
   have ei : (e.i : Int) = ii := by rw [he]; exact hIi
   have hwx : -2147483648 ≤ wgt x ∧ wgt x ≤ 2147483648 := by
    have h1 := hxE.s
    have h2 := hxE.r
    have h3 := hxE.l
    unfold wgt
    omega
   simp only [hm1.s]
   refine Zuk (S := Bool) (fun q => q = (hit Q.s e).isSome) (fun q => [(2, .pointer (some ⟨b2, 0, none⟩)), (4, .pointer (some ⟨b4, 0, none⟩)), (6, .pointer (some ⟨b6, 0, none⟩)), (9, .int .i64 z), (11, .int .i64 ii), (12, .pointer (some ⟨b12, 0, none⟩)), (13, .int .i64 ((Q.s x.From).getD 0)), (37, .int .i64 ((sz + 1 : Nat))), (38, .int .i64 (k : Nat)), (41, .slice (some ⟨bs, os, none⟩) sm.length hcap), (42, .int .i64 sm.length), (43, .int .i64 (j : Nat)), (80, .bool q)]) (fun _ => [⟨b12, Ze x, 122⟩, ⟨b6, vSr (some m1) (some m2), 328⟩, ⟨m2, .obj (mII b), 326⟩, ⟨m1, .obj (mII a), 326⟩, ⟨b4, vSr none none, 328⟩, ⟨b2, ZO ⟨⟨some ⟨bw, ow, none⟩, l.length, cp⟩, ⟨some ⟨bs, os, none⟩, sm.length, hcap⟩, (sz : Nat)⟩, 324⟩]) ?_ (fun q hq2 => ?_)
   ·unfold hit
    rw [eu, ev, ew]
    cases hA : Q.s x.From with
    | none =>
     simp only [Option.isSome_none]
     repeat (refine wkM ?_; intros)
     exact ZL false rfl sbB slB
    | some av =>
     have hav := hQB.1 _ _ hA
     simp only [Option.isSome_some, Option.getD_some]
     repeat (refine wkM ?_; intros)
     cases hB : Q.s x.To with
     | none =>
      simp only [Option.isSome_none, Bool.not_false]
      repeat (refine wkM ?_; intros)
      exact ZL true rfl sbB slB
     | some bv =>
      simp only [Option.isSome_some, Option.getD_some, Bool.not_true]
      repeat (first | (refine wkM ?_; intros) | (refine wnM ?_ ?_; (focus (exact hxE)); intros))
      by_cases hc : av + wgt x < bv
      ·simp only [Wc hc]
       rw [if_pos hc]
       repeat (refine wkM ?_; intros)
       exact ZL true rfl sbB slB
      ·simp only [We hc]
       rw [if_neg hc]
       repeat (refine wkM ?_; intros)
       exact ZL false rfl sbB slB
   ·cases hh : hit Q.s e with
    | none =>
     rw [hh] at hq2
     subst hq2
     simp only [Option.isSome_none]
     rw [Zbm hh] at hQ2
     repeat (refine wkO ?_; intros)
     exact Zj ⟨j + 1, ⟨(a, b, z), ⟨by rw [hQ2]; exact hm1, hz0, by rw [hQ2]; exact hzz⟩⟩⟩ hlt3 sbB slB (by show sm.length - (j + 1) < sm.length - j; omega)
    | some zv =>
     rw [hh] at hq2
     subst hq2
     simp only [Option.isSome_some]
     obtain ⟨av, hA, hzv⟩ : ∃ av, Q.s x.From = some av ∧ zv = av + wgt x := by
      unfold hit at hh
      rw [eu, ev, ew] at hh
      cases h1 : Q.s x.From with
      | none => simp [h1] at hh
      | some c =>
       simp only [h1] at hh
       refine ⟨c, rfl, ?_⟩
       cases h3 : Q.s x.To with
       | none => simp only [h3] at hh; injection hh with hh; exact hh.symm
       | some d =>
        simp only [h3] at hh
        split at hh
        ·injection hh with hh; exact hh.symm
        ·cases hh
     have hav := hQB.1 _ _ hA
     simp only [hA, Option.getD_some]
     have hmu := hm1.use hh
     rw [ev, ei] at hmu
     have hnu := Zf3 hh
     repeat (refine wkM ?_; intros)
     (refine Zao (.v [0, 1, 2, 3, 4, 5, 6, 7, 8, 9, 10, 11, 12, 13] (.e1 14 (.v [15] (.e1 16 (.e1 17 (.e1 18 (.fin))))))) ([⟨b12, Ze x, 122⟩, ⟨b6, vSr (some m1) (some m2), 328⟩]) (h := ?_); refine wkX ?_)
     (repeat (first | refine wkH ?_ | (refine tC rfl rfl ?_ ?_; focus (exact hxE))))
     repeat (refine wkT ?_; intros)
     refine eMe rfl rfl ?_
     repeat (refine wkT ?_; intros)
     refine eEs rfl ?_
     repeat (refine wkT ?_; intros)
     refine eMu rfl ?_
     repeat (refine wkT ?_; intros)
     subst hzv
     repeat (refine wkO ?_; intros)
     exact Zj ⟨j + 1, ⟨(mput a x.To (av + wgt x), mput b x.To ii, ii), ⟨by rw [hQ2]; exact hmu, (show -1 ≤ ii by omega), by
      rw [hQ2, hnu]
      show ii < 0 ↔ Q.n + 1 = _
      omega⟩⟩⟩ hlt3 sbB slB (by show sm.length - (j + 1) < sm.length - j; omega)
  ·have hge : j = sm.length := by have := Wb h; omega
   subst hge
   clear h
   have htk : E.take sm.length = E := by rw [← hEl, List.take_length]
   obtain ⟨hm1, hz0, hzz⟩ := hm
   rw [htk] at hm1 hzz
   repeat (refine wkM ?_; intros)
   by_cases hz : z < 0
   ·simp only [Wc hz]
    obtain ⟨s1, s2⟩ := ZgY (hzz.1 hz)
    have hn9 : ((sr0 ds).rounds E k).n ≤ 4096 := by
     have h3 : k * E.length ≤ 13 * 6 := Nat.mul_le_mul (by omega) (by omega)
     have h4 := hBk.2
     omega
    have hgood : FrOk E ds (sz + 1) (-1) ((sr0 ds).rounds E k) := ⟨hn9, fun _ => ⟨hS0 k, s2, fun t ht => ZcL ⟨0, if_pos ht, Int.le_refl _⟩ k⟩, fun h => absurd rfl h⟩
    rw [s1] at hm1
    repeat (refine wkM ?_; intros)
    refine Zz rfl (Zae rfl) (Zl rfl) (fun w hw => ⟨⟨_, -1, m1, m2, a, b, hE ▸ hgood, hm1⟩, rfl, hw.sub ?_⟩)
    exact slB
   ·simp only [We hz]
    have hup2 : ((sr0 ds).rounds E k).n < ((sr0 ds).rounds E (k + 1)).n := by
     have h1 := Zex E ((sr0 ds).rounds E k)
     have h2 : (((sr0 ds).rounds E k).round E).n ≠ ((sr0 ds).rounds E k).n := fun h => hz (hzz.2 h)
     show _ < (((sr0 ds).rounds E k).round E).n
     omega
    repeat (refine wkO ?_; intros)
    exact Zj ⟨k + 1, ⟨(a, b), hm1⟩⟩ ⟨hlt, fun j hj => by
     rcases Nat.lt_or_ge j k with h1 | h1
     ·exact hup j h1
     ·have : j = k := by have : j < k + 1 := hj; omega
      subst this
      exact hup2⟩ sbB slB (by show sz + 1 - (k + 1) < sz + 1 - k; omega)
 ·have hge : k = sz + 1 := by have := Wb h; omega
  subst hge
  clear h
  rw [← hE] at hpre
  rcases hpre with hp1 | ⟨⟨f, hf⟩, V, hV1, hV2⟩
  ·obtain ⟨Q, hQ⟩ : ∃ Q, Q = (sr0 ds).rounds E (sz + 1) := ⟨_, rfl⟩
   rw [← hQ] at hm
   have hpres : ∀ v, v ∈ ds → ∃ c, Q.s v = some c := fun v hv => by
    obtain ⟨c, hc, _⟩ := ZcL (E := E) (q := sr0 ds) ⟨0, if_pos hv, Int.le_refl _⟩ (sz + 1)
    exact ⟨c, by rw [hQ]; exact hc⟩
   have hQB : SrB Q ∧ Q.n ≤ 90 := by
    obtain ⟨h1, h2⟩ := hB0 (sz + 1)
    rw [← hQ] at h1 h2
    have h3 : (sz + 1) * E.length ≤ 13 * 6 := Nat.mul_le_mul (by omega) (by omega)
    exact ⟨h1, by omega⟩
   have hSQ := hS0 (sz + 1)
   rw [← hQ] at hSQ
   repeat (refine wkM ?_; intros)
   refine Zq (S := Nat) (fun j => j ≤ sm.length ∧ ∀ e ∈ E.take j, hit Q.s e = none) (fun j => [(2, .pointer (some ⟨b2, 0, none⟩)), (4, .pointer (some ⟨b4, 0, none⟩)), (6, .pointer (some ⟨b6, 0, none⟩)), (103, .slice hp sm.length hcap), (104, .int .i64 sm.length), (105, .int .i64 (j : Nat))]) (fun _ => [⟨b6, vSr (some m1) (some m2), 328⟩, ⟨m2, .obj (mII b), 326⟩, ⟨m1, .obj (mII a), 326⟩, ⟨b4, vSr none none, 328⟩, ⟨b2, ZO ⟨⟨p, l.length, cp⟩, ⟨hp, sm.length, hcap⟩, (sz : Nat)⟩, 324⟩]) (fun j => sm.length - j) 0 ⟨Wm _, fun e he => by rw [List.take_zero] at he; cases he⟩ sbB slB (fun j hj => ?_)
   obtain ⟨hj, hno⟩ := hj
   repeat (refine wkM ?_; intros)
   refine Zn rfl (fun h => ?_) (fun h => ?_)
   ·have hlt3 : j < sm.length := by have := Wa h; omega
    clear h
    have hr := hrng (gi sm (j : Int)) (Z0 (by omega))
    have hxE := hex (gi l (gi sm (j : Int))) (Z0 (by omega))
    have htk := Zjs (l := l) hlt3
    rw [← hE] at htk
    have heE : edI l (gi sm (j : Int)) ∈ E := by
     rw [hE]
     exact List.mem_map.2 ⟨_, Z0 (by omega), rfl⟩
    have hne3 : sm ≠ [] := fun h0 => by rw [h0] at hlt3; simp at hlt3
    have hne : l ≠ [] := fun h0 => by rw [h0] at hr; simp at hr; omega
    obtain ⟨bs, os, cs, hvs, hcs, hrs⟩ := hs.blk (k := 0) hne3 []
    injection hvs with e1 e2 e3
    subst e1
    subst e3
    obtain ⟨bw, ow, cw, hvw, hcw, hrow⟩ := hv.blk (k := 4) hne []
    injection hvw with e1 e2 e3
    subst e1
    subst e3
    have hrs' : ∀ L, RowC w L bs os Int (eI .i64) sm := fun L => ⟨fun w' hw' => hrs.out w' (hw'.sub (Wk _))⟩
    have hrow' : ∀ L, RowC w L bw ow Za Ze l := fun L => ⟨fun w' hw' => hrow.out w' (hw'.sub (Wk _))⟩
    repeat (refine wkM ?_; intros)
    rename_i b19
    have hIi : (((gi sm (j : Int)).toNat : Nat) : Int) = gi sm (j : Int) := by omega
    obtain ⟨e, he⟩ : ∃ e : Ed, e = edI l (gi sm (j : Int)) := ⟨_, rfl⟩
    rw [← he] at htk heE
    have eu : e.u = (gi l (gi sm (j : Int))).From := by rw [he]; rfl
    have ev : e.v = (gi l (gi sm (j : Int))).To := by rw [he]; rfl
    have ew : e.w = wgt (gi l (gi sm (j : Int))) := by rw [he]; rfl
    have ei : (e.i : Int) = gi sm (j : Int) := by rw [he]; exact hIi
    generalize gi l (gi sm (j : Int)) = x at *
    generalize gi sm (j : Int) = ii at *
    have hwx : -2147483648 ≤ wgt x ∧ wgt x ≤ 2147483648 := by
     have h1 := hxE.s
     have h2 := hxE.r
     have h3 := hxE.l
     unfold wgt
     omega
    obtain ⟨bv, hB⟩ := hpres x.To (by rw [← ev]; exact hp1 e heE)
    have hgo : hit Q.s e = none → ∀ f ∈ E.take (j + 1), hit Q.s f = none := fun h0 f hf => by
     rw [htk] at hf
     rcases List.mem_append.1 hf with hf | hf
     ·exact hno f hf
     ·rw [Wo] at hf
      rw [hf]
      exact h0
    simp only [hm.s]
    cases hA : Q.s x.From with
    | none =>
     have hh : hit Q.s e = none := by
      unfold hit
      rw [eu, hA]
     simp only [Option.isSome_none]
     refine jD 13 13 (h := ?_)
     (repeat (refine wkH ?_))
     refine Zo ?_
     refine Zr ?_
     repeat (refine wkO ?_; intros)
     exact Zj (j + 1) ⟨hlt3, hgo hh⟩ sbB slB (by show sm.length - (j + 1) < sm.length - j; omega)
    | some av =>
     have hav := hQB.1 _ _ hA
     simp only [Option.isSome_some, Option.getD_some]
     refine jD 13 13 (h := ?_)
     (repeat (first | refine wkH ?_ | (refine tC rfl rfl ?_ ?_; focus (exact hxE))))
     simp only [hm.s, hB, Option.getD_some]
     (repeat (first | refine wkH ?_ | (refine tC rfl rfl ?_ ?_; focus (exact hxE))))
     refine Zo ?_
     refine Zr ?_
     by_cases hc : av + wgt x < bv
     ·have hh : hit Q.s e = some (av + wgt x) := by
       unfold hit
       rw [eu, ev, ew, hA, hB]
       exact if_pos hc
      simp only [Wc hc]
      repeat (refine wkM ?_; intros)
      have hmb : MatS { Q with by' := upd Q.by' e.v (some e) } a (mput b x.To ii) := ⟨hm.s, fun v => by
       rw [ZaB, ← ev]
       unfold upd
       simp only
       by_cases h9 : v = e.v
       ·rw [if_pos h9, if_pos h9, Option.map_some, ei]
       ·rw [if_neg h9, if_neg h9]
        exact hm.b v⟩
      have hbad : FrOk E ds (sz + 1) ii { Q with by' := upd Q.by' e.v (some e) } := ⟨(show Q.n ≤ 4096 by omega), fun h => by omega, fun _ => ⟨e, heE, ei.symm, ⟨_, by rw [← hQ]; exact hh⟩, by rw [← hQ]⟩⟩
      refine Zz rfl (Zae rfl) (Zl rfl) (fun w hw => ⟨⟨_, ii, m1, m2, a, _, hE ▸ hbad, hmb⟩, rfl, hw.sub ?_⟩)
      exact slB
     ·have hh : hit Q.s e = none := by
       unfold hit
       rw [eu, ev, ew, hA, hB]
       exact if_neg hc
      simp only [We hc]
      repeat (refine wkO ?_; intros)
      exact Zj (j + 1) ⟨hlt3, hgo hh⟩ sbB slB (by show sm.length - (j + 1) < sm.length - j; omega)
   ·have hge : j = sm.length := by have := Wb h; omega
    subst hge
    have htk : E.take sm.length = E := by rw [← hEl, List.take_length]
    rw [htk] at hno
    have hgood : FrOk E ds (sz + 1) (-1) Q := ⟨by omega, fun _ => ⟨hSQ, hno, fun t ht => by rw [hQ]; exact ZcL ⟨0, if_pos ht, Int.le_refl _⟩ (sz + 1)⟩, fun h => absurd rfl h⟩
    repeat (refine wkM ?_; intros)
    refine Zz rfl (Zae rfl) (Zl rfl) (fun w hw => ⟨⟨_, -1, m1, m2, a, b, hE ▸ hgood, hm⟩, rfl, hw.sub ?_⟩)
    exact slB
  ·exfalso
   obtain ⟨Lb, hLb⟩ := Zfu f ds
   have hall := (Zfp E ds).all (fun t ht => ⟨0, if_pos ht, Int.le_refl _⟩) hf (L := Lb) hLb hV2
   have hno := (hS0 V.length).noHit hall
   have hs1 := Ze3 hno
   have hlt := hup V.length (by omega)
   rw [show (sr0 ds).rounds E (V.length + 1) = ((sr0 ds).rounds E V.length).round E from rfl, hs1] at hlt
   omega
instance ZGa (w0 : World) (L : List Blk) (p : Option Addr) (n cp : Nat) (h : Sl) (v2 : Value) (l : List Za) (sm ds : List Int) (sz : Nat) [k1 : LstC w0 L (.slice p n cp) Za Ze l] [k2 : LstC w0 L (.slice h.a h.len h.cap) Int (eI .i64) sm] [k3 : LstC w0 L v2 Int (eI .i64) ds] : SpecR prog w0 L 216 [.agg (ZO ⟨⟨p, n, cp⟩, h, (sz : Nat)⟩), v2] (FrS l sm ds (sz + 1)) (fun x => .tuple #[.agg (vSr (some x.m1) (some x.m2)), .int .i64 x.r]) (fun x => [⟨x.m2, .obj (mII x.b), 326⟩, ⟨x.m1, .obj (mII x.a), 326⟩])
  (l.length ≤ 6 ∧ sm.length ≤ 6 ∧ (∀ k ∈ sm, 0 ≤ k ∧ k < l.length) ∧ (∀ x ∈ l, ExB x) ∧ ds.length ≤ 1048576 ∧ sz ≤ 12 ∧ ((∀ e ∈ edL l sm, e.v ∈ ds) ∨ ((∃ f, PotE (edL l sm) f) ∧ ∃ V : List Int, V.length ≤ sz ∧ ∀ v b, Rch (edL l sm) (· ∈ ds) v b → v ∈ V))) := ⟨fun hq w hw =>
 Zrc p n cp h v2 l sm ds sz w (k1.out w hw) (k2.out w hw) (k3.out w hw) hq.1 hq.2.1 hq.2.2.1 hq.2.2.2.1 hq.2.2.2.2.1 hq.2.2.2.2.2.1 hq.2.2.2.2.2.2⟩
end
section
def RevI (xs ys : List Int) (i : Nat) : Prop := ys.length = xs.length ∧ ∀ p : Nat, p < xs.length → gi ys (p : Int) = if p < i ∨ xs.length ≤ p + i then gi xs ((xs.length - 1 - p : Nat) : Int) else gi xs (p : Int)
theorem RevI.end_ {xs ys : List Int} {i : Nat} (h : RevI xs ys i) (hi : xs.length ≤ 2 * i + 1) (hi2 : 2 * i ≤ xs.length) : ys = xs.reverse := by
 obtain ⟨h1, h2⟩ := h
 apply List.ext_getElem
 ·rw [List.length_reverse, h1]
 ·intro p hp hq
  rw [h1] at hp
  have h3 := h2 p hp
  rw [Zk (by rw [h1]; exact hp)] at h3
  rw [h3, List.getElem_reverse]
  split
  ·rw [Zk (by omega)]
  ·have : xs.length - 1 - p = p := by omega
   rw [Zk hp]
   simp only [this]
theorem Zlg {ys : List Int} {j p : Nat} {v : Int} (hj : j < ys.length) (hp : p < ys.length) : gi (ys.set j v) (p : Int) = if p = j then v else gi ys (p : Int) := by
 rw [Zk (by rw [List.length_set]; exact hp), List.getElem_set]
 by_cases h : p = j
 ·rw [if_pos h.symm, if_pos h]
 ·rw [if_neg (fun h2 => h h2.symm), if_neg h, Zk hp]
theorem RevI.step {xs ys : List Int} {i j : Nat} (h : RevI xs ys i) (hj : j + i + 1 = xs.length) (hlt : i < j) : RevI xs ((ys.set i (gi ys (j : Int))).set j (gi ys (i : Int))) (i + 1) := by
 obtain ⟨h1, h2⟩ := h
 refine ⟨by rw [List.length_set, List.length_set, h1], fun p hp => ?_⟩
 rw [Zlg (by rw [List.length_set]; omega) (by rw [List.length_set]; omega), Zlg (by omega) (by omega)]
 have a1 := h2 i (by omega)
 have a2 := h2 j (by omega)
 rw [if_neg (by omega)] at a1 a2
 by_cases c1 : p = j
 ·subst c1
  rw [if_pos rfl, if_pos (by omega), a1]
  congr 2
  omega
 ·rw [if_neg c1]
  by_cases c2 : p = i
  ·subst c2
   rw [if_pos rfl, if_pos (by omega), a2]
   congr 2
   omega
  ·rw [if_neg c2, h2 p hp]
   by_cases c3 : p < i ∨ xs.length ≤ p + i
   ·rw [if_pos c3, if_pos (by omega)]
   ·rw [if_neg c3, if_neg (by omega)]
instance ZDm : CallC prog 267 := ⟨by kernel_rfl⟩
abbrev RvS (xs : List Int) (s : SlS (eI .i64) 1 xs) : Type := { s' : SlS (eI .i64) 1 xs.reverse // vSl s' = vSl s }
set_option maxHeartbeats 4000000 in
theorem Zqj (w0 w : World) (L L1 : List Blk) (xs : List Int) (s : SlS (eI .i64) 1 xs) (T : TypeId) [hd : OwnS T s L L1] (hl : xs.length ≤ 1048576) (hw : Own w0 L w) :
  Calls prog 267 [vSl s].toArray w (RetX w0 (RvS xs s) (fun _ => .tuple #[]) (fun s' => mS T s'.1 ++ L1)) := by
 have hw1 := hw.perm hd.out
 rcases s.cases T with ⟨rfl, hv, hm⟩ | ⟨b, c, sp, h1, hv, hm, hne⟩
 ·suffices h : Calls prog 267 [.slice none 0 0].toArray w (RetX w0 (RvS [] s) (fun _ => .tuple #[]) (fun s' => mS T s'.1 ++ L1)) by
   rw [← hv] at h
   exact h
  refine Z2 Tryz.func267 rfl Tryz.ntmps267 rfl hw1 ?_
  repeat (refine wkO ?_; intros)
  refine Zq (S := Unit) (fun _ => True) (fun _ => [(2, .int .i64 0), (3, .int .i64 (-1))]) (fun _ => mS T s ++ L1) (fun _ => 0) () trivial sbB slB (fun _ _ => ?_)
  repeat (refine wkM ?_; intros)
  try simp only [We (show ¬ (0 : Int) < -1 by decide)]
  repeat (refine wkM ?_; intros)
  exact Zar rfl (fun w hw => ⟨⟨s, rfl⟩, rfl, hw⟩)
 ·suffices h : Calls prog 267 [.slice (some ⟨b, 0, none⟩) xs.length c].toArray w (RetX w0 (RvS xs s) (fun _ => .tuple #[]) (fun s' => mS T s'.1 ++ L1)) by
   rw [← hv] at h
   exact h
  rw [hm] at hw1
  have hpos : 0 < xs.length := List.length_pos_iff.2 hne
  refine Z2 Tryz.func267 rfl Tryz.ntmps267 rfl hw1 ?_
  repeat (refine wkO ?_; intros)
  refine Zq (S := (i : Nat) × { ys : List Int // RevI xs ys i }) (fun q => 2 * q.1 ≤ xs.length) (fun q => [(0, .slice (some ⟨b, 0, none⟩) xs.length c), (2, .int .i64 (q.1 : Nat)), (3, .int .i64 ((xs.length : Int) - 1 - q.1))]) (fun q => ⟨b, row (eI .i64) q.2.1 sp, T⟩ :: L1) (fun q => xs.length - q.1) ⟨0, ⟨xs, rfl, fun p hp => by rw [if_neg (by omega)]⟩⟩ (by simp) (show Sub _ [(0, .slice (some ⟨b, 0, none⟩) xs.length c), (2, .int .i64 ((0 : Nat) : Int)), (3, .int .i64 ((xs.length : Int) - 1 - ((0 : Nat) : Int)))] from sbB) slB (fun q hq => ?_)
  obtain ⟨i, ⟨ys, hy⟩⟩ := q
  simp only at hq ⊢
  have hyl := hy.1
  repeat (refine wkM ?_; intros)
  refine Zn rfl (fun h => ?_) (fun h => ?_)
  ·have hlt : (i : Int) < (xs.length : Int) - 1 - i := Wa h
   clear h
   obtain ⟨j, hj⟩ : ∃ j, j + i + 1 = xs.length := ⟨xs.length - 1 - i, by omega⟩
   have ej : (xs.length : Int) - 1 - (i : Int) = (j : Int) := by omega
   rw [ej]
   have hst := hy.step hj (by omega)
   have hj1 : ((i : Int)).toNat < ys.length := by omega
   have hj2 : ((j : Int)).toNat < ys.length := by omega
   repeat (refine wkM ?_; intros)
   (refine ZfP [(true, [0, 1, 2, 3, 4, 5, 6]), (false, [7]), (true, [8, 9, 10]), (false, [11]), (true, [12])] [13, 14, 15] (h := ?_); refine wkS ?_)
   (repeat (refine wkH ?_))
   refine Zo ?_
   refine eR rfl ?_ ?_
   ·omega
   refine uS rfl rfl ?_ ?_
   ·omega
   refine eR rfl ?_ ?_
   ·rw [List.length_set]; omega
   refine Zbq ?_
   simp only [Int.toNat_natCast]
   repeat (refine wkO ?_; intros)
   exact Zj ⟨i + 1, ⟨_, hst⟩⟩ (by show 2 * (i + 1) ≤ xs.length; omega) (show Sub _ [(0, .slice (some ⟨b, 0, none⟩) xs.length c), (2, .int .i64 ((i + 1 : Nat) : Int)), (3, .int .i64 ((xs.length : Int) - 1 - ((i + 1 : Nat) : Int)))] from sbB) slB (by show xs.length - (i + 1) < xs.length - i; omega)
  ·have hge : ¬ (i : Int) < (xs.length : Int) - 1 - i := Wb h
   obtain rfl := hy.end_ (by omega) hq
   have hsl : xs.reverse.length = xs.length := List.length_reverse
   repeat (refine wkM ?_; intros)
   exact Zar rfl (fun w hw => ⟨⟨SlS.at_ b c sp (by rw [hsl]; exact h1) (fun h0 => hne (List.reverse_eq_nil_iff.1 h0)), by rw [hv]; show Value.slice _ xs.reverse.length c = _; rw [hsl]⟩, rfl, hw⟩)
instance ZES (w0 : World) (L L1 : List Blk) (xs : List Int) (s : SlS (eI .i64) 1 xs) (T : TypeId) [hd : OwnS T s L L1] : SpecX prog w0 L 267 [vSl s] (RvS xs s) (fun _ => .tuple #[]) (fun s' => mS T s'.1 ++ L1) (xs.length ≤ 1048576) := ⟨fun hp w hw => Zqj w0 w L L1 xs s T hp hw⟩
inductive BkM (l : List Za) (b : List (Int × Int)) (t0 : Int) : Int → List Int → Prop
 | nil : BkM l b t0 t0 []
 | cons {v k : Int} {r : List Int} : v ≠ t0 → mget b v = some k → 0 ≤ k → k < l.length → (gi l k).To = v → BkM l b t0 (gi l k).From r → BkM l b t0 v (k :: r)
theorem Zf6 {l : List Za} {sm : List Int} (hr : ∀ k ∈ sm, 0 ≤ k ∧ k < l.length) {e : Ed} (h : e ∈ edL l sm) : 0 ≤ (e.i : Int) ∧ (e.i : Int) < l.length ∧ (gi l (e.i : Int)).From = e.u ∧ (gi l (e.i : Int)).To = e.v ∧ wgt (gi l (e.i : Int)) = e.w := by
 obtain ⟨k, hk, rfl⟩ := List.mem_map.1 h
 have h1 := hr k hk
 have h2 : (((edI l k).i : Nat) : Int) = k := by
  show ((k.toNat : Nat) : Int) = k
  omega
 rw [h2]
 exact ⟨h1.1, h1.2, rfl, rfl, rfl⟩
theorem Zuj {l : List Za} {sm : List Int} (hr : ∀ k ∈ sm, 0 ≤ k ∧ k < l.length) {q : Sr} {a b : List (Int × Int)} (hm : MatS q a b) {t0 v : Int} {p : List Ed} (h : Bk q t0 v p) (he : ∀ e ∈ p, e ∈ edL l sm) : BkM l b t0 v (p.map fun e => (e.i : Int)) := by
 induction h with
 | nil => exact .nil
 | @cons v e p h1 h2 h3 h4 ih =>
  obtain ⟨a1, a2, a3, a4, a5⟩ := Zf6 hr (he e (.head _))
  refine .cons h1 (by rw [hm.b, h2]; rfl) a1 a2 (by rw [a4, h3]) ?_
  rw [a3]
  exact ih fun f hf => he f (.tail _ hf)
theorem BkM.len0 {l : List Za} {b : List (Int × Int)} {t0 v : Int} {r : List Int} (h : BkM l b t0 v r) : r = [] ↔ v = t0 := by
 cases h with
 | nil => simp
 | cons h1 => simp [h1]
set_option maxHeartbeats 8000000 in
theorem Zrg (p : Option Addr) (n cp : Nat) (hs : Sl) (z : Int) (m1 : Option Nat) (m2 : Nat) (l : List Za) (b : List (Int × Int)) (t0 v : Int) (r : List Int) (w : World) (hv : ArgS w (.slice p n cp) Ze l) (hl : l.length ≤ 6) (hb : w.heap[m2]? = some (mII b)) (hB : BkM l b t0 v r) (hrl : r.length ≤ 4096) :
  Calls prog 217 [.agg (ZO ⟨⟨p, n, cp⟩, hs, z⟩), .agg (vSr m1 (some m2)), .int .i64 t0, .int .i64 v].toArray w (RetM (SlS (eI .i64) 1 r.reverse) (fun s => vSl s) (fun s => mS 3 s) w) := by
 obtain ⟨p', cp', hf1⟩ := hv.form
 injection hf1 with f1 f2 f3
 subst f1
 subst f2
 subst f3
 have fb := FoO.mk hb
 refine Zg Tryz.func217 rfl Tryz.ntmps217 rfl ?_
 repeat (refine wkM ?_; intros)
 rename_i b4 b5
 refine Zq (S := (dn : List Int) × Int × List Int × SlS (eI .i64) 1 dn) (fun q => q.1 ++ q.2.2.1 = r ∧ BkM l b t0 q.2.1 q.2.2.1) (fun q => [(2, .int .i64 t0), (3, .int .i64 q.2.1), (4, .pointer (some ⟨b4, 0, none⟩)), (5, .pointer (some ⟨b5, 0, none⟩)), (9, vSl q.2.2.2)]) (fun q => mS 3 q.2.2.2 ++ [⟨b5, vSr m1 (some m2), 328⟩, ⟨b4, ZO ⟨⟨p, l.length, cp⟩, hs, z⟩, 324⟩]) (fun q => q.2.2.1.length) ⟨[], v, r, SlS.no⟩ ⟨rfl, hB⟩ sbB suB (fun q hq => ?_)
 obtain ⟨dn, x, rest, o⟩ := q
 obtain ⟨hr, hx⟩ := hq
 simp only at hr hx o ⊢
 have hlen : dn.length + rest.length ≤ 4096 := by
  rw [← hr, Wp] at hrl
  exact hrl
 repeat (refine wkM ?_; intros)
 cases hx with
 | nil =>
  simp only [Wc (show t0 = t0 from rfl), Bool.not_true]
  rw [Wh] at hr
  subst hr
  repeat (refine wkM ?_; intros)
  refine sZ rfl rfl (show dn.length ≤ 1048576 by omega) ?_
  intro o'
  repeat (refine wkM ?_; intros)
  refine Zf rfl rfl (fun w hw => ⟨o'.1, ?_, hw.sub suB⟩)
  show Ending.returned (vSl o) = Ending.returned (vSl o'.1)
  rw [o'.2]
 | @cons _ k rest' h1 h2 h3 h4 h5 h6 =>
  simp only [We h1, Bool.not_false]
  rw [Wu] at hlen
  have hne : l ≠ [] := fun h0 => by rw [h0] at h4; simp at h4; omega
  obtain ⟨bw, ow, cw, hvw, hcw, hrow⟩ := hv.blk (k := 4) hne []
  injection hvw with e1 e2 e3
  subst e1
  subst e3
  have hrow' : ∀ L, RowC w L bw ow Za Ze l := fun L => ⟨fun w' hw' => hrow.out w' (hw'.sub (Wk _))⟩
  repeat (refine wkM ?_; intros)
  simp only [h2, Option.getD_some]
  (refine Zao (.v [0, 1, 4, 5, 6, 7, 8, 9] (.e1 2 (.e1 3 (.e1 10 (.e1 11 (.fin)))))) ([⟨b4, ZO ⟨⟨some ⟨bw, ow, none⟩, l.length, cp⟩, hs, z⟩, 324⟩]) (h := ?_); refine wkX ?_)
  (repeat (refine wkH ?_))
  dsimp only
  (repeat (refine wkH ?_))
  repeat (refine wkT ?_; intros)
  refine eU rfl rfl ?_ ?_ ?_ ?_
  ·rfl
  ·rfl
  ·exact ⟨by decide, by omega, by omega⟩
  intro o'
  repeat (refine wkT ?_; intros)
  repeat (refine wkM ?_; intros)
  exact Zj ⟨dn ++ [k], (gi l k).From, rest', o'⟩ ⟨by rw [List.append_assoc]; exact hr, h6⟩ sbB suB (by show rest'.length < (k :: rest').length; simp)
instance ZF3 (w0 : World) (L : List Blk) (p : Option Addr) (n cp : Nat) (hs : Sl) (z : Int) (m1 : Option Nat) (m2 : Nat) (l : List Za) (b : List (Int × Int)) (t0 v : Int) [k1 : LstC w0 L (.slice p n cp) Za Ze l] [k2 : AtO w0 L m2 (mII b)] : SpecR prog w0 L 217 [.agg (ZO ⟨⟨p, n, cp⟩, hs, z⟩), .agg (vSr m1 (some m2)), .int .i64 t0, .int .i64 v] ((r : { r : List Int // BkM l b t0 v r }) × SlS (eI .i64) 1 r.1.reverse) (fun s => vSl s.2) (fun s => mS 3 s.2) (l.length ≤ 6 ∧ ∃ r, BkM l b t0 v r ∧ r.length ≤ 4096) := ⟨fun hp w hw => by
 obtain ⟨hl, r, hr, hrl⟩ := hp
 exact (Zrg p n cp hs z m1 m2 l b t0 v r w (k1.out w hw) hl (k2.out w hw) hr hrl).mono fun e w' ⟨s, he, ho⟩ => ⟨⟨⟨r, hr⟩, s⟩, he, ho⟩⟩
def wS (l : List Za) : List Int → Int
 | [] => 0
 | k :: r => wgt (gi l k) + wS l r
theorem Zf7 (l : List Za) (k : Int) : ∀ r : List Int, wS l (r ++ [k]) = wS l r + wgt (gi l k)
 | [] => by simp [wS]
 | j :: r => by
  rw [Wf, wS, Zf7 l k r, wS]
  omega
def FwdM (l : List Za) : Int → List Int → Int → Prop
 | a, [], c => a = c
 | a, k :: r, c => (0 ≤ k ∧ k < l.length) ∧ (gi l k).From = a ∧ FwdM l (gi l k).To r c
theorem FwdM.snoc {l : List Za} {k c : Int} (hk : 0 ≤ k ∧ k < l.length) (hc : (gi l k).To = c) : ∀ {r : List Int} {a : Int}, FwdM l a r (gi l k).From → FwdM l a (r ++ [k]) c
 | [], _, h => ⟨hk, (show _ = (gi l k).From from h).symm, hc⟩
 | _ :: _, _, h => ⟨h.1, h.2.1, h.2.2.snoc hk hc⟩
theorem BkM.fwd {l : List Za} {b : List (Int × Int)} {t0 v : Int} {r : List Int} (h : BkM l b t0 v r) : FwdM l t0 r.reverse v := by
 induction h with
 | nil => exact rfl
 | cons h1 h2 h3 h4 h5 h6 ih =>
  rw [List.reverse_cons]
  exact ih.snoc ⟨h3, h4⟩ h5
theorem ZrI {x : Za} (h : ExB x) : -2147483648 ≤ wgt x ∧ wgt x ≤ 2147483648 := by
 have h1 := h.s
 have h2 := h.r
 have h3 := h.l
 unfold wgt
 omega
set_option maxHeartbeats 8000000 in
theorem Zqc (v v2 : Value) (l : List Za) (r : List Int) (a c : Int) (w : World) (hv : ArgS w v Ze l) (hv2 : ArgS w v2 (eI .i64) r) (hl : l.length ≤ 6) (hrl : r.length ≤ 4096) (hex : ∀ x ∈ l, ExB x) (hF : FwdM l a r c) :
  Calls prog 164 [v, v2, .int .i64 a, .int .i64 c].toArray w (Ret (.tuple #[.int .i64 (wS l r), .int .i64 0]) w) := by
 obtain ⟨p, cp, rfl⟩ := hv.form
 obtain ⟨p2, cp2, rfl⟩ := hv2.form
 refine Zg Tryz.func164 rfl Tryz.ntmps164 rfl ?_
 repeat (refine wkM ?_; intros)
 refine Zq (S := List Int × Int × List Int) (fun q => q.1 ++ q.2.2 = r ∧ FwdM l q.2.1 q.2.2 c ∧ (-(2147483648 * (q.1.length : Int)) ≤ wS l q.1 ∧ wS l q.1 ≤ 2147483648 * (q.1.length : Int))) (fun q => [(0, .slice p l.length cp), (3, .int .i64 c), (8, .int .i64 (wS l q.1)), (10, .int .i64 q.2.1), (14, .slice p2 r.length cp2), (15, .int .i64 r.length), (16, .int .i64 (q.1.length : Nat))]) (fun _ => []) (fun q => q.2.2.length) ([], a, r) ⟨rfl, hF, by simp [wS], by simp [wS]⟩ sbB slB (fun q hq => ?_)
 obtain ⟨dn, at', rest⟩ := q
 obtain ⟨hr, hf, hb⟩ := hq
 simp only at hr hf hb ⊢
 have hlen : dn.length + rest.length = r.length := by rw [← hr, Wp]
 repeat (refine wkM ?_; intros)
 refine Zn rfl (fun h => ?_) (fun h => ?_)
 ·have hlt : dn.length < r.length := by have := Wa h; omega
  clear h
  cases rest with
  | nil => rw [Wx] at hlen; omega
  | cons k rest' =>
   obtain ⟨⟨k1, k2⟩, k3, k4⟩ := hf
   have hgk : gi r (dn.length : Int) = k := by
    rw [Zk hlt]
    simp only [← hr]
    rw [List.getElem_append_right (Wl _)]
    simp
   have hne : l ≠ [] := fun h0 => by rw [h0] at k2; simp at k2; omega
   have hner : r ≠ [] := fun h0 => by rw [h0] at hlt; simp at hlt
   obtain ⟨bs, os, cs, hvs, hcs, hrs⟩ := hv2.blk (k := 0) hner []
   injection hvs with e1 e2 e3
   subst e1
   subst e3
   obtain ⟨bw, ow, cw, hvw, hcw, hrow⟩ := hv.blk (k := 4) hne []
   injection hvw with e1 e2 e3
   subst e1
   subst e3
   have hrs' : ∀ L, RowC w L bs os Int (eI .i64) r := fun L => ⟨fun w' hw' => hrs.out w' (hw'.sub (Wk _))⟩
   have hrow' : ∀ L, RowC w L bw ow Za Ze l := fun L => ⟨fun w' hw' => hrow.out w' (hw'.sub (Wk _))⟩
   have hxE := hex (gi l k) (Z0 (by omega))
   have hwb := ZrI hxE
   repeat (refine wkM ?_; intros)
   simp only [hgk, We (show ¬ k < 0 by omega)]
   repeat (refine wkM ?_; intros)
   simp only [We (show ¬ (l.length : Int) ≤ k by omega)]
   repeat (refine wkM ?_; intros)
   simp only [Wc k3, Bool.not_true]
   repeat (refine wkM ?_; intros)
   (refine Zao (.v [0, 1, 2, 3, 4, 5, 6, 7, 8, 9, 10, 11] (.e1 12 (.e1 13 (.fin)))) (_) (h := ?_); refine wkX ?_)
   (repeat (first | refine wkH ?_ | (refine tC rfl rfl ?_ ?_; focus (exact hxE))))
   repeat (refine wkT ?_; intros)
   rw [← Zf7]
   repeat (refine wkO ?_; intros)
   have hls : (dn ++ [k]).length = dn.length + 1 := by simp
   exact Zj (dn ++ [k], (gi l k).To, rest') ⟨by rw [List.append_assoc]; exact hr, k4, by
    rw [Zf7, hls]
    omega⟩ (by simp only [hls]; exact sbB) slB (by show rest'.length < (k :: rest').length; simp)
 ·have hge : rest = [] := by
   have h1 : ¬ (dn.length : Int) < (r.length : Int) := Wb h
   exact List.length_eq_zero_iff.1 (by omega)
  subst hge
  rw [Wh] at hr
  subst hr
  have hac : at' = c := hf
  subst hac
  repeat (refine wkM ?_; intros)
  try simp only [Wc (show at' = at' from rfl), Bool.not_true]
  repeat (refine wkM ?_; intros)
  exact Zz rfl (Zl rfl) (Zl rfl) (fun w hw => Zi hw)
instance ZF9 (w0 : World) (L : List Blk) (v v2 : Value) (l : List Za) (r : List Int) (a c : Int) [k1 : LstC w0 L v Za Ze l] [k2 : LstC w0 L v2 Int (eI .i64) r] : SpecM prog w0 L 164 [v, v2, .int .i64 a, .int .i64 c] (.tuple #[.int .i64 (wS l r), .int .i64 0]) (l.length ≤ 6 ∧ r.length ≤ 4096 ∧ (∀ x ∈ l, ExB x) ∧ FwdM l a r c) := ⟨fun hp w hw => Zqc v v2 l r a c w (k1.out w hw) (k2.out w hw) hp.1 hp.2.1 hp.2.2.1 hp.2.2.2⟩
theorem Zo8 (v : Value) (a c : Int) (w : World) : Calls prog 164 [v, .slice none 0 0, .int .i64 a, .int .i64 c].toArray w (Ret (.tuple #[.int .i64 0, .int .i64 (if a = c then 0 else 30)]) w) := by
 refine Zg Tryz.func164 rfl Tryz.ntmps164 rfl ?_
 repeat (refine wkM ?_; intros)
 refine Zq (S := Unit) (fun _ => True) (fun _ => [(3, .int .i64 c), (8, .int .i64 0), (10, .int .i64 a), (15, .int .i64 0), (16, .int .i64 0)]) (fun _ => []) (fun _ => 0) () trivial sbB slB (fun _ _ => ?_)
 repeat (refine wkM ?_; intros)
 try simp only [We (show ¬ (0 : Int) < 0 by decide)]
 repeat (refine wkM ?_; intros)
 by_cases h : a = c
 ·rw [if_pos h]
  simp only [Wc h, Bool.not_true]
  repeat (refine wkM ?_; intros)
  exact Zz rfl (Zl rfl) (Zl rfl) (fun w hw => Zi hw)
 ·rw [if_neg h]
  simp only [We h, Bool.not_false]
  repeat (refine wkM ?_; intros)
  exact Zz rfl (Zl rfl) (Zl rfl) (fun w hw => Zi hw)
end
end Go.Vt
