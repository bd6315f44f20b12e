/- that objects are reconstructed from their reports (part 17 of 29.) Conditions: those that each statement names. -/
import Derived.Test.YtjicdlilgjdefaaGreatDoorKJ1
import Derived.Test.YtjicdlilgjdefaaGreatDoorKJ11
import Derived.Test.YtjicdlilgjdefaaGreatDoorKJ13
import Derived.Test.YtjicdlilgjdefaaGreatDoorKJ14
import Derived.Test.YtjicdlilgjdefaaGreatDoorKJ16
set_option linter.unusedSimpArgs false
set_option linter.unusedVariables false
set_option maxHeartbeats 2000000
set_option maxRecDepth 100000
namespace Go.Vt
open Go.RowKit Go.Proofs
open Go.Proofs.Tryz (prog)
section
theorem Zsc (xs : List Za) (j : Nat) : swpEx xs j = swpG xs j := rfl
theorem Zly : ∀ (j : Nat) (xs : List Za), dwnEx xs j = dwnG cmpEx xs j
 | 0, _ => rfl
 | j + 1, xs => by rw [dwnEx, dwnG, Zly j, Zsc]
theorem ZhS (xs : List Za) : ∀ i, srtEx xs i = srtG cmpEx xs i
 | 0 => rfl
 | i + 1 => by rw [srtEx, srtG, Zly, ZhS xs i]
def leEx (a b : Za) : Prop := cmpEx a b ≤ 0
theorem ZsX {a b c : Za} (h : leEx a b) (k : leEx b c) : leEx a c := Zhr h k
theorem ZnA {a b : Za} (h : leEx a b) (k : leEx b a) : a = b := by
 unfold leEx cmpEx at *
 rw [Zcw] at k
 exact ZpZ (ZhF (by omega))
def sortedE (xs : List Za) : List Za := srtEx xs (xs.length - 1)
theorem Zgf (xs : List Za) : (sortedE xs).length = xs.length := Zdd _ _
theorem ZcO (xs : List Za) : (sortedE xs).Perm xs := by
 unfold sortedE
 rw [ZhS]
 rcases Nat.eq_zero_or_pos xs.length with h | h
 ·rw [List.length_eq_zero_iff.1 h]
  exact .refl _
 ·exact ZbL _ _ _ (by omega)
theorem Zgh (xs : List Za) : (sortedE xs).Pairwise leEx := by
 refine List.pairwise_iff_getElem.2 fun p q hp hq hpq => ?_
 have hl := Zgf xs
 rw [← Zk hp, ← Zk hq]
 unfold sortedE
 rw [ZhS]
 refine ZcW (c := cmpEx) (le := leEx) (fun a b h => by unfold leEx; omega) (fun a b h => ?_) (fun _ _ _ => ZsX) xs (xs.length - 1) (by omega) p q hpq (by omega)
 unfold leEx cmpEx at *
 rw [Zcw]
 omega
theorem ZgJ {xs ys : List Za} (h : xs.Perm ys) : sortedE xs = sortedE ys :=
 Zcj (fun _ _ => ZnA) ((ZcO xs).trans (h.trans (ZcO ys).symm)) (Zgh xs) (Zgh ys)
abbrev vKsE (bm : Nat) : Value := .func (.func 259) #[] [.pointer (some ⟨bm, 0, none⟩)].toArray
instance ZzR (w0 : World) (L : List Blk) (b : Nat) : SpecR prog w0 L 206 [.map (some b)] Nat (fun bm => vKsE bm) (fun bm => [⟨bm, #[Value.map (some b)], 178⟩]) True := ⟨fun _ w _ => by
 refine Zg Tryz.func206 rfl Tryz.ntmps206 rfl ?_
 repeat (refine wkM ?_; intros)
 rename_i bm
 exact Zf rfl rfl (fun w hw => ⟨bm, rfl, hw⟩)⟩
abbrev SqEx (l : List (Za × Bool)) : Type := (ys : { ys : List Za // ys.Perm (pKE l) }) × SlS Ze 5 ys.1
instance ZCl (w0 : World) (L : List Blk) (bm b : Nat) (TB : TypeId) (l : List (Za × Bool)) [k1 : AtC w0 L bm #[.map (some b)] TB] [k2 : AtO w0 L b (mEx l)] : SpecR prog w0 L 302 [.slice none 0 0, vKsE bm] (SqEx l) (fun s => vSl s.2) (fun s => mS 122 s.2) (l.length ≤ 1048576) :=
 ⟨fun hl w hw => ZmJ bm b TB l w hl (k1.out w hw) (k2.out w hw)⟩
instance ZDy (w0 : World) (L : List Blk) (bm b : Nat) (TB : TypeId) (l : List (Za × Bool)) [k1 : AtC w0 L bm #[.map (some b)] TB] [k2 : AtO w0 L b (mEx l)] : SpecR prog w0 L 257 [vKsE bm] (SqEx l) (fun s => vSl s.2) (fun s => mS 122 s.2) (l.length ≤ 1048576) := ⟨fun hl w hw => by
 have f1 := FoC.mk (k1.out w hw)
 have f2 := FoO.mk (k2.out w hw)
 refine Zg Tryz.func257 rfl Tryz.ntmps257 rfl ?_
 repeat (first | (refine wkM ?_; intros) | (refine wnM ?_ ?_; (focus (exact hl)); intros))
 rename_i s
 exact Zf rfl rfl (fun w hw => ⟨s, rfl, hw.sub suB⟩)⟩
instance ZCN (w0 : World) (L : List Blk) (bm b : Nat) (TB : TypeId) (l : List (Za × Bool)) [k1 : AtC w0 L bm #[.map (some b)] TB] [k2 : AtO w0 L b (mEx l)] : SpecR prog w0 L 205 [vKsE bm, vFn 207] (SlS Ze 5 (sortedE (pKE l))) (fun s => vSl s) (fun s => mS 122 s) (l.length ≤ 12) := ⟨fun hl w hw => by
 have f1 := FoC.mk (k1.out w hw)
 have f2 := FoO.mk (k2.out w hw)
 refine Zg Tryz.func205 rfl Tryz.ntmps205 rfl ?_
 repeat (first | (refine wkM ?_; intros) | (refine wnM ?_ ?_; (focus (exact Wi hl (by decide))); intros))
 rename_i s
 obtain ⟨⟨ys, hp⟩, s⟩ := s
 simp only
 have hlen : ys.length ≤ 12 := by
  have := hp.length_eq
  rw [Ws] at this
  omega
 refine sZ rfl rfl ⟨hlen, fun _ _ => trivial⟩ ?_
 intro s'
 repeat (refine wkM ?_; intros)
 obtain ⟨s2, e1, e2⟩ := s'.1.like (ZgJ hp).symm
 refine Zf rfl rfl (fun w hw => ⟨s2, ?_, ?_⟩)
 ·show Ending.returned (vSl s) = Ending.returned (vSl s2)
  rw [e1, s'.2]
 ·show Own _ (mS 122 s2) w
  rw [e2]
  exact hw.sub suB⟩
end
section
instance keyId : KeyC prog 133 (kA ZX) where
 chk e x w := by kernel_rfl
 same := Zfq (fun x => rfl)
 find ev l x w := by
  obtain ⟨fs, hf⟩ : ∃ fs, prog.underlying 133 = some (.struct fs) := ⟨_, Tryz.underlying133⟩
  exact Zef hf (Ze4 fun x y w => (inferInstance : BinC prog .eql 133 (.agg (ZX x)) (.agg (ZX y)) (.bool (decide (x = y)))).run w) ev l x w
abbrev mWn (l : List (ZE × Zb)) : Obj := mapO (kA ZX) (kA Zd) l
instance ZEq : MapT prog 130 (kA ZX) (kA Zd) := ⟨trivial⟩
instance ZEr : UndC prog 130 (.map 133 35) := ⟨by kernel_rfl⟩
instance ZHi : ZeV prog 35 (kA Zd) Zas := Zjt (inferInstance : ZeroC prog 35 (.agg (Zd Zas)) (Zd Zas)).out
instance ZGj : Inhabited (ZE × Zb) := ⟨(Zci, Zas)⟩
def idR (r : Zb) : ZE := ⟨r.Object, r.Seq⟩
instance ZvJ (r : Zb) : SpecC prog 52 [.agg (Zd r)] (.agg (ZX (idR r))) True := ⟨fun _ w => by
 refine Zg Tryz.func52 rfl Tryz.ntmps52 rfl ?_
 repeat (refine wkM ?_; intros)
 exact ZV rfl rfl (fun w hw => Zi hw)⟩
def winS (m : List (ZE × Zb)) (r : Zb) : List (ZE × Zb) :=
 match mget m (idR r) with
 | none => mput m (idR r) r
 | some w => if 0 < cmpRp r w then mput m (idR r) r else m
def winR (rs : List Zb) : List (ZE × Zb) := rs.foldl winS []
theorem Zod {rs : List Zb} {m : Nat} (h : m < rs.length) : winR (rs.take (m + 1)) = winS (winR (rs.take m)) (gi rs (m : Int)) := by
 rw [Wn h, winR, List.foldl_append, Zk h]
 rfl
set_option maxHeartbeats 4000000 in
theorem Zq0 (v : Value) (rs : List Zb) (w : World) (hv : ArgS w v Zd rs) (hl : rs.length ≤ 1048576) :
  Calls prog 51 [v].toArray w (RetM Nat (fun b => .map (some b)) (fun b => [⟨b, .obj (mWn (winR rs)), 130⟩]) w) := by
 obtain ⟨p, cp, rfl⟩ := hv.form
 refine Zg Tryz.func51 rfl Tryz.ntmps51 rfl ?_
 repeat (refine wkM ?_; intros)
 rename_i b
 refine Zq (S := Nat) (fun m => m ≤ rs.length) (fun m => [(3, .map (some b)), (9, .slice p rs.length cp), (10, .int .i64 rs.length), (11, .int .i64 (m : Nat))]) (fun m => [⟨b, .obj (mWn (winR (rs.take m))), 130⟩]) (fun m => rs.length - m) 0 (Wm _) sbB slB (fun m hm => ?_)
 repeat (refine wkM ?_; intros)
 refine Zn rfl (fun h => ?_) (fun h => ?_)
 ·have hlt : m < rs.length := by have := Wa h; omega
  have hne : rs ≠ [] := fun h0 => by rw [h0] at hlt; simp at hlt
  obtain ⟨bw, ow, cw, hvw, hcw, hrow⟩ := hv.blk (k := 7) hne []
  injection hvw with e1 e2 e3
  subst e1
  subst e3
  have hrow' : ∀ L, RowC w L bw ow Zb Zd rs := fun L => ⟨fun w' hw' => hrow.out w' (hw'.sub (Wk _))⟩
  have hnx := Zod hlt
  unfold winS at hnx
  repeat (refine wkM ?_; intros)
  cases hk : mget (winR (rs.take m)) (idR (gi rs (m : Int))) with
  | none =>
   rw [hk] at hnx
   simp only [hk, Option.isSome_none, Bool.not_false]
   repeat (refine wkM ?_; intros)
   refine jD 4 4 (h := ?_)
   (repeat (refine wkH ?_))
   refine Zo ?_
   refine Zr ?_
   repeat (refine wkM ?_; intros)
   exact Zj (m + 1) hlt sbB (by rw [hnx]; exact .cons _ (.cons _ (.refl _))) (by omega)
  | some wv =>
   rw [hk] at hnx
   simp only [hk, Option.isSome_some, Bool.not_true, Option.getD_some]
   repeat (first | (refine wkM ?_; intros) | (refine wnM ?_ ?_; (focus (exact ⟨trivial, trivial⟩)); intros))
   by_cases hc : 0 < cmpRp (gi rs (m : Int)) wv
   ·simp only [if_pos hc] at hnx
    simp only [Wc hc]
    repeat (refine wkM ?_; intros)
    refine jD 4 4 (h := ?_)
    (repeat (refine wkH ?_))
    refine Zo ?_
    refine Zr ?_
    repeat (refine wkM ?_; intros)
    exact Zj (m + 1) hlt sbB (by rw [hnx]; exact .cons _ (.cons _ (.refl _))) (by omega)
   ·simp only [if_neg hc] at hnx
    simp only [We hc]
    repeat (refine wkM ?_; intros)
    exact Zj (m + 1) hlt sbB (by rw [hnx]; exact .cons _ (.cons _ (.refl _))) (by omega)
 ·have hge : m = rs.length := by have := Wb h; omega
  subst hge
  rw [List.take_length]
  repeat (refine wkM ?_; intros)
  exact Zf rfl rfl (fun w hw => ⟨b, rfl, hw⟩)
instance ZGQ (w0 : World) (L : List Blk) (v : Value) (rs : List Zb) [h : LstC w0 L v Zb Zd rs] : SpecR prog w0 L 51 [v] Nat (fun b => .map (some b)) (fun b => [⟨b, .obj (mWn (winR rs)), 130⟩]) (rs.length ≤ 1048576) := ⟨fun hl w hw => Zq0 v rs w (h.out w hw) hl⟩
end
section
instance ZGW : BsC prog 37 0 [] (row Zd [] []) 35 := ⟨fun w => by kernel_rfl⟩
theorem ZjW (v : Value) (us : List Zb) (w : World) (hv : ArgS w v Zd us) (hn : us = [] → v = .slice none 0 0) (hl : us.length ≤ 1048576) :
  Calls prog 210 [v].toArray w (RetM (SlS Zd 8 us) (fun s => vSl s) (fun s => mS 35 s) w) := by
 by_cases h0 : us = []
 ·obtain rfl := hn h0
  subst h0
  refine Zg Tryz.func210 rfl Tryz.ntmps210 rfl ?_
  repeat (refine wkM ?_; intros)
  exact Zf rfl rfl (fun w hw => ⟨SlS.no, rfl, hw⟩)
 ·obtain ⟨bw, ow, cw, rfl, hcw, hrow⟩ := hv.blk (k := 7) h0 []
  have hrow' : ∀ L, RowC w L bw ow Zb Zd us := fun L => ⟨fun w' hw' => hrow.out w' (hw'.sub (Wk _))⟩
  refine Zg Tryz.func210 rfl Tryz.ntmps210 rfl ?_
  repeat (refine wkM ?_; intros)
  refine sG rfl rfl ?_ h0 ?_ ?_ ?_ ?_ ?_
  ·rfl
  ·rfl
  ·rfl
  ·decide
  ·exact ⟨by omega, by omega⟩
  intro s'
  repeat (refine wkM ?_; intros)
  exact Zf rfl rfl (fun w hw => ⟨s', rfl, hw.sub suB⟩)
instance ZwK (w0 : World) (L : List Blk) (v : Value) (us : List Zb) [h : LstN w0 L v Zb Zd us] : SpecR prog w0 L 210 [v] (SlS Zd 8 us) (fun s => vSl s) (fun s => mS 35 s) (us.length ≤ 1048576) := ⟨fun hl w hw => ZjW v us w (h.out w hw) h.nil hl⟩
def Apart (xs : List Zb) : Prop := ∀ i : Nat, i + 1 < xs.length → gi xs ((i + 1 : Nat) : Int) ≠ gi xs (i : Int)
theorem ZhI (v : Value) (us : List Zb) (w : World) (hv : ArgS w v Zd us) (ha : Apart us) (hl : us.length ≤ 1048576) :
  Calls prog 211 [v].toArray w (Ret v w) := by
 obtain ⟨p, cp, rfl⟩ := hv.form
 refine Zg Tryz.func211 rfl Tryz.ntmps211 rfl ?_
 repeat (refine wkM ?_; intros)
 by_cases h2 : us.length < 2
 ·simp only [Wc (show (us.length : Int) < 2 by omega)]
  repeat (refine wkM ?_; intros)
  exact Zf rfl rfl (fun w hw => Zi hw)
 ·simp only [We (show ¬ (us.length : Int) < 2 by omega)]
  repeat (refine wkM ?_; intros)
  refine Zq (S := Nat) (fun m => m + 1 ≤ us.length) (fun m => [(0, .slice p us.length cp), (3, .int .i64 ((m + 1 : Nat)))]) (fun _ => []) (fun m => us.length - m) 0 (by omega) sbB slB (fun m hm => ?_)
  repeat (refine wkM ?_; intros)
  refine Zn rfl (fun h => ?_) (fun h => ?_)
  ·have hlt : m + 1 < us.length := by have := Wa h; omega
   have hne : us ≠ [] := fun h0 => by rw [h0] at hlt; simp at hlt
   obtain ⟨bw, ow, cw, hvw, hcw, hrow⟩ := hv.blk (k := 7) hne []
   injection hvw with e1 e2 e3
   subst e1
   subst e3
   have hrow' : ∀ L, RowC w L bw ow Zb Zd us := fun L => ⟨fun w' hw' => hrow.out w' (hw'.sub (Wk _))⟩
   have hap := ha m hlt
   have e1 : ((m + 1 : Nat) : Int) - 1 = (m : Int) := by omega
   repeat (refine wkM ?_; intros)
   refine jD 10 10 (h := ?_)
   (repeat (refine wkH ?_))
   simp only [e1]
   (repeat (refine wkH ?_))
   refine Zo ?_
   refine Zr ?_
   simp only [We hap]
   repeat (refine wkO ?_; intros)
   exact Zj (m + 1) (by omega) sbB slB (by omega)
  ·repeat (refine wkM ?_; intros)
   exact Zf rfl rfl (fun w hw => Zi hw)
instance Ztm (w0 : World) (L : List Blk) (v : Value) (us : List Zb) [h : LstC w0 L v Zb Zd us] : SpecM prog w0 L 211 [v] v (Apart us ∧ us.length ≤ 1048576) := ⟨fun hp w hw => ZhI v us w (h.out w hw) hp.1 hp.2⟩
theorem Zj1 {xs : List Zb} (h : xs.Nodup) : Apart (sorted xs) := fun i hi e => by
 have hn : (sorted xs).Nodup := (ZaM xs).nodup_iff.2 h
 rw [Zk hi, Zk (by omega)] at e
 have := (List.getElem_inj hn).1 e
 omega
instance ZG7 (w0 : World) (L : List Blk) (v : Value) (us : List Zb) [h : LstN w0 L v Zb Zd us] : SpecR prog w0 L 162 [v] (SlS Zd 8 (sorted us)) (fun s => vSl s) (fun s => mS 35 s) (us.length ≤ 12 ∧ us.Nodup) := ⟨fun hp w hw => by
 have := LstN.mk (w0 := w) (L := []) (fun w' hw' => (h.out w hw).to hw'.ext) h.nil
 have hsl := ZbS us
 have hp12 := hp.1
 refine Zg Tryz.func162 rfl Tryz.ntmps162 rfl ?_
 repeat (first | (refine wkM ?_; intros) | (refine wnM ?_ ?_; (focus (exact Wi hp.1 (by decide))); intros))
 rename_i s
 refine sZ rfl rfl ⟨hp.1, fun _ _ => trivial⟩ ?_
 intro s'
 obtain ⟨s', e⟩ := s'
 simp only
 have e0 : sorted us = srtRp us (us.length - 1) := rfl
 rw [← e]
 repeat (first | (refine wkM ?_; intros) | (refine wnM ?_ ?_; (focus (exact ⟨by rw [← e0]; exact Zj1 hp.2, by rw [← e0]; omega⟩)); intros))
 exact Zf rfl rfl (fun w hw => ⟨s', rfl, hw.sub suB⟩)⟩
end
section
theorem ZdE {κ α : Type} [DecidableEq κ] {x : κ} {v : α} : ∀ {l : List (κ × α)} {p : κ × α}, p ∈ mput l x v → p ∈ l ∨ p = (x, v)
 | [], p, h => by
  simp only [mput, Wo] at h
  exact .inr h
 | q :: l, p, h => by
  simp only [mput] at h
  split at h
  ·rcases List.mem_cons.1 h with h | h
   ·exact .inr h
   ·exact .inl (.tail _ h)
  ·rcases List.mem_cons.1 h with h | h
   ·exact .inl (by rw [h]; exact .head _)
   ·rcases ZdE h with h | h
    ·exact .inl (.tail _ h)
    ·exact .inr h
theorem Zfc {κ α : Type} [DecidableEq κ] {x : κ} {v : α} : ∀ (l : List (κ × α)), (mput l x v).map (·.1) = l.map (·.1) ∨ (x ∉ l.map (·.1) ∧ (mput l x v).map (·.1) = l.map (·.1) ++ [x])
 | [] => .inr ⟨by simp, rfl⟩
 | q :: l => by
  simp only [mput]
  split
  ·rename_i h
   exact .inl (by simp [h])
  ·rename_i h
   rcases Zfc (x := x) (v := v) l with h1 | ⟨h1, h2⟩
   ·exact .inl (by simp only [List.map_cons, h1])
   ·exact .inr ⟨by simp only [List.map_cons, Ww, not_or]; exact ⟨h, h1⟩, by simp only [List.map_cons, h2, Wf]⟩
structure WinOk (n : Nat) (m : List (ZE × Zb)) : Prop where
 nd : (m.map (·.1)).Nodup
 id : ∀ p ∈ m, idR p.2 = p.1
 len : m.length ≤ n
theorem Zlc {n : Nat} {m : List (ZE × Zb)} (h : WinOk n m) (r : Zb) : WinOk (n + 1) (mput m (idR r) r) := by
 refine ⟨?_, fun p hp => ?_, ?_⟩
 ·rcases Zfc (x := idR r) (v := r) m with h1 | ⟨h1, h2⟩
  ·rw [h1]; exact h.nd
  ·rw [h2]
   exact List.nodup_append.2 ⟨h.nd, by simp, fun a ha b hb => by rw [Wo] at hb; rintro rfl; exact h1 (hb ▸ ha)⟩
 ·rcases ZdE hp with h1 | rfl
  ·exact h.id p h1
  ·rfl
 ·have := ZeO m (idR r) r
  have := h.len
  omega
theorem ZfO (rs : List Zb) : WinOk rs.length (winR rs) := by
 have key : ∀ (rs : List Zb) (n : Nat) (m : List (ZE × Zb)), WinOk n m → WinOk (n + rs.length) (rs.foldl winS m) := by
  intro rs
  induction rs with
  | nil => intro n m h; exact h
  | cons r rs ih =>
   intro n m h
   rw [List.foldl_cons, Wu, show n + (rs.length + 1) = n + 1 + rs.length by omega]
   refine ih _ _ ?_
   have hw : WinOk (n + 1) m := ⟨h.nd, h.id, Nat.le_succ_of_le h.len⟩
   unfold winS
   split
   ·exact Zlc h r
   ·split
    ·exact Zlc h r
    ·exact hw
 have := key rs 0 [] ⟨List.nodup_nil, (fun p h => by cases h), Wl _⟩
 rwa [Nat.zero_add] at this
def cntL (q : List (ZE × Zb)) : List Zb := (q.map (·.2)).filter fun r => !r.Cancel
theorem Zn7 (q : List (ZE × Zb)) (p : ZE × Zb) : cntL (q ++ [p]) = if p.2.Cancel then cntL q else cntL q ++ [p.2] := by
 unfold cntL
 rw [List.map_append, List.filter_append]
 cases h : p.2.Cancel <;> simp [h]
theorem ZiX (q : List (ZE × Zb)) : (cntL q).length ≤ q.length := by
 have := List.length_filter_le (fun r : Zb => !r.Cancel) (q.map (·.2))
 rw [Ws] at this
 exact this
theorem Zns {q q' : List (ZE × Zb)} (h : q.Perm q') : (cntL q).Perm (cntL q') := (h.map _).filter _
theorem ZgU {n : Nat} {q : List (ZE × Zb)} (h : WinOk n q) : (cntL q).Nodup := by
 refine List.Pairwise.filter _ ?_
 have e : (q.map (·.2)).map idR = q.map (·.1) := by
  rw [List.map_map]
  exact List.map_congr_left fun p hp => h.id p hp
 have := h.nd
 rw [← e] at this
 exact List.Pairwise.of_map idR (fun a b hab he => hab (congrArg idR he)) this
def cntR (rs : List Zb) : List Zb := sorted (cntL (winR rs))
set_option maxHeartbeats 4000000 in
theorem ZiC (v : Value) (rs : List Zb) (w : World) (hv : ArgS w v Zd rs) (hl : rs.length ≤ 12) :
  Calls prog 103 [v].toArray w (RetM (SlS Zd 8 (cntR rs)) (fun s => vSl s) (fun s => mS 35 s) w) := by
 have := ArgC.mk hv
 have hW := ZfO rs
 have hwl := hW.len
 refine Zg Tryz.func103 rfl Tryz.ntmps103 rfl ?_
 repeat (first | (refine wkM ?_; intros) | (refine wnM ?_ ?_; (focus (exact Wi hl (by decide))); intros))
 rename_i b r
 have hcr : cntR rs = sorted (cntL (winR rs)) := rfl
 generalize winR rs = W at *
 refine Zq (S := (s : List Nat) × SlS Zd 8 (cntL (seenL W s))) (fun q => SeenOk W.length q.1) (fun q => [(3, vSl q.2), (8, .pointer (some ⟨r, 0, none⟩))]) (fun q => mS 35 q.2 ++ [⟨r, .obj (itO b W.length q.1), 130⟩, ⟨b, .obj (mWn W), 130⟩]) (fun q => W.length - q.1.length) ⟨[], SlS.no⟩ ⟨List.nodup_nil, fun i hi => by cases hi⟩ sbB slB (fun q hs => ?_)
 obtain ⟨s, o⟩ := q
 simp only at hs ⊢
 have hlen := ZaT hs.nd hs.lt
 have hcl := ZiX (seenL W s)
 rw [Zd4 W hs.lt] at hcl
 refine cX ?_
 refine cX ?_
 refine sNx rfl rfl rfl (fun hall => ?h0) (fun i hi hni => ?h1)
 case h0 =>
  have hp : (cntL (seenL W s)).Perm (cntL W) := Zns (Zcg hs.nd hs.lt hall)
  repeat (first | (refine wkM ?_; intros) | (refine wnM ?_ ?_; (focus (exact ⟨by omega, hp.nodup_iff.2 (ZgU hW)⟩)); intros))
  rename_i s2
  obtain ⟨s3, e1, e2⟩ := s2.like (hcr.trans (ZeA hp).symm)
  refine Zf rfl rfl (fun w hw => ⟨s3, ?_, ?_⟩)
  ·show Ending.returned (vSl s2) = Ending.returned (vSl s3)
   rw [e1]
  ·show Own _ (mS 35 s3) w
   rw [e2]
   exact hw.sub suB
 case h1 =>
  have hs' := hs.snoc hi hni
  have hlen' := ZaT hs'.nd hs'.lt
  rw [Wp, List.length_singleton] at hlen'
  have hnx : cntL (seenL W (s ++ [i])) = if (gi W (i : Int)).2.Cancel then cntL (seenL W s) else cntL (seenL W s) ++ [(gi W (i : Int)).2] := by
   rw [ZbT _ _ _ hi, Zn7, Zk hi]
  repeat (refine wkM ?_; intros)
  cases hc : (gi W (i : Int)).2.Cancel
  ·simp only [hc, Bool.not_false]
   rw [if_neg (by rw [hc]; decide)] at hnx
   repeat (refine wkM ?_; intros)
   refine sU rfl rfl ?_ ?_ ?_ ?_
   ·rfl
   ·rfl
   ·exact ⟨by decide, by omega, by omega⟩
   intro s'
   repeat (refine wkM ?_; intros)
   obtain ⟨s3, e1, e2⟩ := SlS.turn 35 hnx.symm s'
   exact Zj ⟨s ++ [i], s3⟩ hs' (by simp only [e1]; exact sbB) (by simp only [e2]; exact suB) (by simp only [Wp, List.length_singleton]; omega)
  ·simp only [hc, Bool.not_true]
   rw [if_pos hc] at hnx
   repeat (refine wkM ?_; intros)
   obtain ⟨s3, e1, e2⟩ := SlS.turn 35 hnx.symm o
   exact Zj ⟨s ++ [i], s3⟩ hs' (by simp only [e1]; exact sbB) (by simp only [e2]; exact suB) (by simp only [Wp, List.length_singleton]; omega)
instance Zvx (w0 : World) (L : List Blk) (v : Value) (rs : List Zb) [h : LstC w0 L v Zb Zd rs] : SpecR prog w0 L 103 [v] (SlS Zd 8 (cntR rs)) (fun s => vSl s) (fun s => mS 35 s) (rs.length ≤ 12) := ⟨fun hl w hw => ZiC v rs w (h.out w hw) hl⟩
abbrev vOf (b : Nat) : Value := .func (.func 104) #[] [.pointer (some ⟨b, 0, none⟩)].toArray
end
section
instance keyI64 : KeyC prog 3 (Value.int .i64) := ZqT (by kernel_rfl)
instance ZGS : MapT prog 383 (Value.int .i64) Value.bool := ⟨trivial⟩
instance ZGL : UndC prog 383 (.map 3 4) := ⟨by kernel_rfl⟩
instance ZFa (m : Option Nat) : LdC prog 383 #[.map m] 0 (.map m) := ⟨Zy⟩
instance ZCq : CallC prog 305 := ⟨by kernel_rfl⟩
instance Zzk : CallC prog 306 := ⟨by kernel_rfl⟩
instance ZCp : CallC prog 333 := ⟨by kernel_rfl⟩
instance ZB8 : CallC prog 334 := ⟨by kernel_rfl⟩
instance ZBB : CallC prog 355 := ⟨by kernel_rfl⟩
end
section
abbrev vKsI (bm : Nat) : Value := .func (.func 307) #[] [.pointer (some ⟨bm, 0, none⟩)].toArray
instance ZCm (w0 : World) (L : List Blk) (b : Nat) : SpecR prog w0 L 265 [.map (some b)] Nat (fun bm => vKsI bm) (fun bm => [⟨bm, #[Value.map (some b)], 383⟩]) True := ⟨fun _ w _ => by
 refine Zg Tryz.func265 rfl Tryz.ntmps265 rfl ?_
 repeat (refine wkM ?_; intros)
 rename_i bm
 exact Zf rfl rfl (fun w hw => ⟨bm, rfl, hw⟩)⟩
end
section
abbrev vTm (x : Zc) : Value := .agg (Zv (Zu x))
def TmOk (x : Zc) : Prop := M x.T ≤ 8589934592
def cmpTm (a b : Zc) : Int := orL [cq a.T b.T, Lib.compareInt a.Report.Seq b.Report.Seq]
instance ZAH (a b : Zc) : SpecC prog 157 [vTm a, vTm b] (.int .i64 (cmpTm a b)) (TmOk a ∧ TmOk b) := ⟨fun hp w => by
 obtain ⟨h1, h2⟩ := hp
 unfold TmOk at h1 h2
 refine Zg Tryz.func157 rfl Tryz.ntmps157 rfl ?_
 repeat (refine wkB ?_; intros)
 rename_i b2 b3
 (refine ZdR [([0, 1, 2, 3, 4, 5, 6, 7, 8, 9, 10, 11], [12, 13, 14])] ([⟨b3, Zh b, 56⟩, ⟨b2, Zh a, 56⟩]) (h := ?_); refine wkP ?_)
 (repeat (first | refine wkH ?_ | (refine tC rfl rfl ?_ ?_; focus (first | exact trivial | exact ⟨Wi h1 (by decide), Wi h2 (by decide)⟩))))
 repeat (first | (refine wkT ?_; intros) | (refine tC rfl rfl ?_ ?_; focus (exact ⟨rfl, by decide⟩)) | (refine uC rfl rfl ?_ ?_; focus (exact ⟨rfl, by decide⟩)) | (refine eN rfl rfl ?_ ?_; (focus (exact ⟨rfl, by decide⟩)); intro _; (try simp only [Wf, Wg, Wh])))
 repeat (refine wkB ?_; intros)
 exact Zf rfl rfl (fun w hw => Zi hw)⟩
def swpTm (xs : List Zc) (j : Nat) : List Zc := (xs.set (j + 1) (gi xs (j : Int))).set j (gi xs ((j + 1 : Nat) : Int))
def dwnTm (xs : List Zc) : Nat → List Zc
 | 0 => xs
 | j + 1 => if cmpTm (gi xs ((j + 1 : Nat) : Int)) (gi xs (j : Int)) < 0 then dwnTm (swpTm xs j) j else xs
def srtTm (xs : List Zc) : Nat → List Zc
 | 0 => xs
 | i + 1 => dwnTm (srtTm xs i) (i + 1)
theorem ZfL (xs : List Zc) (j : Nat) : (swpTm xs j).length = xs.length := by simp [swpTm]
theorem Zh7 {xs : List Zc} {j : Nat} (h : j + 1 < xs.length) {u : Zc} (hu : u ∈ swpTm xs j) : u ∈ xs := by
 unfold swpTm at hu
 rcases List.mem_or_eq_of_mem_set hu with h1 | h1
 ·rcases List.mem_or_eq_of_mem_set h1 with h2 | h2
  ·exact h2
  ·rw [h2, Zk (by omega)]
   exact List.getElem_mem _
 ·rw [h1, Zk h]
  exact List.getElem_mem _
theorem Ziw : ∀ (j : Nat) (xs : List Zc), (dwnTm xs j).length = xs.length
 | 0, _ => rfl
 | j + 1, xs => by
  rw [dwnTm]
  split
  ·rw [Ziw j, ZfL]
  ·rfl
theorem Zix : ∀ (j : Nat) (xs : List Zc), j < xs.length → ∀ u ∈ dwnTm xs j, u ∈ xs
 | 0, _, _, _, h => h
 | j + 1, xs, hj, u, h => by
  rw [dwnTm] at h
  split at h
  ·exact Zh7 hj (Zix j _ (by rw [ZfL]; omega) u h)
  ·exact h
theorem ZcA (xs : List Zc) : ∀ i, (srtTm xs i).length = xs.length
 | 0 => rfl
 | i + 1 => by rw [srtTm, Ziw, ZcA xs i]
theorem Zfm (xs : List Zc) : ∀ i, i < xs.length → ∀ u ∈ srtTm xs i, u ∈ xs
 | 0, _, _, h => h
 | i + 1, hi, u, h => by
  rw [srtTm] at h
  exact Zfm xs i (by omega) u (Zix _ _ (by rw [ZcA]; exact hi) u h)
theorem Zm8 (w0 w : World) (L1 : List Blk) (b c n : Nat) (xs : List Zc) (sp : List Value) (T : TypeId) (hn : xs.length = n) (hl : n ≤ 1048576) (hok : ∀ u ∈ xs, TmOk u) (hw : Own w0 (⟨b, row Zh xs sp, T⟩ :: L1) w) :
  Calls prog 260 [.slice (some ⟨b, 0, none⟩) n c, .int .i64 0, .int .i64 n, vFn 157].toArray w (RetX w0 Unit (fun _ => .tuple #[]) (fun _ => ⟨b, row Zh (srtTm xs (n - 1)) sp, T⟩ :: L1)) := by
 refine Z2 Tryz.func260 rfl Tryz.ntmps260 rfl hw ?_
 repeat (refine wkB ?_; intros)
 refine Zq (S := Nat) (fun m => m ≤ n - 1) (fun m => [(0, .slice (some ⟨b, 0, none⟩) n c), (1, .int .i64 0), (2, .int .i64 n), (3, vFn 157), (8, .int .i64 ((m + 1 : Nat)))]) (fun m => ⟨b, row Zh (srtTm xs m) sp, T⟩ :: L1) (fun m => n - 1 - m) 0 (Wm _) sbB slB (fun m hm => ?_)
 have hsl := ZcA xs m
 repeat (refine wkB ?_; intros)
 refine Zn rfl (fun h => ?_) (fun h => ?_)
 ·have hlt : m + 1 < n := by have := Wa h; omega
  have hmem := Zfm xs m (by omega)
  repeat (refine wkB ?_; intros)
  refine Zq (S := Nat × List Zc) (fun s => dwnTm s.2 s.1 = srtTm xs (m + 1) ∧ s.2.length = n ∧ s.1 ≤ m + 1 ∧ ∀ u ∈ s.2, TmOk u) (fun s => [(0, .slice (some ⟨b, 0, none⟩) n c), (1, .int .i64 0), (2, .int .i64 n), (3, vFn 157), (8, .int .i64 ((m + 1 : Nat))), (9, .int .i64 ((s.1 : Nat)))]) (fun s => ⟨b, row Zh s.2 sp, T⟩ :: L1) (fun s => s.1) (m + 1, srtTm xs m)
   ⟨rfl, by show (srtTm xs m).length = n; omega, Wl _, fun u hu => hok u (hmem u hu)⟩ sbB slB (fun s hs => ?_)
  obtain ⟨j, ys⟩ := s
  obtain ⟨g1, g2, g3, g4⟩ := hs
  simp only at g1 g2 g3 g4 ⊢
  repeat (refine wkB ?_; intros)
  rcases j with _ | j
  ·(refine jD 17 17 (h := ?_); (repeat (refine wkH ?_)); refine Zo ?_; (repeat (refine Z8 ?_; intro _)); refine Zr ?_)
   repeat (refine wkB ?_; intros)
   exact Zj (m + 1) (by omega) sbB (by rw [← g1]; exact Wj _) (by omega)
  ·have hj1 : ((j : Int)).toNat < ys.length := by omega
   have hj2 : (((j + 1 : Nat) : Int)).toNat < ys.length := by omega
   have e1 : ((j + 1 : Nat) : Int) - 1 = (j : Int) := by omega
   have o1 := g4 _ (by rw [Zk (show j < ys.length by omega)]; exact List.getElem_mem _ : gi ys (j : Int) ∈ ys)
   have o2 := g4 _ (by rw [Zk (show j + 1 < ys.length by omega)]; exact List.getElem_mem _ : gi ys ((j + 1 : Nat) : Int) ∈ ys)
   rw [dwnTm] at g1
   refine jD 17 17 (h := ?_)
   (repeat (refine wkH ?_))
   simp only [Wc (show (0 : Int) < ((j + 1 : Nat) : Int) by omega), e1]
   (repeat (refine wkH ?_))
   simp only [e1]
   (repeat (first | refine wkH ?_ | (refine tC rfl rfl ?_ ?_; focus (exact ⟨o2, o1⟩))))
   refine Zo ?_
   refine Zr ?_
   repeat (refine wkB ?_; intros)
   by_cases hc : cmpTm (gi ys ((j + 1 : Nat) : Int)) (gi ys (j : Int)) < 0
   ·rw [if_pos hc] at g1
    simp only [Wc hc]
    repeat (refine wkB ?_; intros)
    (refine ZfP [(true, [0, 1, 2, 3, 4, 5, 6, 7, 8]), (false, [9]), (true, [10, 11, 12]), (false, [13]), (true, [14])] [15, 16, 17] (h := ?_); refine wkS ?_)
    (repeat (refine wkH ?_))
    simp only [e1]
    refine Zo ?_
    refine eR rfl ?_ ?_
    ·omega
    refine uS rfl rfl ?_ ?_
    ·omega
    refine eR rfl ?_ ?_
    ·rw [List.length_set]; omega
    refine Zbq ?_
    simp only [Int.toNat_natCast]
    repeat (first | (refine wkB ?_; intros) | (refine wnM ?_ ?_; (focus (exact ⟨by omega, by omega⟩)); intros))
    simp only [e1]
    exact Zj (j, swpTm ys j) ⟨g1, by rw [ZfL]; exact g2, by omega, fun u hu => g4 u (Zh7 (by omega) hu)⟩ sbB slB (by show j < j + 1; omega)
   ·rw [if_neg hc] at g1
    simp only [We hc]
    repeat (first | (refine wkB ?_; intros) | (refine wnM ?_ ?_; (focus (exact ⟨by omega, by omega⟩)); intros))
    exact Zj (m + 1) (by omega) sbB (by rw [← g1]; exact Wj _) (by omega)
 ·have hge : m = n - 1 := by have := Wb h; omega
  subst hge
  repeat (refine wkB ?_; intros)
  exact Zar rfl (fun w hw => ⟨(), rfl, hw⟩)
abbrev SrtSTm (xs : List Zc) (s : SlS Zh 12 xs) : Type := { s' : SlS Zh 12 (srtTm xs (xs.length - 1)) // vSl s' = vSl s }
theorem ZkO (w0 w : World) (L L1 : List Blk) (xs : List Zc) (s : SlS Zh 12 xs) (T : TypeId) [hd : OwnS T s L L1] (hl : xs.length ≤ 1048576) (hok : ∀ u ∈ xs, TmOk u) (hw : Own w0 L w) :
  Calls prog 260 [vSl s, .int .i64 0, .int .i64 xs.length, vFn 157].toArray w (RetX w0 (SrtSTm xs s) (fun _ => .tuple #[]) (fun s' => mS T s'.1 ++ L1)) := by
 have hw1 := hw.perm hd.out
 rcases s.cases T with ⟨rfl, hv, hm⟩ | ⟨b, c, sp, h1, hv, hm, hne⟩
 ·suffices h : Calls prog 260 [.slice none 0 0, .int .i64 0, .int .i64 (([] : List Zc).length : Nat), vFn 157].toArray w (RetX w0 (SrtSTm [] s) (fun _ => .tuple #[]) (fun s' => mS T s'.1 ++ L1)) by
   rw [← hv] at h
   exact h
  refine Z2 Tryz.func260 rfl Tryz.ntmps260 rfl hw1 ?_
  repeat (refine wkB ?_; intros)
  refine Zq (S := Unit) (fun _ => True) (fun _ => [(2, .int .i64 (([] : List Zc).length : Nat)), (8, .int .i64 1)]) (fun _ => mS T s ++ L1) (fun _ => 0) () trivial sbB slB (fun _ _ => ?_)
  repeat (refine wkB ?_; intros)
  simp only [We (show ¬ (1 : Int) < ((([] : List Zc).length : Nat) : Int) by simp)]
  repeat (refine wkB ?_; intros)
  exact Zar rfl (fun w hw => ⟨⟨s, rfl⟩, rfl, hw⟩)
 ·suffices h : Calls prog 260 [.slice (some ⟨b, 0, none⟩) xs.length c, .int .i64 0, .int .i64 xs.length, vFn 157].toArray w (RetX w0 (SrtSTm xs s) (fun _ => .tuple #[]) (fun s' => mS T s'.1 ++ L1)) by
   rw [← hv] at h
   exact h
  rw [hm] at hw1
  have hsl := ZcA xs (xs.length - 1)
  refine (Zm8 w0 w L1 b c xs.length xs sp T rfl hl hok hw1).mono fun e w' ⟨_, he, hw'⟩ => ?_
  exact ⟨⟨SlS.at_ b c sp (by rw [hsl]; exact h1) (fun h0 => hne (List.length_eq_zero_iff.1 (by rw [h0, Wx] at hsl; exact hsl.symm))), by rw [hv]; show Value.slice _ (srtTm xs (xs.length - 1)).length c = _; rw [hsl]⟩, he, hw'⟩
instance ZBp (w0 : World) (L L1 : List Blk) (xs : List Zc) (s : SlS Zh 12 xs) (T : TypeId) [hd : OwnS T s L L1] : SpecX prog w0 L 260 [vSl s, .int .i64 0, .int .i64 xs.length, vFn 157] (SrtSTm xs s) (fun _ => .tuple #[]) (fun s' => mS T s'.1 ++ L1) (xs.length ≤ 1048576 ∧ ∀ u ∈ xs, TmOk u) := ⟨fun hp w hw => ZkO w0 w L L1 xs s T hp.1 hp.2 hw⟩
theorem ZiJ (w0 w : World) (L L1 : List Blk) (xs : List Zc) (s : SlS Zh 12 xs) (T : TypeId) [hd : OwnS T s L L1] (hl : xs.length ≤ 19) (hok : ∀ u ∈ xs, TmOk u) (hw : Own w0 L w) :
  Calls prog 208 [vSl s, .int .i64 xs.length, vFn 157].toArray w (RetX w0 (SrtSTm xs s) (fun _ => .tuple #[]) (fun s' => mS T s'.1 ++ L1)) := by
 refine Z2 Tryz.func208 rfl Tryz.ntmps208 rfl hw ?_
 repeat (refine wkB ?_; intros)
 refine Zq (S := Unit) (fun _ => True) (fun _ => [(0, vSl s), (1, .int .i64 xs.length), (2, vFn 157), (6, .int .i64 20), (7, .int .i64 0), (8, .int .i64 20)]) (fun _ => L) (fun _ => 0) () trivial sbB slB (fun _ _ => ?_)
 repeat (refine wkB ?_; intros)
 simp only [We (show ¬ (20 : Int) ≤ (xs.length : Int) by omega)]
 repeat (refine wkB ?_; intros)
 refine sZ rfl rfl ?_ ?_
 ·exact ⟨by omega, hok⟩
 intro s'
 repeat (refine wkB ?_; intros)
 refine Zq (S := Unit) (fun _ => True) (fun _ => [(1, .int .i64 xs.length), (6, .int .i64 20)]) (fun _ => mS T s'.1 ++ L1) (fun _ => 0) () trivial sbB slB (fun _ _ => ?_)
 repeat (refine wkB ?_; intros)
 simp only [We (show ¬ (20 : Int) < (xs.length : Int) by omega)]
 repeat (refine wkB ?_; intros)
 exact Zar rfl (fun w hw => ⟨s', rfl, hw⟩)
instance Zvn (w0 : World) (L L1 : List Blk) (xs : List Zc) (s : SlS Zh 12 xs) (T : TypeId) [hd : OwnS T s L L1] : SpecX prog w0 L 208 [vSl s, .int .i64 xs.length, vFn 157] (SrtSTm xs s) (fun _ => .tuple #[]) (fun s' => mS T s'.1 ++ L1) (xs.length ≤ 19 ∧ ∀ u ∈ xs, TmOk u) := ⟨fun hp w hw => ZiJ w0 w L L1 xs s T hp.1 hp.2 hw⟩
theorem Zgc (w0 w : World) (L L1 : List Blk) (xs : List Zc) (s : SlS Zh 12 xs) (T : TypeId) [hd : OwnS T s L L1] (hl : xs.length ≤ 19) (hok : ∀ u ∈ xs, TmOk u) (hw : Own w0 L w) :
  Calls prog 156 [vSl s, vFn 157].toArray w (RetX w0 (SrtSTm xs s) (fun _ => .tuple #[]) (fun s' => mS T s'.1 ++ L1)) := by
 refine Z2 Tryz.func156 rfl Tryz.ntmps156 rfl hw ?_
 repeat (refine wkB ?_; intros)
 refine sZ rfl rfl ?_ ?_
 ·exact ⟨hl, hok⟩
 intro s'
 repeat (refine wkB ?_; intros)
 exact Zar rfl (fun w hw => ⟨s', rfl, hw⟩)
instance ZrD (w0 : World) (L L1 : List Blk) (xs : List Zc) (s : SlS Zh 12 xs) (T : TypeId) [hd : OwnS T s L L1] : SpecX prog w0 L 156 [vSl s, vFn 157] (SrtSTm xs s) (fun _ => .tuple #[]) (fun s' => mS T s'.1 ++ L1) (xs.length ≤ 19 ∧ ∀ u ∈ xs, TmOk u) := ⟨fun hp w hw => Zgc w0 w L L1 xs s T hp.1 hp.2 hw⟩
end
section
structure TkOk (z : Zc) : Prop where
 t : M z.T ≤ 8
 x : -1048576 ≤ z.Report.X ∧ z.Report.X ≤ 1048576
 y : -1048576 ≤ z.Report.Y ∧ z.Report.Y ≤ 1048576
theorem ZdW {n : Int} (h : -2147483648 ≤ n ∧ n ≤ 2147483648) : M (n : Rat) ≤ 4 := by
 rw [ZmO]
 have := ZcS (n := n) (k := 4) (by omega)
 omega
def ptT (x : Zc) : Zad := ⟨(x.Report.X : Rat), (x.Report.Y : Rat)⟩
theorem ZhE {x : Zc} (h : TkOk x) : M (ptT x).X ≤ 4 ∧ M (ptT x).Y ≤ 4 := ⟨ZdW (by have := h.x; omega), ZdW (by have := h.y; omega)⟩
instance ZBM (x : Zc) : SpecC prog 92 [vTm x] (vP (ptT x)) (TkOk x) := ⟨fun hp w => by
 have h1 : (-9223372036854775808 ≤ x.Report.X ∧ x.Report.X ≤ 9223372036854775807) ∧ (-9223372036854775808 ≤ x.Report.Y ∧ x.Report.Y ≤ 9223372036854775807) := by
  have := hp.x
  have := hp.y
  omega
 refine Zg Tryz.func92 rfl Tryz.ntmps92 rfl ?_
 repeat (first | (refine wkM ?_; intros) | (refine wnM ?_ ?_; (focus (exact h1)); intros))
 exact ZV rfl rfl (fun w hw => Zi hw)⟩
theorem ZcP (a b : Rat) : 0 < (a - b).num.sign ↔ 0 < a - b := by
 rw [Zi5, ZiQ]
 constructor <;> intro h <;> grind
def cpt (v : Int) (a b : Zc) : Bool := decide (0 < b.T - a.T) && decide (d2 (ptT a) (ptT b) ≤ ((v : Rat) * (b.T - a.T)) * ((v : Rat) * (b.T - a.T)))
instance ZzK (a b : Zc) (s : ZC) : SpecC prog 91 [vTm a, vTm b, .agg (Zm s)] (.bool (cpt s.MaxSpeed a b)) (TkOk a ∧ TkOk b ∧ (-1048576 ≤ s.MaxSpeed ∧ s.MaxSpeed ≤ 1048576)) := ⟨fun hp w => by
 obtain ⟨ha, hb, hv⟩ := hp
 have h1 : M b.T ≤ LQ ∧ M a.T ≤ LQ := ⟨Wi hb.t (by decide), Wi ha.t (by decide)⟩
 have g1 := MB.mk ha.t
 have g2 := MB.mk hb.t
 have g3 := MB.mk (ZdW (n := s.MaxSpeed) (by omega))
 have g4 := MB.mk (ZhE ha).1
 have g5 := MB.mk (ZhE ha).2
 have g6 := MB.mk (ZhE hb).1
 have g7 := MB.mk (ZhE hb).2
 have h2 : M (s.MaxSpeed : Rat) ≤ LQ ∧ M (b.T - a.T) ≤ LQ := ⟨MB.lt rfl, MB.lt rfl⟩
 have h3 : M ((s.MaxSpeed : Rat) * (b.T - a.T)) ≤ LQ ∧ M ((s.MaxSpeed : Rat) * (b.T - a.T)) ≤ LQ := ⟨MB.lt rfl, MB.lt rfl⟩
 have h4 : M (d2 (ptT a) (ptT b)) ≤ LQ ∧ M (((s.MaxSpeed : Rat) * (b.T - a.T)) * ((s.MaxSpeed : Rat) * (b.T - a.T))) ≤ LQ := ⟨MB.lt rfl, MB.lt rfl⟩
 have h5 : M (ptT a).X ≤ 8589934592 ∧ M (ptT a).Y ≤ 8589934592 ∧ M (ptT b).X ≤ 8589934592 ∧ M (ptT b).Y ≤ 8589934592 := ⟨MB.lt rfl, MB.lt rfl, MB.lt rfl, MB.lt rfl⟩
 have h6 : -9223372036854775808 ≤ s.MaxSpeed ∧ s.MaxSpeed ≤ 9223372036854775807 := by omega
 refine Zg Tryz.func91 rfl Tryz.ntmps91 rfl ?_
 repeat (first | (refine wkM ?_; intros) | (refine wnM ?_ ?_; (focus (exact h1)); intros))
 (refine Zep [0, 1, 2, 3, 4] [5] [6] (_) (h := ?_); refine wkI ?_)
 (repeat (first | refine wkH ?_ | (refine tC rfl rfl ?_ ?_; focus (first | exact h6 | exact h2))))
 repeat (refine wkT ?_; intros)
 repeat (refine wkM ?_; intros)
 unfold cpt
 by_cases h0 : 0 < b.T - a.T
 ·refine jD 16 16 (h := ?_)
  (repeat (refine wkH ?_))
  simp only [Wc ((ZcP b.T a.T).2 h0)]
  (repeat (first | refine wkH ?_ | (refine tC rfl rfl ?_ ?_; focus (first | exact ha | exact hb | exact h5 | exact h3 | exact h4))))
  refine Zo ?_
  refine Zr ?_
  repeat (refine wkM ?_; intros)
  rw [Wc h0, Bool.true_and, show decide (d2 (ptT a) (ptT b) ≤ ((s.MaxSpeed : Rat) * (b.T - a.T)) * ((s.MaxSpeed : Rat) * (b.T - a.T))) = decide (cq (d2 (ptT a) (ptT b)) (((s.MaxSpeed : Rat) * (b.T - a.T)) * ((s.MaxSpeed : Rat) * (b.T - a.T))) ≤ 0) from decide_eq_decide.2 Zm0.symm]
  exact Zf rfl rfl (fun w hw => Zi hw)
 ·refine jD 16 16 (h := ?_)
  (repeat (refine wkH ?_))
  simp only [We (fun h => h0 ((ZcP b.T a.T).1 h))]
  (repeat (refine wkH ?_))
  refine Zo ?_
  refine Zr ?_
  repeat (refine wkM ?_; intros)
  rw [We h0, Bool.false_and]
  exact Zf rfl rfl (fun w hw => Zi hw)⟩
def farT (g : Int) (a b : Zc) : Bool := decide ((g : Rat) < b.T - a.T)
instance ZGP (a b : Zc) (s : ZC) : SpecC prog 65 [vTm a, vTm b, .agg (Zm s)] (.bool (farT s.MaxGap a b)) (TkOk a ∧ TkOk b ∧ (-2147483648 ≤ s.MaxGap ∧ s.MaxGap ≤ 2147483648)) := ⟨fun hp w => by
 obtain ⟨ha, hb, hv⟩ := hp
 have h1 : M b.T ≤ LQ ∧ M a.T ≤ LQ := ⟨Wi hb.t (by decide), Wi ha.t (by decide)⟩
 have g1 := MB.mk ha.t
 have g2 := MB.mk hb.t
 have h2 : M (b.T - a.T) ≤ LQ ∧ M (s.MaxGap : Rat) ≤ LQ := ⟨MB.lt rfl, Wi (ZdW hv) (by decide)⟩
 have h3 : -9223372036854775808 ≤ s.MaxGap ∧ s.MaxGap ≤ 9223372036854775807 := by omega
 unfold farT
 rw [show decide ((s.MaxGap : Rat) < b.T - a.T) = decide (0 < cq (b.T - a.T) (s.MaxGap : Rat)) from decide_eq_decide.2 ZiQ.symm]
 refine Zg Tryz.func65 rfl Tryz.ntmps65 rfl ?_
 repeat (refine wkM ?_; intros)
 (refine jD 11 11 (h := ?_); (repeat (first | refine wkH ?_ | (refine tC rfl rfl ?_ ?_; focus (first | exact h1 | exact h2 | exact h3)))); refine Zo ?_; (repeat (refine Z8 ?_; intro _)); refine Zr ?_)
 repeat (refine wkM ?_; intros)
 exact Zf rfl rfl (fun w hw => Zi hw)⟩
end
end Go.Vt
namespace Go.Vt
section
variable (C : Nat → Nat → Bool) (n : Nat)
def innB (i : Nat) : Nat → List Nat → Nat → Nat
 | _, [], a => a
 | k, b :: r, a => innB i (k + 1) r (if C i k then max a (b + 1) else a)
def bestL : Nat → List Nat
 | 0 => []
 | m + 1 => innB C (n - (m + 1)) (n - m) (bestL m) 1 :: bestL m
theorem Zce : ∀ m, (bestL C n m).length = m
 | 0 => rfl
 | m + 1 => congrArg Nat.succ (Zce m)
def mostL : List Nat → Nat
 | [] => 0
 | b :: r => max (mostL r) b
def bestA (i : Nat) : Nat := (bestL C n n).getD i 0
theorem Zsl (i : Nat) : ∀ (r : List Nat) (k a : Nat), a ≤ innB C i k r a
 | [], _, _ => Wl _
 | b :: r, k, a => by
  have := Zsl i r (k + 1) (if C i k then max a (b + 1) else a)
  simp only [innB]
  split at this <;> simp_all <;> omega
theorem Zlr (i : Nat) : ∀ (r : List Nat) (k a : Nat), innB C i k r a = a ∨ ∃ j, j < r.length ∧ C i (k + j) = true ∧ innB C i k r a = r.getD j 0 + 1
 | [], _, _ => .inl rfl
 | b :: r, k, a => by
  simp only [innB]
  rcases Zlr i r (k + 1) (if C i k then max a (b + 1) else a) with h | ⟨j, h1, h2, h3⟩
  ·rw [h]
   by_cases hc : C i k = true
   ·rw [if_pos hc]
    rcases Nat.le_total (b + 1) a with h4 | h4
    ·exact .inl (by omega)
    ·exact .inr ⟨0, by simp, by simpa using hc, by simp; omega⟩
   ·rw [if_neg hc]
    exact .inl rfl
  ·exact .inr ⟨j + 1, by simpa using h1, by rw [show k + (j + 1) = k + 1 + j by omega]; exact h2, by simpa using h3⟩
theorem ZiA : ∀ (m j : Nat), j < m → m ≤ n → (bestL C n m).getD j 0 = bestA C n (n - m + j) := by
 have key : ∀ (d m : Nat), m + d ≤ n → ∀ j, (bestL C n (m + d)).getD (d + j) 0 = (bestL C n m).getD j 0 := by
  intro d
  induction d with
  | zero => intro m _ j; simp
  | succ d ih =>
   intro m hm j
   rw [show m + (d + 1) = (m + d) + 1 by omega, show d + 1 + j = (d + j) + 1 by omega]
   simp only [bestL, List.getD_cons_succ]
   exact ih m (by omega) j
 intro m j hj hm
 have := key (n - m) m (by omega) j
 rw [show m + (n - m) = n by omega] at this
 exact this.symm
theorem Zpi {i : Nat} (h : i < n) : bestA C n i = innB C i (i + 1) (bestL C n (n - i - 1)) 1 := by
 have := ZiA C n (n - i) 0 (by omega) (by omega)
 rw [show n - (n - i) + 0 = i by omega] at this
 rw [← this, show n - i = (n - i - 1) + 1 by omega]
 simp only [bestL, List.getD_cons_zero]
 rw [show n - (n - i - 1 + 1) = i by omega, show n - (n - i - 1) = i + 1 by omega]
 rfl
theorem Zpb {i : Nat} (h : i < n) : bestA C n i = 1 ∨ ∃ k, i < k ∧ k < n ∧ C i k = true ∧ bestA C n i = bestA C n k + 1 := by
 rw [Zpi C n h]
 rcases Zlr C i (bestL C n (n - i - 1)) (i + 1) 1 with h1 | ⟨j, h1, h2, h3⟩
 ·exact .inl h1
 ·rw [Zce] at h1
  rw [ZiA C n (n - i - 1) j (by omega) (by omega), show n - (n - i - 1) + j = i + 1 + j by omega] at h3
  exact .inr ⟨i + 1 + j, by omega, by omega, h2, h3⟩
theorem Zgu : ∀ (l : List Nat) (j : Nat), l.getD j 0 ≤ mostL l
 | [], _ => by simp [mostL]
 | b :: l, 0 => by simp [mostL]; omega
 | b :: l, j + 1 => by
  have := Zgu l j
  simp only [mostL, List.getD_cons_succ]
  omega
theorem Zkl : ∀ (l : List Nat), mostL l = 0 ∨ ∃ j, j < l.length ∧ l.getD j 0 = mostL l
 | [] => .inl rfl
 | b :: l => by
  simp only [mostL]
  rcases Nat.le_total (mostL l) b with h | h
  ·exact .inr ⟨0, by simp, by simp; omega⟩
  ·rcases Zkl l with h1 | ⟨j, h1, h2⟩
   ·exact .inl (by omega)
   ·exact .inr ⟨j + 1, by simpa using h1, by rw [List.getD_cons_succ, h2, Nat.max_eq_left h]⟩
def mostA : Nat := mostL (bestL C n n)
def outS (s : List Nat × Nat) (i : Nat) : List Nat × Nat :=
 if bestA C n i = s.2 ∧ 0 < s.2 ∧ (s.1 = [] ∨ C (s.1.getLastD 0) i = true) then (s.1 ++ [i], s.2 - 1) else s
def outN : Nat → List Nat × Nat
 | 0 => ([], mostA C n)
 | i + 1 => outS C n (outN i) i
def chainL : List Nat := (outN C n n).1
structure OutOk (i : Nat) (s : List Nat × Nat) : Prop where
 len : s.1.length + s.2 = mostA C n
 lt : ∀ k ∈ s.1, k < i
 ok : ∀ j, j + 1 < s.1.length → C (s.1.getD j 0) (s.1.getD (j + 1) 0) = true
 go : 0 < s.2 → ∃ j, i ≤ j ∧ j < n ∧ bestA C n j = s.2 ∧ (s.1 = [] ∨ C (s.1.getLastD 0) j = true)
theorem ZdP {l : List Nat} {x j : Nat} (h : j < l.length) : (l ++ [x]).getD j 0 = l.getD j 0 := by
 simp [List.getD_eq_getElem?_getD, List.getElem?_append_left h]
theorem Zju (l : List Nat) (x : Nat) : (l ++ [x]).getD l.length 0 = x := by
 simp [List.getD_eq_getElem?_getD]
theorem ZbV {l : List Nat} (h : l ≠ []) : l.getLastD 0 = l.getD (l.length - 1) 0 := by
 cases l with
 | nil => exact (h rfl).elim
 | cons a l => rw [List.getLastD_cons, List.getD_eq_getElem?_getD, ← List.getLast?_eq_getElem?]; simp [List.getLast?_cons]
theorem Zey : ∀ i, i ≤ n → OutOk C n i (outN C n i)
 | 0, _ => by
  refine ⟨by simp [outN], by simp [outN], by simp [outN], fun h => ?_⟩
  rcases Zkl (bestL C n n) with h1 | ⟨j, h1, h2⟩
  ·have : mostA C n = 0 := h1
   simp only [outN] at h
   omega
  ·rw [Zce] at h1
   exact ⟨j, by omega, h1, h2, .inl rfl⟩
 | i + 1, hi => by
  have ih := Zey i (by omega)
  simp only [outN]
  generalize outN C n i = s at ih
  obtain ⟨i1, i2, i3, i4⟩ := ih
  unfold outS
  split
  ·rename_i hc
   obtain ⟨h1, h2, h3⟩ := hc
   refine ⟨by simp; omega, fun k hk => ?_, fun j hj => ?_, fun h => ?_⟩
   ·rcases List.mem_append.1 hk with hk | hk
    ·have := i2 k hk; omega
    ·have : k = i := by simpa using hk
     omega
   ·simp only [Wp, Wu, Wx] at hj
    rcases Nat.lt_or_ge (j + 1) s.1.length with h4 | h4
    ·rw [ZdP h4, ZdP (by omega)]
     exact i3 j h4
    ·have e : j + 1 = s.1.length := by omega
     rw [e, Zju, ZdP (by omega)]
     have hne : s.1 ≠ [] := fun h0 => by rw [h0] at e; simp at e
     rcases h3 with h3 | h3
     ·exact (hne h3).elim
     ·rw [ZbV hne, show s.1.length - 1 = j by omega] at h3
      exact h3
   ·simp only at h
    rcases Zpb C n (show i < n by omega) with h4 | ⟨k, k1, k2, k3, k4⟩
    ·omega
    ·exact ⟨k, by omega, k2, by simp only; omega, .inr (by simpa using k3)⟩
  ·rename_i hc
   refine ⟨i1, fun k hk => by have := i2 k hk; omega, i3, fun h => ?_⟩
   obtain ⟨j, j1, j2, j3, j4⟩ := i4 h
   refine ⟨j, ?_, j2, j3, j4⟩
   rcases Nat.lt_or_ge i j with h5 | h5
   ·exact h5
   ·have e : j = i := by omega
    subst e
    exact (hc ⟨j3, h, j4⟩).elim
theorem Znw : ∀ k ∈ chainL C n, k < n := (Zey C n n (Wl _)).lt
theorem ZoQ {j : Nat} (h : j + 1 < (chainL C n).length) : C ((chainL C n).getD j 0) ((chainL C n).getD (j + 1) 0) = true := (Zey C n n (Wl _)).ok j h
end
end Go.Vt
