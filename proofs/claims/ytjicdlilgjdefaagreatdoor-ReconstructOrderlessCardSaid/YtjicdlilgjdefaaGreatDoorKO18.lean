/- that the order in which batches arrive does not matter (part 18 of 27.) Conditions: those that each statement names. -/
import Derived.Test.YtjicdlilgjdefaaGreatDoorKO9
import Derived.Test.YtjicdlilgjdefaaGreatDoorKO11
import Derived.Test.YtjicdlilgjdefaaGreatDoorKO12
import Derived.Test.YtjicdlilgjdefaaGreatDoorKO13
import Derived.Test.YtjicdlilgjdefaaGreatDoorKO15
import Derived.Test.YtjicdlilgjdefaaGreatDoorKO16
import Derived.Test.YtjicdlilgjdefaaGreatDoorKO17
/- What becomes of a report. Conditions: those that each statement names. -/
set_option linter.unusedSimpArgs false
set_option linter.unusedVariables false
set_option maxHeartbeats 2000000
set_option maxRecDepth 100000
namespace Go.Vt
open Go.RowKit Go.Proofs
def idxP {α : Type} (p : α → Bool) (xs : List α) : Int := if xs.any p then (xs.findIdx p : Int) else -1
theorem Zhv {α : Type} [Inhabited α] {p : α → Bool} {xs : List α} {m : Nat} (hm : m < xs.length) (h : p (gi xs (m : Int)) = true) (hb : ∀ j : Nat, j < m → p (gi xs (j : Int)) = false) : idxP p xs = m := by
 have e : xs.any p = true := List.any_eq_true.2 ⟨_, ZZ (by omega), h⟩
 unfold idxP
 rw [if_pos e]
 congr 1
 refine (List.findIdx_eq hm).2 ⟨by rw [← Zi hm]; exact h, fun j hj => ?_⟩
 rw [← Zi (by omega)]
 exact hb j hj
theorem Zhp {α : Type} [Inhabited α] {p : α → Bool} {xs : List α} (hb : ∀ j : Nat, j < xs.length → p (gi xs (j : Int)) = false) : idxP p xs = -1 := by
 unfold idxP
 rw [if_neg]
 intro h
 obtain ⟨x, hx, hp⟩ := List.any_eq_true.1 h
 obtain ⟨j, hj, rfl⟩ := List.getElem_of_mem hx
 have := hb j hj
 rw [Zi hj, hp] at this
 cases this
theorem Zk3 {α : Type} {p : α → Bool} {xs : List α} : decide (0 ≤ idxP p xs) = xs.any p := by
 unfold idxP
 cases h : xs.any p
 ·rw [if_neg (by decide)]
  rfl
 ·rw [if_pos rfl]
  exact decide_eq_true (Int.natCast_nonneg _)
instance Zwg : CallC Tryz.prog 160 := ⟨by kernel_rfl⟩
instance Zwp : CallC Tryz.prog 101 := ⟨by kernel_rfl⟩
set_option maxHeartbeats 4000000 in
theorem Zl2 (v : Value) (rs : List Zb) (r : Zb) (w : World) (hv : ArgS w v Zc rs) (hl : rs.length ≤ 1048576) :
  Calls Tryz.prog 160 [v, .agg (Zc r)].toArray w (Ret (.int .i64 (idxP (fun x => decide (r = x)) rs)) w) := by
 obtain ⟨p, cp, rfl⟩ := hv.form
 refine Zg Tryz.func160 rfl Tryz.ntmps160 rfl ?_
 repeat (refine wkM ?_; try intro _)
 rename_i b3
 refine Zq (S := Nat) (fun m => m ≤ rs.length ∧ ∀ j : Nat, j < m → decide (r = gi rs (j : Int)) = false) (fun m => [(0, .slice p rs.length cp), (3, .pointer (some ⟨b3, 0, none⟩)), (7, .int .i64 rs.length), (8, .int .i64 (m : Nat))]) (fun _ => [⟨b3, Zc r, 35⟩]) (fun m => rs.length - m) 0 ⟨Nat.zero_le _, fun j hj => absurd hj (Nat.not_lt_zero _)⟩ sbB slB (fun m hm => ?_)
 obtain ⟨hm, hb⟩ := hm
 repeat (refine wkM ?_; try intro _)
 refine Zl rfl (fun h => ?_) (fun h => ?_)
 ·have hlt : m < rs.length := by have := of_decide_eq_true h; omega
  have hne : rs ≠ [] := fun h0 => by rw [h0] at hlt; simp at hlt
  obtain ⟨bw, ow, cw, hvw, hcw, hrow⟩ := hv.blk (k := 7) hne []
  injection hvw with e1 e2 e3
  subst e1
  subst e3
  have hrow' : ∀ L, RowC w L bw ow Zb Zc rs := fun L => ⟨fun w' hw' => hrow.out w' (hw'.sub (List.nil_sublist _))⟩
  repeat (refine wkM ?_; try intro _)
  (refine jD 6 6 (h := ?_); (repeat (refine wkH ?_)); refine Zr ?_; (repeat (refine Z6 ?_; intro _)); refine Zt ?_)
  cases hd : decide (r = gi rs (m : Int))
  ·repeat (refine wkM ?_; try intro _)
   exact Zj (m + 1) ⟨hlt, fun j hj => by
    rcases Nat.lt_or_ge j m with h1 | h1
    ·exact hb j h1
    ·rw [show j = m by omega]
     exact hd⟩ sbB slB (by omega)
  ·rw [Zhv hlt hd hb]
   repeat (refine wkM ?_; try intro _)
   exact Zf rfl rfl (fun w hw => Zh hw)
 ·have hge : m = rs.length := by have := of_decide_eq_false h; omega
  subst hge
  rw [Zhp hb]
  repeat (refine wkM ?_; try intro _)
  exact Zf rfl rfl (fun w hw => Zh hw)
instance ZzL (w0 : World) (L : List Blk) (v : Value) (rs : List Zb) (r : Zb) [h : LstC w0 L v Zb Zc rs] : SpecM Tryz.prog w0 L 160 [v, .agg (Zc r)] (.int .i64 (idxP (fun x => decide (r = x)) rs)) (rs.length ≤ 1048576) := ⟨fun hp w hw => Zl2 v rs r w (h.out w hw) hp⟩
theorem ArgS.lst {α : Type} {w : World} {v : Value} {enc : α → Array Value} {xs : List α} (h : ArgS w v enc xs) (L : List Blk) : LstC w L v α enc xs := ⟨fun w' hw' => h.to hw'.ext⟩
instance ZAe (w0 : World) (L : List Blk) (v : Value) (rs : List Zb) (r : Zb) [h : LstC w0 L v Zb Zc rs] : SpecM Tryz.prog w0 L 101 [v, .agg (Zc r)] (.bool (rs.any fun x => decide (r = x))) (rs.length ≤ 1048576) := ⟨fun hp w hw => by
 have hv := fun L => (h.out w hw).lst L
 refine Zg Tryz.func101 rfl Tryz.ntmps101 rfl ?_
 repeat (first | (refine wkM ?_; try intro _) | (refine sC rfl rfl ?_ ?_; focus (exact hp)) | (refine sN rfl rfl ?_ ?_; (focus (exact hp)); intro _; (try simp only [List.cons_append, List.nil_append, List.append_nil])))
 simp only [Zk3]
 repeat (refine wkM ?_; try intro _)
 exact Zf rfl rfl (fun w hw => Zh hw)⟩
instance ZDF (w0 : World) (L : List Blk) (v : Value) (rs : List Zb) (r : Zb) [h : LstC w0 L v Zb Zc rs] : SpecM Tryz.prog w0 L 53 [v, .agg (Zc r)] (.bool (rs.any fun x => decide (r = x))) (rs.length ≤ 1048576) := ⟨fun hp w hw => by
 have hv := fun L => (h.out w hw).lst L
 refine Zg Tryz.func53 rfl Tryz.ntmps53 rfl ?_
 repeat (first | (refine wkM ?_; try intro _) | (refine sC rfl rfl ?_ ?_; focus (exact hp)) | (refine sN rfl rfl ?_ ?_; (focus (exact hp)); intro _; (try simp only [List.cons_append, List.nil_append, List.append_nil])))
 exact Zf rfl rfl (fun w hw => Zh hw)⟩
def statR (rs : List Zb) (r : Zb) : Int :=
 if (rs.any fun x => decide (r = x)) = false then 0 else if (mget (winR rs) (idR r)).getD Zap = r then (if r.Cancel then 3 else 1) else 2
instance Zzd (w0 : World) (L : List Blk) (v : Value) (rs : List Zb) (r : Zb) [h : LstC w0 L v Zb Zc rs] : SpecM Tryz.prog w0 L 18 [v, .agg (Zc r)] (.int .i64 (statR rs r)) (rs.length ≤ 1048576) := ⟨fun hp w hw => by
 have hv := fun L => (h.out w hw).lst L
 have hd : statR rs r = if (rs.any fun x => decide (r = x)) = false then 0 else if (mget (winR rs) (idR r)).getD Zap = r then (if r.Cancel then 3 else 1) else 2 := rfl
 refine Zg Tryz.func18 rfl Tryz.ntmps18 rfl ?_
 repeat (refine wkM ?_; try intro _)
 rename_i b3
 refine ZaR (S := Nat) (fun _ => True) (fun b5 => [(0, v), (3, .pointer (some ⟨b3, 0, none⟩)), (5, .pointer (some ⟨b5, 0, none⟩))]) (fun b5 => [⟨b5, Zc ((mget (winR rs) (idR r)).getD Zap), 35⟩, ⟨b3, Zc r, 35⟩]) ?_ (fun b5 _ => ?_)
 ·(refine Zao (.v [0, 2] (.e2 1 (.v [3] (.e2 4 (.e1 5 (.e1 6 (.fin))) 5 (.e1 4 (.e1 6 (.fin))))) 5 (.e1 1 (.v [3] (.e1 4 (.e1 6 (.fin))))))) ([⟨b3, Zc r, 35⟩]) (h := ?_); refine wkX ?_)
  (repeat (refine wkH ?_))
  refine And.intro ?_ ?_
  all_goals
   repeat (first | (refine wkT ?_; try intro _) | (refine tC rfl rfl ?_ ?_; focus (first | exact hp | exact trivial)) | (refine uC rfl rfl ?_ ?_; focus (first | exact hp | exact trivial)) | (refine eN rfl rfl ?_ ?_; (focus (first | exact hp | exact trivial)); intro _; (try simp only [List.cons_append, List.nil_append, List.append_nil])))
  all_goals try refine And.intro ?_ ?_
  all_goals
   repeat (first | (refine wkT ?_; try intro _) | (refine tC rfl rfl ?_ ?_; focus (first | exact hp | exact trivial)) | (refine uC rfl rfl ?_ ?_; focus (first | exact hp | exact trivial)) | (refine eN rfl rfl ?_ ?_; (focus (first | exact hp | exact trivial)); intro _; (try simp only [List.cons_append, List.nil_append, List.append_nil])))
   exact ZT _ trivial sbB suB
 ·generalize (mget (winR rs) (idR r)).getD Zap = x at *
  repeat (first | (refine wkM ?_; try intro _) | (refine sC rfl rfl ?_ ?_; focus (exact hp)) | (refine sN rfl rfl ?_ ?_; (focus (exact hp)); intro _; (try simp only [List.cons_append, List.nil_append, List.append_nil])))
  cases hc : rs.any fun x => decide (r = x)
  ·rw [hc, if_pos rfl] at hd
   rw [hd]
   repeat (refine wkM ?_; try intro _)
   exact Zf rfl rfl (fun w hw => Zh hw)
  rw [hc, if_neg (by decide)] at hd
  repeat (refine wkM ?_; try intro _)
  by_cases he : x = r
  ·rw [if_pos he] at hd
   subst he
   simp only [decide_eq_true (show x = x from rfl), Bool.not_true, Bool.not_false]
   repeat (refine wkM ?_; try intro _)
   cases hx : x.Cancel
   ·rw [hx] at hd
    rw [hd]
    repeat (refine wkM ?_; try intro _)
    exact Zf rfl rfl (fun w hw => Zh hw)
   ·rw [hx] at hd
    rw [hd]
    repeat (refine wkM ?_; try intro _)
    exact Zf rfl rfl (fun w hw => Zh hw)
  ·rw [if_neg he] at hd
   simp only [decide_eq_false he, Bool.not_true, Bool.not_false]
   rw [hd]
   repeat (refine wkM ?_; try intro _)
   exact Zf rfl rfl (fun w hw => Zh hw)⟩
instance ZzO (w0 : World) (L : List Blk) (x : Ze) (b : Nat) (r : Zb) (T : TypeId) [k : AtC w0 L b (Zc r) T] : SpecM Tryz.prog w0 L 48 [vTm x, .pointer (some ⟨b, 0, none⟩)] (.bool (decide (x.Report = r))) True := ⟨fun _ w hw => by
 have f := FoC.mk (k.out w hw)
 refine Zg Tryz.func48 rfl Tryz.ntmps48 rfl ?_
 repeat (refine wkM ?_; try intro _)
 exact Zf rfl rfl (fun w hw => Zh hw)⟩
abbrev vEx (b : Nat) : Value := .func (.func 48) #[] [.pointer (some ⟨b, 0, none⟩)].toArray
abbrev isT (r : Zb) (x : Ze) : Bool := decide (x.Report = r)
instance ZvZ : CallC Tryz.prog 99 := ⟨by kernel_rfl⟩
instance Zwd : CallC Tryz.prog 49 := ⟨by kernel_rfl⟩
set_option maxHeartbeats 4000000 in
theorem Zl0 (v : Value) (rs : List Ze) (b : Nat) (r : Zb) (T : TypeId) (w : World) (hv : ArgS w v Zo rs) (hl : rs.length ≤ 1048576) (hb : ∃ fz, w.heap[b]? = some (.cells (Zc r) T fz)) :
  Calls Tryz.prog 99 [v, vEx b].toArray w (Ret (.int .i64 (idxP (isT r) rs)) w) := by
 have f := FoC.mk hb
 obtain ⟨p, cp, rfl⟩ := hv.form
 refine Zg Tryz.func99 rfl Tryz.ntmps99 rfl ?_
 repeat (refine wkM ?_; try intro _)
 refine Zq (S := Nat) (fun m => m ≤ rs.length ∧ ∀ j : Nat, j < m → isT r (gi rs (j : Int)) = false) (fun m => [(0, .slice p rs.length cp), (1, vEx b), (7, .int .i64 rs.length), (8, .int .i64 (m : Nat))]) (fun _ => []) (fun m => rs.length - m) 0 ⟨Nat.zero_le _, fun j hj => absurd hj (Nat.not_lt_zero _)⟩ sbB slB (fun m hm => ?_)
 obtain ⟨hm, hb⟩ := hm
 repeat (refine wkM ?_; try intro _)
 refine Zl rfl (fun h => ?_) (fun h => ?_)
 ·have hlt : m < rs.length := by have := of_decide_eq_true h; omega
  have hne : rs ≠ [] := fun h0 => by rw [h0] at hlt; simp at hlt
  obtain ⟨bw, ow, cw, hvw, hcw, hrow⟩ := hv.blk (k := 11) hne []
  injection hvw with e1 e2 e3
  subst e1
  subst e3
  have hrow' : ∀ L, RowC w L bw ow Ze Zo rs := fun L => ⟨fun w' hw' => hrow.out w' (hw'.sub (List.nil_sublist _))⟩
  have hi : isT r (gi rs (m : Int)) = decide ((gi rs (m : Int)).Report = r) := rfl
  repeat (refine wkM ?_; try intro _)
  rw [← hi]
  cases hd : isT r (gi rs (m : Int))
  ·repeat (refine wkM ?_; try intro _)
   exact Zj (m + 1) ⟨hlt, fun j hj => by
    rcases Nat.lt_or_ge j m with h1 | h1
    ·exact hb j h1
    ·rw [show j = m by omega]
     exact hd⟩ sbB slB (by omega)
  ·rw [Zhv hlt hd hb]
   repeat (refine wkM ?_; try intro _)
   exact Zf rfl rfl (fun w hw => Zh hw)
 ·have hge : m = rs.length := by have := of_decide_eq_false h; omega
  subst hge
  rw [Zhp hb]
  repeat (refine wkM ?_; try intro _)
  exact Zf rfl rfl (fun w hw => Zh hw)
instance ZBi (w0 : World) (L : List Blk) (v : Value) (rs : List Ze) (b : Nat) (r : Zb) (T : TypeId) [h : LstC w0 L v Ze Zo rs] [k : AtC w0 L b (Zc r) T] : SpecM Tryz.prog w0 L 99 [v, vEx b] (.int .i64 (idxP (isT r) rs)) (rs.length ≤ 1048576) := ⟨fun hp w hw => Zl0 v rs b r T w (h.out w hw) hp (k.out w hw)⟩
instance ZAS (w0 : World) (L : List Blk) (v : Value) (rs : List Ze) (b : Nat) (r : Zb) (T : TypeId) [h : LstC w0 L v Ze Zo rs] [k : AtC w0 L b (Zc r) T] : SpecM Tryz.prog w0 L 49 [v, vEx b] (.bool (rs.any (isT r))) (rs.length ≤ 1048576) := ⟨fun hp w hw => by
 have hv := fun L => (h.out w hw).lst L
 have f := FoC.mk (k.out w hw)
 refine Zg Tryz.func49 rfl Tryz.ntmps49 rfl ?_
 repeat (first | (refine wkM ?_; try intro _) | (refine sC rfl rfl ?_ ?_; focus (exact hp)) | (refine sN rfl rfl ?_ ?_; (focus (exact hp)); intro _; (try simp only [List.cons_append, List.nil_append, List.append_nil])))
 simp only [Zk3]
 repeat (refine wkM ?_; try intro _)
 exact Zf rfl rfl (fun w hw => Zh hw)⟩
end Go.Vt
/- The statements' own functions: a report with a time, settings, compatible, a row. Conditions: those that each statement names. -/
namespace Go.Vt
open Go.RowKit Go.Proofs
def tmd (t q x y : Int) : Ze := ⟨(t : Rat), ⟨1, q, 0, 0, t, x, y, false⟩⟩
instance ZCk (t q x y : Int) : SpecC Tryz.prog 90 [.int .i64 t, .int .i64 q, .int .i64 x, .int .i64 y] (vTm (tmd t q x y)) (-9223372036854775808 ≤ t ∧ t ≤ 9223372036854775807) := ⟨fun hp w => by
 refine Zg Tryz.func90 rfl Tryz.ntmps90 rfl ?_
 repeat (first | (refine wkM ?_; try intro _) | (refine sC rfl rfl ?_ ?_; focus (exact hp)) | (refine sN rfl rfl ?_ ?_; (focus (exact hp)); intro _; (try simp only [List.cons_append, List.nil_append, List.append_nil])))
 exact ZV rfl rfl (fun w hw => Zh hw)⟩
def exL : List Ze := [tmd 0 0 0 0, tmd 1 1 9 0, tmd 2 2 4 0, tmd 9 3 4 0]
instance Zvo (w0 : World) (L : List Blk) : SpecR Tryz.prog w0 L 40 [] (SlS Zo 12 exL) (fun s => vSl s) (fun s => mS 56 s) True := ⟨fun _ w hw => by
 refine Zg Tryz.func40 rfl Tryz.ntmps40 rfl ?_
 repeat (first | (refine wkM ?_; try intro _) | (refine sC rfl rfl ?_ ?_; focus (exact ⟨by decide, by decide⟩)) | (refine sN rfl rfl ?_ ?_; (focus (exact ⟨by decide, by decide⟩)); intro _; (try simp only [List.cons_append, List.nil_append, List.append_nil])))
 rename_i b
 obtain ⟨s', hv', hm'⟩ := SlS.put (enc := Zo) (k := 12) (b := b) (sp := []) (c := 4) (ys := exL) 56 rfl ⟨Nat.le_refl _, rfl⟩ (by decide)
 refine Zf rfl rfl (fun w hw => ⟨s', ?_, ?_⟩)
 ·show Ending.returned _ = Ending.returned (vSl s')
  rw [hv']
  rfl
 ·dsimp only
  rw [hm']
  exact hw.sub suB⟩
def setT (a b : Int) : ZN := ⟨1 + a % 24, 1 + b % 30⟩
instance Zuh (p : Sl) (a b : Int) : SpecC Tryz.prog 13 [.agg (ZI ⟨p, a, b⟩)] (.agg (Zn (setT a b))) ((0 ≤ a ∧ a ≤ 255) ∧ (0 ≤ b ∧ b ≤ 255)) := ⟨fun hp w => by
 obtain ⟨h1, h2⟩ := hp
 refine Zg Tryz.func13 rfl Tryz.ntmps13 rfl ?_
 repeat (refine wkO ?_; try intro _)
 dsimp only
 repeat (refine wkO ?_; try intro _)
 dsimp only
 repeat (refine wkO ?_; try intro _)
 exact ZV rfl rfl (fun w hw => Zh hw)⟩
end Go.Vt
/- The keys of a map, one after another in any order. Conditions: those that each statement names. -/
namespace Go.Vt
open Go.RowKit Go.Proofs
open Go.ChangeMaps (setBlock)
abbrev mIn (l : List (Int × Bool)) : Obj := mapO (Value.int .i64) Value.bool l
abbrev pKI (l : List (Int × Bool)) : List Int := l.map (·.1)
theorem Zqa {l : List (Int × Bool)} {s : List Nat} {i : Nat} (h : i < l.length) : seenL (pKI l) (s ++ [i]) = seenL (pKI l) s ++ [(gi l (i : Int)).1] := by
 rw [ZbK _ _ _ (by rw [List.length_map]; exact h), List.getElem_map, Zi h]
set_option maxHeartbeats 4000000 in
theorem ZiT (wc w0 : World) (Bm b N : Nat) (TB : TypeId) (l : List (Int × Bool)) (hwc : Below wc.heap.size wc w0) (hB : ∃ fz, wc.heap[Bm]? = some (.cells #[.map (some b)] TB fz)) (hb : wc.heap[b]? = some (mIn l)) :
  SeqStopsK (Fr none) N Tryz.prog 307 #[.pointer (some ⟨Bm, 0, none⟩)] (fun x : Int => #[.int .i64 x]) (KpK wc) (fun ys => ys.Perm (pKI l)) (fun _ => True) (l.length + 1) w0 := by
 intro lp Jp Jx W hW hJ hJx hY h0
 have hBW : Below wc.heap.size wc W := hwc.trans (hW.mono hwc.size)
 have hB1 : ∃ fz, W.heap[Bm]? = some (.cells #[.map (some b)] TB fz) := by
  obtain ⟨fz, h⟩ := hB
  exact ⟨fz, (hBW.block Bm (Zm h)).trans h⟩
 have hb1 : W.heap[b]? = some (mIn l) := (hBW.block b (Zm hb)).trans hb
 have fB := FoC.mk (w0 := W) hB1
 have fb := FoO.mk hb1
 have hgo := Zfh (N := N) (P := Tryz.prog) (l := [Value.func (.yield lp) #[] #[], Value.pointer (some ⟨Bm, 0, none⟩)]) (w := W) (R := fun e W' => (∃ v, e = Ending.returned v) ∧ ((∃ xs, xs.Perm (pKI l) ∧ Jp xs W') ∨ ∃ pre, True ∧ Jx pre W')) Tryz.func307 rfl Tryz.ntmps307 rfl
 refine hgo ?_
 clear hgo
 refine Zat ?_
 refine Zce ?_
 repeat (refine wkM ?_; try intro _)
 refine Zae ?_
 rename_i r
 refine Za0 ?_
 refine Zhw (S := List Nat) (fun s W1 => SeenOk l.length s ∧ Jp (seenL (pKI l) s) W1 ∧ Below wc.heap.size wc W1 ∧ W1.heap[r]? = some (itO b l.length s) ∧ W.heap.size ≤ r) (fun _ => [(0, .func (.yield lp) #[] #[]), (5, .pointer (some ⟨r, 0, none⟩))]) (fun s => l.length - s.length) [] (fun w hw => ⟨⟨List.nodup_nil, fun i hi => by cases hi⟩, hJ _ W w none h0 (Z4 hw.ext) (fun _ e => by cases e), hBW.trans (hw.ext.bel.mono hBW.size), (hw.mem _ (.head _)).2, (hw.mem _ (.head _)).1⟩) sbB (fun s W1 hI => ?_)
 obtain ⟨hs, hJp, hB0, hr1, hrW⟩ := hI
 have hbb : W1.heap[b]? = some (mIn l) := (hB0.block b (Zm hb)).trans hb
 have hlen := ZaJ hs.nd hs.lt
 refine Zat ?_
 refine ZaQ ?_
 refine Zge rfl rfl (fun w hw => (hw.ext.block _ (Zm hr1)).trans hr1) (fun w hw => (hw.ext.block _ (Zm hbb)).trans hbb) (fun hall => ?h0) (fun w w1 hw hw1 i hi hni => ?h1)
 case h0 =>
  refine Zbj (fun _ _ h => by obtain ⟨⟨v, h⟩, _⟩ := h; cases h) rfl ?_
  repeat (refine wkM ?_; try intro _)
  refine Zae ?_
  refine Zat ?_
  refine Zbl rfl (fun h => by cases h) (fun _ => ?_)
  refine Zhf ?_
  refine Zc7 ?_
  refine Zc8 ?_
  refine Zcd ?_
  exact Zam rfl (fun w hw => ⟨⟨_, rfl⟩, .inl ⟨_, Zb6 hs.nd (by rw [List.length_map]; exact hs.lt) (by rw [List.length_map]; exact hall), hJ _ W1 w none hJp (Z4 hw.ext) (fun _ e => by cases e)⟩⟩)
 case h1 =>
  have hs' := hs.snoc hi hni
  have hlen' := ZaJ hs'.nd hs'.lt
  rw [List.length_append, List.length_singleton] at hlen'
  have hrw : w.heap[r]? = some (itO b l.length s) := (hw.ext.block _ (Zm hr1)).trans hr1
  have hg := ZeC (r := r) (o := itO b l.length (s ++ [i])) hw1
  have hJ2 := hJ _ w _ (some r) (hJ _ W1 w none hJp (Z4 hw.ext) (fun _ e => by cases e)) hg (fun r' e => by cases e; exact ⟨hrW, _, hrw, ZcI _ _ _⟩)
  have hB2 := (hB0.trans (hw.ext.bel.mono hB0.size)).grown hg (Nat.le_trans hB0.size hw.ext.size) (fun j e => by cases e; exact Nat.le_trans hBW.size hrW)
  have hr2 := ZeP (o := itO b l.length (s ++ [i])) hw1 hrw
  generalize setBlock w1 r (itO b l.length (s ++ [i])) = W2 at *
  have hb2 : W2.heap[b]? = some (mIn l) := (hB2.block b (Zm hb)).trans hb
  have f2 := FoO.mk hr2
  have f3 := FoO.mk hb2
  refine Zbj (fun _ _ h => by obtain ⟨⟨v, h⟩, _⟩ := h; cases h) rfl ?_
  repeat (refine wkM ?_; try intro _)
  refine Zae ?_
  refine Zat ?_
  refine Zbl rfl (fun _ => ?_) (fun h => by cases h)
  refine Zdl ?_
  refine Zae ?_
  refine Za0 ?_
  refine Zat ?_
  refine Zce ?_
  repeat (refine wkM ?_; try intro _)
  refine Zae ?_
  refine Zat ?_
  refine ZaQ ?_
  refine ⟨fun a2 w2 ha2 hw2 => Za7 [_, _] a2 w2 rfl (JO.out ?_ a2 w2 ha2 hw2)⟩
  repeat (refine wkM ?_; try intro _)
  refine Zdj (fun a3 w3 ha3 hw3 => (ZeW (l := lp) (args := #[.int .i64 (gi l (i : Int)).1]) (R := fun e W' => (e = .returned (.bool true) ∧ Jp (seenL (pKI l) (s ++ [i])) W' ∧ KpK wc W2 W') ∨ (e = .returned (.bool false) ∧ Jx (seenL (pKI l) (s ++ [i])) W')) rfl rfl rfl (fun a w ha => Ze9 ha rfl rfl) (fun w hw => ?_) ?_).out a3 w3 ha3 hw3)
  ·obtain ⟨fn, tmps, asg, bd, y1, y2⟩ := hY (seenL (pKI l) s) (gi l (i : Int)).1 w (hJ _ W2 w none hJ2 (Z4 hw.ext) (fun _ e => by cases e)) (by rw [ZdU _ (by rw [List.length_map]; exact hs.lt)]; omega)
   refine ⟨fn, tmps, asg, bd, y1, y2.mono fun e W' h => ?_⟩
   rw [Zqa hi]
   rcases h with ⟨e1, e2, e3⟩ | ⟨e1, e2⟩
   ·exact .inl ⟨e1, e2, (hw.ext.bel.mono hB2.size).trans e3.1, fun k o hk hwk => e3.2 k o ((hw.ext.block k (Zm hk)).trans hk) hwk⟩
   ·exact .inr ⟨e1, e2⟩
  ·rintro e W' (⟨rfl, hJ', hk⟩ | ⟨rfl, hx'⟩)
   ·refine ⟨_, rfl, ?_⟩
    refine Zbj (E := (12, .bool true) :: _) (fun _ _ h => by obtain ⟨⟨v, h⟩, _⟩ := h; cases h) rfl ?_
    repeat (refine wkM ?_; try intro _)
    refine Zae ?_
    refine Zbl rfl (fun h => by cases h) (fun _ => ?_)
    refine Zdl ?_
    refine Zet ?_
    refine Zgn (s ++ [i]) (fun w hw => ⟨hs', hJ _ W' w none hJ' (Z4 hw.ext) (fun _ e => by cases e), hB2.trans ((hk.1.mono (Nat.le_refl _)).trans (hw.ext.bel.mono (Nat.le_trans hB2.size hk.1.size))), ?_, hrW⟩) sbB (by simp only [List.length_append, List.length_singleton]; omega)
    have h3 := hk.2 r _ hr2 (ZcI _ _ _)
    exact (hw.ext.block _ (Zm h3)).trans h3
   ·refine ⟨_, rfl, ?_⟩
    refine Zbj (E := (12, .bool false) :: _) (fun _ _ h => by obtain ⟨⟨v, h⟩, _⟩ := h; cases h) rfl ?_
    repeat (refine wkM ?_; try intro _)
    refine Zae ?_
    refine Zbl rfl (fun _ => ?_) (fun h => by cases h)
    refine ZjM ?_
    refine Zbi ?_
    refine Zdw ?_
    refine Zbi ?_
    exact Zdi rfl (fun w hw => ⟨⟨_, rfl⟩, .inr ⟨_, trivial, hJx _ W' w none hx' (Z4 hw.ext) (fun _ e => by cases e)⟩⟩)
end Go.Vt
/- The keys of a map, collected. Conditions: those that each statement names. -/
namespace Go.Vt
open Go.RowKit Go.Proofs
def SeqIN (w : World) (b2 : Nat) (pre : List Int) (W : World) : Prop :=
 (∃ v', Boxed W b2 106 v' ∧ W.ownsRow w.heap.size 3 1 v' pre.length (rowL (eI .i64) pre) ∧ (pre = [] → v' = .slice none 0 0)) ∧ Below w.heap.size w W
theorem Zh3 {w : World} {b2 B : Nat} (hB : w.heap.size ≤ B) : OwnFrom B (SeqIN w b2) :=
 OwnFrom.and (Own.from (holdsRow_own w.heap.size b2 106 3 1 (fun pre => pre.length) (fun pre => rowL (eI .i64) pre) (fun pre v' => pre = [] → v' = .slice none 0 0)) _) (ownFrom_below (Nat.le_refl _) hB)
def SeqAI (b2 : Nat) (x : Int) (a' : Act) (_ : World) : Prop := Rep 13 [(2, .pointer (some ⟨b2, 0, none⟩)), (5, .int .i64 x)] a'
theorem Zm9 {w W w3 w4 : World} {b2 B : Nat} {v' v2 : Value} {pre : List Int} {x : Int} (hw : w.heap.size ≤ W.heap.size) (hBe : Below w.heap.size w W) (h5 : Boxed W b2 106 v') (hrow : W.ownsRow w.heap.size 3 1 v' pre.length (rowL (eI .i64) pre))
  (hx : Ext W w3) (hown : w4.ownsRow w.heap.size 3 1 v2 (pre.length + 1) (rowL (eI .i64) pre ++ rowL (eI .i64) [x])) (hg : w3.grownBy w4 v'.ownBlock) (hb2 : w.heap.size ≤ b2) :
  Boxed w4 b2 106 v' ∧ KeepsFrom B W (w4.setCell ⟨b2, 0, none⟩ v2) ∧ KpK w W (w4.setCell ⟨b2, 0, none⟩ v2) ∧ SeqIN w b2 (pre ++ [x]) (w4.setCell ⟨b2, 0, none⟩ v2) := by
 have hrow3 : w3.ownsRow w.heap.size 3 1 v' pre.length (rowL (eI .i64) pre) := hrow.kept (Z4 hx) (by cases v' with
  | slice p n c => cases p with
   | none => exact .inl rfl
   | some p => exact .inr (fun h => by cases h)
  | _ => exact .inl rfl)
 have q5 := Boxed.kept (ZcG h5 hx) hg (Boxed.not_row (ZcG h5 hx) (by decide) hrow3)
 have own : ∀ j, v'.ownBlock = some j → w.heap.size ≤ j ∧ ∃ cs T, w3.heap[j]? = some (.cells cs T (0, 0)) := fun j hj => by
  rcases hrow3.2 with ⟨rfl, _⟩ | ⟨g, cap, cur, rfl, hb, hgb, _⟩
  ·cases hj
  ·obtain rfl : g = j := by simpa [Value.ownBlock] using hj
   exact ⟨hb, _, _, hgb⟩
 have keep : ∀ (k : Nat) (o : Obj), W.heap[k]? = some o → o.isCells = false → (w4.setCell ⟨b2, 0, none⟩ v2).heap[k]? = some o := fun k o hk ho => by
  have e3 : w3.heap[k]? = some o := (hx.block k (Zm hk)).trans hk
  have e4 : w4.heap[k]? = some o := (hg.block k (Zm e3) (fun e => by obtain ⟨-, cs, T, hc⟩ := own k e.symm; rw [e3] at hc; cases hc; cases ho)).trans e3
  refine ((grownBy_setCell' w4 b2 v2).block k (Zm e4) (fun e => ?_)).trans e4
  obtain rfl : k = b2 := by simpa using e
  rw [show w4.heap[k]? = _ from q5] at e4
  cases e4
  cases ho
 have hbel := ((hx.bel.mono hw).grown hg (Nat.le_trans hw hx.size) (fun j e => (own j e).1)).setCell (p := ⟨b2, 0, none⟩) hb2 v2
 refine ⟨q5, ⟨Nat.le_trans hx.size (Nat.le_trans hg.size (grownBy_setCell' w4 b2 v2).size), fun k o _ hk ho => keep k o hk ho⟩, ⟨hbel, fun k o hk ho => keep k o hk (Obj.not_cells_of_walk ho)⟩, ⟨⟨v2, Boxed.set v2 q5, ?_, fun h => ?_⟩, hBe.trans hbel⟩⟩
 ·have e := hown.kept (grownBy_setCell' w4 b2 v2) (.inr (Boxed.not_row q5 (by decide) hown).symm)
  rw [List.length_append, List.length_singleton, Zbp]
  exact e
 ·simp at h
set_option maxHeartbeats 4000000 in
theorem Zl1 (Bm b : Nat) (TB : TypeId) (l : List (Int × Bool)) (w : World) (hl : l.length ≤ 1048576) (hB : ∃ fz, w.heap[Bm]? = some (.cells #[.map (some b)] TB fz)) (hb : w.heap[b]? = some (mIn l)) :
  Calls Tryz.prog 333 [.slice none 0 0, .func (.func 307) #[] [.pointer (some ⟨Bm, 0, none⟩)].toArray].toArray w (RetM ((ys : { ys : List Int // ys.Perm (pKI l) }) × SlS (eI .i64) 1 ys.1) (fun s => vSl s.2) (fun s => mS 3 s.2) w) := by
 have hgo := ZeT (N := 5) (P := Tryz.prog) (l := [Value.slice none 0 0, .func (.func 307) #[] [.pointer (some ⟨Bm, 0, none⟩)].toArray]) (w := w) (R := RetM ((ys : { ys : List Int // ys.Perm (pKI l) }) × SlS (eI .i64) 1 ys.1) (fun s => vSl s.2) (fun s => mS 3 s.2) w) Tryz.func333 rfl Tryz.ntmps333 rfl
 refine hgo ?_
 clear hgo
 refine Zat ?_
 refine Zce ?_
 repeat (refine wkM ?_; try intro _)
 refine Zae ?_
 refine Zat ?_
 refine Zat ?_
 refine Zce ?_
 repeat (refine wkM ?_; try intro _)
 refine Zae ?_
 refine Za0 ?_
 rename_i b2
 refine ⟨fun a w1 ha hw1 => ?_⟩
 have hb2 := hw1.mem _ (.head _)
 have hwd := hw1.ext.size
 refine wpIn_rangeFunc_ownH (F := Fr none) (n := 5) (P := Tryz.prog) (w0 := w1) (N := l.length + 1) (α := Int) (encs := fun x => #[.int .i64 x]) (S := fun ys => ys.Perm (pKI l)) (Sp := fun _ => True) (Kp := KpK w) rfl (by omega) (gf := 307) (lb := #[.pointer (some ⟨Bm, 0, none⟩)]) (ha.ev (x := .tmp 6) rfl) trivial (fun args w => Zbu (by kernel_rfl) args w)
  (ZiT w w1 Bm b 4 TB l hw1.ext.bel hB hb) (fun h k => ⟨h.1.trans k.1, fun i o ho hw => k.2 i o (h.2 i o ho hw) hw⟩) (fun W lo o o' hl h hc hk => ⟨belowK_b (w := w1) hwd W lo o o' hl h hc hk, fun k o2 h2 hw2 => (World.putObj_heap_other (fun e => by rw [e, h] at h2; cases h2; rw [hk] at hw2; cases hw2)).trans h2⟩) (Below.refl _ _) (fun _ => rfl)
  (SeqIN w b2) (fun _ _ _ => False) (Zh3 hwd) (fun _ _ _ _ _ hs _ _ => hs) ⟨⟨_, hb2.2, World.ownsRow_nil _ _ _ _, fun _ => rfl⟩, hw1.ext.bel⟩
  (SeqAI b2) (fun _ _ _ _ _ _ h _ _ => h) ?assign ?body ?done ?stop
 case stop =>
  rintro D c pre W _ _ h _
  exact h.elim
 case assign =>
  intro lo pre x W K hi hK
  have hact : ∀ a0 : Act, a0.defers = [] → ({ tmps := ((#[7] : Array Tmp).zip #[Value.int .i64 x]).foldl (fun t (p, v) => t.setIfInBounds p v) a0.tmps, defers := [] } : Act) = a0.put (some 7) (.int .i64 x) := fun a0 h => by
   cases a0
   simp only at h
   subst h
   simp [Act.put]
  rw [hact a ha.defers]
  have hrep := ha.put (some 7) (.int .i64 x) rfl
  refine JI.out (r := some lo) (N := 3) (P := Tryz.prog) (w0 := W) (n := 13) (E := [(7, .int .i64 x), (2, .pointer (some ⟨b2, 0, none⟩))]) (L := []) ?_ _ W (hrep.sub sbB) (Own.start W)
  refine ZaQ ?_
  refine Zbj (fun _ _ h => h) rfl ?_
  repeat (refine wkM ?_; try intro _)
  refine ⟨fun a' W' ha' hw' => hK a' W' ⟨hw'.ext.size, fun k o _ hk _ => (hw'.ext.block k (Zm hk)).trans hk⟩ ⟨hw'.ext.bel.mono hi.2.size, fun k o ho _ => (hw'.ext.block _ (Zm ho)).trans ho⟩ (Zh3 (Nat.le_refl _) _ W W' none hi (Z4 hw'.ext) (fun r e => by cases e)) (ha'.sub sbB)⟩
 case body =>
  rintro lo pre x a' W hlw hr hi hra hlt
  obtain ⟨⟨v', hv', hrow, hnil⟩, hBe⟩ := hi
  obtain ⟨o, m, c, hvs⟩ : ∃ o m c, v' = .slice o m c := by
   rcases hrow.2 with ⟨h, _⟩ | ⟨g, cap, _, h, _⟩
   ·exact ⟨_, _, _, h⟩
   ·exact ⟨_, _, _, h⟩
  have f2 := FoC.mk ⟨(0, 0), hv'⟩
  rw [hvs] at f2
  refine JI.out (r := some lo) (N := 3) (P := Tryz.prog) (w0 := W) (n := 13) (E := [(2, .pointer (some ⟨b2, 0, none⟩)), (5, .int .i64 x)]) (L := []) ?_ _ W hra (Own.start W)
  refine Za0 ?_
  refine ZaQ ?_
  refine ⟨fun a2 w2 ha2 hw2 => ?_⟩
  refine Za7 [_, _, _] a2 w2 rfl (JO.out (w0 := W) (n := 13) (L := []) ?_ a2 w2 ha2 hw2)
  repeat (refine wkM ?_; try intro _)
  refine Zdj (fun a3 w3 ha3 hw3 => ?_)
  have hbn := (hw3.mem _ (.head _)).2
  refine Zfc (size := 1) (k := pre.length) (m := 1) (base := w.heap.size) (v := v') (xs := rowL (eI .i64) pre) (news := rowL (eI .i64) [x]) ha3 (by rw [hvs]; rfl) rfl rfl (by decide) (hrow.kept (Z4 hw3.ext) (by rw [hvs]; cases o with | none => exact .inl rfl | some p => exact .inr (fun h => by cases h))) (Zah (k := 1) [x]) (fun j u hu => by rw [ZaA, Zas hbn, Nat.zero_add]; simpa [row] using hu) (ZcJ [x]) (by simp only [maxLen]; omega) ?_ (Nat.le_trans hBe.size hw3.ext.size) (fun v2 w4 hown hgrow => ?_)
  ·omega
  ·obtain ⟨g', cap', hv2⟩ := ownsRow_succ hown
   subst hv2
   obtain ⟨q5, k1, k2, k3⟩ := Zm9 (x := x) (B := w1.heap.size) hBe.size hBe hv' hrow hw3.ext hown hgrow hb2.1
   refine Zd0 (b := b2) (ha3.put (some 11) _ rfl) rfl rfl q5 (by kernel_rfl) rfl rfl ?_
   exact wpListIn_nil ⟨k1, k2, k3⟩
 case done =>
  rintro D ys W hD hp hi hK
  obtain ⟨⟨v', hv', hrow, hnil⟩, hBe⟩ := hi
  obtain ⟨s, hs1, hs2, hs3⟩ := ZiF hnil hrow
  obtain ⟨o, m, c, hvs⟩ : ∃ o m c, v' = .slice o m c := by
   rcases hrow.2 with ⟨h, _⟩ | ⟨g, cap, _, h, _⟩
   ·exact ⟨_, _, _, h⟩
   ·exact ⟨_, _, _, h⟩
  have f5 := FoC.mk ⟨(0, 0), hv'⟩
  rw [hvs] at f5 hs1
  have hra : Rep 13 [(2, .pointer (some ⟨b2, 0, none⟩))] a := ha.sub sbB
  have hl : YlC Tryz.prog W 13 [] [(2, .pointer (some ⟨b2, 0, none⟩))] (.load 106 (.tmp 2)) (.slice o m c) := inferInstance
  show Code.wpIn (Fr none) 5 _ _ _ _ W
  refine wpIn_seq (wpIn_region_lit ?_)
  refine Zdk (a := a) (L := []) (w0 := W) (hl.out _ _ _ _ _) hra (Own.start W) rfl rfl (fun W2 hx2 => ?_)
  refine Zdk (a := a.put (some 12) (.slice o m c)) (L := []) (w0 := W2) (E := Env.put [(2, .pointer (some ⟨b2, 0, none⟩))] (some 12) (.slice o m c)) (ZdR rfl) (hra.put (some 12) _ rfl) (Own.start W2) rfl rfl (fun W3 hx3 => ?_)
  refine wpListIn_nil ?_
  have hx := hx2.tr hx3
  have hK3 : W3.heap[D]? = some (.deferred (some [])) := (hx.block D (Zm hK)).trans hK
  have hr4 : ((a.put (some 12) (.slice o m c)).put (some 4) (.slice o m c)).tmps[4]? = some (.slice o m c) := ((hra.put (some 12) _ rfl).put (some 4) (.slice o m c) rfl).val 4 _ rfl
  refine wpIn_ret ?_
  refine ⟨by simp, .inl ⟨_, _, rfl, run_takeDeferred hK3, ?_⟩⟩
  rw [ha.defers]
  refine ⟨.slice o m c, ?_, ⟨⟨ys, hp⟩, s⟩, by rw [hs1], ⟨⟨?_, trivial⟩, fun e he => ?_, hs2⟩⟩
  ·rw [results_tmp rfl]
   show Result.ok (Array.getD _ 4 undef) _ = _
   rw [Array.getD_eq_getD_getElem?, hr4]
   rfl
  ·exact (hBe.trans (hx.bel.mono hBe.size)).trans (belowK_b (w := w1) hwd W3 D _ _ hD hK3 rfl rfl)
  ·obtain ⟨h1, h2⟩ := hs3 e he
   have h3 := (hx.block _ (Zm h2)).trans h2
   refine ⟨h1, (World.putObj_heap_other (fun hd => ?_)).trans h3⟩
   rw [hd, hK3] at h3
   simp only at he
   rcases s.cases 3 with ⟨-, -, x2⟩ | ⟨bs, cs, sp, -, -, x2, -⟩
   ·rw [x2] at he
    cases he
   ·rw [x2, List.mem_singleton] at he
    subst he
    cases h3
end Go.Vt
/- Numbers in order: insertion sort, binary search. Conditions: those that each statement names. -/
namespace Go.Vt
open Go.RowKit Go.Proofs
instance ZFw (x : Int) : SpecC Tryz.prog 209 [.int .i64 x] (.bool false) True := ⟨fun _ w => by
 refine Zg Tryz.func209 rfl Tryz.ntmps209 rfl ?_
 repeat (refine wkM ?_; try intro _)
 simp only [decide_eq_true (show x = x from rfl), Bool.not_true]
 repeat (refine wkM ?_; try intro _)
 exact Zf rfl rfl (fun w hw => Zh hw)⟩
instance ZEi (x : Int) : SpecC Tryz.prog 263 [.int .i64 x] (.bool false) True := ⟨fun _ w => by
 refine Zg Tryz.func263 rfl Tryz.ntmps263 rfl ?_
 repeat (refine wkM ?_; try intro _)
 simp only [decide_eq_true (show x = x from rfl), Bool.not_true]
 repeat (refine wkM ?_; try intro _)
 exact Zf rfl rfl (fun w hw => Zh hw)⟩
instance Zzn (x y : Int) : SpecC Tryz.prog 262 [.int .i64 x, .int .i64 y] (.bool (decide (x < y))) True := ⟨fun _ w => by
 refine Zg Tryz.func262 rfl Tryz.ntmps262 rfl ?_
 repeat (first | (refine wkM ?_; try intro _) | (refine sC rfl rfl ?_ ?_; focus (exact trivial)) | (refine sN rfl rfl ?_ ?_; (focus (exact trivial)); intro _; (try simp only [List.cons_append, List.nil_append, List.append_nil])))
 exact Zf rfl rfl (fun w hw => Zh hw)⟩
instance ZyC : CallC Tryz.prog 262 := ⟨by kernel_rfl⟩
instance ZyU : CallC Tryz.prog 263 := ⟨by kernel_rfl⟩
def cmpI (a b : Int) : Int := a - b
def leI (a b : Int) : Prop := a ≤ b
def sortI (xs : List Int) : List Int := srtG cmpI xs (xs.length - 1)
theorem Zcq (xs : List Int) : (sortI xs).Perm xs := by
 unfold sortI
 rcases Nat.eq_zero_or_pos xs.length with h | h
 ·rw [List.length_eq_zero_iff.1 h]
  exact .refl _
 ·exact ZbF _ _ _ (by omega)
theorem ZdN (xs : List Int) : (sortI xs).length = xs.length := (Zcq xs).length_eq
theorem ZdQ (xs : List Int) : (sortI xs).Pairwise leI := by
 refine List.pairwise_iff_getElem.2 fun p q hp hq hpq => ?_
 have hl := ZdN xs
 rw [← Zi hp, ← Zi hq]
 unfold sortI
 exact ZcM (c := cmpI) (le := leI) (fun a b h => by unfold leI cmpI at *; omega) (fun a b h => by unfold leI cmpI at *; omega) (fun _ _ _ h k => Int.le_trans h k) xs (xs.length - 1) (by omega) p q hpq (by omega)
theorem Zij {xs ys : List Int} (h : xs.Perm ys) : sortI xs = sortI ys :=
 ZcT (fun _ _ h k => Int.le_antisymm h k) ((Zcq xs).trans (h.trans (Zcq ys).symm)) (ZdQ xs) (ZdQ ys)
theorem ZnX (xs : List Int) (j : Nat) : (swpG xs j).length = xs.length := ZcN xs j
theorem Zob (xs : List Int) (i : Nat) (h : i < xs.length) : (srtG cmpI xs i).length = xs.length := (ZbF cmpI xs i h).length_eq
set_option maxHeartbeats 4000000 in
theorem ZnT (w0 w : World) (L1 : List Blk) (b c n : Nat) (xs : List Int) (sp : List Value) (T : TypeId) (hn : xs.length = n) (h0 : 0 < n) (hl : n ≤ 1048576) (hw : Own w0 (⟨b, row (eI .i64) xs sp, T⟩ :: L1) w) :
  Calls Tryz.prog 355 [.slice (some ⟨b, 0, none⟩) n c, .int .i64 0, .int .i64 n].toArray w (RetX w0 Unit (fun _ => .tuple #[]) (fun _ => ⟨b, row (eI .i64) (sortI xs) sp, T⟩ :: L1)) := by
 have hso : sortI xs = srtG cmpI xs (n - 1) := by rw [sortI, hn]
 rw [hso]
 refine Z1 Tryz.func355 rfl Tryz.ntmps355 rfl hw ?_
 repeat (refine wkM ?_; try intro _)
 refine Zq (S := Nat) (fun m => m ≤ n - 1) (fun m => [(0, .slice (some ⟨b, 0, none⟩) n c), (1, .int .i64 0), (2, .int .i64 n), (6, .int .i64 ((m + 1 : Nat)))]) (fun m => ⟨b, row (eI .i64) (srtG cmpI xs m) sp, T⟩ :: L1) (fun m => n - 1 - m) 0 (Nat.zero_le _) sbB slB (fun m hm => ?_)
 have hsl := Zob xs m (by omega)
 repeat (refine wkM ?_; try intro _)
 refine Zl rfl (fun h => ?_) (fun h => ?_)
 ·have hlt : m + 1 < n := by have := of_decide_eq_true h; omega
  repeat (refine wkM ?_; try intro _)
  refine Zq (S := Nat × List Int) (fun s => dwnG cmpI s.2 s.1 = srtG cmpI xs (m + 1) ∧ s.2.length = n ∧ s.1 ≤ m + 1) (fun s => [(0, .slice (some ⟨b, 0, none⟩) n c), (1, .int .i64 0), (2, .int .i64 n), (6, .int .i64 ((m + 1 : Nat))), (7, .int .i64 ((s.1 : Nat)))]) (fun s => ⟨b, row (eI .i64) s.2 sp, T⟩ :: L1) (fun s => s.1) (m + 1, srtG cmpI xs m)
   ⟨rfl, by show (srtG cmpI xs m).length = n; omega, Nat.le_refl _⟩ sbB slB (fun s hs => ?_)
  obtain ⟨j, ys⟩ := s
  obtain ⟨g1, g2, g3⟩ := hs
  simp only at g1 g2 g3 ⊢
  repeat (refine wkM ?_; try intro _)
  rcases j with _ | j
  ·(refine jD 15 15 (h := ?_); (repeat (refine wkH ?_)); refine Zr ?_; (repeat (refine Z6 ?_; intro _)); refine Zt ?_)
   repeat (refine wkM ?_; try intro _)
   exact Zj (m + 1) (by omega) sbB (by rw [← g1]; exact List.Sublist.refl _) (by omega)
  ·have hj1 : ((j : Int)).toNat < ys.length := by omega
   have hj2 : (((j + 1 : Nat) : Int)).toNat < ys.length := by omega
   have e1 : ((j + 1 : Nat) : Int) - 1 = (j : Int) := by omega
   rw [dwnG] at g1
   refine jD 15 15 (h := ?_)
   (repeat (refine wkH ?_))
   simp only [decide_eq_true (show (0 : Int) < ((j + 1 : Nat) : Int) by omega), e1]
   (repeat (refine wkH ?_))
   simp only [e1]
   (repeat (first | refine wkH ?_ | (refine tC rfl rfl ?_ ?_; focus (exact trivial))))
   refine Zr ?_
   refine Zt ?_
   repeat (refine wkM ?_; try intro _)
   by_cases hc : gi ys ((j + 1 : Nat) : Int) < gi ys (j : Int)
   ·rw [if_pos (by unfold cmpI; omega)] at g1
    simp only [decide_eq_true hc]
    repeat (refine wkM ?_; try intro _)
    (refine ZfF [(true, [0, 1, 2, 3, 4, 5, 6, 7, 8]), (false, [9]), (true, [10, 11, 12]), (false, [13]), (true, [14])] [15, 16, 17] (h := ?_); refine wkS ?_)
    (repeat (refine wkH ?_))
    simp only [e1]
    refine Zr ?_
    refine eR rfl ?_ ?_
    ·omega
    refine uS rfl rfl ?_ ?_
    ·omega
    refine eR rfl ?_ ?_
    ·rw [List.length_set]; omega
    refine Zbf ?_
    simp only [Int.toNat_natCast]
    repeat (refine wkO ?_; try intro _)
    simp only [e1]
    exact Zj (j, swpG ys j) ⟨g1, by rw [ZnX]; exact g2, by omega⟩ sbB slB (by show j < j + 1; omega)
   ·rw [if_neg (by unfold cmpI; omega)] at g1
    simp only [decide_eq_false hc]
    repeat (refine wkO ?_; try intro _)
    exact Zj (m + 1) (by omega) sbB (by rw [← g1]; exact List.Sublist.refl _) (by omega)
 ·have hge : m = n - 1 := by have := of_decide_eq_false h; omega
  subst hge
  repeat (refine wkM ?_; try intro _)
  exact Zam rfl (fun w hw => ⟨(), rfl, hw⟩)
abbrev SrtSI (xs : List Int) (s : SlS (eI .i64) 1 xs) : Type := { s' : SlS (eI .i64) 1 (sortI xs) // vSl s' = vSl s }
theorem Zmx (w0 w : World) (L L1 : List Blk) (xs : List Int) (s : SlS (eI .i64) 1 xs) (T : TypeId) [hd : OwnS T s L L1] (hl : xs.length ≤ 12) (hw : Own w0 L w) :
  Calls Tryz.prog 355 [vSl s, .int .i64 0, .int .i64 xs.length].toArray w (RetX w0 (SrtSI xs s) (fun _ => .tuple #[]) (fun s' => mS T s'.1 ++ L1)) := by
 have hw1 := hw.perm hd.out
 rcases s.cases T with ⟨rfl, hv, hm⟩ | ⟨b, c, sp, h1, hv, hm, hne⟩
 ·suffices h : Calls Tryz.prog 355 [.slice none 0 0, .int .i64 0, .int .i64 (([] : List Int).length : Nat)].toArray w (RetX w0 (SrtSI [] s) (fun _ => .tuple #[]) (fun s' => mS T s'.1 ++ L1)) by
   rw [← hv] at h
   exact h
  refine Z1 Tryz.func355 rfl Tryz.ntmps355 rfl hw1 ?_
  repeat (refine wkM ?_; try intro _)
  refine Zq (S := Unit) (fun _ => True) (fun _ => [(2, .int .i64 (([] : List Int).length : Nat)), (6, .int .i64 1)]) (fun _ => mS T s ++ L1) (fun _ => 0) () trivial sbB slB (fun _ _ => ?_)
  repeat (refine wkM ?_; try intro _)
  simp only [decide_eq_false (show ¬ (1 : Int) < ((([] : List Int).length : Nat) : Int) by simp)]
  repeat (refine wkM ?_; try intro _)
  exact Zam rfl (fun w hw => ⟨⟨s, rfl⟩, rfl, hw⟩)
 ·suffices h : Calls Tryz.prog 355 [.slice (some ⟨b, 0, none⟩) xs.length c, .int .i64 0, .int .i64 xs.length].toArray w (RetX w0 (SrtSI xs s) (fun _ => .tuple #[]) (fun s' => mS T s'.1 ++ L1)) by
   rw [← hv] at h
   exact h
  rw [hm] at hw1
  have hsl := ZdN xs
  have hpos : 0 < xs.length := List.length_pos_iff.2 hne
  refine (ZnT w0 w L1 b c xs.length xs sp T rfl hpos (by omega) hw1).mono fun e w' ⟨_, he, hw'⟩ => ?_
  exact ⟨⟨SlS.at_ b c sp (by rw [hsl]; exact h1) (fun h0 => hne (List.length_eq_zero_iff.1 (by rw [h0, List.length_nil] at hsl; exact hsl.symm))), by rw [hv]; show Value.slice _ (sortI xs).length c = _; rw [hsl]⟩, he, hw'⟩
instance ZEy (w0 : World) (L L1 : List Blk) (xs : List Int) (s : SlS (eI .i64) 1 xs) (T : TypeId) [hd : OwnS T s L L1] : SpecX Tryz.prog w0 L 355 [vSl s, .int .i64 0, .int .i64 xs.length] (SrtSI xs s) (fun _ => .tuple #[]) (fun s' => mS T s'.1 ++ L1) (xs.length ≤ 12) := ⟨fun hp w hw => Zmx w0 w L L1 xs s T hp hw⟩
theorem Znu (w0 w : World) (L L1 : List Blk) (xs : List Int) (s : SlS (eI .i64) 1 xs) (T : TypeId) (z : Int) [hd : OwnS T s L L1] (hl : xs.length ≤ 12) (hw : Own w0 L w) :
  Calls Tryz.prog 334 [vSl s, .int .i64 0, .int .i64 xs.length, .int .i64 z].toArray w (RetX w0 (SrtSI xs s) (fun _ => .tuple #[]) (fun s' => mS T s'.1 ++ L1)) := by
 refine Z1 Tryz.func334 rfl Tryz.ntmps334 rfl hw ?_
 repeat (refine wkM ?_; try intro _)
 refine Zq (S := Unit) (fun _ => True) (fun _ => [(0, vSl s), (1, .int .i64 0), (2, .int .i64 xs.length)]) (fun _ => L) (fun _ => 0) () trivial sbB slB (fun _ _ => ?_)
 repeat (refine wkM ?_; try intro _)
 simp only [decide_eq_true (show (xs.length : Int) - 0 ≤ 12 by omega)]
 repeat (refine wkM ?_; try intro _)
 refine sZ rfl rfl hl ?_
 intro s'
 repeat (refine wkM ?_; try intro _)
 exact Zdi rfl (fun w hw => ⟨s', rfl, hw⟩)
instance ZEC (w0 : World) (L L1 : List Blk) (xs : List Int) (s : SlS (eI .i64) 1 xs) (T : TypeId) (z : Int) [hd : OwnS T s L L1] : SpecX Tryz.prog w0 L 334 [vSl s, .int .i64 0, .int .i64 xs.length, .int .i64 z] (SrtSI xs s) (fun _ => .tuple #[]) (fun s' => mS T s'.1 ++ L1) (xs.length ≤ 12) := ⟨fun hp w hw => Znu w0 w L L1 xs s T z hp hw⟩
theorem ZmA (w0 w : World) (L L1 : List Blk) (xs : List Int) (s : SlS (eI .i64) 1 xs) (T : TypeId) [hd : OwnS T s L L1] (hl : xs.length ≤ 12) (hw : Own w0 L w) :
  Calls Tryz.prog 306 [vSl s].toArray w (RetX w0 (SrtSI xs s) (fun _ => .tuple #[]) (fun s' => mS T s'.1 ++ L1)) := by
 refine Z1 Tryz.func306 rfl Tryz.ntmps306 rfl hw ?_
 have hr : ((xs.length : Nat) : Int) ≤ 18446744073709551615 := by omega
 repeat (first | (refine wkM ?_; try intro _) | (refine sC rfl rfl ?_ ?_; focus (first | exact hr | exact ⟨by omega, by omega⟩)) | (refine sN rfl rfl ?_ ?_; (focus (first | exact hr | exact ⟨by omega, by omega⟩)); intro _; (try simp only [List.cons_append, List.nil_append, List.append_nil])))
 refine sZ rfl rfl hl ?_
 intro s'
 repeat (refine wkM ?_; try intro _)
 exact Zam rfl (fun w hw => ⟨s', rfl, hw⟩)
instance ZB1 (w0 : World) (L L1 : List Blk) (xs : List Int) (s : SlS (eI .i64) 1 xs) (T : TypeId) [hd : OwnS T s L L1] : SpecX Tryz.prog w0 L 306 [vSl s] (SrtSI xs s) (fun _ => .tuple #[]) (fun s' => mS T s'.1 ++ L1) (xs.length ≤ 12) := ⟨fun hp w hw => ZmA w0 w L L1 xs s T hp hw⟩
structure CutI (xs : List Int) (t : Int) (k : Nat) : Prop where
 le : k ≤ xs.length
 lo : ∀ j : Nat, j < k → gi xs (j : Int) < t
 hi : ∀ j : Nat, k ≤ j → j < xs.length → t ≤ gi xs (j : Int)
theorem Zhj {t : Int} : ∀ {xs : List Int}, xs.Pairwise leI → ∃ k, CutI xs t k
 | [], _ => ⟨0, Nat.le_refl _, fun j h => absurd h (Nat.not_lt_zero _), fun j _ h => absurd h (Nat.not_lt_zero _)⟩
 | x :: xs, h => by
  obtain ⟨h1, h2⟩ := List.pairwise_cons.1 h
  by_cases hx : x < t
  ·obtain ⟨k, k1, k2, k3⟩ := Zhj (t := t) h2
   refine ⟨k + 1, by simpa using k1, fun j hj => ?_, fun j hj hl => ?_⟩
   ·rcases j with _ | j
    ·exact hx
    ·have := k2 j (by omega)
     rw [Zi (by simp; omega)]
     rw [Zi (by omega)] at this
     simpa using this
   ·rcases j with _ | j
    ·omega
    ·have := k3 j (by omega) (by simpa using hl)
     rw [Zi hl]
     rw [Zi (by simpa using hl)] at this
     simpa using this
  ·refine ⟨0, Nat.zero_le _, fun j h => absurd h (Nat.not_lt_zero _), fun j _ hl => ?_⟩
   rw [Zi hl]
   rcases j with _ | j
   ·show t ≤ x
    omega
   ·have h3 : x ≤ xs[j]'(by simpa using hl) := h1 _ (List.getElem_mem _)
    show t ≤ xs[j]'(by simpa using hl)
    omega
theorem Zqk {xs : List Int} {t : Int} {k : Nat} (h : CutI xs t k) (hs : xs.Pairwise leI) : (k < xs.length ∧ gi xs (k : Int) = t) ↔ t ∈ xs := by
 constructor
 ·rintro ⟨h1, h2⟩
  rw [← h2]
  exact ZZ (by omega)
 ·intro hm
  obtain ⟨j, hj, rfl⟩ := List.getElem_of_mem hm
  have hjk : k ≤ j := by
   rcases Nat.lt_or_ge j k with h1 | h1
   ·have := h.lo j h1
    rw [Zi hj] at this
    omega
   ·exact h1
  have hk : k < xs.length := by omega
  refine ⟨hk, ?_⟩
  have h1 := h.hi k (Nat.le_refl _) hk
  rw [Zi hk] at h1 ⊢
  rcases Nat.lt_or_ge k j with h2 | h2
  ·have := List.pairwise_iff_getElem.1 hs k j hk hj h2
   unfold leI at this
   omega
  ·have : k = j := by omega
   subst this
   rfl
set_option maxHeartbeats 4000000 in
theorem Zo1 (v : Value) (xs : List Int) (t : Int) (k : Nat) (hk : CutI xs t k) (hs : xs.Pairwise leI) (w : World) (hv : ArgS w v (eI .i64) xs) (hl : xs.length ≤ 1048576) :
  Calls Tryz.prog 212 [v, .int .i64 t].toArray w (Ret (.tuple #[.int .i64 (k : Nat), .bool (decide (t ∈ xs))]) w) := by
 rw [show decide (t ∈ xs) = decide (k < xs.length ∧ gi xs (k : Int) = t) from decide_eq_decide.2 (Zqk hk hs).symm]
 refine Zg Tryz.func212 rfl Tryz.ntmps212 rfl ?_
 obtain ⟨p, cp, rfl⟩ := hv.form
 repeat (refine wkM ?_; try intro _)
 refine Zq (S := Nat × Nat) (fun s => s.1 ≤ k ∧ k ≤ s.2 ∧ s.2 ≤ xs.length) (fun s => [(0, .slice p xs.length cp), (1, .int .i64 t), (6, .int .i64 xs.length), (7, .int .i64 (s.1 : Nat)), (8, .int .i64 (s.2 : Nat))]) (fun _ => []) (fun s => s.2 - s.1) (0, xs.length)
  ⟨Nat.zero_le _, hk.le, Nat.le_refl _⟩ sbB slB (fun s hs => ?_)
 obtain ⟨lo, hi⟩ := s
 obtain ⟨h1, h2, h3⟩ := hs
 simp only at h1 h2 h3 ⊢
 repeat (refine wkM ?_; try intro _)
 refine Zl rfl (fun h => ?_) (fun h => ?_)
 ·have hlt : lo < hi := by have := of_decide_eq_true h; omega
  have hne : xs ≠ [] := fun h0 => by rw [h0] at h3; simp at h3; omega
  obtain ⟨bw, ow, cw, hvw, hcw, hrow⟩ := hv.blk (k := 0) hne []
  injection hvw with e1 e2 e3
  subst e1
  subst e3
  have hrow' : ∀ L, RowC w L bw ow Int (eI .i64) xs := fun L => ⟨fun w' hw' => hrow.out w' (hw'.sub (List.nil_sublist _))⟩
  repeat (refine wkM ?_; try intro _)
  refine jq (Zcb rfl rfl (by decide)) rfl rfl ?_
  obtain ⟨m, hm⟩ : ∃ m, m = (lo + hi) / 2 := ⟨_, rfl⟩
  have em : ((lo : Int) + (hi : Int)) / 2 ^ (1 : Int).toNat = (m : Int) := by
   rw [show (2 : Int) ^ (1 : Int).toNat = 2 from rfl]
   omega
  simp only [em]
  have hml : lo ≤ m ∧ m < hi := by omega
  repeat (first | (refine wkM ?_; try intro _) | (refine sC rfl rfl ?_ ?_; focus (exact trivial)) | (refine sN rfl rfl ?_ ?_; (focus (exact trivial)); intro _; (try simp only [List.cons_append, List.nil_append, List.append_nil])))
  by_cases hc : gi xs (m : Int) < t
  ·simp only [decide_eq_true hc]
   have hmk : m < k := by
    rcases Nat.lt_or_ge m k with h1 | h1
    ·exact h1
    ·have := hk.hi m h1 (by omega)
     omega
   repeat (refine wkO ?_; try intro _)
   exact Zj (m + 1, hi) ⟨hmk, h2, h3⟩ sbB slB (by show hi - (m + 1) < hi - lo; omega)
  ·simp only [decide_eq_false hc]
   have hmk : k ≤ m := by
    rcases Nat.lt_or_ge m k with h1 | h1
    ·exact absurd (hk.lo m h1) hc
    ·exact h1
   repeat (refine wkM ?_; try intro _)
   exact Zj (lo, m) ⟨h1, hmk, by show m ≤ xs.length; omega⟩ sbB slB (by show m - lo < hi - lo; omega)
 ·have hge : lo = k ∧ hi = k := by have := of_decide_eq_false h; omega
  obtain ⟨rfl, rfl⟩ := hge
  repeat (refine wkM ?_; try intro _)
  by_cases hlt : hi < xs.length
  ·have hne : xs ≠ [] := fun h0 => by rw [h0] at hlt; simp at hlt
   obtain ⟨bw, ow, cw, hvw, hcw, hrow⟩ := hv.blk (k := 0) hne []
   injection hvw with e1 e2 e3
   subst e1
   subst e3
   have hrow' : ∀ L, RowC w L bw ow Int (eI .i64) xs := fun L => ⟨fun w' hw' => hrow.out w' (hw'.sub (List.nil_sublist _))⟩
   simp only [decide_eq_true (show (hi : Int) < (xs.length : Int) by omega)]
   repeat (refine wkM ?_; try intro _)
   by_cases he : gi xs (hi : Int) = t
   ·rw [decide_eq_true (show hi < xs.length ∧ gi xs (hi : Int) = t from ⟨hlt, he⟩)]
    simp only [decide_eq_true he]
    repeat (refine wkM ?_; try intro _)
    exact Zv rfl (Zk rfl) (Zk rfl) (fun w hw => Zh hw)
   ·rw [decide_eq_false (show ¬ (hi < xs.length ∧ gi xs (hi : Int) = t) from fun h => he h.2)]
    simp only [decide_eq_false he]
    repeat (first | (refine wkM ?_; try intro _) | (refine sC rfl rfl ?_ ?_; focus (exact trivial)) | (refine sN rfl rfl ?_ ?_; (focus (exact trivial)); intro _; (try simp only [List.cons_append, List.nil_append, List.append_nil])))
    exact Zv rfl (Zk rfl) (Zk rfl) (fun w hw => Zh hw)
  ·rw [decide_eq_false (show ¬ (hi < xs.length ∧ gi xs (hi : Int) = t) from fun h => hlt h.1)]
   try simp only [decide_eq_false (show ¬ (hi : Int) < (xs.length : Int) by omega)]
   repeat (refine wkM ?_; try intro _)
   exact Zv rfl (Zk rfl) (Zk rfl) (fun w hw => Zh hw)
end Go.Vt
/- Effects on maps in the tail of a region; entries that are made first and filled later. Conditions: those that each rule names. -/
set_option linter.unusedSectionVars false
namespace Go.Vt
open Go.RowKit
open Go.ChangeMaps (setBlock)
section
variable {κ α : Type} [DecidableEq κ]
def slotL (ev : α → Value) (l : List (κ × α)) (x : κ) : Nat := match fnd ev l x 0 with
 | none => l.length
 | some q => q.1
def entM (l : List (κ × α)) (x : κ) (z : α) : List (κ × α) := match mget l x with
 | none => l ++ [(x, z)]
 | some _ => l
variable {P : Program} {ek : κ → Value} {ev : α → Value} {K T V : TypeId} {w : World} {b : Nat} {l : List (κ × α)}
theorem ZfU (l : List (κ × α)) (p : κ × α) : (entL ek ev 0 l).toArray.push { key := ek p.1, val := ev p.2, born := l.length } = (entL ek ev 0 (l ++ [p])).toArray := by
 rw [ZeR, Nat.zero_add]
 simp
theorem Zpz (hT : P.underlying T = some (.map K V)) [hk : KeyC P K ek] {z0 : α} (hz : ∀ w, (zeroValue V).run P w = .ok (ev z0) w) (hb : w.heap[b]? = some (mapO ek ev l)) (x : κ) :
  (Instr.mapEntry T (.map (some b)) (ek x)).run P w = .ok (.tuple #[ev ((mget l x).getD z0), .int .i64 (slotL ev l x : Nat)]) (setBlock w b (mapO ek ev (entM l x z0))) := by
 have hg : (getObj b).run P w = .ok (.map (entL ek ev 0 l).toArray l.length) w := by simp [getObj, Sem.run, hb, mapO]
 have hs : ∀ o, (setObj b o).run P w = .ok () (setBlock w b o) := fun o => by simp [setObj, Sem.run, hb, setBlock, mapO]
 unfold Instr.mapEntry
 simp only [Sem.run_bind, run_underlying hT, Result.andThen, hg, hk.chk, hk.find]
 unfold slotL entM
 cases hf : fnd ev l x 0 with
 | none =>
  obtain ⟨h1, h2⟩ := ZdB hf
  simp only [h1, hz, Sem.run_bind, Result.andThen, hs, Option.getD_none, Sem.run_pure]
  rw [show (entL ek ev 0 l).toArray.push { key := ek x, val := ev z0, born := l.length } = (entL ek ev 0 (l ++ [(x, z0)])).toArray from ZfU l (x, z0)]
  simp [mapO, goInt]
 | some q =>
  obtain ⟨j, u⟩ := q
  obtain ⟨k, hk', h1, h2, h3, h4, h5⟩ := Zdn hf
  have hj : j = k := by omega
  subst hj
  have hkey : (((entL ek ev 0 l).toArray[j]?).map (·.key)).getD (ek x) = ek x := by
   rw [List.getElem?_toArray, ZaT l 0 j hk']
   simp [h2]
  have hst : (Instr.keyThatStays (ek x) (ek x)).run P w = .ok (ek x) w := by
   unfold Instr.keyThatStays
   rw [if_pos (hk.same x)]
   rfl
  have hmod : (entL ek ev 0 l).toArray.modify j (fun e => { e with key := ek x }) = (entL ek ev 0 l).toArray := by
   apply Array.ext_getElem?
   intro i
   rw [Array.getElem?_modify]
   by_cases hij : j = i
   ·subst hij
    rw [List.getElem?_toArray, ZaT l 0 j hk']
    simp [h2]
   ·simp [hij]
  simp only [Sem.run_bind, hkey, hst, Result.andThen, hs, hmod, h3, h4, Option.getD_some, Sem.run_pure, goInt]
  rw [List.getElem?_toArray, ZaT l 0 j hk']
  simp [mapO]
theorem ZiZ (l : List (κ × α)) {j : Nat} (hj : j < l.length) : (entL ek ev 0 l).toArray.findIdx? (fun e => ((e.born : Nat) : Int) == ((j : Nat) : Int)) = some j := by
 rw [List.findIdx?_toArray, List.findIdx?_eq_some_iff_getElem]
 have hg : ∀ i (h : i < l.length), (entL ek ev 0 l)[i]'(by rw [Zbg]; exact h) = { key := ek l[i].1, val := ev l[i].2, born := i } := fun i h => by
  have := ZaT (ek := ek) (ev := ev) l 0 i h
  rw [List.getElem?_eq_getElem (by rw [Zbg]; exact h), Nat.zero_add] at this
  exact Option.some.inj this
 refine ⟨by rw [Zbg]; exact hj, by rw [hg j hj]; simp, fun i hi => ?_⟩
 rw [hg i (by omega)]
 simp
 omega
theorem modL (l : List (κ × α)) {j : Nat} (hj : j < l.length) (v : α) : (entL ek ev 0 l).toArray.modify j (fun e => { e with val := ev v }) = (entL ek ev 0 (l.set j (l[j].1, v))).toArray := by
 apply Array.ext_getElem?
 intro i
 rw [Array.getElem?_modify, List.getElem?_toArray, List.getElem?_toArray]
 rcases Nat.lt_or_ge i l.length with hi | hi
 ·rw [ZaT l 0 i hi, ZaT (l.set j (l[j].1, v)) 0 i (by simpa using hi)]
  by_cases hij : j = i
  ·subst hij
   simp
  ·simp [hij, List.getElem_set_ne hij]
 ·rw [List.getElem?_eq_none (by rw [Zbg]; exact hi), List.getElem?_eq_none (by rw [Zbg, List.length_set]; exact hi)]
  simp
theorem Zsg {x : κ} {z0 : α} (hb : w.heap[b]? = some (mapO ek ev (entM l x z0))) (v : α) : (Instr.entryStore T (.map (some b)) (.int .i64 (slotL ev l x : Nat)) (ev v)).run P w = .ok () (setBlock w b (mapO ek ev (mput l x v))) := by
 have key : slotL ev l x < (entM l x z0).length ∧ ∀ h : slotL ev l x < (entM l x z0).length, (entM l x z0).set (slotL ev l x) ((entM l x z0)[slotL ev l x].1, v) = mput l x v := by
  unfold slotL entM
  cases hf : fnd ev l x 0 with
  | none =>
   obtain ⟨h1, h2⟩ := ZdB hf
   simp only [h1, h2 v]
   refine ⟨by simp, fun h => ?_⟩
   rw [List.set_append_right _ _ (Nat.le_refl _)]
   simp
  | some q =>
   obtain ⟨j, u⟩ := q
   obtain ⟨k, hk', h1, h2, h3, h4, h5⟩ := Zdn hf
   have hj : j = k := by omega
   subst hj
   simp only [h3, h5 v]
   exact ⟨hk', fun h => by rw [h2]⟩
 obtain ⟨k1, k2⟩ := key
 have hg : (getObj b).run P w = .ok (.map (entL ek ev 0 (entM l x z0)).toArray (entM l x z0).length) w := by simp [getObj, Sem.run, hb, mapO]
 have hs : ∀ o, (setObj b o).run P w = .ok () (setBlock w b o) := fun o => by simp [setObj, Sem.run, hb, setBlock, mapO]
 have ha : (asInt (.int .i64 (slotL ev l x : Nat))).run P w = .ok ((slotL ev l x : Nat) : Int) w := rfl
 unfold Instr.entryStore
 simp only [Sem.run_bind, Result.andThen, hg, ha, ZiZ _ k1, hs, modL _ k1, k2 k1]
 simp only [mapO]
 rw [← k2 k1, List.length_set]
end
section
variable {P : Program} {w0 : World} {n : Nat} {ops : Array Oper} {L L' : List Blk} {E : Env}
variable {Q : Exit → Act → World → Prop} {rest : List Oper}
variable {ty : TypeId} {pos : String} {aft : Array Edge} {gd : Option (Nat × Bool)} {t : Tmp}
variable {x y k : Operand} {T T0 K V : TypeId} {b : Nat}
variable {κ α : Type} [DecidableEq κ] {ek : κ → Value} {ev : α → Value} {l : List (κ × α)}
variable {Kk : Env → List Blk → Prop} {Lw : List Blk} {kv yv : Value} {k0 : κ} {v0 z0 : α}
theorem sMi [hx : IsC (evl E x) (.map (some b))] [hk : IsC (evl E k) kv] [hy : IsC (evl E y) yv] [hm : MemO b L (mapO ek ev l) T0] [hT : UndC P T (.map K V)] [hK : KeyC P K ek] [hkv : KeyV ek kv k0] [hyv : KeyV ev yv v0] [hu : UpdO b (mapO ek ev (mput l k0 v0)) L (mapO ek ev l) T0 L'] (hg : guardB ops E gd = some true)
  (h : JO P w0 n ops Q rest E L') : JO P w0 n ops Q (⟨none, .insert T x k y, ty, pos, aft, gd⟩ :: rest) E L :=
 Zci (L' := Unit) (o := ⟨none, .insert T x k y, ty, pos, aft, gd⟩) hg rfl (fun _ => undef) (fun _ => L') (fun a w ha hw => by
  have e1 := ha.ev (isE (h := hx))
  have e2 := ha.ev (isE (h := hk))
  have e3 := ha.ev (isE (h := hy))
  have hb := (hw.mem _ hm.out).2
  refine ⟨(), _, .inr ⟨?_, rfl⟩, hw.turnO hu.out (ZbP hb (mapO ek ev (mput l k0 v0)))⟩
  simp only [execOp, e1, e2, e3, hkv.out, hyv.out, Sem.run_bind, Zf5 hT.out hb, Result.andThen, Sem.run_pure]) (fun _ => h)
theorem eMu [hx : IsC (evl E x) (.map (some b))] [hk : IsC (evl E k) kv] [hy : IsC (evl E y) yv] [hm : MemO b L (mapO ek ev l) T0] [hT : UndC P T (.map K V)] [hK : KeyC P K ek] [hkv : KeyV ek kv k0] [hyv : KeyV ev yv v0] [hu : UpdO b (mapO ek ev (mput l k0 v0)) L (mapO ek ev l) T0 L'] [hw' : SblC Lw L'] (hg : guardB ops E gd = some true)
  (h : JE P w0 n ops Lw Kk rest E L') : JE P w0 n ops Lw Kk (⟨none, .mapUpdate T x k y, ty, pos, aft, gd⟩ :: rest) E L :=
 Zcn (S := Unit) (o := ⟨none, .mapUpdate T x k y, ty, pos, aft, gd⟩) hg rfl (fun _ => undef) (fun _ => L') (fun a w ha hw => by
  have e1 := ha.ev (isE (h := hx))
  have e2 := ha.ev (isE (h := hk))
  have e3 := ha.ev (isE (h := hy))
  have hb := (hw.mem _ hm.out).2
  refine ⟨(), _, .inr ⟨?_, rfl⟩, hw.turnO hu.out (ZbP hb (mapO ek ev (mput l k0 v0)))⟩
  simp only [execOp, e1, e2, e3, hkv.out, hyv.out, Sem.run_bind, Zf5 hT.out hb, Result.andThen, Sem.run_pure]) (fun _ => Zaq hw'.out) (fun _ => h)
theorem eMe [hx : IsC (evl E x) (.map (some b))] [hk : IsC (evl E k) kv] [hm : MemO b L (mapO ek ev l) T0] [hT : UndC P T (.map K V)] [hK : KeyC P K ek] [hkv : KeyV ek kv k0] [hz : ZeV P V ev z0] [hu : UpdO b (mapO ek ev (entM l k0 z0)) L (mapO ek ev l) T0 L'] [hw' : SblC Lw L'] (hg : guardB ops E gd = some true) (hd : Nat.blt t n = true)
  (h : JE P w0 n ops Lw Kk rest ((t, .tuple #[ev ((mget l k0).getD z0), .int .i64 (slotL ev l k0 : Nat)]) :: E) L') : JE P w0 n ops Lw Kk (⟨some t, .mapEntry T x k, ty, pos, aft, gd⟩ :: rest) E L :=
 Zcn (S := Unit) (o := ⟨some t, .mapEntry T x k, ty, pos, aft, gd⟩) hg hd (fun _ => .tuple #[ev ((mget l k0).getD z0), .int .i64 (slotL ev l k0 : Nat)]) (fun _ => L') (fun a w ha hw => by
  have e1 := ha.ev (isE (h := hx))
  have e2 := ha.ev (isE (h := hk))
  have hb := (hw.mem _ hm.out).2
  refine ⟨(), _, .inl ?_, hw.turnO hu.out (ZbP hb (mapO ek ev (entM l k0 z0)))⟩
  simp only [execOp, e1, e2, hkv.out, Sem.run_bind, Zpz hT.out hz.out hb, Result.andThen, Sem.run_pure]) (fun _ => Zaq hw'.out) (fun _ => h)
theorem eEs [hx : IsC (evl E x) (.map (some b))] [hs : IsC (evl E k) (.int .i64 (slotL ev l k0 : Nat))] [hy : IsC (evl E y) yv] [hm : MemO b L (mapO ek ev (entM l k0 z0)) T0] [hyv : KeyV ev yv v0] [hu : UpdO b (mapO ek ev (mput l k0 v0)) L (mapO ek ev (entM l k0 z0)) T0 L'] [hw' : SblC Lw L'] (hg : guardB ops E gd = some true)
  (h : JE P w0 n ops Lw Kk rest E L') : JE P w0 n ops Lw Kk (⟨none, .entryStore T x k y, ty, pos, aft, gd⟩ :: rest) E L :=
 Zcn (S := Unit) (o := ⟨none, .entryStore T x k y, ty, pos, aft, gd⟩) hg rfl (fun _ => undef) (fun _ => L') (fun a w ha hw => by
  have e1 := ha.ev (isE (h := hx))
  have e2 := ha.ev (isE (h := hs))
  have e3 := ha.ev (isE (h := hy))
  have hb := (hw.mem _ hm.out).2
  refine ⟨(), _, .inr ⟨?_, rfl⟩, hw.turnO hu.out (ZbP hb (mapO ek ev (mput l k0 v0)))⟩
  simp only [execOp, e1, e2, e3, hyv.out, Sem.run_bind, Zsg hb, Result.andThen, Sem.run_pure]) (fun _ => Zaq hw'.out) (fun _ => h)
end
end Go.Vt
